/- The text of numbers: part, Text. Conditions: fewer than 2^20 bits. -/
import Derived.Test.YtohnlmfmpflbpaaGreatMDec
set_option linter.unusedSimpArgs false
set_option linter.unusedVariables false
set_option linter.all false
namespace Go.Proofs.YtohnlmfmpflbpaaGreat
open Go.RowKit

/-- The text of a fraction, of a number. -/
def partText (r : Rat) : List UInt8 := (if r.num < 0 then [45] else []) ++ (dec r.num.natAbs ++ (if r.den = 1 then [] else 47 :: dec r.den))
def numText (x : CQ) : List UInt8 :=
  if x.im = 0 then partText x.re else if x.re = 0 then partText x.im ++ [105] else partText x.re ++ ((if x.im < 0 then [] else [43]) ++ (partText x.im ++ [105]))

theorem low_rat {a : Int} {d : Nat} (h : Low a 0 d) : ((a : Rat) / ((d : Int) : Rat)).num = a ∧ ((a : Rat) / ((d : Int) : Rat)).den = d := by
  have hc : Nat.Coprime a.natAbs d := by
    have := h.2
    simpa [Nat.Coprime] using this
  have hd : d ≠ 0 := by have := h.1; omega
  have e := Rat.num_divInt_den ⟨a, d, hd, hc⟩
  rw [Rat.divInt_eq_div] at e
  rw [e]
  exact ⟨rfl, rfl⟩

theorem dec_length {n k : Nat} (h : n < 2 ^ k) : (dec n).length ≤ k + 1 := by
  unfold dec
  split
  · simp
  · rw [List.length_reverse]; have := decRev_length k n h; omega

theorem str_app (x y : List UInt8) : (ByteArray.mk x.toArray ++ ByteArray.mk y.toArray) = ByteArray.mk (x ++ y).toArray := ByteArray.mk_append_mk x y

theorem part_text {A : Int} {D : Nat} {r : Rat} {t : Bool} {z : Nat} (h : r.num = A ∧ r.den = D) (ht : t = true ↔ A < 0) (hz : z = 0 ↔ D = 1) :
    (t = true → z = 0 → ByteArray.mk (partText r).toArray = ⟨#[45]⟩ ++ ⟨(dec A.natAbs).toArray⟩) ∧ (t = true → z ≠ 0 → ByteArray.mk (partText r).toArray = (⟨#[45]⟩ ++ ⟨(dec A.natAbs).toArray⟩) ++ (⟨#[47]⟩ ++ ⟨(dec D).toArray⟩)) ∧
    (t = false → z = 0 → ByteArray.mk (partText r).toArray = ⟨(dec A.natAbs).toArray⟩) ∧ (t = false → z ≠ 0 → ByteArray.mk (partText r).toArray = ⟨(dec A.natAbs).toArray⟩ ++ (⟨#[47]⟩ ++ ⟨(dec D).toArray⟩)) := by
  obtain ⟨h1, h2⟩ := h
  unfold partText
  rw [h1, h2]
  have e45 : (⟨#[45]⟩ : ByteArray) = ⟨[45].toArray⟩ := rfl
  have e47 : (⟨#[47]⟩ : ByteArray) = ⟨[47].toArray⟩ := rfl
  rw [e45, e47]
  simp only [str_app]
  refine ⟨fun h3 h4 => ?_, fun h3 h4 => ?_, fun h3 h4 => ?_, fun h3 h4 => ?_⟩
  · rw [if_pos (ht.1 h3), if_pos (hz.1 h4)]; simp
  · rw [if_pos (ht.1 h3), if_neg (fun e => h4 (hz.2 e))]; simp
  · rw [if_neg (fun e => by rw [ht.2 e] at h3; cases h3), if_pos (hz.1 h4)]; simp
  · rw [if_neg (fun e => by rw [ht.2 e] at h3; cases h3), if_neg (fun e => h4 (hz.2 e))]; simp

set_option maxRecDepth 100000 in
set_option maxHeartbeats 800000 in
theorem part_spec (v u : Value) (a : Int) (d k : Nat) (w : World) (h : WholeRep w v a) (h' : NatRep w u d) (hd : 0 < d) (ha : a.natAbs < 2 ^ k) (hdk : d < 2 ^ k) (hk : k ≤ 1048576) :
    Calls Tryz.prog 51 #[v, u] w (Ret w fun _ v' => v' = .string ⟨(partText ((a : Rat) / ((d : Int) : Rat))).toArray⟩) := by
  obtain ⟨s1, a1, l1, c1, rfl, _, _⟩ := h.open
  have hsm : Small k (cq a 0 d) := small_mk hd ha (Nat.two_pow_pos k) hdk
  have Hsm := Lib.hid hsm
  have Hdk := Lib.hid hdk
  have Ha := Lib.hid ha
  clear hsm ha hdk
  go_enter Tryz.func51, Tryz.ntmps51
  go_upto_region 1 with (fail)
  obtain ⟨W, hW, o1, hB, hS⟩ := boxes1 w 68 [.bool s1, .slice a1 l1 c1]
  rw [← hW]
  clear hW
  have fo1 := o1.free; have co10 := o1.cell 0 _ rfl; have co11 := o1.cell 1 _ rfl
  have h := h.below hB (Nat.le_refl _); have h' := h'.below hB (Nat.le_refl _)
  go_wp2_with fail
  refine (over_spec _ _ _ a 0 d k W h whole_zero h' hd Ha.out (Nat.two_pow_pos k) Hdk.out (by omega)).mono ?_
  rintro e W1 ⟨u8, rfl, hu8, hb1⟩
  obtain ⟨A, B, D, t1, t2, p1, p2, p3, m1, n1, m2, n2, m3, n3, rfl, wA, wB, tri, low, hx, -, lb, ld, nd⟩ := hu8.all
  have hsW1 : W.heap.size ≤ W1.heap.size := hb1.size; have hB := hB.trans (hb1.mono hB.size)
  obtain ⟨y1, y2, y3, y4, ey, _, hsg⟩ := wA.open
  simp only [Value.agg.injEq, Array.mk.injEq, List.cons.injEq, and_true, Value.bool.injEq] at ey
  obtain ⟨rfl, -⟩ := ey
  obtain rfl : B = 0 := by
    have e := congrArg CQ.im hx
    have e0 : (cq a 0 d).im = 0 := (im_zero hd).2 rfl
    rw [e0] at e
    exact (im_zero low.1).1 e.symm
  have hre : (a : Rat) / ((d : Int) : Rat) = (A : Rat) / ((D : Int) : Rat) := congrArg CQ.re hx
  have hpt := part_text (r := (a : Rat) / ((d : Int) : Rat)) (by rw [hre]; exact low_rat low) hsg ld
  have hsml := Hsm.out
  rw [hx] at hsml
  obtain ⟨hA, _, hD⟩ := hsml.low low
  have nA : NatRep W1 (.slice p1 m1 n1) A.natAbs := by
    obtain ⟨m, e, hm⟩ := wA
    simp only [Value.agg.injEq, Array.mk.injEq, List.cons.injEq, and_true] at e
    rw [e.2]; exact hm
  have HA := Lib.hid hA
  have HD := Lib.hid hD
  have Hpt := Lib.hid hpt
  have Hld := Lib.hid ld
  clear hsg ld hpt hre hx hsml hA hD wA wB hu8
  go_upto_region 2 with (fail)
  obtain ⟨V, hV, o5, hBV, hSV⟩ := boxes1 W1 70 [.bool t1, .slice p1 m1 n1, .bool t2, .slice p2 m2 n2, .slice p3 m3 n3]
  rw [← hV]
  clear hV
  have hB := hB.trans (hBV.mono hB.size)
  have nA := nA.below hBV (Nat.le_refl _); have nd := nd.below hBV (Nat.le_refl _)
  have fo5 := o5.free; have co50 := o5.cell 0 _ rfl; have co51 := o5.cell 1 _ rfl; have co52 := o5.cell 2 _ rfl; have co53 := o5.cell 3 _ rfl; have co54 := o5.cell 4 _ rfl
  go_wp2_with fail
  refine (digits_spec _ A.natAbs k V nA HA.out hk).mono ?_
  rintro e W2 ⟨_, rfl, rfl, hb2⟩
  have hz1 : (ByteArray.mk (dec A.natAbs).toArray).size ≤ 1048578 := by
    have := dec_length HA.out
    show (dec A.natAbs).toArray.size ≤ _
    rw [List.size_toArray]; omega
  have HP := Hpt.out
  generalize ByteArray.mk (dec A.natAbs).toArray = sa at *
  have Hp := Lib.hid HP
  clear HP Hpt co50 co51 co52 co53 co54 fo5
  have hsW2 : V.heap.size ≤ W2.heap.size := hb2.size; have hB := hB.trans (hb2.mono hB.size); have o5 := o5.below hb2 o5.lt; have nd := nd.below hb2 (Nat.le_refl _); have fo5 := o5.free; have co50 := o5.cell 0 _ rfl; have co51 := o5.cell 1 _ rfl; have co52 := o5.cell 2 _ rfl; have co53 := o5.cell 3 _ rfl; have co54 := o5.cell 4 _ rfl
  by_cases hm0 : m3 = 0
  · cases t1
    · have hf := Hp.out.2.2.1 rfl hm0
      have HF := Lib.hid hf
      subst hm0
      clear hf
      go_wp2_with fail
      go_ret
      exact ⟨_, rfl, congrArg Value.string HF.out.symm, hB⟩
    · have hf := Hp.out.1 rfl hm0
      have HF := Lib.hid hf
      subst hm0
      clear hf
      go_wp2_with fail
      go_ret
      exact ⟨_, rfl, congrArg Value.string HF.out.symm, hB⟩
  · have hD1 : D ≠ 1 := fun e => hm0 (Hld.out.2 e)
    rw [if_neg hD1] at nd
    have hm1 : 0 < m3 := by omega
    have hz2 : (ByteArray.mk (dec D).toArray).size ≤ 1048578 := by
      have := dec_length HD.out
      show (dec D).toArray.size ≤ _
      rw [List.size_toArray]; omega
    cases t1
    · have hf := Hp.out.2.2.2 rfl hm0
      have HF := Lib.hid hf
      have HM := Lib.hid hm0
      clear hf hm0 hD1
      go_wp2_with fail
      refine (digits_spec _ D k W2 nd HD.out hk).mono ?_
      rintro e W3 ⟨_, rfl, rfl, hb3⟩
      have HF := HF.out
      generalize ByteArray.mk (dec D).toArray = sb at *
      have HF := Lib.hid HF
      go_wp2_with fail
      go_ret
      exact ⟨_, rfl, congrArg Value.string HF.out.symm, hB.trans (hb3.mono hB.size)⟩
    · have hf := Hp.out.2.1 rfl hm0
      have HF := Lib.hid hf
      have HM := Lib.hid hm0
      clear hf hm0 hD1
      go_wp2_with fail
      refine (digits_spec _ D k W2 nd HD.out hk).mono ?_
      rintro e W3 ⟨_, rfl, rfl, hb3⟩
      have HF := HF.out
      generalize ByteArray.mk (dec D).toArray = sb at *
      have HF := Lib.hid HF
      go_wp2_with fail
      go_ret
      exact ⟨_, rfl, congrArg Value.string HF.out.symm, hB.trans (hb3.mono hB.size)⟩

theorem partText_length {a : Int} {d k : Nat} (h : 0 < d) (ha : a.natAbs < 2 ^ k) (hd : d < 2 ^ k) : (partText ((a : Rat) / ((d : Int) : Rat))).length ≤ 2 * k + 4 := by
  obtain ⟨g, hg⟩ : ∃ g, Nat.gcd (Nat.gcd a.natAbs (0 : Int).natAbs) d = g := ⟨_, rfl⟩
  obtain ⟨low, e⟩ := cq_div (b := 0) h hg
  have hs : Small k (cq a 0 d) := small_mk h ha (Nat.two_pow_pos k) hd
  rw [e, Int.zero_ediv] at hs
  rw [Int.zero_ediv] at low
  obtain ⟨h1, _, h3⟩ := hs.low low
  have er := congrArg CQ.re e
  have er2 : (a : Rat) / ((d : Int) : Rat) = ((a / g : Int) : Rat) / (((d / g : Nat) : Int) : Rat) := er
  obtain ⟨e1, e2⟩ := low_rat low
  unfold partText
  rw [er2, e1, e2, List.length_append, List.length_append]
  have l1 := dec_length h1
  have l2 := dec_length h3
  have l3 : (if (a / g : Int) < 0 then [45] else ([] : List UInt8)).length ≤ 1 := by split <;> simp
  have l4 : (if d / g = 1 then [] else (47 : UInt8) :: dec (d / g)).length ≤ k + 2 := by
    split
    · simp
    · rw [List.length_cons]; omega
  omega

theorem num_text {x : CQ} : (x.im = 0 → ByteArray.mk (numText x).toArray = ⟨(partText x.re).toArray⟩) ∧ (x.im ≠ 0 → x.re = 0 → ByteArray.mk (numText x).toArray = ⟨(partText x.im).toArray⟩ ++ ⟨#[105]⟩) ∧
    (x.im ≠ 0 → x.re ≠ 0 → x.im < 0 → ByteArray.mk (numText x).toArray = ⟨(partText x.re).toArray⟩ ++ (⟨(partText x.im).toArray⟩ ++ ⟨#[105]⟩)) ∧
    (x.im ≠ 0 → x.re ≠ 0 → ¬ x.im < 0 → ByteArray.mk (numText x).toArray = ⟨(partText x.re).toArray⟩ ++ (⟨#[43]⟩ ++ (⟨(partText x.im).toArray⟩ ++ ⟨#[105]⟩))) := by
  have e45 : (⟨#[105]⟩ : ByteArray) = ⟨[105].toArray⟩ := rfl
  have e47 : (⟨#[43]⟩ : ByteArray) = ⟨[43].toArray⟩ := rfl
  rw [e45, e47]
  unfold numText
  simp only [str_app]
  refine ⟨fun h1 => ?_, fun h1 h2 => ?_, fun h1 h2 h3 => ?_, fun h1 h2 h3 => ?_⟩
  · rw [if_pos h1]
  · rw [if_neg h1, if_pos h2]
  · rw [if_neg h1, if_neg h2, if_pos h3, List.nil_append]
  · rw [if_neg h1, if_neg h2, if_neg h3]

theorem im_neg {a b : Int} {d : Nat} (h : 0 < d) : (cq a b d).im < 0 ↔ b < 0 := by
  have := ratio_lt (a := b) (A := 0) h (show 0 < 1 by omega)
  have e : ((0 : Int) : Rat) / (((1 : Nat) : Int) : Rat) = 0 := by rw [Rat.div_def]; simp
  rw [e] at this
  show (b : Rat) / _ < 0 ↔ _
  rw [this]; omega

set_option maxRecDepth 100000 in
set_option maxHeartbeats 1600000 in
theorem text_spec (v : Value) (x : CQ) (k : Nat) (w : World) (h : NumRep w v x) (hs : Small k x) (hk : k ≤ 1048576) :
    Calls Tryz.prog 24 #[v] w (Ret w fun _ v' => v' = .string ⟨(numText x).toArray⟩) := by
  obtain ⟨a, b, d, s1, s2, a1, a2, a3, l1, c1, l2, c2, l3, c3, rfl, wa, wb, tri, low, rfl, la, lb, -, -⟩ := h.all
  obtain ⟨hs1, hs2, hs3⟩ := hs.low low
  have HT := Lib.hid (num_text (x := cq a b d))
  have hzr : (ByteArray.mk (partText (cq a b d).re).toArray).size ≤ 2097160 := by
    have := partText_length low.1 hs1 hs3
    show (partText (cq a b d).re).toArray.size ≤ _
    rw [List.size_toArray]; show (partText ((a : Rat) / ((d : Int) : Rat))).length ≤ _; omega
  have hzi : (ByteArray.mk (partText (cq a b d).im).toArray).size ≤ 2097160 := by
    have := partText_length low.1 hs2 hs3
    show (partText (cq a b d).im).toArray.size ≤ _
    rw [List.size_toArray]; show (partText ((b : Rat) / ((d : Int) : Rat))).length ≤ _; omega
  have hRe : ∀ v u w, WholeRep w v a → NatRep w u d → Calls Tryz.prog 51 #[v, u] w (Ret w fun _ v' => v' = .string ⟨(partText (cq a b d).re).toArray⟩) := fun v u w h h' => part_spec v u a d k w h h' low.1 hs1 hs3 hk
  have hIm : ∀ v u w, WholeRep w v b → NatRep w u d → Calls Tryz.prog 51 #[v, u] w (Ret w fun _ v' => v' = .string ⟨(partText (cq a b d).im).toArray⟩) := fun v u w h h' => part_spec v u b d k w h h' low.1 hs2 hs3 hk
  have hi0 := im_zero (a := a) (b := b) low.1
  have hr0 := re_zero (a := a) (b := b) low.1
  have hin := im_neg (a := a) (b := b) low.1
  obtain ⟨_, _, _, _, ey, _, hsg⟩ := wb.open
  simp only [Value.agg.injEq, Array.mk.injEq, List.cons.injEq, and_true, Value.bool.injEq] at ey
  obtain ⟨rfl, -⟩ := ey
  obtain ⟨r, hr⟩ : ∃ r, r = decide ((cq a b d).im = 0) := ⟨_, rfl⟩
  have hreal := fun w (hw : NumRep w (.agg #[.bool s1, .slice a1 l1 c1, .bool s2, .slice a2 l2 c2, .slice a3 l3 c3]) (cq a b d)) => real_spec _ _ w hw
  simp only [← hr] at hreal
  generalize hxs : cq a b d = X at *
  generalize ByteArray.mk (partText X.re).toArray = sr at *
  generalize ByteArray.mk (partText X.im).toArray = si at *
  have HRe := Lib.hid hRe
  have HIm := Lib.hid hIm
  have HReal := Lib.hid hreal
  have HT := Lib.hid HT.out
  have HI0 := Lib.hid hi0
  have HR0 := Lib.hid hr0
  have HIN := Lib.hid hin
  have Hr := Lib.hid hr
  have Hsg := Lib.hid hsg
  have Hla := Lib.hid la
  have Hlb := Lib.hid lb
  clear hRe hIm hreal hi0 hr0 hin hr hsg la lb hs hxs hs1 hs2 hs3
  go_enter Tryz.func24, Tryz.ntmps24
  go_upto_region 1 with (fail)
  obtain ⟨W, hW, o1, hB, hS⟩ := boxes1 w 70 [.bool s1, .slice a1 l1 c1, .bool s2, .slice a2 l2 c2, .slice a3 l3 c3]
  rw [← hW]
  clear hW
  have h := h.below hB (Nat.le_refl _); have wa := wa.below hB (Nat.le_refl _); have wb := wb.below hB (Nat.le_refl _); have tri := tri.below hB (Nat.le_refl _)
  have fo1 := o1.free; have co10 := o1.cell 0 _ rfl; have co11 := o1.cell 1 _ rfl; have co12 := o1.cell 2 _ rfl; have co13 := o1.cell 3 _ rfl; have co14 := o1.cell 4 _ rfl
  go_wp2_with fail
  refine (HReal.out W h).mono ?_
  rintro e W1 ⟨_, rfl, rfl, hb1⟩
  clear co10 co11 co12 co13 co14 fo1
  have hsW1 : W.heap.size ≤ W1.heap.size := hb1.size; have hB := hB.trans (hb1.mono hB.size); have o1 := o1.below hb1 o1.lt; have wa := wa.below hb1 (Nat.le_refl _); have wb := wb.below hb1 (Nat.le_refl _); have tri := tri.below hb1 (Nat.le_refl _)
  clear h
  by_cases him : X.im = 0
  · obtain rfl : r = true := by rw [Hr.out]; simp [him]
    have HF := Lib.hid (HT.out.1 him)
    clear him
    go_wp2_with fail
    have qo10 := o1.cell 0 _ rfl; have qo11 := o1.cell 1 _ rfl; have qo12 := o1.cell 2 _ rfl; have qo13 := o1.cell 3 _ rfl; have qo14 := o1.cell 4 _ rfl
    have o1 : Own W1.drew _ _ _ := o1; have lto1 : _ < W1.heap.size := o1.lt; have hB := hB.drew
    have wa := wa.below ((Below.refl W1.heap.size W1).drew) (Nat.le_refl _); have tri := tri.below ((Below.refl W1.heap.size W1).drew) (Nat.le_refl _)
    have tok1 : True := trivial
    have tok2 : True := trivial
    go_region_held3 (fun w' => w'.cell? ⟨w.heap.size, 0, none⟩ = some (.bool s1) ∧ w'.cell? ⟨w.heap.size, 1, none⟩ = some (.slice a1 l1 c1) ∧ w'.cell? ⟨w.heap.size, 2, none⟩ = some (.bool s2) ∧ w'.cell? ⟨w.heap.size, 3, none⟩ = some (.slice a2 l2 c2) ∧ w'.cell? ⟨w.heap.size, 4, none⟩ = some (.slice a3 l3 c3)) (first | (with_reducible exact ⟨o1.cell 0 _ rfl, o1.cell 1 _ rfl, o1.cell 2 _ rfl, o1.cell 3 _ rfl, o1.cell 4 _ rfl⟩) | (simp [go_sem, qo10, qo11, qo12, qo13, qo14, lto1]; done))
      (first
        | (go_at_call 52; have _t := tok1; refine (den_spec _ a b d _ tri).mono ?_; rintro e W11 ⟨d1, rfl, hd1, hb1⟩; have hsW11 : W1.heap.size ≤ W11.heap.size := hb1.size; have hB := hB.trans (hb1.mono hB.size); have o1 := o1.below hb1 o1.lt; have lto1 := o1.lt; have qo10 := o1.cell 0 _ rfl; have qo11 := o1.cell 1 _ rfl; have qo12 := o1.cell 2 _ rfl; have qo13 := o1.cell 3 _ rfl; have qo14 := o1.cell 4 _ rfl; have wa := wa.below hb1 (Nat.le_refl _); have tri := tri.below hb1 (Nat.le_refl _); clear tok1 _t)
        | (go_at_call 51; have _t := tok2; refine (HRe.out _ _ _ wa hd1).mono ?_; rintro e W12 ⟨_, rfl, rfl, hb2⟩; have hsW12 : W11.heap.size ≤ W12.heap.size := hb2.size; have hB := hB.trans (hb2.mono hB.size); have o1 := o1.below hb2 o1.lt; have lto1 := o1.lt; have qo10 := o1.cell 0 _ rfl; have qo11 := o1.cell 1 _ rfl; have qo12 := o1.cell 2 _ rfl; have qo13 := o1.cell 3 _ rfl; have qo14 := o1.cell 4 _ rfl; have wa := wa.below hb2 (Nat.le_refl _); have tri := tri.below hb2 (Nat.le_refl _); have hd1 := hd1.below hb2 (Nat.le_refl _); clear tok2 _t))
    go_wp2_with fail
    go_ret
    exact ⟨_, rfl, congrArg Value.string HF.out.symm, hB⟩
  · obtain rfl : r = false := by rw [Hr.out]; simp [him]
    have Him := Lib.hid him
    clear him
    have hadd : ∀ w, (Op.stringOp .add si ⟨#[105]⟩).run Tryz.prog w = .ok (.string (si ++ ⟨#[105]⟩)) w := fun w => run_string_add_sum w _ _ (by show si.size + 1 ≤ _; omega)
    go_wp2_with fail
    have qo10 := o1.cell 0 _ rfl; have qo11 := o1.cell 1 _ rfl; have qo12 := o1.cell 2 _ rfl; have qo13 := o1.cell 3 _ rfl; have qo14 := o1.cell 4 _ rfl
    have o1 : Own W1.drew _ _ _ := o1; have lto1 : _ < W1.heap.size := o1.lt; have hB := hB.drew
    have wa := wa.below ((Below.refl W1.heap.size W1).drew) (Nat.le_refl _); have wb := wb.below ((Below.refl W1.heap.size W1).drew) (Nat.le_refl _); have tri := tri.below ((Below.refl W1.heap.size W1).drew) (Nat.le_refl _)
    have tok1 : True := trivial
    have tok2 : True := trivial
    go_region_held3 (fun w' => w'.cell? ⟨w.heap.size, 0, none⟩ = some (.bool s1) ∧ w'.cell? ⟨w.heap.size, 1, none⟩ = some (.slice a1 l1 c1) ∧ w'.cell? ⟨w.heap.size, 2, none⟩ = some (.bool s2) ∧ w'.cell? ⟨w.heap.size, 3, none⟩ = some (.slice a2 l2 c2) ∧ w'.cell? ⟨w.heap.size, 4, none⟩ = some (.slice a3 l3 c3)) (first | (with_reducible exact ⟨o1.cell 0 _ rfl, o1.cell 1 _ rfl, o1.cell 2 _ rfl, o1.cell 3 _ rfl, o1.cell 4 _ rfl⟩) | (simp [go_sem, qo10, qo11, qo12, qo13, qo14, lto1]; done))
      (first
        | (go_at_call 52; have _t := tok1; refine (den_spec _ a b d _ tri).mono ?_; rintro e W11 ⟨d1, rfl, hd1, hb1⟩; have hsW11 : W1.heap.size ≤ W11.heap.size := hb1.size; have hB := hB.trans (hb1.mono hB.size); have o1 := o1.below hb1 o1.lt; have lto1 := o1.lt; have qo10 := o1.cell 0 _ rfl; have qo11 := o1.cell 1 _ rfl; have qo12 := o1.cell 2 _ rfl; have qo13 := o1.cell 3 _ rfl; have qo14 := o1.cell 4 _ rfl; have wa := wa.below hb1 (Nat.le_refl _); have wb := wb.below hb1 (Nat.le_refl _); have tri := tri.below hb1 (Nat.le_refl _); clear tok1 _t)
        | (go_at_call 51; have _t := tok2; refine (HIm.out _ _ _ wb hd1).mono ?_; rintro e W12 ⟨_, rfl, rfl, hb2⟩; have hsW12 : W11.heap.size ≤ W12.heap.size := hb2.size; have hB := hB.trans (hb2.mono hB.size); have o1 := o1.below hb2 o1.lt; have lto1 := o1.lt; have qo10 := o1.cell 0 _ rfl; have qo11 := o1.cell 1 _ rfl; have qo12 := o1.cell 2 _ rfl; have qo13 := o1.cell 3 _ rfl; have qo14 := o1.cell 4 _ rfl; have wa := wa.below hb2 (Nat.le_refl _); have wb := wb.below hb2 (Nat.le_refl _); have tri := tri.below hb2 (Nat.le_refl _); have hd1 := hd1.below hb2 (Nat.le_refl _); have fo1 := o1.free; have co10 := o1.cell 0 _ rfl; have co11 := o1.cell 1 _ rfl; have co12 := o1.cell 2 _ rfl; have co13 := o1.cell 3 _ rfl; have co14 := o1.cell 4 _ rfl; clear tok2 _t))
    by_cases hre : X.re = 0
    · obtain rfl : l1 = 0 := Hla.out.2 (HR0.out.1 hre)
      have HF := Lib.hid (HT.out.2.1 Him.out hre)
      clear hre
      go_wp2_with fail
      go_ret
      exact ⟨_, rfl, congrArg Value.string HF.out.symm, hB⟩
    · have hl1 : ((l1 : Int) == 0) = false := by
        have : l1 ≠ 0 := fun e => hre (HR0.out.2 (Hla.out.1 e))
        simp; omega
      by_cases hneg : X.im < 0
      · obtain rfl : s2 = true := Hsg.out.2 (HIN.out.1 hneg)
        have HF := Lib.hid (HT.out.2.2.1 Him.out hre hneg)
        have hadd2 : ∀ w, (Op.stringOp .add sr (si ++ ⟨#[105]⟩)).run Tryz.prog w = .ok (.string (sr ++ (si ++ ⟨#[105]⟩))) w := fun w => run_string_add_sum w _ _ (by rw [ByteArray.size_append]; show sr.size + (si.size + 1) ≤ _; omega)
        clear hre hneg hadd
        go_wp2_with fail
        have qo10 := o1.cell 0 _ rfl; have qo11 := o1.cell 1 _ rfl; have qo12 := o1.cell 2 _ rfl; have qo13 := o1.cell 3 _ rfl; have qo14 := o1.cell 4 _ rfl
        have o1 : Own W12.drew _ _ _ := o1; have lto1 : _ < W12.heap.size := o1.lt; have hB := hB.drew
        have wa := wa.below ((Below.refl W12.heap.size W12).drew) (Nat.le_refl _); have tri := tri.below ((Below.refl W12.heap.size W12).drew) (Nat.le_refl _)
        have tok1 : True := trivial
        have tok2 : True := trivial
        go_region_held3 (fun w' => w'.cell? ⟨w.heap.size, 0, none⟩ = some (.bool s1) ∧ w'.cell? ⟨w.heap.size, 1, none⟩ = some (.slice a1 l1 c1) ∧ w'.cell? ⟨w.heap.size, 2, none⟩ = some (.bool true) ∧ w'.cell? ⟨w.heap.size, 3, none⟩ = some (.slice a2 l2 c2) ∧ w'.cell? ⟨w.heap.size, 4, none⟩ = some (.slice a3 l3 c3)) (first | (with_reducible exact ⟨o1.cell 0 _ rfl, o1.cell 1 _ rfl, o1.cell 2 _ rfl, o1.cell 3 _ rfl, o1.cell 4 _ rfl⟩) | (simp [go_sem, qo10, qo11, qo12, qo13, qo14, lto1]; done))
          (first
            | (go_at_call 52; have _t := tok1; refine (den_spec _ a b d _ tri).mono ?_; rintro e W121 ⟨d1, rfl, hd1, hb1⟩; have hsW121 : W12.heap.size ≤ W121.heap.size := hb1.size; have hB := hB.trans (hb1.mono hB.size); have o1 := o1.below hb1 o1.lt; have lto1 := o1.lt; have qo10 := o1.cell 0 _ rfl; have qo11 := o1.cell 1 _ rfl; have qo12 := o1.cell 2 _ rfl; have qo13 := o1.cell 3 _ rfl; have qo14 := o1.cell 4 _ rfl; have wa := wa.below hb1 (Nat.le_refl _); have tri := tri.below hb1 (Nat.le_refl _); clear tok1 _t)
            | (go_at_call 51; have _t := tok2; refine (HRe.out _ _ _ wa hd1).mono ?_; rintro e W122 ⟨_, rfl, rfl, hb2⟩; have hsW122 : W121.heap.size ≤ W122.heap.size := hb2.size; have hB := hB.trans (hb2.mono hB.size); have o1 := o1.below hb2 o1.lt; have lto1 := o1.lt; have qo10 := o1.cell 0 _ rfl; have qo11 := o1.cell 1 _ rfl; have qo12 := o1.cell 2 _ rfl; have qo13 := o1.cell 3 _ rfl; have qo14 := o1.cell 4 _ rfl; have wa := wa.below hb2 (Nat.le_refl _); have tri := tri.below hb2 (Nat.le_refl _); have hd1 := hd1.below hb2 (Nat.le_refl _); clear tok2 _t))
        go_wp2_with fail
        go_ret
        exact ⟨_, rfl, congrArg Value.string HF.out.symm, hB⟩
      · obtain rfl : s2 = false := by
          cases s2
          · rfl
          · exact absurd (HIN.out.2 (Hsg.out.1 rfl)) hneg
        have HF := Lib.hid (HT.out.2.2.2 Him.out hre hneg)
        have hadd2 : ∀ w, (Op.stringOp .add sr (⟨#[43]⟩ ++ (si ++ ⟨#[105]⟩))).run Tryz.prog w = .ok (.string (sr ++ (⟨#[43]⟩ ++ (si ++ ⟨#[105]⟩)))) w := fun w => run_string_add_sum w _ _ (by rw [ByteArray.size_append, ByteArray.size_append]; show sr.size + (1 + (si.size + 1)) ≤ _; omega)
        clear hre hneg hadd
        go_wp2_with fail
        have qo10 := o1.cell 0 _ rfl; have qo11 := o1.cell 1 _ rfl; have qo12 := o1.cell 2 _ rfl; have qo13 := o1.cell 3 _ rfl; have qo14 := o1.cell 4 _ rfl
        have o1 : Own W12.drew _ _ _ := o1; have lto1 : _ < W12.heap.size := o1.lt; have hB := hB.drew
        have wa := wa.below ((Below.refl W12.heap.size W12).drew) (Nat.le_refl _); have tri := tri.below ((Below.refl W12.heap.size W12).drew) (Nat.le_refl _)
        have tok1 : True := trivial
        have tok2 : True := trivial
        go_region_held3 (fun w' => w'.cell? ⟨w.heap.size, 0, none⟩ = some (.bool s1) ∧ w'.cell? ⟨w.heap.size, 1, none⟩ = some (.slice a1 l1 c1) ∧ w'.cell? ⟨w.heap.size, 2, none⟩ = some (.bool false) ∧ w'.cell? ⟨w.heap.size, 3, none⟩ = some (.slice a2 l2 c2) ∧ w'.cell? ⟨w.heap.size, 4, none⟩ = some (.slice a3 l3 c3)) (first | (with_reducible exact ⟨o1.cell 0 _ rfl, o1.cell 1 _ rfl, o1.cell 2 _ rfl, o1.cell 3 _ rfl, o1.cell 4 _ rfl⟩) | (simp [go_sem, qo10, qo11, qo12, qo13, qo14, lto1]; done))
          (first
            | (go_at_call 52; have _t := tok1; refine (den_spec _ a b d _ tri).mono ?_; rintro e W121 ⟨d1, rfl, hd1, hb1⟩; have hsW121 : W12.heap.size ≤ W121.heap.size := hb1.size; have hB := hB.trans (hb1.mono hB.size); have o1 := o1.below hb1 o1.lt; have lto1 := o1.lt; have qo10 := o1.cell 0 _ rfl; have qo11 := o1.cell 1 _ rfl; have qo12 := o1.cell 2 _ rfl; have qo13 := o1.cell 3 _ rfl; have qo14 := o1.cell 4 _ rfl; have wa := wa.below hb1 (Nat.le_refl _); have tri := tri.below hb1 (Nat.le_refl _); clear tok1 _t)
            | (go_at_call 51; have _t := tok2; refine (HRe.out _ _ _ wa hd1).mono ?_; rintro e W122 ⟨_, rfl, rfl, hb2⟩; have hsW122 : W121.heap.size ≤ W122.heap.size := hb2.size; have hB := hB.trans (hb2.mono hB.size); have o1 := o1.below hb2 o1.lt; have lto1 := o1.lt; have qo10 := o1.cell 0 _ rfl; have qo11 := o1.cell 1 _ rfl; have qo12 := o1.cell 2 _ rfl; have qo13 := o1.cell 3 _ rfl; have qo14 := o1.cell 4 _ rfl; have wa := wa.below hb2 (Nat.le_refl _); have tri := tri.below hb2 (Nat.le_refl _); have hd1 := hd1.below hb2 (Nat.le_refl _); clear tok2 _t))
        go_wp2_with fail
        go_ret
        exact ⟨_, rfl, congrArg Value.string HF.out.symm, hB⟩
end Go.Proofs.YtohnlmfmpflbpaaGreat
