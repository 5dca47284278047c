/- The text of the reference's numbers: half, Text. Conditions: fewer than 2^20 bits. The laws' Is and AreAll at equal numbers. Conditions: the numbers are below 2 to the 1048576. -/
import Derived.Test.YtpnfdlnhmhekeaaGreatMDec
import Derived.Test.YtpnfdlnhmhekeaaGreatMRQB
import Derived.Test.YtpnfdlnhmhekeaaGreatMRowL
set_option linter.all false
namespace Go.Proofs.YtpnfdlnhmhekeaaGreat
open Go.RowKit
theorem half_rat {a : Int} {d g : Nat} (hd : 0 < d) (hg : g = Nat.gcd a.natAbs d) : ((a : Rat) / ((d : Int) : Rat)).num = a / g ∧ ((a : Rat) / ((d : Int) : Rat)).den = d / g := by
  have hg' : Nat.gcd (Nat.gcd a.natAbs (0 : Int).natAbs) d = g := by simp [hg]
  obtain ⟨h1, h2⟩ := cq_div hd hg'
  rw [Int.zero_ediv] at h1 h2
  have e := congrArg CQ.re h2
  have e2 : (a : Rat) / ((d : Int) : Rat) = ((a / g : Int) : Rat) / (((d / g : Nat) : Int) : Rat) := e
  rw [e2]
  exact low_rat h1
def halfStr (t b : Bool) (sn sd : ByteArray) : ByteArray :=
  match t, b with
  | true, true => ⟨#[45]⟩ ++ sn
  | true, false => ((⟨#[45]⟩ ++ sn) ++ ⟨#[47]⟩) ++ sd
  | false, true => sn
  | false, false => (sn ++ ⟨#[47]⟩) ++ sd
theorem half_text {A : Int} {D : Nat} {r : Rat} {t b : Bool} (h : r.num = A ∧ r.den = D) (ht : t = true ↔ A < 0) (hb : b = decide (D = 1)) :
    ByteArray.mk (partText r).toArray = halfStr t b ⟨(dec A.natAbs).toArray⟩ ⟨(dec D).toArray⟩ := by
  obtain ⟨h1, h2⟩ := h
  unfold partText
  rw [h1, h2]
  have e45 : (⟨#[45]⟩ : ByteArray) = ⟨[45].toArray⟩ := rfl
  have e47 : (⟨#[47]⟩ : ByteArray) = ⟨[47].toArray⟩ := rfl
  unfold halfStr
  rw [e45, e47]
  simp only [str_app]
  have hD : b = true → D = 1 := fun e => by rw [hb] at e; simpa using e
  have hD' : b = false → D ≠ 1 := fun e => by rw [hb] at e; simpa using e
  cases t <;> cases b
  · rw [if_neg (fun e => by have := ht.2 e; cases this), if_neg (hD' rfl)]; simp
  · rw [if_neg (fun e => by have := ht.2 e; cases this), if_pos (hD rfl)]; simp
  · rw [if_pos (ht.1 rfl), if_neg (hD' rfl)]; simp
  · rw [if_pos (ht.1 rfl), if_pos (hD rfl)]; simp
set_option maxRecDepth 100000 in
set_option maxHeartbeats 1600000 in
theorem half_spec (v u : Value) (a : Int) (d k : Nat) (w : World) (h : WholeRep w v a) (h' : NatRep w u d) (hd : 0 < d) (ha : a.natAbs < 2 ^ k) (hdk : d < 2 ^ k) (hk : k ≤ 1048576) :
    Calls Tryz.prog 159 #[v, u] w (Ret w fun _ v' => v' = .string ⟨(partText ((a : Rat) / ((d : Int) : Rat))).toArray⟩) := by
  obtain ⟨s1, a1, l1, c1, rfl, _, hs1⟩ := h.open
  obtain ⟨-, na⟩ := h.sign
  obtain ⟨a3, l3, c3, rfl, _, _, _⟩ := h'.any
  obtain ⟨g, hg⟩ : ∃ g, g = Nat.gcd a.natAbs d := ⟨_, rfl⟩
  have hg0 : 0 < g := by rw [hg]; exact Nat.gcd_pos_of_pos_right _ hd
  have hgk : g < 2 ^ k := by rw [hg]; exact gcd_small ha hdk
  have hga : g ∣ a.natAbs := hg ▸ Nat.gcd_dvd_left _ _
  obtain ⟨hda, hds⟩ := div_abs hga
  have hqa : a.natAbs / g < 2 ^ k := Nat.lt_of_le_of_lt (Nat.div_le_self _ _) ha
  have hqd : d / g < 2 ^ k := Nat.lt_of_le_of_lt (Nat.div_le_self _ _) hdk
  obtain ⟨tb, htb⟩ : ∃ tb, tb = decide (d / g = 1) := ⟨_, rfl⟩
  have hT := half_text (t := s1) (half_rat hd hg) (by
    rw [hs1]
    have := hds hg0
    rw [decide_eq_decide] at this
    exact this.symm) htb
  rw [hda] at hT
  have hz1 : (ByteArray.mk (dec (a.natAbs / g)).toArray).size ≤ 1048577 := by
    have := dec_length hqa
    show (dec (a.natAbs / g)).toArray.size ≤ _
    rw [List.size_toArray]; omega
  have hz2 : (ByteArray.mk (dec (d / g)).toArray).size ≤ 1048577 := by
    have := dec_length hqd
    show (dec (d / g)).toArray.size ≤ _
    rw [List.size_toArray]; omega
  have hTn := fun v w (h : NatRep w v (a.natAbs / g)) => rtext_spec v (a.natAbs / g) k w h hqa hk
  have hTd := fun v w (h : NatRep w v (d / g)) => rtext_spec v (d / g) k w h hqd hk
  generalize ByteArray.mk (dec (a.natAbs / g)).toArray = sn at *
  generalize ByteArray.mk (dec (d / g)).toArray = sd at *
  have HT := Lib.hid hT
  have HTn := Lib.hid hTn
  have HTd := Lib.hid hTd
  have HG := Lib.hid hg
  have Hgk := Lib.hid hgk
  have Ha := Lib.hid ha
  have Hdk := Lib.hid hdk
  have Htb := Lib.hid htb
  have hadd1 : ∀ w, (Op.stringOp .add ⟨#[45]⟩ sn).run Tryz.prog w = .ok (.string (⟨#[45]⟩ ++ sn)) w := fun w => run_string_add_sum w _ _ (by show 1 + sn.size ≤ _; omega)
  have hadd2 : ∀ w, (Op.stringOp .add (⟨#[45]⟩ ++ sn) ⟨#[47]⟩).run Tryz.prog w = .ok (.string ((⟨#[45]⟩ ++ sn) ++ ⟨#[47]⟩)) w := fun w => run_string_add_sum w _ _ (by rw [ByteArray.size_append]; show 1 + sn.size + 1 ≤ _; omega)
  have hadd3 : ∀ w, (Op.stringOp .add ((⟨#[45]⟩ ++ sn) ++ ⟨#[47]⟩) sd).run Tryz.prog w = .ok (.string (((⟨#[45]⟩ ++ sn) ++ ⟨#[47]⟩) ++ sd)) w := fun w => run_string_add_sum w _ _ (by rw [ByteArray.size_append, ByteArray.size_append]; show 1 + sn.size + 1 + sd.size ≤ _; omega)
  have hadd4 : ∀ w, (Op.stringOp .add sn ⟨#[47]⟩).run Tryz.prog w = .ok (.string (sn ++ ⟨#[47]⟩)) w := fun w => run_string_add_sum w _ _ (by show sn.size + 1 ≤ _; omega)
  have hadd5 : ∀ w, (Op.stringOp .add (sn ++ ⟨#[47]⟩) sd).run Tryz.prog w = .ok (.string ((sn ++ ⟨#[47]⟩) ++ sd)) w := fun w => run_string_add_sum w _ _ (by rw [ByteArray.size_append]; show sn.size + 1 + sd.size ≤ _; omega)
  clear hT hTn hTd hg hgk hga ha hdk hda hds hqa hqd htb hs1
  go_enter Tryz.func159, Tryz.ntmps159
  go_upto_region 1 with (fail)
  obtain ⟨W, hW, o1, hB, hS⟩ := boxes1 w 55 [.bool s1, .slice a1 l1 c1]
  rw [← hW]
  clear hW
  have k1 := na.below hB (Nat.le_refl _)
  have k3 := h'.below hB (Nat.le_refl _)
  clear h h' na
  have fo1 := o1.free; have co10 := o1.cell 0 _ rfl; have co11 := o1.cell 1 _ rfl
  go_wp2_with fail
  refine (rgcd_spec _ _ a.natAbs d k W k1 k3 Ha.out Hdk.out (by omega)).mono ?_
  rintro e W1 ⟨v1, rfl, hv1, hb1⟩
  rw [← HG.out] at hv1
  clear co10 co11 fo1
  have hsW1 : W.heap.size ≤ W1.heap.size := hb1.size; have hB := hB.trans (hb1.mono hB.size); have o1 := o1.below hb1 o1.lt; have k1 := k1.below hb1 (Nat.le_refl _); have k3 := k3.below hb1 (Nat.le_refl _); have fo1 := o1.free; have co10 := o1.cell 0 _ rfl; have co11 := o1.cell 1 _ rfl
  go_wp2_with fail
  refine (rdiv_spec _ _ a.natAbs g k W1 k1 hv1 hg0 Ha.out (by omega)).mono ?_
  rintro e W2 ⟨_, rfl, ⟨q1, r1, rfl, hq1, _⟩, hb2⟩
  clear co10 co11 fo1
  have hsW2 : W1.heap.size ≤ W2.heap.size := hb2.size; have hB := hB.trans (hb2.mono hB.size); have o1 := o1.below hb2 o1.lt; have k3 := k3.below hb2 (Nat.le_refl _); have hv1 := hv1.below hb2 (Nat.le_refl _); have fo1 := o1.free; have co10 := o1.cell 0 _ rfl; have co11 := o1.cell 1 _ rfl
  go_wp2_with fail
  refine (rdiv_spec _ _ d g k W2 k3 hv1 hg0 Hdk.out (by omega)).mono ?_
  rintro e W3 ⟨_, rfl, ⟨q2, r2, rfl, hq2, _⟩, hb3⟩
  clear co10 co11 fo1 k1
  have hsW3 : W2.heap.size ≤ W3.heap.size := hb3.size; have hB := hB.trans (hb3.mono hB.size); have o1 := o1.below hb3 o1.lt; have hq1 := hq1.below hb3 (Nat.le_refl _)
  go_wp2_with fail
  refine (HTn.out _ W3 hq1).mono ?_
  rintro e W4 ⟨_, rfl, rfl, hb4⟩
  have hsW4 : W3.heap.size ≤ W4.heap.size := hb4.size; have hB := hB.trans (hb4.mono hB.size); have o1 := o1.below hb4 o1.lt; have hq2 := hq2.below hb4 (Nat.le_refl _); have fo1 := o1.free; have co10 := o1.cell 0 _ rfl; have co11 := o1.cell 1 _ rfl
  obtain ⟨am, lm, cm, rfl, hlcm, hmcm, hone⟩ := hq2.isOne
  cases s1
  all_goals
    go_upto_region 7 with (fail)
    go_cut [42] (fun s wx => s = .bool tb ∧ wx = W4)
    case first =>
      rcases hone with ⟨hne, hl⟩ | ⟨b', o', rfl, rfl, x, hxb, hc, hgx⟩
      · obtain rfl : tb = false := by rw [Htb.out]; simp [hne]
        go_wp2_with fail
        go_meet
        exact ⟨rfl, rfl⟩
      · have hgb2 : ((x : Int) == 1) = tb := by rw [Htb.out, hgx, Bool.eq_iff_iff]; simp; omega
        clear hgx
        go_wp2_with fail
        go_meet
        exact ⟨rfl, rfl⟩
    case rest =>
      obtain ⟨rfl, rfl⟩ := hcut
      cases tb
      · go_wp2_with fail
        refine (HTd.out _ wc hq2).mono ?_
        rintro e W5 ⟨_, rfl, rfl, hb5⟩
        go_wp2_with fail
        go_ret
        exact ⟨_, rfl, congrArg Value.string HT.out.symm, hB.trans (hb5.mono hB.size)⟩
      · go_wp2_with fail
        go_ret
        exact ⟨_, rfl, congrArg Value.string HT.out.symm, hB⟩
theorem q_text {x : CQ} : (x.im = 0 → ByteArray.mk (numText x).toArray = ⟨(partText x.re).toArray⟩) ∧ (x.im ≠ 0 → x.re = 0 → ByteArray.mk (numText x).toArray = ⟨(partText x.im).toArray⟩ ++ ⟨#[105]⟩) ∧
    (x.im ≠ 0 → x.re ≠ 0 → x.im < 0 → ByteArray.mk (numText x).toArray = (⟨(partText x.re).toArray⟩ ++ ⟨(partText x.im).toArray⟩) ++ ⟨#[105]⟩) ∧
    (x.im ≠ 0 → x.re ≠ 0 → ¬ x.im < 0 → ByteArray.mk (numText x).toArray = ((⟨(partText x.re).toArray⟩ ++ ⟨#[43]⟩) ++ ⟨(partText x.im).toArray⟩) ++ ⟨#[105]⟩) := by
  have e43 : (⟨#[43]⟩ : ByteArray) = ⟨[43].toArray⟩ := rfl
  have e105 : (⟨#[105]⟩ : ByteArray) = ⟨[105].toArray⟩ := rfl
  rw [e43, e105]
  simp only [str_app]
  unfold numText
  refine ⟨fun h => ?_, fun h1 h2 => ?_, fun h1 h2 h3 => ?_, fun h1 h2 h3 => ?_⟩
  · rw [if_pos h]
  · rw [if_neg h1, if_pos h2]
  · rw [if_neg h1, if_neg h2, if_pos h3]; simp
  · rw [if_neg h1, if_neg h2, if_neg h3]; simp
set_option maxRecDepth 100000 in
set_option maxHeartbeats 1600000 in
theorem qtext_spec (v : Value) (x : CQ) (k : Nat) (w : World) (h : QRep w v x) (hs : Small k x) (hk : k ≤ 1048576) :
    Calls Tryz.prog 135 #[v] w (Ret w fun _ v' => v' = .string ⟨(numText x).toArray⟩) := by
  obtain ⟨a, b, d, s1, s2, a1, a2, a3, l1, c1, l2, c2, l3, c3, H⟩ := h.all
  obtain ⟨rfl, wa, wb, -, -, nd, low, rfl, la, lb, -, sb⟩ := H
  obtain ⟨hs1, hs2, hs3⟩ := hs.low low
  have HT := Lib.hid (q_text (x := cq a b d))
  have hzr : (ByteArray.mk (partText (cq a b d).re).toArray).size ≤ 2097160 := by
    have := partText_length low.1 hs1 hs3
    show (partText (cq a b d).re).toArray.size ≤ _
    rw [List.size_toArray]; show (partText ((a : Rat) / ((d : Int) : Rat))).length ≤ _; omega
  have hzi : (ByteArray.mk (partText (cq a b d).im).toArray).size ≤ 2097160 := by
    have := partText_length low.1 hs2 hs3
    show (partText (cq a b d).im).toArray.size ≤ _
    rw [List.size_toArray]; show (partText ((b : Rat) / ((d : Int) : Rat))).length ≤ _; omega
  have hRe : ∀ v u w, WholeRep w v a → NatRep w u d → Calls Tryz.prog 159 #[v, u] w (Ret w fun _ v' => v' = .string ⟨(partText (cq a b d).re).toArray⟩) := fun v u w h h' => half_spec v u a d k w h h' low.1 hs1 hs3 hk
  have hIm : ∀ v u w, WholeRep w v b → NatRep w u d → Calls Tryz.prog 159 #[v, u] w (Ret w fun _ v' => v' = .string ⟨(partText (cq a b d).im).toArray⟩) := fun v u w h h' => half_spec v u b d k w h h' low.1 hs2 hs3 hk
  have hi0 := im_zero (a := a) (b := b) low.1
  have hr0 := re_zero (a := a) (b := b) low.1
  have hin := im_neg (a := a) (b := b) low.1
  generalize hxs : cq a b d = X at *
  generalize ByteArray.mk (partText X.re).toArray = sr at *
  generalize ByteArray.mk (partText X.im).toArray = si at *
  have HRe := Lib.hid hRe
  have HIm := Lib.hid hIm
  have HT := Lib.hid HT.out
  have HI0 := Lib.hid hi0
  have HR0 := Lib.hid hr0
  have HIN := Lib.hid hin
  have Hla := Lib.hid la
  have Hlb := Lib.hid lb
  have Hsb := Lib.hid sb
  clear hRe hIm hi0 hr0 hin la lb sb hs hxs hs1 hs2 hs3 h
  go_enter Tryz.func135, Tryz.ntmps135
  go_upto_region 1 with (fail)
  obtain ⟨W, hW, o1, hB, hS⟩ := boxes1 w 57 [.bool s1, .slice a1 l1 c1, .bool s2, .slice a2 l2 c2, .slice a3 l3 c3]
  rw [← hW]
  clear hW
  have wa := wa.below hB (Nat.le_refl _); have wb := wb.below hB (Nat.le_refl _); have nd := nd.below hB (Nat.le_refl _)
  by_cases him : X.im = 0
  · obtain rfl : l2 = 0 := Hlb.out.2 (HI0.out.1 him)
    have HF := Lib.hid (HT.out.1 him)
    clear him
    have fo1 := o1.free; have co10 := o1.cell 0 _ rfl; have co11 := o1.cell 1 _ rfl; have co12 := o1.cell 2 _ rfl; have co13 := o1.cell 3 _ rfl; have co14 := o1.cell 4 _ rfl
    go_wp2_with fail
    refine (HRe.out _ _ W wa nd).mono ?_
    rintro e W1 ⟨_, rfl, rfl, hb1⟩
    go_wp2_with fail
    go_ret
    exact ⟨_, rfl, congrArg Value.string HF.out.symm, hB.trans (hb1.mono hB.size)⟩
  · have hl2 : ((l2 : Int) == 0) = false := by
      have : l2 ≠ 0 := fun e => him (HI0.out.2 (Hlb.out.1 e))
      simp; omega
    have Him := Lib.hid him
    clear him
    by_cases hre : X.re = 0
    · obtain rfl : l1 = 0 := Hla.out.2 (HR0.out.1 hre)
      have HF := Lib.hid (HT.out.2.1 Him.out hre)
      have hadd : ∀ w, (Op.stringOp .add si ⟨#[105]⟩).run Tryz.prog w = .ok (.string (si ++ ⟨#[105]⟩)) w := fun w => run_string_add_sum w _ _ (by show si.size + 1 ≤ _; omega)
      clear hre
      have fo1 := o1.free; have co10 := o1.cell 0 _ rfl; have co11 := o1.cell 1 _ rfl; have co12 := o1.cell 2 _ rfl; have co13 := o1.cell 3 _ rfl; have co14 := o1.cell 4 _ rfl
      go_wp2_with fail
      refine (HIm.out _ _ W wb nd).mono ?_
      rintro e W1 ⟨_, rfl, rfl, hb1⟩
      go_wp2_with fail
      go_ret
      exact ⟨_, rfl, congrArg Value.string HF.out.symm, hB.trans (hb1.mono hB.size)⟩
    · have hl1 : ((l1 : Int) == 0) = false := by
        have : l1 ≠ 0 := fun e => hre (HR0.out.2 (Hla.out.1 e))
        simp; omega
      have hm := Lib.hid hre
      clear hre
      by_cases hneg : X.im < 0
      · obtain rfl : s2 = true := by rw [Hsb.out, decide_eq_true_eq]; exact HIN.out.1 hneg
        have HF := Lib.hid (HT.out.2.2.1 Him.out hm.out hneg)
        have hadd2 : ∀ w, (Op.stringOp .add sr si).run Tryz.prog w = .ok (.string (sr ++ si)) w := fun w => run_string_add_sum w _ _ (by omega)
        have hadd3 : ∀ w, (Op.stringOp .add (sr ++ si) ⟨#[105]⟩).run Tryz.prog w = .ok (.string ((sr ++ si) ++ ⟨#[105]⟩)) w := fun w => run_string_add_sum w _ _ (by rw [ByteArray.size_append]; show sr.size + si.size + 1 ≤ _; omega)
        clear hneg
        have fo1 := o1.free; have co10 := o1.cell 0 _ rfl; have co11 := o1.cell 1 _ rfl; have co12 := o1.cell 2 _ rfl; have co13 := o1.cell 3 _ rfl; have co14 := o1.cell 4 _ rfl
        go_wp2_with fail
        have qo10 := o1.cell 0 _ rfl; have qo11 := o1.cell 1 _ rfl; have qo12 := o1.cell 2 _ rfl; have qo13 := o1.cell 3 _ rfl; have qo14 := o1.cell 4 _ rfl
        have o1 : Own W.drew _ _ _ := o1; have lto1 : _ < W.heap.size := o1.lt; have hB := hB.drew
        have wa := wa.below ((Below.refl W.heap.size W).drew) (Nat.le_refl _); have wb := wb.below ((Below.refl W.heap.size W).drew) (Nat.le_refl _); have nd := nd.below ((Below.refl W.heap.size W).drew) (Nat.le_refl _)
        have tok1 : True := trivial
        have tok2 : True := trivial
        go_region_held3 (fun w' => w'.cell? ⟨w.heap.size, 0, none⟩ = some (.bool s1) ∧ w'.cell? ⟨w.heap.size, 1, none⟩ = some (.slice a1 l1 c1) ∧ w'.cell? ⟨w.heap.size, 2, none⟩ = some (.bool true) ∧ w'.cell? ⟨w.heap.size, 3, none⟩ = some (.slice a2 l2 c2) ∧ w'.cell? ⟨w.heap.size, 4, none⟩ = some (.slice a3 l3 c3)) (first | (with_reducible exact ⟨o1.cell 0 _ rfl, o1.cell 1 _ rfl, o1.cell 2 _ rfl, o1.cell 3 _ rfl, o1.cell 4 _ rfl⟩) | (simp [go_sem, qo10, qo11, qo12, qo13, qo14, lto1]; done))
          (first
            | (go_at_call 159; have _t := tok1; refine (HRe.out _ _ _ wa nd).mono ?_; rintro e W1 ⟨_, rfl, rfl, hb1⟩; have hsW1 : W.heap.size ≤ W1.heap.size := hb1.size; have hB := hB.trans (hb1.mono hB.size); have o1 := o1.below hb1 o1.lt; have lto1 := o1.lt; have qo10 := o1.cell 0 _ rfl; have qo11 := o1.cell 1 _ rfl; have qo12 := o1.cell 2 _ rfl; have qo13 := o1.cell 3 _ rfl; have qo14 := o1.cell 4 _ rfl; have wa := wa.below hb1 (Nat.le_refl _); have wb := wb.below hb1 (Nat.le_refl _); have nd := nd.below hb1 (Nat.le_refl _); clear tok1 _t)
            | (go_at_call 159; have _t := tok2; refine (HIm.out _ _ _ wb nd).mono ?_; rintro e W2 ⟨_, rfl, rfl, hb2⟩; have hsW2 : W1.heap.size ≤ W2.heap.size := hb2.size; have hB := hB.trans (hb2.mono hB.size); have o1 := o1.below hb2 o1.lt; have lto1 := o1.lt; have qo10 := o1.cell 0 _ rfl; have qo11 := o1.cell 1 _ rfl; have qo12 := o1.cell 2 _ rfl; have qo13 := o1.cell 3 _ rfl; have qo14 := o1.cell 4 _ rfl; have wa := wa.below hb2 (Nat.le_refl _); have wb := wb.below hb2 (Nat.le_refl _); have nd := nd.below hb2 (Nat.le_refl _); clear tok2 _t))
        go_wp2_with fail
        go_ret
        exact ⟨_, rfl, congrArg Value.string HF.out.symm, hB⟩
      · obtain rfl : s2 = false := by rw [Hsb.out, decide_eq_false_iff_not]; exact fun h => hneg (HIN.out.2 h)
        have HF := Lib.hid (HT.out.2.2.2 Him.out hm.out hneg)
        have hadd2 : ∀ w, (Op.stringOp .add sr ⟨#[43]⟩).run Tryz.prog w = .ok (.string (sr ++ ⟨#[43]⟩)) w := fun w => run_string_add_sum w _ _ (by show sr.size + 1 ≤ _; omega)
        have hadd3 : ∀ w, (Op.stringOp .add (sr ++ ⟨#[43]⟩) si).run Tryz.prog w = .ok (.string ((sr ++ ⟨#[43]⟩) ++ si)) w := fun w => run_string_add_sum w _ _ (by rw [ByteArray.size_append]; show sr.size + 1 + si.size ≤ _; omega)
        have hadd4 : ∀ w, (Op.stringOp .add ((sr ++ ⟨#[43]⟩) ++ si) ⟨#[105]⟩).run Tryz.prog w = .ok (.string (((sr ++ ⟨#[43]⟩) ++ si) ++ ⟨#[105]⟩)) w := fun w => run_string_add_sum w _ _ (by rw [ByteArray.size_append, ByteArray.size_append]; show sr.size + 1 + si.size + 1 ≤ _; omega)
        clear hneg
        have fo1 := o1.free; have co10 := o1.cell 0 _ rfl; have co11 := o1.cell 1 _ rfl; have co12 := o1.cell 2 _ rfl; have co13 := o1.cell 3 _ rfl; have co14 := o1.cell 4 _ rfl
        go_wp2_with fail
        have qo10 := o1.cell 0 _ rfl; have qo11 := o1.cell 1 _ rfl; have qo12 := o1.cell 2 _ rfl; have qo13 := o1.cell 3 _ rfl; have qo14 := o1.cell 4 _ rfl
        have o1 : Own W.drew _ _ _ := o1; have lto1 : _ < W.heap.size := o1.lt; have hB := hB.drew
        have wa := wa.below ((Below.refl W.heap.size W).drew) (Nat.le_refl _); have wb := wb.below ((Below.refl W.heap.size W).drew) (Nat.le_refl _); have nd := nd.below ((Below.refl W.heap.size W).drew) (Nat.le_refl _)
        have tok1 : True := trivial
        have tok2 : True := trivial
        go_region_held3 (fun w' => w'.cell? ⟨w.heap.size, 0, none⟩ = some (.bool s1) ∧ w'.cell? ⟨w.heap.size, 1, none⟩ = some (.slice a1 l1 c1) ∧ w'.cell? ⟨w.heap.size, 2, none⟩ = some (.bool false) ∧ w'.cell? ⟨w.heap.size, 3, none⟩ = some (.slice a2 l2 c2) ∧ w'.cell? ⟨w.heap.size, 4, none⟩ = some (.slice a3 l3 c3)) (first | (with_reducible exact ⟨o1.cell 0 _ rfl, o1.cell 1 _ rfl, o1.cell 2 _ rfl, o1.cell 3 _ rfl, o1.cell 4 _ rfl⟩) | (simp [go_sem, qo10, qo11, qo12, qo13, qo14, lto1]; done))
          (first
            | (go_at_call 159; have _t := tok1; refine (HRe.out _ _ _ wa nd).mono ?_; rintro e W1 ⟨_, rfl, rfl, hb1⟩; have hsW1 : W.heap.size ≤ W1.heap.size := hb1.size; have hB := hB.trans (hb1.mono hB.size); have o1 := o1.below hb1 o1.lt; have lto1 := o1.lt; have qo10 := o1.cell 0 _ rfl; have qo11 := o1.cell 1 _ rfl; have qo12 := o1.cell 2 _ rfl; have qo13 := o1.cell 3 _ rfl; have qo14 := o1.cell 4 _ rfl; have wa := wa.below hb1 (Nat.le_refl _); have wb := wb.below hb1 (Nat.le_refl _); have nd := nd.below hb1 (Nat.le_refl _); clear tok1 _t)
            | (go_at_call 159; have _t := tok2; refine (HIm.out _ _ _ wb nd).mono ?_; rintro e W2 ⟨_, rfl, rfl, hb2⟩; have hsW2 : W1.heap.size ≤ W2.heap.size := hb2.size; have hB := hB.trans (hb2.mono hB.size); have o1 := o1.below hb2 o1.lt; have lto1 := o1.lt; have qo10 := o1.cell 0 _ rfl; have qo11 := o1.cell 1 _ rfl; have qo12 := o1.cell 2 _ rfl; have qo13 := o1.cell 3 _ rfl; have qo14 := o1.cell 4 _ rfl; have wa := wa.below hb2 (Nat.le_refl _); have wb := wb.below hb2 (Nat.le_refl _); have nd := nd.below hb2 (Nat.le_refl _); clear tok2 _t))
        go_wp2_with fail
        go_ret
        exact ⟨_, rfl, congrArg Value.string HF.out.symm, hB⟩
end Go.Proofs.YtpnfdlnhmhekeaaGreat
namespace Go.Proofs.YtpnfdlnhmhekeaaGreat
open Go.RowKit
set_option maxRecDepth 100000 in
theorem is_spec (v u : Value) (x : CQ) (k : Nat) (w : World) (h : NumRep w v x) (h2 : QRep w u x) (hs : Small k x) (hk : k ≤ 1048576) :
    Calls Tryz.prog 103 #[v, u] w (Ret w fun _ v' => v' = .bool true) := by
  obtain ⟨s1, s2, a1, a2, a3, l1, c1, l2, c2, l3, c3, rfl⟩ := h.open
  obtain ⟨t1, t2, p1, p2, p3, m1, n1, m2, n2, m3, n3, rfl⟩ := h2.open
  go_enter Tryz.func103, Tryz.ntmps103
  go_upto_region 1 with (fail)
  obtain ⟨W, hW, o1, o2, hB, hS⟩ := boxes2 w 51 57 [.bool s1, .slice a1 l1 c1, .bool s2, .slice a2 l2 c2, .slice a3 l3 c3] [.bool t1, .slice p1 m1 n1, .bool t2, .slice p2 m2 n2, .slice p3 m3 n3]
  rw [← hW]
  clear hW
  have qo10 := o1.cell 0 _ rfl; have qo11 := o1.cell 1 _ rfl; have qo12 := o1.cell 2 _ rfl; have qo13 := o1.cell 3 _ rfl; have qo14 := o1.cell 4 _ rfl; have qo20 := o2.cell 0 _ rfl; have qo21 := o2.cell 1 _ rfl; have qo22 := o2.cell 2 _ rfl; have qo23 := o2.cell 3 _ rfl; have qo24 := o2.cell 4 _ rfl
  have o1 : Own W.drew _ _ _ := o1; have o2 : Own W.drew _ _ _ := o2; have lto1 : _ < W.heap.size := o1.lt; have lto2 : _ < W.heap.size := o2.lt; have hB := hB.drew
  have h := h.below hB (Nat.le_refl _); have h2 := h2.below hB (Nat.le_refl _)
  have tok1 : True := trivial
  have tok2 : True := trivial
  go_region_held3 (fun w' => w'.cell? ⟨w.heap.size, 0, none⟩ = some (.bool s1) ∧ w'.cell? ⟨w.heap.size, 1, none⟩ = some (.slice a1 l1 c1) ∧ w'.cell? ⟨w.heap.size, 2, none⟩ = some (.bool s2) ∧ w'.cell? ⟨w.heap.size, 3, none⟩ = some (.slice a2 l2 c2) ∧ w'.cell? ⟨w.heap.size, 4, none⟩ = some (.slice a3 l3 c3) ∧ w'.cell? ⟨w.heap.size + 1, 0, none⟩ = some (.bool t1) ∧ w'.cell? ⟨w.heap.size + 1, 1, none⟩ = some (.slice p1 m1 n1) ∧ w'.cell? ⟨w.heap.size + 1, 2, none⟩ = some (.bool t2) ∧ w'.cell? ⟨w.heap.size + 1, 3, none⟩ = some (.slice p2 m2 n2) ∧ w'.cell? ⟨w.heap.size + 1, 4, none⟩ = some (.slice p3 m3 n3)) (first | (with_reducible exact ⟨o1.cell 0 _ rfl, o1.cell 1 _ rfl, o1.cell 2 _ rfl, o1.cell 3 _ rfl, o1.cell 4 _ rfl, o2.cell 0 _ rfl, o2.cell 1 _ rfl, o2.cell 2 _ rfl, o2.cell 3 _ rfl, o2.cell 4 _ rfl⟩) | (simp [go_sem, qo10, qo11, qo12, qo13, qo14, qo20, qo21, qo22, qo23, qo24, lto1, lto2]; done))
    (first
      | (go_at_call 31; have _t := tok1; refine (text_spec _ x k _ h hs hk).mono ?_; rintro e W1 ⟨_, rfl, rfl, hb1⟩; have hsW1 : W.heap.size ≤ W1.heap.size := hb1.size; have hB := hB.trans (hb1.mono hB.size); have o1 := o1.below hb1 o1.lt; have o2 := o2.below hb1 o2.lt; have lto1 := o1.lt; have lto2 := o2.lt; have qo10 := o1.cell 0 _ rfl; have qo11 := o1.cell 1 _ rfl; have qo12 := o1.cell 2 _ rfl; have qo13 := o1.cell 3 _ rfl; have qo14 := o1.cell 4 _ rfl; have qo20 := o2.cell 0 _ rfl; have qo21 := o2.cell 1 _ rfl; have qo22 := o2.cell 2 _ rfl; have qo23 := o2.cell 3 _ rfl; have qo24 := o2.cell 4 _ rfl; have h := h.below hb1 (Nat.le_refl _); have h2 := h2.below hb1 (Nat.le_refl _); clear tok1 _t)
      | (go_at_call 135; have _t := tok2; refine (qtext_spec _ x k _ h2 hs hk).mono ?_; rintro e W2 ⟨_, rfl, rfl, hb2⟩; have hsW2 : W1.heap.size ≤ W2.heap.size := hb2.size; have hB := hB.trans (hb2.mono hB.size); have o1 := o1.below hb2 o1.lt; have o2 := o2.below hb2 o2.lt; have lto1 := o1.lt; have lto2 := o2.lt; have qo10 := o1.cell 0 _ rfl; have qo11 := o1.cell 1 _ rfl; have qo12 := o1.cell 2 _ rfl; have qo13 := o1.cell 3 _ rfl; have qo14 := o1.cell 4 _ rfl; have qo20 := o2.cell 0 _ rfl; have qo21 := o2.cell 1 _ rfl; have qo22 := o2.cell 2 _ rfl; have qo23 := o2.cell 3 _ rfl; have qo24 := o2.cell 4 _ rfl; have h := h.below hb2 (Nat.le_refl _); have h2 := h2.below hb2 (Nat.le_refl _); clear tok2 _t))
  go_wp2_with fail
  go_ret
  exact ⟨_, rfl, rfl, hB⟩
set_option maxRecDepth 100000 in
theorem areAll_spec (v u : Value) (l : List CQ) (e : Nat) (w : World) (h : SlOf NumC 5 w v l) (h2 : SlOf QC 5 w u l) (hs : ∀ x ∈ l, Small e x) (he : e ≤ 1048576) (hl : l.length ≤ 1000000) :
    Calls Tryz.prog 52 #[v, u] w (Ret w fun _ v' => v' = .bool true) := by
  have HIS := Lib.hid (fun v u x w h1 h2 h3 => is_spec v u x e w h1 h2 h3 he)
  have HS := Lib.hid hs
  clear hs he
  obtain ⟨n, hn⟩ : ∃ n, l.length = n := ⟨_, rfl⟩
  obtain ⟨av, cv, rfl, hcv, hcv2, hv⟩ := h
  obtain ⟨au, cu, rfl, hcu, hcu2, hu⟩ := h2
  have HV := Lib.hid hv
  have HU := Lib.hid hu
  have HN := Lib.hid hn
  rw [hn] at hcv hcu hl ⊢
  clear hv hu hn
  go_enter Tryz.func52, Tryz.ntmps52
  go_wp2_with fail
  go_loopw [14] (fun iv wr => ∃ k : Nat, k ≤ n ∧ iv = .int .i64 (k : Int) ∧ Below w.heap.size w wr) (fun i _ => n - (intOf i).toNat)
  case atStart => exact ⟨0, Nat.zero_le _, rfl, Below.refl _ _⟩
  case round =>
    obtain ⟨k, hk, rfl, hB⟩ := hrel
    by_cases hlt : k < n
    · obtain ⟨x, hx⟩ : ∃ x, l[k]? = some x := ⟨_, List.getElem?_eq_getElem (by have := HN.out; omega)⟩
      obtain ⟨b1, o1, u1, rfl, hu1, hq1, hc1⟩ := HV.out k x hx
      obtain ⟨b2, o2, u2, rfl, hu2, hq2, hc2⟩ := HU.out k x hx
      have hlt1 : b1 < w.heap.size := World.block_lt_of_cell? w _ (hc1 0 _ (List.getElem?_eq_getElem (by omega)))
      have hlt2 : b2 < w.heap.size := World.block_lt_of_cell? w _ (hc2 0 _ (List.getElem?_eq_getElem (by omega)))
      have hsx := HS.out x (List.mem_of_getElem? hx)
      have h1 : NumRep wr _ x := NumRep.below hq1 hB (Nat.le_refl _)
      have h2 : QRep wr _ x := QRep.below hq2 hB (Nat.le_refl _)
      obtain ⟨s0, s2, a1, a3, a4, l1, m1, l3, m3, l4, m4, hx1⟩ := h1.open
      obtain ⟨t0, t2, d1, d3, d4, p1, r1, p3, r3, p4, r4, hx2⟩ := h2.open
      have hv1 : u1 = [.bool s0, .slice a1 l1 m1, .bool s2, .slice a3 l3 m3, .slice a4 l4 m4] := by injection hx1 with h; exact List.toArray_inj h
      have hv2 : u2 = [.bool t0, .slice d1 p1 r1, .bool t2, .slice d3 p3 r3, .slice d4 p4 r4] := by injection hx2 with h; exact List.toArray_inj h
      subst hv1 hv2
      have e0 : wr.cell? ⟨b1, o1 + k * 5, none⟩ = some (.bool s0) := (hB.cell hlt1).trans (hc1 0 _ rfl)
      have e1 : wr.cell? ⟨b1, o1 + k * 5 + 1, none⟩ = some (.slice a1 l1 m1) := (hB.cell hlt1).trans (hc1 1 _ rfl)
      have e2 : wr.cell? ⟨b1, o1 + k * 5 + 2, none⟩ = some (.bool s2) := (hB.cell hlt1).trans (hc1 2 _ rfl)
      have e3 : wr.cell? ⟨b1, o1 + k * 5 + 3, none⟩ = some (.slice a3 l3 m3) := (hB.cell hlt1).trans (hc1 3 _ rfl)
      have e4 : wr.cell? ⟨b1, o1 + k * 5 + 4, none⟩ = some (.slice a4 l4 m4) := (hB.cell hlt1).trans (hc1 4 _ rfl)
      go_upto_region 6 with (fail)
      obtain ⟨V, hV, oV, hBV, hSV⟩ := boxes1 wr 51 [.bool s0, .slice a1 l1 m1, .bool s2, .slice a3 l3 m3, .slice a4 l4 m4]
      rw [← hV]
      clear hV e0 e1 e2 e3 e4
      have hb2 : Below w.heap.size w V := hB.trans (hBV.mono hB.size)
      have g0 : V.cell? ⟨b2, o2 + k * 5, none⟩ = some (.bool t0) := (hb2.cell hlt2).trans (hc2 0 _ rfl)
      have g1 : V.cell? ⟨b2, o2 + k * 5 + 1, none⟩ = some (.slice d1 p1 r1) := (hb2.cell hlt2).trans (hc2 1 _ rfl)
      have g2 : V.cell? ⟨b2, o2 + k * 5 + 2, none⟩ = some (.bool t2) := (hb2.cell hlt2).trans (hc2 2 _ rfl)
      have g3 : V.cell? ⟨b2, o2 + k * 5 + 3, none⟩ = some (.slice d3 p3 r3) := (hb2.cell hlt2).trans (hc2 3 _ rfl)
      have g4 : V.cell? ⟨b2, o2 + k * 5 + 4, none⟩ = some (.slice d4 p4 r4) := (hb2.cell hlt2).trans (hc2 4 _ rfl)
      replace h1 := NumRep.below h1 hBV (Nat.le_refl _)
      replace h2 := QRep.below h2 hBV (Nat.le_refl _)
      have H1 := Lib.hid (HIS.out _ _ x V.drew (NumRep.below h1 (Below.refl V.heap.size V).drew (Nat.le_refl _)) (QRep.below h2 (Below.refl V.heap.size V).drew (Nat.le_refl _)) hsx)
      clear hc1 hc2 hq1 hq2 hx h1 h2 hsx hu1 hu2
      have coV0 := oV.cell 0 _ rfl
      have coV1 := oV.cell 1 _ rfl
      have coV2 := oV.cell 2 _ rfl
      have coV3 := oV.cell 3 _ rfl
      have coV4 := oV.cell 4 _ rfl
      have ltV := oV.lt
      have ltg := World.block_lt_of_cell? V _ g0
      have hkV : Below V.heap.size V V.drew := (Below.refl _ _).drew
      clear oV
      have GcoV0 := Lib.hid coV0; have GcoV1 := Lib.hid coV1; have GcoV2 := Lib.hid coV2; have GcoV3 := Lib.hid coV3; have GcoV4 := Lib.hid coV4; have Gg0 := Lib.hid g0; have Gg1 := Lib.hid g1; have Gg2 := Lib.hid g2; have Gg3 := Lib.hid g3; have Gg4 := Lib.hid g4
      have tok1 : True := trivial
      go_region_held3 (fun w' => w'.cell? ⟨wr.heap.size, 0, none⟩ = some (.bool s0) ∧ w'.cell? ⟨wr.heap.size, 1, none⟩ = some (.slice a1 l1 m1) ∧ w'.cell? ⟨wr.heap.size, 2, none⟩ = some (.bool s2) ∧ w'.cell? ⟨wr.heap.size, 3, none⟩ = some (.slice a3 l3 m3) ∧ w'.cell? ⟨wr.heap.size, 4, none⟩ = some (.slice a4 l4 m4) ∧ w'.cell? ⟨b2, o2 + k * 5, none⟩ = some (.bool t0) ∧ w'.cell? ⟨b2, o2 + k * 5 + 1, none⟩ = some (.slice d1 p1 r1) ∧ w'.cell? ⟨b2, o2 + k * 5 + 2, none⟩ = some (.bool t2) ∧ w'.cell? ⟨b2, o2 + k * 5 + 3, none⟩ = some (.slice d3 p3 r3) ∧ w'.cell? ⟨b2, o2 + k * 5 + 4, none⟩ = some (.slice d4 p4 r4)) (first | (with_reducible exact ⟨coV0, coV1, coV2, coV3, coV4, g0, g1, g2, g3, g4⟩) | (simp [go_sem, coV0, coV1, coV2, coV3, coV4, g0, g1, g2, g3, g4, ltV, ltg]; done)) (first
        | (go_simp; go_at_call 103; have _t := tok1; (with_reducible refine (H1.out).mono ?_); rintro e1 W3 ⟨_, rfl, rfl, hb3⟩; have hb4 : Below V.heap.size V W3 := hkV.trans hb3; have coV0 := (hb4.cell (World.block_lt_of_cell? V _ GcoV0.out)).trans GcoV0.out; have coV1 := (hb4.cell (World.block_lt_of_cell? V _ GcoV1.out)).trans GcoV1.out; have coV2 := (hb4.cell (World.block_lt_of_cell? V _ GcoV2.out)).trans GcoV2.out; have coV3 := (hb4.cell (World.block_lt_of_cell? V _ GcoV3.out)).trans GcoV3.out; have coV4 := (hb4.cell (World.block_lt_of_cell? V _ GcoV4.out)).trans GcoV4.out; have g0 := (hb4.cell (World.block_lt_of_cell? V _ Gg0.out)).trans Gg0.out; have g1 := (hb4.cell (World.block_lt_of_cell? V _ Gg1.out)).trans Gg1.out; have g2 := (hb4.cell (World.block_lt_of_cell? V _ Gg2.out)).trans Gg2.out; have g3 := (hb4.cell (World.block_lt_of_cell? V _ Gg3.out)).trans Gg3.out; have g4 := (hb4.cell (World.block_lt_of_cell? V _ Gg4.out)).trans Gg4.out; have ltV := World.block_lt_of_cell? W3 _ coV0; have ltg := World.block_lt_of_cell? W3 _ g0; clear tok1 _t))
      go_wp2_with fail
      go_roundw
      case rel => exact ⟨k + 1, by omega, by go_num, hb2.trans (hb4.mono hb2.size)⟩
      case measure => simp [intOf]; omega
    · obtain rfl : k = n := by omega
      go_wp2_with fail
      go_ret
      exact ⟨_, rfl, rfl, hB⟩
end Go.Proofs.YtpnfdlnhmhekeaaGreat
