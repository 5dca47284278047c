/- record.decimal. Conditions: the number is real, at most 100000 bits. -/
import Derived.Test.YtfkogkcpndaoeaaGreatMBuild
import Derived.Deep.CutRange
set_option linter.all false
namespace Go.Proofs.YtfkogkcpndaoeaaGreat
open Go.RowKit
theorem NumBox.grown {w w' : World} {g : Nat} {x : CQ} (h : NumBox w g x) (hb : Below w.heap.size w w') : NumBox w' g x := by
  obtain ⟨s0, s2, a1, a3, a4, l1, c1, l3, c3, l4, c4, o, n⟩ := h
  exact ⟨s0, s2, a1, a3, a4, l1, c1, l3, c3, l4, c4, o.below hb o.lt, n.below hb (Nat.le_refl _)⟩
theorem BuildAt.below {w w' : World} {T : TypeId} {b base : Nat} {p : Option Addr} {l : List UInt8} {more : List Value} (h : BuildAt w T b base p l more) (hb : Below w.heap.size w w') : BuildAt w' T b base p l more := by
  obtain ⟨v, o, hv⟩ := h
  exact ⟨v, o.below hb o.lt, hv.below hb⟩
theorem BuildAt.lt {w : World} {T : TypeId} {b base : Nat} {p : Option Addr} {l : List UInt8} {more : List Value} (h : BuildAt w T b base p l more) : b < w.heap.size := by
  obtain ⟨v, o, hv⟩ := h
  exact o.lt
theorem BuildAt.grownBy {w w' : World} {T E : TypeId} {b base g : Nat} {cs : List Value} {p : Option Addr} {l : List UInt8} {more : List Value} (h : BuildAt w T b base p l more) (hg : w.grownBy w' (some g)) (o : Own w E g cs) (hE : E ≠ 5) (hne : b ≠ g) : BuildAt w' T b base p l more := by
  obtain ⟨v, ob, hv⟩ := h
  refine ⟨v, ?_, ?_⟩
  · have hl := ob.lt
    unfold Own at *
    rw [hg.block b hl (fun e => hne (Option.some.inj e))]; exact ob
  · refine World.ownsRow.kept hv hg ?_
    rcases hv.2 with ⟨rfl, _⟩ | ⟨g', cap, cur, rfl, _, hgc, _⟩
    · exact .inl rfl
    · refine .inr fun e => ?_
      have e2 : g' = g := by simpa [Value.ownBlock] using e
      subst e2
      unfold Own at o
      rw [o] at hgc
      simp only [Option.some.injEq, Obj.cells.injEq] at hgc
      exact hE hgc.2.1
theorem below_byG {B g : Nat} {w0 w w' : World} (h : Below B w0 w) (hg : w.grownBy w' (some g)) (hB : B ≤ g) (hw : B ≤ w.heap.size) : Below B w0 w' :=
  h.grown hg hw (fun j hj => by obtain rfl := Option.some.inj hj; exact hB)
theorem Us.keptX {w w' : World} {b base : Nat} {T : TypeId} {cs : List Value} {v : Value} {xs : List Nat} (h : Us w v xs) (hk : KeptX b base w w') (o : Own w T b cs) (hT : T ≠ 28) : Us w' v xs := by
  have ht := h.typed
  rcases h.cases with ⟨rfl, rfl⟩ | ⟨b', o', len, cap, rfl, hlen, hcap, hmax, hcell⟩
  · exact Us.nil
  · have key : len ≠ 0 → w'.heap[b']? = w.heap[b']? := fun h0 => by
      obtain ⟨cs', fr, e⟩ := ht b' o' len cap rfl h0
      refine hk.block b' (TyB.lt ⟨cs', fr, e⟩) (fun e2 => ?_) (.inr fun ⟨cs2, fr2, e2⟩ => ?_)
      · subst e2
        unfold Own at o
        rw [o] at e
        simp only [Option.some.injEq, Obj.cells.injEq] at e
        exact hT e.2.1
      · rw [e] at e2
        simp only [Option.some.injEq, Obj.cells.injEq] at e2
        exact absurd e2.2.1 (by decide)
    refine Us.mk (fun h0 => (ht b' o' len cap rfl h0).of (key h0)) hlen.symm hcap hmax h.words fun i x hx => ?_
    have hi : i < xs.length := (List.getElem?_eq_some_iff.1 hx).1
    have := hcell i x hx
    rw [← this]
    exact World.cell?_of_block (key (by omega))
theorem NatRep.keptX {w w' : World} {b base : Nat} {T : TypeId} {cs : List Value} {v : Value} {n : Nat} (h : NatRep w v n) (hk : KeptX b base w w') (o : Own w T b cs) (hT : T ≠ 28) : NatRep w' v n := by
  obtain ⟨xs, h1, h2⟩ := h
  exact ⟨xs, h1.keptX hk o hT, h2⟩
theorem NumRep.keptX {w w' : World} {b base : Nat} {T : TypeId} {cs : List Value} {v : Value} {x : CQ} (h : NumRep w v x) (hk : KeptX b base w w') (o : Own w T b cs) (hT : T ≠ 28) : NumRep w' v x := by
  obtain ⟨a, b', d, ⟨m1, m2, m3, e, h1, h2, h3, h4⟩, h5⟩ := h
  exact ⟨a, b', d, ⟨m1, m2, m3, e, h1.keptX hk o hT, h2.keptX hk o hT, h3.keptX hk o hT, h4⟩, h5⟩
theorem NumBox.keptX {w w' : World} {b base g : Nat} {T : TypeId} {cs : List Value} {x : CQ} (h : NumBox w g x) (hk : KeptX b base w w') (o : Own w T b cs) (hT : T ≠ 28) (hne : g ≠ b) : NumBox w' g x := by
  obtain ⟨s0, s2, a1, a3, a4, l1, c1, l3, c3, l4, c4, on, n⟩ := h
  exact ⟨s0, s2, a1, a3, a4, l1, c1, l3, c3, l4, c4, hk.own on (by decide) hne, n.keptX hk o hT⟩
theorem put5 {w : World} {E : TypeId} {g : Nat} {v : Value} {x : CQ} {s0 s2 b0 b2 : Bool} {a1 a3 a4 x1 x3 x4 : Option Addr} {l1 c1 l3 c3 l4 c4 y1 z1 y3 z3 y4 z4 : Nat}
    (h : NumRep w v x) (o : Own w E g [.bool b0, .slice x1 y1 z1, .bool b2, .slice x3 y3 z3, .slice x4 y4 z4]) :
    NumRep (((((w.setCell ⟨g, 0, none⟩ (.bool s0)).setCell ⟨g, 1, none⟩ (.slice a1 l1 c1)).setCell ⟨g, 2, none⟩ (.bool s2)).setCell ⟨g, 3, none⟩ (.slice a3 l3 c3)).setCell ⟨g, 4, none⟩ (.slice a4 l4 c4)) v x :=
  ((((h.put o rfl 0 _).put (o.set 0 _) rfl 1 _).put ((o.set 0 _).set 1 _) rfl 2 _).put (((o.set 0 _).set 1 _).set 2 _) rfl 3 _).put ((((o.set 0 _).set 1 _).set 2 _).set 3 _) rfl 4 _
theorem Own.byG {w w' : World} {E : TypeId} {g g' : Nat} {cs : List Value} (h : Own w E g cs) (hg : w.grownBy w' (some g')) (hne : g ≠ g') : Own w' E g cs := by
  have hl := h.lt
  unfold Own at *
  rw [hg.block g hl (fun e => hne (Option.some.inj e))]; exact h
theorem dec_ne (n : Nat) : dec n ≠ [] := by
  unfold dec
  split
  · simp
  · rename_i h
    rw [decRev_step (Nat.pos_of_ne_zero h)]; simp
theorem decDig_step (d f r : Nat) : decDig d (f + 1) r = if 10 * r % d = 0 then some (dec (10 * r / d)) else (decDig d f (10 * r % d)).map (dec (10 * r / d) ++ ·) := rfl
theorem opt_app (x : Option (List UInt8)) (l m : List UInt8) : (x.map (m ++ ·)).map (l ++ ·) = x.map ((l ++ m) ++ ·) := by cases x <;> simp
theorem opt_nil (x : Option (List UInt8)) : x = x.map ([] ++ ·) := by cases x <;> rfl
def decRes (a : Int) (d : Nat) : Value := match decText a d with
  | some l => .tuple #[.string ⟨l.toArray⟩, .bool true]
  | none => .tuple #[.string ⟨#[]⟩, .bool false]
def signText (a : Int) : List UInt8 := if a < 0 then [45] else []
set_option maxRecDepth 100000 in
set_option maxHeartbeats 3200000 in
theorem decimal_spec (v : Value) (a : Int) (d k : Nat) (w : World) (h : NumRep w v (cq a 0 d)) (hd : 0 < d) (ha : a.natAbs < 2 ^ k) (hdk : d < 2 ^ k) (hk : k ≤ 100000) :
    Calls Tryz.prog 78 #[v] w (Ret w fun _ v' => v' = decRes a d) := by
  obtain ⟨s0, s2, a1, a3, a4, l1, c1, l3, c3, l4, c4, rfl⟩ := h.open
  have HS := Lib.hid (small_mk (b := 0) hd ha (Nat.two_pow_pos k) hdk)
  have HS' := Lib.hid (small_nat hd ha hdk)
  have HS0 := Lib.hid (small_mk (a := 0) (b := 0) (d := 1) (k := k + 4) (by omega) (Nat.two_pow_pos _) (Nat.two_pow_pos _) (Nat.one_lt_two_pow (by omega)))
  obtain ⟨c, hc⟩ : ∃ c, c = qcmp (cq a 0 d) (cq 0 0 1) := ⟨_, rfl⟩
  have hneg : c < 0 ↔ a < 0 := by rw [hc]; exact cmp_zero hd
  have hcmp := fun v u w h h' => ncmp_spec v u (cq a 0 d) (cq 0 0 1) (k + 4) w h h' (HS.out.mono (by omega)) HS0.out (by omega)
  rw [← hc] at hcmp
  have HCmp := Lib.hid hcmp
  have Ha := Lib.hid ha
  have Hdk := Lib.hid hdk
  have Hneg := Lib.hid hneg
  clear hcmp hc hneg ha hdk
  go_enter Tryz.func78, Tryz.ntmps78
  go_upto_region 2 with (fail)
  obtain ⟨W, hW, o1, hB, hS⟩ := boxes1 w 40 [.bool s0, .slice a1 l1 c1, .bool s2, .slice a3 l3 c3, .slice a4 l4 c4]
  rw [← hW]
  clear hW
  have h := h.below hB (Nat.le_refl _)
  have qo10 := o1.cell 0 _ rfl; have qo11 := o1.cell 1 _ rfl; have qo12 := o1.cell 2 _ rfl; have qo13 := o1.cell 3 _ rfl; have qo14 := o1.cell 4 _ rfl
  have o1 : Own W.drew _ _ _ := o1; have lto1 : _ < W.heap.size := o1.lt; have hB := hB.drew
  have h := h.below ((Below.refl W.heap.size W).drew) (Nat.le_refl _)
  have tok1 : True := trivial
  have tok2 : True := trivial
  go_region_held3 (fun w' => w'.cell? ⟨w.heap.size, 0, none⟩ = some (.bool s0) ∧ w'.cell? ⟨w.heap.size, 1, none⟩ = some (.slice a1 l1 c1) ∧ w'.cell? ⟨w.heap.size, 2, none⟩ = some (.bool s2) ∧ w'.cell? ⟨w.heap.size, 3, none⟩ = some (.slice a3 l3 c3) ∧ w'.cell? ⟨w.heap.size, 4, none⟩ = some (.slice a4 l4 c4)) (first | (with_reducible exact ⟨o1.cell 0 _ rfl, o1.cell 1 _ rfl, o1.cell 2 _ rfl, o1.cell 3 _ rfl, o1.cell 4 _ rfl⟩) | (simp [go_sem, qo10, qo11, qo12, qo13, qo14, lto1]; done))
    (first
      | (go_at_call 36; have _t := tok1; refine (int_spec 0 _ (by omega) (by omega)).mono ?_; rintro e W1 ⟨z0, rfl, hz0, hb1⟩; have hsW1 : W.heap.size ≤ W1.heap.size := hb1.size; have hB := hB.trans (hb1.mono hB.size); have o1 := o1.below hb1 o1.lt; have lto1 := o1.lt; have qo10 := o1.cell 0 _ rfl; have qo11 := o1.cell 1 _ rfl; have qo12 := o1.cell 2 _ rfl; have qo13 := o1.cell 3 _ rfl; have qo14 := o1.cell 4 _ rfl; have h := h.below hb1 (Nat.le_refl _); clear tok1 _t)
      | (go_at_call 51; have _t := tok2; refine (HCmp.out _ _ _ h hz0).mono ?_; rintro e W2 ⟨_, rfl, rfl, hb2⟩; have hsW2 : W1.heap.size ≤ W2.heap.size := hb2.size; have hB := hB.trans (hb2.mono hB.size); have o1 := o1.below hb2 o1.lt; have lto1 := o1.lt; have qo10 := o1.cell 0 _ rfl; have qo11 := o1.cell 1 _ rfl; have qo12 := o1.cell 2 _ rfl; have qo13 := o1.cell 3 _ rfl; have qo14 := o1.cell 4 _ rfl; have h := h.below hb2 (Nat.le_refl _); have hz0 := hz0.below hb2 (Nat.le_refl _); have fo1 := o1.free; have co10 := o1.cell 0 _ rfl; have co11 := o1.cell 1 _ rfl; have co12 := o1.cell 2 _ rfl; have co13 := o1.cell 3 _ rfl; have co14 := o1.cell 4 _ rfl; clear tok2 _t))
  go_upto_if 13 with (fail)
  go_cut [4] (fun s4 wx => s4 = .string ⟨(signText a).toArray⟩ ∧ NumBox wx w.heap.size (cq a.natAbs 0 d) ∧ Below w.heap.size w wx)
  case first =>
    by_cases hneg : a < 0
    · have hc0 := Hneg.out.2 hneg
      have Hn := Lib.hid hneg
      clear hneg
      go_wp2_with fail
      refine (nneg_spec _ (cq a 0 d) _ h).mono ?_
      rintro e W3 ⟨u, rfl, hu, hb3⟩
      obtain ⟨_, _, _, _, _, _, _, _, _, _, _, rfl⟩ := hu.open
      have hsW3 : W2.heap.size ≤ W3.heap.size := hb3.size; have hB := hB.trans (hb3.mono hB.size); have o1 := o1.below hb3 o1.lt; have fo1 := o1.free; have co10 := o1.cell 0 _ rfl; have co11 := o1.cell 1 _ rfl; have co12 := o1.cell 2 _ rfl; have co13 := o1.cell 3 _ rfl; have co14 := o1.cell 4 _ rfl
      go_wp2_with fail
      go_meet
      have e : (cq a 0 d).neg = cq a.natAbs 0 d := by rw [neg_real]; congr 1; have := Hn.out; omega
      refine ⟨by unfold signText; rw [if_pos Hn.out], numbox_end hu o1 e, below5 hB (Nat.le_refl _)⟩
    · have hc0 : ¬ c < 0 := fun hh => hneg (Hneg.out.1 hh)
      have Hn := Lib.hid hneg
      clear hneg
      go_wp2_with fail
      go_meet
      have e : cq a 0 d = cq a.natAbs 0 d := by congr 1; have := Hn.out; omega
      exact ⟨by have := Hn.out; unfold signText; rw [if_neg (by omega)], ⟨_, _, _, _, _, _, _, _, _, _, _, o1, e ▸ h⟩, hB⟩
  case rest =>
    obtain ⟨rfl, ⟨t0, t2, b1, b3, b4, m1, e1, m3, e3, m4, e4, o1, h1⟩, hB⟩ := hcut
    clear h HS
    obtain ⟨n, hn⟩ : ∃ n, n = a.natAbs := ⟨_, rfl⟩
    rw [← hn] at h1 HS' Ha
    have hsg : (ByteArray.mk (signText a).toArray).size ≤ 1 := by
      show (signText a).toArray.size ≤ 1
      unfold signText
      split <;> simp
    have HN := Lib.hid hn
    clear hn
    generalize hsgn : ByteArray.mk (signText a).toArray = sg at *
    have Hsgn := Lib.hid hsgn
    clear hsgn Hneg HCmp
    have efl : (min (max (0 : Int) 0) 1000).toNat = 0 := by decide
    have hfl := fun v w hv => nfloor_spec v (cq n 0 d) 0 k w hv HS'.out (by omega) (by omega) (by omega)
    rw [efl, floor_nat hd] at hfl
    have HFl := Lib.hid hfl
    have hqs : n / d < 2 ^ k := Nat.lt_of_le_of_lt (Nat.div_le_self _ _) Ha.out
    have HQ := Lib.hid (small_nat (d := 1) (by omega) hqs (Nat.one_lt_two_pow_iff.2 (by
      intro h0; rw [h0] at Hdk; have := Hdk.out; omega)))
    have hsb := fun v u w h h' => nsub_spec v u (cq n 0 d) (cq (n / d : Nat) 0 1) k w h h' HS'.out HQ.out (by omega)
    rw [sub_floor hd] at hsb
    have HSb := Lib.hid hsb
    have htx := fun v w hv => text_spec v (cq (n / d : Nat) 0 1) k w hv HQ.out (by omega)
    rw [numText_nat] at htx
    have HTx := Lib.hid htx
    have hdl : (ByteArray.mk (dec (n / d)).toArray).size ≤ 200000 := by
      have := dec_length hqs
      show (dec (n / d)).toArray.size ≤ _
      rw [List.size_toArray]; omega
    clear hfl hsb htx hqs
    have hrd : n % d < d := Nat.mod_lt _ hd
    have hdt : decText a d = if n % d = 0 then some (signText a ++ dec (n / d)) else (decDig d 64 (n % d)).map fun l => signText a ++ dec (n / d) ++ 46 :: l := by
      rw [HN.out]; rfl
    have HDT := Lib.hid hdt
    clear hdt
    generalize hrr : n % d = r at *
    have Hrr := Lib.hid hrr
    clear hrr
    generalize hqq : n / d = q at *
    have Hqq := Lib.hid hqq
    clear hqq
    generalize hqt : ByteArray.mk (dec q).toArray = qt at *
    have Hqt := Lib.hid hqt
    clear hqt
    have fo1 := o1.free; have co10 := o1.cell 0 _ rfl; have co11 := o1.cell 1 _ rfl; have co12 := o1.cell 2 _ rfl; have co13 := o1.cell 3 _ rfl; have co14 := o1.cell 4 _ rfl
    go_upto_region 4 with (fail)
    go_wp2_with fail
    refine (HFl.out _ wc h1).mono ?_
    rintro e W3 ⟨u, rfl, hu, hb3⟩
    obtain ⟨f0, f2, g1, g3, g4, n1, i1, n3, i3, n4, i4, rfl⟩ := hu.open
    clear co10 co11 co12 co13 co14 fo1
    have hsW3 : wc.heap.size ≤ W3.heap.size := hb3.size; have hB := hB.trans (hb3.mono hB.size); have o1 := o1.below hb3 o1.lt; have h1 := h1.below hb3 (Nat.le_refl _)
    go_upto_region 5 with (fail)
    obtain ⟨V, hV, o5, hBV, hSV⟩ := boxes1 W3 40 [.bool f0, .slice g1 n1 i1, .bool f2, .slice g3 n3 i3, .slice g4 n4 i4]
    rw [← hV]
    clear hV
    have hsV : W3.heap.size ≤ V.heap.size := hBV.size; have hB := hB.trans (hBV.mono hB.size); have o1 := o1.below hBV o1.lt; have h1 := h1.below hBV (Nat.le_refl _); have hu := hu.below hBV (Nat.le_refl _)
    generalize hg5 : W3.heap.size = g5 at *
    have fo1 := o1.free; have co10 := o1.cell 0 _ rfl; have co11 := o1.cell 1 _ rfl; have co12 := o1.cell 2 _ rfl; have co13 := o1.cell 3 _ rfl; have co14 := o1.cell 4 _ rfl; have fo5 := o5.free; have co50 := o5.cell 0 _ rfl; have co51 := o5.cell 1 _ rfl; have co52 := o5.cell 2 _ rfl; have co53 := o5.cell 3 _ rfl; have co54 := o5.cell 4 _ rfl
    go_wp2_with fail
    refine (HSb.out _ _ V h1 hu).mono ?_
    rintro e W4 ⟨u2, rfl, hu2, hb4⟩
    obtain ⟨p0, p2, j1, j3, j4, x1, y1, x3, y3, x4, y4, rfl⟩ := hu2.open
    clear co10 co11 co12 co13 co14 fo1 co50 co51 co52 co53 co54 fo5
    have hsW4 : V.heap.size ≤ W4.heap.size := hb4.size; have hB := hB.trans (hb4.mono hB.size); have o1 := o1.below hb4 o1.lt; have o5 := o5.below hb4 o5.lt; have hu := hu.below hb4 (Nat.le_refl _)
    clear h1
    have hg6 := o1.lt
    go_upto_region 6 with (fail)
    obtain ⟨V2, hV, o6, hBV2, hSV2⟩ := boxes1 W4 40 [.bool p0, .slice j1 x1 y1, .bool p2, .slice j3 x3 y3, .slice j4 x4 y4]
    rw [← hV]
    clear hV
    have hsV2 : W4.heap.size ≤ V2.heap.size := hBV2.size; have hB := hB.trans (hBV2.mono hB.size); have o1 := o1.below hBV2 o1.lt; have o5 := o5.below hBV2 o5.lt; have hu := hu.below hBV2 (Nat.le_refl _); have hu2 := hu2.below hBV2 (Nat.le_refl _)
    generalize hg6' : W4.heap.size = g6 at *
    have hadd : ∀ w, (Op.stringOp .add sg qt).run Tryz.prog w = .ok (.string (sg ++ qt)) w := fun w => run_string_add_sum w _ _ (by show sg.size + qt.size ≤ _; omega)
    have fo5 := o5.free; have co50 := o5.cell 0 _ rfl; have co51 := o5.cell 1 _ rfl; have co52 := o5.cell 2 _ rfl; have co53 := o5.cell 3 _ rfl; have co54 := o5.cell 4 _ rfl
    go_wp2_with fail
    refine (HTx.out _ V2 hu).mono ?_
    rintro e W5 ⟨_, rfl, rfl, hb5⟩
    clear co50 co51 co52 co53 co54 fo5
    have hsW5 : V2.heap.size ≤ W5.heap.size := hb5.size; have hB := hB.trans (hb5.mono hB.size); have o1 := o1.below hb5 o1.lt; have o6 := o6.below hb5 o6.lt; have hu2 := hu2.below hb5 (Nat.le_refl _)
    clear hu o5
    have hrs : r < 2 ^ k := Nat.lt_trans hrd Hdk.out
    have HR := Lib.hid (small_nat hd hrs Hdk.out)
    have hsm := fun v u w h h' => same_spec v u (cq r 0 d) (cq 0 0 1) (k + 4) w h h' (HR.out.mono (by omega)) HS0.out (by omega)
    rw [eq_zero_cq hd] at hsm
    obtain ⟨t, ht⟩ : ∃ t, t = decide (r = 0) := ⟨_, rfl⟩
    rw [← ht] at hsm
    have HSm := Lib.hid hsm
    have Ht := Lib.hid ht
    clear hrs hsm ht
    go_upto_region 7 with (fail)
    have qo60 := o6.cell 0 _ rfl; have qo61 := o6.cell 1 _ rfl; have qo62 := o6.cell 2 _ rfl; have qo63 := o6.cell 3 _ rfl; have qo64 := o6.cell 4 _ rfl
    have o6 : Own W5.drew _ _ _ := o6; have o1 : Own W5.drew _ _ _ := o1; have lto6 : _ < W5.heap.size := o6.lt; have lto1 : _ < W5.heap.size := o1.lt; have hB := hB.drew
    have hu2 := hu2.below ((Below.refl W5.heap.size W5).drew) (Nat.le_refl _)
    have tok1 : True := trivial
    have tok2 : True := trivial
    go_region_held3 (fun w' => w'.cell? ⟨g6, 0, none⟩ = some (.bool p0) ∧ w'.cell? ⟨g6, 1, none⟩ = some (.slice j1 x1 y1) ∧ w'.cell? ⟨g6, 2, none⟩ = some (.bool p2) ∧ w'.cell? ⟨g6, 3, none⟩ = some (.slice j3 x3 y3) ∧ w'.cell? ⟨g6, 4, none⟩ = some (.slice j4 x4 y4)) (first | (with_reducible exact ⟨o6.cell 0 _ rfl, o6.cell 1 _ rfl, o6.cell 2 _ rfl, o6.cell 3 _ rfl, o6.cell 4 _ rfl⟩) | (simp [go_sem, qo60, qo61, qo62, qo63, qo64, lto6]; done))
      (first
        | (go_at_call 36; have _t := tok1; refine (int_spec 0 _ (by omega) (by omega)).mono ?_; rintro e W51 ⟨z0, rfl, hz0, hb1⟩; have hsW51 : W5.heap.size ≤ W51.heap.size := hb1.size; have hB := hB.trans (hb1.mono hB.size); have o6 := o6.below hb1 o6.lt; have o1 := o1.below hb1 o1.lt; have lto6 := o6.lt; have lto1 := o1.lt; have qo60 := o6.cell 0 _ rfl; have qo61 := o6.cell 1 _ rfl; have qo62 := o6.cell 2 _ rfl; have qo63 := o6.cell 3 _ rfl; have qo64 := o6.cell 4 _ rfl; have hu2 := hu2.below hb1 (Nat.le_refl _); clear tok1 _t)
        | (go_at_call 64; have _t := tok2; refine (HSm.out _ _ _ hu2 hz0).mono ?_; rintro e W52 ⟨_, rfl, rfl, hb2⟩; have hsW52 : W51.heap.size ≤ W52.heap.size := hb2.size; have hB := hB.trans (hb2.mono hB.size); have o6 := o6.below hb2 o6.lt; have o1 := o1.below hb2 o1.lt; have lto6 := o6.lt; have lto1 := o1.lt; have qo60 := o6.cell 0 _ rfl; have qo61 := o6.cell 1 _ rfl; have qo62 := o6.cell 2 _ rfl; have qo63 := o6.cell 3 _ rfl; have qo64 := o6.cell 4 _ rfl; have hu2 := hu2.below hb2 (Nat.le_refl _); have hz0 := hz0.below hb2 (Nat.le_refl _); have fo6 := o6.free; have co60 := o6.cell 0 _ rfl; have co61 := o6.cell 1 _ rfl; have co62 := o6.cell 2 _ rfl; have co63 := o6.cell 3 _ rfl; have co64 := o6.cell 4 _ rfl; clear tok2 _t))
    by_cases hr0 : r = 0
    · obtain rfl : t = true := by rw [Ht.out]; simp [hr0]
      have HF : Hid (decRes a d = .tuple #[.string (sg ++ qt), .bool true]) := by
        show _ = _
        unfold decRes
        rw [HDT.out, if_pos hr0, ← Hsgn.out, ← Hqt.out, str_app]
      clear hr0
      go_wp2_with fail
      go_ret2
      exact ⟨_, rfl, HF.out.symm, hB⟩
    · obtain rfl : t = false := by rw [Ht.out]; simp [hr0]
      have Hr0 := Lib.hid hr0
      clear hr0
      have hB0 : NumBox W52 g6 (cq r 0 d) := ⟨_, _, _, _, _, _, _, _, _, _, _, o6, hu2⟩
      clear o6 hu2 co60 co61 co62 co63 co64 fo6 o1
      go_upto_region 10 with (fail)
      obtain ⟨V3, hV, o8, hBV3, hSV3⟩ := boxes1 W52 155 [.pointer none, .slice none 0 0]
      rw [← hV]
      clear hV
      have hg68 : g6 < W52.heap.size := by obtain ⟨_, _, _, _, _, _, _, _, _, _, _, o, _⟩ := hB0; exact o.lt
      have hgw8 : w.heap.size ≤ W52.heap.size := hB.size
      have hB := hB.trans (hBV3.mono hB.size)
      have hB0 := hB0.grown hBV3
      generalize W52.heap.size = g8 at *
      have hbu : BuildAt V3 155 g8 w.heap.size none [] [] := ⟨_, o8, World.ownsRow_nil _ _ _ _⟩
      clear o8
      go_wp2_with fail
      go_loopg [29] 64 (fun g s29 wr => ∃ (i q r' : Nat) (l : List UInt8) (p : Option Addr), i + g = 64 ∧ s29 = .int .i64 (i : Int) ∧ r' < d ∧ NumBox wr g6 (cq r' 0 d) ∧ SelfP g8 p ∧ BuildAt wr 155 g8 w.heap.size p l [] ∧ l.length ≤ i * (k + 5) ∧ Hid (decDig d 64 r = (decDig d g r').map (l ++ ·)) ∧ Hid (q = i) ∧ Below w.heap.size w wr)
      case atStart => exact ⟨0, 0, r, [], none, by omega, rfl, hrd, hB0, .inl rfl, hbu, by simp, opt_nil _, rfl, hB⟩
      case round =>
        clear hbu hB0
        obtain ⟨i, q', r', l, p, hi, rfl, hr', hbx, hsp, hbu, hll, He, -, hB⟩ := hrel
        by_cases hlt : i < 64
        · obtain ⟨f, rfl⟩ : ∃ f, gk = f + 1 := ⟨gk - 1, by omega⟩
          have hbx0 := hbx
          obtain ⟨_, _, _, _, _, _, _, _, _, _, _, o6, -⟩ := hbx0
          have hgr := fun wa (hg : wr.grownBy wa (some g6)) => And.intro (hbu.grownBy hg o6 (by decide) (by omega)) (below_byG hB hg (by omega) hB.size)
          have HGr := Lib.hid hgr
          clear hgr o6 hbu hB
          go_upto_region 12 with (fail)
          refine only_of (dreg12 wr r' d k g6 hbx hd hr' Hdk.out hk ?_)
          clear hbx
          intro wa x31 x32 x33 hbx hg
          obtain ⟨hbu, hB⟩ := HGr.out wa hg
          clear HGr hg
          try simp only [Exit.then]
          obtain ⟨f0, f2, b1, b3, b4, m1, n1, m3, n3, m4, n4, o6, hu⟩ := hbx
          have htn : 10 * r' < 2 ^ (k + 4) := by rw [Nat.pow_add]; have := Hdk.out; omega
          have H10 := Lib.hid (small_nat (k := k + 4) hd htn (Nat.lt_of_lt_of_le Hdk.out (Nat.pow_le_pow_right (by omega) (by omega))))
          have hstep := decDig_step d f r'
          have hqs : 10 * r' / d < 2 ^ (k + 4) := Nat.lt_of_le_of_lt (Nat.div_le_self _ _) htn
          have hrd2 : 10 * r' % d < d := Nat.mod_lt _ hd
          have hfl := fun v w hv => nfloor_spec v (cq (10 * r' : Nat) 0 d) 0 (k + 4) w hv H10.out (by omega) (by omega) (by omega)
          rw [efl, floor_nat hd] at hfl
          have HQ2 := Lib.hid (small_nat (d := 1) (by omega) hqs (Nat.one_lt_two_pow (by omega)))
          have hsb := fun v u w h h' => nsub_spec v u (cq (10 * r' : Nat) 0 d) (cq (10 * r' / d : Nat) 0 1) (k + 4) w h h' H10.out HQ2.out (by omega)
          rw [sub_floor hd] at hsb
          have htx := fun v w hv => text_spec v (cq (10 * r' / d : Nat) 0 1) (k + 4) w hv HQ2.out (by omega)
          rw [numText_nat] at htx
          have hdl2 := dec_length hqs
          have Hfl := Lib.hid hfl
          have Hsb := Lib.hid hsb
          have Htx := Lib.hid htx
          have Hst := Lib.hid hstep
          clear hfl hsb htx hstep htn hqs
          generalize 10 * r' / d = q2 at *
          generalize hr2 : 10 * r' % d = r2 at *
          generalize hN10 : 10 * r' = N10 at *
          clear hN10 hr2
          generalize hDq : dec q2 = Dq at *
          have HDq := Lib.hid hDq
          have hDne : Dq ≠ [] := by rw [← hDq]; exact dec_ne _
          have HDne := Lib.hid hDne
          clear hDne
          clear hDq
          have fo6 := o6.free; have co60 := o6.cell 0 _ rfl; have co61 := o6.cell 1 _ rfl; have co62 := o6.cell 2 _ rfl; have co63 := o6.cell 3 _ rfl; have co64 := o6.cell 4 _ rfl
          go_wp2_with fail
          refine (Hfl.out _ wa hu).mono ?_
          rintro e W6 ⟨u3, rfl, hu3, hb6⟩
          obtain ⟨p0, p2, d1, d3, d4, i1, k1, i3, k3, i4, k4, rfl⟩ := hu3.open
          clear co60 co61 co62 co63 co64 fo6
          have hbu := hbu.below hb6
          have hsW6 : wa.heap.size ≤ W6.heap.size := hb6.size; have hB := hB.trans (hb6.mono hB.size); have o6 := o6.below hb6 o6.lt; have hu := hu.below hb6 (Nat.le_refl _)
          have hg8lt := hbu.lt
          go_upto_region 14 with (fail)
          obtain ⟨V6, hV, o9, hBV6, hSV6⟩ := boxes1 W6 40 [.bool p0, .slice d1 i1 k1, .bool p2, .slice d3 i3 k3, .slice d4 i4 k4]
          rw [← hV]
          clear hV
          have hbu := hbu.below hBV6
          have hg69 : g6 < W6.heap.size := o6.lt
          have hg9w : w.heap.size ≤ W6.heap.size := hB.size
          have hsV6 : W6.heap.size ≤ V6.heap.size := hBV6.size; have hB := hB.trans (hBV6.mono hB.size); have o6 := o6.below hBV6 o6.lt; have hu := hu.below hBV6 (Nat.le_refl _); have hu3 := hu3.below hBV6 (Nat.le_refl _)
          generalize hg9 : W6.heap.size = g9 at *
          have fo6 := o6.free; have co60 := o6.cell 0 _ rfl; have co61 := o6.cell 1 _ rfl; have co62 := o6.cell 2 _ rfl; have co63 := o6.cell 3 _ rfl; have co64 := o6.cell 4 _ rfl; have fo9 := o9.free; have co90 := o9.cell 0 _ rfl; have co91 := o9.cell 1 _ rfl; have co92 := o9.cell 2 _ rfl; have co93 := o9.cell 3 _ rfl; have co94 := o9.cell 4 _ rfl
          go_wp2_with fail
          refine (Hsb.out _ _ V6 hu hu3).mono ?_
          rintro e W7 ⟨u4, rfl, hu4, hb7⟩
          obtain ⟨r0, r2', h1', h3', h4', y1', z1', y3', z3', y4', z4', rfl⟩ := hu4.open
          clear co60 co61 co62 co63 co64 fo6 co90 co91 co92 co93 co94 fo9
          have hbu := hbu.below hb7
          have hsW7 : V6.heap.size ≤ W7.heap.size := hb7.size; have hB := hB.trans (hb7.mono hB.size); have o6 := o6.below hb7 o6.lt; have o9 := o9.below hb7 o9.lt; have hu3 := hu3.below hb7 (Nat.le_refl _)
          clear hu
          have fo6 := o6.free; have co60 := o6.cell 0 _ rfl; have co61 := o6.cell 1 _ rfl; have co62 := o6.cell 2 _ rfl; have co63 := o6.cell 3 _ rfl; have co64 := o6.cell 4 _ rfl
          go_upto_region 15 with (fail)
          obtain ⟨WS, hWS⟩ : ∃ WS, WS = (((((W7.setCell ⟨g6, 0, none⟩ (.bool r0)).setCell ⟨g6, 1, none⟩ (.slice h1' y1' z1')).setCell ⟨g6, 2, none⟩ (.bool r2')).setCell ⟨g6, 3, none⟩ (.slice h3' y3' z3')).setCell ⟨g6, 4, none⟩ (.slice h4' y4' z4')) := ⟨_, rfl⟩
          have hgS : W7.grownBy WS (some g6) := by rw [hWS]; exact grown_sets5 (grown_refl _ _)
          have hbx : NumBox WS g6 (cq r2 0 d) := by rw [hWS]; exact numbox_end hu4 o6 rfl
          have hu3S : NumRep WS (.agg #[.bool p0, .slice d1 i1 k1, .bool p2, .slice d3 i3 k3, .slice d4 i4 k4]) (cq q2 0 1) := by rw [hWS]; exact put5 hu3 o6
          have hbu := hbu.grownBy hgS o6 (by decide) (by omega)
          have hB := below_byG hB hgS (by omega) hB.size
          have o9 := o9.byG hgS (by omega)
          rw [← hWS]
          clear hWS hgS hu4 o6 co60 co61 co62 co63 co64 fo6 hu3
          have fo9 := o9.free; have co90 := o9.cell 0 _ rfl; have co91 := o9.cell 1 _ rfl; have co92 := o9.cell 2 _ rfl; have co93 := o9.cell 3 _ rfl; have co94 := o9.cell 4 _ rfl
          go_wp2_with fail
          refine (Htx.out _ WS hu3S).mono ?_
          rintro e W8 ⟨_, rfl, rfl, hb8⟩
          clear co90 co91 co92 co93 co94 fo9 hu3S
          have hbu := hbu.below hb8
          have hbx := hbx.grown hb8
          have hBw := hB.size
          have hB := hB.trans (hb8.mono hB.size)
          have hlb : l.length ≤ 64 * 100005 := Nat.le_trans hll (Nat.mul_le_mul (by omega) (by omega))
          go_wp2_with fail
          refine (writeString_spec 155 g8 w.heap.size p l Dq [] W8 lies_builder hbu hsp (by omega) hB.size).mono ?_
          rintro e W9 ⟨⟨_, rfl⟩, hbu9, hk9⟩
          have hbx : NumBox W9 g6 (cq r2 0 d) := by
            obtain ⟨v9, ob, _⟩ := hbu
            exact hbx.keptX hk9 ob (by decide) (by omega)
          have hB := hB.trans (hk9.below (by omega) (Nat.le_refl _) hB.size)
          have hlen9 : (l ++ Dq).length ≤ (i + 1) * (k + 5) := by rw [List.length_append, Nat.add_mul]; omega
          clear hbu hk9 hsp hll hlb
          obtain ⟨f5, f7, b5, b7, b9, m5, n5, m7, n7, m9, n9, o6, hu5⟩ := hbx
          have hrs2 : r2 < 2 ^ k := Nat.lt_trans hrd2 Hdk.out
          have HR2 := Lib.hid (small_nat hd hrs2 Hdk.out)
          have hsm := fun v u w h h' => same_spec v u (cq r2 0 d) (cq 0 0 1) (k + 4) w h h' (HR2.out.mono (by omega)) HS0.out (by omega)
          rw [eq_zero_cq hd] at hsm
          obtain ⟨t, ht⟩ : ∃ t, t = decide (r2 = 0) := ⟨_, rfl⟩
          rw [← ht] at hsm
          have HSm2 := Lib.hid hsm
          have Ht2 := Lib.hid ht
          clear hrs2 hsm ht
          have Hlen9 := Lib.hid hlen9
          clear hlen9
          go_upto_region 16 with (fail)
          have qo60 := o6.cell 0 _ rfl; have qo61 := o6.cell 1 _ rfl; have qo62 := o6.cell 2 _ rfl; have qo63 := o6.cell 3 _ rfl; have qo64 := o6.cell 4 _ rfl
          have o6 : Own W9.drew _ _ _ := o6; have lto6 : _ < W9.heap.size := o6.lt; have hB := hB.drew
          have hu5 := hu5.below ((Below.refl W9.heap.size W9).drew) (Nat.le_refl _)
          have tok1 : True := trivial
          have tok2 : True := trivial
          go_region_held3 (fun w' => w'.cell? ⟨g6, 0, none⟩ = some (.bool f5) ∧ w'.cell? ⟨g6, 1, none⟩ = some (.slice b5 m5 n5) ∧ w'.cell? ⟨g6, 2, none⟩ = some (.bool f7) ∧ w'.cell? ⟨g6, 3, none⟩ = some (.slice b7 m7 n7) ∧ w'.cell? ⟨g6, 4, none⟩ = some (.slice b9 m9 n9)) (first | (with_reducible exact ⟨o6.cell 0 _ rfl, o6.cell 1 _ rfl, o6.cell 2 _ rfl, o6.cell 3 _ rfl, o6.cell 4 _ rfl⟩) | (simp [go_sem, qo60, qo61, qo62, qo63, qo64, lto6]; done))
            (first
              | (go_at_call 36; have _t := tok1; refine (int_spec 0 _ (by omega) (by omega)).mono ?_; rintro e W91 ⟨z0, rfl, hz0, hb1⟩; have hsW91 : W9.heap.size ≤ W91.heap.size := hb1.size; have hB := hB.trans (hb1.mono hB.size); have o6 := o6.below hb1 o6.lt; have lto6 := o6.lt; have qo60 := o6.cell 0 _ rfl; have qo61 := o6.cell 1 _ rfl; have qo62 := o6.cell 2 _ rfl; have qo63 := o6.cell 3 _ rfl; have qo64 := o6.cell 4 _ rfl; have hu5 := hu5.below hb1 (Nat.le_refl _); have hbu9 := BuildAt.below (w := W9.drew) hbu9 hb1; clear tok1 _t)
              | (go_at_call 64; have _t := tok2; refine (HSm2.out _ _ _ hu5 hz0).mono ?_; rintro e W92 ⟨_, rfl, rfl, hb2⟩; have hsW92 : W91.heap.size ≤ W92.heap.size := hb2.size; have hB := hB.trans (hb2.mono hB.size); have o6 := o6.below hb2 o6.lt; have lto6 := o6.lt; have qo60 := o6.cell 0 _ rfl; have qo61 := o6.cell 1 _ rfl; have qo62 := o6.cell 2 _ rfl; have qo63 := o6.cell 3 _ rfl; have qo64 := o6.cell 4 _ rfl; have hu5 := hu5.below hb2 (Nat.le_refl _); have hz0 := hz0.below hb2 (Nat.le_refl _); have hbu9 := hbu9.below hb2; clear tok2 _t))
          by_cases hr20 : r2 = 0
          · obtain rfl : t = true := by rw [Ht2.out]; simp [hr20]
            have h1 := Hst.out
            rw [if_pos hr20] at h1
            have hfull : decText a d = some (signText a ++ dec q ++ 46 :: (l ++ Dq)) := by
              rw [HDT.out, if_neg Hr0.out, He.out, h1]; rfl
            have hsz : (ByteArray.mk (l ++ Dq).toArray).size ≤ 7000000 := by
              show (l ++ Dq).toArray.size ≤ _
              rw [List.size_toArray]
              exact Nat.le_trans Hlen9.out (Nat.le_trans (Nat.mul_le_mul (show i + 1 ≤ 64 by omega) (show k + 5 ≤ 100005 by omega)) (by omega))
            have hne : l ++ Dq ≠ [] := by simp [HDne.out]
            have hst := fun W h => string_spec 155 g8 w.heap.size (some ⟨g8, 0, none⟩) (l ++ Dq) [] W h hne
            generalize hE : ByteArray.mk (l ++ Dq).toArray = E at *
            have HSt := Lib.hid hst
            have HF : Hid (decRes a d = .tuple #[.string ((sg ++ qt) ++ ⟨#[46]⟩ ++ E), .bool true]) := by
              show _ = _
              unfold decRes
              rw [hfull, ← Hsgn.out, ← Hqt.out, ← hE, str_app, show (ByteArray.mk #[46]) = ByteArray.mk [46].toArray from rfl, str_app, str_app]
              simp
            have hadd1 : ∀ w, (Op.stringOp .add (sg ++ qt) ⟨#[46]⟩).run Tryz.prog w = .ok (.string ((sg ++ qt) ++ ⟨#[46]⟩)) w := fun w => run_string_add_sum w _ _ (by rw [ByteArray.size_append]; show sg.size + qt.size + 1 ≤ _; omega)
            have hadd2 : ∀ w, (Op.stringOp .add ((sg ++ qt) ++ ⟨#[46]⟩) E).run Tryz.prog w = .ok (.string ((sg ++ qt) ++ ⟨#[46]⟩ ++ E)) w := fun w => run_string_add_sum w _ _ (by rw [ByteArray.size_append, ByteArray.size_append]; show sg.size + qt.size + 1 + E.size ≤ _; omega)
            clear hr20 h1 hfull hst hE hne hadd
            go_wp2_with fail
            refine (HSt.out W92 hbu9).mono ?_
            rintro e Wz ⟨rfl, hbz⟩
            go_wp2_with fail
            go_ret2
            exact ⟨_, rfl, HF.out.symm, hB.trans hbz⟩
          · obtain rfl : t = false := by rw [Ht2.out]; simp [hr20]
            have h1 := Hst.out
            rw [if_neg hr20] at h1
            have hnext : Hid (decDig d 64 r = (decDig d f r2).map ((l ++ Dq) ++ ·)) := by
              show _ = _
              rw [He.out, h1, opt_app]
            clear hr20 h1
            have hbx : NumBox W92 g6 (cq r2 0 d) := ⟨_, _, _, _, _, _, _, _, _, _, _, o6, hu5⟩
            go_wp2_with fail
            go_roundg f
            case measure => omega
            case rel => exact ⟨i + 1, i + 1, r2, l ++ Dq, _, by omega, by go_num, hrd2, hbx, .inr rfl, hbu9, Hlen9.out, hnext, rfl, hB⟩
        · obtain rfl : gk = 0 := by omega
          have HF : Hid (decRes a d = .tuple #[.string ⟨#[]⟩, .bool false]) := by
            show _ = _
            have h1 := He.out
            unfold decRes
            rw [HDT.out, if_neg Hr0.out, h1]
            rfl
          go_wp2_with fail
          go_ret2
          exact ⟨_, rfl, HF.out.symm, hB⟩
end Go.Proofs.YtfkogkcpndaoeaaGreat
