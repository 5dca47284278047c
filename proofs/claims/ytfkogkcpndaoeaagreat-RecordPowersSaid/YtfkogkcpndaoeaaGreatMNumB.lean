/- Numbers: Int, New, Re, Im, Neg, Add, Sub, Mul. Conditions: fewer than 2^40 bits. Numbers: New, Neg, Sub, Im, Real, Cmp, Same, Floor. Conditions: fewer than 2^40 bits. -/
import Derived.Test.YtfkogkcpndaoeaaGreatMNum
set_option linter.all false
namespace Go.Proofs.YtfkogkcpndaoeaaGreat
open Go.RowKit
structure NumAll (w : World) (v : Value) (x : CQ) (a b : Int) (d : Nat) (s1 s2 : Bool) (a1 a2 a3 : Option Addr) (l1 c1 l2 c2 l3 c3 : Nat) : Prop where
  e : v = .agg #[.bool s1, .slice a1 l1 c1, .bool s2, .slice a2 l2 c2, .slice a3 l3 c3]
  wa : WholeRep w (.agg #[.bool s1, .slice a1 l1 c1]) a
  wb : WholeRep w (.agg #[.bool s2, .slice a2 l2 c2]) b
  tri : Tri w v a b d
  low : Low a b d
  x : x = cq a b d
  la : l1 = 0 ↔ a = 0
  lb : l2 = 0 ↔ b = 0
  ld : l3 = 0 ↔ d = 1
  nd : NatRep w (.slice a3 l3 c3) (if d = 1 then 0 else d)
theorem NumRep.all {w : World} {v : Value} {x : CQ} (h : NumRep w v x) : ∃ (a b : Int) (d : Nat) (s1 s2 : Bool) (a1 a2 a3 : Option Addr) (l1 c1 l2 c2 l3 c3 : Nat), NumAll w v x a b d s1 s2 a1 a2 a3 l1 c1 l2 c2 l3 c3 := by
  obtain ⟨a, b, d, ht, rfl⟩ := h
  have ht' := ht
  obtain ⟨a1, a2, a3, l1, c1, l2, c2, l3, c3, rfl, h1, h2, h3, hl, h4⟩ := ht.open
  obtain ⟨_, _, _, e1, f1, _, _⟩ := h1.any
  injection e1 with _ e1 _
  subst e1
  obtain ⟨_, _, _, e2, f2, _, _⟩ := h2.any
  injection e2 with _ e2 _
  subst e2
  exact ⟨a, b, d, decide (a < 0), decide (b < 0), a1, a2, a3, l1, c1, l2, c2, l3, c3, rfl, ⟨_, rfl, h1⟩, ⟨_, rfl, h2⟩, ht', h4, rfl, by rw [f1]; omega, by rw [f2]; omega, hl, h3⟩
theorem whole_zero {w : World} : WholeRep w (.agg #[.bool false, .slice none 0 0]) 0 := ⟨_, rfl, NatRep.zero⟩
theorem WholeRep.open {w : World} {v : Value} {z : Int} (h : WholeRep w v z) : ∃ (s : Bool) (a : Option Addr) (l c : Nat), v = .agg #[.bool s, .slice a l c] ∧ (l = 0 ↔ z = 0) ∧ (s = true ↔ z < 0) := by
  obtain ⟨m, rfl, hm⟩ := h
  obtain ⟨a, l, c, rfl, e, _, _⟩ := hm.any
  exact ⟨_, a, l, c, rfl, by rw [e]; omega, by simp⟩
theorem num_int {w : World} {s : Bool} {a : Option Addr} {l c : Nat} {z : Int} (h : WholeRep w (.agg #[.bool s, .slice a l c]) z) : NumRep w (.agg #[.bool s, .slice a l c, .bool false, .slice none 0 0, .slice none 0 0]) (cq z 0 1) := by
  obtain ⟨m, e, hm⟩ := h
  simp only [Value.agg.injEq, Array.mk.injEq, List.cons.injEq, and_true] at e
  obtain ⟨e1, rfl⟩ := e
  exact ⟨z, 0, 1, ⟨_, _, _, by rw [← e1]; rfl, hm, NatRep.zero, by simpa using NatRep.zero, by simp [Low]⟩, rfl⟩
set_option maxHeartbeats 400000 in
theorem int_spec (z : Int) (w : World) (h1 : -9223372036854775808 ≤ z) (h2 : z ≤ 9223372036854775807) :
    Calls Tryz.prog 36 #[.int .i64 z] w (Ret w fun w' v' => NumRep w' v' (cq z 0 1)) := by
  go_enter Tryz.func36, Tryz.ntmps36
  go_wp2_with fail
  obtain ⟨W, hW, o1, hB, hS⟩ := boxes1 w 40 [.bool false, .slice none 0 0, .bool false, .slice none 0 0, .slice none 0 0]
  rw [← hW]
  clear hW
  refine (of64_spec z W h1 h2).mono ?_
  rintro e W1 ⟨_, rfl, ⟨hw, _⟩, hb1⟩
  obtain ⟨s, a, l, c, rfl, _, _⟩ := hw.open
  have hsW1 : W.heap.size ≤ W1.heap.size := hb1.size; have hB := hB.trans (hb1.mono hB.size); have o1 := o1.below hb1 o1.lt; have fo1 := o1.free; have co10 := o1.cell 0 _ rfl; have co11 := o1.cell 1 _ rfl; have co12 := o1.cell 2 _ rfl; have co13 := o1.cell 3 _ rfl; have co14 := o1.cell 4 _ rfl
  go_wp2_with fail
  refine bodyPost_ret (v := .agg #[.bool s, .slice a l c, .bool false, .slice none 0 0, .slice none 0 0]) (by simp [results, Tryz.results36, go_sem, co10, co11, co12, co13, co14]) rfl ⟨_, rfl, ?_, ?_⟩
  · exact num_ret (num_int hw) o1
  · exact below5 hB (Nat.le_refl _)
set_option maxRecDepth 100000 in
set_option maxHeartbeats 800000 in
theorem re_spec (v : Value) (x : CQ) (k : Nat) (w : World) (h : NumRep w v x) (hs : Small k x) (hk : k ≤ 1099511627776) :
    Calls Tryz.prog 83 #[v] w (Ret w fun w' v' => NumRep w' v' ⟨x.re, 0⟩) := by
  obtain ⟨a, b, d, s1, s2, a1, a2, a3, l1, c1, l2, c2, l3, c3, rfl, wa, wb, tri, low, rfl, -, -, -, -⟩ := h.all
  obtain ⟨hs1, hs2, hs3⟩ := hs.low low
  have hfin : cq a 0 d = ⟨(cq a b d).re, 0⟩ := CQ.ext rfl (show ((0 : Int) : Rat) / _ = 0 by rw [Rat.div_def]; simp)
  have HF := Lib.hid hfin
  clear hfin
  go_enter Tryz.func83, Tryz.ntmps83
  go_upto_region 1 with (fail)
  obtain ⟨W, hW, o1, o3, hB, hS⟩ := boxes2 w 40 40 [.bool s1, .slice a1 l1 c1, .bool s2, .slice a2 l2 c2, .slice a3 l3 c3] [.bool false, .slice none 0 0, .bool false, .slice none 0 0, .slice none 0 0]
  rw [← hW]
  clear hW
  have o1 : Own W.drew _ _ _ := o1; have o3 : Own W.drew _ _ _ := o3; have hB := hB.drew
  go_region_held3 (fun w' => w'.cell? ⟨w.heap.size, 0, none⟩ = some (.bool s1) ∧ w'.cell? ⟨w.heap.size, 1, none⟩ = some (.slice a1 l1 c1) ∧ w'.cell? ⟨w.heap.size, 2, none⟩ = some (.bool s2) ∧ w'.cell? ⟨w.heap.size, 3, none⟩ = some (.slice a2 l2 c2) ∧ w'.cell? ⟨w.heap.size, 4, none⟩ = some (.slice a3 l3 c3)) (first | (with_reducible exact ⟨o1.cell 0 _ rfl, o1.cell 1 _ rfl, o1.cell 2 _ rfl, o1.cell 3 _ rfl, o1.cell 4 _ rfl⟩) | (simp [go_sem, o1.cell 0 _ rfl, o1.cell 1 _ rfl, o1.cell 2 _ rfl, o1.cell 3 _ rfl, o1.cell 4 _ rfl, o1.lt]; done))
    (first
      | (go_at_call 75; refine (den_spec _ a b d _ (tri.below hB (Nat.le_refl _))).mono ?_; rintro e W1 ⟨v1, rfl, hv1, hb1⟩; have hsW1 : W.heap.size ≤ W1.heap.size := hb1.size; have hB := hB.trans (hb1.mono hB.size); have o1 := o1.below hb1 o1.lt; have o3 := o3.below hb1 o3.lt)
      | (go_at_call 91; refine (over_spec _ _ _ a 0 d k _ (wa.below hB (Nat.le_refl _)) whole_zero hv1 low.1 hs1 (Nat.two_pow_pos k) hs3 (by omega)).mono ?_; rintro e W2 ⟨v2, rfl, hv2, hb2⟩; obtain ⟨_, _, _, _, _, _, _, _, _, _, _, rfl⟩ := hv2.open; have hsW2 : W1.heap.size ≤ W2.heap.size := hb2.size; have hB := hB.trans (hb2.mono hB.size); have o1 := o1.below hb2 o1.lt; have o3 := o3.below hb2 o3.lt; have fo3 := o3.free; have co30 := o3.cell 0 _ rfl; have co31 := o3.cell 1 _ rfl; have co32 := o3.cell 2 _ rfl; have co33 := o3.cell 3 _ rfl; have co34 := o3.cell 4 _ rfl))
  go_wp2_with fail
  rw [HF.out] at hv2
  refine bodyPost_ret (by simp [results, Tryz.results83, go_sem, co30, co31, co32, co33, co34]) rfl ⟨_, rfl, num_ret hv2 o3, below5 hB (by omega)⟩
theorem num_end {w W : World} {E : TypeId} {g : Nat} {x y : CQ} {s0 s2 b0 b2 : Bool} {a1 a3 a4 x1 x3 x4 : Option Addr} {l1 c1 l3 c3 l4 c4 y1 z1 y3 z3 y4 z4 : Nat}
    (h : NumRep W (.agg #[.bool s0, .slice a1 l1 c1, .bool s2, .slice a3 l3 c3, .slice a4 l4 c4]) x) (o : Own W E g [.bool b0, .slice x1 y1 z1, .bool b2, .slice x3 y3 z3, .slice x4 y4 z4]) (hB : Below w.heap.size w W) (hg : w.heap.size ≤ g) (e : x = y) :
    Ret w (fun w' v' => NumRep w' v' y) (.returned (.agg #[.bool s0, .slice a1 l1 c1, .bool s2, .slice a3 l3 c3, .slice a4 l4 c4])) (((((W.setCell ⟨g, 0, none⟩ (.bool s0)).setCell ⟨g, 1, none⟩ (.slice a1 l1 c1)).setCell ⟨g, 2, none⟩ (.bool s2)).setCell ⟨g, 3, none⟩ (.slice a3 l3 c3)).setCell ⟨g, 4, none⟩ (.slice a4 l4 c4)) := by
  subst e
  exact ⟨_, rfl, num_ret h o, below5 hB hg⟩
set_option maxRecDepth 100000 in
set_option maxHeartbeats 1600000 in
theorem nadd_spec (v u : Value) (x y : CQ) (k : Nat) (w : World) (h : NumRep w v x) (h' : NumRep w u y) (hs : Small k x) (hs' : Small k y) (hk : k ≤ 1099511627776) :
    Calls Tryz.prog 176 #[v, u] w (Ret w fun w' v' => NumRep w' v' (x.add y)) := by
  obtain ⟨a, b, d, s1, s2, a1, a2, a3, l1, c1, l2, c2, l3, c3, rfl, wa, wb, tri, low, rfl, -, -, -, -⟩ := h.all
  obtain ⟨a', b', d', t1, t2, p1, p2, p3, m1, n1, m2, n2, m3, n3, rfl, wa', wb', tri', low', rfl, -, -, -, -⟩ := h'.all
  obtain ⟨hs1, hs2, hs3⟩ := hs.low low
  obtain ⟨hs1', hs2', hs3'⟩ := hs'.low low'
  clear h h' hs hs'
  have B1 := Lib.hid (mul_small' hs1 hs3')
  have B2 := Lib.hid (mul_small' hs1' hs3)
  have B3 := Lib.hid (mul_small' hs2 hs3')
  have B4 := Lib.hid (mul_small' hs2' hs3)
  have B5 := Lib.hid (nmul_small hs3 hs3')
  go_enter Tryz.func176, Tryz.ntmps176
  go_upto_region 1 with (fail)
  obtain ⟨W, hW, o1, o2, o3, hB, hS⟩ := boxes3 w 40 40 40 [.bool s1, .slice a1 l1 c1, .bool s2, .slice a2 l2 c2, .slice a3 l3 c3] [.bool t1, .slice p1 m1 n1, .bool t2, .slice p2 m2 n2, .slice p3 m3 n3] [.bool false, .slice none 0 0, .bool false, .slice none 0 0, .slice none 0 0]
  rw [← hW]
  clear hW
  have qo10 := o1.cell 0 _ rfl; have qo11 := o1.cell 1 _ rfl; have qo12 := o1.cell 2 _ rfl; have qo13 := o1.cell 3 _ rfl; have qo14 := o1.cell 4 _ rfl; have qo20 := o2.cell 0 _ rfl; have qo21 := o2.cell 1 _ rfl; have qo22 := o2.cell 2 _ rfl; have qo23 := o2.cell 3 _ rfl; have qo24 := o2.cell 4 _ rfl
  have o1 : Own W.drew _ _ _ := o1; have o2 : Own W.drew _ _ _ := o2; have o3 : Own W.drew _ _ _ := o3; have lto1 : _ < W.heap.size := o1.lt; have lto2 : _ < W.heap.size := o2.lt; have lto3 : _ < W.heap.size := o3.lt; have hB := hB.drew
  have wa := wa.below hB (Nat.le_refl _); have wb := wb.below hB (Nat.le_refl _); have tri := tri.below hB (Nat.le_refl _); have wa' := wa'.below hB (Nat.le_refl _); have wb' := wb'.below hB (Nat.le_refl _); have tri' := tri'.below hB (Nat.le_refl _)
  have tok1 : True := trivial
  have tok2 : True := trivial
  go_region_held3 (fun w' => w'.cell? ⟨w.heap.size, 0, none⟩ = some (.bool s1) ∧ w'.cell? ⟨w.heap.size, 1, none⟩ = some (.slice a1 l1 c1) ∧ w'.cell? ⟨w.heap.size, 2, none⟩ = some (.bool s2) ∧ w'.cell? ⟨w.heap.size, 3, none⟩ = some (.slice a2 l2 c2) ∧ w'.cell? ⟨w.heap.size, 4, none⟩ = some (.slice a3 l3 c3) ∧ w'.cell? ⟨w.heap.size + 1, 0, none⟩ = some (.bool t1) ∧ w'.cell? ⟨w.heap.size + 1, 1, none⟩ = some (.slice p1 m1 n1) ∧ w'.cell? ⟨w.heap.size + 1, 2, none⟩ = some (.bool t2) ∧ w'.cell? ⟨w.heap.size + 1, 3, none⟩ = some (.slice p2 m2 n2) ∧ w'.cell? ⟨w.heap.size + 1, 4, none⟩ = some (.slice p3 m3 n3)) (first | (with_reducible exact ⟨o1.cell 0 _ rfl, o1.cell 1 _ rfl, o1.cell 2 _ rfl, o1.cell 3 _ rfl, o1.cell 4 _ rfl, o2.cell 0 _ rfl, o2.cell 1 _ rfl, o2.cell 2 _ rfl, o2.cell 3 _ rfl, o2.cell 4 _ rfl⟩) | (simp [go_sem, qo10, qo11, qo12, qo13, qo14, qo20, qo21, qo22, qo23, qo24, lto1, lto2]; done))
    (first
      | (go_at_call 75; have _t := tok1; refine (den_spec _ a b d _ tri).mono ?_; rintro e W1 ⟨d1, rfl, hd1, hb1⟩; have hsW1 : W.heap.size ≤ W1.heap.size := hb1.size; have hB := hB.trans (hb1.mono hB.size); have o1 := o1.below hb1 o1.lt; have o2 := o2.below hb1 o2.lt; have o3 := o3.below hb1 o3.lt; have lto1 := o1.lt; have lto2 := o2.lt; have lto3 := o3.lt; have qo10 := o1.cell 0 _ rfl; have qo11 := o1.cell 1 _ rfl; have qo12 := o1.cell 2 _ rfl; have qo13 := o1.cell 3 _ rfl; have qo14 := o1.cell 4 _ rfl; have qo20 := o2.cell 0 _ rfl; have qo21 := o2.cell 1 _ rfl; have qo22 := o2.cell 2 _ rfl; have qo23 := o2.cell 3 _ rfl; have qo24 := o2.cell 4 _ rfl; have wa := wa.below hb1 (Nat.le_refl _); have wb := wb.below hb1 (Nat.le_refl _); have tri := tri.below hb1 (Nat.le_refl _); have wa' := wa'.below hb1 (Nat.le_refl _); have wb' := wb'.below hb1 (Nat.le_refl _); have tri' := tri'.below hb1 (Nat.le_refl _); clear tok1 _t)
      | (go_at_call 75; have _t := tok2; refine (den_spec _ a' b' d' _ tri').mono ?_; rintro e W2 ⟨d2, rfl, hd2, hb2⟩; have hsW2 : W1.heap.size ≤ W2.heap.size := hb2.size; have hB := hB.trans (hb2.mono hB.size); have o1 := o1.below hb2 o1.lt; have o2 := o2.below hb2 o2.lt; have o3 := o3.below hb2 o3.lt; have lto1 := o1.lt; have lto2 := o2.lt; have lto3 := o3.lt; have qo10 := o1.cell 0 _ rfl; have qo11 := o1.cell 1 _ rfl; have qo12 := o1.cell 2 _ rfl; have qo13 := o1.cell 3 _ rfl; have qo14 := o1.cell 4 _ rfl; have qo20 := o2.cell 0 _ rfl; have qo21 := o2.cell 1 _ rfl; have qo22 := o2.cell 2 _ rfl; have qo23 := o2.cell 3 _ rfl; have qo24 := o2.cell 4 _ rfl; have wa := wa.below hb2 (Nat.le_refl _); have wb := wb.below hb2 (Nat.le_refl _); have tri := tri.below hb2 (Nat.le_refl _); have wa' := wa'.below hb2 (Nat.le_refl _); have wb' := wb'.below hb2 (Nat.le_refl _); have tri' := tri'.below hb2 (Nat.le_refl _); have hd1 := hd1.below hb2 (Nat.le_refl _); clear tok2 _t))
  go_upto_region 2 with (fail)
  have qo10 := o1.cell 0 _ rfl; have qo11 := o1.cell 1 _ rfl; have qo12 := o1.cell 2 _ rfl; have qo13 := o1.cell 3 _ rfl; have qo14 := o1.cell 4 _ rfl; have qo20 := o2.cell 0 _ rfl; have qo21 := o2.cell 1 _ rfl; have qo22 := o2.cell 2 _ rfl; have qo23 := o2.cell 3 _ rfl; have qo24 := o2.cell 4 _ rfl
  have o1 : Own W2.drew _ _ _ := o1; have o2 : Own W2.drew _ _ _ := o2; have o3 : Own W2.drew _ _ _ := o3; have lto1 : _ < W2.heap.size := o1.lt; have lto2 : _ < W2.heap.size := o2.lt; have lto3 : _ < W2.heap.size := o3.lt; have hB := hB.drew
  have wa := wa.below ((Below.refl W2.heap.size W2).drew) (Nat.le_refl _); have wb := wb.below ((Below.refl W2.heap.size W2).drew) (Nat.le_refl _); have wa' := wa'.below ((Below.refl W2.heap.size W2).drew) (Nat.le_refl _); have wb' := wb'.below ((Below.refl W2.heap.size W2).drew) (Nat.le_refl _); have hd1 := hd1.below ((Below.refl W2.heap.size W2).drew) (Nat.le_refl _); have hd2 := hd2.below ((Below.refl W2.heap.size W2).drew) (Nat.le_refl _)
  have tok1 : True := trivial
  have tok2 : True := trivial
  have tok3 : True := trivial
  have tok4 : True := trivial
  have tok5 : True := trivial
  have tok6 : True := trivial
  have tok7 : True := trivial
  have tok8 : True := trivial
  go_region_held3 (fun w' => w'.cell? ⟨w.heap.size, 0, none⟩ = some (.bool s1) ∧ w'.cell? ⟨w.heap.size, 1, none⟩ = some (.slice a1 l1 c1) ∧ w'.cell? ⟨w.heap.size, 2, none⟩ = some (.bool s2) ∧ w'.cell? ⟨w.heap.size, 3, none⟩ = some (.slice a2 l2 c2) ∧ w'.cell? ⟨w.heap.size, 4, none⟩ = some (.slice a3 l3 c3) ∧ w'.cell? ⟨w.heap.size + 1, 0, none⟩ = some (.bool t1) ∧ w'.cell? ⟨w.heap.size + 1, 1, none⟩ = some (.slice p1 m1 n1) ∧ w'.cell? ⟨w.heap.size + 1, 2, none⟩ = some (.bool t2) ∧ w'.cell? ⟨w.heap.size + 1, 3, none⟩ = some (.slice p2 m2 n2) ∧ w'.cell? ⟨w.heap.size + 1, 4, none⟩ = some (.slice p3 m3 n3)) (first | (with_reducible exact ⟨o1.cell 0 _ rfl, o1.cell 1 _ rfl, o1.cell 2 _ rfl, o1.cell 3 _ rfl, o1.cell 4 _ rfl, o2.cell 0 _ rfl, o2.cell 1 _ rfl, o2.cell 2 _ rfl, o2.cell 3 _ rfl, o2.cell 4 _ rfl⟩) | (simp [go_sem, qo10, qo11, qo12, qo13, qo14, qo20, qo21, qo22, qo23, qo24, lto1, lto2]; done))
    (first
      | (go_at_call 104; have _t := tok1; refine (scaled_spec _ _ a d' k _ wa hd2 hs1 hs3' (by omega)).mono ?_; rintro e W21 ⟨u1, rfl, hu1, hb1⟩; have hsW21 : W2.heap.size ≤ W21.heap.size := hb1.size; have hB := hB.trans (hb1.mono hB.size); have o1 := o1.below hb1 o1.lt; have o2 := o2.below hb1 o2.lt; have o3 := o3.below hb1 o3.lt; have lto1 := o1.lt; have lto2 := o2.lt; have lto3 := o3.lt; have qo10 := o1.cell 0 _ rfl; have qo11 := o1.cell 1 _ rfl; have qo12 := o1.cell 2 _ rfl; have qo13 := o1.cell 3 _ rfl; have qo14 := o1.cell 4 _ rfl; have qo20 := o2.cell 0 _ rfl; have qo21 := o2.cell 1 _ rfl; have qo22 := o2.cell 2 _ rfl; have qo23 := o2.cell 3 _ rfl; have qo24 := o2.cell 4 _ rfl; have wa := wa.below hb1 (Nat.le_refl _); have wb := wb.below hb1 (Nat.le_refl _); have wa' := wa'.below hb1 (Nat.le_refl _); have wb' := wb'.below hb1 (Nat.le_refl _); have hd1 := hd1.below hb1 (Nat.le_refl _); have hd2 := hd2.below hb1 (Nat.le_refl _); clear tok1 _t)
      | (go_at_call 104; have _t := tok2; refine (scaled_spec _ _ a' d k _ wa' hd1 hs1' hs3 (by omega)).mono ?_; rintro e W22 ⟨u2, rfl, hu2, hb2⟩; have hsW22 : W21.heap.size ≤ W22.heap.size := hb2.size; have hB := hB.trans (hb2.mono hB.size); have o1 := o1.below hb2 o1.lt; have o2 := o2.below hb2 o2.lt; have o3 := o3.below hb2 o3.lt; have lto1 := o1.lt; have lto2 := o2.lt; have lto3 := o3.lt; have qo10 := o1.cell 0 _ rfl; have qo11 := o1.cell 1 _ rfl; have qo12 := o1.cell 2 _ rfl; have qo13 := o1.cell 3 _ rfl; have qo14 := o1.cell 4 _ rfl; have qo20 := o2.cell 0 _ rfl; have qo21 := o2.cell 1 _ rfl; have qo22 := o2.cell 2 _ rfl; have qo23 := o2.cell 3 _ rfl; have qo24 := o2.cell 4 _ rfl; have wa := wa.below hb2 (Nat.le_refl _); have wb := wb.below hb2 (Nat.le_refl _); have wa' := wa'.below hb2 (Nat.le_refl _); have wb' := wb'.below hb2 (Nat.le_refl _); have hd1 := hd1.below hb2 (Nat.le_refl _); have hd2 := hd2.below hb2 (Nat.le_refl _); have hu1 := hu1.below hb2 (Nat.le_refl _); clear tok2 _t)
      | (go_at_call 137; have _t := tok3; refine (plus_spec _ _ (a * d') (a' * d) (2 * k) _ hu1 hu2 B1.out B2.out (by omega)).mono ?_; rintro e W23 ⟨u3, rfl, hu3, hb3⟩; have hsW23 : W22.heap.size ≤ W23.heap.size := hb3.size; have hB := hB.trans (hb3.mono hB.size); have o1 := o1.below hb3 o1.lt; have o2 := o2.below hb3 o2.lt; have o3 := o3.below hb3 o3.lt; have lto1 := o1.lt; have lto2 := o2.lt; have lto3 := o3.lt; have qo10 := o1.cell 0 _ rfl; have qo11 := o1.cell 1 _ rfl; have qo12 := o1.cell 2 _ rfl; have qo13 := o1.cell 3 _ rfl; have qo14 := o1.cell 4 _ rfl; have qo20 := o2.cell 0 _ rfl; have qo21 := o2.cell 1 _ rfl; have qo22 := o2.cell 2 _ rfl; have qo23 := o2.cell 3 _ rfl; have qo24 := o2.cell 4 _ rfl; have wa := wa.below hb3 (Nat.le_refl _); have wb := wb.below hb3 (Nat.le_refl _); have wa' := wa'.below hb3 (Nat.le_refl _); have wb' := wb'.below hb3 (Nat.le_refl _); have hd1 := hd1.below hb3 (Nat.le_refl _); have hd2 := hd2.below hb3 (Nat.le_refl _); have hu1 := hu1.below hb3 (Nat.le_refl _); have hu2 := hu2.below hb3 (Nat.le_refl _); clear tok3 _t)
      | (go_at_call 104; have _t := tok4; refine (scaled_spec _ _ b d' k _ wb hd2 hs2 hs3' (by omega)).mono ?_; rintro e W24 ⟨u4, rfl, hu4, hb4⟩; have hsW24 : W23.heap.size ≤ W24.heap.size := hb4.size; have hB := hB.trans (hb4.mono hB.size); have o1 := o1.below hb4 o1.lt; have o2 := o2.below hb4 o2.lt; have o3 := o3.below hb4 o3.lt; have lto1 := o1.lt; have lto2 := o2.lt; have lto3 := o3.lt; have qo10 := o1.cell 0 _ rfl; have qo11 := o1.cell 1 _ rfl; have qo12 := o1.cell 2 _ rfl; have qo13 := o1.cell 3 _ rfl; have qo14 := o1.cell 4 _ rfl; have qo20 := o2.cell 0 _ rfl; have qo21 := o2.cell 1 _ rfl; have qo22 := o2.cell 2 _ rfl; have qo23 := o2.cell 3 _ rfl; have qo24 := o2.cell 4 _ rfl; have wa := wa.below hb4 (Nat.le_refl _); have wb := wb.below hb4 (Nat.le_refl _); have wa' := wa'.below hb4 (Nat.le_refl _); have wb' := wb'.below hb4 (Nat.le_refl _); have hd1 := hd1.below hb4 (Nat.le_refl _); have hd2 := hd2.below hb4 (Nat.le_refl _); have hu1 := hu1.below hb4 (Nat.le_refl _); have hu2 := hu2.below hb4 (Nat.le_refl _); have hu3 := hu3.below hb4 (Nat.le_refl _); clear tok4 _t)
      | (go_at_call 104; have _t := tok5; refine (scaled_spec _ _ b' d k _ wb' hd1 hs2' hs3 (by omega)).mono ?_; rintro e W25 ⟨u5, rfl, hu5, hb5⟩; have hsW25 : W24.heap.size ≤ W25.heap.size := hb5.size; have hB := hB.trans (hb5.mono hB.size); have o1 := o1.below hb5 o1.lt; have o2 := o2.below hb5 o2.lt; have o3 := o3.below hb5 o3.lt; have lto1 := o1.lt; have lto2 := o2.lt; have lto3 := o3.lt; have qo10 := o1.cell 0 _ rfl; have qo11 := o1.cell 1 _ rfl; have qo12 := o1.cell 2 _ rfl; have qo13 := o1.cell 3 _ rfl; have qo14 := o1.cell 4 _ rfl; have qo20 := o2.cell 0 _ rfl; have qo21 := o2.cell 1 _ rfl; have qo22 := o2.cell 2 _ rfl; have qo23 := o2.cell 3 _ rfl; have qo24 := o2.cell 4 _ rfl; have wa := wa.below hb5 (Nat.le_refl _); have wb := wb.below hb5 (Nat.le_refl _); have wa' := wa'.below hb5 (Nat.le_refl _); have wb' := wb'.below hb5 (Nat.le_refl _); have hd1 := hd1.below hb5 (Nat.le_refl _); have hd2 := hd2.below hb5 (Nat.le_refl _); have hu1 := hu1.below hb5 (Nat.le_refl _); have hu2 := hu2.below hb5 (Nat.le_refl _); have hu3 := hu3.below hb5 (Nat.le_refl _); have hu4 := hu4.below hb5 (Nat.le_refl _); clear tok5 _t)
      | (go_at_call 137; have _t := tok6; refine (plus_spec _ _ (b * d') (b' * d) (2 * k) _ hu4 hu5 B3.out B4.out (by omega)).mono ?_; rintro e W26 ⟨u6, rfl, hu6, hb6⟩; have hsW26 : W25.heap.size ≤ W26.heap.size := hb6.size; have hB := hB.trans (hb6.mono hB.size); have o1 := o1.below hb6 o1.lt; have o2 := o2.below hb6 o2.lt; have o3 := o3.below hb6 o3.lt; have lto1 := o1.lt; have lto2 := o2.lt; have lto3 := o3.lt; have qo10 := o1.cell 0 _ rfl; have qo11 := o1.cell 1 _ rfl; have qo12 := o1.cell 2 _ rfl; have qo13 := o1.cell 3 _ rfl; have qo14 := o1.cell 4 _ rfl; have qo20 := o2.cell 0 _ rfl; have qo21 := o2.cell 1 _ rfl; have qo22 := o2.cell 2 _ rfl; have qo23 := o2.cell 3 _ rfl; have qo24 := o2.cell 4 _ rfl; have wa := wa.below hb6 (Nat.le_refl _); have wb := wb.below hb6 (Nat.le_refl _); have wa' := wa'.below hb6 (Nat.le_refl _); have wb' := wb'.below hb6 (Nat.le_refl _); have hd1 := hd1.below hb6 (Nat.le_refl _); have hd2 := hd2.below hb6 (Nat.le_refl _); have hu1 := hu1.below hb6 (Nat.le_refl _); have hu2 := hu2.below hb6 (Nat.le_refl _); have hu3 := hu3.below hb6 (Nat.le_refl _); have hu4 := hu4.below hb6 (Nat.le_refl _); have hu5 := hu5.below hb6 (Nat.le_refl _); clear tok6 _t)
      | (go_at_call 138; have _t := tok7; refine (mul_spec _ _ d d' k _ hd1 hd2 hs3 hs3' (by omega)).mono ?_; rintro e W27 ⟨u7, rfl, hu7, hb7⟩; have hsW27 : W26.heap.size ≤ W27.heap.size := hb7.size; have hB := hB.trans (hb7.mono hB.size); have o1 := o1.below hb7 o1.lt; have o2 := o2.below hb7 o2.lt; have o3 := o3.below hb7 o3.lt; have lto1 := o1.lt; have lto2 := o2.lt; have lto3 := o3.lt; have qo10 := o1.cell 0 _ rfl; have qo11 := o1.cell 1 _ rfl; have qo12 := o1.cell 2 _ rfl; have qo13 := o1.cell 3 _ rfl; have qo14 := o1.cell 4 _ rfl; have qo20 := o2.cell 0 _ rfl; have qo21 := o2.cell 1 _ rfl; have qo22 := o2.cell 2 _ rfl; have qo23 := o2.cell 3 _ rfl; have qo24 := o2.cell 4 _ rfl; have wa := wa.below hb7 (Nat.le_refl _); have wb := wb.below hb7 (Nat.le_refl _); have wa' := wa'.below hb7 (Nat.le_refl _); have wb' := wb'.below hb7 (Nat.le_refl _); have hd1 := hd1.below hb7 (Nat.le_refl _); have hd2 := hd2.below hb7 (Nat.le_refl _); have hu1 := hu1.below hb7 (Nat.le_refl _); have hu2 := hu2.below hb7 (Nat.le_refl _); have hu3 := hu3.below hb7 (Nat.le_refl _); have hu4 := hu4.below hb7 (Nat.le_refl _); have hu5 := hu5.below hb7 (Nat.le_refl _); have hu6 := hu6.below hb7 (Nat.le_refl _); clear tok7 _t)
      | (go_at_call 91; have _t := tok8; refine (over_spec _ _ _ (a * d' + a' * d) (b * d' + b' * d) (d * d') (2 * k + 1) _ hu3 hu6 hu7 (Nat.mul_pos low.1 low'.1) (add_small B1.out B2.out) (add_small B3.out B4.out) (pow_step B5.out (by omega)) (by omega)).mono ?_; rintro e W28 ⟨u8, rfl, hu8, hb8⟩; have hsW28 : W27.heap.size ≤ W28.heap.size := hb8.size; have hB := hB.trans (hb8.mono hB.size); have o1 := o1.below hb8 o1.lt; have o2 := o2.below hb8 o2.lt; have o3 := o3.below hb8 o3.lt; have lto1 := o1.lt; have lto2 := o2.lt; have lto3 := o3.lt; have qo10 := o1.cell 0 _ rfl; have qo11 := o1.cell 1 _ rfl; have qo12 := o1.cell 2 _ rfl; have qo13 := o1.cell 3 _ rfl; have qo14 := o1.cell 4 _ rfl; have qo20 := o2.cell 0 _ rfl; have qo21 := o2.cell 1 _ rfl; have qo22 := o2.cell 2 _ rfl; have qo23 := o2.cell 3 _ rfl; have qo24 := o2.cell 4 _ rfl; have wa := wa.below hb8 (Nat.le_refl _); have wb := wb.below hb8 (Nat.le_refl _); have wa' := wa'.below hb8 (Nat.le_refl _); have wb' := wb'.below hb8 (Nat.le_refl _); have hd1 := hd1.below hb8 (Nat.le_refl _); have hd2 := hd2.below hb8 (Nat.le_refl _); have hu1 := hu1.below hb8 (Nat.le_refl _); have hu2 := hu2.below hb8 (Nat.le_refl _); have hu3 := hu3.below hb8 (Nat.le_refl _); have hu4 := hu4.below hb8 (Nat.le_refl _); have hu5 := hu5.below hb8 (Nat.le_refl _); have hu6 := hu6.below hb8 (Nat.le_refl _); have hu7 := hu7.below hb8 (Nat.le_refl _); obtain ⟨_, _, _, _, _, _, _, _, _, _, _, rfl⟩ := hu8.open; have fo3 := o3.free; have co30 := o3.cell 0 _ rfl; have co31 := o3.cell 1 _ rfl; have co32 := o3.cell 2 _ rfl; have co33 := o3.cell 3 _ rfl; have co34 := o3.cell 4 _ rfl; clear tok8 _t))
  go_wp2_with fail
  exact bodyPost_ret (by simp [results, Tryz.results176, go_sem, co30, co31, co32, co33, co34]) rfl (num_end hu8 o3 hB (by omega) (cq_add low.1 low'.1).symm)
set_option maxRecDepth 100000 in
set_option maxHeartbeats 1600000 in
theorem nmul_spec (v u : Value) (x y : CQ) (k : Nat) (w : World) (h : NumRep w v x) (h' : NumRep w u y) (hs : Small k x) (hs' : Small k y) (hk : k ≤ 1099511627776) :
    Calls Tryz.prog 128 #[v, u] w (Ret w fun w' v' => NumRep w' v' (x.mul y)) := by
  obtain ⟨a, b, d, s1, s2, a1, a2, a3, l1, c1, l2, c2, l3, c3, rfl, wa, wb, tri, low, rfl, -, -, -, -⟩ := h.all
  obtain ⟨a', b', d', t1, t2, p1, p2, p3, m1, n1, m2, n2, m3, n3, rfl, wa', wb', tri', low', rfl, -, -, -, -⟩ := h'.all
  obtain ⟨hs1, hs2, hs3⟩ := hs.low low
  obtain ⟨hs1', hs2', hs3'⟩ := hs'.low low'
  clear h h' hs hs'
  have B1 := Lib.hid (mul_small hs1 hs1')
  have B2 := Lib.hid (mul_small hs2 hs2')
  have B3 := Lib.hid (mul_small hs1 hs2')
  have B4 := Lib.hid (mul_small hs2 hs1')
  have B5 := Lib.hid (nmul_small hs3 hs3')
  go_enter Tryz.func128, Tryz.ntmps128
  go_upto_region 1 with (fail)
  obtain ⟨W, hW, o1, o2, o3, hB, hS⟩ := boxes3 w 40 40 40 [.bool s1, .slice a1 l1 c1, .bool s2, .slice a2 l2 c2, .slice a3 l3 c3] [.bool t1, .slice p1 m1 n1, .bool t2, .slice p2 m2 n2, .slice p3 m3 n3] [.bool false, .slice none 0 0, .bool false, .slice none 0 0, .slice none 0 0]
  rw [← hW]
  clear hW
  have wa := wa.below hB (Nat.le_refl _); have wb := wb.below hB (Nat.le_refl _); have tri := tri.below hB (Nat.le_refl _); have wa' := wa'.below hB (Nat.le_refl _); have wb' := wb'.below hB (Nat.le_refl _); have tri' := tri'.below hB (Nat.le_refl _)
  go_cut [5] (fun s5 wx => BoxW W (a * a' + -(b * b')) s5 wx)
  case first =>
    have hB := Below.refl W.heap.size W
    have qo10 := o1.cell 0 _ rfl; have qo11 := o1.cell 1 _ rfl; have qo12 := o1.cell 2 _ rfl; have qo13 := o1.cell 3 _ rfl; have qo14 := o1.cell 4 _ rfl; have qo20 := o2.cell 0 _ rfl; have qo21 := o2.cell 1 _ rfl; have qo22 := o2.cell 2 _ rfl; have qo23 := o2.cell 3 _ rfl; have qo24 := o2.cell 4 _ rfl
    have o1 : Own W.drew _ _ _ := o1; have o2 : Own W.drew _ _ _ := o2; have lto1 : _ < W.heap.size := o1.lt; have lto2 : _ < W.heap.size := o2.lt; have hB := hB.drew
    have wa := wa.below ((Below.refl W.heap.size W).drew) (Nat.le_refl _); have wb := wb.below ((Below.refl W.heap.size W).drew) (Nat.le_refl _); have wa' := wa'.below ((Below.refl W.heap.size W).drew) (Nat.le_refl _); have wb' := wb'.below ((Below.refl W.heap.size W).drew) (Nat.le_refl _)
    have tok1 : True := trivial
    have tok2 : True := trivial
    have tok3 : True := trivial
    have tok4 : True := trivial
    go_region_held3 (fun w' => w'.cell? ⟨w.heap.size, 0, none⟩ = some (.bool s1) ∧ w'.cell? ⟨w.heap.size, 1, none⟩ = some (.slice a1 l1 c1) ∧ w'.cell? ⟨w.heap.size, 2, none⟩ = some (.bool s2) ∧ w'.cell? ⟨w.heap.size, 3, none⟩ = some (.slice a2 l2 c2) ∧ w'.cell? ⟨w.heap.size, 4, none⟩ = some (.slice a3 l3 c3) ∧ w'.cell? ⟨w.heap.size + 1, 0, none⟩ = some (.bool t1) ∧ w'.cell? ⟨w.heap.size + 1, 1, none⟩ = some (.slice p1 m1 n1) ∧ w'.cell? ⟨w.heap.size + 1, 2, none⟩ = some (.bool t2) ∧ w'.cell? ⟨w.heap.size + 1, 3, none⟩ = some (.slice p2 m2 n2) ∧ w'.cell? ⟨w.heap.size + 1, 4, none⟩ = some (.slice p3 m3 n3)) (first | (with_reducible exact ⟨o1.cell 0 _ rfl, o1.cell 1 _ rfl, o1.cell 2 _ rfl, o1.cell 3 _ rfl, o1.cell 4 _ rfl, o2.cell 0 _ rfl, o2.cell 1 _ rfl, o2.cell 2 _ rfl, o2.cell 3 _ rfl, o2.cell 4 _ rfl⟩) | (simp [go_sem, qo10, qo11, qo12, qo13, qo14, qo20, qo21, qo22, qo23, qo24, lto1, lto2]; done))
      (first
        | (go_at_call 136; have _t := tok1; refine (times_spec _ _ a a' k _ (wa.below (by first | exact Below.refl _ _ | exact (Below.refl _ _).alloc (Nat.le_refl _) _ | exact ((Below.refl _ _).alloc (Nat.le_refl _) _).alloc (by simp) _) (Nat.le_refl _)) (wa'.below (by first | exact Below.refl _ _ | exact (Below.refl _ _).alloc (Nat.le_refl _) _ | exact ((Below.refl _ _).alloc (Nat.le_refl _) _).alloc (by simp) _) (Nat.le_refl _)) hs1 hs1' (by omega)).mono ?_; rintro e W1 ⟨u1, rfl, hu1, hb1⟩; (try (have oN := oN.below hb1 oN.lt)); (try (first | have oN := own_behind hb1 | have oN := own_behindD hb1)); have hb1 := ext_step (W := W.drew) (by first | exact Below.refl _ _ | exact (Below.refl _ _).alloc (Nat.le_refl _) _ | exact ((Below.refl _ _).alloc (Nat.le_refl _) _).alloc (by simp) _) hb1; have hsW1 : W.heap.size ≤ W1.heap.size := hb1.size; have hB := hB.trans (hb1.mono hB.size); have o1 := o1.below hb1 o1.lt; have o2 := o2.below hb1 o2.lt; have lto1 := o1.lt; have lto2 := o2.lt; have qo10 := o1.cell 0 _ rfl; have qo11 := o1.cell 1 _ rfl; have qo12 := o1.cell 2 _ rfl; have qo13 := o1.cell 3 _ rfl; have qo14 := o1.cell 4 _ rfl; have qo20 := o2.cell 0 _ rfl; have qo21 := o2.cell 1 _ rfl; have qo22 := o2.cell 2 _ rfl; have qo23 := o2.cell 3 _ rfl; have qo24 := o2.cell 4 _ rfl; have wa := wa.below hb1 (Nat.le_refl _); have wb := wb.below hb1 (Nat.le_refl _); have wa' := wa'.below hb1 (Nat.le_refl _); have wb' := wb'.below hb1 (Nat.le_refl _); clear tok1 _t)
        | (go_at_call 136; have _t := tok2; refine (times_spec _ _ b b' k _ (wb.below (by first | exact Below.refl _ _ | exact (Below.refl _ _).alloc (Nat.le_refl _) _ | exact ((Below.refl _ _).alloc (Nat.le_refl _) _).alloc (by simp) _) (Nat.le_refl _)) (wb'.below (by first | exact Below.refl _ _ | exact (Below.refl _ _).alloc (Nat.le_refl _) _ | exact ((Below.refl _ _).alloc (Nat.le_refl _) _).alloc (by simp) _) (Nat.le_refl _)) hs2 hs2' (by omega)).mono ?_; rintro e W2 ⟨u2, rfl, hu2, hb2⟩; (try (have oN := oN.below hb2 oN.lt)); (try (first | have oN := own_behind hb2 | have oN := own_behindD hb2)); have hb2 := ext_step (W := W1) (by first | exact Below.refl _ _ | exact (Below.refl _ _).alloc (Nat.le_refl _) _ | exact ((Below.refl _ _).alloc (Nat.le_refl _) _).alloc (by simp) _) hb2; have hsW2 : W1.heap.size ≤ W2.heap.size := hb2.size; have hB := hB.trans (hb2.mono hB.size); have o1 := o1.below hb2 o1.lt; have o2 := o2.below hb2 o2.lt; have lto1 := o1.lt; have lto2 := o2.lt; have qo10 := o1.cell 0 _ rfl; have qo11 := o1.cell 1 _ rfl; have qo12 := o1.cell 2 _ rfl; have qo13 := o1.cell 3 _ rfl; have qo14 := o1.cell 4 _ rfl; have qo20 := o2.cell 0 _ rfl; have qo21 := o2.cell 1 _ rfl; have qo22 := o2.cell 2 _ rfl; have qo23 := o2.cell 3 _ rfl; have qo24 := o2.cell 4 _ rfl; have wa := wa.below hb2 (Nat.le_refl _); have wb := wb.below hb2 (Nat.le_refl _); have wa' := wa'.below hb2 (Nat.le_refl _); have wb' := wb'.below hb2 (Nat.le_refl _); have hu1 := hu1.below hb2 (Nat.le_refl _); clear tok2 _t)
        | (go_at_call 90; have _t := tok3; refine (minus_spec _ (b * b') _ (hu2.below (by first | exact Below.refl _ _ | exact (Below.refl _ _).alloc (Nat.le_refl _) _ | exact ((Below.refl _ _).alloc (Nat.le_refl _) _).alloc (by simp) _) (Nat.le_refl _))).mono ?_; rintro e W3 ⟨u3, rfl, hu3, hb3⟩; (try (have oN := oN.below hb3 oN.lt)); (try (first | have oN := own_behind hb3 | have oN := own_behindD hb3)); have hb3 := ext_step (W := W2) (by first | exact Below.refl _ _ | exact (Below.refl _ _).alloc (Nat.le_refl _) _ | exact ((Below.refl _ _).alloc (Nat.le_refl _) _).alloc (by simp) _) hb3; have hsW3 : W2.heap.size ≤ W3.heap.size := hb3.size; have hB := hB.trans (hb3.mono hB.size); have o1 := o1.below hb3 o1.lt; have o2 := o2.below hb3 o2.lt; have lto1 := o1.lt; have lto2 := o2.lt; have qo10 := o1.cell 0 _ rfl; have qo11 := o1.cell 1 _ rfl; have qo12 := o1.cell 2 _ rfl; have qo13 := o1.cell 3 _ rfl; have qo14 := o1.cell 4 _ rfl; have qo20 := o2.cell 0 _ rfl; have qo21 := o2.cell 1 _ rfl; have qo22 := o2.cell 2 _ rfl; have qo23 := o2.cell 3 _ rfl; have qo24 := o2.cell 4 _ rfl; have wa := wa.below hb3 (Nat.le_refl _); have wb := wb.below hb3 (Nat.le_refl _); have wa' := wa'.below hb3 (Nat.le_refl _); have wb' := wb'.below hb3 (Nat.le_refl _); have hu1 := hu1.below hb3 (Nat.le_refl _); have hu2 := hu2.below hb3 (Nat.le_refl _); clear tok3 _t)
        | (go_at_call 137; have _t := tok4; refine (plus_spec _ _ (a * a') (-(b * b')) (2 * k) _ (hu1.below (by first | exact Below.refl _ _ | exact (Below.refl _ _).alloc (Nat.le_refl _) _ | exact ((Below.refl _ _).alloc (Nat.le_refl _) _).alloc (by simp) _) (Nat.le_refl _)) (hu3.below (by first | exact Below.refl _ _ | exact (Below.refl _ _).alloc (Nat.le_refl _) _ | exact ((Below.refl _ _).alloc (Nat.le_refl _) _).alloc (by simp) _) (Nat.le_refl _)) B1.out (by rw [Int.natAbs_neg]; exact B2.out) (by omega)).mono ?_; rintro e W4 ⟨u4, rfl, hu4, hb4⟩; (try (have oN := oN.below hb4 oN.lt)); (try (first | have oN := own_behind hb4 | have oN := own_behindD hb4)); have hb4 := ext_step (W := W3) (by first | exact Below.refl _ _ | exact (Below.refl _ _).alloc (Nat.le_refl _) _ | exact ((Below.refl _ _).alloc (Nat.le_refl _) _).alloc (by simp) _) hb4; have hsW4 : W3.heap.size ≤ W4.heap.size := hb4.size; have hB := hB.trans (hb4.mono hB.size); have o1 := o1.below hb4 o1.lt; have o2 := o2.below hb4 o2.lt; have lto1 := o1.lt; have lto2 := o2.lt; have qo10 := o1.cell 0 _ rfl; have qo11 := o1.cell 1 _ rfl; have qo12 := o1.cell 2 _ rfl; have qo13 := o1.cell 3 _ rfl; have qo14 := o1.cell 4 _ rfl; have qo20 := o2.cell 0 _ rfl; have qo21 := o2.cell 1 _ rfl; have qo22 := o2.cell 2 _ rfl; have qo23 := o2.cell 3 _ rfl; have qo24 := o2.cell 4 _ rfl; have wa := wa.below hb4 (Nat.le_refl _); have wb := wb.below hb4 (Nat.le_refl _); have wa' := wa'.below hb4 (Nat.le_refl _); have wb' := wb'.below hb4 (Nat.le_refl _); have hu1 := hu1.below hb4 (Nat.le_refl _); have hu2 := hu2.below hb4 (Nat.le_refl _); have hu3 := hu3.below hb4 (Nat.le_refl _); obtain ⟨_, _, _, _, rfl, _, _⟩ := hu4.open; (try (have foN := oN.free; have coN0 := oN.cell 0 _ rfl; have coN1 := oN.cell 1 _ rfl)); clear tok4 _t))
    all_goals go_wp2_with fail
    all_goals go_meet
    all_goals first | exact boxw_new hB hu4 | exact boxw_set hB hu4 oN (by first | exact Nat.le_refl _ | omega | (simp; done) | (simp; omega))
  case rest =>
    obtain ⟨g5, l5, c5, z5, b5, rfl, hg5, o5, r5, hcb⟩ := hcut
    have hscW : W.heap.size ≤ wc.heap.size := hcb.size; have hB := hB.trans (hcb.mono hB.size); have o1 := o1.below hcb o1.lt; have o2 := o2.below hcb o2.lt; have o3 := o3.below hcb o3.lt; have wa := wa.below hcb (Nat.le_refl _); have wb := wb.below hcb (Nat.le_refl _); have tri := tri.below hcb (Nat.le_refl _); have wa' := wa'.below hcb (Nat.le_refl _); have wb' := wb'.below hcb (Nat.le_refl _); have tri' := tri'.below hcb (Nat.le_refl _)
    obtain ⟨V, rfl⟩ : ∃ V : World, V = wc := ⟨_, rfl⟩
    go_upto_region 2 with (fail)
    go_cut [6] (fun s6 wx => BoxW V (a * b' + b * a') s6 wx)
    case first =>
      have hB := Below.refl V.heap.size V
      have qo10 := o1.cell 0 _ rfl; have qo11 := o1.cell 1 _ rfl; have qo12 := o1.cell 2 _ rfl; have qo13 := o1.cell 3 _ rfl; have qo14 := o1.cell 4 _ rfl; have qo20 := o2.cell 0 _ rfl; have qo21 := o2.cell 1 _ rfl; have qo22 := o2.cell 2 _ rfl; have qo23 := o2.cell 3 _ rfl; have qo24 := o2.cell 4 _ rfl
      have o1 : Own V.drew _ _ _ := o1; have o2 : Own V.drew _ _ _ := o2; have lto1 : _ < V.heap.size := o1.lt; have lto2 : _ < V.heap.size := o2.lt; have hB := hB.drew
      have wa := wa.below ((Below.refl V.heap.size V).drew) (Nat.le_refl _); have wb := wb.below ((Below.refl V.heap.size V).drew) (Nat.le_refl _); have wa' := wa'.below ((Below.refl V.heap.size V).drew) (Nat.le_refl _); have wb' := wb'.below ((Below.refl V.heap.size V).drew) (Nat.le_refl _)
      have tok1 : True := trivial
      have tok2 : True := trivial
      have tok3 : True := trivial
      go_region_held3 (fun w' => w'.cell? ⟨w.heap.size, 0, none⟩ = some (.bool s1) ∧ w'.cell? ⟨w.heap.size, 1, none⟩ = some (.slice a1 l1 c1) ∧ w'.cell? ⟨w.heap.size, 2, none⟩ = some (.bool s2) ∧ w'.cell? ⟨w.heap.size, 3, none⟩ = some (.slice a2 l2 c2) ∧ w'.cell? ⟨w.heap.size, 4, none⟩ = some (.slice a3 l3 c3) ∧ w'.cell? ⟨w.heap.size + 1, 0, none⟩ = some (.bool t1) ∧ w'.cell? ⟨w.heap.size + 1, 1, none⟩ = some (.slice p1 m1 n1) ∧ w'.cell? ⟨w.heap.size + 1, 2, none⟩ = some (.bool t2) ∧ w'.cell? ⟨w.heap.size + 1, 3, none⟩ = some (.slice p2 m2 n2) ∧ w'.cell? ⟨w.heap.size + 1, 4, none⟩ = some (.slice p3 m3 n3)) (first | (with_reducible exact ⟨o1.cell 0 _ rfl, o1.cell 1 _ rfl, o1.cell 2 _ rfl, o1.cell 3 _ rfl, o1.cell 4 _ rfl, o2.cell 0 _ rfl, o2.cell 1 _ rfl, o2.cell 2 _ rfl, o2.cell 3 _ rfl, o2.cell 4 _ rfl⟩) | (simp [go_sem, qo10, qo11, qo12, qo13, qo14, qo20, qo21, qo22, qo23, qo24, lto1, lto2]; done))
        (first
          | (go_at_call 136; have _t := tok1; refine (times_spec _ _ a b' k _ (wa.below (by first | exact Below.refl _ _ | exact (Below.refl _ _).alloc (Nat.le_refl _) _ | exact ((Below.refl _ _).alloc (Nat.le_refl _) _).alloc (by simp) _) (Nat.le_refl _)) (wb'.below (by first | exact Below.refl _ _ | exact (Below.refl _ _).alloc (Nat.le_refl _) _ | exact ((Below.refl _ _).alloc (Nat.le_refl _) _).alloc (by simp) _) (Nat.le_refl _)) hs1 hs2' (by omega)).mono ?_; rintro e V1 ⟨u1, rfl, hu1, hb1⟩; (try (have oN := oN.below hb1 oN.lt)); (try (first | have oN := own_behind hb1 | have oN := own_behindD hb1)); have hb1 := ext_step (W := V.drew) (by first | exact Below.refl _ _ | exact (Below.refl _ _).alloc (Nat.le_refl _) _ | exact ((Below.refl _ _).alloc (Nat.le_refl _) _).alloc (by simp) _) hb1; have hsV1 : V.heap.size ≤ V1.heap.size := hb1.size; have hB := hB.trans (hb1.mono hB.size); have o1 := o1.below hb1 o1.lt; have o2 := o2.below hb1 o2.lt; have lto1 := o1.lt; have lto2 := o2.lt; have qo10 := o1.cell 0 _ rfl; have qo11 := o1.cell 1 _ rfl; have qo12 := o1.cell 2 _ rfl; have qo13 := o1.cell 3 _ rfl; have qo14 := o1.cell 4 _ rfl; have qo20 := o2.cell 0 _ rfl; have qo21 := o2.cell 1 _ rfl; have qo22 := o2.cell 2 _ rfl; have qo23 := o2.cell 3 _ rfl; have qo24 := o2.cell 4 _ rfl; have wa := wa.below hb1 (Nat.le_refl _); have wb := wb.below hb1 (Nat.le_refl _); have wa' := wa'.below hb1 (Nat.le_refl _); have wb' := wb'.below hb1 (Nat.le_refl _); clear tok1 _t)
          | (go_at_call 136; have _t := tok2; refine (times_spec _ _ b a' k _ (wb.below (by first | exact Below.refl _ _ | exact (Below.refl _ _).alloc (Nat.le_refl _) _ | exact ((Below.refl _ _).alloc (Nat.le_refl _) _).alloc (by simp) _) (Nat.le_refl _)) (wa'.below (by first | exact Below.refl _ _ | exact (Below.refl _ _).alloc (Nat.le_refl _) _ | exact ((Below.refl _ _).alloc (Nat.le_refl _) _).alloc (by simp) _) (Nat.le_refl _)) hs2 hs1' (by omega)).mono ?_; rintro e V2 ⟨u2, rfl, hu2, hb2⟩; (try (have oN := oN.below hb2 oN.lt)); (try (first | have oN := own_behind hb2 | have oN := own_behindD hb2)); have hb2 := ext_step (W := V1) (by first | exact Below.refl _ _ | exact (Below.refl _ _).alloc (Nat.le_refl _) _ | exact ((Below.refl _ _).alloc (Nat.le_refl _) _).alloc (by simp) _) hb2; have hsV2 : V1.heap.size ≤ V2.heap.size := hb2.size; have hB := hB.trans (hb2.mono hB.size); have o1 := o1.below hb2 o1.lt; have o2 := o2.below hb2 o2.lt; have lto1 := o1.lt; have lto2 := o2.lt; have qo10 := o1.cell 0 _ rfl; have qo11 := o1.cell 1 _ rfl; have qo12 := o1.cell 2 _ rfl; have qo13 := o1.cell 3 _ rfl; have qo14 := o1.cell 4 _ rfl; have qo20 := o2.cell 0 _ rfl; have qo21 := o2.cell 1 _ rfl; have qo22 := o2.cell 2 _ rfl; have qo23 := o2.cell 3 _ rfl; have qo24 := o2.cell 4 _ rfl; have wa := wa.below hb2 (Nat.le_refl _); have wb := wb.below hb2 (Nat.le_refl _); have wa' := wa'.below hb2 (Nat.le_refl _); have wb' := wb'.below hb2 (Nat.le_refl _); have hu1 := hu1.below hb2 (Nat.le_refl _); clear tok2 _t)
          | (go_at_call 137; have _t := tok3; refine (plus_spec _ _ (a * b') (b * a') (2 * k) _ (hu1.below (by first | exact Below.refl _ _ | exact (Below.refl _ _).alloc (Nat.le_refl _) _ | exact ((Below.refl _ _).alloc (Nat.le_refl _) _).alloc (by simp) _) (Nat.le_refl _)) (hu2.below (by first | exact Below.refl _ _ | exact (Below.refl _ _).alloc (Nat.le_refl _) _ | exact ((Below.refl _ _).alloc (Nat.le_refl _) _).alloc (by simp) _) (Nat.le_refl _)) B3.out B4.out (by omega)).mono ?_; rintro e V3 ⟨u4, rfl, hu4, hb3⟩; (try (have oN := oN.below hb3 oN.lt)); (try (first | have oN := own_behind hb3 | have oN := own_behindD hb3)); have hb3 := ext_step (W := V2) (by first | exact Below.refl _ _ | exact (Below.refl _ _).alloc (Nat.le_refl _) _ | exact ((Below.refl _ _).alloc (Nat.le_refl _) _).alloc (by simp) _) hb3; have hsV3 : V2.heap.size ≤ V3.heap.size := hb3.size; have hB := hB.trans (hb3.mono hB.size); have o1 := o1.below hb3 o1.lt; have o2 := o2.below hb3 o2.lt; have lto1 := o1.lt; have lto2 := o2.lt; have qo10 := o1.cell 0 _ rfl; have qo11 := o1.cell 1 _ rfl; have qo12 := o1.cell 2 _ rfl; have qo13 := o1.cell 3 _ rfl; have qo14 := o1.cell 4 _ rfl; have qo20 := o2.cell 0 _ rfl; have qo21 := o2.cell 1 _ rfl; have qo22 := o2.cell 2 _ rfl; have qo23 := o2.cell 3 _ rfl; have qo24 := o2.cell 4 _ rfl; have wa := wa.below hb3 (Nat.le_refl _); have wb := wb.below hb3 (Nat.le_refl _); have wa' := wa'.below hb3 (Nat.le_refl _); have wb' := wb'.below hb3 (Nat.le_refl _); have hu1 := hu1.below hb3 (Nat.le_refl _); have hu2 := hu2.below hb3 (Nat.le_refl _); obtain ⟨_, _, _, _, rfl, _, _⟩ := hu4.open; (try (have foN := oN.free; have coN0 := oN.cell 0 _ rfl; have coN1 := oN.cell 1 _ rfl)); clear tok3 _t))
      all_goals go_wp2_with fail
      all_goals go_meet
      all_goals first | exact boxw_new hB hu4 | exact boxw_set hB hu4 oN (by first | exact Nat.le_refl _ | omega | (simp; done) | (simp; omega))
    case rest =>
      clear hcb
      obtain ⟨g6, l6, c6, z6, b6, rfl, hg6, o6, r6, hcb⟩ := hcut
      have hscV : V.heap.size ≤ wc.heap.size := hcb.size; have hB := hB.trans (hcb.mono hB.size); have o1 := o1.below hcb o1.lt; have o2 := o2.below hcb o2.lt; have o3 := o3.below hcb o3.lt; have o5 := o5.below hcb o5.lt; have r5 := r5.below hcb (Nat.le_refl _); have tri := tri.below hcb (Nat.le_refl _); have tri' := tri'.below hcb (Nat.le_refl _)
      go_upto_region 3 with (fail)
      have qo10 := o1.cell 0 _ rfl; have qo11 := o1.cell 1 _ rfl; have qo12 := o1.cell 2 _ rfl; have qo13 := o1.cell 3 _ rfl; have qo14 := o1.cell 4 _ rfl; have qo20 := o2.cell 0 _ rfl; have qo21 := o2.cell 1 _ rfl; have qo22 := o2.cell 2 _ rfl; have qo23 := o2.cell 3 _ rfl; have qo24 := o2.cell 4 _ rfl; have qo50 := o5.cell 0 _ rfl; have qo51 := o5.cell 1 _ rfl; have qo60 := o6.cell 0 _ rfl; have qo61 := o6.cell 1 _ rfl
      have o1 : Own wc.drew _ _ _ := o1; have o2 : Own wc.drew _ _ _ := o2; have o5 : Own wc.drew _ _ _ := o5; have o6 : Own wc.drew _ _ _ := o6; have o3 : Own wc.drew _ _ _ := o3; have lto1 : _ < wc.heap.size := o1.lt; have lto2 : _ < wc.heap.size := o2.lt; have lto5 : _ < wc.heap.size := o5.lt; have lto6 : _ < wc.heap.size := o6.lt; have lto3 : _ < wc.heap.size := o3.lt; have hB := hB.drew
      have r5 := r5.below ((Below.refl wc.heap.size wc).drew) (Nat.le_refl _); have r6 := r6.below ((Below.refl wc.heap.size wc).drew) (Nat.le_refl _); have tri := tri.below ((Below.refl wc.heap.size wc).drew) (Nat.le_refl _); have tri' := tri'.below ((Below.refl wc.heap.size wc).drew) (Nat.le_refl _)
      have tok1 : True := trivial
      have tok2 : True := trivial
      have tok3 : True := trivial
      have tok4 : True := trivial
      go_region_held3 (fun w' => w'.cell? ⟨w.heap.size, 0, none⟩ = some (.bool s1) ∧ w'.cell? ⟨w.heap.size, 1, none⟩ = some (.slice a1 l1 c1) ∧ w'.cell? ⟨w.heap.size, 2, none⟩ = some (.bool s2) ∧ w'.cell? ⟨w.heap.size, 3, none⟩ = some (.slice a2 l2 c2) ∧ w'.cell? ⟨w.heap.size, 4, none⟩ = some (.slice a3 l3 c3) ∧ w'.cell? ⟨w.heap.size + 1, 0, none⟩ = some (.bool t1) ∧ w'.cell? ⟨w.heap.size + 1, 1, none⟩ = some (.slice p1 m1 n1) ∧ w'.cell? ⟨w.heap.size + 1, 2, none⟩ = some (.bool t2) ∧ w'.cell? ⟨w.heap.size + 1, 3, none⟩ = some (.slice p2 m2 n2) ∧ w'.cell? ⟨w.heap.size + 1, 4, none⟩ = some (.slice p3 m3 n3) ∧ w'.cell? ⟨g5, 0, none⟩ = some (.bool z5) ∧ w'.cell? ⟨g5, 1, none⟩ = some (.slice b5 l5 c5) ∧ w'.cell? ⟨g6, 0, none⟩ = some (.bool z6) ∧ w'.cell? ⟨g6, 1, none⟩ = some (.slice b6 l6 c6)) (first | (with_reducible exact ⟨o1.cell 0 _ rfl, o1.cell 1 _ rfl, o1.cell 2 _ rfl, o1.cell 3 _ rfl, o1.cell 4 _ rfl, o2.cell 0 _ rfl, o2.cell 1 _ rfl, o2.cell 2 _ rfl, o2.cell 3 _ rfl, o2.cell 4 _ rfl, o5.cell 0 _ rfl, o5.cell 1 _ rfl, o6.cell 0 _ rfl, o6.cell 1 _ rfl⟩) | (simp [go_sem, qo10, qo11, qo12, qo13, qo14, qo20, qo21, qo22, qo23, qo24, qo50, qo51, qo60, qo61, lto1, lto2, lto5, lto6]; done))
        (first
          | (go_at_call 75; have _t := tok1; refine (den_spec _ a b d _ tri).mono ?_; rintro e wc1 ⟨d1, rfl, hd1, hb1⟩; have hswc1 : wc.heap.size ≤ wc1.heap.size := hb1.size; have hB := hB.trans (hb1.mono hB.size); have o1 := o1.below hb1 o1.lt; have o2 := o2.below hb1 o2.lt; have o5 := o5.below hb1 o5.lt; have o6 := o6.below hb1 o6.lt; have o3 := o3.below hb1 o3.lt; have lto1 := o1.lt; have lto2 := o2.lt; have lto5 := o5.lt; have lto6 := o6.lt; have lto3 := o3.lt; have qo10 := o1.cell 0 _ rfl; have qo11 := o1.cell 1 _ rfl; have qo12 := o1.cell 2 _ rfl; have qo13 := o1.cell 3 _ rfl; have qo14 := o1.cell 4 _ rfl; have qo20 := o2.cell 0 _ rfl; have qo21 := o2.cell 1 _ rfl; have qo22 := o2.cell 2 _ rfl; have qo23 := o2.cell 3 _ rfl; have qo24 := o2.cell 4 _ rfl; have qo50 := o5.cell 0 _ rfl; have qo51 := o5.cell 1 _ rfl; have qo60 := o6.cell 0 _ rfl; have qo61 := o6.cell 1 _ rfl; have r5 := r5.below hb1 (Nat.le_refl _); have r6 := r6.below hb1 (Nat.le_refl _); have tri := tri.below hb1 (Nat.le_refl _); have tri' := tri'.below hb1 (Nat.le_refl _); clear tok1 _t)
          | (go_at_call 75; have _t := tok2; refine (den_spec _ a' b' d' _ tri').mono ?_; rintro e wc2 ⟨d2, rfl, hd2, hb2⟩; have hswc2 : wc1.heap.size ≤ wc2.heap.size := hb2.size; have hB := hB.trans (hb2.mono hB.size); have o1 := o1.below hb2 o1.lt; have o2 := o2.below hb2 o2.lt; have o5 := o5.below hb2 o5.lt; have o6 := o6.below hb2 o6.lt; have o3 := o3.below hb2 o3.lt; have lto1 := o1.lt; have lto2 := o2.lt; have lto5 := o5.lt; have lto6 := o6.lt; have lto3 := o3.lt; have qo10 := o1.cell 0 _ rfl; have qo11 := o1.cell 1 _ rfl; have qo12 := o1.cell 2 _ rfl; have qo13 := o1.cell 3 _ rfl; have qo14 := o1.cell 4 _ rfl; have qo20 := o2.cell 0 _ rfl; have qo21 := o2.cell 1 _ rfl; have qo22 := o2.cell 2 _ rfl; have qo23 := o2.cell 3 _ rfl; have qo24 := o2.cell 4 _ rfl; have qo50 := o5.cell 0 _ rfl; have qo51 := o5.cell 1 _ rfl; have qo60 := o6.cell 0 _ rfl; have qo61 := o6.cell 1 _ rfl; have r5 := r5.below hb2 (Nat.le_refl _); have r6 := r6.below hb2 (Nat.le_refl _); have tri := tri.below hb2 (Nat.le_refl _); have tri' := tri'.below hb2 (Nat.le_refl _); have hd1 := hd1.below hb2 (Nat.le_refl _); clear tok2 _t)
          | (go_at_call 138; have _t := tok3; refine (mul_spec _ _ d d' k _ hd1 hd2 hs3 hs3' (by omega)).mono ?_; rintro e wc3 ⟨u7, rfl, hu7, hb3⟩; have hswc3 : wc2.heap.size ≤ wc3.heap.size := hb3.size; have hB := hB.trans (hb3.mono hB.size); have o1 := o1.below hb3 o1.lt; have o2 := o2.below hb3 o2.lt; have o5 := o5.below hb3 o5.lt; have o6 := o6.below hb3 o6.lt; have o3 := o3.below hb3 o3.lt; have lto1 := o1.lt; have lto2 := o2.lt; have lto5 := o5.lt; have lto6 := o6.lt; have lto3 := o3.lt; have qo10 := o1.cell 0 _ rfl; have qo11 := o1.cell 1 _ rfl; have qo12 := o1.cell 2 _ rfl; have qo13 := o1.cell 3 _ rfl; have qo14 := o1.cell 4 _ rfl; have qo20 := o2.cell 0 _ rfl; have qo21 := o2.cell 1 _ rfl; have qo22 := o2.cell 2 _ rfl; have qo23 := o2.cell 3 _ rfl; have qo24 := o2.cell 4 _ rfl; have qo50 := o5.cell 0 _ rfl; have qo51 := o5.cell 1 _ rfl; have qo60 := o6.cell 0 _ rfl; have qo61 := o6.cell 1 _ rfl; have r5 := r5.below hb3 (Nat.le_refl _); have r6 := r6.below hb3 (Nat.le_refl _); have tri := tri.below hb3 (Nat.le_refl _); have tri' := tri'.below hb3 (Nat.le_refl _); have hd1 := hd1.below hb3 (Nat.le_refl _); have hd2 := hd2.below hb3 (Nat.le_refl _); clear tok3 _t)
          | (go_at_call 91; have _t := tok4; refine (over_spec _ _ _ (a * a' + -(b * b')) (a * b' + b * a') (d * d') (2 * k + 1) _ r5 r6 hu7 (Nat.mul_pos low.1 low'.1) (add_small B1.out (by rw [Int.natAbs_neg]; exact B2.out)) (add_small B3.out B4.out) (pow_step B5.out (by omega)) (by omega)).mono ?_; rintro e wc4 ⟨u8, rfl, hu8, hb4⟩; have hswc4 : wc3.heap.size ≤ wc4.heap.size := hb4.size; have hB := hB.trans (hb4.mono hB.size); have o1 := o1.below hb4 o1.lt; have o2 := o2.below hb4 o2.lt; have o5 := o5.below hb4 o5.lt; have o6 := o6.below hb4 o6.lt; have o3 := o3.below hb4 o3.lt; have lto1 := o1.lt; have lto2 := o2.lt; have lto5 := o5.lt; have lto6 := o6.lt; have lto3 := o3.lt; have qo10 := o1.cell 0 _ rfl; have qo11 := o1.cell 1 _ rfl; have qo12 := o1.cell 2 _ rfl; have qo13 := o1.cell 3 _ rfl; have qo14 := o1.cell 4 _ rfl; have qo20 := o2.cell 0 _ rfl; have qo21 := o2.cell 1 _ rfl; have qo22 := o2.cell 2 _ rfl; have qo23 := o2.cell 3 _ rfl; have qo24 := o2.cell 4 _ rfl; have qo50 := o5.cell 0 _ rfl; have qo51 := o5.cell 1 _ rfl; have qo60 := o6.cell 0 _ rfl; have qo61 := o6.cell 1 _ rfl; have r5 := r5.below hb4 (Nat.le_refl _); have r6 := r6.below hb4 (Nat.le_refl _); have tri := tri.below hb4 (Nat.le_refl _); have tri' := tri'.below hb4 (Nat.le_refl _); have hd1 := hd1.below hb4 (Nat.le_refl _); have hd2 := hd2.below hb4 (Nat.le_refl _); have hu7 := hu7.below hb4 (Nat.le_refl _); obtain ⟨_, _, _, _, _, _, _, _, _, _, _, rfl⟩ := hu8.open; have fo3 := o3.free; have co30 := o3.cell 0 _ rfl; have co31 := o3.cell 1 _ rfl; have co32 := o3.cell 2 _ rfl; have co33 := o3.cell 3 _ rfl; have co34 := o3.cell 4 _ rfl; clear tok4 _t))
      go_wp2_with fail
      exact bodyPost_ret (by simp [results, Tryz.results128, go_sem, co30, co31, co32, co33, co34]) rfl (num_end hu8 o3 hB (by omega) (cq_mul low.1 low'.1).symm)
end Go.Proofs.YtfkogkcpndaoeaaGreat
namespace Go.Proofs.YtfkogkcpndaoeaaGreat
open Go.RowKit
theorem num_of {w : World} {s1 s2 : Bool} {u v3 v4 : Value} {a b : Int} {d : Nat} (ha : WholeRep w (.agg #[.bool s1, u]) a) (hb : WholeRep w (.agg #[.bool s2, v3]) b) (hd : NatRep w v4 (if d = 1 then 0 else d)) (hl : Low a b d) :
    NumRep w (.agg #[.bool s1, u, .bool s2, v3, v4]) (cq a b d) := by
  obtain ⟨m1, e1, h1⟩ := ha
  obtain ⟨m2, e2, h2⟩ := hb
  simp only [Value.agg.injEq, Array.mk.injEq, List.cons.injEq, and_true, Value.bool.injEq] at e1 e2
  obtain ⟨rfl, rfl⟩ := e1
  obtain ⟨rfl, rfl⟩ := e2
  exact ⟨a, b, d, ⟨_, _, _, rfl, h1, h2, hd, hl⟩, rfl⟩
theorem low_neg {a b : Int} {d : Nat} (h : Low a b d) : Low (-a) (-b) d := by
  unfold Low at *
  rwa [Int.natAbs_neg, Int.natAbs_neg]
set_option maxRecDepth 100000 in
set_option maxHeartbeats 800000 in
theorem nneg_spec (v : Value) (x : CQ) (w : World) (h : NumRep w v x) :
    Calls Tryz.prog 131 #[v] w (Ret w fun w' v' => NumRep w' v' x.neg) := by
  obtain ⟨a, b, d, s1, s2, a1, a2, a3, l1, c1, l2, c2, l3, c3, rfl, wa, wb, -, low, rfl, -, -, -, nd⟩ := h.all
  clear h
  go_enter Tryz.func131, Tryz.ntmps131
  go_upto_region 1 with (fail)
  obtain ⟨W, hW, o1, o3, hB, hS⟩ := boxes2 w 40 40 [.bool s1, .slice a1 l1 c1, .bool s2, .slice a2 l2 c2, .slice a3 l3 c3] [.bool false, .slice none 0 0, .bool false, .slice none 0 0, .slice none 0 0]
  rw [← hW]
  clear hW
  have qo10 := o1.cell 0 _ rfl; have qo11 := o1.cell 1 _ rfl; have qo12 := o1.cell 2 _ rfl; have qo13 := o1.cell 3 _ rfl; have qo14 := o1.cell 4 _ rfl
  have o1 : Own W.drew _ _ _ := o1; have o3 : Own W.drew _ _ _ := o3; have lto1 : _ < W.heap.size := o1.lt; have lto3 : _ < W.heap.size := o3.lt; have hB := hB.drew
  have wa := wa.below hB (Nat.le_refl _); have wb := wb.below hB (Nat.le_refl _); have nd := nd.below hB (Nat.le_refl _)
  have tok1 : True := trivial
  have tok2 : True := trivial
  go_region_held3 (fun w' => w'.cell? ⟨w.heap.size, 0, none⟩ = some (.bool s1) ∧ w'.cell? ⟨w.heap.size, 1, none⟩ = some (.slice a1 l1 c1) ∧ w'.cell? ⟨w.heap.size, 2, none⟩ = some (.bool s2) ∧ w'.cell? ⟨w.heap.size, 3, none⟩ = some (.slice a2 l2 c2) ∧ w'.cell? ⟨w.heap.size, 4, none⟩ = some (.slice a3 l3 c3)) (first | (with_reducible exact ⟨o1.cell 0 _ rfl, o1.cell 1 _ rfl, o1.cell 2 _ rfl, o1.cell 3 _ rfl, o1.cell 4 _ rfl⟩) | (simp [go_sem, qo10, qo11, qo12, qo13, qo14, lto1]; done))
    (first
      | (go_at_call 90; have _t := tok1; refine (minus_spec _ a _ wa).mono ?_; rintro e W1 ⟨u1, rfl, hu1, hb1⟩; have hsW1 : W.heap.size ≤ W1.heap.size := hb1.size; have hB := hB.trans (hb1.mono hB.size); have o1 := o1.below hb1 o1.lt; have o3 := o3.below hb1 o3.lt; have lto1 := o1.lt; have lto3 := o3.lt; have qo10 := o1.cell 0 _ rfl; have qo11 := o1.cell 1 _ rfl; have qo12 := o1.cell 2 _ rfl; have qo13 := o1.cell 3 _ rfl; have qo14 := o1.cell 4 _ rfl; have wa := wa.below hb1 (Nat.le_refl _); have wb := wb.below hb1 (Nat.le_refl _); have nd := nd.below hb1 (Nat.le_refl _); obtain ⟨x1, y1, z1, e1, rfl, _, _⟩ := hu1.open; clear tok1 _t)
      | (go_at_call 90; have _t := tok2; refine (minus_spec _ b _ wb).mono ?_; rintro e W2 ⟨u2, rfl, hu2, hb2⟩; have hsW2 : W1.heap.size ≤ W2.heap.size := hb2.size; have hB := hB.trans (hb2.mono hB.size); have o1 := o1.below hb2 o1.lt; have o3 := o3.below hb2 o3.lt; have lto1 := o1.lt; have lto3 := o3.lt; have qo10 := o1.cell 0 _ rfl; have qo11 := o1.cell 1 _ rfl; have qo12 := o1.cell 2 _ rfl; have qo13 := o1.cell 3 _ rfl; have qo14 := o1.cell 4 _ rfl; have wa := wa.below hb2 (Nat.le_refl _); have wb := wb.below hb2 (Nat.le_refl _); have nd := nd.below hb2 (Nat.le_refl _); have hu1 := hu1.below hb2 (Nat.le_refl _); obtain ⟨x2, y2, z2, e2, rfl, _, _⟩ := hu2.open; have fo3 := o3.free; have co30 := o3.cell 0 _ rfl; have co31 := o3.cell 1 _ rfl; have co32 := o3.cell 2 _ rfl; have co33 := o3.cell 3 _ rfl; have co34 := o3.cell 4 _ rfl; clear tok2 _t))
  go_wp2_with fail
  exact bodyPost_ret (by simp [results, Tryz.results131, go_sem, co30, co31, co32, co33, co34]) rfl (num_end (num_of hu1 hu2 nd (low_neg low)) o3 hB (by omega) cq_neg.symm)
set_option maxRecDepth 100000 in
set_option maxHeartbeats 800000 in
theorem nsub_spec (v u : Value) (x y : CQ) (k : Nat) (w : World) (h : NumRep w v x) (h' : NumRep w u y) (hs : Small k x) (hs' : Small k y) (hk : k ≤ 1099511627776) :
    Calls Tryz.prog 133 #[v, u] w (Ret w fun w' v' => NumRep w' v' (x.sub y)) := by
  obtain ⟨s1, s2, a1, a2, a3, l1, c1, l2, c2, l3, c3, rfl⟩ := h.open
  obtain ⟨t1, t2, p1, p2, p3, m1, n1, m2, n2, m3, n3, rfl⟩ := h'.open
  go_enter Tryz.func133, Tryz.ntmps133
  go_upto_region 1 with (fail)
  obtain ⟨W, hW, o1, o2, o3, hB, hS⟩ := boxes3 w 40 40 40 [.bool s1, .slice a1 l1 c1, .bool s2, .slice a2 l2 c2, .slice a3 l3 c3] [.bool t1, .slice p1 m1 n1, .bool t2, .slice p2 m2 n2, .slice p3 m3 n3] [.bool false, .slice none 0 0, .bool false, .slice none 0 0, .slice none 0 0]
  rw [← hW]
  clear hW
  have qo10 := o1.cell 0 _ rfl; have qo11 := o1.cell 1 _ rfl; have qo12 := o1.cell 2 _ rfl; have qo13 := o1.cell 3 _ rfl; have qo14 := o1.cell 4 _ rfl; have qo20 := o2.cell 0 _ rfl; have qo21 := o2.cell 1 _ rfl; have qo22 := o2.cell 2 _ rfl; have qo23 := o2.cell 3 _ rfl; have qo24 := o2.cell 4 _ rfl
  have o1 : Own W.drew _ _ _ := o1; have o2 : Own W.drew _ _ _ := o2; have o3 : Own W.drew _ _ _ := o3; have lto1 : _ < W.heap.size := o1.lt; have lto2 : _ < W.heap.size := o2.lt; have lto3 : _ < W.heap.size := o3.lt; have hB := hB.drew
  have h := h.below hB (Nat.le_refl _); have h' := h'.below hB (Nat.le_refl _)
  have tok1 : True := trivial
  have tok2 : True := trivial
  go_region_held3 (fun w' => w'.cell? ⟨w.heap.size, 0, none⟩ = some (.bool s1) ∧ w'.cell? ⟨w.heap.size, 1, none⟩ = some (.slice a1 l1 c1) ∧ w'.cell? ⟨w.heap.size, 2, none⟩ = some (.bool s2) ∧ w'.cell? ⟨w.heap.size, 3, none⟩ = some (.slice a2 l2 c2) ∧ w'.cell? ⟨w.heap.size, 4, none⟩ = some (.slice a3 l3 c3) ∧ w'.cell? ⟨w.heap.size + 1, 0, none⟩ = some (.bool t1) ∧ w'.cell? ⟨w.heap.size + 1, 1, none⟩ = some (.slice p1 m1 n1) ∧ w'.cell? ⟨w.heap.size + 1, 2, none⟩ = some (.bool t2) ∧ w'.cell? ⟨w.heap.size + 1, 3, none⟩ = some (.slice p2 m2 n2) ∧ w'.cell? ⟨w.heap.size + 1, 4, none⟩ = some (.slice p3 m3 n3)) (first | (with_reducible exact ⟨o1.cell 0 _ rfl, o1.cell 1 _ rfl, o1.cell 2 _ rfl, o1.cell 3 _ rfl, o1.cell 4 _ rfl, o2.cell 0 _ rfl, o2.cell 1 _ rfl, o2.cell 2 _ rfl, o2.cell 3 _ rfl, o2.cell 4 _ rfl⟩) | (simp [go_sem, qo10, qo11, qo12, qo13, qo14, qo20, qo21, qo22, qo23, qo24, lto1, lto2]; done))
    (first
      | (go_at_call 131; have _t := tok1; refine (nneg_spec _ y _ h').mono ?_; rintro e W1 ⟨u1, rfl, hu1, hb1⟩; have hsW1 : W.heap.size ≤ W1.heap.size := hb1.size; have hB := hB.trans (hb1.mono hB.size); have o1 := o1.below hb1 o1.lt; have o2 := o2.below hb1 o2.lt; have o3 := o3.below hb1 o3.lt; have lto1 := o1.lt; have lto2 := o2.lt; have lto3 := o3.lt; have qo10 := o1.cell 0 _ rfl; have qo11 := o1.cell 1 _ rfl; have qo12 := o1.cell 2 _ rfl; have qo13 := o1.cell 3 _ rfl; have qo14 := o1.cell 4 _ rfl; have qo20 := o2.cell 0 _ rfl; have qo21 := o2.cell 1 _ rfl; have qo22 := o2.cell 2 _ rfl; have qo23 := o2.cell 3 _ rfl; have qo24 := o2.cell 4 _ rfl; have h := h.below hb1 (Nat.le_refl _); have h' := h'.below hb1 (Nat.le_refl _); clear tok1 _t)
      | (go_at_call 176; have _t := tok2; refine (nadd_spec _ _ x y.neg k _ h hu1 hs hs'.neg hk).mono ?_; rintro e W2 ⟨u8, rfl, hu8, hb2⟩; have hsW2 : W1.heap.size ≤ W2.heap.size := hb2.size; have hB := hB.trans (hb2.mono hB.size); have o1 := o1.below hb2 o1.lt; have o2 := o2.below hb2 o2.lt; have o3 := o3.below hb2 o3.lt; have lto1 := o1.lt; have lto2 := o2.lt; have lto3 := o3.lt; have qo10 := o1.cell 0 _ rfl; have qo11 := o1.cell 1 _ rfl; have qo12 := o1.cell 2 _ rfl; have qo13 := o1.cell 3 _ rfl; have qo14 := o1.cell 4 _ rfl; have qo20 := o2.cell 0 _ rfl; have qo21 := o2.cell 1 _ rfl; have qo22 := o2.cell 2 _ rfl; have qo23 := o2.cell 3 _ rfl; have qo24 := o2.cell 4 _ rfl; have h := h.below hb2 (Nat.le_refl _); have h' := h'.below hb2 (Nat.le_refl _); have hu1 := hu1.below hb2 (Nat.le_refl _); obtain ⟨_, _, _, _, _, _, _, _, _, _, _, rfl⟩ := hu8.open; have fo3 := o3.free; have co30 := o3.cell 0 _ rfl; have co31 := o3.cell 1 _ rfl; have co32 := o3.cell 2 _ rfl; have co33 := o3.cell 3 _ rfl; have co34 := o3.cell 4 _ rfl; clear tok2 _t))
  go_wp2_with fail
  exact bodyPost_ret (by simp [results, Tryz.results133, go_sem, co30, co31, co32, co33, co34]) rfl (num_end hu8 o3 hB (by omega) (CQ.sub_eq x y).symm)
set_option maxRecDepth 100000 in
set_option maxHeartbeats 800000 in
theorem im_spec (v : Value) (x : CQ) (k : Nat) (w : World) (h : NumRep w v x) (hs : Small k x) (hk : k ≤ 1099511627776) :
    Calls Tryz.prog 84 #[v] w (Ret w fun w' v' => NumRep w' v' ⟨x.im, 0⟩) := by
  obtain ⟨a, b, d, s1, s2, a1, a2, a3, l1, c1, l2, c2, l3, c3, rfl, wa, wb, tri, low, rfl, -, -, -, -⟩ := h.all
  obtain ⟨hs1, hs2, hs3⟩ := hs.low low
  have hfin : cq b 0 d = ⟨(cq a b d).im, 0⟩ := CQ.ext rfl (show ((0 : Int) : Rat) / _ = 0 by rw [Rat.div_def]; simp)
  have HF := Lib.hid hfin
  clear hfin
  go_enter Tryz.func84, Tryz.ntmps84
  go_upto_region 1 with (fail)
  obtain ⟨W, hW, o1, o3, hB, hS⟩ := boxes2 w 40 40 [.bool s1, .slice a1 l1 c1, .bool s2, .slice a2 l2 c2, .slice a3 l3 c3] [.bool false, .slice none 0 0, .bool false, .slice none 0 0, .slice none 0 0]
  rw [← hW]
  clear hW
  have qo10 := o1.cell 0 _ rfl; have qo11 := o1.cell 1 _ rfl; have qo12 := o1.cell 2 _ rfl; have qo13 := o1.cell 3 _ rfl; have qo14 := o1.cell 4 _ rfl
  have o1 : Own W.drew _ _ _ := o1; have o3 : Own W.drew _ _ _ := o3; have lto1 : _ < W.heap.size := o1.lt; have lto3 : _ < W.heap.size := o3.lt; have hB := hB.drew
  have tri := tri.below hB (Nat.le_refl _); have wb := wb.below hB (Nat.le_refl _)
  have tok1 : True := trivial
  have tok2 : True := trivial
  go_region_held3 (fun w' => w'.cell? ⟨w.heap.size, 0, none⟩ = some (.bool s1) ∧ w'.cell? ⟨w.heap.size, 1, none⟩ = some (.slice a1 l1 c1) ∧ w'.cell? ⟨w.heap.size, 2, none⟩ = some (.bool s2) ∧ w'.cell? ⟨w.heap.size, 3, none⟩ = some (.slice a2 l2 c2) ∧ w'.cell? ⟨w.heap.size, 4, none⟩ = some (.slice a3 l3 c3)) (first | (with_reducible exact ⟨o1.cell 0 _ rfl, o1.cell 1 _ rfl, o1.cell 2 _ rfl, o1.cell 3 _ rfl, o1.cell 4 _ rfl⟩) | (simp [go_sem, qo10, qo11, qo12, qo13, qo14, lto1]; done))
    (first
      | (go_at_call 75; have _t := tok1; refine (den_spec _ a b d _ tri).mono ?_; rintro e W1 ⟨v1, rfl, hv1, hb1⟩; have hsW1 : W.heap.size ≤ W1.heap.size := hb1.size; have hB := hB.trans (hb1.mono hB.size); have o1 := o1.below hb1 o1.lt; have o3 := o3.below hb1 o3.lt; have lto1 := o1.lt; have lto3 := o3.lt; have qo10 := o1.cell 0 _ rfl; have qo11 := o1.cell 1 _ rfl; have qo12 := o1.cell 2 _ rfl; have qo13 := o1.cell 3 _ rfl; have qo14 := o1.cell 4 _ rfl; have tri := tri.below hb1 (Nat.le_refl _); have wb := wb.below hb1 (Nat.le_refl _); clear tok1 _t)
      | (go_at_call 91; have _t := tok2; refine (over_spec _ _ _ b 0 d k _ wb whole_zero hv1 low.1 hs2 (Nat.two_pow_pos k) hs3 (by omega)).mono ?_; rintro e W2 ⟨u8, rfl, hu8, hb2⟩; have hsW2 : W1.heap.size ≤ W2.heap.size := hb2.size; have hB := hB.trans (hb2.mono hB.size); have o1 := o1.below hb2 o1.lt; have o3 := o3.below hb2 o3.lt; have lto1 := o1.lt; have lto3 := o3.lt; have qo10 := o1.cell 0 _ rfl; have qo11 := o1.cell 1 _ rfl; have qo12 := o1.cell 2 _ rfl; have qo13 := o1.cell 3 _ rfl; have qo14 := o1.cell 4 _ rfl; have tri := tri.below hb2 (Nat.le_refl _); have wb := wb.below hb2 (Nat.le_refl _); have hv1 := hv1.below hb2 (Nat.le_refl _); obtain ⟨_, _, _, _, _, _, _, _, _, _, _, rfl⟩ := hu8.open; have fo3 := o3.free; have co30 := o3.cell 0 _ rfl; have co31 := o3.cell 1 _ rfl; have co32 := o3.cell 2 _ rfl; have co33 := o3.cell 3 _ rfl; have co34 := o3.cell 4 _ rfl; clear tok2 _t))
  go_wp2_with fail
  exact bodyPost_ret (by simp [results, Tryz.results84, go_sem, co30, co31, co32, co33, co34]) rfl (num_end hu8 o3 hB (by omega) HF.out)
theorem im_zero {a b : Int} {d : Nat} (h : 0 < d) : (cq a b d).im = 0 ↔ b = 0 := by
  have h1 := rat_ne h
  show (b : Rat) / ((d : Int) : Rat) = 0 ↔ _
  constructor
  · intro e
    have : (b : Rat) = 0 := by grind
    exact Rat.intCast_inj.1 this
  · intro e; subst e; rw [Rat.div_def]; simp
theorem re_zero {a b : Int} {d : Nat} (h : 0 < d) : (cq a b d).re = 0 ↔ a = 0 := im_zero (a := b) h
set_option maxHeartbeats 400000 in
theorem real_spec (v : Value) (x : CQ) (w : World) (h : NumRep w v x) :
    Calls Tryz.prog 73 #[v] w (Ret w fun _ v' => v' = .bool (decide (x.im = 0))) := by
  obtain ⟨a, b, d, s1, s2, a1, a2, a3, l1, c1, l2, c2, l3, c3, rfl, -, -, -, low, rfl, -, lb, -, -⟩ := h.all
  have e : ((l2 : Int) == 0) = decide ((cq a b d).im = 0) := by
    rw [Bool.eq_iff_iff, beq_iff_eq, decide_eq_true_iff, im_zero low.1, ← lb]; omega
  generalize decide ((cq a b d).im = 0) = r at *
  clear lb
  go_enter Tryz.func73, Tryz.ntmps73
  go_wp2
  go_ret
  exact ⟨_, rfl, rfl, (Below.refl _ _).alloc (Nat.le_refl _) _⟩
end Go.Proofs.YtfkogkcpndaoeaaGreat
