/- Numbers: Cmp, Same, Floor. Conditions: fewer than 2^40 bits. Numbers: New. Conditions: the denominator is above 0. -/
import Derived.Test.YtfkogkcpndaoeaaGreatMNumB
set_option linter.all false
namespace Go.Proofs.YtfkogkcpndaoeaaGreat
open Go.RowKit
def rcmp (x y : Rat) : Int := if x < y then -1 else if y < x then 1 else 0
def qcmp (x y : CQ) : Int := if rcmp x.re y.re = 0 then rcmp x.im y.im else rcmp x.re y.re
theorem rat_pos {d : Nat} (h : 0 < d) : (0 : Rat) < ((d : Int) : Rat) := by
  have : ((0 : Int) : Rat) < ((d : Int) : Rat) := Rat.intCast_lt_intCast.2 (by omega)
  simpa using this
theorem ratio_lt {a A : Int} {d D : Nat} (h : 0 < d) (H : 0 < D) : (a : Rat) / ((d : Int) : Rat) < (A : Rat) / ((D : Int) : Rat) ↔ a * D < A * d := by
  have h1 := rat_pos h
  have h2 := rat_pos H
  rw [Rat.div_lt_iff h1]
  have e : (A : Rat) / ((D : Int) : Rat) * ((d : Int) : Rat) = (A * d : Int) / ((D : Int) : Rat) := by rw [Rat.intCast_mul, Rat.div_def, Rat.div_def]; grind
  rw [e, Rat.lt_div_iff h2, ← Rat.intCast_mul, Rat.intCast_lt_intCast]
theorem rcmp_eq {a A : Int} {d D : Nat} (h : 0 < d) (H : 0 < D) : icmp (a * D) (A * d) = rcmp ((a : Rat) / ((d : Int) : Rat)) ((A : Rat) / ((D : Int) : Rat)) := by
  unfold icmp rcmp
  simp only [ratio_lt h H, ratio_lt H h]
theorem icmp_zero {z y : Int} : icmp z y = 0 ↔ z = y := by
  unfold icmp
  split
  · constructor <;> intro h <;> omega
  · split
    · constructor <;> intro h <;> omega
    · constructor <;> intro h <;> omega
theorem cmpZ_zero {n m : Nat} : cmpZ n m = 0 ↔ n = m := by
  unfold cmpZ
  split
  · constructor <;> intro h <;> omega
  · split
    · constructor <;> intro h <;> omega
    · constructor <;> intro h <;> omega
set_option maxRecDepth 100000 in
set_option maxHeartbeats 1600000 in
theorem ncmp_spec (v u : Value) (x y : CQ) (k : Nat) (w : World) (h : NumRep w v x) (h' : NumRep w u y) (hs : Small k x) (hs' : Small k y) (hk : k ≤ 1099511627776) :
    Calls Tryz.prog 51 #[v, u] w (Ret w fun _ v' => v' = .int .i64 (qcmp x y)) := by
  obtain ⟨a, b, d, s1, s2, a1, a2, a3, l1, c1, l2, c2, l3, c3, rfl, wa, wb, tri, low, rfl, -, -, -, -⟩ := h.all
  obtain ⟨a', b', d', t1, t2, p1, p2, p3, m1, n1, m2, n2, m3, n3, rfl, wa', wb', tri', low', rfl, -, -, -, -⟩ := h'.all
  obtain ⟨hs1, hs2, hs3⟩ := hs.low low
  obtain ⟨hs1', hs2', hs3'⟩ := hs'.low low'
  clear h h' hs hs'
  have B1 := Lib.hid (mul_small' hs1 hs3')
  have B2 := Lib.hid (mul_small' hs1' hs3)
  have B3 := Lib.hid (mul_small' hs2 hs3')
  have B4 := Lib.hid (mul_small' hs2' hs3)
  have R1 : Hid (icmp (a * d') (a' * d) = rcmp (cq a b d).re (cq a' b' d').re) := rcmp_eq low.1 low'.1
  have R2 : Hid (icmp (b * d') (b' * d) = rcmp (cq a b d).im (cq a' b' d').im) := rcmp_eq low.1 low'.1
  go_enter Tryz.func51, Tryz.ntmps51
  go_upto_region 1 with (fail)
  obtain ⟨W, hW, o1, o2, hB, hS⟩ := boxes2 w 40 40 [.bool s1, .slice a1 l1 c1, .bool s2, .slice a2 l2 c2, .slice a3 l3 c3] [.bool t1, .slice p1 m1 n1, .bool t2, .slice p2 m2 n2, .slice p3 m3 n3]
  rw [← hW]
  clear hW
  have qo10 := o1.cell 0 _ rfl; have qo11 := o1.cell 1 _ rfl; have qo12 := o1.cell 2 _ rfl; have qo13 := o1.cell 3 _ rfl; have qo14 := o1.cell 4 _ rfl; have qo20 := o2.cell 0 _ rfl; have qo21 := o2.cell 1 _ rfl; have qo22 := o2.cell 2 _ rfl; have qo23 := o2.cell 3 _ rfl; have qo24 := o2.cell 4 _ rfl
  have o1 : Own W.drew _ _ _ := o1; have o2 : Own W.drew _ _ _ := o2; have lto1 : _ < W.heap.size := o1.lt; have lto2 : _ < W.heap.size := o2.lt; have hB := hB.drew
  have wa := wa.below hB (Nat.le_refl _); have wb := wb.below hB (Nat.le_refl _); have tri := tri.below hB (Nat.le_refl _); have wa' := wa'.below hB (Nat.le_refl _); have wb' := wb'.below hB (Nat.le_refl _); have tri' := tri'.below hB (Nat.le_refl _)
  have tok1 : True := trivial
  have tok2 : True := trivial
  have tok3 : True := trivial
  have tok4 : True := trivial
  have tok5 : True := trivial
  go_region_held3 (fun w' => w'.cell? ⟨w.heap.size, 0, none⟩ = some (.bool s1) ∧ w'.cell? ⟨w.heap.size, 1, none⟩ = some (.slice a1 l1 c1) ∧ w'.cell? ⟨w.heap.size, 2, none⟩ = some (.bool s2) ∧ w'.cell? ⟨w.heap.size, 3, none⟩ = some (.slice a2 l2 c2) ∧ w'.cell? ⟨w.heap.size, 4, none⟩ = some (.slice a3 l3 c3) ∧ w'.cell? ⟨w.heap.size + 1, 0, none⟩ = some (.bool t1) ∧ w'.cell? ⟨w.heap.size + 1, 1, none⟩ = some (.slice p1 m1 n1) ∧ w'.cell? ⟨w.heap.size + 1, 2, none⟩ = some (.bool t2) ∧ w'.cell? ⟨w.heap.size + 1, 3, none⟩ = some (.slice p2 m2 n2) ∧ w'.cell? ⟨w.heap.size + 1, 4, none⟩ = some (.slice p3 m3 n3)) (first | (with_reducible exact ⟨o1.cell 0 _ rfl, o1.cell 1 _ rfl, o1.cell 2 _ rfl, o1.cell 3 _ rfl, o1.cell 4 _ rfl, o2.cell 0 _ rfl, o2.cell 1 _ rfl, o2.cell 2 _ rfl, o2.cell 3 _ rfl, o2.cell 4 _ rfl⟩) | (simp [go_sem, qo10, qo11, qo12, qo13, qo14, qo20, qo21, qo22, qo23, qo24, lto1, lto2]; done))
    (first
      | (go_at_call 75; have _t := tok1; refine (den_spec _ a' b' d' _ tri').mono ?_; rintro e W1 ⟨d1, rfl, hd1, hb1⟩; have hsW1 : W.heap.size ≤ W1.heap.size := hb1.size; have hB := hB.trans (hb1.mono hB.size); have o1 := o1.below hb1 o1.lt; have o2 := o2.below hb1 o2.lt; have lto1 := o1.lt; have lto2 := o2.lt; have qo10 := o1.cell 0 _ rfl; have qo11 := o1.cell 1 _ rfl; have qo12 := o1.cell 2 _ rfl; have qo13 := o1.cell 3 _ rfl; have qo14 := o1.cell 4 _ rfl; have qo20 := o2.cell 0 _ rfl; have qo21 := o2.cell 1 _ rfl; have qo22 := o2.cell 2 _ rfl; have qo23 := o2.cell 3 _ rfl; have qo24 := o2.cell 4 _ rfl; have wa := wa.below hb1 (Nat.le_refl _); have wb := wb.below hb1 (Nat.le_refl _); have tri := tri.below hb1 (Nat.le_refl _); have wa' := wa'.below hb1 (Nat.le_refl _); have wb' := wb'.below hb1 (Nat.le_refl _); have tri' := tri'.below hb1 (Nat.le_refl _); clear tok1 _t)
      | (go_at_call 104; have _t := tok2; refine (scaled_spec _ _ a d' k _ wa hd1 hs1 hs3' (by omega)).mono ?_; rintro e W2 ⟨u1, rfl, hu1, hb2⟩; have hsW2 : W1.heap.size ≤ W2.heap.size := hb2.size; have hB := hB.trans (hb2.mono hB.size); have o1 := o1.below hb2 o1.lt; have o2 := o2.below hb2 o2.lt; have lto1 := o1.lt; have lto2 := o2.lt; have qo10 := o1.cell 0 _ rfl; have qo11 := o1.cell 1 _ rfl; have qo12 := o1.cell 2 _ rfl; have qo13 := o1.cell 3 _ rfl; have qo14 := o1.cell 4 _ rfl; have qo20 := o2.cell 0 _ rfl; have qo21 := o2.cell 1 _ rfl; have qo22 := o2.cell 2 _ rfl; have qo23 := o2.cell 3 _ rfl; have qo24 := o2.cell 4 _ rfl; have wa := wa.below hb2 (Nat.le_refl _); have wb := wb.below hb2 (Nat.le_refl _); have tri := tri.below hb2 (Nat.le_refl _); have wa' := wa'.below hb2 (Nat.le_refl _); have wb' := wb'.below hb2 (Nat.le_refl _); have tri' := tri'.below hb2 (Nat.le_refl _); have hd1 := hd1.below hb2 (Nat.le_refl _); clear tok2 _t)
      | (go_at_call 75; have _t := tok3; refine (den_spec _ a b d _ tri).mono ?_; rintro e W3 ⟨d2, rfl, hd2, hb3⟩; have hsW3 : W2.heap.size ≤ W3.heap.size := hb3.size; have hB := hB.trans (hb3.mono hB.size); have o1 := o1.below hb3 o1.lt; have o2 := o2.below hb3 o2.lt; have lto1 := o1.lt; have lto2 := o2.lt; have qo10 := o1.cell 0 _ rfl; have qo11 := o1.cell 1 _ rfl; have qo12 := o1.cell 2 _ rfl; have qo13 := o1.cell 3 _ rfl; have qo14 := o1.cell 4 _ rfl; have qo20 := o2.cell 0 _ rfl; have qo21 := o2.cell 1 _ rfl; have qo22 := o2.cell 2 _ rfl; have qo23 := o2.cell 3 _ rfl; have qo24 := o2.cell 4 _ rfl; have wa := wa.below hb3 (Nat.le_refl _); have wb := wb.below hb3 (Nat.le_refl _); have tri := tri.below hb3 (Nat.le_refl _); have wa' := wa'.below hb3 (Nat.le_refl _); have wb' := wb'.below hb3 (Nat.le_refl _); have tri' := tri'.below hb3 (Nat.le_refl _); have hd1 := hd1.below hb3 (Nat.le_refl _); have hu1 := hu1.below hb3 (Nat.le_refl _); clear tok3 _t)
      | (go_at_call 104; have _t := tok4; refine (scaled_spec _ _ a' d k _ wa' hd2 hs1' hs3 (by omega)).mono ?_; rintro e W4 ⟨u2, rfl, hu2, hb4⟩; have hsW4 : W3.heap.size ≤ W4.heap.size := hb4.size; have hB := hB.trans (hb4.mono hB.size); have o1 := o1.below hb4 o1.lt; have o2 := o2.below hb4 o2.lt; have lto1 := o1.lt; have lto2 := o2.lt; have qo10 := o1.cell 0 _ rfl; have qo11 := o1.cell 1 _ rfl; have qo12 := o1.cell 2 _ rfl; have qo13 := o1.cell 3 _ rfl; have qo14 := o1.cell 4 _ rfl; have qo20 := o2.cell 0 _ rfl; have qo21 := o2.cell 1 _ rfl; have qo22 := o2.cell 2 _ rfl; have qo23 := o2.cell 3 _ rfl; have qo24 := o2.cell 4 _ rfl; have wa := wa.below hb4 (Nat.le_refl _); have wb := wb.below hb4 (Nat.le_refl _); have tri := tri.below hb4 (Nat.le_refl _); have wa' := wa'.below hb4 (Nat.le_refl _); have wb' := wb'.below hb4 (Nat.le_refl _); have tri' := tri'.below hb4 (Nat.le_refl _); have hd1 := hd1.below hb4 (Nat.le_refl _); have hu1 := hu1.below hb4 (Nat.le_refl _); have hd2 := hd2.below hb4 (Nat.le_refl _); clear tok4 _t)
      | (go_at_call 105; have _t := tok5; refine (wcmp_spec _ _ (a * d') (a' * d) (2 * k) _ hu1 hu2 B1.out B2.out (by omega)).mono ?_; rintro e W5 ⟨_, rfl, rfl, hb5⟩; have hsW5 : W4.heap.size ≤ W5.heap.size := hb5.size; have hB := hB.trans (hb5.mono hB.size); have o1 := o1.below hb5 o1.lt; have o2 := o2.below hb5 o2.lt; have lto1 := o1.lt; have lto2 := o2.lt; have qo10 := o1.cell 0 _ rfl; have qo11 := o1.cell 1 _ rfl; have qo12 := o1.cell 2 _ rfl; have qo13 := o1.cell 3 _ rfl; have qo14 := o1.cell 4 _ rfl; have qo20 := o2.cell 0 _ rfl; have qo21 := o2.cell 1 _ rfl; have qo22 := o2.cell 2 _ rfl; have qo23 := o2.cell 3 _ rfl; have qo24 := o2.cell 4 _ rfl; have wa := wa.below hb5 (Nat.le_refl _); have wb := wb.below hb5 (Nat.le_refl _); have tri := tri.below hb5 (Nat.le_refl _); have wa' := wa'.below hb5 (Nat.le_refl _); have wb' := wb'.below hb5 (Nat.le_refl _); have tri' := tri'.below hb5 (Nat.le_refl _); have hd1 := hd1.below hb5 (Nat.le_refl _); have hu1 := hu1.below hb5 (Nat.le_refl _); have hd2 := hd2.below hb5 (Nat.le_refl _); have hu2 := hu2.below hb5 (Nat.le_refl _); clear tok5 _t))
  clear hu1 hu2 hd1 hd2
  rw [R1.out]
  by_cases hc : rcmp (cq a b d).re (cq a' b' d').re = 0
  · have HC := Lib.hid hc
    rw [hc]
    clear hc
    go_wp2_with fail
    have qo10 := o1.cell 0 _ rfl; have qo11 := o1.cell 1 _ rfl; have qo12 := o1.cell 2 _ rfl; have qo13 := o1.cell 3 _ rfl; have qo14 := o1.cell 4 _ rfl; have qo20 := o2.cell 0 _ rfl; have qo21 := o2.cell 1 _ rfl; have qo22 := o2.cell 2 _ rfl; have qo23 := o2.cell 3 _ rfl; have qo24 := o2.cell 4 _ rfl
    have o1 : Own W5.drew _ _ _ := o1; have o2 : Own W5.drew _ _ _ := o2; have lto1 : _ < W5.heap.size := o1.lt; have lto2 : _ < W5.heap.size := o2.lt; have hB := hB.drew
    have wb := wb.below ((Below.refl W5.heap.size W5).drew) (Nat.le_refl _); have tri := tri.below ((Below.refl W5.heap.size W5).drew) (Nat.le_refl _); have wb' := wb'.below ((Below.refl W5.heap.size W5).drew) (Nat.le_refl _); have tri' := tri'.below ((Below.refl W5.heap.size W5).drew) (Nat.le_refl _)
    have tok1 : True := trivial
    have tok2 : True := trivial
    have tok3 : True := trivial
    have tok4 : True := trivial
    have tok5 : True := trivial
    go_region_held3 (fun w' => w'.cell? ⟨w.heap.size, 0, none⟩ = some (.bool s1) ∧ w'.cell? ⟨w.heap.size, 1, none⟩ = some (.slice a1 l1 c1) ∧ w'.cell? ⟨w.heap.size, 2, none⟩ = some (.bool s2) ∧ w'.cell? ⟨w.heap.size, 3, none⟩ = some (.slice a2 l2 c2) ∧ w'.cell? ⟨w.heap.size, 4, none⟩ = some (.slice a3 l3 c3) ∧ w'.cell? ⟨w.heap.size + 1, 0, none⟩ = some (.bool t1) ∧ w'.cell? ⟨w.heap.size + 1, 1, none⟩ = some (.slice p1 m1 n1) ∧ w'.cell? ⟨w.heap.size + 1, 2, none⟩ = some (.bool t2) ∧ w'.cell? ⟨w.heap.size + 1, 3, none⟩ = some (.slice p2 m2 n2) ∧ w'.cell? ⟨w.heap.size + 1, 4, none⟩ = some (.slice p3 m3 n3)) (first | (with_reducible exact ⟨o1.cell 0 _ rfl, o1.cell 1 _ rfl, o1.cell 2 _ rfl, o1.cell 3 _ rfl, o1.cell 4 _ rfl, o2.cell 0 _ rfl, o2.cell 1 _ rfl, o2.cell 2 _ rfl, o2.cell 3 _ rfl, o2.cell 4 _ rfl⟩) | (simp [go_sem, qo10, qo11, qo12, qo13, qo14, qo20, qo21, qo22, qo23, qo24, lto1, lto2]; done))
      (first
        | (go_at_call 75; have _t := tok1; refine (den_spec _ a' b' d' _ tri').mono ?_; rintro e W51 ⟨d1, rfl, hd1, hb1⟩; have hsW51 : W5.heap.size ≤ W51.heap.size := hb1.size; have hB := hB.trans (hb1.mono hB.size); have o1 := o1.below hb1 o1.lt; have o2 := o2.below hb1 o2.lt; have lto1 := o1.lt; have lto2 := o2.lt; have qo10 := o1.cell 0 _ rfl; have qo11 := o1.cell 1 _ rfl; have qo12 := o1.cell 2 _ rfl; have qo13 := o1.cell 3 _ rfl; have qo14 := o1.cell 4 _ rfl; have qo20 := o2.cell 0 _ rfl; have qo21 := o2.cell 1 _ rfl; have qo22 := o2.cell 2 _ rfl; have qo23 := o2.cell 3 _ rfl; have qo24 := o2.cell 4 _ rfl; have wb := wb.below hb1 (Nat.le_refl _); have tri := tri.below hb1 (Nat.le_refl _); have wb' := wb'.below hb1 (Nat.le_refl _); have tri' := tri'.below hb1 (Nat.le_refl _); clear tok1 _t)
        | (go_at_call 104; have _t := tok2; refine (scaled_spec _ _ b d' k _ wb hd1 hs2 hs3' (by omega)).mono ?_; rintro e W52 ⟨u1, rfl, hu1, hb2⟩; have hsW52 : W51.heap.size ≤ W52.heap.size := hb2.size; have hB := hB.trans (hb2.mono hB.size); have o1 := o1.below hb2 o1.lt; have o2 := o2.below hb2 o2.lt; have lto1 := o1.lt; have lto2 := o2.lt; have qo10 := o1.cell 0 _ rfl; have qo11 := o1.cell 1 _ rfl; have qo12 := o1.cell 2 _ rfl; have qo13 := o1.cell 3 _ rfl; have qo14 := o1.cell 4 _ rfl; have qo20 := o2.cell 0 _ rfl; have qo21 := o2.cell 1 _ rfl; have qo22 := o2.cell 2 _ rfl; have qo23 := o2.cell 3 _ rfl; have qo24 := o2.cell 4 _ rfl; have wb := wb.below hb2 (Nat.le_refl _); have tri := tri.below hb2 (Nat.le_refl _); have wb' := wb'.below hb2 (Nat.le_refl _); have tri' := tri'.below hb2 (Nat.le_refl _); have hd1 := hd1.below hb2 (Nat.le_refl _); clear tok2 _t)
        | (go_at_call 75; have _t := tok3; refine (den_spec _ a b d _ tri).mono ?_; rintro e W53 ⟨d2, rfl, hd2, hb3⟩; have hsW53 : W52.heap.size ≤ W53.heap.size := hb3.size; have hB := hB.trans (hb3.mono hB.size); have o1 := o1.below hb3 o1.lt; have o2 := o2.below hb3 o2.lt; have lto1 := o1.lt; have lto2 := o2.lt; have qo10 := o1.cell 0 _ rfl; have qo11 := o1.cell 1 _ rfl; have qo12 := o1.cell 2 _ rfl; have qo13 := o1.cell 3 _ rfl; have qo14 := o1.cell 4 _ rfl; have qo20 := o2.cell 0 _ rfl; have qo21 := o2.cell 1 _ rfl; have qo22 := o2.cell 2 _ rfl; have qo23 := o2.cell 3 _ rfl; have qo24 := o2.cell 4 _ rfl; have wb := wb.below hb3 (Nat.le_refl _); have tri := tri.below hb3 (Nat.le_refl _); have wb' := wb'.below hb3 (Nat.le_refl _); have tri' := tri'.below hb3 (Nat.le_refl _); have hd1 := hd1.below hb3 (Nat.le_refl _); have hu1 := hu1.below hb3 (Nat.le_refl _); clear tok3 _t)
        | (go_at_call 104; have _t := tok4; refine (scaled_spec _ _ b' d k _ wb' hd2 hs2' hs3 (by omega)).mono ?_; rintro e W54 ⟨u2, rfl, hu2, hb4⟩; have hsW54 : W53.heap.size ≤ W54.heap.size := hb4.size; have hB := hB.trans (hb4.mono hB.size); have o1 := o1.below hb4 o1.lt; have o2 := o2.below hb4 o2.lt; have lto1 := o1.lt; have lto2 := o2.lt; have qo10 := o1.cell 0 _ rfl; have qo11 := o1.cell 1 _ rfl; have qo12 := o1.cell 2 _ rfl; have qo13 := o1.cell 3 _ rfl; have qo14 := o1.cell 4 _ rfl; have qo20 := o2.cell 0 _ rfl; have qo21 := o2.cell 1 _ rfl; have qo22 := o2.cell 2 _ rfl; have qo23 := o2.cell 3 _ rfl; have qo24 := o2.cell 4 _ rfl; have wb := wb.below hb4 (Nat.le_refl _); have tri := tri.below hb4 (Nat.le_refl _); have wb' := wb'.below hb4 (Nat.le_refl _); have tri' := tri'.below hb4 (Nat.le_refl _); have hd1 := hd1.below hb4 (Nat.le_refl _); have hu1 := hu1.below hb4 (Nat.le_refl _); have hd2 := hd2.below hb4 (Nat.le_refl _); clear tok4 _t)
        | (go_at_call 105; have _t := tok5; refine (wcmp_spec _ _ (b * d') (b' * d) (2 * k) _ hu1 hu2 B3.out B4.out (by omega)).mono ?_; rintro e W55 ⟨_, rfl, rfl, hb5⟩; have hsW55 : W54.heap.size ≤ W55.heap.size := hb5.size; have hB := hB.trans (hb5.mono hB.size); have o1 := o1.below hb5 o1.lt; have o2 := o2.below hb5 o2.lt; have lto1 := o1.lt; have lto2 := o2.lt; have qo10 := o1.cell 0 _ rfl; have qo11 := o1.cell 1 _ rfl; have qo12 := o1.cell 2 _ rfl; have qo13 := o1.cell 3 _ rfl; have qo14 := o1.cell 4 _ rfl; have qo20 := o2.cell 0 _ rfl; have qo21 := o2.cell 1 _ rfl; have qo22 := o2.cell 2 _ rfl; have qo23 := o2.cell 3 _ rfl; have qo24 := o2.cell 4 _ rfl; have wb := wb.below hb5 (Nat.le_refl _); have tri := tri.below hb5 (Nat.le_refl _); have wb' := wb'.below hb5 (Nat.le_refl _); have tri' := tri'.below hb5 (Nat.le_refl _); have hd1 := hd1.below hb5 (Nat.le_refl _); have hu1 := hu1.below hb5 (Nat.le_refl _); have hd2 := hd2.below hb5 (Nat.le_refl _); have hu2 := hu2.below hb5 (Nat.le_refl _); clear tok5 _t))
    rw [R2.out]
    go_wp2_with fail
    go_ret
    exact ⟨_, rfl, int_of (by unfold qcmp; rw [if_pos HC.out]), hB⟩
  · have HC := Lib.hid hc
    have hc1 : ((rcmp (cq a b d).re (cq a' b' d').re) != 0) = true := by simpa using hc
    have hcq : qcmp (cq a b d) (cq a' b' d') = rcmp (cq a b d).re (cq a' b' d').re := by unfold qcmp; rw [if_neg hc]
    generalize rcmp (cq a b d).re (cq a' b' d').re = cc at *
    have HQ := Lib.hid hcq
    clear hc hcq
    go_wp2_with fail
    go_ret
    exact ⟨_, rfl, int_of HQ.out.symm, hB⟩
def cqEq (x y : CQ) : Bool := decide (x.re = y.re) && decide (x.im = y.im)
theorem cqEq_iff {x y : CQ} : cqEq x y = true ↔ x = y := by
  unfold cqEq
  rw [Bool.and_eq_true, decide_eq_true_iff, decide_eq_true_iff]
  exact ⟨fun h => CQ.ext h.1 h.2, fun h => by rw [h]; exact ⟨rfl, rfl⟩⟩
theorem cqEq_low {a b A B : Int} {d D : Nat} (h : Low a b d) (H : Low A B D) : cqEq (cq a b d) (cq A B D) = true ↔ a = A ∧ b = B ∧ d = D := by
  rw [cqEq_iff]
  exact ⟨low_unique h H, fun ⟨h1, h2, h3⟩ => by rw [h1, h2, h3]⟩
theorem cqEq_false {a b A B : Int} {d D : Nat} (h : Low a b d) (H : Low A B D) (hn : ¬ (a = A ∧ b = B ∧ d = D)) : cqEq (cq a b d) (cq A B D) = false := by
  rw [← Bool.not_eq_true, cqEq_low h H]; exact hn
set_option maxRecDepth 100000 in
set_option maxHeartbeats 1600000 in
theorem same_spec (v u : Value) (x y : CQ) (k : Nat) (w : World) (h : NumRep w v x) (h' : NumRep w u y) (hs : Small k x) (hs' : Small k y) (hk : k ≤ 1099511627776) :
    Calls Tryz.prog 64 #[v, u] w (Ret w fun _ v' => v' = .bool (cqEq x y)) := by
  obtain ⟨a, b, d, s1, s2, a1, a2, a3, l1, c1, l2, c2, l3, c3, rfl, wa, wb, -, low, rfl, -, -, -, nd⟩ := h.all
  obtain ⟨a', b', d', t1, t2, p1, p2, p3, m1, n1, m2, n2, m3, n3, rfl, wa', wb', -, low', rfl, -, -, -, nd'⟩ := h'.all
  obtain ⟨hs1, hs2, hs3⟩ := hs.low low
  obtain ⟨hs1', hs2', hs3'⟩ := hs'.low low'
  have F := Lib.hid (cqEq_false low low')
  have T := Lib.hid (cqEq_low low low')
  clear h h' hs hs'
  go_enter Tryz.func64, Tryz.ntmps64
  go_upto_region 1 with (fail)
  obtain ⟨W, hW, o1, o2, hB, hS⟩ := boxes2 w 40 40 [.bool s1, .slice a1 l1 c1, .bool s2, .slice a2 l2 c2, .slice a3 l3 c3] [.bool t1, .slice p1 m1 n1, .bool t2, .slice p2 m2 n2, .slice p3 m3 n3]
  rw [← hW]
  clear hW
  have wa := wa.below hB (Nat.le_refl _); have wb := wb.below hB (Nat.le_refl _); have nd := nd.below hB (Nat.le_refl _); have wa' := wa'.below hB (Nat.le_refl _); have wb' := wb'.below hB (Nat.le_refl _); have nd' := nd'.below hB (Nat.le_refl _)
  have fo1 := o1.free; have co10 := o1.cell 0 _ rfl; have co11 := o1.cell 1 _ rfl; have co12 := o1.cell 2 _ rfl; have co13 := o1.cell 3 _ rfl; have co14 := o1.cell 4 _ rfl; have fo2 := o2.free; have co20 := o2.cell 0 _ rfl; have co21 := o2.cell 1 _ rfl; have co22 := o2.cell 2 _ rfl; have co23 := o2.cell 3 _ rfl; have co24 := o2.cell 4 _ rfl
  go_wp2_with fail
  refine (wcmp_spec _ _ a a' k W wa wa' hs1 hs1' (by omega)).mono ?_
  rintro e W1 ⟨_, rfl, rfl, hb1⟩
  clear co10 co11 co12 co13 co14 fo1 co20 co21 co22 co23 co24 fo2
  have hsW1 : W.heap.size ≤ W1.heap.size := hb1.size; have hB := hB.trans (hb1.mono hB.size); have o1 := o1.below hb1 o1.lt; have o2 := o2.below hb1 o2.lt; have wb := wb.below hb1 (Nat.le_refl _); have nd := nd.below hb1 (Nat.le_refl _); have wb' := wb'.below hb1 (Nat.le_refl _); have nd' := nd'.below hb1 (Nat.le_refl _); have fo1 := o1.free; have co10 := o1.cell 0 _ rfl; have co11 := o1.cell 1 _ rfl; have co12 := o1.cell 2 _ rfl; have co13 := o1.cell 3 _ rfl; have co14 := o1.cell 4 _ rfl; have fo2 := o2.free; have co20 := o2.cell 0 _ rfl; have co21 := o2.cell 1 _ rfl; have co22 := o2.cell 2 _ rfl; have co23 := o2.cell 3 _ rfl; have co24 := o2.cell 4 _ rfl
  by_cases ha : a = a'
  · have hc : icmp a a' = 0 := icmp_zero.2 ha
    rw [hc]
    have HA := Lib.hid ha
    clear hc ha
    go_wp2_with fail
    refine (wcmp_spec _ _ b b' k W1 wb wb' hs2 hs2' (by omega)).mono ?_
    rintro e W2 ⟨_, rfl, rfl, hb2⟩
    clear co10 co11 co12 co13 co14 fo1 co20 co21 co22 co23 co24 fo2
    have hsW2 : W1.heap.size ≤ W2.heap.size := hb2.size; have hB := hB.trans (hb2.mono hB.size); have o1 := o1.below hb2 o1.lt; have o2 := o2.below hb2 o2.lt; have nd := nd.below hb2 (Nat.le_refl _); have nd' := nd'.below hb2 (Nat.le_refl _); have fo1 := o1.free; have co10 := o1.cell 0 _ rfl; have co11 := o1.cell 1 _ rfl; have co12 := o1.cell 2 _ rfl; have co13 := o1.cell 3 _ rfl; have co14 := o1.cell 4 _ rfl; have fo2 := o2.free; have co20 := o2.cell 0 _ rfl; have co21 := o2.cell 1 _ rfl; have co22 := o2.cell 2 _ rfl; have co23 := o2.cell 3 _ rfl; have co24 := o2.cell 4 _ rfl
    by_cases hb : b = b'
    · have hc : icmp b b' = 0 := icmp_zero.2 hb
      rw [hc]
      have HB := Lib.hid hb
      clear hc hb
      go_wp2_with fail
      refine (cmp_spec _ _ _ _ W2 nd nd').mono ?_
      rintro e W3 ⟨_, rfl, rfl, hb3⟩
      have e3 : ((cmpZ (if d = 1 then 0 else d) (if d' = 1 then 0 else d') : Int) == 0) = cqEq (cq a b d) (cq a' b' d') := by
        rw [Bool.eq_iff_iff, beq_iff_eq, cmpZ_zero, T.out]
        have h1 := low.1
        have h2 := low'.1
        constructor
        · intro h
          refine ⟨HA.out, HB.out, ?_⟩
          split at h <;> split at h <;> omega
        · rintro ⟨_, _, h⟩; rw [h]
      have E3 := Lib.hid e3
      generalize cmpZ (if d = 1 then 0 else d) (if d' = 1 then 0 else d') = cc at *
      obtain ⟨rr, hrr⟩ : ∃ rr, rr = cqEq (cq a b d) (cq a' b' d') := ⟨_, rfl⟩
      rw [← hrr] at e3
      have HR := Lib.hid hrr
      clear hrr E3 T F
      go_wp2_with fail
      go_ret
      exact ⟨_, rfl, congrArg Value.bool HR.out, hB.trans (hb3.mono hB.size)⟩
    · have hc : (icmp b b' == 0) = false := by rw [← Bool.not_eq_true, beq_iff_eq, icmp_zero]; exact hb
      have HF := Lib.hid (F.out fun h => hb h.2.1)
      generalize icmp b b' = cc at *
      clear hb
      go_wp2_with fail
      go_ret
      exact ⟨_, rfl, congrArg Value.bool HF.out.symm, hB⟩
  · have hc : (icmp a a' == 0) = false := by rw [← Bool.not_eq_true, beq_iff_eq, icmp_zero]; exact ha
    have HF := Lib.hid (F.out fun h => ha h.1)
    generalize icmp a a' = cc at *
    clear ha
    go_wp2_with fail
    go_ret
    exact ⟨_, rfl, congrArg Value.bool HF.out.symm, hB⟩
theorem floor_ratio {a : Int} {d : Nat} (h : 0 < d) : ((a : Rat) / ((d : Int) : Rat)).floor = a / d := by
  have hp := rat_pos h
  have e1 := Int.emod_add_mul_ediv a d
  have e2 := Int.emod_nonneg a (show (d : Int) ≠ 0 by omega)
  have e3 := Int.emod_lt_of_pos a (show (0 : Int) < d by omega)
  have key : ∀ z : Int, z ≤ ((a : Rat) / ((d : Int) : Rat)).floor ↔ z ≤ a / d := by
    intro z
    rw [Rat.le_floor_iff, ← Rat.not_lt, Rat.div_lt_iff hp, Rat.not_lt, ← Rat.intCast_mul, Rat.intCast_le_intCast, Int.le_ediv_iff_mul_le (by omega)]
  have k1 := (key (a / d)).2 (Int.le_refl _)
  have k2 := (key _).1 (Int.le_refl _)
  omega
def cqFloor (x : CQ) (n : Nat) : CQ := cq (x.re * ((2 ^ n : Nat) : Int)).floor (x.im * ((2 ^ n : Nat) : Int)).floor (2 ^ n)
theorem floor_scaled {a : Int} {d m : Nat} (h : 0 < d) : ((a : Rat) / ((d : Int) : Rat) * ((m : Int) : Rat)).floor = (a * m) / d := by
  rw [← floor_ratio h, Rat.intCast_mul, Rat.div_def, Rat.div_def]
  congr 1
  grind
theorem cqFloor_eq {a b : Int} {d n : Nat} (h : 0 < d) : cqFloor (cq a b d) n = cq (a * (2 ^ n : Nat) / d) (b * (2 ^ n : Nat) / d) (2 ^ n) := by
  unfold cqFloor cq
  rw [floor_scaled h, floor_scaled h]
theorem ediv_small {z : Int} {d k : Nat} (h : z.natAbs < 2 ^ k) : (z / d).natAbs < 2 ^ (k + 1) := by
  have h1 : (z / d).natAbs ≤ z.natAbs + 1 := by
    have := Int.natAbs_ediv_le_natAbs z d
    omega
  rw [Nat.pow_succ]
  have := Nat.two_pow_pos k
  omega
set_option maxRecDepth 100000 in
set_option maxHeartbeats 1600000 in
theorem nfloor_spec (v : Value) (x : CQ) (f : Int) (k : Nat) (w : World) (h : NumRep w v x) (hs : Small k x) (hk : k ≤ 1099511627776) (hf1 : -9223372036854775808 ≤ f) (hf2 : f ≤ 9223372036854775807) :
    Calls Tryz.prog 132 #[v, .int .i64 f] w (Ret w fun w' v' => NumRep w' v' (cqFloor x (min (max f 0) 1000).toNat)) := by
  obtain ⟨a, b, d, s1, s2, a1, a2, a3, l1, c1, l2, c2, l3, c3, rfl, wa, wb, tri, low, rfl, -, -, -, -⟩ := h.all
  obtain ⟨hs1, hs2, hs3⟩ := hs.low low
  obtain ⟨n, hn⟩ : ∃ n : Nat, n = (min (max f 0) 1000).toNat := ⟨_, rfl⟩
  have hn1 : n ≤ 1000 := by omega
  have hnf : min (max f 0) 1000 = (n : Int) := by omega
  rw [← hn, cqFloor_eq low.1]
  have hp : 2 ^ n < 2 ^ (k + 1001) := Nat.pow_lt_pow_right (by omega) (by omega)
  have HP := Lib.hid hp
  have hp0 := Nat.two_pow_pos n
  have B1 := Lib.hid (mul_small' (pow_step hs1 (show k ≤ k + 1001 by omega)) hp)
  have B2 := Lib.hid (mul_small' (pow_step hs2 (show k ≤ k + 1001 by omega)) hp)
  have B3 := Lib.hid (pow_step hs1 (show k ≤ k + 1001 by omega))
  have B4 := Lib.hid (pow_step hs2 (show k ≤ k + 1001 by omega))
  clear hn h hs hp
  go_enter Tryz.func132, Tryz.ntmps132
  go_upto_region 1 with (fail)
  obtain ⟨W, hW, o1, o3, hB, hS⟩ := boxes2 w 40 40 [.bool s1, .slice a1 l1 c1, .bool s2, .slice a2 l2 c2, .slice a3 l3 c3] [.bool false, .slice none 0 0, .bool false, .slice none 0 0, .slice none 0 0]
  rw [← hW]
  clear hW
  have wa := wa.below hB (Nat.le_refl _); have wb := wb.below hB (Nat.le_refl _); have tri := tri.below hB (Nat.le_refl _)
  go_wp2_with fail
  refine (shl_spec _ 1 n 1 _ nat_one (by omega) (by omega) (by omega)).mono ?_
  rintro e W1 ⟨v1, rfl, hv1, hb1⟩
  have hb1 := ext_step (W := W) (by first | exact Below.refl _ _ | exact (Below.refl _ _).alloc (Nat.le_refl _) _ | exact ((Below.refl _ _).alloc (Nat.le_refl _) _).alloc (by simp) _) hb1
  have hsW1 : W.heap.size ≤ W1.heap.size := hb1.size; have hB := hB.trans (hb1.mono hB.size); have o1 := o1.below hb1 o1.lt; have o3 := o3.below hb1 o3.lt; have wa := wa.below hb1 (Nat.le_refl _); have wb := wb.below hb1 (Nat.le_refl _); have tri := tri.below hb1 (Nat.le_refl _)
  rw [Nat.one_mul] at hv1
  go_wp2_with fail
  have qo10 := o1.cell 0 _ rfl; have qo11 := o1.cell 1 _ rfl; have qo12 := o1.cell 2 _ rfl; have qo13 := o1.cell 3 _ rfl; have qo14 := o1.cell 4 _ rfl
  have o1 : Own W1.drew _ _ _ := o1; have o3 : Own W1.drew _ _ _ := o3; have lto1 : _ < W1.heap.size := o1.lt; have lto3 : _ < W1.heap.size := o3.lt; have hB := hB.drew
  have wa := wa.below ((Below.refl W1.heap.size W1).drew) (Nat.le_refl _); have wb := wb.below ((Below.refl W1.heap.size W1).drew) (Nat.le_refl _); have tri := tri.below ((Below.refl W1.heap.size W1).drew) (Nat.le_refl _); have hv1 := hv1.below ((Below.refl W1.heap.size W1).drew) (Nat.le_refl _)
  have tok1 : True := trivial
  have tok2 : True := trivial
  have tok3 : True := trivial
  have tok4 : True := trivial
  have tok5 : True := trivial
  have tok6 : True := trivial
  have tok7 : True := trivial
  go_region_held3 (fun w' => w'.cell? ⟨w.heap.size, 0, none⟩ = some (.bool s1) ∧ w'.cell? ⟨w.heap.size, 1, none⟩ = some (.slice a1 l1 c1) ∧ w'.cell? ⟨w.heap.size, 2, none⟩ = some (.bool s2) ∧ w'.cell? ⟨w.heap.size, 3, none⟩ = some (.slice a2 l2 c2) ∧ w'.cell? ⟨w.heap.size, 4, none⟩ = some (.slice a3 l3 c3)) (first | (with_reducible exact ⟨o1.cell 0 _ rfl, o1.cell 1 _ rfl, o1.cell 2 _ rfl, o1.cell 3 _ rfl, o1.cell 4 _ rfl⟩) | (simp [go_sem, qo10, qo11, qo12, qo13, qo14, lto1]; done))
    (first
      | (go_at_call 104; have _t := tok1; refine (scaled_spec _ _ a (2 ^ n) (k + 1001) _ wa hv1 B3.out HP.out (by omega)).mono ?_; rintro e W11 ⟨u1, rfl, hu1, hb1⟩; have hsW11 : W1.heap.size ≤ W11.heap.size := hb1.size; have hB := hB.trans (hb1.mono hB.size); have o1 := o1.below hb1 o1.lt; have o3 := o3.below hb1 o3.lt; have lto1 := o1.lt; have lto3 := o3.lt; have qo10 := o1.cell 0 _ rfl; have qo11 := o1.cell 1 _ rfl; have qo12 := o1.cell 2 _ rfl; have qo13 := o1.cell 3 _ rfl; have qo14 := o1.cell 4 _ rfl; have wa := wa.below hb1 (Nat.le_refl _); have wb := wb.below hb1 (Nat.le_refl _); have tri := tri.below hb1 (Nat.le_refl _); have hv1 := hv1.below hb1 (Nat.le_refl _); clear tok1 _t)
      | (go_at_call 75; have _t := tok2; refine (den_spec _ a b d _ tri).mono ?_; rintro e W12 ⟨d1, rfl, hd1, hb2⟩; have hsW12 : W11.heap.size ≤ W12.heap.size := hb2.size; have hB := hB.trans (hb2.mono hB.size); have o1 := o1.below hb2 o1.lt; have o3 := o3.below hb2 o3.lt; have lto1 := o1.lt; have lto3 := o3.lt; have qo10 := o1.cell 0 _ rfl; have qo11 := o1.cell 1 _ rfl; have qo12 := o1.cell 2 _ rfl; have qo13 := o1.cell 3 _ rfl; have qo14 := o1.cell 4 _ rfl; have wa := wa.below hb2 (Nat.le_refl _); have wb := wb.below hb2 (Nat.le_refl _); have tri := tri.below hb2 (Nat.le_refl _); have hv1 := hv1.below hb2 (Nat.le_refl _); have hu1 := hu1.below hb2 (Nat.le_refl _); clear tok2 _t)
      | (go_at_call 175; have _t := tok3; refine (floor_spec _ _ (a * (2 ^ n : Nat)) d (2 * (k + 1001)) _ hu1 hd1 low.1 B1.out (by omega)).mono ?_; rintro e W13 ⟨u2, rfl, hu2, hb3⟩; have hsW13 : W12.heap.size ≤ W13.heap.size := hb3.size; have hB := hB.trans (hb3.mono hB.size); have o1 := o1.below hb3 o1.lt; have o3 := o3.below hb3 o3.lt; have lto1 := o1.lt; have lto3 := o3.lt; have qo10 := o1.cell 0 _ rfl; have qo11 := o1.cell 1 _ rfl; have qo12 := o1.cell 2 _ rfl; have qo13 := o1.cell 3 _ rfl; have qo14 := o1.cell 4 _ rfl; have wa := wa.below hb3 (Nat.le_refl _); have wb := wb.below hb3 (Nat.le_refl _); have tri := tri.below hb3 (Nat.le_refl _); have hv1 := hv1.below hb3 (Nat.le_refl _); have hu1 := hu1.below hb3 (Nat.le_refl _); have hd1 := hd1.below hb3 (Nat.le_refl _); clear tok3 _t)
      | (go_at_call 104; have _t := tok4; refine (scaled_spec _ _ b (2 ^ n) (k + 1001) _ wb hv1 B4.out HP.out (by omega)).mono ?_; rintro e W14 ⟨u3, rfl, hu3, hb4⟩; have hsW14 : W13.heap.size ≤ W14.heap.size := hb4.size; have hB := hB.trans (hb4.mono hB.size); have o1 := o1.below hb4 o1.lt; have o3 := o3.below hb4 o3.lt; have lto1 := o1.lt; have lto3 := o3.lt; have qo10 := o1.cell 0 _ rfl; have qo11 := o1.cell 1 _ rfl; have qo12 := o1.cell 2 _ rfl; have qo13 := o1.cell 3 _ rfl; have qo14 := o1.cell 4 _ rfl; have wa := wa.below hb4 (Nat.le_refl _); have wb := wb.below hb4 (Nat.le_refl _); have tri := tri.below hb4 (Nat.le_refl _); have hv1 := hv1.below hb4 (Nat.le_refl _); have hu1 := hu1.below hb4 (Nat.le_refl _); have hd1 := hd1.below hb4 (Nat.le_refl _); have hu2 := hu2.below hb4 (Nat.le_refl _); clear tok4 _t)
      | (go_at_call 75; have _t := tok5; refine (den_spec _ a b d _ tri).mono ?_; rintro e W15 ⟨d2, rfl, hd2, hb5⟩; have hsW15 : W14.heap.size ≤ W15.heap.size := hb5.size; have hB := hB.trans (hb5.mono hB.size); have o1 := o1.below hb5 o1.lt; have o3 := o3.below hb5 o3.lt; have lto1 := o1.lt; have lto3 := o3.lt; have qo10 := o1.cell 0 _ rfl; have qo11 := o1.cell 1 _ rfl; have qo12 := o1.cell 2 _ rfl; have qo13 := o1.cell 3 _ rfl; have qo14 := o1.cell 4 _ rfl; have wa := wa.below hb5 (Nat.le_refl _); have wb := wb.below hb5 (Nat.le_refl _); have tri := tri.below hb5 (Nat.le_refl _); have hv1 := hv1.below hb5 (Nat.le_refl _); have hu1 := hu1.below hb5 (Nat.le_refl _); have hd1 := hd1.below hb5 (Nat.le_refl _); have hu2 := hu2.below hb5 (Nat.le_refl _); have hu3 := hu3.below hb5 (Nat.le_refl _); clear tok5 _t)
      | (go_at_call 175; have _t := tok6; refine (floor_spec _ _ (b * (2 ^ n : Nat)) d (2 * (k + 1001)) _ hu3 hd2 low.1 B2.out (by omega)).mono ?_; rintro e W16 ⟨u4, rfl, hu4, hb6⟩; have hsW16 : W15.heap.size ≤ W16.heap.size := hb6.size; have hB := hB.trans (hb6.mono hB.size); have o1 := o1.below hb6 o1.lt; have o3 := o3.below hb6 o3.lt; have lto1 := o1.lt; have lto3 := o3.lt; have qo10 := o1.cell 0 _ rfl; have qo11 := o1.cell 1 _ rfl; have qo12 := o1.cell 2 _ rfl; have qo13 := o1.cell 3 _ rfl; have qo14 := o1.cell 4 _ rfl; have wa := wa.below hb6 (Nat.le_refl _); have wb := wb.below hb6 (Nat.le_refl _); have tri := tri.below hb6 (Nat.le_refl _); have hv1 := hv1.below hb6 (Nat.le_refl _); have hu1 := hu1.below hb6 (Nat.le_refl _); have hd1 := hd1.below hb6 (Nat.le_refl _); have hu2 := hu2.below hb6 (Nat.le_refl _); have hu3 := hu3.below hb6 (Nat.le_refl _); have hd2 := hd2.below hb6 (Nat.le_refl _); clear tok6 _t)
      | (go_at_call 91; have _t := tok7; refine (over_spec _ _ _ (a * (2 ^ n : Nat) / d) (b * (2 ^ n : Nat) / d) (2 ^ n) (2 * (k + 1001) + 1) _ hu2 hu4 hv1 hp0 (ediv_small B1.out) (ediv_small B2.out) (pow_step HP.out (by omega)) (by omega)).mono ?_; rintro e W17 ⟨u8, rfl, hu8, hb7⟩; have hsW17 : W16.heap.size ≤ W17.heap.size := hb7.size; have hB := hB.trans (hb7.mono hB.size); have o1 := o1.below hb7 o1.lt; have o3 := o3.below hb7 o3.lt; have lto1 := o1.lt; have lto3 := o3.lt; have qo10 := o1.cell 0 _ rfl; have qo11 := o1.cell 1 _ rfl; have qo12 := o1.cell 2 _ rfl; have qo13 := o1.cell 3 _ rfl; have qo14 := o1.cell 4 _ rfl; have wa := wa.below hb7 (Nat.le_refl _); have wb := wb.below hb7 (Nat.le_refl _); have tri := tri.below hb7 (Nat.le_refl _); have hv1 := hv1.below hb7 (Nat.le_refl _); have hu1 := hu1.below hb7 (Nat.le_refl _); have hd1 := hd1.below hb7 (Nat.le_refl _); have hu2 := hu2.below hb7 (Nat.le_refl _); have hu3 := hu3.below hb7 (Nat.le_refl _); have hd2 := hd2.below hb7 (Nat.le_refl _); have hu4 := hu4.below hb7 (Nat.le_refl _); obtain ⟨_, _, _, _, _, _, _, _, _, _, _, rfl⟩ := hu8.open; have fo3 := o3.free; have co30 := o3.cell 0 _ rfl; have co31 := o3.cell 1 _ rfl; have co32 := o3.cell 2 _ rfl; have co33 := o3.cell 3 _ rfl; have co34 := o3.cell 4 _ rfl; clear tok7 _t))
  go_wp2_with fail
  exact bodyPost_ret (by simp [results, Tryz.results132, go_sem, co30, co31, co32, co33, co34]) rfl (num_end hu8 o3 hB (by omega) rfl)
end Go.Proofs.YtfkogkcpndaoeaaGreat
namespace Go.Proofs.YtfkogkcpndaoeaaGreat
open Go.RowKit
theorem num_pair {w W : World} {E : TypeId} {g : Nat} {x y : CQ} {r : Value} {s0 s2 b0 b2 : Bool} {a1 a3 a4 x1 x3 x4 : Option Addr} {l1 c1 l3 c3 l4 c4 y1 z1 y3 z3 y4 z4 : Nat}
    (h : NumRep W (.agg #[.bool s0, .slice a1 l1 c1, .bool s2, .slice a3 l3 c3, .slice a4 l4 c4]) x) (o : Own W E g [.bool b0, .slice x1 y1 z1, .bool b2, .slice x3 y3 z3, .slice x4 y4 z4]) (hB : Below w.heap.size w W) (hg : w.heap.size ≤ g) (e : x = y) :
    Ret w (fun w' v' => ∃ u, v' = .tuple #[u, r] ∧ NumRep w' u y) (.returned (.tuple #[.agg #[.bool s0, .slice a1 l1 c1, .bool s2, .slice a3 l3 c3, .slice a4 l4 c4], r])) (((((W.setCell ⟨g, 0, none⟩ (.bool s0)).setCell ⟨g, 1, none⟩ (.slice a1 l1 c1)).setCell ⟨g, 2, none⟩ (.bool s2)).setCell ⟨g, 3, none⟩ (.slice a3 l3 c3)).setCell ⟨g, 4, none⟩ (.slice a4 l4 c4)) := by
  subst e
  exact ⟨_, rfl, ⟨_, rfl, num_ret h o⟩, below5 hB hg⟩
set_option maxRecDepth 100000 in
set_option maxHeartbeats 800000 in
theorem new_spec (a b : Int) (d : Nat) (w : World) (ha1 : -9223372036854775808 ≤ a) (ha2 : a ≤ 9223372036854775807) (hc1 : -9223372036854775808 ≤ b) (hc2 : b ≤ 9223372036854775807) (hd0 : 0 < d) (hd : d ≤ 9223372036854775807) :
    Calls Tryz.prog 41 #[.int .i64 a, .int .i64 b, .int .i64 (d : Int)] w (Ret w fun w' v' => ∃ u, v' = .tuple #[u, .int .i64 0] ∧ NumRep w' u (cq a b d)) := by
  have hdz : ((d : Int) == 0) = false := by simp; omega
  go_enter Tryz.func41, Tryz.ntmps41
  go_wp2_with fail
  obtain ⟨W, hW, o3, hB, hS⟩ := boxes1 w 40 [.bool false, .slice none 0 0, .bool false, .slice none 0 0, .slice none 0 0]
  rw [← hW]
  clear hW
  refine (of64_spec a W ha1 ha2).mono ?_
  rintro e W1 ⟨_, rfl, ⟨wa, sa⟩, hb1⟩
  obtain ⟨s1, a1, l1, c1, rfl, _, _⟩ := wa.open
  have hsW1 : W.heap.size ≤ W1.heap.size := hb1.size; have hB := hB.trans (hb1.mono hB.size); have o3 := o3.below hb1 o3.lt
  go_wp2_with fail
  refine (of64_spec b W1 hc1 hc2).mono ?_
  rintro e W2 ⟨_, rfl, ⟨wb, sb⟩, hb2⟩
  obtain ⟨s2, a2, l2, c2, rfl, _, _⟩ := wb.open
  have hsW2 : W1.heap.size ≤ W2.heap.size := hb2.size; have hB := hB.trans (hb2.mono hB.size); have o3 := o3.below hb2 o3.lt; have wa := wa.below hb2 (Nat.le_refl _)
  go_wp2_with fail
  refine (of64_spec (d : Int) W2 (by omega) (by omega)).mono ?_
  rintro e W3 ⟨_, rfl, ⟨wd, sd⟩, hb3⟩
  obtain ⟨md, rfl, hmd⟩ := wd
  obtain ⟨a3, l3, c3, rfl, _, _, _⟩ := hmd.any
  have hdn : decide ((d : Int) < 0) = false := by simp
  rw [hdn]
  have hsW3 : W2.heap.size ≤ W3.heap.size := hb3.size; have hB := hB.trans (hb3.mono hB.size); have o3 := o3.below hb3 o3.lt; have wa := wa.below hb3 (Nat.le_refl _); have wb := wb.below hb3 (Nat.le_refl _)
  go_upto_region 4 with (fail)
  obtain ⟨V, hV, o4, o5, o6, hBV, hSV⟩ := boxes3 W3 38 38 38 [.bool s1, .slice a1 l1 c1] [.bool s2, .slice a2 l2 c2] [.bool false, .slice a3 l3 c3]
  rw [← hV]
  clear hV
  have hB := hB.trans (hBV.mono hB.size)
  have o3 := o3.below hBV o3.lt; have wa := wa.below hBV (Nat.le_refl _); have wb := wb.below hBV (Nat.le_refl _); have hmd := hmd.below hBV (Nat.le_refl _); have fo4 := o4.free; have co40 := o4.cell 0 _ rfl; have co41 := o4.cell 1 _ rfl; have fo5 := o5.free; have co50 := o5.cell 0 _ rfl; have co51 := o5.cell 1 _ rfl; have fo6 := o6.free; have co60 := o6.cell 0 _ rfl; have co61 := o6.cell 1 _ rfl
  have hd2 : (d : Int).natAbs < 2 ^ 64 := by omega
  rw [Int.natAbs_natCast] at hmd
  go_wp2_with fail
  refine (over_spec _ _ _ a b d 64 V wa wb hmd hd0 (by omega) (by omega) (by omega) (by omega)).mono ?_
  rintro e W4 ⟨u8, rfl, hu8, hb4⟩
  obtain ⟨_, _, _, _, _, _, _, _, _, _, _, rfl⟩ := hu8.open
  have hsW4 : V.heap.size ≤ W4.heap.size := hb4.size; have hB := hB.trans (hb4.mono hB.size); have o3 := o3.below hb4 o3.lt; have fo3 := o3.free; have co30 := o3.cell 0 _ rfl; have co31 := o3.cell 1 _ rfl; have co32 := o3.cell 2 _ rfl; have co33 := o3.cell 3 _ rfl; have co34 := o3.cell 4 _ rfl
  go_wp2_with fail
  exact bodyPost_ret (by simp [results, Tryz.results41, go_sem, co30, co31, co32, co33, co34]) rfl (num_pair hu8 o3 hB (by omega) rfl)
end Go.Proofs.YtfkogkcpndaoeaaGreat
