/- Numbers: New at any denominator but 0; Of of any plain number, of the program and of the reference. Conditions: none but the ranges of int64. Of of any plain number, of the program and of the reference. Conditions: the ranges of int64. -/
import Derived.Test.YtfkogkcpndaoeaaGreatMLawA
import Derived.Test.YtfkogkcpndaoeaaGreatMNumD
import Derived.Test.YtfkogkcpndaoeaaGreatMRQB
set_option linter.all false
namespace Go.Proofs.YtfkogkcpndaoeaaGreat
open Go.RowKit
set_option maxRecDepth 100000 in
set_option maxHeartbeats 800000 in
theorem new_any (a b d : Int) (w : World) (ha1 : -9223372036854775808 ≤ a) (ha2 : a ≤ 9223372036854775807) (hc1 : -9223372036854775808 ≤ b) (hc2 : b ≤ 9223372036854775807) (hd0 : d ≠ 0) (hd1 : -9223372036854775808 ≤ d) (hd2 : d ≤ 9223372036854775807) :
    Calls Tryz.prog 41 #[.int .i64 a, .int .i64 b, .int .i64 d] w (Ret w fun w' v' => ∃ u, v' = .tuple #[u, .int .i64 0] ∧ NumRep w' u (cqz a b d)) := by
  have hdz : (d == 0) = false := by simp; omega
  go_enter Tryz.func41, Tryz.ntmps41
  go_wp2_with fail
  obtain ⟨W, hW, o3, hB, hS⟩ := boxes1 w 40 [.bool false, .slice none 0 0, .bool false, .slice none 0 0, .slice none 0 0]
  rw [← hW]
  clear hW
  refine (of64_spec a W ha1 ha2).mono ?_
  rintro e W1 ⟨_, rfl, ⟨wa, sa⟩, hb1⟩
  obtain ⟨s1, a1, l1, c1, rfl, _, _⟩ := wa.open
  have hsW1 : W.heap.size ≤ W1.heap.size := hb1.size; have hB := hB.trans (hb1.mono hB.size); have o3 := o3.below hb1 o3.lt
  go_wp2_with fail
  refine (of64_spec b W1 hc1 hc2).mono ?_
  rintro e W2 ⟨_, rfl, ⟨wb, sb⟩, hb2⟩
  obtain ⟨s2, a2, l2, c2, rfl, _, _⟩ := wb.open
  have hsW2 : W1.heap.size ≤ W2.heap.size := hb2.size; have hB := hB.trans (hb2.mono hB.size); have o3 := o3.below hb2 o3.lt; have wa := wa.below hb2 (Nat.le_refl _)
  go_wp2_with fail
  refine (of64_spec d W2 hd1 hd2).mono ?_
  rintro e W3 ⟨_, rfl, ⟨wd, sd⟩, hb3⟩
  obtain ⟨t1, p1, m1, n1, rfl, _, htd⟩ := wd.open
  have hsW3 : W2.heap.size ≤ W3.heap.size := hb3.size; have hB := hB.trans (hb3.mono hB.size); have o3 := o3.below hb3 o3.lt; have wa := wa.below hb3 (Nat.le_refl _); have wb := wb.below hb3 (Nat.le_refl _)
  go_upto_region 4 with (fail)
  obtain ⟨V, hV, o4, o5, o6, hBV, hSV⟩ := boxes3 W3 38 38 38 [.bool s1, .slice a1 l1 c1] [.bool s2, .slice a2 l2 c2] [.bool t1, .slice p1 m1 n1]
  rw [← hV]
  clear hV
  have hB := hB.trans (hBV.mono hB.size)
  have o3 := o3.below hBV o3.lt; have wa := wa.below hBV (Nat.le_refl _); have wb := wb.below hBV (Nat.le_refl _); have wd := wd.below hBV (Nat.le_refl _)
  obtain ⟨-, hmd⟩ := wd.sign
  rcases Int.lt_or_lt_of_ne hd0 with hneg | hpos
  · obtain rfl : t1 = true := htd.2 hneg
    have sa' : (-a).natAbs < 2 ^ 64 := by omega
    have sb' : (-b).natAbs < 2 ^ 64 := by omega
    have hd : 0 < d.natAbs := by omega
    have HQ := Lib.hid (cqz_neg (a := a) (b := b) hneg)
    clear sa sb htd hneg
    have lt4 := o4.lt
    have lt5 := o5.lt
    have lt6 := o6.lt
    have lt3 := o3.lt
    have fo4 := o4.free; have co40 := o4.cell 0 _ rfl; have co41 := o4.cell 1 _ rfl; have fo5 := o5.free; have co50 := o5.cell 0 _ rfl; have co51 := o5.cell 1 _ rfl; have fo6 := o6.free; have co60 := o6.cell 0 _ rfl; have co61 := o6.cell 1 _ rfl
    go_wp2_with fail
    have tok1 : True := trivial
    have q3 : Own V.drew 40 _ _ := o3
    have q4 : Own V.drew 38 _ _ := o4
    have q5 : Own V.drew 38 _ _ := o5
    have q6 : Own V.drew 38 _ _ := o6
    have ra := wa.below ((Below.refl V.heap.size V).drew) (Nat.le_refl _)
    have rb := wb.below ((Below.refl V.heap.size V).drew) (Nat.le_refl _)
    have rd := hmd.below ((Below.refl V.heap.size V).drew) (Nat.le_refl _)
    have hB := hB.drew
    clear o3 o4 o5 o6 wa wb wd hmd
    go_region_with (first
      | (go_at_call 90; have _t := tok1; refine (minus_spec _ a V.drew ra).mono ?_; rintro e X1 ⟨u1, rfl, hu1, hx1⟩; obtain ⟨e1, e2, e3, e4, rfl, _, _⟩ := hu1.open; have hB := hB.trans (hx1.mono hB.size); have ltx1 := hx1.size; have q3 := q3.below hx1 q3.lt; have q4 := q4.below hx1 q4.lt; have q5 := q5.below hx1 q5.lt; have q6 := q6.below hx1 q6.lt; have rb := rb.below hx1 (Nat.le_refl _); have rd := rd.below hx1 (Nat.le_refl _); have fq4 := q4.free; have cq40 := q4.cell 0 _ rfl; have cq41 := q4.cell 1 _ rfl; have fq5 := q5.free; have cq50 := q5.cell 0 _ rfl; have cq51 := q5.cell 1 _ rfl; have fq6 := q6.free; have cq60 := q6.cell 0 _ rfl; have cq61 := q6.cell 1 _ rfl; clear tok1 _t)
      | (go_at_call 90; refine (minus_spec _ b X1 rb).mono ?_; rintro e X2 ⟨u2, rfl, hu2, hx2⟩; obtain ⟨f1, f2, f3, f4, rfl, _, _⟩ := hu2.open; have hB := hB.trans (hx2.mono hB.size); have ltx2 := hx2.size; clear cq40 cq41 fq4 cq50 cq51 fq5 cq60 cq61 fq6; have q3 := q3.below hx2 q3.lt; have q4 := q4.below hx2 q4.lt; have q5 := q5.below hx2 q5.lt; have q6 := q6.below hx2 q6.lt; have hu1 := hu1.below hx2 (Nat.le_refl _); have rd := rd.below hx2 (Nat.le_refl _); have fq4 := q4.free; have cq40 := q4.cell 0 _ rfl; have cq41 := q4.cell 1 _ rfl; have fq5 := q5.free; have cq50 := q5.cell 0 _ rfl; have cq51 := q5.cell 1 _ rfl; have fq6 := q6.free; have cq60 := q6.cell 0 _ rfl; have cq61 := q6.cell 1 _ rfl))
    all_goals
      obtain ⟨Y, hY, p4, p5, hYs, hYo, hYn, hYb⟩ := set22 (.bool e1) (.slice e2 e3 e4) (.bool f1) (.slice f2 f3 f4) q4 q5 (by omega) rfl rfl rfl rfl
      rw [← hY]
      have p3 := hYo _ _ _ (by omega) (by omega) q3
      have p6 := hYo _ _ _ (by omega) (by omega) q6
      have ru := hu1.on hYn
      have rv := hu2.on hYn
      have rd := hYn _ _ rd
      have hB := hYb _ _ hB (by omega) (by omega)
      clear hY hYo hYn hYb q3 q4 q5 q6 hu1 hu2
      have fp4 := p4.free; have cp40 := p4.cell 0 _ rfl; have cp41 := p4.cell 1 _ rfl; have fp5 := p5.free; have cp50 := p5.cell 0 _ rfl; have cp51 := p5.cell 1 _ rfl; have fp6 := p6.free; have cp60 := p6.cell 0 _ rfl; have cp61 := p6.cell 1 _ rfl
      go_wp2_with fail
      refine (over_spec _ _ _ (-a) (-b) d.natAbs 64 Y ru rv rd hd sa' sb' sd (by omega)).mono ?_
      rintro e W4 ⟨u8, rfl, hu8, hb4⟩
      obtain ⟨_, _, _, _, _, _, _, _, _, _, _, rfl⟩ := hu8.open
      have hsW4 : Y.heap.size ≤ W4.heap.size := hb4.size; have hB := hB.trans (hb4.mono hB.size); have p3 := p3.below hb4 p3.lt; have fp3 := p3.free; have cp30 := p3.cell 0 _ rfl; have cp31 := p3.cell 1 _ rfl; have cp32 := p3.cell 2 _ rfl; have cp33 := p3.cell 3 _ rfl; have cp34 := p3.cell 4 _ rfl
      go_wp2_with fail
      exact bodyPost_ret (by simp [results, Tryz.results41, go_sem, cp30, cp31, cp32, cp33, cp34]) rfl (num_pair hu8 p3 hB (by omega) HQ.out.symm)
  · obtain rfl : t1 = false := by
      rw [← Bool.not_eq_true, htd]; omega
    have fo4 := o4.free; have co40 := o4.cell 0 _ rfl; have co41 := o4.cell 1 _ rfl; have fo5 := o5.free; have co50 := o5.cell 0 _ rfl; have co51 := o5.cell 1 _ rfl; have fo6 := o6.free; have co60 := o6.cell 0 _ rfl; have co61 := o6.cell 1 _ rfl
    go_wp2_with fail
    refine (over_spec _ _ _ a b d.natAbs 64 V wa wb hmd (by omega) sa sb sd (by omega)).mono ?_
    rintro e W4 ⟨u8, rfl, hu8, hb4⟩
    obtain ⟨_, _, _, _, _, _, _, _, _, _, _, rfl⟩ := hu8.open
    have hsW4 : V.heap.size ≤ W4.heap.size := hb4.size; have hB := hB.trans (hb4.mono hB.size); have o3 := o3.below hb4 o3.lt; have fo3 := o3.free; have co30 := o3.cell 0 _ rfl; have co31 := o3.cell 1 _ rfl; have co32 := o3.cell 2 _ rfl; have co33 := o3.cell 3 _ rfl; have co34 := o3.cell 4 _ rfl
    go_wp2_with fail
    exact bodyPost_ret (by simp [results, Tryz.results41, go_sem, co30, co31, co32, co33, co34]) rfl (num_pair hu8 o3 hB (by omega) (cqz_pos hpos).symm)
end Go.Proofs.YtfkogkcpndaoeaaGreat
namespace Go.Proofs.YtfkogkcpndaoeaaGreat
open Go.RowKit
structure Rt where
  re : Int
  im : Int
  den : Int
def Rt.ok (r : Rt) : Prop := (-9223372036854775808 ≤ r.re ∧ r.re ≤ 9223372036854775807) ∧ (-9223372036854775808 ≤ r.im ∧ r.im ≤ 9223372036854775807) ∧ (-9223372036854775808 ≤ r.den ∧ r.den ≤ 9223372036854775807)
def Rt.cells (r : Rt) : List Value := [.int .i64 r.re, .int .i64 r.im, .int .i64 r.den]
def Rt.q (r : Rt) : CQ := cqz r.re r.im (if r.den = 0 then 1 else r.den)
theorem Rt.small {r : Rt} (h : r.ok) : Small 64 r.q := by
  obtain ⟨⟨ha1, ha2⟩, ⟨hc1, hc2⟩, ⟨hd1, hd2⟩⟩ := h
  unfold Rt.q
  split
  · rw [cqz_pos (by omega)]
    exact small_mk (by omega) (by omega) (by omega) (by omega)
  · rename_i h0
    rcases Int.lt_or_lt_of_ne h0 with hn | hp
    · rw [cqz_neg hn]
      exact small_mk (by omega) (by omega) (by omega) (by omega)
    · rw [cqz_pos hp]
      exact small_mk (by omega) (by omega) (by omega) (by omega)
set_option maxRecDepth 100000 in
set_option maxHeartbeats 800000 in
theorem ofAny_spec (r : Rt) (w : World) (h : r.ok) : Calls Tryz.prog 9 #[.agg #[.int .i64 r.re, .int .i64 r.im, .int .i64 r.den]] w (Ret w fun w' v' => NumRep w' v' r.q) := by
  obtain ⟨a, b, d⟩ := r
  obtain ⟨⟨ha1, ha2⟩, ⟨hc1, hc2⟩, ⟨hd1, hd2⟩⟩ := h
  unfold Rt.q
  simp only at ha1 ha2 hc1 hc2 hd1 hd2 ⊢
  by_cases hd0 : d = 0
  · subst hd0
    have HN := Lib.hid (fun w => new_any a b 1 w ha1 ha2 hc1 hc2 (by omega) (by omega) (by omega))
    rw [if_pos rfl]
    clear ha1 ha2 hc1 hc2 hd1 hd2
    go_enter Tryz.func9, Tryz.ntmps9
    go_upto_region 1 with (fail)
    obtain ⟨W0, hW0, o1, o2, hB0, hS⟩ := boxes2 w 23 40 [.int .i64 a, .int .i64 b, .int .i64 0] [.bool false, .slice none 0 0, .bool false, .slice none 0 0, .slice none 0 0]
    rw [← hW0]
    clear hW0
    have fo1 := o1.free; have co10 := o1.cell 0 _ rfl; have co11 := o1.cell 1 _ rfl; have co12 := o1.cell 2 _ rfl
    go_wp2_with fail
    clear co10 co11 co12 fo1
    replace o1 := o1.set 2 (.int .i64 1)
    replace o2 := o2.other (a := ⟨w.heap.size, 2, none⟩) (by show w.heap.size ≠ _; omega) (.int .i64 1)
    have hB := hB0.setCell (p := ⟨w.heap.size, 2, none⟩) (Nat.le_refl _) (.int .i64 1)
    have hS2 : w.heap.size + 1 + 1 ≤ (W0.setCell ⟨w.heap.size, 2, none⟩ (.int .i64 1)).heap.size := by simpa [World.setCell] using hS
    have o1 : Own (W0.setCell ⟨w.heap.size, 2, none⟩ (.int .i64 1)) 23 w.heap.size [.int .i64 a, .int .i64 b, .int .i64 1] := o1
    generalize W0.setCell ⟨w.heap.size, 2, none⟩ (.int .i64 1) = W at *
    have fo1 := o1.free; have co10 := o1.cell 0 _ rfl; have co11 := o1.cell 1 _ rfl; have co12 := o1.cell 2 _ rfl
    go_wp2_with fail
    refine (HN.out W).mono ?_
    rintro e W1 ⟨_, rfl, ⟨u, rfl, hu⟩, hb1⟩
    obtain ⟨t0, t2, b1, b3, b4, m1, n1, m3, n3, m4, n4, rfl⟩ := hu.open
    clear co10 co11 co12 fo1
    have hsW1 : W.heap.size ≤ W1.heap.size := hb1.size; have hB := hB.trans (hb1.mono hB.size); have o2 := o2.below hb1 o2.lt
    go_upto_region 4 with (fail)
    obtain ⟨V, hV, o3, hBV, hSV⟩ := boxes1 W1 40 [.bool t0, .slice b1 m1 n1, .bool t2, .slice b3 m3 n3, .slice b4 m4 n4]
    rw [← hV]
    clear hV
    have hsV : W1.heap.size ≤ V.heap.size := hBV.size; have hB := hB.trans (hBV.mono hB.size); have o2 := o2.below hBV o2.lt; have hu := hu.below hBV (Nat.le_refl _)
    have hne : W1.heap.size ≠ w.heap.size + 1 := by omega
    generalize W1.heap.size = g3 at *
    have fo2 := o2.free; have co20 := o2.cell 0 _ rfl; have co21 := o2.cell 1 _ rfl; have co22 := o2.cell 2 _ rfl; have co23 := o2.cell 3 _ rfl; have co24 := o2.cell 4 _ rfl; have fo3 := o3.free; have co30 := o3.cell 0 _ rfl; have co31 := o3.cell 1 _ rfl; have co32 := o3.cell 2 _ rfl; have co33 := o3.cell 3 _ rfl; have co34 := o3.cell 4 _ rfl
    go_wp2_with fail
    exact bodyPost_ret (by simp [results, Tryz.results9, go_sem, co20, co21, co22, co23, co24]) rfl (num_end hu o2 hB (by omega) rfl)
  · have hdz : (d == 0) = false := by simp; omega
    have HN := Lib.hid (fun w => new_any a b d w ha1 ha2 hc1 hc2 hd0 hd1 hd2)
    rw [if_neg hd0]
    clear ha1 ha2 hc1 hc2 hd1 hd2
    go_enter Tryz.func9, Tryz.ntmps9
    go_upto_region 1 with (fail)
    obtain ⟨W, hW0, o1, o2, hB, hS⟩ := boxes2 w 23 40 [.int .i64 a, .int .i64 b, .int .i64 d] [.bool false, .slice none 0 0, .bool false, .slice none 0 0, .slice none 0 0]
    rw [← hW0]
    clear hW0
    have fo1 := o1.free; have co10 := o1.cell 0 _ rfl; have co11 := o1.cell 1 _ rfl; have co12 := o1.cell 2 _ rfl
    go_wp2_with fail
    refine (HN.out W).mono ?_
    rintro e W1 ⟨_, rfl, ⟨u, rfl, hu⟩, hb1⟩
    obtain ⟨t0, t2, b1, b3, b4, m1, n1, m3, n3, m4, n4, rfl⟩ := hu.open
    clear co10 co11 co12 fo1
    have hsW1 : W.heap.size ≤ W1.heap.size := hb1.size; have hB := hB.trans (hb1.mono hB.size); have o2 := o2.below hb1 o2.lt
    go_upto_region 4 with (fail)
    obtain ⟨V, hV, o3, hBV, hSV⟩ := boxes1 W1 40 [.bool t0, .slice b1 m1 n1, .bool t2, .slice b3 m3 n3, .slice b4 m4 n4]
    rw [← hV]
    clear hV
    have hsV : W1.heap.size ≤ V.heap.size := hBV.size; have hB := hB.trans (hBV.mono hB.size); have o2 := o2.below hBV o2.lt; have hu := hu.below hBV (Nat.le_refl _)
    have hne : W1.heap.size ≠ w.heap.size + 1 := by omega
    generalize W1.heap.size = g3 at *
    have fo2 := o2.free; have co20 := o2.cell 0 _ rfl; have co21 := o2.cell 1 _ rfl; have co22 := o2.cell 2 _ rfl; have co23 := o2.cell 3 _ rfl; have co24 := o2.cell 4 _ rfl; have fo3 := o3.free; have co30 := o3.cell 0 _ rfl; have co31 := o3.cell 1 _ rfl; have co32 := o3.cell 2 _ rfl; have co33 := o3.cell 3 _ rfl; have co34 := o3.cell 4 _ rfl
    go_wp2_with fail
    exact bodyPost_ret (by simp [results, Tryz.results9, go_sem, co20, co21, co22, co23, co24]) rfl (num_end hu o2 hB (by omega) rfl)
set_option maxRecDepth 100000 in
set_option maxHeartbeats 800000 in
theorem qof_spec (r : Rt) (w : World) (h : r.ok) : Calls Tryz.prog 11 #[.agg #[.int .i64 r.re, .int .i64 r.im, .int .i64 r.den]] w (Ret w fun w' v' => QRep w' v' r.q) := by
  obtain ⟨a, b, d⟩ := r
  obtain ⟨⟨ha1, ha2⟩, ⟨hc1, hc2⟩, ⟨hd1, hd2⟩⟩ := h
  unfold Rt.q
  simp only at ha1 ha2 hc1 hc2 hd1 hd2 ⊢
  by_cases hd0 : d = 0
  · subst hd0
    have HN := Lib.hid (fun w => qnew_spec a b 1 w ha1 ha2 hc1 hc2 (by omega) (by omega) (by omega))
    rw [if_pos rfl]
    clear ha1 ha2 hc1 hc2 hd1 hd2
    go_enter Tryz.func11, Tryz.ntmps11
    go_upto_region 1 with (fail)
    obtain ⟨W0, hW0, o1, o2, hB0, hS⟩ := boxes2 w 23 46 [.int .i64 a, .int .i64 b, .int .i64 0] [.bool false, .slice none 0 0, .bool false, .slice none 0 0, .slice none 0 0]
    rw [← hW0]
    clear hW0
    have fo1 := o1.free; have co10 := o1.cell 0 _ rfl; have co11 := o1.cell 1 _ rfl; have co12 := o1.cell 2 _ rfl
    go_wp2_with fail
    clear co10 co11 co12 fo1
    replace o1 := o1.set 2 (.int .i64 1)
    replace o2 := o2.other (a := ⟨w.heap.size, 2, none⟩) (by show w.heap.size ≠ _; omega) (.int .i64 1)
    have hB := hB0.setCell (p := ⟨w.heap.size, 2, none⟩) (Nat.le_refl _) (.int .i64 1)
    have hS2 : w.heap.size + 1 + 1 ≤ (W0.setCell ⟨w.heap.size, 2, none⟩ (.int .i64 1)).heap.size := by simpa [World.setCell] using hS
    have o1 : Own (W0.setCell ⟨w.heap.size, 2, none⟩ (.int .i64 1)) 23 w.heap.size [.int .i64 a, .int .i64 b, .int .i64 1] := o1
    generalize W0.setCell ⟨w.heap.size, 2, none⟩ (.int .i64 1) = W at *
    have fo1 := o1.free; have co10 := o1.cell 0 _ rfl; have co11 := o1.cell 1 _ rfl; have co12 := o1.cell 2 _ rfl
    go_wp2_with fail
    refine (HN.out W).mono ?_
    rintro e W1 ⟨_, rfl, ⟨u, rfl, hu⟩, hb1⟩
    obtain ⟨t0, t2, b1, b3, b4, m1, n1, m3, n3, m4, n4, rfl⟩ := hu.open
    clear co10 co11 co12 fo1
    have hsW1 : W.heap.size ≤ W1.heap.size := hb1.size; have hB := hB.trans (hb1.mono hB.size); have o2 := o2.below hb1 o2.lt
    go_upto_region 4 with (fail)
    obtain ⟨V, hV, o3, hBV, hSV⟩ := boxes1 W1 46 [.bool t0, .slice b1 m1 n1, .bool t2, .slice b3 m3 n3, .slice b4 m4 n4]
    rw [← hV]
    clear hV
    have hsV : W1.heap.size ≤ V.heap.size := hBV.size; have hB := hB.trans (hBV.mono hB.size); have o2 := o2.below hBV o2.lt; have hu := hu.below hBV (Nat.le_refl _)
    have hne : W1.heap.size ≠ w.heap.size + 1 := by omega
    generalize W1.heap.size = g3 at *
    have fo2 := o2.free; have co20 := o2.cell 0 _ rfl; have co21 := o2.cell 1 _ rfl; have co22 := o2.cell 2 _ rfl; have co23 := o2.cell 3 _ rfl; have co24 := o2.cell 4 _ rfl; have fo3 := o3.free; have co30 := o3.cell 0 _ rfl; have co31 := o3.cell 1 _ rfl; have co32 := o3.cell 2 _ rfl; have co33 := o3.cell 3 _ rfl; have co34 := o3.cell 4 _ rfl
    go_wp2_with fail
    exact bodyPost_ret (by simp [results, Tryz.results11, go_sem, co20, co21, co22, co23, co24]) rfl (q_end hu o2 hB (by omega) rfl)
  · have hdz : (d == 0) = false := by simp; omega
    have HN := Lib.hid (fun w => qnew_spec a b d w ha1 ha2 hc1 hc2 hd0 hd1 hd2)
    rw [if_neg hd0]
    clear ha1 ha2 hc1 hc2 hd1 hd2
    go_enter Tryz.func11, Tryz.ntmps11
    go_upto_region 1 with (fail)
    obtain ⟨W, hW0, o1, o2, hB, hS⟩ := boxes2 w 23 46 [.int .i64 a, .int .i64 b, .int .i64 d] [.bool false, .slice none 0 0, .bool false, .slice none 0 0, .slice none 0 0]
    rw [← hW0]
    clear hW0
    have fo1 := o1.free; have co10 := o1.cell 0 _ rfl; have co11 := o1.cell 1 _ rfl; have co12 := o1.cell 2 _ rfl
    go_wp2_with fail
    refine (HN.out W).mono ?_
    rintro e W1 ⟨_, rfl, ⟨u, rfl, hu⟩, hb1⟩
    obtain ⟨t0, t2, b1, b3, b4, m1, n1, m3, n3, m4, n4, rfl⟩ := hu.open
    clear co10 co11 co12 fo1
    have hsW1 : W.heap.size ≤ W1.heap.size := hb1.size; have hB := hB.trans (hb1.mono hB.size); have o2 := o2.below hb1 o2.lt
    go_upto_region 4 with (fail)
    obtain ⟨V, hV, o3, hBV, hSV⟩ := boxes1 W1 46 [.bool t0, .slice b1 m1 n1, .bool t2, .slice b3 m3 n3, .slice b4 m4 n4]
    rw [← hV]
    clear hV
    have hsV : W1.heap.size ≤ V.heap.size := hBV.size; have hB := hB.trans (hBV.mono hB.size); have o2 := o2.below hBV o2.lt; have hu := hu.below hBV (Nat.le_refl _)
    have hne : W1.heap.size ≠ w.heap.size + 1 := by omega
    generalize W1.heap.size = g3 at *
    have fo2 := o2.free; have co20 := o2.cell 0 _ rfl; have co21 := o2.cell 1 _ rfl; have co22 := o2.cell 2 _ rfl; have co23 := o2.cell 3 _ rfl; have co24 := o2.cell 4 _ rfl; have fo3 := o3.free; have co30 := o3.cell 0 _ rfl; have co31 := o3.cell 1 _ rfl; have co32 := o3.cell 2 _ rfl; have co33 := o3.cell 3 _ rfl; have co34 := o3.cell 4 _ rfl
    go_wp2_with fail
    exact bodyPost_ret (by simp [results, Tryz.results11, go_sem, co20, co21, co22, co23, co24]) rfl (q_end hu o2 hB (by omega) rfl)
end Go.Proofs.YtfkogkcpndaoeaaGreat
