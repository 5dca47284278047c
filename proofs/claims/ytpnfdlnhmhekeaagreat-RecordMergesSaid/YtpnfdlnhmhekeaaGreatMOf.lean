/- Of of any plain number, of the program and of the reference. Conditions: the ranges of int64. -/
import Derived.Test.YtpnfdlnhmhekeaaGreatMNumF
set_option linter.unusedSimpArgs false
set_option linter.unusedVariables false
set_option linter.all false
namespace Go.Proofs.YtpnfdlnhmhekeaaGreat
open Go.RowKit

/-- Plain data of a number. -/
structure Rt where
  re : Int
  im : Int
  den : Int
def Rt.ok (r : Rt) : Prop := (-9223372036854775808 ≤ r.re ∧ r.re ≤ 9223372036854775807) ∧ (-9223372036854775808 ≤ r.im ∧ r.im ≤ 9223372036854775807) ∧ (-9223372036854775808 ≤ r.den ∧ r.den ≤ 9223372036854775807)
def Rt.cells (r : Rt) : List Value := [.int .i64 r.re, .int .i64 r.im, .int .i64 r.den]
def Rt.q (r : Rt) : CQ := cqz r.re r.im (if r.den = 0 then 1 else r.den)
theorem Rt.small {r : Rt} (h : r.ok) : Small 64 r.q := by
  obtain ⟨⟨ha1, ha2⟩, ⟨hc1, hc2⟩, ⟨hd1, hd2⟩⟩ := h
  unfold Rt.q
  split
  · rw [cqz_pos (by omega)]
    exact small_mk (by omega) (by omega) (by omega) (by omega)
  · rename_i h0
    rcases Int.lt_or_lt_of_ne h0 with hn | hp
    · rw [cqz_neg hn]
      exact small_mk (by omega) (by omega) (by omega) (by omega)
    · rw [cqz_pos hp]
      exact small_mk (by omega) (by omega) (by omega) (by omega)

set_option maxRecDepth 100000 in
set_option maxHeartbeats 800000 in
theorem ofAny_spec (r : Rt) (w : World) (h : r.ok) : Calls Tryz.prog 12 #[.agg #[.int .i64 r.re, .int .i64 r.im, .int .i64 r.den]] w (Ret w fun w' v' => NumRep w' v' r.q) := by
  obtain ⟨a, b, d⟩ := r
  obtain ⟨⟨ha1, ha2⟩, ⟨hc1, hc2⟩, ⟨hd1, hd2⟩⟩ := h
  unfold Rt.q
  simp only at ha1 ha2 hc1 hc2 hd1 hd2 ⊢
  by_cases hd0 : d = 0
  · subst hd0
    have HN := Lib.hid (fun w => new_any a b 1 w ha1 ha2 hc1 hc2 (by omega) (by omega) (by omega))
    rw [if_pos rfl]
    clear ha1 ha2 hc1 hc2 hd1 hd2
    go_enter Tryz.func12, Tryz.ntmps12
    go_upto_region 1 with (fail)
    obtain ⟨W0, hW0, o1, o2, hB0, hS⟩ := boxes2 w 27 51 [.int .i64 a, .int .i64 b, .int .i64 0] [.bool false, .slice none 0 0, .bool false, .slice none 0 0, .slice none 0 0]
    rw [← hW0]
    clear hW0
    have fo1 := o1.free; have co10 := o1.cell 0 _ rfl; have co11 := o1.cell 1 _ rfl; have co12 := o1.cell 2 _ rfl
    go_wp2_with fail
    clear co10 co11 co12 fo1
    replace o1 := o1.set 2 (.int .i64 1)
    replace o2 := o2.other (a := ⟨w.heap.size, 2, none⟩) (by show w.heap.size ≠ _; omega) (.int .i64 1)
    have hB := hB0.setCell (p := ⟨w.heap.size, 2, none⟩) (Nat.le_refl _) (.int .i64 1)
    have hS2 : w.heap.size + 1 + 1 ≤ (W0.setCell ⟨w.heap.size, 2, none⟩ (.int .i64 1)).heap.size := by simpa [World.setCell] using hS
    have o1 : Own (W0.setCell ⟨w.heap.size, 2, none⟩ (.int .i64 1)) 27 w.heap.size [.int .i64 a, .int .i64 b, .int .i64 1] := o1
    generalize W0.setCell ⟨w.heap.size, 2, none⟩ (.int .i64 1) = W at *
    have fo1 := o1.free; have co10 := o1.cell 0 _ rfl; have co11 := o1.cell 1 _ rfl; have co12 := o1.cell 2 _ rfl
    go_wp2_with fail
    refine (HN.out W).mono ?_
    rintro e W1 ⟨_, rfl, ⟨u, rfl, hu⟩, hb1⟩
    obtain ⟨t0, t2, b1, b3, b4, m1, n1, m3, n3, m4, n4, rfl⟩ := hu.open
    clear co10 co11 co12 fo1
    have hsW1 : W.heap.size ≤ W1.heap.size := hb1.size; have hB := hB.trans (hb1.mono hB.size); have o2 := o2.below hb1 o2.lt
    go_upto_region 4 with (fail)
    obtain ⟨V, hV, o3, hBV, hSV⟩ := boxes1 W1 51 [.bool t0, .slice b1 m1 n1, .bool t2, .slice b3 m3 n3, .slice b4 m4 n4]
    rw [← hV]
    clear hV
    have hsV : W1.heap.size ≤ V.heap.size := hBV.size; have hB := hB.trans (hBV.mono hB.size); have o2 := o2.below hBV o2.lt; have hu := hu.below hBV (Nat.le_refl _)
    have hne : W1.heap.size ≠ w.heap.size + 1 := by omega
    generalize W1.heap.size = g3 at *
    have fo2 := o2.free; have co20 := o2.cell 0 _ rfl; have co21 := o2.cell 1 _ rfl; have co22 := o2.cell 2 _ rfl; have co23 := o2.cell 3 _ rfl; have co24 := o2.cell 4 _ rfl; have fo3 := o3.free; have co30 := o3.cell 0 _ rfl; have co31 := o3.cell 1 _ rfl; have co32 := o3.cell 2 _ rfl; have co33 := o3.cell 3 _ rfl; have co34 := o3.cell 4 _ rfl
    go_wp2_with fail
    exact bodyPost_ret (by simp [results, Tryz.results12, go_sem, co20, co21, co22, co23, co24]) rfl (num_end hu o2 hB (by omega) rfl)
  · have hdz : (d == 0) = false := by simp; omega
    have HN := Lib.hid (fun w => new_any a b d w ha1 ha2 hc1 hc2 hd0 hd1 hd2)
    rw [if_neg hd0]
    clear ha1 ha2 hc1 hc2 hd1 hd2
    go_enter Tryz.func12, Tryz.ntmps12
    go_upto_region 1 with (fail)
    obtain ⟨W, hW0, o1, o2, hB, hS⟩ := boxes2 w 27 51 [.int .i64 a, .int .i64 b, .int .i64 d] [.bool false, .slice none 0 0, .bool false, .slice none 0 0, .slice none 0 0]
    rw [← hW0]
    clear hW0
    have fo1 := o1.free; have co10 := o1.cell 0 _ rfl; have co11 := o1.cell 1 _ rfl; have co12 := o1.cell 2 _ rfl
    go_wp2_with fail
    refine (HN.out W).mono ?_
    rintro e W1 ⟨_, rfl, ⟨u, rfl, hu⟩, hb1⟩
    obtain ⟨t0, t2, b1, b3, b4, m1, n1, m3, n3, m4, n4, rfl⟩ := hu.open
    clear co10 co11 co12 fo1
    have hsW1 : W.heap.size ≤ W1.heap.size := hb1.size; have hB := hB.trans (hb1.mono hB.size); have o2 := o2.below hb1 o2.lt
    go_upto_region 4 with (fail)
    obtain ⟨V, hV, o3, hBV, hSV⟩ := boxes1 W1 51 [.bool t0, .slice b1 m1 n1, .bool t2, .slice b3 m3 n3, .slice b4 m4 n4]
    rw [← hV]
    clear hV
    have hsV : W1.heap.size ≤ V.heap.size := hBV.size; have hB := hB.trans (hBV.mono hB.size); have o2 := o2.below hBV o2.lt; have hu := hu.below hBV (Nat.le_refl _)
    have hne : W1.heap.size ≠ w.heap.size + 1 := by omega
    generalize W1.heap.size = g3 at *
    have fo2 := o2.free; have co20 := o2.cell 0 _ rfl; have co21 := o2.cell 1 _ rfl; have co22 := o2.cell 2 _ rfl; have co23 := o2.cell 3 _ rfl; have co24 := o2.cell 4 _ rfl; have fo3 := o3.free; have co30 := o3.cell 0 _ rfl; have co31 := o3.cell 1 _ rfl; have co32 := o3.cell 2 _ rfl; have co33 := o3.cell 3 _ rfl; have co34 := o3.cell 4 _ rfl
    go_wp2_with fail
    exact bodyPost_ret (by simp [results, Tryz.results12, go_sem, co20, co21, co22, co23, co24]) rfl (num_end hu o2 hB (by omega) rfl)

set_option maxRecDepth 100000 in
set_option maxHeartbeats 800000 in
theorem qof_spec (r : Rt) (w : World) (h : r.ok) : Calls Tryz.prog 14 #[.agg #[.int .i64 r.re, .int .i64 r.im, .int .i64 r.den]] w (Ret w fun w' v' => QRep w' v' r.q) := by
  obtain ⟨a, b, d⟩ := r
  obtain ⟨⟨ha1, ha2⟩, ⟨hc1, hc2⟩, ⟨hd1, hd2⟩⟩ := h
  unfold Rt.q
  simp only at ha1 ha2 hc1 hc2 hd1 hd2 ⊢
  by_cases hd0 : d = 0
  · subst hd0
    have HN := Lib.hid (fun w => qnew_spec a b 1 w ha1 ha2 hc1 hc2 (by omega) (by omega) (by omega))
    rw [if_pos rfl]
    clear ha1 ha2 hc1 hc2 hd1 hd2
    go_enter Tryz.func14, Tryz.ntmps14
    go_upto_region 1 with (fail)
    obtain ⟨W0, hW0, o1, o2, hB0, hS⟩ := boxes2 w 27 57 [.int .i64 a, .int .i64 b, .int .i64 0] [.bool false, .slice none 0 0, .bool false, .slice none 0 0, .slice none 0 0]
    rw [← hW0]
    clear hW0
    have fo1 := o1.free; have co10 := o1.cell 0 _ rfl; have co11 := o1.cell 1 _ rfl; have co12 := o1.cell 2 _ rfl
    go_wp2_with fail
    clear co10 co11 co12 fo1
    replace o1 := o1.set 2 (.int .i64 1)
    replace o2 := o2.other (a := ⟨w.heap.size, 2, none⟩) (by show w.heap.size ≠ _; omega) (.int .i64 1)
    have hB := hB0.setCell (p := ⟨w.heap.size, 2, none⟩) (Nat.le_refl _) (.int .i64 1)
    have hS2 : w.heap.size + 1 + 1 ≤ (W0.setCell ⟨w.heap.size, 2, none⟩ (.int .i64 1)).heap.size := by simpa [World.setCell] using hS
    have o1 : Own (W0.setCell ⟨w.heap.size, 2, none⟩ (.int .i64 1)) 27 w.heap.size [.int .i64 a, .int .i64 b, .int .i64 1] := o1
    generalize W0.setCell ⟨w.heap.size, 2, none⟩ (.int .i64 1) = W at *
    have fo1 := o1.free; have co10 := o1.cell 0 _ rfl; have co11 := o1.cell 1 _ rfl; have co12 := o1.cell 2 _ rfl
    go_wp2_with fail
    refine (HN.out W).mono ?_
    rintro e W1 ⟨_, rfl, ⟨u, rfl, hu⟩, hb1⟩
    obtain ⟨t0, t2, b1, b3, b4, m1, n1, m3, n3, m4, n4, rfl⟩ := hu.open
    clear co10 co11 co12 fo1
    have hsW1 : W.heap.size ≤ W1.heap.size := hb1.size; have hB := hB.trans (hb1.mono hB.size); have o2 := o2.below hb1 o2.lt
    go_upto_region 4 with (fail)
    obtain ⟨V, hV, o3, hBV, hSV⟩ := boxes1 W1 57 [.bool t0, .slice b1 m1 n1, .bool t2, .slice b3 m3 n3, .slice b4 m4 n4]
    rw [← hV]
    clear hV
    have hsV : W1.heap.size ≤ V.heap.size := hBV.size; have hB := hB.trans (hBV.mono hB.size); have o2 := o2.below hBV o2.lt; have hu := hu.below hBV (Nat.le_refl _)
    have hne : W1.heap.size ≠ w.heap.size + 1 := by omega
    generalize W1.heap.size = g3 at *
    have fo2 := o2.free; have co20 := o2.cell 0 _ rfl; have co21 := o2.cell 1 _ rfl; have co22 := o2.cell 2 _ rfl; have co23 := o2.cell 3 _ rfl; have co24 := o2.cell 4 _ rfl; have fo3 := o3.free; have co30 := o3.cell 0 _ rfl; have co31 := o3.cell 1 _ rfl; have co32 := o3.cell 2 _ rfl; have co33 := o3.cell 3 _ rfl; have co34 := o3.cell 4 _ rfl
    go_wp2_with fail
    exact bodyPost_ret (by simp [results, Tryz.results14, go_sem, co20, co21, co22, co23, co24]) rfl (q_end hu o2 hB (by omega) rfl)
  · have hdz : (d == 0) = false := by simp; omega
    have HN := Lib.hid (fun w => qnew_spec a b d w ha1 ha2 hc1 hc2 hd0 hd1 hd2)
    rw [if_neg hd0]
    clear ha1 ha2 hc1 hc2 hd1 hd2
    go_enter Tryz.func14, Tryz.ntmps14
    go_upto_region 1 with (fail)
    obtain ⟨W, hW0, o1, o2, hB, hS⟩ := boxes2 w 27 57 [.int .i64 a, .int .i64 b, .int .i64 d] [.bool false, .slice none 0 0, .bool false, .slice none 0 0, .slice none 0 0]
    rw [← hW0]
    clear hW0
    have fo1 := o1.free; have co10 := o1.cell 0 _ rfl; have co11 := o1.cell 1 _ rfl; have co12 := o1.cell 2 _ rfl
    go_wp2_with fail
    refine (HN.out W).mono ?_
    rintro e W1 ⟨_, rfl, ⟨u, rfl, hu⟩, hb1⟩
    obtain ⟨t0, t2, b1, b3, b4, m1, n1, m3, n3, m4, n4, rfl⟩ := hu.open
    clear co10 co11 co12 fo1
    have hsW1 : W.heap.size ≤ W1.heap.size := hb1.size; have hB := hB.trans (hb1.mono hB.size); have o2 := o2.below hb1 o2.lt
    go_upto_region 4 with (fail)
    obtain ⟨V, hV, o3, hBV, hSV⟩ := boxes1 W1 57 [.bool t0, .slice b1 m1 n1, .bool t2, .slice b3 m3 n3, .slice b4 m4 n4]
    rw [← hV]
    clear hV
    have hsV : W1.heap.size ≤ V.heap.size := hBV.size; have hB := hB.trans (hBV.mono hB.size); have o2 := o2.below hBV o2.lt; have hu := hu.below hBV (Nat.le_refl _)
    have hne : W1.heap.size ≠ w.heap.size + 1 := by omega
    generalize W1.heap.size = g3 at *
    have fo2 := o2.free; have co20 := o2.cell 0 _ rfl; have co21 := o2.cell 1 _ rfl; have co22 := o2.cell 2 _ rfl; have co23 := o2.cell 3 _ rfl; have co24 := o2.cell 4 _ rfl; have fo3 := o3.free; have co30 := o3.cell 0 _ rfl; have co31 := o3.cell 1 _ rfl; have co32 := o3.cell 2 _ rfl; have co33 := o3.cell 3 _ rfl; have co34 := o3.cell 4 _ rfl
    go_wp2_with fail
    exact bodyPost_ret (by simp [results, Tryz.results14, go_sem, co20, co21, co22, co23, co24]) rfl (q_end hu o2 hB (by omega) rfl)
end Go.Proofs.YtpnfdlnhmhekeaaGreat
