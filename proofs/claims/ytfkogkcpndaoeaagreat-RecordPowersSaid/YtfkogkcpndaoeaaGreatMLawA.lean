/- The statements' helpers: Of, example. Conditions: the denominator is above 0. -/
import Derived.Test.YtfkogkcpndaoeaaGreatMNumD
import Derived.Test.YtfkogkcpndaoeaaGreatMRec
set_option linter.all false
namespace Go.Proofs.YtfkogkcpndaoeaaGreat
open Go.RowKit
set_option maxRecDepth 100000 in
set_option maxHeartbeats 1600000 in
theorem of_spec (a b : Int) (d : Nat) (w : World) (ha1 : -9223372036854775808 ≤ a) (ha2 : a ≤ 9223372036854775807) (hc1 : -9223372036854775808 ≤ b) (hc2 : b ≤ 9223372036854775807) (hd0 : 0 < d) (hd : d ≤ 9223372036854775807) :
    Calls Tryz.prog 9 #[.agg #[.int .i64 a, .int .i64 b, .int .i64 (d : Int)]] w (Ret w fun w' v' => NumRep w' v' (cq a b d)) := by
  have hdz : ((d : Int) == 0) = false := by simp; omega
  have hn := fun w => new_spec a b d w ha1 ha2 hc1 hc2 hd0 hd
  have HN := Lib.hid hn
  clear hn
  go_enter Tryz.func9, Tryz.ntmps9
  go_upto_region 1 with (fail)
  obtain ⟨W, hW, o1, o2, hB, hS⟩ := boxes2 w 23 40 [.int .i64 a, .int .i64 b, .int .i64 (d : Int)] [.bool false, .slice none 0 0, .bool false, .slice none 0 0, .slice none 0 0]
  rw [← hW]
  clear hW
  have fo1 := o1.free; have co10 := o1.cell 0 _ rfl; have co11 := o1.cell 1 _ rfl; have co12 := o1.cell 2 _ rfl
  go_wp2_with fail
  refine (HN.out W).mono ?_
  rintro e W1 ⟨_, rfl, ⟨u, rfl, hu⟩, hb1⟩
  obtain ⟨t0, t2, b1, b3, b4, m1, n1, m3, n3, m4, n4, rfl⟩ := hu.open
  clear co10 co11 co12 fo1
  have hsW1 : W.heap.size ≤ W1.heap.size := hb1.size; have hB := hB.trans (hb1.mono hB.size); have o2 := o2.below hb1 o2.lt
  go_upto_region 4 with (fail)
  obtain ⟨V, hV, o3, hBV, hSV⟩ := boxes1 W1 40 [.bool t0, .slice b1 m1 n1, .bool t2, .slice b3 m3 n3, .slice b4 m4 n4]
  rw [← hV]
  clear hV
  have hsV : W1.heap.size ≤ V.heap.size := hBV.size; have hB := hB.trans (hBV.mono hB.size); have o2 := o2.below hBV o2.lt; have hu := hu.below hBV (Nat.le_refl _)
  have hne : W1.heap.size ≠ w.heap.size + 1 := by omega
  generalize W1.heap.size = g3 at *
  have fo2 := o2.free; have co20 := o2.cell 0 _ rfl; have co21 := o2.cell 1 _ rfl; have co22 := o2.cell 2 _ rfl; have co23 := o2.cell 3 _ rfl; have co24 := o2.cell 4 _ rfl; have fo3 := o3.free; have co30 := o3.cell 0 _ rfl; have co31 := o3.cell 1 _ rfl; have co32 := o3.cell 2 _ rfl; have co33 := o3.cell 3 _ rfl; have co34 := o3.cell 4 _ rfl
  go_wp2_with fail
  exact bodyPost_ret (by simp [results, Tryz.results9, go_sem, co20, co21, co22, co23, co24]) rfl (num_end hu o2 hB (by omega) rfl)
def exFr : Fr := ⟨1, 0, 1, 0, 1056964608, [3], [⟨2, -1, 0, 4⟩]⟩
set_option maxRecDepth 100000 in
set_option maxHeartbeats 1600000 in
theorem example_spec (w : World) : Calls Tryz.prog 32 #[] w (Ret w fun w' v' => FrRep w' v' exFr) := by
  have hst : ∀ (a : Addr) (k : FloatKind) (b : Nat) (m : Mode) (w : World), (store a (.float k b) m).run Tryz.prog w = stored Tryz.prog w a (.float k b) m := fun a k b m w => run_store Tryz.prog w a _ m rfl
  go_enter Tryz.func32, Tryz.ntmps32
  go_wp2_with fail
  obtain ⟨W, hW, o1, o2, o3, hB, hS⟩ := boxes3 w 92 3 145 [.int .u32 1, .int .i64 0, .int .i64 1, .int .i64 0, .float .f32 1056964608, .slice (some ⟨w.heap.size + 1, 0, none⟩) 1 1, .slice (some ⟨w.heap.size + 1 + 1, 0, none⟩) 1 1] [.int .i64 3] [.int .i16 2, .int .i16 (-1), .int .i16 0, .int .i16 4]
  rw [← hW]
  clear hW
  have fo1 := o1.free; have co10 := o1.cell 0 _ rfl; have co11 := o1.cell 1 _ rfl; have co12 := o1.cell 2 _ rfl; have co13 := o1.cell 3 _ rfl; have co14 := o1.cell 4 _ rfl; have co15 := o1.cell 5 _ rfl; have co16 := o1.cell 6 _ rfl
  refine bodyPost_ret (v := .agg #[.int .u32 1, .int .i64 0, .int .i64 1, .int .i64 0, .float .f32 1056964608, .slice (some ⟨w.heap.size + 1, 0, none⟩) 1 1, .slice (some ⟨w.heap.size + 1 + 1, 0, none⟩) 1 1]) (by simp [results, Tryz.results32, go_sem, co10, co11, co12, co13, co14, co15, co16]) rfl ⟨_, rfl, ⟨_, _, rfl, ?_, ?_, ?_⟩, hB⟩
  · refine .inr ⟨w.heap.size + 1, 0, 1, rfl, Nat.le_refl _, by unfold maxLen; omega, fun i hi => ?_⟩
    have hi0 : i = 0 := by simp [exFr] at hi; exact hi
    subst hi0
    exact o2.cell 0 _ rfl
  · refine .inr ⟨w.heap.size + 1 + 1, 0, 1, rfl, Nat.le_refl _, by unfold maxLen; omega, fun i p hp j x hj => ?_⟩
    have hi0 : i = 0 := by
      have := (List.getElem?_eq_some_iff.1 hp).1
      simp [exFr] at this; exact this
    subst hi0
    simp only [exFr, List.getElem?_cons_zero, Option.some.injEq] at hp
    subst hp
    have h3 := o3.cell j x hj
    simpa using h3
  · constructor
    · decide
    · unfold I64 exFr; simp
    · unfold I64 exFr; simp
    · unfold I64 exFr; simp
    · decide
    · intro x hx; simp [exFr] at hx; subst hx; unfold I64; omega
    · intro p hp; simp [exFr] at hp; subst hp; unfold Pr.ok I16; simp
theorem exFr_valid : exFr.valid = true := by
  unfold Fr.valid exFr
  have h1 : scaleOK 1056964608 = true := by kernel_rfl
  simp [h1, inR, badMates]
end Go.Proofs.YtfkogkcpndaoeaaGreat
