/- The reference's Decode where the form is wrong or the bytes are torn. Conditions: none. -/
import Derived.Test.YtohnlmfmpflbpaaGreatMRefI
set_option linter.unusedSimpArgs false
set_option linter.unusedVariables false
set_option linter.all false
namespace Go.Proofs.YtohnlmfmpflbpaaGreat
open Go.RowKit

set_option maxRecDepth 100000 in
set_option maxHeartbeats 3200000 in
theorem refDec_head (a : Option Addr) (l : List UInt8) (n cap : Nat) (w : World) (hA : BytesA w a l) (Hn : Hid (l.length = n)) (hcap : n ≤ cap) (hmax : cap ≤ 9223372036854775807) (he : headErr l ≠ 0) :
    Calls Tryz.prog 47 #[.slice a n cap] w (Ret w fun w' v' => DecPost l w' v') := by
  have h1 : decErr l = headErr l := by unfold decErr; rw [if_pos he]
  have hbd := fun w => dec_bad (w := w) h1 he
  have H2 : formErr l = true → ∀ w, DecPost l w (.tuple #[.agg #[.int .u32 0, .int .i64 0, .int .i64 0, .int .i64 0, .float .f32 0, .slice none 0 0, .slice none 0 0], .int .i64 0, .int .i64 2]) := fun h w => by
    have e : headErr l = 2 := by unfold headErr; rw [if_pos h]
    have := hbd w
    rw [e] at this; exact this
  have H30 : formErr l = false → ∀ w, DecPost l w (.tuple #[.agg #[.int .u32 0, .int .i64 0, .int .i64 0, .int .i64 0, .float .f32 0, .slice none 0 0, .slice none 0 0], .int .i64 0, .int .i64 30]) := fun h w => by
    have e : headErr l = 30 := by
      unfold headErr at he ⊢
      rw [if_neg (by rw [h]; decide)] at he ⊢
      split at he
      · rename_i h3; rw [if_pos h3]
      · exact absurd rfl he
    have := hbd w
    rw [e] at this; exact this
  have hT : formErr l = false → n < 3 ∨ n < 18 + 10 * byteAt l 2 := fun h => by
    unfold headErr at he
    rw [if_neg (by rw [h]; decide)] at he
    split at he
    · rename_i h3; rw [Hn.out] at h3; unfold headLen at h3; exact h3
    · exact absurd rfl he
  have hc0 : 0 < n → ∃ b o, a = some ⟨b, o, none⟩ ∧ w.cell? ⟨b, o + 0, none⟩ = some (.int .u8 (byteAt l 0 : Int)) := fun h => hA.cell (by rw [Hn.out]; exact h)
  have hc1 : 1 < n → ∃ b o, a = some ⟨b, o, none⟩ ∧ w.cell? ⟨b, o + 1, none⟩ = some (.int .u8 (byteAt l 1 : Int)) := fun h => hA.cell (by rw [Hn.out]; exact h)
  have hc2 : 2 < n → ∃ b o, a = some ⟨b, o, none⟩ ∧ w.cell? ⟨b, o + 2, none⟩ = some (.int .u8 (byteAt l 2 : Int)) := fun h => hA.cell (by rw [Hn.out]; exact h)
  have e1 : formErr l = decide ((0 < n ∧ byteAt l 0 ≠ 87) ∨ (1 < n ∧ byteAt l 1 ≠ 86) ∨ (2 < n ∧ (byteAt l 2 < 1 ∨ 8 < byteAt l 2))) := by unfold formErr; rw [Hn.out]
  rw [e1] at H2 H30 hT
  have b2 := byteAt_lt l 2
  generalize byteAt l 0 = x0 at *
  generalize byteAt l 1 = x1 at *
  generalize byteAt l 2 = x2 at *
  clear e1 hA Hn h1 hbd he
  have H2 := Lib.hid H2
  have H30 := Lib.hid H30
  have hst := run_store_float
  by_cases h0 : 0 < n
  · obtain ⟨b, o, rfl, q0⟩ := hc0 h0
    rw [Nat.add_zero] at q0
    by_cases g0 : x0 = 87
    · subst g0
      by_cases h1 : 1 < n
      · obtain ⟨_, _, e, q1⟩ := hc1 h1
        injection e with e
        injection e with e1 e2
        subst e1 e2
        by_cases g1 : x1 = 86
        · subst g1
          by_cases h2 : 2 < n
          · obtain ⟨_, _, e, q2⟩ := hc2 h2
            injection e with e
            injection e with e1 e2
            subst e1 e2
            by_cases g2 : x2 < 1
            · have HD := Lib.hid (H2.out (by rw [decide_eq_true_eq]; omega))
              clear H2 H30 hT hc0 hc1 hc2
              obtain rfl : x2 = 0 := by omega
              go_enter Tryz.func47, Tryz.ntmps47
              go_upto_region 1 with (fail)
              obtain ⟨W, hW, o2, hB, hS⟩ := boxes1 w 27 [.int .u32 0, .int .i64 0, .int .i64 0, .int .i64 0, .float .f32 0, .slice none 0 0, .slice none 0 0]
              rw [← hW]
              clear hW
              replace q0 := (hB.cell (p := ⟨_, _, none⟩) (World.block_lt_of_cell? w _ q0)).trans q0; replace q1 := (hB.cell (p := ⟨_, _, none⟩) (World.block_lt_of_cell? w _ q1)).trans q1; replace q2 := (hB.cell (p := ⟨_, _, none⟩) (World.block_lt_of_cell? w _ q2)).trans q2
              have fo2 := o2.free; have co20 := o2.cell 0 _ rfl; have co21 := o2.cell 1 _ rfl; have co22 := o2.cell 2 _ rfl; have co23 := o2.cell 3 _ rfl; have co24 := o2.cell 4 _ rfl; have co25 := o2.cell 5 _ rfl; have co26 := o2.cell 6 _ rfl
              go_wp2_with fail
              exact bodyPost_ret (by simp [results, Tryz.results47, go_sem, co20, co21, co22, co23, co24, co25, co26, fo2]) rfl ⟨_, rfl, HD.out _, below7 hB (Nat.le_refl _)⟩
            · by_cases g3 : 8 < x2
              · have HD := Lib.hid (H2.out (by rw [decide_eq_true_eq]; omega))
                clear H2 H30 hT hc0 hc1 hc2
                go_enter Tryz.func47, Tryz.ntmps47
                go_upto_region 1 with (fail)
                obtain ⟨W, hW, o2, hB, hS⟩ := boxes1 w 27 [.int .u32 0, .int .i64 0, .int .i64 0, .int .i64 0, .float .f32 0, .slice none 0 0, .slice none 0 0]
                rw [← hW]
                clear hW
                replace q0 := (hB.cell (p := ⟨_, _, none⟩) (World.block_lt_of_cell? w _ q0)).trans q0; replace q1 := (hB.cell (p := ⟨_, _, none⟩) (World.block_lt_of_cell? w _ q1)).trans q1; replace q2 := (hB.cell (p := ⟨_, _, none⟩) (World.block_lt_of_cell? w _ q2)).trans q2
                have fo2 := o2.free; have co20 := o2.cell 0 _ rfl; have co21 := o2.cell 1 _ rfl; have co22 := o2.cell 2 _ rfl; have co23 := o2.cell 3 _ rfl; have co24 := o2.cell 4 _ rfl; have co25 := o2.cell 5 _ rfl; have co26 := o2.cell 6 _ rfl
                go_wp2_with fail
                exact bodyPost_ret (by simp [results, Tryz.results47, go_sem, co20, co21, co22, co23, co24, co25, co26, fo2]) rfl ⟨_, rfl, HD.out _, below7 hB (Nat.le_refl _)⟩
              · have ht := hT (by rw [decide_eq_false_iff_not]; omega)
                have HD := Lib.hid (H30.out (by rw [decide_eq_false_iff_not]; omega))
                clear H2 H30 hT hc0 hc1 hc2
                have ht2 : n < 18 + 10 * x2 := by omega
                have hw1 : IntKind.i64.wrap (10 * (x2 : Int)) = 10 * (x2 : Int) := IntWalk.i64_in _ (by omega)
                have hw2 : IntKind.i64.wrap (18 + 10 * (x2 : Int)) = 18 + 10 * (x2 : Int) := IntWalk.i64_in _ (by omega)
                go_enter Tryz.func47, Tryz.ntmps47
                go_upto_region 1 with (fail)
                obtain ⟨W, hW, o2, hB, hS⟩ := boxes1 w 27 [.int .u32 0, .int .i64 0, .int .i64 0, .int .i64 0, .float .f32 0, .slice none 0 0, .slice none 0 0]
                rw [← hW]
                clear hW
                replace q0 := (hB.cell (p := ⟨_, _, none⟩) (World.block_lt_of_cell? w _ q0)).trans q0; replace q1 := (hB.cell (p := ⟨_, _, none⟩) (World.block_lt_of_cell? w _ q1)).trans q1; replace q2 := (hB.cell (p := ⟨_, _, none⟩) (World.block_lt_of_cell? w _ q2)).trans q2
                have fo2 := o2.free; have co20 := o2.cell 0 _ rfl; have co21 := o2.cell 1 _ rfl; have co22 := o2.cell 2 _ rfl; have co23 := o2.cell 3 _ rfl; have co24 := o2.cell 4 _ rfl; have co25 := o2.cell 5 _ rfl; have co26 := o2.cell 6 _ rfl
                go_wp2_with fail
                exact bodyPost_ret (by simp [results, Tryz.results47, go_sem, co20, co21, co22, co23, co24, co25, co26, fo2]) rfl ⟨_, rfl, HD.out _, below7 hB (Nat.le_refl _)⟩
          · have HD := Lib.hid (H30.out (by rw [decide_eq_false_iff_not]; omega))
            clear H2 H30 hT hc0 hc1 hc2
            go_enter Tryz.func47, Tryz.ntmps47
            go_upto_region 1 with (fail)
            obtain ⟨W, hW, o2, hB, hS⟩ := boxes1 w 27 [.int .u32 0, .int .i64 0, .int .i64 0, .int .i64 0, .float .f32 0, .slice none 0 0, .slice none 0 0]
            rw [← hW]
            clear hW
            replace q0 := (hB.cell (p := ⟨_, _, none⟩) (World.block_lt_of_cell? w _ q0)).trans q0; replace q1 := (hB.cell (p := ⟨_, _, none⟩) (World.block_lt_of_cell? w _ q1)).trans q1
            have fo2 := o2.free; have co20 := o2.cell 0 _ rfl; have co21 := o2.cell 1 _ rfl; have co22 := o2.cell 2 _ rfl; have co23 := o2.cell 3 _ rfl; have co24 := o2.cell 4 _ rfl; have co25 := o2.cell 5 _ rfl; have co26 := o2.cell 6 _ rfl
            go_wp2_with fail
            exact bodyPost_ret (by simp [results, Tryz.results47, go_sem, co20, co21, co22, co23, co24, co25, co26, fo2]) rfl ⟨_, rfl, HD.out _, below7 hB (Nat.le_refl _)⟩
        · have g1' : ((x1 : Int) != 86) = true := by simp; omega
          have HD := Lib.hid (H2.out (by rw [decide_eq_true_eq]; omega))
          clear H2 H30 hT hc0 hc1 hc2
          go_enter Tryz.func47, Tryz.ntmps47
          go_upto_region 1 with (fail)
          obtain ⟨W, hW, o2, hB, hS⟩ := boxes1 w 27 [.int .u32 0, .int .i64 0, .int .i64 0, .int .i64 0, .float .f32 0, .slice none 0 0, .slice none 0 0]
          rw [← hW]
          clear hW
          replace q0 := (hB.cell (p := ⟨_, _, none⟩) (World.block_lt_of_cell? w _ q0)).trans q0; replace q1 := (hB.cell (p := ⟨_, _, none⟩) (World.block_lt_of_cell? w _ q1)).trans q1
          have fo2 := o2.free; have co20 := o2.cell 0 _ rfl; have co21 := o2.cell 1 _ rfl; have co22 := o2.cell 2 _ rfl; have co23 := o2.cell 3 _ rfl; have co24 := o2.cell 4 _ rfl; have co25 := o2.cell 5 _ rfl; have co26 := o2.cell 6 _ rfl
          go_wp2_with fail
          exact bodyPost_ret (by simp [results, Tryz.results47, go_sem, co20, co21, co22, co23, co24, co25, co26, fo2]) rfl ⟨_, rfl, HD.out _, below7 hB (Nat.le_refl _)⟩
      · have HD := Lib.hid (H30.out (by rw [decide_eq_false_iff_not]; omega))
        clear H2 H30 hT hc0 hc1 hc2
        go_enter Tryz.func47, Tryz.ntmps47
        go_upto_region 1 with (fail)
        obtain ⟨W, hW, o2, hB, hS⟩ := boxes1 w 27 [.int .u32 0, .int .i64 0, .int .i64 0, .int .i64 0, .float .f32 0, .slice none 0 0, .slice none 0 0]
        rw [← hW]
        clear hW
        replace q0 := (hB.cell (p := ⟨_, _, none⟩) (World.block_lt_of_cell? w _ q0)).trans q0
        have fo2 := o2.free; have co20 := o2.cell 0 _ rfl; have co21 := o2.cell 1 _ rfl; have co22 := o2.cell 2 _ rfl; have co23 := o2.cell 3 _ rfl; have co24 := o2.cell 4 _ rfl; have co25 := o2.cell 5 _ rfl; have co26 := o2.cell 6 _ rfl
        go_wp2_with fail
        exact bodyPost_ret (by simp [results, Tryz.results47, go_sem, co20, co21, co22, co23, co24, co25, co26, fo2]) rfl ⟨_, rfl, HD.out _, below7 hB (Nat.le_refl _)⟩
    · have g0' : ((x0 : Int) != 87) = true := by simp; omega
      have HD := Lib.hid (H2.out (by rw [decide_eq_true_eq]; omega))
      clear H2 H30 hT hc0 hc1 hc2
      go_enter Tryz.func47, Tryz.ntmps47
      go_upto_region 1 with (fail)
      obtain ⟨W, hW, o2, hB, hS⟩ := boxes1 w 27 [.int .u32 0, .int .i64 0, .int .i64 0, .int .i64 0, .float .f32 0, .slice none 0 0, .slice none 0 0]
      rw [← hW]
      clear hW
      replace q0 := (hB.cell (p := ⟨_, _, none⟩) (World.block_lt_of_cell? w _ q0)).trans q0
      have fo2 := o2.free; have co20 := o2.cell 0 _ rfl; have co21 := o2.cell 1 _ rfl; have co22 := o2.cell 2 _ rfl; have co23 := o2.cell 3 _ rfl; have co24 := o2.cell 4 _ rfl; have co25 := o2.cell 5 _ rfl; have co26 := o2.cell 6 _ rfl
      go_wp2_with fail
      exact bodyPost_ret (by simp [results, Tryz.results47, go_sem, co20, co21, co22, co23, co24, co25, co26, fo2]) rfl ⟨_, rfl, HD.out _, below7 hB (Nat.le_refl _)⟩
  · have HD := Lib.hid (H30.out (by rw [decide_eq_false_iff_not]; omega))
    clear H2 H30 hT hc0 hc1 hc2
    go_enter Tryz.func47, Tryz.ntmps47
    go_upto_region 1 with (fail)
    obtain ⟨W, hW, o2, hB, hS⟩ := boxes1 w 27 [.int .u32 0, .int .i64 0, .int .i64 0, .int .i64 0, .float .f32 0, .slice none 0 0, .slice none 0 0]
    rw [← hW]
    clear hW
    have fo2 := o2.free; have co20 := o2.cell 0 _ rfl; have co21 := o2.cell 1 _ rfl; have co22 := o2.cell 2 _ rfl; have co23 := o2.cell 3 _ rfl; have co24 := o2.cell 4 _ rfl; have co25 := o2.cell 5 _ rfl; have co26 := o2.cell 6 _ rfl
    go_wp2_with fail
    exact bodyPost_ret (by simp [results, Tryz.results47, go_sem, co20, co21, co22, co23, co24, co25, co26, fo2]) rfl ⟨_, rfl, HD.out _, below7 hB (Nat.le_refl _)⟩
end Go.Proofs.YtohnlmfmpflbpaaGreat
