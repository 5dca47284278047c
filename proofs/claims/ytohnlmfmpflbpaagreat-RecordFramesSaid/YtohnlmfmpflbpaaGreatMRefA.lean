/- The reference's finite and Valid. Conditions: none. -/
import Derived.Test.YtohnlmfmpflbpaaGreatMEnc
set_option linter.unusedSimpArgs false
set_option linter.unusedVariables false
set_option linter.all false
namespace Go.Proofs.YtohnlmfmpflbpaaGreat
open Go.RowKit

theorem rfinite_spec (s : Nat) (w : World) :
    Calls Tryz.prog 37 #[.float .f32 s] w (fun e w' => e = .returned (.bool (scaleOK s)) ∧ w = w') := by
  cases h6 : (FloatKind.f32.format.order s 0 == some .gt)
  · have h : scaleOK s = false := by unfold scaleOK; rw [h6]; rfl
    have H := Lib.hid h
    clear h
    go_enter Tryz.func37, Tryz.ntmps37
    go_wp2
    go_ret
    exact ⟨by rw [H.out]; rfl, rfl⟩
  · cases h7 : (FloatKind.f32.format.order s 2139095039 == some .lt || FloatKind.f32.format.order s 2139095039 == some .eq)
    · have h : scaleOK s = false := by unfold scaleOK; rw [h7]; simp
      have H := Lib.hid h
      clear h
      go_enter Tryz.func37, Tryz.ntmps37
      go_wp2
      go_ret
      exact ⟨by rw [H.out]; rfl, rfl⟩
    · have h : scaleOK s = true := by unfold scaleOK; rw [h6, h7]; rfl
      have H := Lib.hid h
      clear h
      go_enter Tryz.func37, Tryz.ntmps37
      go_wp2
      go_ret
      exact ⟨by rw [H.out]; rfl, rfl⟩

set_option maxRecDepth 100000 in
set_option maxHeartbeats 3200000 in
theorem rvalid_spec (v : Value) (f : Fr) (w : World) (h : FrRep w v f) :
    Calls Tryz.prog 10 #[v] w (Ret w fun _ v' => v' = .bool f.valid) := by
  obtain ⟨vm, vp, rfl, hm, hp, hok⟩ := h
  obtain ⟨am, lm, cm, rfl, Hlm, hcm, hmm, -⟩ := hm.any
  obtain ⟨ap, lp, cp, rfl, Hlp, hcp, hmp, -⟩ := hp.any
  have HV : Hid (f.valid = (inR (lp : Int) 1 8 && decide ((lm : Int) = (lp : Int)) && inR f.point 0 1023 && inR f.source 1 (lp : Int) && inR f.turn 0 63 && scaleOK f.scale && !badMates f.mates)) := by
    show _ = _
    have e := Hlm.out
    rw [List.length_map] at e
    unfold Fr.valid
    rw [Hlp.out, e]
  have Hml : Hid (f.mates.length = lm) := by have := Hlm.out; rw [List.length_map] at this; exact this
  have hto : ∀ (k : Nat) (x : Int), f.mates[k]? = some x → (!inR x 0 65535) = true → badMates f.mates = true := fun _ _ => badMates_of
  have hsn : ∀ (k : Nat) (x : Int), f.mates[k]? = some x → badMates (f.mates.take (k + 1)) = (badMates (f.mates.take k) || !inR x 0 65535) := fun _ _ => badMates_snoc
  clear hok Hlm Hlp
  obtain ⟨seq, point, source, turn, scale, mates, pairs⟩ := f
  simp only at *
  have Hto := Lib.hid hto
  have Hsn := Lib.hid hsn
  clear hto hsn
  by_cases c1 : lp < 1
  · go_enter Tryz.func10, Tryz.ntmps10
    go_upto_region 1 with (fail)
    obtain ⟨W, hW, o1, hB, hS⟩ := boxes1 w 27 [.int .u32 (seq : Int), .int .i64 point, .int .i64 source, .int .i64 turn, .float .f32 scale, .slice am lm cm, .slice ap lp cp]
    rw [← hW]
    clear hW
    have hmW := hm.below hB (Nat.le_refl _)
    have fo1 := o1.free; have co10 := o1.cell 0 _ rfl; have co11 := o1.cell 1 _ rfl; have co12 := o1.cell 2 _ rfl; have co13 := o1.cell 3 _ rfl; have co14 := o1.cell 4 _ rfl; have co15 := o1.cell 5 _ rfl; have co16 := o1.cell 6 _ rfl
    go_wp2_with (go_at_call 37; refine (rfinite_spec _ _).mono ?_; rintro e w' ⟨rfl, rfl⟩)
    go_ret
    exact ⟨_, rfl, by rw [HV.out]; simp [inR]; intros; omega, hB⟩
  by_cases c2 : 8 < lp
  · go_enter Tryz.func10, Tryz.ntmps10
    go_upto_region 1 with (fail)
    obtain ⟨W, hW, o1, hB, hS⟩ := boxes1 w 27 [.int .u32 (seq : Int), .int .i64 point, .int .i64 source, .int .i64 turn, .float .f32 scale, .slice am lm cm, .slice ap lp cp]
    rw [← hW]
    clear hW
    have hmW := hm.below hB (Nat.le_refl _)
    have fo1 := o1.free; have co10 := o1.cell 0 _ rfl; have co11 := o1.cell 1 _ rfl; have co12 := o1.cell 2 _ rfl; have co13 := o1.cell 3 _ rfl; have co14 := o1.cell 4 _ rfl; have co15 := o1.cell 5 _ rfl; have co16 := o1.cell 6 _ rfl
    go_wp2_with (go_at_call 37; refine (rfinite_spec _ _).mono ?_; rintro e w' ⟨rfl, rfl⟩)
    go_ret
    exact ⟨_, rfl, by rw [HV.out]; simp [inR]; intros; omega, hB⟩
  by_cases c3 : lm = lp
  rotate_left
  · have c3' : ((lm : Int) != (lp : Int)) = true := by simp only [bne_iff_ne, ne_eq]; omega
    have C3 := Lib.hid c3
    clear c3
    go_enter Tryz.func10, Tryz.ntmps10
    go_upto_region 1 with (fail)
    obtain ⟨W, hW, o1, hB, hS⟩ := boxes1 w 27 [.int .u32 (seq : Int), .int .i64 point, .int .i64 source, .int .i64 turn, .float .f32 scale, .slice am lm cm, .slice ap lp cp]
    rw [← hW]
    clear hW
    have hmW := hm.below hB (Nat.le_refl _)
    have fo1 := o1.free; have co10 := o1.cell 0 _ rfl; have co11 := o1.cell 1 _ rfl; have co12 := o1.cell 2 _ rfl; have co13 := o1.cell 3 _ rfl; have co14 := o1.cell 4 _ rfl; have co15 := o1.cell 5 _ rfl; have co16 := o1.cell 6 _ rfl
    go_wp2_with (go_at_call 37; refine (rfinite_spec _ _).mono ?_; rintro e w' ⟨rfl, rfl⟩)
    go_ret
    exact ⟨_, rfl, by rw [HV.out]; simp [inR]; have := C3.out; intros; omega, hB⟩
  obtain rfl : lp = lm := c3.symm
  by_cases c4 : point < 0
  · go_enter Tryz.func10, Tryz.ntmps10
    go_upto_region 1 with (fail)
    obtain ⟨W, hW, o1, hB, hS⟩ := boxes1 w 27 [.int .u32 (seq : Int), .int .i64 point, .int .i64 source, .int .i64 turn, .float .f32 scale, .slice am lp cm, .slice ap lp cp]
    rw [← hW]
    clear hW
    have hmW := hm.below hB (Nat.le_refl _)
    have fo1 := o1.free; have co10 := o1.cell 0 _ rfl; have co11 := o1.cell 1 _ rfl; have co12 := o1.cell 2 _ rfl; have co13 := o1.cell 3 _ rfl; have co14 := o1.cell 4 _ rfl; have co15 := o1.cell 5 _ rfl; have co16 := o1.cell 6 _ rfl
    go_wp2_with (go_at_call 37; refine (rfinite_spec _ _).mono ?_; rintro e w' ⟨rfl, rfl⟩)
    go_ret
    exact ⟨_, rfl, by rw [HV.out]; simp [inR]; intros; omega, hB⟩
  by_cases c5 : 1024 ≤ point
  · go_enter Tryz.func10, Tryz.ntmps10
    go_upto_region 1 with (fail)
    obtain ⟨W, hW, o1, hB, hS⟩ := boxes1 w 27 [.int .u32 (seq : Int), .int .i64 point, .int .i64 source, .int .i64 turn, .float .f32 scale, .slice am lp cm, .slice ap lp cp]
    rw [← hW]
    clear hW
    have hmW := hm.below hB (Nat.le_refl _)
    have fo1 := o1.free; have co10 := o1.cell 0 _ rfl; have co11 := o1.cell 1 _ rfl; have co12 := o1.cell 2 _ rfl; have co13 := o1.cell 3 _ rfl; have co14 := o1.cell 4 _ rfl; have co15 := o1.cell 5 _ rfl; have co16 := o1.cell 6 _ rfl
    go_wp2_with (go_at_call 37; refine (rfinite_spec _ _).mono ?_; rintro e w' ⟨rfl, rfl⟩)
    go_ret
    exact ⟨_, rfl, by rw [HV.out]; simp [inR]; intros; omega, hB⟩
  by_cases c6 : source < 1
  · go_enter Tryz.func10, Tryz.ntmps10
    go_upto_region 1 with (fail)
    obtain ⟨W, hW, o1, hB, hS⟩ := boxes1 w 27 [.int .u32 (seq : Int), .int .i64 point, .int .i64 source, .int .i64 turn, .float .f32 scale, .slice am lp cm, .slice ap lp cp]
    rw [← hW]
    clear hW
    have hmW := hm.below hB (Nat.le_refl _)
    have fo1 := o1.free; have co10 := o1.cell 0 _ rfl; have co11 := o1.cell 1 _ rfl; have co12 := o1.cell 2 _ rfl; have co13 := o1.cell 3 _ rfl; have co14 := o1.cell 4 _ rfl; have co15 := o1.cell 5 _ rfl; have co16 := o1.cell 6 _ rfl
    go_wp2_with (go_at_call 37; refine (rfinite_spec _ _).mono ?_; rintro e w' ⟨rfl, rfl⟩)
    go_ret
    exact ⟨_, rfl, by rw [HV.out]; simp [inR]; intros; omega, hB⟩
  by_cases c7 : (lp : Int) < source
  · go_enter Tryz.func10, Tryz.ntmps10
    go_upto_region 1 with (fail)
    obtain ⟨W, hW, o1, hB, hS⟩ := boxes1 w 27 [.int .u32 (seq : Int), .int .i64 point, .int .i64 source, .int .i64 turn, .float .f32 scale, .slice am lp cm, .slice ap lp cp]
    rw [← hW]
    clear hW
    have hmW := hm.below hB (Nat.le_refl _)
    have fo1 := o1.free; have co10 := o1.cell 0 _ rfl; have co11 := o1.cell 1 _ rfl; have co12 := o1.cell 2 _ rfl; have co13 := o1.cell 3 _ rfl; have co14 := o1.cell 4 _ rfl; have co15 := o1.cell 5 _ rfl; have co16 := o1.cell 6 _ rfl
    go_wp2_with (go_at_call 37; refine (rfinite_spec _ _).mono ?_; rintro e w' ⟨rfl, rfl⟩)
    go_ret
    exact ⟨_, rfl, by rw [HV.out]; simp [inR]; intros; omega, hB⟩
  by_cases c8 : turn < 0
  · go_enter Tryz.func10, Tryz.ntmps10
    go_upto_region 1 with (fail)
    obtain ⟨W, hW, o1, hB, hS⟩ := boxes1 w 27 [.int .u32 (seq : Int), .int .i64 point, .int .i64 source, .int .i64 turn, .float .f32 scale, .slice am lp cm, .slice ap lp cp]
    rw [← hW]
    clear hW
    have hmW := hm.below hB (Nat.le_refl _)
    have fo1 := o1.free; have co10 := o1.cell 0 _ rfl; have co11 := o1.cell 1 _ rfl; have co12 := o1.cell 2 _ rfl; have co13 := o1.cell 3 _ rfl; have co14 := o1.cell 4 _ rfl; have co15 := o1.cell 5 _ rfl; have co16 := o1.cell 6 _ rfl
    go_wp2_with (go_at_call 37; refine (rfinite_spec _ _).mono ?_; rintro e w' ⟨rfl, rfl⟩)
    go_ret
    exact ⟨_, rfl, by rw [HV.out]; simp [inR]; intros; omega, hB⟩
  by_cases c9 : 64 ≤ turn
  · go_enter Tryz.func10, Tryz.ntmps10
    go_upto_region 1 with (fail)
    obtain ⟨W, hW, o1, hB, hS⟩ := boxes1 w 27 [.int .u32 (seq : Int), .int .i64 point, .int .i64 source, .int .i64 turn, .float .f32 scale, .slice am lp cm, .slice ap lp cp]
    rw [← hW]
    clear hW
    have hmW := hm.below hB (Nat.le_refl _)
    have fo1 := o1.free; have co10 := o1.cell 0 _ rfl; have co11 := o1.cell 1 _ rfl; have co12 := o1.cell 2 _ rfl; have co13 := o1.cell 3 _ rfl; have co14 := o1.cell 4 _ rfl; have co15 := o1.cell 5 _ rfl; have co16 := o1.cell 6 _ rfl
    go_wp2_with (go_at_call 37; refine (rfinite_spec _ _).mono ?_; rintro e w' ⟨rfl, rfl⟩)
    go_ret
    exact ⟨_, rfl, by rw [HV.out]; simp [inR]; intros; omega, hB⟩
  cases h6 : scaleOK scale
  · have H6 := Lib.hid h6
    go_enter Tryz.func10, Tryz.ntmps10
    go_upto_region 1 with (fail)
    obtain ⟨W, hW, o1, hB, hS⟩ := boxes1 w 27 [.int .u32 (seq : Int), .int .i64 point, .int .i64 source, .int .i64 turn, .float .f32 scale, .slice am lp cm, .slice ap lp cp]
    rw [← hW]
    clear hW
    have hmW := hm.below hB (Nat.le_refl _)
    have fo1 := o1.free; have co10 := o1.cell 0 _ rfl; have co11 := o1.cell 1 _ rfl; have co12 := o1.cell 2 _ rfl; have co13 := o1.cell 3 _ rfl; have co14 := o1.cell 4 _ rfl; have co15 := o1.cell 5 _ rfl; have co16 := o1.cell 6 _ rfl
    go_wp2_with (go_at_call 37; refine (rfinite_spec _ _).mono ?_; rintro e w' ⟨rfl, rfl⟩)
    go_ret
    exact ⟨_, rfl, by rw [HV.out, H6.out]; simp, hB⟩
  have H6 := Lib.hid h6
  go_enter Tryz.func10, Tryz.ntmps10
  go_upto_region 1 with (fail)
  obtain ⟨W, hW, o1, hB, hS⟩ := boxes1 w 27 [.int .u32 (seq : Int), .int .i64 point, .int .i64 source, .int .i64 turn, .float .f32 scale, .slice am lp cm, .slice ap lp cp]
  rw [← hW]
  clear hW
  have hmW := hm.below hB (Nat.le_refl _)
  have fo1 := o1.free; have co10 := o1.cell 0 _ rfl; have co11 := o1.cell 1 _ rfl; have co12 := o1.cell 2 _ rfl; have co13 := o1.cell 3 _ rfl; have co14 := o1.cell 4 _ rfl; have co15 := o1.cell 5 _ rfl; have co16 := o1.cell 6 _ rfl
  go_wp2_with (go_at_call 37; refine (rfinite_spec _ _).mono ?_; rintro e w' ⟨rfl, rfl⟩)
  go_loop [4] (fun iv => ∃ k : Nat, k ≤ lp ∧ iv = .int .i64 (k : Int) ∧ Hid (badMates (mates.take k) = false)) (fun i => lp - (intOf i).toNat)
  case atStart => exact ⟨0, Nat.zero_le _, rfl, rfl⟩
  case round =>
    obtain ⟨k, hk, rfl, He⟩ := hrel
    by_cases hlt : k < lp
    · obtain ⟨x, hx⟩ : ∃ x, mates[k]? = some x := ⟨_, List.getElem?_eq_getElem (by have := Hml.out; omega)⟩
      obtain ⟨b, o, rfl, hc⟩ := hmW.at (i := k) (x := i64v x) (by simp [hx])
      unfold i64v at hc
      have HX := Lib.hid hx
      clear hx
      by_cases hin : x < 0
      · have hb := Lib.hid (Hto.out _ _ HX.out (by simp [inR]; omega))
        go_wp2_with fail
        go_ret
        exact ⟨_, rfl, by rw [HV.out, hb.out]; simp, hB⟩
      · by_cases hin2 : 65535 < x
        · have hb := Lib.hid (Hto.out _ _ HX.out (by simp [inR]; omega))
          go_wp2_with fail
          go_ret
          exact ⟨_, rfl, by rw [HV.out, hb.out]; simp, hB⟩
        · have hb : badMates (mates.take (k + 1)) = false := by rw [Hsn.out _ _ HX.out, He.out]; simp [inR]; omega
          have hb := Lib.hid hb
          go_wp2_with fail
          go_round
          case rel => exact ⟨k + 1, by omega, by go_num, hb⟩
          case measure => simp [intOf]; omega
    · obtain rfl : k = lp := by omega
      have hb : badMates mates = false := by
        have h := He.out
        rw [List.take_of_length_le (by have := Hml.out; omega)] at h
        exact h
      have hb := Lib.hid hb
      go_wp2_with fail
      go_ret
      exact ⟨_, rfl, by rw [HV.out, hb.out, H6.out]; simp [inR]; omega, hB⟩
end Go.Proofs.YtohnlmfmpflbpaaGreat
