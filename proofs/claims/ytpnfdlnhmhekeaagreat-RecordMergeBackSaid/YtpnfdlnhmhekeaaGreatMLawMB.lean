/- RecordMergeBack, whatever the sweeps and the shift. Conditions: none. -/
import Derived.Test.YtpnfdlnhmhekeaaGreatMAwake
import Derived.Test.YtpnfdlnhmhekeaaGreatMBackV
import Derived.Test.YtpnfdlnhmhekeaaGreatMCutS
import Derived.Test.YtpnfdlnhmhekeaaGreatMKept
set_option linter.unusedSimpArgs false
set_option linter.unusedVariables false
set_option linter.all false
namespace Go.Proofs.YtpnfdlnhmhekeaaGreat
open Go.RowKit

set_option maxRecDepth 100000 in
set_option maxHeartbeats 6400000 in
theorem recordMergeBack_spec (v0 v1 : Value) (x y : Wd) (s : Nat) (w : World) (h0 : WdRep w v0 x) (h1 : WdRep w v1 y) (hs : s < 65536) :
    Calls Tryz.prog 4 #[v0, v1, .int .u16 (s : Int)] w (Ret w fun _ v' => v' = .bool true) := by
  have HX := Lib.hid h0
  have HY := Lib.hid h1
  have HFX := Lib.hid (fun w h => fewWaves_spec v0 x w h)
  have HFY := Lib.hid (fun w h => fewWaves_spec v1 y w h)
  have HFITX := Lib.hid (few_fit (x := x))
  have HFITY := Lib.hid (few_fit (x := y))
  obtain ⟨vf, va, vb, rfl, q0, q1, q2⟩ := h0
  obtain ⟨uf, ua, ub, rfl, r0, r1, r2⟩ := h1
  obtain ⟨a0, n0, c0, rfl, -⟩ := q0.open
  obtain ⟨a1, n1, c1, rfl, -⟩ := q1.open
  obtain ⟨a2, n2, c2, rfl, -⟩ := q2.open
  obtain ⟨b0, m0, d0, rfl, -⟩ := r0.open
  obtain ⟨b1, m1, d1, rfl, -⟩ := r1.open
  obtain ⟨b2, m2, d2, rfl, -⟩ := r2.open
  clear q0 q1 q2 r0 r1 r2
  have HLX := Lib.hid (show fewB x = true → x.fr.length ≤ 6 from fun h => by unfold fewB at h; rw [Bool.and_eq_true, Bool.and_eq_true, decide_eq_true_iff] at h; exact h.1.1)
  have HLY := Lib.hid (show fewB y = true → y.fr.length ≤ 6 from fun h => by unfold fewB at h; rw [Bool.and_eq_true, Bool.and_eq_true, decide_eq_true_iff] at h; exact h.1.1)
  cases hx : fewB x
  · rw [hx] at HFX
    clear hx HFITX HFITY HLX HLY
    go_enter Tryz.func4, Tryz.ntmps4
    go_upto_region 1 with (fail)
    obtain ⟨W, hW, o3, o4, hB, hS⟩ := boxes2 w 25 25 [.slice a0 n0 c0, .slice a1 n1 c1, .slice a2 n2 c2] [.slice b0 m0 d0, .slice b1 m1 d1, .slice b2 m2 d2]
    rw [← hW]
    clear hW
    have fo3 := o3.free; have co30 := o3.cell 0 _ rfl; have co31 := o3.cell 1 _ rfl; have co32 := o3.cell 2 _ rfl; have fo4 := o4.free; have co40 := o4.cell 0 _ rfl; have co41 := o4.cell 1 _ rfl; have co42 := o4.cell 2 _ rfl
    go_wp2_with fail
    refine (HFX.out W (HX.out.below hB (Nat.le_refl _))).mono ?_
    rintro e1 W1 ⟨_, rfl, rfl, hb1⟩
    clear co30 co31 co32 fo3 co40 co41 co42 fo4
    have hsW1 : W.heap.size ≤ W1.heap.size := hb1.size; have hB := hB.trans (hb1.mono hB.size); have o3 := o3.below hb1 o3.lt; have o4 := o4.below hb1 o4.lt; have fo3 := o3.free; have co30 := o3.cell 0 _ rfl; have co31 := o3.cell 1 _ rfl; have co32 := o3.cell 2 _ rfl; have fo4 := o4.free; have co40 := o4.cell 0 _ rfl; have co41 := o4.cell 1 _ rfl; have co42 := o4.cell 2 _ rfl
    go_wp2_with fail
    refine (awake_spec W1).mono ?_
    rintro e1 WZ ⟨_, rfl, rfl, hbZ⟩
    have hB := hB.trans (hbZ.mono hB.size)
    go_wp2_with fail
    go_ret
    exact ⟨_, rfl, rfl, hB⟩
  · cases hy : fewB y
    · rw [hx] at HFX
      rw [hy] at HFY
      clear hx hy HFITX HFITY HLX HLY
      go_enter Tryz.func4, Tryz.ntmps4
      go_upto_region 1 with (fail)
      obtain ⟨W, hW, o3, o4, hB, hS⟩ := boxes2 w 25 25 [.slice a0 n0 c0, .slice a1 n1 c1, .slice a2 n2 c2] [.slice b0 m0 d0, .slice b1 m1 d1, .slice b2 m2 d2]
      rw [← hW]
      clear hW
      have fo3 := o3.free; have co30 := o3.cell 0 _ rfl; have co31 := o3.cell 1 _ rfl; have co32 := o3.cell 2 _ rfl; have fo4 := o4.free; have co40 := o4.cell 0 _ rfl; have co41 := o4.cell 1 _ rfl; have co42 := o4.cell 2 _ rfl
      go_wp2_with fail
      refine (HFX.out W (HX.out.below hB (Nat.le_refl _))).mono ?_
      rintro e1 W1 ⟨_, rfl, rfl, hb1⟩
      clear co30 co31 co32 fo3 co40 co41 co42 fo4
      have hsW1 : W.heap.size ≤ W1.heap.size := hb1.size; have hB := hB.trans (hb1.mono hB.size); have o3 := o3.below hb1 o3.lt; have o4 := o4.below hb1 o4.lt; have fo3 := o3.free; have co30 := o3.cell 0 _ rfl; have co31 := o3.cell 1 _ rfl; have co32 := o3.cell 2 _ rfl; have fo4 := o4.free; have co40 := o4.cell 0 _ rfl; have co41 := o4.cell 1 _ rfl; have co42 := o4.cell 2 _ rfl
      go_wp2_with fail
      refine (HFY.out W1 (HY.out.below hB (Nat.le_refl _))).mono ?_
      rintro e1 W2 ⟨_, rfl, rfl, hb2⟩
      clear co30 co31 co32 fo3 co40 co41 co42 fo4
      have hsW2 : W1.heap.size ≤ W2.heap.size := hb2.size; have hB := hB.trans (hb2.mono hB.size); have o3 := o3.below hb2 o3.lt; have o4 := o4.below hb2 o4.lt; have fo3 := o3.free; have co30 := o3.cell 0 _ rfl; have co31 := o3.cell 1 _ rfl; have co32 := o3.cell 2 _ rfl; have fo4 := o4.free; have co40 := o4.cell 0 _ rfl; have co41 := o4.cell 1 _ rfl; have co42 := o4.cell 2 _ rfl
      go_wp2_with fail
      refine (awake_spec W2).mono ?_
      rintro e1 WZ ⟨_, rfl, rfl, hbZ⟩
      have hB := hB.trans (hbZ.mono hB.size)
      go_wp2_with fail
      go_ret
      exact ⟨_, rfl, rfl, hB⟩
    · have HWX := Lib.hid (fun v w h => waves_spec v x w h (HFITX.out hx))
      have HWY := Lib.hid (fun v w h => waves_spec v y w h (HFITY.out hy))
      have HL6 := Lib.hid (And.intro (HLX.out hx) (HLY.out hy))
      obtain ⟨E, hE⟩ : ∃ E, mergeErr x.wv y.wv = E := ⟨_, rfl⟩
      obtain ⟨Z, hZ⟩ : ∃ Z, mergeRes x.wv y.wv = Z := ⟨_, rfl⟩
      have HBX := Lib.hid (Wd.bits HX.out)
      have HBY := Lib.hid (Wd.bits HY.out)
      have HM1 := Lib.hid (show ∀ va vb w, WvT w va x.wv → WvT w vb y.wv → Calls Tryz.prog 9 #[va, vb] w (Ret w (SweepRet E Z)) from fun va vb w h1 h2 => by have := merge_spec va vb x.wv y.wv 64 w h1 h2 HBX.out.1 HBY.out.1 (by omega); rwa [hE, hZ] at this)
      have HM2 := Lib.hid (show ∀ va vb w, WvT w va y.wv → WvT w vb x.wv → Calls Tryz.prog 9 #[va, vb] w (Ret w (SweepRet E Z)) from fun va vb w h1 h2 => by have := merge_spec va vb y.wv x.wv 64 w h1 h2 HBY.out.1 HBX.out.1 (by omega); rwa [mergeErr_comm, mergeRes_comm, hE, hZ] at this)
      have HS1 := Lib.hid (show ∀ va vb w, WvT w va Z → WvT w vb Z → Calls Tryz.prog 18 #[va, vb] w (Ret w fun _ v' => v' = .bool true) from fun va vb w h1 h2 => by subst hZ; exact sameWaves_yes va vb _ 64 w h1 h2 (mergeRes_lens _ _).1 (mergeRes_lens _ _).2 (mergeRes_bits HBX.out HBY.out).1 (mergeRes_bits HBX.out HBY.out).2.1 (mergeRes_bits HBX.out HBY.out).2.2 (by omega))
      have HEE := Lib.hid hE
      clear hE hZ
      rw [hx] at HFX
      rw [hy] at HFY
      clear hx hy HFITX HFITY HLX HLY
      go_enter Tryz.func4, Tryz.ntmps4
      go_upto_region 1 with (fail)
      obtain ⟨W, hW, o3, o4, hB, hS⟩ := boxes2 w 25 25 [.slice a0 n0 c0, .slice a1 n1 c1, .slice a2 n2 c2] [.slice b0 m0 d0, .slice b1 m1 d1, .slice b2 m2 d2]
      rw [← hW]
      clear hW
      have fo3 := o3.free; have co30 := o3.cell 0 _ rfl; have co31 := o3.cell 1 _ rfl; have co32 := o3.cell 2 _ rfl; have fo4 := o4.free; have co40 := o4.cell 0 _ rfl; have co41 := o4.cell 1 _ rfl; have co42 := o4.cell 2 _ rfl
      go_wp2_with fail
      refine (HFX.out W (HX.out.below hB (Nat.le_refl _))).mono ?_
      rintro e1 W1 ⟨_, rfl, rfl, hb1⟩
      clear co30 co31 co32 fo3 co40 co41 co42 fo4
      have hsW1 : W.heap.size ≤ W1.heap.size := hb1.size; have hB := hB.trans (hb1.mono hB.size); have o3 := o3.below hb1 o3.lt; have o4 := o4.below hb1 o4.lt; have fo3 := o3.free; have co30 := o3.cell 0 _ rfl; have co31 := o3.cell 1 _ rfl; have co32 := o3.cell 2 _ rfl; have fo4 := o4.free; have co40 := o4.cell 0 _ rfl; have co41 := o4.cell 1 _ rfl; have co42 := o4.cell 2 _ rfl
      go_wp2_with fail
      refine (HFY.out W1 (HY.out.below hB (Nat.le_refl _))).mono ?_
      rintro e1 W2 ⟨_, rfl, rfl, hb2⟩
      clear co30 co31 co32 fo3 co40 co41 co42 fo4
      have hsW2 : W1.heap.size ≤ W2.heap.size := hb2.size; have hB := hB.trans (hb2.mono hB.size); have o3 := o3.below hb2 o3.lt; have o4 := o4.below hb2 o4.lt; have fo3 := o3.free; have co30 := o3.cell 0 _ rfl; have co31 := o3.cell 1 _ rfl; have co32 := o3.cell 2 _ rfl; have fo4 := o4.free; have co40 := o4.cell 0 _ rfl; have co41 := o4.cell 1 _ rfl; have co42 := o4.cell 2 _ rfl
      clear co30 co31 co32 fo3 co40 co41 co42 fo4
      have fo3 := o3.free; have co30 := o3.cell 0 _ rfl; have co31 := o3.cell 1 _ rfl; have co32 := o3.cell 2 _ rfl
      go_wp2_with fail
      refine (HWX.out _ W2 (HX.out.below hB (Nat.le_refl _))).mono ?_
      rintro e1 W3 ⟨_, rfl, ⟨af, aa, ab, rr, rfl, haf, haa, hab, hqa⟩, hb3⟩
      clear co30 co31 co32 fo3
      have hsW3 : W2.heap.size ≤ W3.heap.size := hb3.size; have hB := hB.trans (hb3.mono hB.size); have o4 := o4.below hb3 o4.lt
      obtain ⟨z1, z2, z3, rfl⟩ := haf.shape
      obtain ⟨z4, z5, z6, rfl⟩ := haa.shape
      obtain ⟨z7, z8, z9, rfl⟩ := hab.shape
      obtain ⟨rf, ra, rb, rfl, hrf, hra, hrb⟩ := hqa
      obtain ⟨y1, y2, y3, rfl⟩ := hrf.shape
      obtain ⟨y4, y5, y6, rfl⟩ := hra.shape
      obtain ⟨y7, y8, y9, rfl⟩ := hrb.shape
      go_upto_region 4 with (fail)
      obtain ⟨V1, hV1, o7, o8, hBV1, hSV1⟩ := boxes2 W3 33 37 [.slice z1 z2 z3, .slice z4 z5 z6, .slice z7 z8 z9] [.slice y1 y2 y3, .slice y4 y5 y6, .slice y7 y8 y9]
      rw [← hV1]
      clear hV1 hrf hra hrb o8
      have hA : WvT V1 (.agg #[.slice z1 z2 z3, .slice z4 z5 z6, .slice z7 z8 z9]) x.wv := WvT.below ⟨_, _, _, rfl, haf.sl, haa.plain, hab.plain⟩ hBV1 (Nat.le_refl _)
      have hsV1 : W3.heap.size ≤ V1.heap.size := hBV1.size; have hB := hB.trans (hBV1.mono hB.size); have o4 := o4.below hBV1 o4.lt
      have hB1 := hB
      have o71 := o7
      clear haf haa hab
      have fo4 := o4.free; have co40 := o4.cell 0 _ rfl; have co41 := o4.cell 1 _ rfl; have co42 := o4.cell 2 _ rfl
      go_wp2_with fail
      refine (HWY.out _ V1 (HY.out.below hB (Nat.le_refl _))).mono ?_
      rintro e1 W4 ⟨_, rfl, ⟨bf, ba, bb, ss, rfl, hbf, hba, hbb, hqb⟩, hb4⟩
      clear co40 co41 co42 fo4 o4 o3
      have hsW4 : V1.heap.size ≤ W4.heap.size := hb4.size; have hB := hB.trans (hb4.mono hB.size); have o7 := o7.below hb4 o7.lt
      have hA4 := hA.below hb4 (Nat.le_refl _)
      obtain ⟨x1, x2, x3, rfl⟩ := hbf.shape
      obtain ⟨x4, x5, x6, rfl⟩ := hba.shape
      obtain ⟨x7, x8, x9, rfl⟩ := hbb.shape
      obtain ⟨sf, sa, sb, rfl, hsf, hsa, hsb⟩ := hqb
      obtain ⟨w1, w2, w3, rfl⟩ := hsf.shape
      obtain ⟨w4, w5, w6, rfl⟩ := hsa.shape
      obtain ⟨w7, w8, w9, rfl⟩ := hsb.shape
      go_upto_region 5 with (fail)
      obtain ⟨V2, hV2, o9, o10, hBV2, hSV2⟩ := boxes2 W4 33 37 [.slice x1 x2 x3, .slice x4 x5 x6, .slice x7 x8 x9] [.slice w1 w2 w3, .slice w4 w5 w6, .slice w7 w8 w9]
      rw [← hV2]
      clear hV2 hsf hsa hsb o10
      have hsV2 : W4.heap.size ≤ V2.heap.size := hBV2.size; have hB := hB.trans (hBV2.mono hB.size); have o7 := o7.below hBV2 o7.lt
      have hA5 := hA4.below hBV2 (Nat.le_refl _)
      have hbf2 := hbf.below hBV2 (Nat.le_refl _)
      have hba2 := hba.below hBV2 (Nat.le_refl _)
      have hbb2 := hbb.below hBV2 (Nat.le_refl _)
      have hBw : WvT V2 (.agg #[.slice x1 x2 x3, .slice x4 x5 x6, .slice x7 x8 x9]) y.wv := ⟨_, _, _, rfl, hbf2.sl, hba2.plain, hbb2.plain⟩
      clear hbf hba hbb hA4
      have fo7 := o7.free; have co70 := o7.cell 0 _ rfl; have co71 := o7.cell 1 _ rfl; have co72 := o7.cell 2 _ rfl; have fo9 := o9.free; have co90 := o9.cell 0 _ rfl; have co91 := o9.cell 1 _ rfl; have co92 := o9.cell 2 _ rfl
      go_wp2_with fail
      refine (HM1.out _ _ V2 hA5 hBw).mono ?_
      rintro e1 W5 ⟨_, rfl, ⟨_, rfl, hm1⟩, hb5⟩
      clear co70 co71 co72 fo7 co90 co91 co92 fo9
      have hsW5 : V2.heap.size ≤ W5.heap.size := hb5.size; have hB := hB.trans (hb5.mono hB.size); have o7 := o7.below hb5 o7.lt; have o9 := o9.below hb5 o9.lt
      have hAw := hA5.below hb5 (Nat.le_refl _)
      have hBw := hBw.below hb5 (Nat.le_refl _)
      have hbf := hbf2.below hb5 (Nat.le_refl _)
      have hba := hba2.below hb5 (Nat.le_refl _)
      have hbb := hbb2.below hb5 (Nat.le_refl _)
      clear hA5 hbf2 hba2 hbb2
      obtain ⟨mf, ma, mb, rfl, hm1a, hm1b, hm1c⟩ := hm1
      obtain ⟨p1, p2, p3, rfl⟩ := hm1a.shape
      obtain ⟨p4, p5, p6, rfl⟩ := hm1b.shape
      obtain ⟨p7, p8, p9, rfl⟩ := hm1c.shape
      go_upto_region 6 with (fail)
      obtain ⟨V3, hV3, o11, hBV3, hSV3⟩ := boxes1 W5 33 [.slice p1 p2 p3, .slice p4 p5 p6, .slice p7 p8 p9]
      rw [← hV3]
      clear hV3
      have hm1 : WvT V3 (.agg #[.slice p1 p2 p3, .slice p4 p5 p6, .slice p7 p8 p9]) Z := WvT.below ⟨_, _, _, rfl, hm1a, hm1b, hm1c⟩ hBV3 (Nat.le_refl _)
      have hsV3 : W5.heap.size ≤ V3.heap.size := hBV3.size; have hB := hB.trans (hBV3.mono hB.size); have o7 := o7.below hBV3 o7.lt; have o9 := o9.below hBV3 o9.lt
      have hAw := hAw.below hBV3 (Nat.le_refl _)
      have hBw := hBw.below hBV3 (Nat.le_refl _)
      have hbf := hbf.below hBV3 (Nat.le_refl _)
      have hba := hba.below hBV3 (Nat.le_refl _)
      have hbb := hbb.below hBV3 (Nat.le_refl _)
      clear hm1a hm1b hm1c
      have fo7 := o7.free; have co70 := o7.cell 0 _ rfl; have co71 := o7.cell 1 _ rfl; have co72 := o7.cell 2 _ rfl; have fo9 := o9.free; have co90 := o9.cell 0 _ rfl; have co91 := o9.cell 1 _ rfl; have co92 := o9.cell 2 _ rfl
      go_wp2_with fail
      refine (HM2.out _ _ V3 hBw hAw).mono ?_
      rintro e1 W6 ⟨_, rfl, ⟨_, rfl, hm2⟩, hb6⟩
      clear co70 co71 co72 fo7 co90 co91 co92 fo9
      have hsW6 : V3.heap.size ≤ W6.heap.size := hb6.size; have hB := hB.trans (hb6.mono hB.size); have o7 := o7.below hb6 o7.lt; have o9 := o9.below hb6 o9.lt; have o11 := o11.below hb6 o11.lt
      have hAw := hAw.below hb6 (Nat.le_refl _)
      have hBw := hBw.below hb6 (Nat.le_refl _)
      have hbf := hbf.below hb6 (Nat.le_refl _)
      have hba := hba.below hb6 (Nat.le_refl _)
      have hbb := hbb.below hb6 (Nat.le_refl _)
      have hm1 := hm1.below hb6 (Nat.le_refl _)
      obtain ⟨mf, ma, mb, rfl, hm2a, hm2b, hm2c⟩ := hm2
      obtain ⟨r1, r2, r3, rfl⟩ := hm2a.shape
      obtain ⟨r4, r5, r6, rfl⟩ := hm2b.shape
      obtain ⟨r7, r8, r9, rfl⟩ := hm2c.shape
      go_upto_region 7 with (fail)
      obtain ⟨V4, hV4, o13, hBV4, hSV4⟩ := boxes1 W6 33 [.slice r1 r2 r3, .slice r4 r5 r6, .slice r7 r8 r9]
      rw [← hV4]
      clear hV4
      have hm2 : WvT V4 (.agg #[.slice r1 r2 r3, .slice r4 r5 r6, .slice r7 r8 r9]) Z := WvT.below ⟨_, _, _, rfl, hm2a, hm2b, hm2c⟩ hBV4 (Nat.le_refl _)
      have hsV4 : W6.heap.size ≤ V4.heap.size := hBV4.size; have hB := hB.trans (hBV4.mono hB.size); have o7 := o7.below hBV4 o7.lt; have o9 := o9.below hBV4 o9.lt; have o11 := o11.below hBV4 o11.lt
      have hAw := hAw.below hBV4 (Nat.le_refl _)
      have hBw := hBw.below hBV4 (Nat.le_refl _)
      have hbf := hbf.below hBV4 (Nat.le_refl _)
      have hba := hba.below hBV4 (Nat.le_refl _)
      have hbb := hbb.below hBV4 (Nat.le_refl _)
      have hm1 := hm1.below hBV4 (Nat.le_refl _)
      clear hm2a hm2b hm2c
      have fo11 := o11.free; have co110 := o11.cell 0 _ rfl; have co111 := o11.cell 1 _ rfl; have co112 := o11.cell 2 _ rfl; have fo13 := o13.free; have co130 := o13.cell 0 _ rfl; have co131 := o13.cell 1 _ rfl; have co132 := o13.cell 2 _ rfl
      go_wp2_with fail
      refine (HS1.out _ _ V4 hm1 hm2).mono ?_
      rintro e1 W7 ⟨_, rfl, rfl, hb7⟩
      clear co110 co111 co112 fo11 co130 co131 co132 fo13 o11 o13 hm1 hm2
      have hsW7 : V4.heap.size ≤ W7.heap.size := hb7.size; have hB := hB.trans (hb7.mono hB.size); have o7 := o7.below hb7 o7.lt; have o9 := o9.below hb7 o9.lt
      have hAw := hAw.below hb7 (Nat.le_refl _)
      have hBw := hBw.below hb7 (Nat.le_refl _)
      have hbf := hbf.below hb7 (Nat.le_refl _)
      have hba := hba.below hb7 (Nat.le_refl _)
      have hbb := hbb.below hb7 (Nat.le_refl _)
      go_upto_region 9 with (fail)
      have HVX := Lib.hid (fun v w h => validWaves_spec v x.wv 64 w h HBX.out.1 (by omega))
      have HVY := Lib.hid (fun v w h => validWaves_spec v y.wv 64 w h HBY.out.1 (by omega))
      clear HFX HFY HWX HWY HM1 HM2 HS1
      by_cases hvx : vwB x.wv = true
      · by_cases hvy : vwB y.wv = true
        · obtain ⟨hn0, hn1, hna, hnb, -, -⟩ := vw_parts hvx
          obtain ⟨hm0, hm1, hma, hmb, -, -⟩ := vw_parts hvy
          have HXY := Lib.hid (And.intro hvx hvy)
          rw [hvx] at HVX
          rw [hvy] at HVY
          obtain ⟨A0, hA0⟩ : ∃ A0, x.wv.a[0]? = some A0 := ⟨_, List.getElem?_eq_getElem (by omega)⟩
          obtain ⟨B0, hB0⟩ : ∃ B0, y.wv.a[0]? = some B0 := ⟨_, List.getElem?_eq_getElem (by omega)⟩
          obtain ⟨ha1, ha2, ha3⟩ := hAw.parts
          obtain ⟨hb1', hb2', hb3'⟩ := hBw.parts
          obtain ⟨_, _, e, -, -⟩ := ha2.dims
          injection e with e1 e2 e3
          have hz5 : 0 < z5 := by rw [e2]; omega
          clear e1 e2 e3
          obtain ⟨_, _, e, -, -⟩ := hb2'.dims
          injection e with e1 e2 e3
          have hx5 : 0 < x5 := by rw [e2]; omega
          clear e1 e2 e3
          obtain ⟨b1, k1, a1, c1, rfl, l1, q1, -, -, -⟩ := ha2.mat hA0
          obtain ⟨b2, k2, a2, c2, rfl, l2, q2, -, -, -⟩ := hb2'.mat hB0
          rw [Nat.add_zero] at q1 q2
          obtain ⟨p, hp⟩ : ∃ p, A0.length = p := ⟨_, rfl⟩
          obtain ⟨q, hq⟩ : ∃ q, B0.length = q := ⟨_, rfl⟩
          rw [hp] at q1
          rw [hq] at q2
          have hd1 : (x.wv.a.getD 0 []).length = p := by rw [first_len hA0, hp]
          have hd2 : (y.wv.a.getD 0 []).length = q := by rw [first_len hB0, hq]
          refine only_of (mbreg9c W7 W3.heap.size W4.heap.size _ _ _ _ a1 a2 b1 k1 _ _ b2 k2 _ _ p q _ _ hz5 hx5 o7 o9 q1 q2 (fun W' hb => HVX.out _ W' (hAw.below hb (Nat.le_refl _))) (fun W' hb => HVY.out _ W' (hBw.below hb (Nat.le_refl _))) ?_)
          intro W8 z61 z62 z63 z64 z65 z66 z67 z68 z69 z70 z71 z72 z73 z74 z75 z76 z77 z78 z79 z80 hb8
          try simp only [Exit.then]
          by_cases hpq : p = q
          · subst hpq
            have hpq' : ((p : Int) != (p : Int)) = false := by simp
            rw [hpq']
            clear hpq' HEE HVX HVY q1 q2 l1 l2
            have hsW8 : W7.heap.size ≤ W8.heap.size := hb8.size; have hB := hB.trans (hb8.mono hB.size); have o7 := o7.below hb8 o7.lt; have o9 := o9.below hb8 o9.lt
            have hAw := hAw.below hb8 (Nat.le_refl _)
            have hbf := hbf.below hb8 (Nat.le_refl _)
            have hba := hba.below hb8 (Nat.le_refl _)
            have hbb := hbb.below hb8 (Nat.le_refl _)
            have hk := hb4
            have hk := hk.trans (hBV2.mono hk.size)
            have hk := hk.trans (hb5.mono hk.size)
            have hk := hk.trans (hBV3.mono hk.size)
            have hk := hk.trans (hb6.mono hk.size)
            have hk := hk.trans (hBV4.mono hk.size)
            have hk := hk.trans (hb7.mono hk.size)
            have hk := hk.trans (hb8.mono hk.size)
            clear hBw hAw
            obtain ⟨ha1, -, -⟩ := hA.parts
            obtain ⟨n1, hn1'⟩ : ∃ n1, x.wv.fr.length = n1 + 1 := ⟨x.wv.fr.length - 1, by omega⟩
            obtain ⟨t, ht⟩ : ∃ t, x.wv.fr[n1]? = some t := ⟨_, List.getElem?_eq_getElem (by omega)⟩
            have hl6 : n1 + 1 ≤ 6 := by have := HL6.out.1; rw [← hn1']; simpa [Wd.wv] using this
            have hm6 : y.wv.fr.length ≤ 6 := by have := HL6.out.2; simpa [Wd.wv] using this
            obtain ⟨_, _, e, -, -⟩ := ha1.dims
            injection e with e1 e2 e3
            obtain rfl : z2 = n1 + 1 := by rw [← hn1']; exact e2
            clear e1 e2 e3
            obtain ⟨b3, k3, s0, s2, c5, c7, c8, l5, m5, l7, m7, l8, m8, rfl, l3, hnt, t0, t1, t2, t3, t4⟩ := ha1.num ht
            replace t0 := (hk.cell l3).trans t0
            replace t1 := (hk.cell l3).trans t1
            replace t2 := (hk.cell l3).trans t2
            replace t3 := (hk.cell l3).trans t3
            replace t4 := (hk.cell l3).trans t4
            obtain ⟨gf, rfl, hgf1, hgf2, rfl, hgt⟩ := hbf.some hm0
            obtain ⟨m, hm⟩ : ∃ m, y.wv.fr.length = m := ⟨_, rfl⟩
            have hw1 : IntKind.i64.wrap (((n1 + 1 : Nat) : Int) - 1) = (n1 : Int) := by rw [IntKind.wrap_i64]; omega
            have hn1i : (n1 : Int) < ((n1 + 1 : Nat) : Int) := by omega
            have hn10 : (0 : Int) ≤ (n1 : Int) := by omega
            rw [hm]
            rw [hm] at o9 hbf hba hbb
            have HBS := Lib.hid (back (A := x.wv) (B := y.wv) (t := t) s HXY.out.1 HXY.out.2 (by rw [hd1, hd2]) (by omega) (by rw [hn1']; exact ht))
            have hgne := o9.notTy hgt (by decide)
            have HM := Lib.hid hm
            have HT := Lib.hid (HBX.out.1 t (List.mem_of_getElem? ht))
            rw [hm] at hm0 hm6
            clear hn0 hn1 hm1 hna hnb hma hmb hd1 hd2 hp hq hA0 hB0 ha2 ha3 hb1' hb2' hb3' ht hm
            have fo7 := o7.free; have co70 := o7.cell 0 _ rfl; have co71 := o7.cell 1 _ rfl; have co72 := o7.cell 2 _ rfl
            go_upto_region 12 with (fail)
            obtain ⟨V5, hV5, o15, hBV5, hSV5⟩ := boxes1 W8 51 [.bool s0, .slice c5 l5 m5, .bool s2, .slice c7 l7 m7, .slice c8 l8 m8]
            rw [← hV5]
            clear hV5
            clear co70 co71 co72 fo7 t0 t1 t2 t3 t4
            have h15 := Nat.ne_of_gt hgf2
            have hsV5 : W8.heap.size ≤ V5.heap.size := hBV5.size; have hB := hB.trans (hBV5.mono hB.size); have o7 := o7.below hBV5 o7.lt; have o9 := o9.below hBV5 o9.lt
            have hk := hk.trans (hBV5.mono hk.size)
            have hbf := hbf.below hBV5 (Nat.le_refl _)
            have hba := hba.below hBV5 (Nat.le_refl _)
            have hbb := hbb.below hBV5 (Nat.le_refl _)
            have hSt : BackSt V1.heap.size W4.heap.size W8.heap.size gf m x3 (.slice (some ⟨b2, k2, none⟩) x5 x6) (.slice x7 x8 x9) [.bool s0, .slice c5 l5 m5, .bool s2, .slice c7 l7 m7, .slice c8 l8 m8] ((y.wv.fr.map (shiftF t s)).take 0 ++ y.wv.fr.drop 0) y.wv V5 := ⟨hbf, hba, hbb, o9, o15⟩
            clear hbf hba hbb o15
            have o9' := o9
            have fo9 := o9.free; have co90 := o9.cell 0 _ rfl; have co91 := o9.cell 1 _ rfl; have co92 := o9.cell 2 _ rfl
            go_upto_region 13 with (fail)
            clear co90 co91 co92 fo9 o9 o9' o7 hB
            have h915 : gf ≠ W8.heap.size := fun e => h15 e.symm
            go_loopw [98] (fun sk wr => ∃ k : Nat, k ≤ m ∧ sk = .int .i64 (k : Int) ∧ BackSt V1.heap.size W4.heap.size W8.heap.size gf m x3 (.slice (some ⟨b2, k2, none⟩) x5 x6) (.slice x7 x8 x9) [.bool s0, .slice c5 l5 m5, .bool s2, .slice c7 l7 m7, .slice c8 l8 m8] ((y.wv.fr.map (shiftF t s)).take k ++ y.wv.fr.drop k) y.wv wr ∧ Below V1.heap.size V1 wr) (fun sk _ => m - (intOf sk).toNat)
            case atStart => exact ⟨0, Nat.zero_le _, rfl, hSt, hk⟩
            case round =>
              clear hSt hk
              obtain ⟨k, hkm, rfl, hSt, hk⟩ := hrel
              by_cases hlt : k < m
              · have hli : (k : Int) < (m : Int) := by omega
                obtain ⟨xk, hxk⟩ : ∃ xk, y.wv.fr[k]? = some xk := ⟨_, List.getElem?_eq_getElem (by have := HM.out; omega)⟩
                obtain ⟨e0, e2, f1, f3, f4, g1, j1, g3, j3, g4, j4, hxr, i0, i1, i2, i3, i4⟩ := hSt.row.num (sweep_at (shiftF t s) hxk)
                have KST := Lib.hid hSt
                have hll : ((y.wv.fr.map (shiftF t s)).take k ++ y.wv.fr.drop k).length = m := by simp [HM.out]; omega
                have hsx : Small 64 xk := HBY.out.1 xk (List.mem_of_getElem? hxk)
                have HXK := Lib.hid hxk
                clear hxk
                go_upto_region 15 with (fail)
                refine only_of (mbreg15 wr W4.heap.size W8.heap.size gf V1.heap.size m x3 k s 64 _ _ _ xk t e0 e2 f1 f3 f4 g1 j1 g3 j3 g4 j4 s0 s2 c5 c7 c8 l5 m5 l7 m7 l8 m8 hSt.row hll hSt.b9 hSt.b15 h915 hlt (by omega) hs hxr (hnt.below hk (Nat.le_refl _)) hsx HT.out (by omega) (by omega) ⟨i0, i1, i2, i3, i4⟩ ?_)
                clear hSt hxr i0 i1 i2 i3 i4 hsx
                intro W9 W10 y101 y102 y103 y104 y105 y106 y107 y108 y109 y110 y111 y112 y113 y114 y115 hb9 hg9 hr9 hb10
                try simp only [Exit.then]
                rw [sweep_set _ HXK.out] at hr9
                have hSt := KST.out.next hgne h15 hb9 hg9 hr9
                have hk := (hk.trans (hb9.mono hk.size)).trans hb10
                clear KST hr9 hg9 hb9 hb10
                go_wp2_with fail
                go_roundw
                case rel => first | exact ⟨k + 1, by omega, by go_num, hSt, hk⟩ | ((repeat apply Exists.intro); exact ⟨⟨k + 1, by omega, by go_num, hSt, hk⟩, rfl⟩)
                case measure => simp [intOf]; omega
              · obtain rfl : k = m := by omega
                have hli : ¬ (k : Int) < (k : Int) := by omega
                go_upto_region 17 with (fail)
      
                have hll : ((y.wv.fr.map (shiftF t s)).take k ++ y.wv.fr.drop k) = y.wv.fr.map (shiftF t s) := by rw [List.take_of_length_le (by rw [List.length_map]; exact Nat.le_of_eq HM.out), List.drop_of_length_le (Nat.le_of_eq HM.out), List.append_nil]
                rw [hll] at hSt
                clear hll
                obtain ⟨-, -, hla1, hla2, -, -⟩ := vw_parts HXY.out.1
                have hbSW : bitsW 1000 (shiftW y.wv t s) := shiftW_bits HBY.out HT.out hs
                have hbx : bitsW 1000 x.wv := HBX.out.mono (by omega)
                have hb1 : Small 1000 (cq 0 0 1) := (small_mk (k := 64) (by omega) (by omega) (by decide) (by decide)).mono (by omega)
                have htS : Small 1000 t := HT.out.mono (by omega)
                obtain ⟨hv0, hm3, hm3r, ⟨hc18, hc18r⟩, hc19⟩ := HBS.out
                obtain ⟨-, -, hlb1, hlb2, -, -⟩ := vw_parts hv0
                have hlf : (shiftW y.wv t s).fr.length = k := by show (y.wv.fr.map (shiftF t s)).length = k; rw [List.length_map]; exact HM.out
                obtain ⟨lo, hlo⟩ : ∃ lo, (shiftW y.wv t s).fr[0]? = some lo := ⟨_, List.getElem?_eq_getElem (by omega)⟩
                obtain ⟨hi, hhi⟩ : ∃ hi, (shiftW y.wv t s).fr[k - 1]? = some hi := ⟨_, List.getElem?_eq_getElem (by omega)⟩
                obtain ⟨hc19, hc19r⟩ := hc19 lo hi hlo (by rw [hlf]; exact hhi)
                have hloS := hbSW.1 lo (List.mem_of_getElem? hlo)
                have hhiS := hbSW.1 hi (List.mem_of_getElem? hhi)
                have hbZ : bitsW 1000 (Wv.of (x.wv.pts ++ (shiftW y.wv t s).pts)) := hm3r ▸ mergeRes_bits hbSW hbx
                obtain ⟨Z2, hZ2⟩ : ∃ Z2, Wv.of (x.wv.pts ++ (shiftW y.wv t s).pts) = Z2 := ⟨_, rfl⟩
                rw [hZ2] at hm3r hc18 hc18r hc19 hc19r hbZ
                obtain ⟨sw, hsw⟩ : ∃ sw, shiftW y.wv t s = sw := ⟨_, rfl⟩
                have hswf : y.wv.fr.map (shiftF t s) = sw.fr := by rw [← hsw]; rfl
                have hswa : y.wv.a = sw.a := by rw [← hsw]; rfl
                have hswb : y.wv.b = sw.b := by rw [← hsw]; rfl
                rw [hsw] at hbSW hm3 hm3r hlb1 hlb2 hlf hlo hhi hc19r
                have HSTW := Lib.hid (show ∀ w', BackSt V1.heap.size W4.heap.size W8.heap.size gf k x3 (.slice (some ⟨b2, k2, none⟩) x5 x6) (.slice x7 x8 x9) [.bool s0, .slice c5 l5 m5, .bool s2, .slice c7 l7 m7, .slice c8 l8 m8] (y.wv.fr.map (shiftF t s)) y.wv w' → WvT w' (.agg #[.slice (some ⟨gf, 0, none⟩) k x3, .slice (some ⟨b2, k2, none⟩) x5 x6, .slice x7 x8 x9]) sw from fun w' h => ⟨_, _, _, rfl, hswf ▸ NumRow.sl h.row, hswa ▸ h.ma.plain, hswb ▸ h.mb.plain⟩)
                have HM3 := Lib.hid (show ∀ va vb w, WvT w va sw → WvT w vb x.wv → Calls Tryz.prog 9 #[va, vb] w (Ret w (SweepRet 0 Z2)) from fun va vb w h1 h2 => by have := merge_spec va vb sw x.wv 1000 w h1 h2 hbSW.1 hbx.1 (by omega); rwa [hm3, hm3r] at this)
                have HC18 := Lib.hid (show ∀ va vl vh w, WvT w va Z2 → NumRep w vl (cq 0 0 1) → NumRep w vh t → Calls Tryz.prog 11 #[va, vl, vh] w (Ret w (SweepRet 0 x.wv)) from fun va vl vh w h1 h2 h3 => by have := cut_spec va vl vh Z2 (cq 0 0 1) t 1000 w h1 h2 h3 hbZ.1 hb1 htS (by omega); rwa [hc18, hc18r] at this)
                have HC19 := Lib.hid (show ∀ va vl vh w, WvT w va Z2 → NumRep w vl lo → NumRep w vh hi → Calls Tryz.prog 11 #[va, vl, vh] w (Ret w (SweepRet 0 sw)) from fun va vl vh w h1 h2 h3 => by have := cut_spec va vl vh Z2 lo hi 1000 w h1 h2 h3 hbZ.1 hloS hhiS (by omega); rwa [hc19, hc19r] at this)
                have HSP := Lib.hid (show ∀ va vb w, WvT w va x.wv → WvT w vb x.wv → Calls Tryz.prog 18 #[va, vb] w (Ret w fun _ v' => v' = .bool true) from fun va vb w h1 h2 => sameWaves_yes va vb x.wv 1000 w h1 h2 hla1 hla2 hbx.1 hbx.2.1 hbx.2.2 (by omega))
                have HSQ := Lib.hid (show ∀ va vb w, WvT w va sw → WvT w vb sw → Calls Tryz.prog 18 #[va, vb] w (Ret w fun _ v' => v' = .bool true) from fun va vb w h1 h2 => sameWaves_yes va vb sw 1000 w h1 h2 hlb1 hlb2 hbSW.1 hbSW.2.1 hbSW.2.2 (by omega))
                have HLO := Lib.hid (show (y.wv.fr.map (shiftF t s))[0]? = some lo ∧ (y.wv.fr.map (shiftF t s))[k - 1]? = some hi by rw [hswf]; exact ⟨hlo, hhi⟩)
                clear hbSW hbx hb1 htS hv0 hm3 hm3r hc18 hc18r hc19 hc19r hlf hlo hhi hloS hhiS hbZ hZ2 hsw hswf hswa hswb hla1 hla2 hlb1 hlb2 HBS HT HXY HBX HBY
                have hAw := hA.below hk (Nat.le_refl _)
                have hnt := hnt.below hk (Nat.le_refl _)
                have o7 := o71.below hk o71.lt
                have o9 := hSt.b9
                have hB := hB1.trans (hk.mono hB1.size)
                clear hk hA o71 hB1
                have fo7 := o7.free; have co70 := o7.cell 0 _ rfl; have co71 := o7.cell 1 _ rfl; have co72 := o7.cell 2 _ rfl; have fo9 := o9.free; have co90 := o9.cell 0 _ rfl; have co91 := o9.cell 1 _ rfl; have co92 := o9.cell 2 _ rfl
                go_wp2_with fail
                refine (HM3.out _ _ wr (HSTW.out _ hSt) hAw).mono ?_
                rintro e1 W9 ⟨_, rfl, ⟨_, rfl, hz⟩, hb9⟩
                clear co70 co71 co72 fo7 co90 co91 co92 fo9 o9
                have hsW9 : wr.heap.size ≤ W9.heap.size := hb9.size; have hB := hB.trans (hb9.mono hB.size); have o7 := o7.below hb9 o7.lt
                have hAw := hAw.below hb9 (Nat.le_refl _)
                have hnt := hnt.below hb9 (Nat.le_refl _)
                have hSt := hSt.below hb9
                obtain ⟨mf, ma, mb, rfl, hm1a, hm1b, hm1c⟩ := hz
                obtain ⟨d1, d2, d3, rfl⟩ := hm1a.shape
                obtain ⟨d4, d5, d6, rfl⟩ := hm1b.shape
                obtain ⟨d7, d8, d9, rfl⟩ := hm1c.shape
                go_upto_region 18 with (fail)
                obtain ⟨V6, hV6, o17, hBV6, hSV6⟩ := boxes1 W9 33 [.slice d1 d2 d3, .slice d4 d5 d6, .slice d7 d8 d9]
                rw [← hV6]
                clear hV6
                have hz : WvT V6 (.agg #[.slice d1 d2 d3, .slice d4 d5 d6, .slice d7 d8 d9]) Z2 := WvT.below ⟨_, _, _, rfl, hm1a, hm1b, hm1c⟩ hBV6 (Nat.le_refl _)
                have hsV6 : W9.heap.size ≤ V6.heap.size := hBV6.size; have hB := hB.trans (hBV6.mono hB.size); have o7 := o7.below hBV6 o7.lt
                have hAw := hAw.below hBV6 (Nat.le_refl _)
                have hnt := hnt.below hBV6 (Nat.le_refl _)
                have hSt := hSt.below hBV6
                clear hm1a hm1b hm1c
                have o15 := hSt.b15
                refine only_of (mbreg18 V6 W8.heap.size W9.heap.size 0 _ _ _ x.wv s0 s2 c5 c7 c8 l5 m5 l7 m7 l8 m8 o17 o15 (fun W' hb v1 h1 => HC18.out _ _ _ W' (hz.below hb (Nat.le_refl _)) h1 (hnt.below hb (Nat.le_refl _))) ?_)
                clear o15 HM3 HC18 hnt
                intro W10 g18 e11 e12 e13 x123 x124 x125 x126 x127 x128 x129 o18 hp18 hb10 hg18
                try simp only [Exit.then]
                have hsW10 : V6.heap.size ≤ W10.heap.size := hb10.size; have hB := hB.trans (hb10.mono hB.size); have o7 := o7.below hb10 o7.lt; have o17 := o17.below hb10 o17.lt
                have hAw := hAw.below hb10 (Nat.le_refl _)
                have hz := hz.below hb10 (Nat.le_refl _)
                have hSt := hSt.below hb10
                obtain ⟨e0, e2, f1, f3, f4, g1, j1, g3, j3, g4, j4, hlor, i0, i1, i2, i3, i4⟩ := hSt.row.num HLO.out.1
                obtain ⟨ee0, ee2, ff1, ff3, ff4, gg1, jj1, gg3, jj3, gg4, jj4, hhir, ii0, ii1, ii2, ii3, ii4⟩ := hSt.row.num HLO.out.2
                have o9 := hSt.b9
                have hk1 : k = k - 1 + 1 := by omega
                obtain ⟨k1', hk1'⟩ : ∃ k', k - 1 = k' := ⟨_, rfl⟩
                rw [hk1'] at hk1 ii0 ii1 ii2 ii3 ii4
                simp only [Nat.zero_mul, Nat.zero_add] at i0 i1 i2 i3 i4
                go_upto_region 19 with (fail)
                refine only_of (mbreg19 W10 W4.heap.size W9.heap.size gf k k1' x3 0 _ _ _ sw e0 e2 f1 f3 f4 g1 j1 g3 j3 g4 j4 ee0 ee2 ff1 ff3 ff4 gg1 jj1 gg3 jj3 gg4 jj4 hk1 (by omega) (o17.cell 0 _ rfl) (o17.cell 1 _ rfl) (o17.cell 2 _ rfl) (o9.cell 0 _ rfl) i0 i1 i2 i3 i4 ii0 ii1 ii2 ii3 ii4 (fun W' hb => HC19.out _ _ _ W' (hz.below hb (Nat.le_refl _)) (hlor.below hb (Nat.le_refl _)) (hhir.below hb (Nat.le_refl _))) ?_)
                clear i0 i1 i2 i3 i4 ii0 ii1 ii2 ii3 ii4 hlor hhir HC19 o17 hz o9 hk1 hk1'
                intro W11 g19 d11 d12 d13 x130 x131 x132 x133 x134 x135 x136 x137 x138 x139 x140 x141 x142 x143 x144 x145 x146 o19 hp19 hb11 hg19
                try simp only [Exit.then]
                have hsW11 : W10.heap.size ≤ W11.heap.size := hb11.size; have hB := hB.trans (hb11.mono hB.size); have o7 := o7.below hb11 o7.lt; have o18 := o18.below hb11 o18.lt
                have hAw := hAw.below hb11 (Nat.le_refl _)
                have hp18 := hp18.below hb11 (Nat.le_refl _)
                have hSt := hSt.below hb11
                have o9 := hSt.b9
                have hSW := HSTW.out _ hSt
                have fo7 := o7.free; have co70 := o7.cell 0 _ rfl; have co71 := o7.cell 1 _ rfl; have co72 := o7.cell 2 _ rfl; have fo18 := o18.free; have co180 := o18.cell 0 _ rfl; have co181 := o18.cell 1 _ rfl; have co182 := o18.cell 2 _ rfl; have fo19 := o19.free; have co190 := o19.cell 0 _ rfl; have co191 := o19.cell 1 _ rfl; have co192 := o19.cell 2 _ rfl; have fo9 := o9.free; have co90 := o9.cell 0 _ rfl; have co91 := o9.cell 1 _ rfl; have co92 := o9.cell 2 _ rfl
                go_wp2_with fail
                refine (HSP.out _ _ W11 hp18 hAw).mono ?_
                rintro e1 W12 ⟨_, rfl, rfl, hb12⟩
                clear co70 co71 co72 fo7 co180 co181 co182 fo18 co190 co191 co192 fo19 co90 co91 co92 fo9 o7 o18 hp18 hAw
                have hsW12 : W11.heap.size ≤ W12.heap.size := hb12.size; have hB := hB.trans (hb12.mono hB.size); have o9 := o9.below hb12 o9.lt; have o19 := o19.below hb12 o19.lt
                have hp19 := hp19.below hb12 (Nat.le_refl _)
                have hSW := hSW.below hb12 (Nat.le_refl _)
                have fo19 := o19.free; have co190 := o19.cell 0 _ rfl; have co191 := o19.cell 1 _ rfl; have co192 := o19.cell 2 _ rfl; have fo9 := o9.free; have co90 := o9.cell 0 _ rfl; have co91 := o9.cell 1 _ rfl; have co92 := o9.cell 2 _ rfl
                go_wp2_with fail
                refine (HSQ.out _ _ W12 hp19 hSW).mono ?_
                rintro e1 W13 ⟨_, rfl, rfl, hb13⟩
                clear co190 co191 co192 fo19 co90 co91 co92 fo9 o9 o19 hp19 hSW
                have hsW13 : W12.heap.size ≤ W13.heap.size := hb13.size; have hB := hB.trans (hb13.mono hB.size)
                go_wp2_with fail
                refine (awake_spec W13).mono ?_
                rintro e1 WZ ⟨_, rfl, rfl, hbZ⟩
                have hB := hB.trans (hbZ.mono hB.size)
                go_wp2_with fail
                go_ret
                exact ⟨_, rfl, rfl, hB⟩
          · have hpq' : ((p : Int) != (q : Int)) = true := by rw [bne_iff_ne]; omega
            rw [hpq']
            have hE4 : E = 1 ∨ E = 4 := HEE.out ▸ mergeErr_bad (fun h => hpq (by rw [← hd1, ← hd2]; exact h.2.2))
            have hsW8 : W7.heap.size ≤ W8.heap.size := hb8.size; have hB := hB.trans (hb8.mono hB.size)
            clear o7 o9 hAw hBw hbf hba hbb HVX HVY HEE
            rcases hE4 with rfl | rfl
            all_goals
              go_wp2_with fail
              refine (awake_spec W8).mono ?_
              rintro e1 WZ ⟨_, rfl, rfl, hbZ⟩
              have hB := hB.trans (hbZ.mono hB.size)
              go_wp2_with fail
              go_ret
              exact ⟨_, rfl, rfl, hB⟩
        · have hvy' : vwB y.wv = false := by simpa using hvy
          rw [hvx] at HVX
          rw [hvy'] at HVY
          refine only_of (mbreg9b W7 W3.heap.size W4.heap.size _ _ _ _ _ _ o7 o9 (fun W' hb => HVX.out _ W' (hAw.below hb (Nat.le_refl _))) (fun W' hb => HVY.out _ W' (hBw.below hb (Nat.le_refl _))) ?_)
          intro W8 z61 z62 z63 z64 z65 z66 z67 z68 z69 z70 z71 z72 z73 z74 z75 z76 z77 z78 z79 z80 hb8
          try simp only [Exit.then]
          have hE4 : E = 1 ∨ E = 4 := HEE.out ▸ mergeErr_bad (fun h => hvy h.2.1)
          have hsW8 : W7.heap.size ≤ W8.heap.size := hb8.size; have hB := hB.trans (hb8.mono hB.size)
          clear o7 o9 hAw hBw hbf hba hbb HVX HVY HEE
          rcases hE4 with rfl | rfl
          all_goals
            go_wp2_with fail
            refine (awake_spec W8).mono ?_
            rintro e1 WZ ⟨_, rfl, rfl, hbZ⟩
            have hB := hB.trans (hbZ.mono hB.size)
            go_wp2_with fail
            go_ret
            exact ⟨_, rfl, rfl, hB⟩
      · have hvx' : vwB x.wv = false := by simpa using hvx
        rw [hvx'] at HVX
        refine only_of (mbreg9a W7 W3.heap.size W4.heap.size _ _ _ _ _ _ o7 o9 (fun W' hb => HVX.out _ W' (hAw.below hb (Nat.le_refl _))) ?_)
        intro W8 z61 z62 z63 z64 z65 z66 z67 z68 z69 z70 z71 z72 z73 z74 z75 z76 z77 z78 z79 z80 hb8
        try simp only [Exit.then]
        have hE4 : E = 1 ∨ E = 4 := HEE.out ▸ mergeErr_bad (fun h => hvx h.1)
        have hsW8 : W7.heap.size ≤ W8.heap.size := hb8.size; have hB := hB.trans (hb8.mono hB.size)
        clear o7 o9 hAw hBw hbf hba hbb HVX HVY HEE
        rcases hE4 with rfl | rfl
        all_goals
          go_wp2_with fail
          refine (awake_spec W8).mono ?_
          rintro e1 WZ ⟨_, rfl, rfl, hbZ⟩
          have hB := hB.trans (hbZ.mono hB.size)
          go_wp2_with fail
          go_ret
          exact ⟨_, rfl, rfl, hB⟩
end Go.Proofs.YtpnfdlnhmhekeaaGreat
