/- RecordMerges, whatever the sweeps and the bounds. Conditions: none. -/
import Derived.Test.YtpnfdlnhmhekeaaGreatMKept
import Derived.Test.YtpnfdlnhmhekeaaGreatMMgR
set_option linter.all false
namespace Go.Proofs.YtpnfdlnhmhekeaaGreat
open Go.RowKit
set_option maxRecDepth 100000 in
set_option maxHeartbeats 6400000 in
theorem recordMerges_spec (v0 v1 : Value) (x y : Wd) (lo hi : Rt) (w : World) (h0 : WdRep w v0 x) (h1 : WdRep w v1 y) (hlo : lo.ok) (hhi : hi.ok) :
    Calls Tryz.prog 3 #[v0, v1, .agg #[.int .i64 lo.re, .int .i64 lo.im, .int .i64 lo.den], .agg #[.int .i64 hi.re, .int .i64 hi.im, .int .i64 hi.den]] w (Ret w fun _ v' => v' = .bool true) := by
  have HX := Lib.hid h0
  have HY := Lib.hid h1
  have HFX := Lib.hid (fun w h => fewWaves_spec v0 x w h)
  have HFY := Lib.hid (fun w h => fewWaves_spec v1 y w h)
  have HFITX := Lib.hid (few_fit (x := x))
  have HFITY := Lib.hid (few_fit (x := y))
  obtain ⟨vf, va, vb, rfl, q0, q1, q2⟩ := h0
  obtain ⟨uf, ua, ub, rfl, r0, r1, r2⟩ := h1
  obtain ⟨a0, n0, c0, rfl, -⟩ := q0.open
  obtain ⟨a1, n1, c1, rfl, -⟩ := q1.open
  obtain ⟨a2, n2, c2, rfl, -⟩ := q2.open
  obtain ⟨b0, m0, d0, rfl, -⟩ := r0.open
  obtain ⟨b1, m1, d1, rfl, -⟩ := r1.open
  obtain ⟨b2, m2, d2, rfl, -⟩ := r2.open
  clear q0 q1 q2 r0 r1 r2
  cases hx : fewB x
  · rw [hx] at HFX
    clear hx HFITX HFITY
    go_enter Tryz.func3, Tryz.ntmps3
    go_upto_region 1 with (fail)
    obtain ⟨W, hW, o4, o5, o6, o7, hB, hS⟩ := boxes4 w 25 25 27 27 [.slice a0 n0 c0, .slice a1 n1 c1, .slice a2 n2 c2] [.slice b0 m0 d0, .slice b1 m1 d1, .slice b2 m2 d2] [.int .i64 lo.re, .int .i64 lo.im, .int .i64 lo.den] [.int .i64 hi.re, .int .i64 hi.im, .int .i64 hi.den]
    rw [← hW]
    clear hW hS
    have fo4 := o4.free; have co40 := o4.cell 0 _ rfl; have co41 := o4.cell 1 _ rfl; have co42 := o4.cell 2 _ rfl; have fo5 := o5.free; have co50 := o5.cell 0 _ rfl; have co51 := o5.cell 1 _ rfl; have co52 := o5.cell 2 _ rfl
    go_wp2_with fail
    refine (HFX.out W (HX.out.below hB lr)).mono ?_
    rintro e1 W1 ⟨_, rfl, rfl, hb1⟩
    clear co40 co41 co42 fo4 co50 co51 co52 fo5
    have hsW1 : W.heap.size ≤ W1.heap.size := hb1.size; have hB := hB.trans (hb1.mono hB.size); have o4 := o4.below hb1 o4.lt; have o5 := o5.below hb1 o5.lt; have o6 := o6.below hb1 o6.lt; have o7 := o7.below hb1 o7.lt; have fo4 := o4.free; have co40 := o4.cell 0 _ rfl; have co41 := o4.cell 1 _ rfl; have co42 := o4.cell 2 _ rfl; have fo5 := o5.free; have co50 := o5.cell 0 _ rfl; have co51 := o5.cell 1 _ rfl; have co52 := o5.cell 2 _ rfl
    go_wp2_with fail
    refine (awake_spec W1).mono ?_
    rintro e1 WZ ⟨_, rfl, rfl, hbZ⟩
    have hB := hB.trans (hbZ.mono hB.size)
    go_wp2_with fail
    go_ret
    exact ⟨_, rfl, rfl, hB⟩
  · cases hy : fewB y
    · rw [hx] at HFX
      rw [hy] at HFY
      clear hx hy HFITX HFITY
      go_enter Tryz.func3, Tryz.ntmps3
      go_upto_region 1 with (fail)
      obtain ⟨W, hW, o4, o5, o6, o7, hB, hS⟩ := boxes4 w 25 25 27 27 [.slice a0 n0 c0, .slice a1 n1 c1, .slice a2 n2 c2] [.slice b0 m0 d0, .slice b1 m1 d1, .slice b2 m2 d2] [.int .i64 lo.re, .int .i64 lo.im, .int .i64 lo.den] [.int .i64 hi.re, .int .i64 hi.im, .int .i64 hi.den]
      rw [← hW]
      clear hW hS
      have fo4 := o4.free; have co40 := o4.cell 0 _ rfl; have co41 := o4.cell 1 _ rfl; have co42 := o4.cell 2 _ rfl; have fo5 := o5.free; have co50 := o5.cell 0 _ rfl; have co51 := o5.cell 1 _ rfl; have co52 := o5.cell 2 _ rfl
      go_wp2_with fail
      refine (HFX.out W (HX.out.below hB lr)).mono ?_
      rintro e1 W1 ⟨_, rfl, rfl, hb1⟩
      clear co40 co41 co42 fo4 co50 co51 co52 fo5
      have hsW1 : W.heap.size ≤ W1.heap.size := hb1.size; have hB := hB.trans (hb1.mono hB.size); have o4 := o4.below hb1 o4.lt; have o5 := o5.below hb1 o5.lt; have o6 := o6.below hb1 o6.lt; have o7 := o7.below hb1 o7.lt; have fo4 := o4.free; have co40 := o4.cell 0 _ rfl; have co41 := o4.cell 1 _ rfl; have co42 := o4.cell 2 _ rfl; have fo5 := o5.free; have co50 := o5.cell 0 _ rfl; have co51 := o5.cell 1 _ rfl; have co52 := o5.cell 2 _ rfl
      go_wp2_with fail
      refine (HFY.out W1 (HY.out.below hB lr)).mono ?_
      rintro e1 W2 ⟨_, rfl, rfl, hb2⟩
      clear co40 co41 co42 fo4 co50 co51 co52 fo5
      have hsW2 : W1.heap.size ≤ W2.heap.size := hb2.size; have hB := hB.trans (hb2.mono hB.size); have o4 := o4.below hb2 o4.lt; have o5 := o5.below hb2 o5.lt; have o6 := o6.below hb2 o6.lt; have o7 := o7.below hb2 o7.lt; have fo4 := o4.free; have co40 := o4.cell 0 _ rfl; have co41 := o4.cell 1 _ rfl; have co42 := o4.cell 2 _ rfl; have fo5 := o5.free; have co50 := o5.cell 0 _ rfl; have co51 := o5.cell 1 _ rfl; have co52 := o5.cell 2 _ rfl
      go_wp2_with fail
      refine (awake_spec W2).mono ?_
      rintro e1 WZ ⟨_, rfl, rfl, hbZ⟩
      have hB := hB.trans (hbZ.mono hB.size)
      go_wp2_with fail
      go_ret
      exact ⟨_, rfl, rfl, hB⟩
    · have HWX := Lib.hid (fun v w h => waves_spec v x w h (HFITX.out hx))
      have HWY := Lib.hid (fun v w h => waves_spec v y w h (HFITY.out hy))
      have HBX := Lib.hid (okW_wd HX.out (HFITX.out hx))
      have HBY := Lib.hid (okW_wd HY.out (HFITY.out hy))
      have HLO := Lib.hid (Rt.small hlo)
      have HHI := Lib.hid (Rt.small hhi)
      obtain ⟨E, hE⟩ : ∃ E, mergeErr x.wv y.wv = E := ⟨_, rfl⟩
      obtain ⟨Z, hZ⟩ : ∃ Z, mergeRes x.wv y.wv = Z := ⟨_, rfl⟩
      obtain ⟨E2, hE2⟩ : ∃ E, cutErr x.wv lo.q hi.q = E := ⟨_, rfl⟩
      obtain ⟨Z2, hZ2⟩ : ∃ Z, cutRes x.wv lo.q hi.q = Z := ⟨_, rfl⟩
      obtain ⟨b1', hb1'⟩ : ∃ b, vwB x.wv = b := ⟨_, rfl⟩
      obtain ⟨b2', hb2'⟩ : ∃ b, vwB y.wv = b := ⟨_, rfl⟩
      have HM1 := Lib.hid (show ∀ va vb w, WvT w va x.wv → WvT w vb y.wv → Calls Tryz.prog 9 #[va, vb] w (Ret w (SweepRet E Z)) from fun va vb w h1 h2 => by have := merge_spec va vb x.wv y.wv 64 w h1 h2 HBX.out.1.2 HBY.out.1.2 (by omega); rwa [hE, hZ] at this)
      have HM2 := Lib.hid (show ∀ va vb w, QvT w va x.wv → QvT w vb y.wv → Calls Tryz.prog 10 #[va, vb] w (Ret w (SweepRetQ E Z)) from fun va vb w h1 h2 => by have := rmerge_spec va vb x.wv y.wv 64 w h1 h2 HBX.out.1.2 HBY.out.1.2 (by omega); rwa [hE, hZ] at this)
      have HC1 := Lib.hid (show ∀ va vl vh w, WvT w va x.wv → NumRep w vl lo.q → NumRep w vh hi.q → Calls Tryz.prog 11 #[va, vl, vh] w (Ret w (SweepRet E2 Z2)) from fun va vl vh w h1 h2 h3 => by have := cut_spec va vl vh x.wv lo.q hi.q 64 w h1 h2 h3 HBX.out.1.2 HLO.out HHI.out (by omega); rwa [hE2, hZ2] at this)
      have HC2 := Lib.hid (show ∀ va vl vh w, QvT w va x.wv → QRep w vl lo.q → QRep w vh hi.q → Calls Tryz.prog 13 #[va, vl, vh] w (Ret w (SweepRetQ E2 Z2)) from fun va vl vh w h1 h2 h3 => by have := rcut_spec va vl vh x.wv lo.q hi.q 64 w h1 h2 h3 HBX.out.1.2 HLO.out HHI.out (by omega); rwa [hE2, hZ2] at this)
      have HV1 := Lib.hid (show ∀ va w, WvT w va x.wv → Calls Tryz.prog 15 #[va] w (Ret w fun _ v' => v' = .bool b1') from fun va w h1 => by have := validWaves_spec va x.wv 64 w h1 HBX.out.1.2 (by omega); rwa [hb1'] at this)
      have HV2 := Lib.hid (show ∀ va w, WvT w va y.wv → Calls Tryz.prog 15 #[va] w (Ret w fun _ v' => v' = .bool b2') from fun va w h1 => by have := validWaves_spec va y.wv 64 w h1 HBY.out.1.2 (by omega); rwa [hb2'] at this)
      have HQ1 := Lib.hid (show ∀ va w, QvT w va x.wv → Calls Tryz.prog 16 #[va] w (Ret w fun _ v' => v' = .bool b1') from fun va w h1 => by have := qvalidWaves_spec va x.wv 64 w h1 HBX.out.1.2 (by omega); rwa [hb1'] at this)
      have HQ2 := Lib.hid (show ∀ va w, QvT w va y.wv → Calls Tryz.prog 16 #[va] w (Ret w fun _ v' => v' = .bool b2') from fun va w h1 => by have := qvalidWaves_spec va y.wv 64 w h1 HBY.out.1.2 (by omega); rwa [hb2'] at this)
      have HAW1 := Lib.hid (show ∀ va vb w, WvT w va Z → QvT w vb Z → Calls Tryz.prog 17 #[va, vb] w (Ret w fun _ v' => v' = .bool true) from fun va vb w h1 h2 => areWaves_spec va vb Z 64 w h1 h2 (hZ ▸ okW_merge HBX.out HBY.out) (by omega))
      have HAW2 := Lib.hid (show ∀ va vb w, WvT w va Z2 → QvT w vb Z2 → Calls Tryz.prog 17 #[va, vb] w (Ret w fun _ v' => v' = .bool true) from fun va vb w h1 h2 => areWaves_spec va vb Z2 64 w h1 h2 (hZ2 ▸ okW_cut HBX.out) (by omega))
      clear hE hZ hE2 hZ2 hb1' hb2'
      rw [hx] at HFX
      rw [hy] at HFY
      clear hx hy HFITX HFITY
      go_enter Tryz.func3, Tryz.ntmps3
      go_upto_region 1 with (fail)
      obtain ⟨W, hW, o4, o5, o6, o7, hB, hS⟩ := boxes4 w 25 25 27 27 [.slice a0 n0 c0, .slice a1 n1 c1, .slice a2 n2 c2] [.slice b0 m0 d0, .slice b1 m1 d1, .slice b2 m2 d2] [.int .i64 lo.re, .int .i64 lo.im, .int .i64 lo.den] [.int .i64 hi.re, .int .i64 hi.im, .int .i64 hi.den]
      rw [← hW]
      clear hW hS
      have fo4 := o4.free; have co40 := o4.cell 0 _ rfl; have co41 := o4.cell 1 _ rfl; have co42 := o4.cell 2 _ rfl; have fo5 := o5.free; have co50 := o5.cell 0 _ rfl; have co51 := o5.cell 1 _ rfl; have co52 := o5.cell 2 _ rfl
      go_wp2_with fail
      refine (HFX.out W (HX.out.below hB lr)).mono ?_
      rintro e1 W1 ⟨_, rfl, rfl, hb1⟩
      clear co40 co41 co42 fo4 co50 co51 co52 fo5
      have hsW1 : W.heap.size ≤ W1.heap.size := hb1.size; have hB := hB.trans (hb1.mono hB.size); have o4 := o4.below hb1 o4.lt; have o5 := o5.below hb1 o5.lt; have o6 := o6.below hb1 o6.lt; have o7 := o7.below hb1 o7.lt; have fo4 := o4.free; have co40 := o4.cell 0 _ rfl; have co41 := o4.cell 1 _ rfl; have co42 := o4.cell 2 _ rfl; have fo5 := o5.free; have co50 := o5.cell 0 _ rfl; have co51 := o5.cell 1 _ rfl; have co52 := o5.cell 2 _ rfl
      go_wp2_with fail
      refine (HFY.out W1 (HY.out.below hB lr)).mono ?_
      rintro e1 W2 ⟨_, rfl, rfl, hb2⟩
      clear co40 co41 co42 fo4 co50 co51 co52 fo5
      have hsW2 : W1.heap.size ≤ W2.heap.size := hb2.size; have hB := hB.trans (hb2.mono hB.size); have o4 := o4.below hb2 o4.lt; have o5 := o5.below hb2 o5.lt; have o6 := o6.below hb2 o6.lt; have o7 := o7.below hb2 o7.lt; have fo4 := o4.free; have co40 := o4.cell 0 _ rfl; have co41 := o4.cell 1 _ rfl; have co42 := o4.cell 2 _ rfl; have fo5 := o5.free; have co50 := o5.cell 0 _ rfl; have co51 := o5.cell 1 _ rfl; have co52 := o5.cell 2 _ rfl
      clear co40 co41 co42 fo4 co50 co51 co52 fo5
      have fo4 := o4.free; have co40 := o4.cell 0 _ rfl; have co41 := o4.cell 1 _ rfl; have co42 := o4.cell 2 _ rfl
      go_wp2_with fail
      refine (HWX.out _ W2 (HX.out.below hB lr)).mono ?_
      rintro e1 W3 ⟨_, rfl, ⟨af, aa, ab, rr, rfl, haf, haa, hab, hqa⟩, hb3⟩
      clear co40 co41 co42 fo4 o4
      have hsW3 : W2.heap.size ≤ W3.heap.size := hb3.size; have hB := hB.trans (hb3.mono hB.size); have o6 := o6.below hb3 o6.lt; have o7 := o7.below hb3 o7.lt; have o5 := o5.below hb3 o5.lt
      obtain ⟨z1, z2, z3, rfl⟩ := haf.shape
      obtain ⟨z4, z5, z6, rfl⟩ := haa.shape
      obtain ⟨z7, z8, z9, rfl⟩ := hab.shape
      have hqa0 := hqa
      obtain ⟨rf, ra, rb, rfl, hrf, hra, hrb⟩ := hqa
      obtain ⟨y1, y2, y3, rfl⟩ := hrf.shape
      obtain ⟨y4, y5, y6, rfl⟩ := hra.shape
      obtain ⟨y7, y8, y9, rfl⟩ := hrb.shape
      go_upto_region 4 with (fail)
      obtain ⟨V1, hV1, o9, o10, hBV1, hSV1⟩ := boxes2 W3 33 37 [.slice z1 z2 z3, .slice z4 z5 z6, .slice z7 z8 z9] [.slice y1 y2 y3, .slice y4 y5 y6, .slice y7 y8 y9]
      rw [← hV1]
      clear hV1 hrf hra hrb hSV1
      have hA : WvT V1 (.agg #[.slice z1 z2 z3, .slice z4 z5 z6, .slice z7 z8 z9]) x.wv := WvT.below ⟨_, _, _, rfl, haf.sl, haa.plain, hab.plain⟩ hBV1 lr
      have hQA := hqa0.below hBV1 lr
      clear haf haa hab hqa0
      have hsV1 : W3.heap.size ≤ V1.heap.size := hBV1.size; have hB := hB.trans (hBV1.mono hB.size); have o6 := o6.below hBV1 o6.lt; have o7 := o7.below hBV1 o7.lt; have o5 := o5.below hBV1 o5.lt
      have fo5 := o5.free; have co50 := o5.cell 0 _ rfl; have co51 := o5.cell 1 _ rfl; have co52 := o5.cell 2 _ rfl
      go_wp2_with fail
      refine (HWY.out _ V1 (HY.out.below hB lr)).mono ?_
      rintro e1 W4 ⟨_, rfl, ⟨bf, ba, bb, ss, rfl, hbf, hba, hbb, hqb⟩, hb4⟩
      clear co50 co51 co52 fo5 o5
      have hsW4 : V1.heap.size ≤ W4.heap.size := hb4.size; have hB := hB.trans (hb4.mono hB.size); have o6 := o6.below hb4 o6.lt; have o7 := o7.below hb4 o7.lt; have o9 := o9.below hb4 o9.lt; have o10 := o10.below hb4 o10.lt; have hA := hA.below hb4 lr; have hQA := hQA.below hb4 lr
      obtain ⟨x1, x2, x3, rfl⟩ := hbf.shape
      obtain ⟨x4, x5, x6, rfl⟩ := hba.shape
      obtain ⟨x7, x8, x9, rfl⟩ := hbb.shape
      have hqb0 := hqb
      obtain ⟨sf, sa, sb, rfl, hsf, hsa, hsb⟩ := hqb
      obtain ⟨w1, w2, w3, rfl⟩ := hsf.shape
      obtain ⟨w4, w5, w6, rfl⟩ := hsa.shape
      obtain ⟨w7, w8, w9, rfl⟩ := hsb.shape
      go_upto_region 5 with (fail)
      obtain ⟨V2, hV2, o11, o12, hBV2, hSV2⟩ := boxes2 W4 33 37 [.slice x1 x2 x3, .slice x4 x5 x6, .slice x7 x8 x9] [.slice w1 w2 w3, .slice w4 w5 w6, .slice w7 w8 w9]
      rw [← hV2]
      clear hV2 hsf hsa hsb hSV2
      have hC : WvT V2 (.agg #[.slice x1 x2 x3, .slice x4 x5 x6, .slice x7 x8 x9]) y.wv := WvT.below ⟨_, _, _, rfl, hbf.sl, hba.plain, hbb.plain⟩ hBV2 lr
      have hQC := hqb0.below hBV2 lr
      clear hbf hba hbb hqb0
      have hsV2 : W4.heap.size ≤ V2.heap.size := hBV2.size; have hB := hB.trans (hBV2.mono hB.size); have o6 := o6.below hBV2 o6.lt; have o7 := o7.below hBV2 o7.lt; have o9 := o9.below hBV2 o9.lt; have o10 := o10.below hBV2 o10.lt; have hA := hA.below hBV2 lr; have hQA := hQA.below hBV2 lr
      have fo9 := o9.free; have co90 := o9.cell 0 _ rfl; have co91 := o9.cell 1 _ rfl; have co92 := o9.cell 2 _ rfl; have fo11 := o11.free; have co110 := o11.cell 0 _ rfl; have co111 := o11.cell 1 _ rfl; have co112 := o11.cell 2 _ rfl
      go_wp2_with fail
      refine (HM1.out _ _ V2 hA hC).mono ?_
      rintro e1 W5 ⟨_, rfl, ⟨_, rfl, hz⟩, hbz⟩
      clear co90 co91 co92 fo9 co110 co111 co112 fo11
      have hsW5 : V2.heap.size ≤ W5.heap.size := hbz.size; have hB := hB.trans (hbz.mono hB.size); have o6 := o6.below hbz o6.lt; have o7 := o7.below hbz o7.lt; have o9 := o9.below hbz o9.lt; have o10 := o10.below hbz o10.lt; have o11 := o11.below hbz o11.lt; have o12 := o12.below hbz o12.lt; have hA := hA.below hbz lr; have hQA := hQA.below hbz lr; have hC := hC.below hbz lr; have hQC := hQC.below hbz lr
      have hz0 := hz
      obtain ⟨mf, ma, mb, rfl, hm1, hm2, hm3⟩ := hz
      obtain ⟨p1, p2, p3, rfl⟩ := hm1.shape
      obtain ⟨p4, p5, p6, rfl⟩ := hm2.shape
      obtain ⟨p7, p8, p9, rfl⟩ := hm3.shape
      go_upto_region 6 with (fail)
      obtain ⟨V3, hVn, o13, hBVn, hSVn⟩ := boxes1 W5 33 [.slice p1 p2 p3, .slice p4 p5 p6, .slice p7 p8 p9]
      rw [← hVn]
      have hXX := hz0.below hBVn lr
      clear hVn hm1 hm2 hm3 hSVn hz0
      have hsV3 : W5.heap.size ≤ V3.heap.size := hBVn.size; have hB := hB.trans (hBVn.mono hB.size); have o6 := o6.below hBVn o6.lt; have o7 := o7.below hBVn o7.lt; have o9 := o9.below hBVn o9.lt; have o10 := o10.below hBVn o10.lt; have o11 := o11.below hBVn o11.lt; have o12 := o12.below hBVn o12.lt; have hA := hA.below hBVn lr; have hQA := hQA.below hBVn lr; have hC := hC.below hBVn lr; have hQC := hQC.below hBVn lr
      have fo10 := o10.free; have co100 := o10.cell 0 _ rfl; have co101 := o10.cell 1 _ rfl; have co102 := o10.cell 2 _ rfl; have fo12 := o12.free; have co120 := o12.cell 0 _ rfl; have co121 := o12.cell 1 _ rfl; have co122 := o12.cell 2 _ rfl
      go_wp2_with fail
      refine (HM2.out _ _ V3 hQA hQC).mono ?_
      rintro e1 W6 ⟨_, rfl, ⟨_, rfl, hz⟩, hbz⟩
      clear co100 co101 co102 fo10 co120 co121 co122 fo12
      have hsW6 : V3.heap.size ≤ W6.heap.size := hbz.size; have hB := hB.trans (hbz.mono hB.size); have o6 := o6.below hbz o6.lt; have o7 := o7.below hbz o7.lt; have o9 := o9.below hbz o9.lt; have o10 := o10.below hbz o10.lt; have o11 := o11.below hbz o11.lt; have o12 := o12.below hbz o12.lt; have o13 := o13.below hbz o13.lt; have hA := hA.below hbz lr; have hQA := hQA.below hbz lr; have hC := hC.below hbz lr; have hQC := hQC.below hbz lr; have hXX := hXX.below hbz lr
      have hz0 := hz
      obtain ⟨mf, ma, mb, rfl, hm1, hm2, hm3⟩ := hz
      obtain ⟨r1, r2, r3, rfl⟩ := hm1.shape
      obtain ⟨r4, r5, r6, rfl⟩ := hm2.shape
      obtain ⟨r7, r8, r9, rfl⟩ := hm3.shape
      go_upto_region 7 with (fail)
      obtain ⟨V4, hVn, o15, hBVn, hSVn⟩ := boxes1 W6 37 [.slice r1 r2 r3, .slice r4 r5 r6, .slice r7 r8 r9]
      rw [← hVn]
      have hYY := hz0.below hBVn lr
      clear hVn hm1 hm2 hm3 hSVn hz0
      have hsV4 : W6.heap.size ≤ V4.heap.size := hBVn.size; have hB := hB.trans (hBVn.mono hB.size); have o6 := o6.below hBVn o6.lt; have o7 := o7.below hBVn o7.lt; have o9 := o9.below hBVn o9.lt; have o10 := o10.below hBVn o10.lt; have o11 := o11.below hBVn o11.lt; have o12 := o12.below hBVn o12.lt; have o13 := o13.below hBVn o13.lt; have hA := hA.below hBVn lr; have hQA := hQA.below hBVn lr; have hC := hC.below hBVn lr; have hQC := hQC.below hBVn lr; have hXX := hXX.below hBVn lr
      refine only_of (mgreg7 _ _ _ _ E2 _ _ _ lo hi Z2 o9 o6 o7 hlo hhi (fun W' v1 v2 hb h1 h2 => HC1.out _ v1 v2 W' (hA.below hb lr) h1 h2) ?_)
      intro W7 g17 i1 i2 i3 x52 x53 x54 x55 x56 x57 x58 x59 x60 o17 hSS hb7 hg7
      try simp only [Exit.then]
      have hsW7 : V4.heap.size ≤ W7.heap.size := hb7.size; have hB := hB.trans (hb7.mono hB.size); have o6 := o6.below hb7 o6.lt; have o7 := o7.below hb7 o7.lt; have o9 := o9.below hb7 o9.lt; have o10 := o10.below hb7 o10.lt; have o11 := o11.below hb7 o11.lt; have o12 := o12.below hb7 o12.lt; have o13 := o13.below hb7 o13.lt; have o15 := o15.below hb7 o15.lt; have hA := hA.below hb7 lr; have hQA := hQA.below hb7 lr; have hC := hC.below hb7 lr; have hQC := hQC.below hb7 lr; have hXX := hXX.below hb7 lr; have hYY := hYY.below hb7 lr
      go_upto_region 8 with (fail)
      refine only_of (mgreg8 _ _ _ _ E2 _ _ _ lo hi Z2 o10 o6 o7 hlo hhi (fun W' v1 v2 hb h1 h2 => HC2.out _ v1 v2 W' (hQA.below hb lr) h1 h2) ?_)
      intro W8 g19 j1 j2 j3 x61 x62 x63 x64 x65 x66 x67 x68 x69 o19 hTT hb8 hg8
      try simp only [Exit.then]
      have hsW8 : W7.heap.size ≤ W8.heap.size := hb8.size; have hB := hB.trans (hb8.mono hB.size); have o6 := o6.below hb8 o6.lt; have o7 := o7.below hb8 o7.lt; have o9 := o9.below hb8 o9.lt; have o10 := o10.below hb8 o10.lt; have o11 := o11.below hb8 o11.lt; have o12 := o12.below hb8 o12.lt; have o13 := o13.below hb8 o13.lt; have o15 := o15.below hb8 o15.lt; have o17 := o17.below hb8 o17.lt; have hA := hA.below hb8 lr; have hQA := hQA.below hb8 lr; have hC := hC.below hb8 lr; have hQC := hQC.below hb8 lr; have hXX := hXX.below hb8 lr; have hYY := hYY.below hb8 lr; have hSS := hSS.below hb8 lr
      go_upto_region 9 with (fail)
      refine only_of (mgreg9 _ _ _ _ _ _ _ _ _ E E2 b1' b2' _ _ _ _ _ _ _ _ _ _ _ _ _ _ _ _ _ _ _ _ _ _ _ _ o9 o10 o11 o12 o13 o15 o17 o19 (fun W' hb => HV1.out _ W' (hA.below hb lr)) (fun W' hb => HQ1.out _ W' (hQA.below hb lr)) (fun W' hb => HV2.out _ W' (hC.below hb lr)) (fun W' hb => HQ2.out _ W' (hQC.below hb lr)) (fun W' hb => HAW1.out _ _ W' (hXX.below hb lr) (hYY.below hb lr)) (fun W' hb => HAW2.out _ _ W' (hSS.below hb lr) (hTT.below hb lr)) ?_)
      intro W9 x70 x71 x72 x73 x74 x75 x76 x77 x78 x79 x80 x81 x82 x83 x84 x85 x86 x87 x88 x89 x90 x91 x92 x93 x94 x95 x96 x97 x98 x99 x100 x101 x102 x103 x104 hb9
      try simp only [Exit.then]
      have hB := hB.trans (hb9.mono hB.size)
      clear o6 o7 o9 o10 o11 o12 o13 o15 o17 o19 hA hQA hC hQC hXX hYY hSS hTT
      go_wp2_with fail
      go_ret
      exact ⟨_, rfl, rfl, hB⟩
end Go.Proofs.YtpnfdlnhmhekeaaGreat
