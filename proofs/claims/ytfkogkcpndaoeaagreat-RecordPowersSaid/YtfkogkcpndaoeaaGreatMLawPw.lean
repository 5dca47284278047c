/- RecordPowers, whatever the wave, the impedance, the sweep and the limit. Conditions: the words lie in their types. -/
import Derived.Test.YtfkogkcpndaoeaaGreatMAwake
import Derived.Test.YtfkogkcpndaoeaaGreatMKept
import Derived.Test.YtfkogkcpndaoeaaGreatMLev
set_option linter.all false
namespace Go.Proofs.YtfkogkcpndaoeaaGreat
open Go.RowKit
theorem run_ff32 (n : Nat) (w : World) : (callFunc 15 #[.int .u32 (n : Int)]).run Tryz.prog w = .ok (.value (.float .f32 n)) w := by
  rw [run_callFunc_extern (fn := Tryz.f15) (e := Extern.MathFloatBits.float32frombits) (by kernel_rfl) (by kernel_rfl) (by kernel_rfl) (by kernel_rfl) (by kernel_rfl)]
  rfl
theorem PowRet.shape {x z : CQ} {v : Value} (h : PowRet x z v) : ∃ (R : Nat) (e : Int), v = .tuple #[.float .f32 R, .int .i64 e] := by
  rcases h with ⟨-, R, I, -, rfl⟩ | ⟨-, rfl⟩
  · exact ⟨R, 0, rfl⟩
  · exact ⟨0, 1, rfl⟩
theorem lim_word (L : Nat) : ∃ S, limB L = true → floatToFloatBits .f32 L .f64 = some S ∧ Fin S ∧ fexp S ≠ 2047 := by
  rcases lim_read L with ⟨neg, mag, place, hr, hm, hp, hp2⟩ | hout
  · obtain ⟨S, hw, -, hexp, h1, -⟩ := lim_widens hr hm hp hp2
    exact ⟨S, fun hl => ⟨hw, (h1 hl).1, hexp⟩⟩
  · have hl : limB L = false := by
      rcases hout with ⟨neg, h⟩ | ⟨neg, t, h⟩
      · exact lim_inf h
      · exact lim_nan h
    exact ⟨0, fun h => by rw [hl] at h; cases h⟩
theorem SlOf.eachW {α : Type} {R : World → List Value → α → Prop} {size : Nat} {w : World} {v : Value} {l : List α} (h : SlOf R size w v l) : ∀ x ∈ l, ∃ u, R w u x := by
  intro x hx
  obtain ⟨i, hi⟩ := List.getElem?_of_mem hx
  obtain ⟨a, c, _, _, _, h2⟩ := h
  obtain ⟨b, o, u, _, _, hR, _⟩ := h2 i x hi
  exact ⟨u, hR⟩
theorem small_wd {w : World} {v : Value} {x : Wd} (h : WdRep w v x) : (∀ y ∈ x.wv.fr, Small 64 y) ∧ ∀ m ∈ x.wv.a, ∀ r ∈ m, ∀ y ∈ r, Small 64 y := by
  obtain ⟨vf, va, vb, -, h1, h2, h3⟩ := h
  refine ⟨fun y hy => ?_, fun m hm r hr y hy => ?_⟩
  · obtain ⟨q, hq, rfl⟩ := List.mem_map.1 hy
    obtain ⟨u, -, ok⟩ := SlOf.eachW h1 q hq
    exact Rt.small ok
  · obtain ⟨m', hm', rfl⟩ := List.mem_map.1 hm
    obtain ⟨r', hr', rfl⟩ := List.mem_map.1 hr
    obtain ⟨q, hq, rfl⟩ := List.mem_map.1 hy
    obtain ⟨u1, v1, -, k1⟩ := SlOf.eachW h2 m' hm'
    obtain ⟨u2, v2, -, k2⟩ := SlOf.eachW k1 r' hr'
    obtain ⟨u, -, ok⟩ := SlOf.eachW k2 q hq
    exact Rt.small ok
set_option maxRecDepth 100000 in
set_option maxHeartbeats 6400000 in
theorem recordPowers_spec (v : Value) (x z : Rt) (y : Wd) (L : Nat) (w : World) (h : WdRep w v y) (hx : x.ok) (hz : z.ok) :
    Calls Tryz.prog 3 #[.agg #[.int .i64 x.re, .int .i64 x.im, .int .i64 x.den], .agg #[.int .i64 z.re, .int .i64 z.im, .int .i64 z.den], v, .int .u32 (L : Int)] w (Ret w fun _ v' => v' = .bool true) := by
  have HX := Lib.hid h
  have HFX := Lib.hid (fun w h => fewWaves_spec v y w h)
  have HFIT := Lib.hid (few_fit (x := y))
  have HSM := Lib.hid (small_wd h)
  obtain ⟨S, hS⟩ := lim_word L
  have HOX := Lib.hid (fun w => ofAny_spec x w hx)
  have HOZ := Lib.hid (fun w => ofAny_spec z w hz)
  have HQX := Lib.hid (fun w => qof_spec x w hx)
  have HQZ := Lib.hid (fun w => qof_spec z w hz)
  have HPN := Lib.hid (fun v u w h h' => nPower_spec v u x.q z.q 64 w h h' (Rt.small hx) (Rt.small hz) (by omega))
  have HPQ := Lib.hid (fun v u w h h' => qPower_spec v u x.q z.q 64 w h h' (Rt.small hx) (Rt.small hz) (by omega))
  have HLN := Lib.hid (fun v u w h h' => level_spec v u y.wv z.q L S 64 w h h' HSM.out.1 HSM.out.2 (Rt.small hz) (by omega) (fun hl => ⟨widens2 (hS hl).1, (hS hl).2.1, (hS hl).2.2⟩))
  have HLQ := Lib.hid (fun v u w h h' => rlevel_spec v u y.wv z.q L S 64 w h h' HSM.out.1 HSM.out.2 (Rt.small hz) (by omega) (fun hl => (hS hl).1) (fun hl => (hS hl).2.2))
  obtain ⟨vf, va, vb, rfl, g0, g1, g2⟩ := h
  obtain ⟨a0, n0, c0, rfl, -⟩ := g0.open
  obtain ⟨a1, n1, c1, rfl, -⟩ := g1.open
  obtain ⟨a2, n2, c2, rfl, -⟩ := g2.open
  clear g0 g1 g2 hS hx hz HSM
  cases hy : fewB y
  · rw [hy] at HFX
    clear hy HFIT
    go_enter Tryz.func3, Tryz.ntmps3
    go_upto_region 1 with (fail)
    obtain ⟨W, hW, o4, o5, o6, hB, hS⟩ := boxes3 w 23 23 27 [.int .i64 x.re, .int .i64 x.im, .int .i64 x.den] [.int .i64 z.re, .int .i64 z.im, .int .i64 z.den] [.slice a0 n0 c0, .slice a1 n1 c1, .slice a2 n2 c2]
    rw [← hW]
    clear hW hS
    have fo6 := o6.free; have co60 := o6.cell 0 _ rfl; have co61 := o6.cell 1 _ rfl; have co62 := o6.cell 2 _ rfl
    go_wp2_with fail
    refine (HFX.out W (HX.out.below hB (Nat.le_refl _))).mono ?_
    rintro e1 V ⟨_, rfl, rfl, hb1⟩
    clear co60 co61 co62 fo6
    have hsV : W.heap.size ≤ V.heap.size := hb1.size; have hB := hB.trans (hb1.mono hB.size); have o4 := o4.below hb1 o4.lt; have o5 := o5.below hb1 o5.lt; have o6 := o6.below hb1 o6.lt
    go_wp2_with fail
    refine (awake_spec V).mono ?_
    rintro e1 WZ ⟨_, rfl, rfl, hbZ⟩
    have hB := hB.trans (hbZ.mono hB.size)
    go_wp2_with fail
    go_ret
    exact ⟨_, rfl, rfl, hB⟩
  · have HWX := Lib.hid (fun v w h => waves_spec v y w h (HFIT.out hy))
    rw [hy] at HFX
    clear hy HFIT
    go_enter Tryz.func3, Tryz.ntmps3
    go_upto_region 1 with (fail)
    obtain ⟨W, hW, o4, o5, o6, hB, hS⟩ := boxes3 w 23 23 27 [.int .i64 x.re, .int .i64 x.im, .int .i64 x.den] [.int .i64 z.re, .int .i64 z.im, .int .i64 z.den] [.slice a0 n0 c0, .slice a1 n1 c1, .slice a2 n2 c2]
    rw [← hW]
    clear hW hS
    have fo6 := o6.free; have co60 := o6.cell 0 _ rfl; have co61 := o6.cell 1 _ rfl; have co62 := o6.cell 2 _ rfl
    go_wp2_with fail
    refine (HFX.out W (HX.out.below hB (Nat.le_refl _))).mono ?_
    rintro e1 V ⟨_, rfl, rfl, hb1⟩
    clear co60 co61 co62 fo6
    have hsV : W.heap.size ≤ V.heap.size := hb1.size; have hB := hB.trans (hb1.mono hB.size); have o4 := o4.below hb1 o4.lt; have o5 := o5.below hb1 o5.lt; have o6 := o6.below hb1 o6.lt
    go_upto_region 3 with (fail)
    have qo40 := o4.cell 0 _ rfl; have qo41 := o4.cell 1 _ rfl; have qo42 := o4.cell 2 _ rfl; have qo50 := o5.cell 0 _ rfl; have qo51 := o5.cell 1 _ rfl; have qo52 := o5.cell 2 _ rfl
    have o4 : Own V.drew _ _ _ := o4; have o5 : Own V.drew _ _ _ := o5; have o6 : Own V.drew _ _ _ := o6; have lto4 : _ < V.heap.size := o4.lt; have lto5 : _ < V.heap.size := o5.lt; have lto6 : _ < V.heap.size := o6.lt; have hB := hB.drew
    have tok1 : True := trivial
    have tok2 : True := trivial
    have tok3 : True := trivial
    go_region_held3 (fun w' => w'.cell? ⟨w.heap.size, 0, none⟩ = some (.int .i64 x.re) ∧ w'.cell? ⟨w.heap.size, 1, none⟩ = some (.int .i64 x.im) ∧ w'.cell? ⟨w.heap.size, 2, none⟩ = some (.int .i64 x.den) ∧ w'.cell? ⟨w.heap.size + 1, 0, none⟩ = some (.int .i64 z.re) ∧ w'.cell? ⟨w.heap.size + 1, 1, none⟩ = some (.int .i64 z.im) ∧ w'.cell? ⟨w.heap.size + 1, 2, none⟩ = some (.int .i64 z.den)) (first | (with_reducible exact ⟨o4.cell 0 _ rfl, o4.cell 1 _ rfl, o4.cell 2 _ rfl, o5.cell 0 _ rfl, o5.cell 1 _ rfl, o5.cell 2 _ rfl⟩) | (simp [go_sem, qo40, qo41, qo42, qo50, qo51, qo52, lto4, lto5]; done))
      (first
        | (go_at_call 9; have _t := tok1; refine (HOX.out _).mono ?_; rintro e V1 ⟨u1, rfl, hu1, hb1⟩; have hsV1 : V.heap.size ≤ V1.heap.size := hb1.size; have hB := hB.trans (hb1.mono hB.size); have o4 := o4.below hb1 o4.lt; have o5 := o5.below hb1 o5.lt; have o6 := o6.below hb1 o6.lt; have lto4 := o4.lt; have lto5 := o5.lt; have lto6 := o6.lt; have qo40 := o4.cell 0 _ rfl; have qo41 := o4.cell 1 _ rfl; have qo42 := o4.cell 2 _ rfl; have qo50 := o5.cell 0 _ rfl; have qo51 := o5.cell 1 _ rfl; have qo52 := o5.cell 2 _ rfl; clear tok1 _t)
        | (go_at_call 9; have _t := tok2; refine (HOZ.out _).mono ?_; rintro e V2 ⟨u2, rfl, hu2, hb2⟩; have hsV2 : V1.heap.size ≤ V2.heap.size := hb2.size; have hB := hB.trans (hb2.mono hB.size); have o4 := o4.below hb2 o4.lt; have o5 := o5.below hb2 o5.lt; have o6 := o6.below hb2 o6.lt; have lto4 := o4.lt; have lto5 := o5.lt; have lto6 := o6.lt; have qo40 := o4.cell 0 _ rfl; have qo41 := o4.cell 1 _ rfl; have qo42 := o4.cell 2 _ rfl; have qo50 := o5.cell 0 _ rfl; have qo51 := o5.cell 1 _ rfl; have qo52 := o5.cell 2 _ rfl; have hu1 := hu1.below hb2 (Nat.le_refl _); clear tok2 _t)
        | (go_at_call 8; have _t := tok3; refine (HPN.out _ _ _ hu1 hu2).mono ?_; rintro e V3 ⟨_, rfl, hp1, hb3⟩; have hsV3 : V2.heap.size ≤ V3.heap.size := hb3.size; have hB := hB.trans (hb3.mono hB.size); have o4 := o4.below hb3 o4.lt; have o5 := o5.below hb3 o5.lt; have o6 := o6.below hb3 o6.lt; have lto4 := o4.lt; have lto5 := o5.lt; have lto6 := o6.lt; have qo40 := o4.cell 0 _ rfl; have qo41 := o4.cell 1 _ rfl; have qo42 := o4.cell 2 _ rfl; have qo50 := o5.cell 0 _ rfl; have qo51 := o5.cell 1 _ rfl; have qo52 := o5.cell 2 _ rfl; have hu1 := hu1.below hb3 (Nat.le_refl _); have hu2 := hu2.below hb3 (Nat.le_refl _); obtain ⟨R1, e1, rfl⟩ := hp1.shape; clear tok3 _t))
    go_upto_region 4 with (fail)
    clear hu1 hu2
    have qo40 := o4.cell 0 _ rfl; have qo41 := o4.cell 1 _ rfl; have qo42 := o4.cell 2 _ rfl; have qo50 := o5.cell 0 _ rfl; have qo51 := o5.cell 1 _ rfl; have qo52 := o5.cell 2 _ rfl
    have o4 : Own V3.drew _ _ _ := o4; have o5 : Own V3.drew _ _ _ := o5; have o6 : Own V3.drew _ _ _ := o6; have lto4 : _ < V3.heap.size := o4.lt; have lto5 : _ < V3.heap.size := o5.lt; have lto6 : _ < V3.heap.size := o6.lt; have hB := hB.drew
    have tok1 : True := trivial
    have tok2 : True := trivial
    have tok3 : True := trivial
    go_region_held3 (fun w' => w'.cell? ⟨w.heap.size, 0, none⟩ = some (.int .i64 x.re) ∧ w'.cell? ⟨w.heap.size, 1, none⟩ = some (.int .i64 x.im) ∧ w'.cell? ⟨w.heap.size, 2, none⟩ = some (.int .i64 x.den) ∧ w'.cell? ⟨w.heap.size + 1, 0, none⟩ = some (.int .i64 z.re) ∧ w'.cell? ⟨w.heap.size + 1, 1, none⟩ = some (.int .i64 z.im) ∧ w'.cell? ⟨w.heap.size + 1, 2, none⟩ = some (.int .i64 z.den)) (first | (with_reducible exact ⟨o4.cell 0 _ rfl, o4.cell 1 _ rfl, o4.cell 2 _ rfl, o5.cell 0 _ rfl, o5.cell 1 _ rfl, o5.cell 2 _ rfl⟩) | (simp [go_sem, qo40, qo41, qo42, qo50, qo51, qo52, lto4, lto5]; done))
      (first
        | (go_at_call 11; have _t := tok1; refine (HQX.out _).mono ?_; rintro e V31 ⟨u3, rfl, hu3, hb1⟩; have hsV31 : V3.heap.size ≤ V31.heap.size := hb1.size; have hB := hB.trans (hb1.mono hB.size); have o4 := o4.below hb1 o4.lt; have o5 := o5.below hb1 o5.lt; have o6 := o6.below hb1 o6.lt; have lto4 := o4.lt; have lto5 := o5.lt; have lto6 := o6.lt; have qo40 := o4.cell 0 _ rfl; have qo41 := o4.cell 1 _ rfl; have qo42 := o4.cell 2 _ rfl; have qo50 := o5.cell 0 _ rfl; have qo51 := o5.cell 1 _ rfl; have qo52 := o5.cell 2 _ rfl; clear tok1 _t)
        | (go_at_call 11; have _t := tok2; refine (HQZ.out _).mono ?_; rintro e V32 ⟨u4, rfl, hu4, hb2⟩; have hsV32 : V31.heap.size ≤ V32.heap.size := hb2.size; have hB := hB.trans (hb2.mono hB.size); have o4 := o4.below hb2 o4.lt; have o5 := o5.below hb2 o5.lt; have o6 := o6.below hb2 o6.lt; have lto4 := o4.lt; have lto5 := o5.lt; have lto6 := o6.lt; have qo40 := o4.cell 0 _ rfl; have qo41 := o4.cell 1 _ rfl; have qo42 := o4.cell 2 _ rfl; have qo50 := o5.cell 0 _ rfl; have qo51 := o5.cell 1 _ rfl; have qo52 := o5.cell 2 _ rfl; have hu3 := hu3.below hb2 (Nat.le_refl _); clear tok2 _t)
        | (go_at_call 10; have _t := tok3; refine (HPQ.out _ _ _ hu3 hu4).mono ?_; rintro e V33 ⟨_, rfl, hp2, hb3⟩; have hsV33 : V32.heap.size ≤ V33.heap.size := hb3.size; have hB := hB.trans (hb3.mono hB.size); have o4 := o4.below hb3 o4.lt; have o5 := o5.below hb3 o5.lt; have o6 := o6.below hb3 o6.lt; have lto4 := o4.lt; have lto5 := o5.lt; have lto6 := o6.lt; have qo40 := o4.cell 0 _ rfl; have qo41 := o4.cell 1 _ rfl; have qo42 := o4.cell 2 _ rfl; have qo50 := o5.cell 0 _ rfl; have qo51 := o5.cell 1 _ rfl; have qo52 := o5.cell 2 _ rfl; have hu3 := hu3.below hb3 (Nat.le_refl _); have hu4 := hu4.below hb3 (Nat.le_refl _); obtain rfl := hp1.unique hp2; clear tok3 _t))
    clear hu3 hu4 hp1 hp2 HOX HQX HPN HPQ
    have fo6 := o6.free; have co60 := o6.cell 0 _ rfl; have co61 := o6.cell 1 _ rfl; have co62 := o6.cell 2 _ rfl
    have hrun := run_fb32
    go_wp2_with fail
    refine (HWX.out _ V33 (HX.out.below hB (Nat.le_refl _))).mono ?_
    rintro e1 Y ⟨_, rfl, ⟨af, aa, ab, rr, rfl, haf, haa, hab, hqa⟩, hb3⟩
    clear co60 co61 co62 fo6 o6 hrun
    have hsY : V33.heap.size ≤ Y.heap.size := hb3.size; have hB := hB.trans (hb3.mono hB.size); have o5 := o5.below hb3 o5.lt
    obtain ⟨z1, z2, z3, rfl⟩ := haf.shape
    obtain ⟨z4, z5, z6, rfl⟩ := haa.shape
    obtain ⟨z7, z8, z9, rfl⟩ := hab.shape
    have hqa0 := hqa
    obtain ⟨rf, ra, rb, rfl, hrf, hra, hrb⟩ := hqa
    obtain ⟨y1, y2, y3, rfl⟩ := hrf.shape
    obtain ⟨y4, y5, y6, rfl⟩ := hra.shape
    obtain ⟨y7, y8, y9, rfl⟩ := hrb.shape
    go_upto_region 8 with (fail)
    obtain ⟨U, hU, o13, o14, hBU, hSU⟩ := boxes2 Y 52 56 [.slice z1 z2 z3, .slice z4 z5 z6, .slice z7 z8 z9] [.slice y1 y2 y3, .slice y4 y5 y6, .slice y7 y8 y9]
    rw [← hU]
    clear hU hrf hra hrb hSU
    have hA : WvT U (.agg #[.slice z1 z2 z3, .slice z4 z5 z6, .slice z7 z8 z9]) y.wv := WvT.below ⟨_, _, _, rfl, haf.sl, haa.plain, hab.plain⟩ hBU (Nat.le_refl _)
    have hQA := hqa0.below hBU (Nat.le_refl _)
    clear haf haa hab hqa0
    have hsU : Y.heap.size ≤ U.heap.size := hBU.size; have hB := hB.trans (hBU.mono hB.size); have o5 := o5.below hBU o5.lt
    have hrun := run_ff32
    have qo130 := o13.cell 0 _ rfl; have qo131 := o13.cell 1 _ rfl; have qo132 := o13.cell 2 _ rfl; have qo50 := o5.cell 0 _ rfl; have qo51 := o5.cell 1 _ rfl; have qo52 := o5.cell 2 _ rfl
    have o13 : Own U.drew _ _ _ := o13; have o5 : Own U.drew _ _ _ := o5; have o14 : Own U.drew _ _ _ := o14; have lto13 : _ < U.heap.size := o13.lt; have lto5 : _ < U.heap.size := o5.lt; have lto14 : _ < U.heap.size := o14.lt; have hB := hB.drew
    have hA := hA.below ((Below.refl U.heap.size U).drew) (Nat.le_refl _); have hQA := hQA.below ((Below.refl U.heap.size U).drew) (Nat.le_refl _)
    have tok1 : True := trivial
    have tok2 : True := trivial
    go_region_held3 (fun w' => w'.cell? ⟨Y.heap.size, 0, none⟩ = some (.slice z1 z2 z3) ∧ w'.cell? ⟨Y.heap.size, 1, none⟩ = some (.slice z4 z5 z6) ∧ w'.cell? ⟨Y.heap.size, 2, none⟩ = some (.slice z7 z8 z9) ∧ w'.cell? ⟨w.heap.size + 1, 0, none⟩ = some (.int .i64 z.re) ∧ w'.cell? ⟨w.heap.size + 1, 1, none⟩ = some (.int .i64 z.im) ∧ w'.cell? ⟨w.heap.size + 1, 2, none⟩ = some (.int .i64 z.den)) (first | (with_reducible exact ⟨o13.cell 0 _ rfl, o13.cell 1 _ rfl, o13.cell 2 _ rfl, o5.cell 0 _ rfl, o5.cell 1 _ rfl, o5.cell 2 _ rfl⟩) | (simp [go_sem, qo130, qo131, qo132, qo50, qo51, qo52, lto13, lto5]; done))
      (first
        | (go_at_call 9; have _t := tok1; refine (HOZ.out _).mono ?_; rintro e U1 ⟨u5, rfl, hu5, hb1⟩; have hsU1 : U.heap.size ≤ U1.heap.size := hb1.size; have hB := hB.trans (hb1.mono hB.size); have o13 := o13.below hb1 o13.lt; have o5 := o5.below hb1 o5.lt; have o14 := o14.below hb1 o14.lt; have lto13 := o13.lt; have lto5 := o5.lt; have lto14 := o14.lt; have qo130 := o13.cell 0 _ rfl; have qo131 := o13.cell 1 _ rfl; have qo132 := o13.cell 2 _ rfl; have qo50 := o5.cell 0 _ rfl; have qo51 := o5.cell 1 _ rfl; have qo52 := o5.cell 2 _ rfl; have hA := hA.below hb1 (Nat.le_refl _); have hQA := hQA.below hb1 (Nat.le_refl _); clear tok1 _t)
        | (go_at_call 14; have _t := tok2; refine (HLN.out _ _ _ hA hu5).mono ?_; rintro e U2 ⟨_, rfl, hl1, hb2⟩; have hsU2 : U1.heap.size ≤ U2.heap.size := hb2.size; have hB := hB.trans (hb2.mono hB.size); have o13 := o13.below hb2 o13.lt; have o5 := o5.below hb2 o5.lt; have o14 := o14.below hb2 o14.lt; have lto13 := o13.lt; have lto5 := o5.lt; have lto14 := o14.lt; have qo130 := o13.cell 0 _ rfl; have qo131 := o13.cell 1 _ rfl; have qo132 := o13.cell 2 _ rfl; have qo50 := o5.cell 0 _ rfl; have qo51 := o5.cell 1 _ rfl; have qo52 := o5.cell 2 _ rfl; have hA := hA.below hb2 (Nat.le_refl _); have hQA := hQA.below hb2 (Nat.le_refl _); have hu5 := hu5.below hb2 (Nat.le_refl _); obtain ⟨k1, s1, b1, E1, rfl⟩ := hl1.shape; clear tok2 _t))
    clear hu5
    go_upto_region 9 with (fail)
    have qo140 := o14.cell 0 _ rfl; have qo141 := o14.cell 1 _ rfl; have qo142 := o14.cell 2 _ rfl; have qo50 := o5.cell 0 _ rfl; have qo51 := o5.cell 1 _ rfl; have qo52 := o5.cell 2 _ rfl
    have o14 : Own U2.drew _ _ _ := o14; have o5 : Own U2.drew _ _ _ := o5; have o13 : Own U2.drew _ _ _ := o13; have lto14 : _ < U2.heap.size := o14.lt; have lto5 : _ < U2.heap.size := o5.lt; have lto13 : _ < U2.heap.size := o13.lt; have hB := hB.drew
    have hQA := hQA.below ((Below.refl U2.heap.size U2).drew) (Nat.le_refl _)
    have tok1 : True := trivial
    have tok2 : True := trivial
    go_region_held3 (fun w' => w'.cell? ⟨Y.heap.size + 1, 0, none⟩ = some (.slice y1 y2 y3) ∧ w'.cell? ⟨Y.heap.size + 1, 1, none⟩ = some (.slice y4 y5 y6) ∧ w'.cell? ⟨Y.heap.size + 1, 2, none⟩ = some (.slice y7 y8 y9) ∧ w'.cell? ⟨w.heap.size + 1, 0, none⟩ = some (.int .i64 z.re) ∧ w'.cell? ⟨w.heap.size + 1, 1, none⟩ = some (.int .i64 z.im) ∧ w'.cell? ⟨w.heap.size + 1, 2, none⟩ = some (.int .i64 z.den)) (first | (with_reducible exact ⟨o14.cell 0 _ rfl, o14.cell 1 _ rfl, o14.cell 2 _ rfl, o5.cell 0 _ rfl, o5.cell 1 _ rfl, o5.cell 2 _ rfl⟩) | (simp [go_sem, qo140, qo141, qo142, qo50, qo51, qo52, lto14, lto5]; done))
      (first
        | (go_at_call 11; have _t := tok1; refine (HQZ.out _).mono ?_; rintro e U21 ⟨u6, rfl, hu6, hb1⟩; have hsU21 : U2.heap.size ≤ U21.heap.size := hb1.size; have hB := hB.trans (hb1.mono hB.size); have o14 := o14.below hb1 o14.lt; have o5 := o5.below hb1 o5.lt; have o13 := o13.below hb1 o13.lt; have lto14 := o14.lt; have lto5 := o5.lt; have lto13 := o13.lt; have qo140 := o14.cell 0 _ rfl; have qo141 := o14.cell 1 _ rfl; have qo142 := o14.cell 2 _ rfl; have qo50 := o5.cell 0 _ rfl; have qo51 := o5.cell 1 _ rfl; have qo52 := o5.cell 2 _ rfl; have hQA := hQA.below hb1 (Nat.le_refl _); clear tok1 _t)
        | (go_at_call 16; have _t := tok2; refine (HLQ.out _ _ _ hQA hu6).mono ?_; rintro e U22 ⟨_, rfl, hl2, hb2⟩; have hsU22 : U21.heap.size ≤ U22.heap.size := hb2.size; have hB := hB.trans (hb2.mono hB.size); have o14 := o14.below hb2 o14.lt; have o5 := o5.below hb2 o5.lt; have o13 := o13.below hb2 o13.lt; have lto14 := o14.lt; have lto5 := o5.lt; have lto13 := o13.lt; have qo140 := o14.cell 0 _ rfl; have qo141 := o14.cell 1 _ rfl; have qo142 := o14.cell 2 _ rfl; have qo50 := o5.cell 0 _ rfl; have qo51 := o5.cell 1 _ rfl; have qo52 := o5.cell 2 _ rfl; have hQA := hQA.below hb2 (Nat.le_refl _); have hu6 := hu6.below hb2 (Nat.le_refl _); obtain rfl := hl1.unique hl2; clear tok2 _t))
    clear hu6 hl1 hl2 hrun
    go_wp2_with fail
    refine (awake_spec U22).mono ?_
    rintro e1 WZ ⟨_, rfl, rfl, hbZ⟩
    have hB := hB.trans (hbZ.mono hB.size)
    go_wp2_with fail
    go_ret
    exact ⟨_, rfl, rfl, hB⟩
end Go.Proofs.YtfkogkcpndaoeaaGreat
