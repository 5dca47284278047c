/- record.Level. Conditions: bits. The reference's reading of a limit. Conditions: none. The reference's Level. Conditions: bits. -/
import Derived.Test.YtfkogkcpndaoeaaGreatMFloatR
import Derived.Test.YtfkogkcpndaoeaaGreatMRPow
import Derived.Test.YtfkogkcpndaoeaaGreatMRVw
set_option linter.all false
namespace Go.Proofs.YtfkogkcpndaoeaaGreat
open Go.RowKit
set_option maxRecDepth 100000 in
set_option maxHeartbeats 6400000 in
theorem level_spec (v u : Value) (x : Wv) (z : CQ) (L S k : Nat) (w : World) (h : WvT w v x) (h' : NumRep w u z) (hfr : ∀ y ∈ x.fr, Small k y) (ha : ∀ m ∈ x.a, ∀ r ∈ m, ∀ y ∈ r, Small k y) (hz : Small k z) (hk : k ≤ 100000) (hL : limB L = true → Widens L 0 S 0 ∧ Fin S ∧ fexp S ≠ 2047) :
    Calls Tryz.prog 14 #[v, u, .float .f32 L] w (Ret w fun _ v' => LevRet x z L S v') := by
  have HW := Lib.hid h
  have HZ := Lib.hid h'
  have HV := Lib.hid (fun w h => validWaves_spec v x k w h hfr hk)
  have HP := Lib.hid (fun w h => positive_spec u z k w h hz hk)
  have HSQ := Lib.hid (vw_sq (x := x))
  have HNZ := Lib.hid (posQ_nz (x := z))
  have HLIM := Lib.hid hL
  have HRET := Lib.hid (show ∀ v, LevRet x z L S v → LevRet x z L S v from fun _ h => h)
  obtain ⟨K, hK⟩ : ∃ K, K = 3 * (2 * k + 1) + 4001 := ⟨_, rfl⟩
  have HPW := Lib.hid (fun (y : CQ) (hy : Small k y) (h0 : ¬ (z.re = 0 ∧ z.im = 0)) v u w h h' => npower_spec v u y z k w h h' hy hz h0 (by omega))
  have HCM := Lib.hid (fun (y : CQ) (hy : Small k y) (h0 : ¬ (z.re = 0 ∧ z.im = 0)) (l : CQ) (hl : Small 4000 l) v u w h h' => ncmp_spec v u (y.norm.div z) l K w h h' ((hy.norm.div (hz.mono (by omega)) h0).mono (by omega)) (hl.mono (by omega)) (by omega))
  have HAS := Lib.hid ha
  obtain ⟨vf, va, vb, rfl, hf, ha', hb⟩ := h
  obtain ⟨af, cf, rfl, hcf, hcf2⟩ := hf.dims
  obtain ⟨aa, ca, rfl, hca, hca2⟩ := ha'.dims
  obtain ⟨ab, cb, rfl, hcb, hcb2⟩ := hb.dims
  obtain ⟨z0, z2, za, zb, zc, zl, zm, zk, zn, zp, zq, rfl⟩ := h'.open
  obtain ⟨n, hn⟩ : ∃ n, x.fr.length = n := ⟨_, rfl⟩
  obtain ⟨na, hna⟩ : ∃ n, x.a.length = n := ⟨_, rfl⟩
  obtain ⟨nb, hnb⟩ : ∃ n, x.b.length = n := ⟨_, rfl⟩
  obtain ⟨gg, hgg⟩ : ∃ b, (FloatKind.f32.format.order L 0 == some .gt || FloatKind.f32.format.order L 0 == some .eq) = b := ⟨_, rfl⟩
  obtain ⟨gc, hgc⟩ : ∃ b, (FloatKind.f32.format.order L 2139095039 == some .gt) = b := ⟨_, rfl⟩
  have HLB : Hid (limB L = (gg && !gc)) := show _ = _ by unfold limB; rw [hgg, hgc]
  obtain ⟨vw, hvw⟩ : ∃ b, vwB x = b := ⟨_, rfl⟩
  obtain ⟨pz, hpz⟩ : ∃ b, posQ z = b := ⟨_, rfl⟩
  obtain ⟨bad, hbad⟩ : ∃ b, b = !(vw && pz && (gg && !gc)) := ⟨_, rfl⟩
  have HOK : Hid ((vwB x && posQ z && limB L) = !bad) := show _ = _ by rw [hvw, hpz, HLB.out, hbad, Bool.not_not]
  have HB2 : Hid (bad = false → vw = true ∧ pz = true ∧ limB L = true) := show _ → _ from fun hh => by
    rw [hbad, Bool.not_eq_false', Bool.and_eq_true, Bool.and_eq_true] at hh
    exact ⟨hh.1.1, hh.1.2, by rw [HLB.out]; exact hh.2⟩
  rw [hvw] at HV HSQ
  rw [hpz] at HP HNZ
  rw [hn, hna, hnb] at HV HW
  rw [hn] at HSQ hcf ⊢
  rw [hna] at HSQ hca ⊢
  rw [hnb] at hcb ⊢
  have HN := Lib.hid hna
  have HBAD := Lib.hid hbad
  clear hvw hpz hbad hn hna hnb hK hfr ha hz hL hf ha' hb h' HLB
  go_enter Tryz.func14, Tryz.ntmps14
  go_upto_region 1 with (fail)
  obtain ⟨W, hW, o3, o4, hB, hS⟩ := boxes2 w 52 40 [.slice af n cf, .slice aa na ca, .slice ab nb cb] [.bool z0, .slice za zl zm, .bool z2, .slice zb zk zn, .slice zc zp zq]
  rw [← hW]
  clear hW hS
  go_cut [30] (fun s wx => s = .bool bad ∧ Below W.heap.size W wx)
  case first =>
    have hv := HW.out.below hB (Nat.le_refl _)
    have fo3 := o3.free; have co30 := o3.cell 0 _ rfl; have co31 := o3.cell 1 _ rfl; have co32 := o3.cell 2 _ rfl
    cases vw
    · obtain rfl : bad = true := by rw [HBAD.out]; rfl
      clear HBAD HOK HB2
      go_wp2_with fail
      refine (HV.out W hv).mono ?_
      rintro e W1 ⟨_, rfl, rfl, hb1⟩
      clear co30 co31 co32 fo3
      go_wp2_with fail
      go_meet
      exact ⟨rfl, hb1⟩
    · go_wp2_with fail
      refine (HV.out W hv).mono ?_
      rintro e W1 ⟨_, rfl, rfl, hb1⟩
      clear co30 co31 co32 fo3
      have o4 := o4.below hb1 o4.lt
      have hz1 := HZ.out.below (hB.trans (hb1.mono hB.size)) (Nat.le_refl _)
      have fo4 := o4.free; have co40 := o4.cell 0 _ rfl; have co41 := o4.cell 1 _ rfl; have co42 := o4.cell 2 _ rfl; have co43 := o4.cell 3 _ rfl; have co44 := o4.cell 4 _ rfl
      cases pz
      · obtain rfl : bad = true := by rw [HBAD.out]; rfl
        clear HBAD HOK HB2
        go_wp2_with fail
        refine (HP.out W1 hz1).mono ?_
        rintro e W2 ⟨_, rfl, rfl, hb2⟩
        clear co40 co41 co42 co43 co44 fo4
        go_wp2_with fail
        go_meet
        exact ⟨rfl, hb1.trans (hb2.mono hb1.size)⟩
      · go_wp2_with fail
        refine (HP.out W1 hz1).mono ?_
        rintro e W2 ⟨_, rfl, rfl, hb2⟩
        clear co40 co41 co42 co43 co44 fo4
        have hb3 := hb1.trans (hb2.mono hb1.size)
        cases gg
        · obtain rfl : bad = true := by rw [HBAD.out]; rfl
          clear HBAD HOK HB2
          go_wp2_with fail
          go_meet
          exact ⟨rfl, hb3⟩
        · obtain rfl : bad = gc := by rw [HBAD.out]; simp
          clear HBAD HOK HB2
          go_wp2_with fail
          go_meet
          exact ⟨rfl, hb3⟩
  case rest =>
    obtain ⟨rfl, hcb⟩ := hcut
    have hscW : W.heap.size ≤ wc.heap.size := hcb.size; have hB := hB.trans (hcb.mono hB.size); have o3 := o3.below hcb o3.lt; have o4 := o4.below hcb o4.lt
    obtain ⟨W0, rfl⟩ : ∃ W0 : World, W0 = wc := ⟨_, rfl⟩
    clear HBAD hgg hgc
    cases bad
    · obtain ⟨rfl, rfl, hlim⟩ := HB2.out rfl
      obtain ⟨hwd, hfin, hfe⟩ := HLIM.out hlim
      obtain ⟨hn1, hn2, hsq⟩ := HSQ.out rfl
      obtain rfl : n = na := hn2.symm
      have hnz := HNZ.out rfl
      have HSQ2 := Lib.hid hsq
      have HL4 := Lib.hid (fq_small S hfe)
      have HCX := Lib.hid (fun w => complex64_spec L 0 S 0 w hwd hfin fin_0)
      rw [fq_nought] at HCX
      clear HB2 HLIM HSQ HNZ HP HV hwd hfin hfe hlim hsq
      go_wp2_with fail
      refine (HCX.out W0).mono ?_
      rintro e W1 ⟨_, rfl, ⟨ul, rfl, hl⟩, hb1⟩
      obtain ⟨l0, l2, la, lb, lc, ll, lm, lk, ln, lp, lq, rfl⟩ := hl.open
      have hsW1 : W0.heap.size ≤ W1.heap.size := hb1.size; have hB := hB.trans (hb1.mono hB.size); have o3 := o3.below hb1 o3.lt; have o4 := o4.below hb1 o4.lt
      go_upto_region 4 with (fail)
      obtain ⟨V, hV, o10, hBV, hSV⟩ := boxes1 W1 40 [.bool l0, .slice la ll lm, .bool l2, .slice lb lk ln, .slice lc lp lq]
      rw [← hV]
      clear hV hSV
      have hsV : W1.heap.size ≤ V.heap.size := hBV.size; have hB := hB.trans (hBV.mono hB.size); have o3 := o3.below hBV o3.lt; have o4 := o4.below hBV o4.lt; have hl := hl.below hBV (Nat.le_refl _)
      obtain ⟨l, hle⟩ : ∃ l : CQ, l = ⟨fq S, 0⟩ := ⟨_, rfl⟩
      rw [← hle] at hl
      have HL5 : Hid (Small 4000 l) := show Small _ _ by rw [hle]; exact HL4.out
      have HFIN : Hid (∀ k s o, IsHot x.a z l k s o → LevRet x z L S (.tuple #[.int .i64 (k : Int), .int .i64 (s : Int), .bool o, .int .i64 0])) := fun k s o hh => ⟨k, s, o, 0, rfl, .inr ⟨by rw [HOK.out]; rfl, rfl, hle ▸ hh⟩⟩
      clear hle HOK HL4 HCX HRET
      obtain ⟨vfr, vaa, vbb, hve, -, hA0, -⟩ := HW.out.below hB (Nat.le_refl _)
      injection hve with hve
      simp only [Array.mk.injEq, List.cons.injEq, and_true] at hve
      obtain ⟨-, hve, -⟩ := hve
      subst hve
      have HA := Lib.hid hA0
      have HZV := Lib.hid (HZ.out.below hB (Nat.le_refl _))
      have HLV := Lib.hid hl
      have HO3 := Lib.hid o3
      have HO4 := Lib.hid o4
      have HO10 := Lib.hid o10
      clear HW HZ hl hA0
      have fo3 := o3.free; have co30 := o3.cell 0 _ rfl; have co31 := o3.cell 1 _ rfl; have co32 := o3.cell 2 _ rfl
      go_wp2_with fail
      clear co30 co31 co32 fo3 o3 o4 o10
      go_loopw [40] (fun iv wr => ∃ i : Nat, i ≤ n ∧ iv = .int .i64 (i : Int) ∧ Hid (Cool x.a z l i 0) ∧ Below V.heap.size V wr) (fun i _ => n - (intOf i).toNat)
      case atStart => exact ⟨0, Nat.zero_le _, rfl, Cool.start, Below.refl _ _⟩
      case round =>
        obtain ⟨i, hi, rfl, HCool, hC⟩ := hrel
        by_cases hlt : i < n
        · obtain ⟨m, hm⟩ : ∃ m, x.a[i]? = some m := ⟨_, List.getElem?_eq_getElem (by have := HN.out; omega)⟩
          obtain ⟨hm8, hmr⟩ := HSQ2.out m (List.mem_of_getElem? hm)
          obtain ⟨ba, oa, am, cm, haa, -, e0, hmat, hcm, hcm2⟩ := (HA.out.below hC (Nat.le_refl _)).mat hm
          subst haa
          have o3 := HO3.out.below hC HO3.out.lt
          obtain ⟨p, hp⟩ : ∃ p, m.length = p := ⟨_, rfl⟩
          rw [hp] at e0 hmat hcm hm8 hmr
          have HM := Lib.hid hm
          have HPL := Lib.hid hp
          have HMR := Lib.hid hmr
          have HE0 := Lib.hid e0
          have HMat := Lib.hid hmat
          have HMS := Lib.hid (HAS.out m (List.mem_of_getElem? hm))
          clear hm hp hmr hmat
          have fo3 := o3.free; have co30 := o3.cell 0 _ rfl; have co31 := o3.cell 1 _ rfl; have co32 := o3.cell 2 _ rfl
          go_wp2_with fail
          clear co30 co31 co32 fo3 e0 o3
          obtain ⟨WR, rfl⟩ : ∃ WR : World, WR = wr := ⟨_, rfl⟩
          go_loopw [49] (fun jv wt => ∃ j : Nat, j ≤ p ∧ jv = .int .i64 (j : Int) ∧ Hid (Cool x.a z l i j) ∧ Below WR.heap.size WR wt) (fun j _ => p - (intOf j).toNat)
          case atStart => exact ⟨0, Nat.zero_le _, rfl, HCool, Below.refl _ _⟩
          case round =>
            obtain ⟨j, hj, rfl, HCj, hD⟩ := hrel
            by_cases hlj : j < p
            · obtain ⟨r, hr⟩ : ∃ r, m[j]? = some r := ⟨_, List.getElem?_eq_getElem (by have := HPL.out; omega)⟩
              have hrl := HMR.out r (List.mem_of_getElem? hr)
              obtain ⟨y, hy⟩ : ∃ y, r[j]? = some y := ⟨_, List.getElem?_eq_getElem (by omega)⟩
              have hys := HMS.out r (List.mem_of_getElem? hr) y (List.mem_of_getElem? hy)
              have hCD := hC.trans (hD.mono hC.size)
              obtain ⟨bm, om, ar, cr, ham, -, e1, hrow, hcr, hcr2⟩ := (HMat.out.below hD (Nat.le_refl _)).list hr
              subst ham
              rw [hrl] at e1 hrow hcr
              obtain ⟨br, or', y0, y2, ya, yb, yc, yl, ym, yk, yn, yp, yq, har, -, hyr, f0, f1, f2, f3, f4⟩ := hrow.num hy
              subst har
              have o3 := HO3.out.below hCD HO3.out.lt
              have o4 := HO4.out.below hCD HO4.out.lt
              have o10 := HO10.out.below hCD HO10.out.lt
              have e0 := (hD.cell (World.block_lt_of_cell? WR _ HE0.out)).trans HE0.out
              have hzt := HZV.out.below hCD (Nat.le_refl _)
              have hlt2 := HLV.out.below hCD (Nat.le_refl _)
              have HHOT := Lib.hid (hot_iff (z := z) (l := l) HM.out hr hy)
              have HPY := Lib.hid (HPW.out y hys hnz)
              have HCY := Lib.hid (HCM.out y hys hnz l HL5.out)
              obtain ⟨c, hc⟩ : ∃ c, qcmp (y.norm.div z) l = c := ⟨_, rfl⟩
              rw [hc] at HHOT HCY
              clear hc hr hrl hy hys
              go_upto_region 10 with (fail)
              refine only_of (levreg wr _ _ _ i j _ _ n ca _ _ p cm _ _ p cr c (y.norm.div z) (o3.cell 1 _ rfl) e0 e1 f0 f1 f2 f3 f4 (o4.cell 0 _ rfl) (o4.cell 1 _ rfl) (o4.cell 2 _ rfl) (o4.cell 3 _ rfl) (o4.cell 4 _ rfl) (o10.cell 0 _ rfl) (o10.cell 1 _ rfl) (o10.cell 2 _ rfl) (o10.cell 3 _ rfl) (o10.cell 4 _ rfl) hlt hlj hlj (fun W' hb => HPY.out _ _ W' (hyr.below hb (Nat.le_refl _)) (hzt.below hb (Nat.le_refl _))) (fun W' v' hb hv => HCY.out _ _ W' hv (hlt2.below hb (Nat.le_refl _))) ?_)
              intro W' x52 x53 x54 x55 x56 x57 x58 x59 x60 x61 x62 x63 x64 x65 x66 hbx
              try simp only [Exit.then]
              have hDx := hD.trans (hbx.mono hD.size)
              clear o3 o4 o10 e0 e1 f0 f1 f2 f3 f4 hzt hlt2 hyr hrow
              by_cases hpos : 0 < c
              · have HF := Lib.hid (HFIN.out i (j + 1) true (HCj.out.hot (HHOT.out.2 hpos)))
                have hB := hB.trans ((hC.trans (hDx.mono hC.size)).mono hB.size)
                clear HHOT HCj
                go_wp2_with fail
                ((try simp only [Exit.inBlock, Exit.then]); refine bodyPost_ret (results_tmp4 rfl _ _ _) rfl ?_)
                exact ⟨_, rfl, by have := HF.out; rwa [show ((j + 1 : Nat) : Int) = (j : Int) + 1 by omega] at this, hB⟩
              · have HCn : Hid (Cool x.a z l i (j + 1)) := HCj.out.next (fun hh => hpos (HHOT.out.1 hh))
                clear HHOT HCj
                go_wp2_with fail
                go_roundw
                case rel => first | exact ⟨j + 1, by omega, by go_num, HCn, hDx⟩ | ((repeat apply Exists.intro); exact ⟨⟨j + 1, by omega, by go_num, HCn, hDx⟩, rfl⟩)
                case measure => simp [intOf]; omega
            · obtain rfl : j = p := by omega
              have HCn : Hid (Cool x.a z l (i + 1) 0) := HCj.out.row HM.out HPL.out
              have hCn := hC.trans (hD.mono hC.size)
              go_wp2_with fail
              go_roundw
              case rel => first | exact ⟨i + 1, by omega, by go_num, HCn, hCn⟩ | ((repeat apply Exists.intro); exact ⟨⟨i + 1, by omega, by go_num, HCn, hCn⟩, rfl⟩) | ((repeat apply Exists.intro); exact ⟨⟨i + 1, by omega, by go_num, HCn, hCn⟩, rfl, rfl⟩) | ((repeat apply Exists.intro); exact ⟨⟨i + 1, by omega, by go_num, HCn, hCn⟩, rfl, rfl, rfl⟩)
              case measure => simp [intOf]; omega
        · obtain rfl : i = n := by omega
          have HF := Lib.hid (HFIN.out 0 0 false (HCool.out.all HN.out))
          have hB := hB.trans (hC.mono hB.size)
          go_wp2_with fail
          ((try simp only [Exit.inBlock, Exit.then]); refine bodyPost_ret (results_tmp4 rfl _ _ _) rfl ?_)
          exact ⟨_, rfl, HF.out, hB⟩
    · have HF : Hid (LevRet x z L S (.tuple #[.int .i64 0, .int .i64 0, .bool false, .int .i64 1])) := show LevRet _ _ _ _ _ from ⟨0, 0, false, 1, rfl, .inl ⟨by rw [HOK.out]; rfl, rfl, rfl, rfl, rfl⟩⟩
      go_wp2_with fail
      ((try simp only [Exit.inBlock, Exit.then]); refine bodyPost_ret (results_tmp4 rfl _ _ _) rfl ?_)
      exact ⟨_, rfl, HF.out, hB⟩
end Go.Proofs.YtfkogkcpndaoeaaGreat
namespace Go.Proofs.YtfkogkcpndaoeaaGreat
open Go.RowKit
theorem rfin64_no (b : Nat) (w : World) (hb : b < 18446744073709551616) (hf : fexp b = 2047) :
    Calls Tryz.prog 163 #[.float .f64 b] w (fun e w' => e = .returned (.bool false) ∧ w = w') := by
  have hrun := run_fb64
  have h2 := and_exp (b / 4503599627370496) (by omega)
  have hd : (b : Int) / 4503599627370496 = (b / 4503599627370496 : Nat) := by omega
  rw [show b / 4503599627370496 % 2048 = fexp b from rfl, hf] at h2
  clear hf
  generalize b / 4503599627370496 = b1 at *
  go_enter Tryz.func163, Tryz.ntmps163
  go_wp2_with fail
  go_ret
  exact ⟨rfl, rfl⟩
set_option maxRecDepth 100000 in
set_option maxHeartbeats 800000 in
theorem rcomplex_no (b c : Nat) (w : World) (hb : b < 18446744073709551616) (hfb : fexp b = 2047) :
    Calls Tryz.prog 106 #[.complex .f64 b c] w (Ret w fun w' v' => ∃ u, v' = .tuple #[u, .int .i64 1] ∧ QRep w' u (cq 0 0 1)) := by
  go_enter Tryz.func106, Tryz.ntmps106
  go_upto_region 1 with (fail)
  obtain ⟨W, hW, o1, hB, hS⟩ := boxes1 w 46 [.bool false, .slice none 0 0, .bool false, .slice none 0 0, .slice none 0 0]
  rw [← hW]
  clear hW
  go_wp2_with fail
  refine (rfin64_no b W hb hfb).mono ?_
  rintro e w' ⟨rfl, rfl⟩
  go_wp2_with fail
  refine (qwhole_spec 0 W (by omega) (by omega)).mono ?_
  rintro e W1 ⟨u, rfl, hu, hb1⟩
  obtain ⟨_, _, _, _, _, _, _, _, _, _, _, rfl⟩ := hu.open
  have hsW1 : W.heap.size ≤ W1.heap.size := hb1.size; have hB := hB.trans (hb1.mono hB.size); have o1 := o1.below hb1 o1.lt; have fo1 := o1.free; have co10 := o1.cell 0 _ rfl; have co11 := o1.cell 1 _ rfl; have co12 := o1.cell 2 _ rfl; have co13 := o1.cell 3 _ rfl; have co14 := o1.cell 4 _ rfl
  go_wp2_with fail
  have hfin := q_pair (w := w) (r := .int .i64 1) hu o1 hB (Nat.le_refl _) rfl
  exact bodyPost_ret (by simp [results, Tryz.results106, go_sem, co10, co11, co12, co13, co14]) rfl hfin
theorem rcmp_neg {x : Rat} : rcmp x 0 < 0 ↔ x < 0 := by
  unfold rcmp
  repeat' split
  all_goals grind
theorem Ret.weaken {w : World} {P Q : World → Value → Prop} {e : Ending} {w' : World} (h : Ret w P e w') (hPQ : ∀ w' v', P w' v' → Q w' v') : Ret w Q e w' := by
  obtain ⟨v, hv, hp, hb⟩ := h
  exact ⟨v, hv, hPQ _ _ hp, hb⟩
set_option maxRecDepth 100000 in
set_option maxHeartbeats 1600000 in
theorem rlim_spec (L S : Nat) (w : World) (hS : limB L = true → floatToFloatBits .f32 L .f64 = some S) :
    Calls Tryz.prog 52 #[.complex .f32 L 0] w (Ret w fun w' v' => ∃ u l E, v' = .tuple #[u, .int .i64 (E : Nat)] ∧ QRep w' u l ∧ LimR L S l E) := by
  have h00 : Widens1 0 0 := widens1 (by decide)
  rcases lim_read L with ⟨neg, mag, place, hr, hm, hp, hp2⟩ | hout
  · obtain ⟨S', hw, hlt, hexp, h1, h2⟩ := lim_widens hr hm hp hp2
    refine (rcomplex64_spec L 0 S' 0 w (widens1 hw) h00 hlt (by omega) hexp (by decide)).mono ?_
    rintro e w' ⟨_, rfl, ⟨u, rfl, hu⟩, hb⟩
    rw [fq_nought] at hu
    refine ⟨_, rfl, ⟨u, _, 0, rfl, hu, ?_⟩, hb⟩
    cases hl : limB L
    · exact .inr (.inr ⟨hl, rfl, rcmp_neg.2 (h2 hl)⟩)
    · have := hS hl
      rw [hw] at this
      injection this with this
      subst this
      exact .inl ⟨hl, rfl, rfl, fun hh => by have := rcmp_neg.1 hh; have := (h1 hl).2; exact absurd ‹fq S' < 0› (Rat.not_lt.2 this)⟩
  · have hl : limB L = false := by
      rcases hout with ⟨neg, h⟩ | ⟨neg, t, h⟩
      · exact lim_inf h
      · exact lim_nan h
    have HLR : Hid (LimR L S (cq 0 0 1) 1) := show LimR _ _ _ _ from .inr (.inl ⟨hl, rfl⟩)
    have HOUT := Lib.hid (fun w => lim_out hout w)
    have hc0 := h00
    unfold Widens1 at hc0
    clear hout hS hl h00
    go_enter Tryz.func52, Tryz.ntmps52
    go_upto_region 1 with (fail)
    obtain ⟨W, hW, o1, hB, hS⟩ := boxes1 w 46 [.bool false, .slice none 0 0, .bool false, .slice none 0 0, .slice none 0 0]
    rw [← hW]
    clear hW
    obtain ⟨T, W', hrun, hT, hTe, hWW⟩ := HOUT.out W
    have hbw : Below W.heap.size W W' := by
      rcases hWW with rfl | rfl
      · exact Below.refl _ _
      · exact (Below.refl _ _).drew
    clear hWW HOUT
    have hsW' : W.heap.size ≤ W'.heap.size := hbw.size; have hB := hB.trans (hbw.mono hB.size); have o1 := o1.below hbw o1.lt
    go_wp2_with fail
    refine (rcomplex_no T 0 W' hT hTe).mono ?_
    rintro e W1 ⟨_, rfl, ⟨u, rfl, hu⟩, hb1⟩
    obtain ⟨_, _, _, _, _, _, _, _, _, _, _, rfl⟩ := hu.open
    have hsW1 : W'.heap.size ≤ W1.heap.size := hb1.size; have hB := hB.trans (hb1.mono hB.size); have o1 := o1.below hb1 o1.lt; have fo1 := o1.free; have co10 := o1.cell 0 _ rfl; have co11 := o1.cell 1 _ rfl; have co12 := o1.cell 2 _ rfl; have co13 := o1.cell 3 _ rfl; have co14 := o1.cell 4 _ rfl
    go_wp2_with fail
    have hfin := q_pair (w := w) (r := .int .i64 1) hu o1 hB (Nat.le_refl _) rfl
    have hfin2 := Ret.weaken hfin (Q := fun w' v' => ∃ u l E, v' = .tuple #[u, .int .i64 ((E : Nat) : Int)] ∧ QRep w' u l ∧ LimR L S l E) (fun w' v' ⟨u, hv, hu⟩ => ⟨u, _, 1, hv, hu, HLR.out⟩)
    exact bodyPost_ret (by simp [results, Tryz.results52, go_sem, co10, co11, co12, co13, co14]) rfl hfin2
end Go.Proofs.YtfkogkcpndaoeaaGreat
namespace Go.Proofs.YtfkogkcpndaoeaaGreat
open Go.RowKit
set_option maxRecDepth 100000 in
set_option maxHeartbeats 6400000 in
theorem rlevel_spec (v u : Value) (x : Wv) (z : CQ) (L S k : Nat) (w : World) (h : QvT w v x) (h' : QRep w u z) (hfr : ∀ y ∈ x.fr, Small k y) (ha : ∀ m ∈ x.a, ∀ r ∈ m, ∀ y ∈ r, Small k y) (hz : Small k z) (hk : k ≤ 100000) (hS : limB L = true → floatToFloatBits .f32 L .f64 = some S) (hfe : limB L = true → fexp S ≠ 2047) :
    Calls Tryz.prog 16 #[v, u, .float .f32 L] w (Ret w fun _ v' => LevRet x z L S v') := by
  have HW := Lib.hid h
  have HZ := Lib.hid h'
  have HV := Lib.hid (fun w h => qvalidWaves_spec v x k w h hfr hk)
  have HP := Lib.hid (fun w h => by have := qpos_spec u z k w h hz (by omega); rwa [posR_eq] at this)
  have HSQ := Lib.hid (vw_sq (x := x))
  have HNZ := Lib.hid (posQ_nz (x := z))
  have HFE := Lib.hid hfe
  have HCX := Lib.hid (fun w => rlim_spec L S w hS)
  have HSG := Lib.hid (fun l v w h => qsign_spec v l w h)
  obtain ⟨K, hK⟩ : ∃ K, K = 3 * (2 * k + 1) + 4001 := ⟨_, rfl⟩
  have HPW := Lib.hid (fun (y : CQ) (hy : Small k y) (h0 : ¬ (z.re = 0 ∧ z.im = 0)) v u w h h' => qpower_spec v u y z k w h h' hy hz h0 (by omega))
  have HCM := Lib.hid (fun (y : CQ) (hy : Small k y) (h0 : ¬ (z.re = 0 ∧ z.im = 0)) (l : CQ) (hl : Small 4000 l) v u w h h' => rqcmp_spec v u (y.norm.div z) l K w h h' ((hy.norm.div (hz.mono (by omega)) h0).mono (by omega)) (hl.mono (by omega)) (by omega))
  have HAS := Lib.hid ha
  obtain ⟨vf, va, vb, rfl, hf, ha', hb⟩ := h
  obtain ⟨af, cf, rfl, hcf, hcf2⟩ := hf.dims
  obtain ⟨aa, ca, rfl, hca, hca2⟩ := ha'.dims
  obtain ⟨ab, cb, rfl, hcb, hcb2⟩ := hb.dims
  obtain ⟨z0, z2, za, zb, zc, zl, zm, zk, zn, zp, zq, rfl⟩ := h'.open
  obtain ⟨n, hn⟩ : ∃ n, x.fr.length = n := ⟨_, rfl⟩
  obtain ⟨na, hna⟩ : ∃ n, x.a.length = n := ⟨_, rfl⟩
  obtain ⟨nb, hnb⟩ : ∃ n, x.b.length = n := ⟨_, rfl⟩
  obtain ⟨lb', hlb⟩ : ∃ b, limB L = b := ⟨_, rfl⟩
  obtain ⟨vw, hvw⟩ : ∃ b, vwB x = b := ⟨_, rfl⟩
  obtain ⟨pz, hpz⟩ : ∃ b, posQ z = b := ⟨_, rfl⟩
  obtain ⟨bad, hbad⟩ : ∃ b, b = !(vw && pz && lb') := ⟨_, rfl⟩
  have HOK : Hid ((vwB x && posQ z && limB L) = !bad) := show _ = _ by rw [hvw, hpz, hlb, hbad, Bool.not_not]
  have HB2 : Hid (bad = false → vw = true ∧ pz = true ∧ limB L = true) := show _ → _ from fun hh => by
    rw [hbad, Bool.not_eq_false', Bool.and_eq_true, Bool.and_eq_true] at hh
    exact ⟨hh.1.1, hh.1.2, by rw [hlb]; exact hh.2⟩
  rw [hvw] at HV HSQ
  rw [hpz] at HP HNZ
  rw [hn, hna, hnb] at HV HW
  rw [hn] at HSQ hcf ⊢
  rw [hna] at HSQ hca ⊢
  rw [hnb] at hcb ⊢
  have HN := Lib.hid hna
  have HBAD := Lib.hid hbad
  have HLB := Lib.hid hlb
  clear hvw hpz hlb hbad hn hna hnb hK hfr ha hz hS hfe hf ha' hb h'
  go_enter Tryz.func16, Tryz.ntmps16
  go_upto_region 1 with (fail)
  obtain ⟨W, hW, o3, o4, hB, hS⟩ := boxes2 w 56 46 [.slice af n cf, .slice aa na ca, .slice ab nb cb] [.bool z0, .slice za zl zm, .bool z2, .slice zb zk zn, .slice zc zp zq]
  rw [← hW]
  clear hW hS
  go_wp2_with fail
  refine (HCX.out W).mono ?_
  rintro e W1 ⟨_, rfl, ⟨ul, l, E, rfl, hl, hlim⟩, hb1⟩
  obtain ⟨l0, l2, la, lb, lc, ll, lm, lk, ln, lp, lq, rfl⟩ := hl.open
  have HLIM := Lib.hid hlim
  clear hlim
  have hsW1 : W.heap.size ≤ W1.heap.size := hb1.size; have hB := hB.trans (hb1.mono hB.size); have o3 := o3.below hb1 o3.lt; have o4 := o4.below hb1 o4.lt
  go_upto_region 2 with (fail)
  obtain ⟨V, hV, o10, hBV, hSV⟩ := boxes1 W1 46 [.bool l0, .slice la ll lm, .bool l2, .slice lb lk ln, .slice lc lp lq]
  rw [← hV]
  clear hV hSV HCX
  have hsV : W1.heap.size ≤ V.heap.size := hBV.size; have hB := hB.trans (hBV.mono hB.size); have o3 := o3.below hBV o3.lt; have o4 := o4.below hBV o4.lt; have hl := hl.below hBV (Nat.le_refl _)
  go_cut [36] (fun s wx => s = .bool bad ∧ Below V.heap.size V wx)
  case first =>
    have hv := HW.out.below hB (Nat.le_refl _)
    have fo3 := o3.free; have co30 := o3.cell 0 _ rfl; have co31 := o3.cell 1 _ rfl; have co32 := o3.cell 2 _ rfl
    cases vw
    · obtain rfl : bad = true := by rw [HBAD.out]; rfl
      clear HBAD HOK HB2
      go_wp2_with fail
      refine (HV.out V hv).mono ?_
      rintro e W2 ⟨_, rfl, rfl, hb2⟩
      clear co30 co31 co32 fo3
      go_wp2_with fail
      go_meet
      exact ⟨rfl, hb2⟩
    · go_wp2_with fail
      refine (HV.out V hv).mono ?_
      rintro e W2 ⟨_, rfl, rfl, hb2⟩
      clear co30 co31 co32 fo3
      have o4 := o4.below hb2 o4.lt; have o10 := o10.below hb2 o10.lt; have hl := hl.below hb2 (Nat.le_refl _)
      have hz1 := HZ.out.below (hB.trans (hb2.mono hB.size)) (Nat.le_refl _)
      have fo4 := o4.free; have co40 := o4.cell 0 _ rfl; have co41 := o4.cell 1 _ rfl; have co42 := o4.cell 2 _ rfl; have co43 := o4.cell 3 _ rfl; have co44 := o4.cell 4 _ rfl
      cases pz
      · obtain rfl : bad = true := by rw [HBAD.out]; rfl
        clear HBAD HOK HB2
        go_wp2_with fail
        refine (HP.out W2 hz1).mono ?_
        rintro e W3 ⟨_, rfl, rfl, hb3⟩
        clear co40 co41 co42 co43 co44 fo4
        go_wp2_with fail
        go_meet
        exact ⟨rfl, hb2.trans (hb3.mono hb2.size)⟩
      · go_wp2_with fail
        refine (HP.out W2 hz1).mono ?_
        rintro e W3 ⟨_, rfl, rfl, hb3⟩
        clear co40 co41 co42 co43 co44 fo4
        have o10 := o10.below hb3 o10.lt; have hl := hl.below hb3 (Nat.le_refl _)
        have hb4 := hb2.trans (hb3.mono hb2.size)
        rcases HLIM.out with ⟨g1, rfl, -, g4⟩ | ⟨g1, rfl⟩ | ⟨g1, rfl, g4⟩
        · obtain rfl : bad = false := by rw [HBAD.out, ← HLB.out, g1]; rfl
          clear HBAD HOK HB2 HLIM
          have fo10 := o10.free; have co100 := o10.cell 0 _ rfl; have co101 := o10.cell 1 _ rfl; have co102 := o10.cell 2 _ rfl; have co103 := o10.cell 3 _ rfl; have co104 := o10.cell 4 _ rfl
          go_wp2_with fail
          refine (HSG.out l _ W3 hl).mono ?_
          rintro e W4 ⟨_, rfl, rfl, hb5⟩
          clear co100 co101 co102 co103 co104 fo10
          generalize rcmp l.re 0 = c0 at *
          have hc0 : 0 ≤ c0 := by omega
          go_wp2_with fail
          go_meet
          exact ⟨by first | rfl | (congr 1; simp; omega), hb4.trans (hb5.mono hb4.size)⟩
        · obtain rfl : bad = true := by rw [HBAD.out, ← HLB.out, g1]; rfl
          clear HBAD HOK HB2 HLIM
          go_wp2_with fail
          go_meet
          exact ⟨rfl, hb4⟩
        · obtain rfl : bad = true := by rw [HBAD.out, ← HLB.out, g1]; rfl
          clear HBAD HOK HB2 HLIM
          have fo10 := o10.free; have co100 := o10.cell 0 _ rfl; have co101 := o10.cell 1 _ rfl; have co102 := o10.cell 2 _ rfl; have co103 := o10.cell 3 _ rfl; have co104 := o10.cell 4 _ rfl
          go_wp2_with fail
          refine (HSG.out l _ W3 hl).mono ?_
          rintro e W4 ⟨_, rfl, rfl, hb5⟩
          clear co100 co101 co102 co103 co104 fo10
          generalize rcmp l.re 0 = c0 at *
          go_wp2_with fail
          go_meet
          exact ⟨by first | rfl | (congr 1; simp; omega), hb4.trans (hb5.mono hb4.size)⟩
  case rest =>
    obtain ⟨rfl, hcb⟩ := hcut
    have hscV : V.heap.size ≤ wc.heap.size := hcb.size; have hB := hB.trans (hcb.mono hB.size); have o3 := o3.below hcb o3.lt; have o4 := o4.below hcb o4.lt; have o10 := o10.below hcb o10.lt; have hl := hl.below hcb (Nat.le_refl _)
    obtain ⟨W0, rfl⟩ : ∃ W0 : World, W0 = wc := ⟨_, rfl⟩
    clear HBAD
    cases bad
    · obtain ⟨rfl, rfl, hlim⟩ := HB2.out rfl
      obtain ⟨hn1, hn2, hsq⟩ := HSQ.out rfl
      obtain rfl : n = na := hn2.symm
      have hnz := HNZ.out rfl
      have hle : l = ⟨fq S, 0⟩ := by
        rcases HLIM.out with ⟨-, -, g3, -⟩ | ⟨g1, -⟩ | ⟨g1, -, -⟩
        · exact g3
        · rw [hlim] at g1; cases g1
        · rw [hlim] at g1; cases g1
      have HSQ2 := Lib.hid hsq
      have HL5 : Hid (Small 4000 l) := show Small _ _ by rw [hle]; exact fq_small S (HFE.out hlim)
      have HFIN : Hid (∀ k s o, IsHot x.a z l k s o → LevRet x z L S (.tuple #[.int .i64 (k : Int), .int .i64 (s : Int), .bool o, .int .i64 0])) := fun k s o hh => ⟨k, s, o, 0, rfl, .inr ⟨by rw [HOK.out]; rfl, rfl, hle ▸ hh⟩⟩
      clear HB2 HLIM HSQ HNZ HP HV HLB hlim hsq hle HOK
      obtain ⟨vfr, vaa, vbb, hve, -, hA0, -⟩ := HW.out.below hB (Nat.le_refl _)
      injection hve with hve
      simp only [Array.mk.injEq, List.cons.injEq, and_true] at hve
      obtain ⟨-, hve, -⟩ := hve
      subst hve
      have HA := Lib.hid hA0
      have HZV := Lib.hid (HZ.out.below hB (Nat.le_refl _))
      have HLV := Lib.hid hl
      have HO3 := Lib.hid o3
      have HO4 := Lib.hid o4
      have HO10 := Lib.hid o10
      clear HW HZ hl hA0 o3 o4 o10
      go_wp2_with fail
      go_loopw [12] (fun iv wr => ∃ i : Nat, i ≤ n ∧ iv = .int .i64 (i : Int) ∧ Hid (Cool x.a z l i 0) ∧ Below W0.heap.size W0 wr) (fun i _ => n - (intOf i).toNat)
      case atStart => exact ⟨0, Nat.zero_le _, rfl, Cool.start, Below.refl _ _⟩
      case round =>
        obtain ⟨i, hi, rfl, HCool, hC⟩ := hrel
        have o3 := HO3.out.below hC HO3.out.lt
        by_cases hlt : i < n
        · obtain ⟨m, hm⟩ : ∃ m, x.a[i]? = some m := ⟨_, List.getElem?_eq_getElem (by have := HN.out; omega)⟩
          obtain ⟨hm8, hmr⟩ := HSQ2.out m (List.mem_of_getElem? hm)
          obtain ⟨ba, oa, am, cm, haa, -, e0, hmat, hcm, hcm2⟩ := (HA.out.below hC (Nat.le_refl _)).mat hm
          subst haa
          obtain ⟨p, hp⟩ : ∃ p, m.length = p := ⟨_, rfl⟩
          rw [hp] at e0 hmat hcm hm8 hmr
          have HM := Lib.hid hm
          have HPL := Lib.hid hp
          have HMR := Lib.hid hmr
          have HE0 := Lib.hid e0
          have HMat := Lib.hid hmat
          have HMS := Lib.hid (HAS.out m (List.mem_of_getElem? hm))
          clear hm hp hmr hmat
          have fo3 := o3.free; have co30 := o3.cell 0 _ rfl; have co31 := o3.cell 1 _ rfl; have co32 := o3.cell 2 _ rfl
          go_wp2_with fail
          clear co30 co31 co32 fo3 e0 o3
          obtain ⟨WR, rfl⟩ : ∃ WR : World, WR = wr := ⟨_, rfl⟩
          go_loopw [13] (fun jv wt => ∃ j : Nat, j ≤ p ∧ jv = .int .i64 (j : Int) ∧ Hid (Cool x.a z l i j) ∧ Below WR.heap.size WR wt) (fun j _ => p - (intOf j).toNat)
          case atStart => exact ⟨0, Nat.zero_le _, rfl, HCool, Below.refl _ _⟩
          case round =>
            obtain ⟨j, hj, rfl, HCj, hD⟩ := hrel
            have hCD := hC.trans (hD.mono hC.size)
            have o3 := HO3.out.below hCD HO3.out.lt
            have e0 := (hD.cell (World.block_lt_of_cell? WR _ HE0.out)).trans HE0.out
            have fo3 := o3.free; have co30 := o3.cell 0 _ rfl; have co31 := o3.cell 1 _ rfl; have co32 := o3.cell 2 _ rfl
            by_cases hlj : j < p
            · obtain ⟨r, hr⟩ : ∃ r, m[j]? = some r := ⟨_, List.getElem?_eq_getElem (by have := HPL.out; omega)⟩
              have hrl := HMR.out r (List.mem_of_getElem? hr)
              obtain ⟨y, hy⟩ : ∃ y, r[j]? = some y := ⟨_, List.getElem?_eq_getElem (by omega)⟩
              have hys := HMS.out r (List.mem_of_getElem? hr) y (List.mem_of_getElem? hy)
              obtain ⟨bm, om, ar, cr, ham, -, e1, hrow, hcr, hcr2⟩ := (HMat.out.below hD (Nat.le_refl _)).list hr
              subst ham
              rw [hrl] at e1 hrow hcr
              obtain ⟨br, or', y0, y2, ya, yb, yc, yl, ym, yk, yn, yp, yq, har, -, hyr, f0, f1, f2, f3, f4⟩ := hrow.num hy
              subst har
              have o4 := HO4.out.below hCD HO4.out.lt
              have o10 := HO10.out.below hCD HO10.out.lt
              have hzt := HZV.out.below hCD (Nat.le_refl _)
              have hlt2 := HLV.out.below hCD (Nat.le_refl _)
              have HHOT := Lib.hid (hot_iff (z := z) (l := l) HM.out hr hy)
              have HPY := Lib.hid (HPW.out y hys hnz)
              have HCY := Lib.hid (HCM.out y hys hnz l HL5.out)
              obtain ⟨c, hc⟩ : ∃ c, qcmp (y.norm.div z) l = c := ⟨_, rfl⟩
              rw [hc] at HHOT HCY
              have HF1 := Lib.hid e1
              have HF2 := Lib.hid (And.intro f0 (And.intro f1 (And.intro f2 (And.intro f3 f4))))
              have HE1 := Lib.hid e0
              clear hc hr hrl hy hys e1 f0 f1 f2 f3 f4
              go_upto_region 10 with (fail)
              obtain ⟨f0, f1, f2, f3, f4⟩ := HF2.out
              refine only_of (rlevreg wr _ _ _ i j _ _ n ca _ _ p cm _ _ p cr c (y.norm.div z) (o3.cell 1 _ rfl) HE1.out HF1.out f0 f1 f2 f3 f4 (o4.cell 0 _ rfl) (o4.cell 1 _ rfl) (o4.cell 2 _ rfl) (o4.cell 3 _ rfl) (o4.cell 4 _ rfl) (o10.cell 0 _ rfl) (o10.cell 1 _ rfl) (o10.cell 2 _ rfl) (o10.cell 3 _ rfl) (o10.cell 4 _ rfl) hlt hlj hlj (fun W' hb => HPY.out _ _ W' (hyr.below hb (Nat.le_refl _)) (hzt.below hb (Nat.le_refl _))) (fun W' v' hb hv => HCY.out _ _ W' hv (hlt2.below hb (Nat.le_refl _))) ?_)
              intro W' x54 x55 x56 x57 x58 x59 x60 x61 x62 x63 x64 x65 x66 x67 x68 hbx
              try simp only [Exit.then]
              have hDx := hD.trans (hbx.mono hD.size)
              clear o3 o4 o10 e0 f0 f1 f2 f3 f4 hzt hlt2 hyr hrow co30 co31 co32 fo3 HF1 HF2 HE1
              by_cases hpos : 0 < c
              · have HF := Lib.hid (HFIN.out i (j + 1) true (HCj.out.hot (HHOT.out.2 hpos)))
                have hB := hB.trans ((hC.trans (hDx.mono hC.size)).mono hB.size)
                clear HHOT HCj
                go_wp2_with fail
                ((try simp only [Exit.inBlock, Exit.then]); refine bodyPost_ret (results_tmp4 rfl _ _ _) rfl ?_)
                exact ⟨_, rfl, by have := HF.out; rwa [show ((j + 1 : Nat) : Int) = (j : Int) + 1 by omega] at this, hB⟩
              · have HCn : Hid (Cool x.a z l i (j + 1)) := HCj.out.next (fun hh => hpos (HHOT.out.1 hh))
                clear HHOT HCj
                go_wp2_with fail
                go_roundw
                case rel => first | exact ⟨j + 1, by omega, by go_num, HCn, hDx⟩ | ((repeat apply Exists.intro); exact ⟨⟨j + 1, by omega, by go_num, HCn, hDx⟩, rfl⟩)
                case measure => simp [intOf]; omega
            · obtain rfl : j = p := by omega
              have HCn : Hid (Cool x.a z l (i + 1) 0) := HCj.out.row HM.out HPL.out
              have hCn := hC.trans (hD.mono hC.size)
              go_wp2_with fail
              go_roundw
              case rel => first | exact ⟨i + 1, by omega, by go_num, HCn, hCn⟩ | ((repeat apply Exists.intro); exact ⟨⟨i + 1, by omega, by go_num, HCn, hCn⟩, rfl⟩) | ((repeat apply Exists.intro); exact ⟨⟨i + 1, by omega, by go_num, HCn, hCn⟩, rfl, rfl⟩) | ((repeat apply Exists.intro); exact ⟨⟨i + 1, by omega, by go_num, HCn, hCn⟩, rfl, rfl, rfl⟩)
              case measure => simp [intOf]; omega
        · obtain rfl : i = n := by omega
          have HF := Lib.hid (HFIN.out 0 0 false (HCool.out.all HN.out))
          have hB := hB.trans (hC.mono hB.size)
          have fo3 := o3.free; have co30 := o3.cell 0 _ rfl; have co31 := o3.cell 1 _ rfl; have co32 := o3.cell 2 _ rfl
          go_wp2_with fail
          ((try simp only [Exit.inBlock, Exit.then]); refine bodyPost_ret (results_tmp4 rfl _ _ _) rfl ?_)
          exact ⟨_, rfl, HF.out, hB⟩
    · have HF : Hid (LevRet x z L S (.tuple #[.int .i64 0, .int .i64 0, .bool false, .int .i64 1])) := show LevRet _ _ _ _ _ from ⟨0, 0, false, 1, rfl, .inl ⟨by rw [HOK.out]; rfl, rfl, rfl, rfl, rfl⟩⟩
      go_wp2_with fail
      ((try simp only [Exit.inBlock, Exit.then]); refine bodyPost_ret (results_tmp4 rfl _ _ _) rfl ?_)
      exact ⟨_, rfl, HF.out, hB⟩
end Go.Proofs.YtfkogkcpndaoeaaGreat
