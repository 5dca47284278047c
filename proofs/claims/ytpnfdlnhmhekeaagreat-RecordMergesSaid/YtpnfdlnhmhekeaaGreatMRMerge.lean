/- The reference's Merge. Conditions: bits. -/
import Derived.Test.YtpnfdlnhmhekeaaGreatMMerge
import Derived.Test.YtpnfdlnhmhekeaaGreatMRCut
set_option linter.all false
namespace Go.Proofs.YtpnfdlnhmhekeaaGreat
open Go.RowKit
theorem portsN_vw {x : Wv} (h : vwB x = true) : portsN x.a = (x.a.getD 0 []).length := by
  obtain ⟨h0, -, h3, h4, -, -⟩ := vw_parts h
  unfold vwB at h
  rw [Bool.and_eq_true] at h
  have h5 := h.2
  rw [ports_square (by omega) (by omega), Bool.and_eq_true, decide_eq_true_iff] at h5
  have h6 := h5.1
  obtain ⟨m, hm⟩ : ∃ m, x.a[0]? = some m := ⟨_, List.getElem?_eq_getElem (by omega)⟩
  rw [first_len hm]
  rw [portsN_at hm] at h6 ⊢
  split at h6
  · rename_i h7
    rw [if_pos h7]
  · omega
theorem rcmp_zero {x y : Rat} : rcmp x y = 0 ↔ x = y := by
  unfold rcmp
  constructor
  · intro h
    split at h
    · cases h
    · split at h
      · cases h
      · grind
  · intro h
    subst h
    rw [if_neg (by grind), if_neg (by grind)]
theorem rcmp_3 (x y : Rat) : rcmp x y = -1 ∨ rcmp x y = 0 ∨ rcmp x y = 1 := by
  unfold rcmp
  split
  · exact .inl rfl
  · split
    · exact .inr (.inr rfl)
    · exact .inr (.inl rfl)
theorem qcmp_3 (x y : CQ) : qcmp x y = -1 ∨ qcmp x y = 0 ∨ qcmp x y = 1 := by
  unfold qcmp
  split
  · exact rcmp_3 _ _
  · exact rcmp_3 _ _
theorem cqEq_qcmp (x y : CQ) : cqEq x y = decide (qcmp x y = 0) := by
  rw [Bool.eq_iff_iff, decide_eq_true_iff]
  unfold cqEq qcmp
  rw [Bool.and_eq_true, decide_eq_true_iff, decide_eq_true_iff]
  by_cases h : rcmp x.re y.re = 0
  · rw [if_pos h, rcmp_zero]
    rw [rcmp_zero] at h
    exact ⟨fun k => k.2, fun k => ⟨h, k⟩⟩
  · rw [if_neg h]
    exact ⟨fun k => absurd (rcmp_zero.2 k.1) h, fun k => absurd k h⟩
set_option maxRecDepth 100000 in
set_option maxHeartbeats 6400000 in
theorem rmerge_spec (vv wv : Value) (v u : Wv) (e : Nat) (w : World) (hv : QvT w vv v) (hu : QvT w wv u) (hsv : ∀ y ∈ v.fr, Small e y) (hsu : ∀ y ∈ u.fr, Small e y) (he : e ≤ 100000) :
    Calls Tryz.prog 10 #[vv, wv] w (Ret w (SweepRetQ (mergeErr v u) (mergeRes v u))) := by
  have HVV := Lib.hid (fun w h => qvalidWaves_spec vv v e w h hsv he)
  have HVU := Lib.hid (fun w h => qvalidWaves_spec wv u e w h hsu he)
  have HPV := Lib.hid (vw_parts (x := v))
  have HPU := Lib.hid (vw_parts (x := u))
  have HSV := Lib.hid hsv
  have HSU := Lib.hid hsu
  have HV0 := Lib.hid hv
  have HU0 := Lib.hid hu
  clear hsv hsu
  obtain ⟨vf, va, vb, rfl, hvf, hva, hvb⟩ := hv
  obtain ⟨uf, ua, ub, rfl, huf, hua, hub⟩ := hu
  obtain ⟨afv, cfv, rfl, -, -⟩ := hvf.dims
  obtain ⟨aav, cav, rfl, -, -⟩ := hva.dims
  obtain ⟨abv, cbv, rfl, -, -⟩ := hvb.dims
  obtain ⟨afu, cfu, rfl, -, -⟩ := huf.dims
  obtain ⟨aau, cau, rfl, -, -⟩ := hua.dims
  obtain ⟨abu, cbu, rfl, -, -⟩ := hub.dims
  by_cases h1 : vwB v = true
  · by_cases h2 : vwB u = true
    · obtain ⟨hn0, hn1, hna, hnb, hfa, hfb⟩ := HPV.out h1
      obtain ⟨hm0, hm1, hma, hmb, hga, hgb⟩ := HPU.out h2
      obtain ⟨A0, hA0⟩ : ∃ A0, v.a[0]? = some A0 := ⟨_, List.getElem?_eq_getElem (by omega)⟩
      obtain ⟨B0, hB0⟩ : ∃ B0, u.a[0]? = some B0 := ⟨_, List.getElem?_eq_getElem (by omega)⟩
      obtain ⟨bf, of', _, _, _, _, _, _, _, _, _, _, _, rfl, hbf, -⟩ := hvf.num (List.getElem?_eq_getElem (show 0 < v.fr.length by omega))
      obtain ⟨bu, ou, _, _, _, _, _, _, _, _, _, _, _, rfl, hbu, -⟩ := huf.num (List.getElem?_eq_getElem (show 0 < u.fr.length by omega))
      obtain ⟨b1, o1, a1, c1, rfl, -, -, -, -, -⟩ := hva.mat hA0
      obtain ⟨b2, o2', a2, c2, rfl, -, -, -, -, -⟩ := hua.mat hB0
      obtain ⟨p, hp⟩ : ∃ p, A0.length = p := ⟨_, rfl⟩
      obtain ⟨q, hq⟩ : ∃ q, B0.length = q := ⟨_, rfl⟩
      have hd1 : (v.a.getD 0 []).length = p := by rw [first_len hA0, hp]
      have hd2 : (u.a.getD 0 []).length = q := by rw [first_len hB0, hq]
      have HPV2 := Lib.hid (portsN_vw h1)
      have HPU2 := Lib.hid (portsN_vw h2)
      rw [hd1] at HPV2
      rw [hd2] at HPU2
      have HPV3 := Lib.hid (fun W' (hb : Below w.heap.size w W') => by have := ports_spec _ v.a W' (hva.below hb lr); rwa [HPV2.out] at this)
      have HPU3 := Lib.hid (fun W' (hb : Below w.heap.size w W') => by have := ports_spec _ u.a W' (hua.below hb lr); rwa [HPU2.out] at this)
      clear HPV2 HPU2
      rw [h1] at HVV
      rw [h2] at HVU
      obtain ⟨n, hn⟩ : ∃ n, v.fr.length = n := ⟨_, rfl⟩
      obtain ⟨m, hm⟩ : ∃ m, u.fr.length = m := ⟨_, rfl⟩
      rw [hna, hnb, hn] at HVV HV0
      rw [hna, hn] at HPV3
      rw [hma, hmb, hm] at HVU HU0
      rw [hma, hm] at HPU3
      have HVF := Lib.hid hvf
      have HUF := Lib.hid huf
      rw [hn] at HVF
      rw [hm] at HUF
      have HPn := Lib.hid (show v.pts.length = n by rw [Wv.pts_len, hn])
      have HPm := Lib.hid (show u.pts.length = m by rw [Wv.pts_len, hm])
      have HPA := Lib.hid (fun i p h => Wv.pts_at (x := v) (i := i) (p := p) h hna hnb)
      have HPB := Lib.hid (fun i p h => Wv.pts_at (x := u) (i := i) (p := p) h hma hmb)
      have HLA := Lib.hid (And.intro hna hnb)
      have HLB := Lib.hid (And.intro hma hmb)
      have HFA := Lib.hid (And.intro hfa hfb)
      have HFB := Lib.hid (And.intro hga hgb)
      have HE4 := Lib.hid (show ¬ p = q → mergeErr v u = 4 ∧ mergeRes v u = Wv.of [] from fun h => by
        have hE : mergeErr v u = 4 := by unfold mergeErr; rw [if_pos ⟨h1, h2⟩, hd1, hd2, if_neg h]
        exact ⟨hE, by unfold mergeRes; rw [hE]; rfl⟩)
      have HE8 := Lib.hid (show p = q → mergeP v.pts u.pts = none → mergeErr v u = 8 ∧ mergeRes v u = Wv.of [] from fun h hn => by
        have hE : mergeErr v u = 8 := by unfold mergeErr; rw [if_pos ⟨h1, h2⟩, hd1, hd2, if_pos h, hn]
        exact ⟨hE, by unfold mergeRes; rw [hE]; rfl⟩)
      have HE0 := Lib.hid (show p = q → ∀ l, mergeP v.pts u.pts = some l → l.length ≤ 1024 → mergeErr v u = 0 ∧ mergeRes v u = Wv.of l from fun h l hl hle => by
        have hE : mergeErr v u = 0 := by unfold mergeErr; rw [if_pos ⟨h1, h2⟩, hd1, hd2, if_pos h, hl]; exact if_pos hle
        exact ⟨hE, by unfold mergeRes; rw [hE, if_pos rfl, hl]; rfl⟩)
      have HE9 := Lib.hid (show p = q → ∀ l, mergeP v.pts u.pts = some l → ¬ l.length ≤ 1024 → mergeErr v u = 9 ∧ mergeRes v u = Wv.of [] from fun h l hl hle => by
        have hE : mergeErr v u = 9 := by unfold mergeErr; rw [if_pos ⟨h1, h2⟩, hd1, hd2, if_pos h, hl]; exact if_neg hle
        exact ⟨hE, by unfold mergeRes; rw [hE]; rfl⟩)
      rw [hn] at hn0 hn1
      rw [hm] at hm0 hm1
      have HLn := Lib.hid hn
      have HLm := Lib.hid hm
      clear h1 h2 hd1 hd2 hp hq hA0 hB0 hna hnb hfa hfb hma hmb hga hgb HPV HPU hvf hva hvb huf hua hub hn hm
      generalize mergeErr v u = E at *
      generalize mergeRes v u = X at *
      rw [HLn.out, HLA.out.1, HLA.out.2, HLm.out, HLB.out.1, HLB.out.2]
      rw [HLn.out, HLm.out]
      go_enter Tryz.func10, Tryz.ntmps10
      go_upto_region 1 with (fail)
      obtain ⟨W, hW, o2, o3, o4, hB, hS⟩ := boxes3 w 37 37 37 [.slice (some ⟨bf, of', none⟩) n cfv, .slice (some ⟨b1, o1, none⟩) n cav, .slice abv n cbv] [.slice (some ⟨bu, ou, none⟩) m cfu, .slice (some ⟨b2, o2', none⟩) m cau, .slice abu m cbu] [.slice none 0 0, .slice none 0 0, .slice none 0 0]
      rw [← hW]
      clear hW
      have fo2 := o2.free; have co20 := o2.cell 0 _ rfl; have co21 := o2.cell 1 _ rfl; have co22 := o2.cell 2 _ rfl; have fo3 := o3.free; have co30 := o3.cell 0 _ rfl; have co31 := o3.cell 1 _ rfl; have co32 := o3.cell 2 _ rfl; have fo4 := o4.free; have co40 := o4.cell 0 _ rfl; have co41 := o4.cell 1 _ rfl; have co42 := o4.cell 2 _ rfl
      go_wp2_with fail
      refine (HVV.out W (HV0.out.below hB lr)).mono ?_
      rintro e1 W1 ⟨_, rfl, rfl, hb1⟩
      clear co20 co21 co22 fo2 co30 co31 co32 fo3 co40 co41 co42 fo4
      have hsW1 : W.heap.size ≤ W1.heap.size := hb1.size; have hB := hB.trans (hb1.mono hB.size); have o2 := o2.below hb1 o2.lt; have o3 := o3.below hb1 o3.lt; have o4 := o4.below hb1 o4.lt; have fo2 := o2.free; have co20 := o2.cell 0 _ rfl; have co21 := o2.cell 1 _ rfl; have co22 := o2.cell 2 _ rfl; have fo3 := o3.free; have co30 := o3.cell 0 _ rfl; have co31 := o3.cell 1 _ rfl; have co32 := o3.cell 2 _ rfl
      go_wp2_with fail
      refine (HVU.out W1 (HU0.out.below hB lr)).mono ?_
      rintro e1 W2 ⟨_, rfl, rfl, hb2⟩
      clear co20 co21 co22 fo2 co30 co31 co32 fo3
      have hsW2 : W1.heap.size ≤ W2.heap.size := hb2.size; have hB := hB.trans (hb2.mono hB.size); have o2 := o2.below hb2 o2.lt; have o3 := o3.below hb2 o3.lt; have o4 := o4.below hb2 o4.lt
      go_upto_region 3 with (fail)
      have hkd : Below W2.heap.size W2 W2.drew := (Below.refl _ _).drew
      have o2 : Own W2.drew _ _ _ := o2.below hkd o2.lt
      have o3 : Own W2.drew _ _ _ := o3.below hkd o3.lt
      have o4 : Own W2.drew _ _ _ := o4.below hkd o4.lt
      have hB := hB.drew
      have hS := And.intro (o2.cell 1 _ rfl) (o3.cell 1 _ rfl)
      have hL := True.intro
      clear hkd
      refine wp_region_late (fun w' => w'.cell? ⟨w.heap.size, 1, none⟩ = some (.slice (some ⟨b1, o1, none⟩) n cav) ∧ w'.cell? ⟨w.heap.size + 1, 1, none⟩ = some (.slice (some ⟨b2, o2', none⟩) m cau)) (fun w' => True) (fun i => false) (by kernel_rfl) ?_; try simp only [List.size_toArray, List.length_cons, List.length_nil, Nat.reduceAdd]
      generalize W2.drew = U at o2 o3 o4 hB hS ⊢
      (refine mt 0 ?_ rfl (by rfl) ?_ hS ?_; rotate_left; (intro w' h; (try dsimp only at h); go_simp; try exact rfl)); simp only [Act.put,q1,q2,q3,q4,q5,q6,q7,q8,q9]; (refine mt 1 ?_ rfl (by rfl) ?_ hS ?_; rotate_left; (intro w' h; (try dsimp only at h); go_simp; try exact rfl)); simp only [Act.put,q1,q2,q3,q4,q5,q6,q7,q8,q9]; (refine mt 3 ?_ rfl (by rfl) ?_ hS ?_; rotate_left; (intro w' h; (try dsimp only at h); go_simp; try exact rfl)); simp only [Act.put,q1,q2,q3,q4,q5,q6,q7,q8,q9]; (refine mt 4 ?_ rfl (by rfl) ?_ hS ?_; rotate_left; (intro w' h; (try dsimp only at h); go_simp; try exact rfl)); simp only [Act.put,q1,q2,q3,q4,q5,q6,q7,q8,q9]
      refine mo 2 rfl fun K hK => ?_; go_simp; go_at_call 40; (with_reducible refine (HPV3.out U (hB.mono lr)).mono ?_); rintro e1 U1 ⟨_, rfl, rfl, hpU1⟩; have hB := hB.trans (hpU1.mono hB.size); have o2 := o2.below hpU1 o2.lt; have o3 := o3.below hpU1 o3.lt; have o4 := o4.below hpU1 o4.lt; have hS := And.intro (o2.cell 1 _ rfl) (o3.cell 1 _ rfl); refine hK _ _ hS (fun _ _ => hL) ?_; clear hK K; (try simp only [Act.put,q1,q2,q3,q4,q5,q6,q7,q8,q9])
      refine mo 5 rfl fun K hK => ?_; go_simp; go_at_call 40; (with_reducible refine (HPU3.out U1 (hB.mono lr)).mono ?_); rintro e1 U2 ⟨_, rfl, rfl, hpU2⟩; have hB := hB.trans (hpU2.mono hB.size); have o2 := o2.below hpU2 o2.lt; have o3 := o3.below hpU2 o3.lt; have o4 := o4.below hpU2 o4.lt; have hS := And.intro (o2.cell 1 _ rfl) (o3.cell 1 _ rfl); refine hK _ _ hS (fun _ _ => hL) ?_; clear hK K; (try simp only [Act.put,q1,q2,q3,q4,q5,q6,q7,q8,q9])
      by_cases hpq : p = q
      · subst hpq
        have hpe : ((p : Int) != (p : Int)) = false := by simp
        (refine mt 6 ?_ rfl (by rfl) ?_ hS ?_; rotate_left; (intro w' h; (try dsimp only at h); go_simp; try exact rfl)); simp only [Act.put,q1,q2,q3,q4,q5,q6,q7,q8,q9]
        refine wpAnyM_done (by kernel_rfl) ?_ _
        have o22 := o2
        have o32 := o3
        have o42 := o4
        have hB2 := hB
        clear o2 o3 o4 hB hS hL hpe
        obtain ⟨W3, hW3⟩ : ∃ W3 : World, W3 = U2 := ⟨_, rfl⟩
        rw [← hW3] at o22 o32 o42 hB2
        rw [← hW3]
        clear hW3
        clear HE4
        have HE8' := Lib.hid (HE8.out rfl)
        have HE0' := Lib.hid (HE0.out rfl)
        have HE9' := Lib.hid (HE9.out rfl)
        clear HE8 HE0 HE9
        go_upto_region 6 with (fail)
        obtain ⟨V, hV, o6, hBV, hSV⟩ := boxes1 W3 37 [.slice none 0 0, .slice none 0 0, .slice none 0 0]
        rw [← hV]
        clear hV
        have hO0 : OutB W3 V W3.heap.size V.heap.size (Wv.of []) := ⟨_, _, _, o6, ⟨RowOf.nil _ _ _ _ _, RowOf.nil _ _ _ _ _, RowOf.nil _ _ _ _ _, .inl rfl, Nat.le_refl _⟩, o6.lt⟩
        have h3g := o42.lt
        have HV3 := Lib.hid (HV0.out.below hB2 lr)
        have HU3 := Lib.hid (HU0.out.below hB2 lr)
        have o22 := o22.below hBV o22.lt; have o32 := o32.below hBV o32.lt; have o42 := o42.below hBV o42.lt
        have hB3 := hB2.trans (hBV.mono hB2.size)
        have hw3 : w.heap.size ≤ W3.heap.size := hB2.size
        obtain ⟨g6, hg6⟩ : ∃ g6, W3.heap.size = g6 := ⟨_, rfl⟩
        have HG6 := Lib.hid hg6
        have HBV : Hid (Below g6 W3 V) := hg6 ▸ hBV
        rw [hg6] at h3g hw3 hO0 ⊢
        have hbase : g6 < V.heap.size := by rw [← hg6]; exact o6.lt
        clear o6 hBV hSV hg6 hB2
        go_wp2_with fail
        go_loopw [7, 8] (fun si sk wr => ∃ (i k : Nat) (P : List Pt), i ≤ n ∧ k ≤ m ∧ si = .int .i64 (i : Int) ∧ sk = .int .i64 (k : Int) ∧ OutB W3 wr g6 V.heap.size (Wv.of P) ∧ P.length = i + k ∧ Below g6 V wr ∧ Hid (mergeP v.pts u.pts = (mergeP (v.pts.drop i) (u.pts.drop k)).map (P ++ ·))) (fun si sk _ => (n - (intOf si).toNat) + (m - (intOf sk).toNat))
        case atStart => exact ⟨0, 0, [], Nat.zero_le _, Nat.zero_le _, rfl, rfl, hO0, rfl, Below.refl _ _, (by simp : mergeP v.pts u.pts = (mergeP (v.pts.drop 0) (u.pts.drop 0)).map ([] ++ ·))⟩
        case round =>
          clear hO0
          obtain ⟨i, k, P, hi, hk, rfl, rfl, hO, hPl, hBL, hM⟩ := hrel
          have r2 := o22.below hBL (by omega)
          have r3 := o32.below hBL (by omega)
          have z4 := o42.below hBL (by omega)
          have hBW : Below w.heap.size w wr := hB3.trans (hBL.mono hw3)
          by_cases hin : i < n
          · obtain ⟨X1, hX1⟩ : ∃ x, v.pts[i]? = some x := ⟨_, List.getElem?_eq_getElem (by have := HPn.out; omega)⟩
            have KX := Lib.hid (HPA.out i X1 hX1)
            have hin1 : (i : Int) < (n : Int) := by omega
            have hin0 : (0 : Int) ≤ (i : Int) := by omega
            by_cases hkm : k < m
            · obtain ⟨Y1, hY1⟩ : ∃ x, u.pts[k]? = some x := ⟨_, List.getElem?_eq_getElem (by have := HPm.out; omega)⟩
              have KY := Lib.hid (HPB.out k Y1 hY1)
              have hkm1 : (k : Int) < (m : Int) := by omega
              have hkm0 : (0 : Int) ≤ (k : Int) := by omega
              have hkme : ((k : Int) == (m : Int)) = false := by simp; omega
              have hsx := HSV.out _ (List.mem_of_getElem? KX.out.1)
              have hsy := HSU.out _ (List.mem_of_getElem? KY.out.1)
              have HSAME := Lib.hid (fun a b w h1 h2 => qsame_spec a b X1.f Y1.f w h1 h2)
              have HCMP := Lib.hid (fun a b w h1 h2 => rqcmp_spec a b X1.f Y1.f e w h1 h2 hsx hsy (by omega))
              have HEQ := Lib.hid (cqEq_qcmp X1.f Y1.f)
              clear hsx hsy
              obtain ⟨b', o', s0, s2, a1', a3, a4, j1, m1, j3, m3, j4, m4, hab, hbe, hrep, e0, e1, e2, e3, e4⟩ := (HVF.out.below hBW lr).num KX.out.1
              injection hab with hab
              injection hab with hb1' ho1' _
              subst hb1' ho1'
              obtain ⟨b'', o'', t0, t2, d1, d3, d4, p1, r1, p3, r3', p4, r4, hab2, hbf, hrep2, f0, f1, f2, f3, f4⟩ := (HUF.out.below hBW lr).num KY.out.1
              injection hab2 with hab2
              injection hab2 with hb2' ho2' _
              subst hb2' ho2'
              have fr2 := r2.free; have cr20 := r2.cell 0 _ rfl; have cr21 := r2.cell 1 _ rfl; have cr22 := r2.cell 2 _ rfl; have fr3 := r3.free; have cr30 := r3.cell 0 _ rfl; have cr31 := r3.cell 1 _ rfl; have cr32 := r3.cell 2 _ rfl
              go_upto_region 8 with (fail)
              clear cr20 cr21 cr22 fr2 cr30 cr31 cr32 fr3
              have hkd : Below wr.heap.size wr wr.drew := (Below.refl _ _).drew
              have HS := Lib.hid (show ∀ w' : World, Own w' 37 w.heap.size [.slice (some ⟨bf, of', none⟩) n cfv, .slice (some ⟨b1, o1, none⟩) n cav, .slice abv n cbv] → Own w' 37 (w.heap.size + 1) [.slice (some ⟨bu, ou, none⟩) m cfu, .slice (some ⟨b2, o2', none⟩) m cau, .slice abu m cbu] → Below wr.heap.size wr w' → w'.cell? ⟨w.heap.size, 0, none⟩ = some (.slice (some ⟨bf, of', none⟩) n cfv) ∧ w'.cell? ⟨w.heap.size + 1, 0, none⟩ = some (.slice (some ⟨bu, ou, none⟩) m cfu) ∧ w'.cell? ⟨bf, of' + i * 5, none⟩ = some (.bool s0) ∧ w'.cell? ⟨bf, of' + i * 5 + 1, none⟩ = some (.slice a1' j1 m1) ∧ w'.cell? ⟨bf, of' + i * 5 + 2, none⟩ = some (.bool s2) ∧ w'.cell? ⟨bf, of' + i * 5 + 3, none⟩ = some (.slice a3 j3 m3) ∧ w'.cell? ⟨bf, of' + i * 5 + 4, none⟩ = some (.slice a4 j4 m4) ∧ w'.cell? ⟨bu, ou + k * 5, none⟩ = some (.bool t0) ∧ w'.cell? ⟨bu, ou + k * 5 + 1, none⟩ = some (.slice d1 p1 r1) ∧ w'.cell? ⟨bu, ou + k * 5 + 2, none⟩ = some (.bool t2) ∧ w'.cell? ⟨bu, ou + k * 5 + 3, none⟩ = some (.slice d3 p3 r3') ∧ w'.cell? ⟨bu, ou + k * 5 + 4, none⟩ = some (.slice d4 p4 r4) from fun w' h2 h3 hb => ⟨h2.cell 0 _ rfl, h3.cell 0 _ rfl, (hb.cell hbe).trans e0, (hb.cell hbe).trans e1, (hb.cell hbe).trans e2, (hb.cell hbe).trans e3, (hb.cell hbe).trans e4, (hb.cell hbf).trans f0, (hb.cell hbf).trans f1, (hb.cell hbf).trans f2, (hb.cell hbf).trans f3, (hb.cell hbf).trans f4⟩)
              have r2 : Own wr.drew _ _ _ := r2.below hkd r2.lt
              have r3 : Own wr.drew _ _ _ := r3.below hkd r3.lt
              have z4 : Own wr.drew _ _ _ := z4.below hkd z4.lt
              have hO := hO.below hkd
              have hrep := hrep.below hkd lr
              have hrep2 := hrep2.below hkd lr
              have hBW := hBW.drew
              have hBL := hBL.drew
              have hbw := hkd
              have hS := HS.out _ r2 r3 hbw
              have hL := True.intro
              clear e0 e1 e2 e3 e4 f0 f1 f2 f3 f4 hbe hbf
              clear hkd
              refine wp_region_late (fun w' => w'.cell? ⟨w.heap.size, 0, none⟩ = some (.slice (some ⟨bf, of', none⟩) n cfv) ∧ w'.cell? ⟨w.heap.size + 1, 0, none⟩ = some (.slice (some ⟨bu, ou, none⟩) m cfu) ∧ w'.cell? ⟨bf, of' + i * 5, none⟩ = some (.bool s0) ∧ w'.cell? ⟨bf, of' + i * 5 + 1, none⟩ = some (.slice a1' j1 m1) ∧ w'.cell? ⟨bf, of' + i * 5 + 2, none⟩ = some (.bool s2) ∧ w'.cell? ⟨bf, of' + i * 5 + 3, none⟩ = some (.slice a3 j3 m3) ∧ w'.cell? ⟨bf, of' + i * 5 + 4, none⟩ = some (.slice a4 j4 m4) ∧ w'.cell? ⟨bu, ou + k * 5, none⟩ = some (.bool t0) ∧ w'.cell? ⟨bu, ou + k * 5 + 1, none⟩ = some (.slice d1 p1 r1) ∧ w'.cell? ⟨bu, ou + k * 5 + 2, none⟩ = some (.bool t2) ∧ w'.cell? ⟨bu, ou + k * 5 + 3, none⟩ = some (.slice d3 p3 r3') ∧ w'.cell? ⟨bu, ou + k * 5 + 4, none⟩ = some (.slice d4 p4 r4)) (fun w' => True) (fun i => false) (by kernel_rfl) ?_; try simp only [List.size_toArray, List.length_cons, List.length_nil, Nat.reduceAdd]
              generalize wr.drew = U at r2 r3 z4 hO hrep hrep2 hBW hBL hbw hS ⊢
              (refine mt 0 ?_ rfl (by rfl) ?_ hS ?_; rotate_left; (intro w' h; (try dsimp only at h); go_simp; try exact rfl)); simp only [Act.put,q1,q2,q3,q4,q5,q6,q7,q8,q9]; (refine mt 1 ?_ rfl (by rfl) ?_ hS ?_; rotate_left; (intro w' h; (try dsimp only at h); go_simp; try exact rfl)); simp only [Act.put,q1,q2,q3,q4,q5,q6,q7,q8,q9]; (refine mt 2 ?_ rfl (by rfl) ?_ hS ?_; rotate_left; (intro w' h; (try dsimp only at h); go_simp; try exact rfl)); simp only [Act.put,q1,q2,q3,q4,q5,q6,q7,q8,q9]; (refine mt 3 ?_ rfl (by rfl) ?_ hS ?_; rotate_left; (intro w' h; (try dsimp only at h); go_simp; try exact rfl)); simp only [Act.put,q1,q2,q3,q4,q5,q6,q7,q8,q9]; (refine mt 4 ?_ rfl (by rfl) ?_ hS ?_; rotate_left; (intro w' h; (try dsimp only at h); go_simp; try exact rfl)); simp only [Act.put,q1,q2,q3,q4,q5,q6,q7,q8,q9]; (refine mt 5 ?_ rfl (by rfl) ?_ hS ?_; rotate_left; (intro w' h; (try dsimp only at h); go_simp; try exact rfl)); simp only [Act.put,q1,q2,q3,q4,q5,q6,q7,q8,q9]; (refine mt 6 ?_ rfl (by rfl) ?_ hS ?_; rotate_left; (intro w' h; (try dsimp only at h); go_simp; try exact rfl)); simp only [Act.put,q1,q2,q3,q4,q5,q6,q7,q8,q9]; (refine mt 7 ?_ rfl (by rfl) ?_ hS ?_; rotate_left; (intro w' h; (try dsimp only at h); go_simp; try exact rfl)); simp only [Act.put,q1,q2,q3,q4,q5,q6,q7,q8,q9]; (refine mt 8 ?_ rfl (by rfl) ?_ hS ?_; rotate_left; (intro w' h; (try dsimp only at h); go_simp; try exact rfl)); simp only [Act.put,q1,q2,q3,q4,q5,q6,q7,q8,q9]; (refine mt 9 ?_ rfl (by rfl) ?_ hS ?_; rotate_left; (intro w' h; (try dsimp only at h); go_simp; try exact rfl)); simp only [Act.put,q1,q2,q3,q4,q5,q6,q7,q8,q9]; (refine mt 10 ?_ rfl (by rfl) ?_ hS ?_; rotate_left; (intro w' h; (try dsimp only at h); go_simp; try exact rfl)); simp only [Act.put,q1,q2,q3,q4,q5,q6,q7,q8,q9]; (refine mt 11 ?_ rfl (by rfl) ?_ hS ?_; rotate_left; (intro w' h; (try dsimp only at h); go_simp; try exact rfl)); simp only [Act.put,q1,q2,q3,q4,q5,q6,q7,q8,q9]; (refine mt 12 ?_ rfl (by rfl) ?_ hS ?_; rotate_left; (intro w' h; (try dsimp only at h); go_simp; try exact rfl)); simp only [Act.put,q1,q2,q3,q4,q5,q6,q7,q8,q9]; (refine mt 13 ?_ rfl (by rfl) ?_ hS ?_; rotate_left; (intro w' h; (try dsimp only at h); go_simp; try exact rfl)); simp only [Act.put,q1,q2,q3,q4,q5,q6,q7,q8,q9]; (refine mt 14 ?_ rfl (by rfl) ?_ hS ?_; rotate_left; (intro w' h; (try dsimp only at h); go_simp; try exact rfl)); simp only [Act.put,q1,q2,q3,q4,q5,q6,q7,q8,q9]; (refine mt 15 ?_ rfl (by rfl) ?_ hS ?_; rotate_left; (intro w' h; (try dsimp only at h); go_simp; try exact rfl)); simp only [Act.put,q1,q2,q3,q4,q5,q6,q7,q8,q9]; (refine mt 16 ?_ rfl (by rfl) ?_ hS ?_; rotate_left; (intro w' h; (try dsimp only at h); go_simp; try exact rfl)); simp only [Act.put,q1,q2,q3,q4,q5,q6,q7,q8,q9]; (refine mt 17 ?_ rfl (by rfl) ?_ hS ?_; rotate_left; (intro w' h; (try dsimp only at h); go_simp; try exact rfl)); simp only [Act.put,q1,q2,q3,q4,q5,q6,q7,q8,q9]; (refine mt 18 ?_ rfl (by rfl) ?_ hS ?_; rotate_left; (intro w' h; (try dsimp only at h); go_simp; try exact rfl)); simp only [Act.put,q1,q2,q3,q4,q5,q6,q7,q8,q9]; (refine mt 19 ?_ rfl (by rfl) ?_ hS ?_; rotate_left; (intro w' h; (try dsimp only at h); go_simp; try exact rfl)); simp only [Act.put,q1,q2,q3,q4,q5,q6,q7,q8,q9]; (refine mt 20 ?_ rfl (by rfl) ?_ hS ?_; rotate_left; (intro w' h; (try dsimp only at h); go_simp; try exact rfl)); simp only [Act.put,q1,q2,q3,q4,q5,q6,q7,q8,q9]; (refine mt 21 ?_ rfl (by rfl) ?_ hS ?_; rotate_left; (intro w' h; (try dsimp only at h); go_simp; try exact rfl)); simp only [Act.put,q1,q2,q3,q4,q5,q6,q7,q8,q9]; (refine mt 22 ?_ rfl (by rfl) ?_ hS ?_; rotate_left; (intro w' h; (try dsimp only at h); go_simp; try exact rfl)); simp only [Act.put,q1,q2,q3,q4,q5,q6,q7,q8,q9]
              refine mo 23 rfl fun K hK => ?_; go_simp; go_at_call 41; (with_reducible refine (HSAME.out _ _ U hrep hrep2).mono ?_); rintro e1 Z1 ⟨_, rfl, rfl, hcZ1⟩; have hbw := hbw.trans (hcZ1.mono hbw.size); have r2 := r2.below hcZ1 r2.lt; have r3 := r3.below hcZ1 r3.lt; have z4 := z4.below hcZ1 z4.lt; have hO := hO.below hcZ1; have hBW := hBW.trans (hcZ1.mono hBW.size); have hBL := hBL.trans (hcZ1.mono (by have := hBL.size; omega)); have hS := HS.out _ r2 r3 hbw; refine hK _ _ hS (fun _ _ => hL) ?_; clear hK K; (try simp only [Act.put,q1,q2,q3,q4,q5,q6,q7,q8,q9])
              rw [HEQ.out]
              obtain ⟨z, hz⟩ : ∃ z, qcmp X1.f Y1.f = z := ⟨_, rfl⟩
              rw [hz] at HCMP ⊢
              by_cases hz0 : z = 0
              · subst hz0
                rw [decide_eq_true rfl]
                (refine mt 24 ?_ rfl (by rfl) ?_ hS ?_; rotate_left; (intro w' h; (try dsimp only at h); go_simp; try exact rfl)); simp only [Act.put,q1,q2,q3,q4,q5,q6,q7,q8,q9]
                refine wpAnyM_done (by kernel_rfl) ?_ _
                clear HS hS hL hbw
                have hno := hM.out
                rw [mergeP_twice hX1 hY1 hz] at hno
                obtain ⟨rfl, rfl⟩ := HE8'.out hno
                clear hno hM hX1 hY1 hO hz KX KY HE8' HE0' HE9' r2 r3 hrep hrep2 HCMP HSAME
                have fz4 := z4.free; have cz40 := z4.cell 0 _ rfl; have cz41 := z4.cell 1 _ rfl; have cz42 := z4.cell 2 _ rfl
                go_wp2_with fail
                exact bodyPost_ret (by simp [results, Tryz.results10, go_sem, cz40, cz41, cz42]) rfl ⟨_, rfl, ⟨_, rfl, zeroQ _⟩, below3 hBW (by omega)⟩
              · rw [decide_eq_false hz0]
                (refine mt 24 ?_ rfl (by rfl) ?_ hS ?_; rotate_left; (intro w' h; (try dsimp only at h); go_simp; try exact rfl)); simp only [Act.put,q1,q2,q3,q4,q5,q6,q7,q8,q9]
                refine wpAnyM_done (by kernel_rfl) ?_ _
                clear HS hS hL hbw hrep hrep2 HSAME
                obtain ⟨b', o', s0, s2, a1', a3, a4, j1, m1, j3, m3, j4, m4, hab, hbe, hrep, e0, e1, e2, e3, e4⟩ := (HVF.out.below hBW lr).num KX.out.1
                injection hab with hab
                injection hab with hb1' ho1' _
                subst hb1' ho1'
                obtain ⟨b'', o'', t0, t2, d1, d3, d4, p1, r1, p3, r3', p4, r4, hab2, hbf, hrep2, f0, f1, f2, f3, f4⟩ := (HUF.out.below hBW lr).num KY.out.1
                injection hab2 with hab2
                injection hab2 with hb2' ho2' _
                subst hb2' ho2'
                have fr2 := r2.free; have cr20 := r2.cell 0 _ rfl; have cr21 := r2.cell 1 _ rfl; have cr22 := r2.cell 2 _ rfl; have fr3 := r3.free; have cr30 := r3.cell 0 _ rfl; have cr31 := r3.cell 1 _ rfl; have cr32 := r3.cell 2 _ rfl
                go_upto_region 10 with (fail)
                clear cr20 cr21 cr22 fr2 cr30 cr31 cr32 fr3
                have hkd : Below Z1.heap.size Z1 Z1.drew := (Below.refl _ _).drew
                have HS := Lib.hid (show ∀ w' : World, Own w' 37 w.heap.size [.slice (some ⟨bf, of', none⟩) n cfv, .slice (some ⟨b1, o1, none⟩) n cav, .slice abv n cbv] → Own w' 37 (w.heap.size + 1) [.slice (some ⟨bu, ou, none⟩) m cfu, .slice (some ⟨b2, o2', none⟩) m cau, .slice abu m cbu] → Below Z1.heap.size Z1 w' → w'.cell? ⟨w.heap.size, 0, none⟩ = some (.slice (some ⟨bf, of', none⟩) n cfv) ∧ w'.cell? ⟨w.heap.size + 1, 0, none⟩ = some (.slice (some ⟨bu, ou, none⟩) m cfu) ∧ w'.cell? ⟨bf, of' + i * 5, none⟩ = some (.bool s0) ∧ w'.cell? ⟨bf, of' + i * 5 + 1, none⟩ = some (.slice a1' j1 m1) ∧ w'.cell? ⟨bf, of' + i * 5 + 2, none⟩ = some (.bool s2) ∧ w'.cell? ⟨bf, of' + i * 5 + 3, none⟩ = some (.slice a3 j3 m3) ∧ w'.cell? ⟨bf, of' + i * 5 + 4, none⟩ = some (.slice a4 j4 m4) ∧ w'.cell? ⟨bu, ou + k * 5, none⟩ = some (.bool t0) ∧ w'.cell? ⟨bu, ou + k * 5 + 1, none⟩ = some (.slice d1 p1 r1) ∧ w'.cell? ⟨bu, ou + k * 5 + 2, none⟩ = some (.bool t2) ∧ w'.cell? ⟨bu, ou + k * 5 + 3, none⟩ = some (.slice d3 p3 r3') ∧ w'.cell? ⟨bu, ou + k * 5 + 4, none⟩ = some (.slice d4 p4 r4) from fun w' h2 h3 hb => ⟨h2.cell 0 _ rfl, h3.cell 0 _ rfl, (hb.cell hbe).trans e0, (hb.cell hbe).trans e1, (hb.cell hbe).trans e2, (hb.cell hbe).trans e3, (hb.cell hbe).trans e4, (hb.cell hbf).trans f0, (hb.cell hbf).trans f1, (hb.cell hbf).trans f2, (hb.cell hbf).trans f3, (hb.cell hbf).trans f4⟩)
                have r2 : Own Z1.drew _ _ _ := r2.below hkd r2.lt
                have r3 : Own Z1.drew _ _ _ := r3.below hkd r3.lt
                have z4 : Own Z1.drew _ _ _ := z4.below hkd z4.lt
                have hO := hO.below hkd
                have hrep := hrep.below hkd lr
                have hrep2 := hrep2.below hkd lr
                have hBW := hBW.drew
                have hBL := hBL.drew
                have hbw := hkd
                have hS := HS.out _ r2 r3 hbw
                have hL := True.intro
                clear e0 e1 e2 e3 e4 f0 f1 f2 f3 f4 hbe hbf
                clear hkd
                refine wp_region_late (fun w' => w'.cell? ⟨w.heap.size, 0, none⟩ = some (.slice (some ⟨bf, of', none⟩) n cfv) ∧ w'.cell? ⟨w.heap.size + 1, 0, none⟩ = some (.slice (some ⟨bu, ou, none⟩) m cfu) ∧ w'.cell? ⟨bf, of' + i * 5, none⟩ = some (.bool s0) ∧ w'.cell? ⟨bf, of' + i * 5 + 1, none⟩ = some (.slice a1' j1 m1) ∧ w'.cell? ⟨bf, of' + i * 5 + 2, none⟩ = some (.bool s2) ∧ w'.cell? ⟨bf, of' + i * 5 + 3, none⟩ = some (.slice a3 j3 m3) ∧ w'.cell? ⟨bf, of' + i * 5 + 4, none⟩ = some (.slice a4 j4 m4) ∧ w'.cell? ⟨bu, ou + k * 5, none⟩ = some (.bool t0) ∧ w'.cell? ⟨bu, ou + k * 5 + 1, none⟩ = some (.slice d1 p1 r1) ∧ w'.cell? ⟨bu, ou + k * 5 + 2, none⟩ = some (.bool t2) ∧ w'.cell? ⟨bu, ou + k * 5 + 3, none⟩ = some (.slice d3 p3 r3') ∧ w'.cell? ⟨bu, ou + k * 5 + 4, none⟩ = some (.slice d4 p4 r4)) (fun w' => True) (fun i => false) (by kernel_rfl) ?_; try simp only [List.size_toArray, List.length_cons, List.length_nil, Nat.reduceAdd]
                generalize Z1.drew = U2 at r2 r3 z4 hO hrep hrep2 hBW hBL hbw hS ⊢
                (refine mt 0 ?_ rfl (by rfl) ?_ hS ?_; rotate_left; (intro w' h; (try dsimp only at h); go_simp; try exact rfl)); simp only [Act.put,q1,q2,q3,q4,q5,q6,q7,q8,q9]; (refine mt 1 ?_ rfl (by rfl) ?_ hS ?_; rotate_left; (intro w' h; (try dsimp only at h); go_simp; try exact rfl)); simp only [Act.put,q1,q2,q3,q4,q5,q6,q7,q8,q9]; (refine mt 2 ?_ rfl (by rfl) ?_ hS ?_; rotate_left; (intro w' h; (try dsimp only at h); go_simp; try exact rfl)); simp only [Act.put,q1,q2,q3,q4,q5,q6,q7,q8,q9]; (refine mt 3 ?_ rfl (by rfl) ?_ hS ?_; rotate_left; (intro w' h; (try dsimp only at h); go_simp; try exact rfl)); simp only [Act.put,q1,q2,q3,q4,q5,q6,q7,q8,q9]; (refine mt 4 ?_ rfl (by rfl) ?_ hS ?_; rotate_left; (intro w' h; (try dsimp only at h); go_simp; try exact rfl)); simp only [Act.put,q1,q2,q3,q4,q5,q6,q7,q8,q9]; (refine mt 5 ?_ rfl (by rfl) ?_ hS ?_; rotate_left; (intro w' h; (try dsimp only at h); go_simp; try exact rfl)); simp only [Act.put,q1,q2,q3,q4,q5,q6,q7,q8,q9]; (refine mt 6 ?_ rfl (by rfl) ?_ hS ?_; rotate_left; (intro w' h; (try dsimp only at h); go_simp; try exact rfl)); simp only [Act.put,q1,q2,q3,q4,q5,q6,q7,q8,q9]; (refine mt 7 ?_ rfl (by rfl) ?_ hS ?_; rotate_left; (intro w' h; (try dsimp only at h); go_simp; try exact rfl)); simp only [Act.put,q1,q2,q3,q4,q5,q6,q7,q8,q9]; (refine mt 8 ?_ rfl (by rfl) ?_ hS ?_; rotate_left; (intro w' h; (try dsimp only at h); go_simp; try exact rfl)); simp only [Act.put,q1,q2,q3,q4,q5,q6,q7,q8,q9]; (refine mt 9 ?_ rfl (by rfl) ?_ hS ?_; rotate_left; (intro w' h; (try dsimp only at h); go_simp; try exact rfl)); simp only [Act.put,q1,q2,q3,q4,q5,q6,q7,q8,q9]; (refine mt 10 ?_ rfl (by rfl) ?_ hS ?_; rotate_left; (intro w' h; (try dsimp only at h); go_simp; try exact rfl)); simp only [Act.put,q1,q2,q3,q4,q5,q6,q7,q8,q9]; (refine mt 11 ?_ rfl (by rfl) ?_ hS ?_; rotate_left; (intro w' h; (try dsimp only at h); go_simp; try exact rfl)); simp only [Act.put,q1,q2,q3,q4,q5,q6,q7,q8,q9]; (refine mt 12 ?_ rfl (by rfl) ?_ hS ?_; rotate_left; (intro w' h; (try dsimp only at h); go_simp; try exact rfl)); simp only [Act.put,q1,q2,q3,q4,q5,q6,q7,q8,q9]; (refine mt 13 ?_ rfl (by rfl) ?_ hS ?_; rotate_left; (intro w' h; (try dsimp only at h); go_simp; try exact rfl)); simp only [Act.put,q1,q2,q3,q4,q5,q6,q7,q8,q9]; (refine mt 14 ?_ rfl (by rfl) ?_ hS ?_; rotate_left; (intro w' h; (try dsimp only at h); go_simp; try exact rfl)); simp only [Act.put,q1,q2,q3,q4,q5,q6,q7,q8,q9]; (refine mt 15 ?_ rfl (by rfl) ?_ hS ?_; rotate_left; (intro w' h; (try dsimp only at h); go_simp; try exact rfl)); simp only [Act.put,q1,q2,q3,q4,q5,q6,q7,q8,q9]; (refine mt 16 ?_ rfl (by rfl) ?_ hS ?_; rotate_left; (intro w' h; (try dsimp only at h); go_simp; try exact rfl)); simp only [Act.put,q1,q2,q3,q4,q5,q6,q7,q8,q9]; (refine mt 17 ?_ rfl (by rfl) ?_ hS ?_; rotate_left; (intro w' h; (try dsimp only at h); go_simp; try exact rfl)); simp only [Act.put,q1,q2,q3,q4,q5,q6,q7,q8,q9]; (refine mt 18 ?_ rfl (by rfl) ?_ hS ?_; rotate_left; (intro w' h; (try dsimp only at h); go_simp; try exact rfl)); simp only [Act.put,q1,q2,q3,q4,q5,q6,q7,q8,q9]; (refine mt 19 ?_ rfl (by rfl) ?_ hS ?_; rotate_left; (intro w' h; (try dsimp only at h); go_simp; try exact rfl)); simp only [Act.put,q1,q2,q3,q4,q5,q6,q7,q8,q9]; (refine mt 20 ?_ rfl (by rfl) ?_ hS ?_; rotate_left; (intro w' h; (try dsimp only at h); go_simp; try exact rfl)); simp only [Act.put,q1,q2,q3,q4,q5,q6,q7,q8,q9]; (refine mt 21 ?_ rfl (by rfl) ?_ hS ?_; rotate_left; (intro w' h; (try dsimp only at h); go_simp; try exact rfl)); simp only [Act.put,q1,q2,q3,q4,q5,q6,q7,q8,q9]
                refine mo 22 rfl fun K hK => ?_; go_simp; go_at_call 42; (with_reducible refine (HCMP.out _ _ U2 hrep hrep2).mono ?_); rintro e1 Z2 ⟨_, rfl, rfl, hcZ2⟩; have hbw := hbw.trans (hcZ2.mono hbw.size); have r2 := r2.below hcZ2 r2.lt; have r3 := r3.below hcZ2 r3.lt; have z4 := z4.below hcZ2 z4.lt; have hO := hO.below hcZ2; have hBW := hBW.trans (hcZ2.mono hBW.size); have hBL := hBL.trans (hcZ2.mono (by have := hBL.size; omega)); have hS := HS.out _ r2 r3 hbw; refine hK _ _ hS (fun _ _ => hL) ?_; clear hK K; (try simp only [Act.put,q1,q2,q3,q4,q5,q6,q7,q8,q9])
                have hzc := qcmp_3 X1.f Y1.f
                rw [hz] at hzc
                by_cases hz1 : z = -1
                · subst hz1
                  (refine mt 23 ?_ rfl (by rfl) ?_ hS ?_; rotate_left; (intro w' h; (try dsimp only at h); go_simp; try exact rfl)); simp only [Act.put,q1,q2,q3,q4,q5,q6,q7,q8,q9]; (refine mt 24 ?_ rfl (by rfl) ?_ hS ?_; rotate_left; (intro w' h; (try dsimp only at h); go_simp; try exact rfl)); simp only [Act.put,q1,q2,q3,q4,q5,q6,q7,q8,q9]; (refine mt 25 ?_ rfl (by rfl) ?_ hS ?_; rotate_left; (intro w' h; (try dsimp only at h); go_simp; try exact rfl)); simp only [Act.put,q1,q2,q3,q4,q5,q6,q7,q8,q9]
                  refine wpAnyM_done (by kernel_rfl) ?_ _
                  clear HS hS hL hbw
                  have hM2 : Hid (mergeP v.pts u.pts = (mergeP (v.pts.drop (i + 1)) (u.pts.drop k)).map ((P ++ [X1]) ++ ·)) := show _ = _ by
                    have hstep := hM.out.trans (congrArg (Option.map (P ++ ·)) (mergeP_left hX1 (.inr ⟨Y1, hY1, hz⟩)))
                    rw [Option.map_map] at hstep
                    rw [hstep]
                    congr 1
                    funext l
                    simp
                  clear hX1 hY1 hz hrep hrep2 HCMP hzc z4
                  have hPl2 : (P ++ [X1]).length = i + 1 + k := by simp [hPl]; omega
                  obtain ⟨sf, sa, sb, o8, hOQ, hgb⟩ := hO
                  obtain ⟨sf1, sf3, rfl⟩ := RowOf.shape hOQ.rf
                  obtain ⟨sa1, sa3, rfl⟩ := RowOf.shape hOQ.ra
                  obtain ⟨sb1, sb3, rfl⟩ := RowOf.shape hOQ.rb
                  have HPUT := Lib.hid (point_spec V.heap.size i (i + k) _ _ _ _ v _ _ _ X1.f X1.a X1.b W3 Z2 hOQ HV3.out (by rw [HG6.out]; exact HBV.out.trans hBL) (by rw [HG6.out]; exact Nat.le_of_lt hbase) KX.out.1 KX.out.2.1 KX.out.2.2 (by simp [Wv.of, hPl]) (by simp [Wv.of, hPl]) (by simp [Wv.of, hPl]) (by omega))
                  clear hM hOQ 
                  have fr2 := r2.free; have cr20 := r2.cell 0 _ rfl; have cr21 := r2.cell 1 _ rfl; have cr22 := r2.cell 2 _ rfl; have fr3 := r3.free; have cr30 := r3.cell 0 _ rfl; have cr31 := r3.cell 1 _ rfl; have cr32 := r3.cell 2 _ rfl; have fo8 := o8.free; have co80 := o8.cell 0 _ rfl; have co81 := o8.cell 1 _ rfl; have co82 := o8.cell 2 _ rfl
                  go_wp2_with fail
                  refine HPUT.out.mono ?_
                  rintro e1 W7 ⟨sf', sa', sb', rfl, hO7, hb7⟩
                  clear cr20 cr21 cr22 cr30 cr31 cr32 fr2 fr3 r2 r3 co80 co81 co82 fo8 HPUT
                  have o8 := o8.below hb7 hgb
                  obtain ⟨tf1, tf3, rfl⟩ := RowOf.shape hO7.rf
                  obtain ⟨ta1, ta3, rfl⟩ := RowOf.shape hO7.ra
                  obtain ⟨tb1, tb3, rfl⟩ := RowOf.shape hO7.rb
                  have hO8 := OutB.store hO7 o8 hgb
                  have hsn := Wv.of_snoc P X1
                  rw [← hsn] at hO8
                  have hfin := hO8.2
                  have hBE := hBL.trans ((hb7.mono (Nat.le_of_lt hbase)).trans hfin)
                  have HO8 := Lib.hid hO8.1
                  clear hO7 hb7 hO8 hfin hsn
                  generalize ((Wv.of P).fr ++ [X1.f]).length = q8 at *
                  generalize ((Wv.of P).a ++ [X1.a]).length = q9 at *
                  generalize ((Wv.of P).b ++ [X1.b]).length = q10 at *
                  have fo8 := o8.free; have co80 := o8.cell 0 _ rfl; have co81 := o8.cell 1 _ rfl; have co82 := o8.cell 2 _ rfl
                  go_wp2_with fail
                  go_roundw
                  case rel => first | exact ⟨i + 1, k, P ++ [X1], by omega, by omega, by go_num, rfl, HO8.out, hPl2, hBE, hM2⟩ | ((repeat apply Exists.intro); exact ⟨⟨i + 1, k, P ++ [X1], by omega, by omega, by go_num, rfl, HO8.out, hPl2, hBE, hM2⟩, rfl⟩)
                  case measure => simp [intOf]; omega
                · have hz2 : ¬ (z < 0) := by omega
                  (refine mt 23 ?_ rfl (by rfl) ?_ hS ?_; rotate_left; (intro w' h; (try dsimp only at h); go_simp; try exact rfl)); simp only [Act.put,q1,q2,q3,q4,q5,q6,q7,q8,q9]; (refine mt 24 ?_ rfl (by rfl) ?_ hS ?_; rotate_left; (intro w' h; (try dsimp only at h); go_simp; try exact rfl)); simp only [Act.put,q1,q2,q3,q4,q5,q6,q7,q8,q9]; (refine mt 25 ?_ rfl (by rfl) ?_ hS ?_; rotate_left; (intro w' h; (try dsimp only at h); go_simp; try exact rfl)); simp only [Act.put,q1,q2,q3,q4,q5,q6,q7,q8,q9]
                  refine wpAnyM_done (by kernel_rfl) ?_ _
                  clear HS hS hL hbw
                  have hM2 : Hid (mergeP v.pts u.pts = (mergeP (v.pts.drop i) (u.pts.drop (k + 1))).map ((P ++ [Y1]) ++ ·)) := show _ = _ by
                    have hstep := hM.out.trans (congrArg (Option.map (P ++ ·)) (mergeP_right hY1 (.inr ⟨X1, hX1, by rw [hz]; exact hz0, by rw [hz]; exact hz1⟩)))
                    rw [Option.map_map] at hstep
                    rw [hstep]
                    congr 1
                    funext l
                    simp
                  clear hX1 hY1 hz hrep hrep2 HCMP hzc z4
                  have hPl2 : (P ++ [Y1]).length = i + (k + 1) := by simp [hPl]; omega
                  obtain ⟨sf, sa, sb, o8, hOQ, hgb⟩ := hO
                  obtain ⟨sf1, sf3, rfl⟩ := RowOf.shape hOQ.rf
                  obtain ⟨sa1, sa3, rfl⟩ := RowOf.shape hOQ.ra
                  obtain ⟨sb1, sb3, rfl⟩ := RowOf.shape hOQ.rb
                  have HPUT := Lib.hid (point_spec V.heap.size k (i + k) _ _ _ _ u _ _ _ Y1.f Y1.a Y1.b W3 Z2 hOQ HU3.out (by rw [HG6.out]; exact HBV.out.trans hBL) (by rw [HG6.out]; exact Nat.le_of_lt hbase) KY.out.1 KY.out.2.1 KY.out.2.2 (by simp [Wv.of, hPl]) (by simp [Wv.of, hPl]) (by simp [Wv.of, hPl]) (by omega))
                  clear hM hOQ 
                  have fr2 := r2.free; have cr20 := r2.cell 0 _ rfl; have cr21 := r2.cell 1 _ rfl; have cr22 := r2.cell 2 _ rfl; have fr3 := r3.free; have cr30 := r3.cell 0 _ rfl; have cr31 := r3.cell 1 _ rfl; have cr32 := r3.cell 2 _ rfl; have fo8 := o8.free; have co80 := o8.cell 0 _ rfl; have co81 := o8.cell 1 _ rfl; have co82 := o8.cell 2 _ rfl
                  go_wp2_with fail
                  refine HPUT.out.mono ?_
                  rintro e1 W7 ⟨sf', sa', sb', rfl, hO7, hb7⟩
                  clear cr20 cr21 cr22 cr30 cr31 cr32 fr2 fr3 r2 r3 co80 co81 co82 fo8 HPUT
                  have o8 := o8.below hb7 hgb
                  obtain ⟨tf1, tf3, rfl⟩ := RowOf.shape hO7.rf
                  obtain ⟨ta1, ta3, rfl⟩ := RowOf.shape hO7.ra
                  obtain ⟨tb1, tb3, rfl⟩ := RowOf.shape hO7.rb
                  have hO8 := OutB.store hO7 o8 hgb
                  have hsn := Wv.of_snoc P Y1
                  rw [← hsn] at hO8
                  have hfin := hO8.2
                  have hBE := hBL.trans ((hb7.mono (Nat.le_of_lt hbase)).trans hfin)
                  have HO8 := Lib.hid hO8.1
                  clear hO7 hb7 hO8 hfin hsn
                  generalize ((Wv.of P).fr ++ [Y1.f]).length = q8 at *
                  generalize ((Wv.of P).a ++ [Y1.a]).length = q9 at *
                  generalize ((Wv.of P).b ++ [Y1.b]).length = q10 at *
                  have fo8 := o8.free; have co80 := o8.cell 0 _ rfl; have co81 := o8.cell 1 _ rfl; have co82 := o8.cell 2 _ rfl
                  go_wp2_with fail
                  go_roundw
                  case rel => first | exact ⟨i, k + 1, P ++ [Y1], by omega, by omega, rfl, by go_num, HO8.out, hPl2, hBE, hM2⟩ | ((repeat apply Exists.intro); exact ⟨⟨i, k + 1, P ++ [Y1], by omega, by omega, rfl, by go_num, HO8.out, hPl2, hBE, hM2⟩, rfl⟩)
                  case measure => simp [intOf]; omega
            · obtain rfl : k = m := by omega
              have hkk : ¬ ((k : Int) < (k : Int)) := by omega
              have hke : ((k : Int) == (k : Int)) = true := by simp
              have fr2 := r2.free; have cr20 := r2.cell 0 _ rfl; have cr21 := r2.cell 1 _ rfl; have cr22 := r2.cell 2 _ rfl; have fr3 := r3.free; have cr30 := r3.cell 0 _ rfl; have cr31 := r3.cell 1 _ rfl; have cr32 := r3.cell 2 _ rfl
              go_upto_region 8 with (fail)
              clear cr20 cr21 cr22 fr2 cr30 cr31 cr32 fr3
              have hkd : Below wr.heap.size wr wr.drew := (Below.refl _ _).drew
              have HS := Lib.hid (show ∀ w' : World, Own w' 37 w.heap.size [.slice (some ⟨bf, of', none⟩) n cfv, .slice (some ⟨b1, o1, none⟩) n cav, .slice abv n cbv] → Own w' 37 (w.heap.size + 1) [.slice (some ⟨bu, ou, none⟩) k cfu, .slice (some ⟨b2, o2', none⟩) k cau, .slice abu k cbu] → Below wr.heap.size wr w' → w'.cell? ⟨w.heap.size, 0, none⟩ = some (.slice (some ⟨bf, of', none⟩) n cfv) ∧ w'.cell? ⟨w.heap.size + 1, 0, none⟩ = some (.slice (some ⟨bu, ou, none⟩) k cfu) from fun w' h2 h3 hb => ⟨h2.cell 0 _ rfl, h3.cell 0 _ rfl⟩)
              have r2 : Own wr.drew _ _ _ := r2.below hkd r2.lt
              have r3 : Own wr.drew _ _ _ := r3.below hkd r3.lt
              have z4 : Own wr.drew _ _ _ := z4.below hkd z4.lt
              have hO := hO.below hkd
              have hBW := hBW.drew
              have hBL := hBL.drew
              have hbw := hkd
              have hS := HS.out _ r2 r3 hbw
              have hL := True.intro
              clear hkd
              refine wp_region_late (fun w' => w'.cell? ⟨w.heap.size, 0, none⟩ = some (.slice (some ⟨bf, of', none⟩) n cfv) ∧ w'.cell? ⟨w.heap.size + 1, 0, none⟩ = some (.slice (some ⟨bu, ou, none⟩) k cfu)) (fun w' => True) (fun i => false) (by kernel_rfl) ?_; try simp only [List.size_toArray, List.length_cons, List.length_nil, Nat.reduceAdd]
              generalize wr.drew = U at r2 r3 z4 hO hBW hBL hbw hS ⊢
              (refine mt 0 ?_ rfl (by rfl) ?_ hS ?_; rotate_left; (intro w' h; (try dsimp only at h); go_simp; try exact rfl)); simp only [Act.put,q1,q2,q3,q4,q5,q6,q7,q8,q9]; (refine mt 1 ?_ rfl (by rfl) ?_ hS ?_; rotate_left; (intro w' h; (try dsimp only at h); go_simp; try exact rfl)); simp only [Act.put,q1,q2,q3,q4,q5,q6,q7,q8,q9]; (refine mt 2 ?_ rfl (by rfl) ?_ hS ?_; rotate_left; (intro w' h; (try dsimp only at h); go_simp; try exact rfl)); simp only [Act.put,q1,q2,q3,q4,q5,q6,q7,q8,q9]; (refine mt 3 ?_ rfl (by rfl) ?_ hS ?_; rotate_left; (intro w' h; (try dsimp only at h); go_simp; try exact rfl)); simp only [Act.put,q1,q2,q3,q4,q5,q6,q7,q8,q9]; (refine mt 4 ?_ rfl (by rfl) ?_ hS ?_; rotate_left; (intro w' h; (try dsimp only at h); go_simp; try exact rfl)); simp only [Act.put,q1,q2,q3,q4,q5,q6,q7,q8,q9]; (refine mt 5 ?_ rfl (by rfl) ?_ hS ?_; rotate_left; (intro w' h; (try dsimp only at h); go_simp; try exact rfl)); simp only [Act.put,q1,q2,q3,q4,q5,q6,q7,q8,q9]; (refine mt 6 ?_ rfl (by rfl) ?_ hS ?_; rotate_left; (intro w' h; (try dsimp only at h); go_simp; try exact rfl)); simp only [Act.put,q1,q2,q3,q4,q5,q6,q7,q8,q9]; (refine mt 7 ?_ rfl (by rfl) ?_ hS ?_; rotate_left; (intro w' h; (try dsimp only at h); go_simp; try exact rfl)); simp only [Act.put,q1,q2,q3,q4,q5,q6,q7,q8,q9]; (refine mt 8 ?_ rfl (by rfl) ?_ hS ?_; rotate_left; (intro w' h; (try dsimp only at h); go_simp; try exact rfl)); simp only [Act.put,q1,q2,q3,q4,q5,q6,q7,q8,q9]; (refine mt 9 ?_ rfl (by rfl) ?_ hS ?_; rotate_left; (intro w' h; (try dsimp only at h); go_simp; try exact rfl)); simp only [Act.put,q1,q2,q3,q4,q5,q6,q7,q8,q9]; (refine mt 10 ?_ rfl (by rfl) ?_ hS ?_; rotate_left; (intro w' h; (try dsimp only at h); go_simp; try exact rfl)); simp only [Act.put,q1,q2,q3,q4,q5,q6,q7,q8,q9]; (refine mt 11 ?_ rfl (by rfl) ?_ hS ?_; rotate_left; (intro w' h; (try dsimp only at h); go_simp; try exact rfl)); simp only [Act.put,q1,q2,q3,q4,q5,q6,q7,q8,q9]; (refine mt 12 ?_ rfl (by rfl) ?_ hS ?_; rotate_left; (intro w' h; (try dsimp only at h); go_simp; try exact rfl)); simp only [Act.put,q1,q2,q3,q4,q5,q6,q7,q8,q9]
              refine mk 13 rfl (by rfl) hS ?_; simp only [Act.put,q1,q2,q3,q4,q5,q6,q7,q8,q9]; refine mk 14 rfl (by rfl) hS ?_; simp only [Act.put,q1,q2,q3,q4,q5,q6,q7,q8,q9]; refine mk 15 rfl (by rfl) hS ?_; simp only [Act.put,q1,q2,q3,q4,q5,q6,q7,q8,q9]; refine mk 16 rfl (by rfl) hS ?_; simp only [Act.put,q1,q2,q3,q4,q5,q6,q7,q8,q9]; refine mk 17 rfl (by rfl) hS ?_; simp only [Act.put,q1,q2,q3,q4,q5,q6,q7,q8,q9]; refine mk 18 rfl (by rfl) hS ?_; simp only [Act.put,q1,q2,q3,q4,q5,q6,q7,q8,q9]; refine mk 19 rfl (by rfl) hS ?_; simp only [Act.put,q1,q2,q3,q4,q5,q6,q7,q8,q9]; refine mk 20 rfl (by rfl) hS ?_; simp only [Act.put,q1,q2,q3,q4,q5,q6,q7,q8,q9]; refine mk 21 rfl (by rfl) hS ?_; simp only [Act.put,q1,q2,q3,q4,q5,q6,q7,q8,q9]; refine mk 22 rfl (by rfl) hS ?_; simp only [Act.put,q1,q2,q3,q4,q5,q6,q7,q8,q9]; refine mk 23 rfl (by rfl) hS ?_; simp only [Act.put,q1,q2,q3,q4,q5,q6,q7,q8,q9]
              (refine mt 24 ?_ rfl (by rfl) ?_ hS ?_; rotate_left; (intro w' h; (try dsimp only at h); go_simp; try exact rfl)); simp only [Act.put,q1,q2,q3,q4,q5,q6,q7,q8,q9]
              refine wpAnyM_done (by kernel_rfl) ?_ _
              clear HS hS hL hbw
              have fr2 := r2.free; have cr20 := r2.cell 0 _ rfl; have cr21 := r2.cell 1 _ rfl; have cr22 := r2.cell 2 _ rfl; have fr3 := r3.free; have cr30 := r3.cell 0 _ rfl; have cr31 := r3.cell 1 _ rfl; have cr32 := r3.cell 2 _ rfl
              go_upto_region 10 with (fail)
              clear cr20 cr21 cr22 fr2 cr30 cr31 cr32 fr3
              have hkd : Below U.heap.size U U.drew := (Below.refl _ _).drew
              have HS := Lib.hid (show ∀ w' : World, Own w' 37 w.heap.size [.slice (some ⟨bf, of', none⟩) n cfv, .slice (some ⟨b1, o1, none⟩) n cav, .slice abv n cbv] → Own w' 37 (w.heap.size + 1) [.slice (some ⟨bu, ou, none⟩) k cfu, .slice (some ⟨b2, o2', none⟩) k cau, .slice abu k cbu] → Below U.heap.size U w' → w'.cell? ⟨w.heap.size, 0, none⟩ = some (.slice (some ⟨bf, of', none⟩) n cfv) ∧ w'.cell? ⟨w.heap.size + 1, 0, none⟩ = some (.slice (some ⟨bu, ou, none⟩) k cfu) from fun w' h2 h3 hb => ⟨h2.cell 0 _ rfl, h3.cell 0 _ rfl⟩)
              have r2 : Own U.drew _ _ _ := r2.below hkd r2.lt
              have r3 : Own U.drew _ _ _ := r3.below hkd r3.lt
              have z4 : Own U.drew _ _ _ := z4.below hkd z4.lt
              have hO := hO.below hkd
              have hBW := hBW.drew
              have hBL := hBL.drew
              have hbw := hkd
              have hS := HS.out _ r2 r3 hbw
              have hL := True.intro
              clear hkd
              refine wp_region_late (fun w' => w'.cell? ⟨w.heap.size, 0, none⟩ = some (.slice (some ⟨bf, of', none⟩) n cfv) ∧ w'.cell? ⟨w.heap.size + 1, 0, none⟩ = some (.slice (some ⟨bu, ou, none⟩) k cfu)) (fun w' => True) (fun i => false) (by kernel_rfl) ?_; try simp only [List.size_toArray, List.length_cons, List.length_nil, Nat.reduceAdd]
              generalize U.drew = U2 at r2 r3 z4 hO hBW hBL hbw hS ⊢
              (refine mt 0 ?_ rfl (by rfl) ?_ hS ?_; rotate_left; (intro w' h; (try dsimp only at h); go_simp; try exact rfl)); simp only [Act.put,q1,q2,q3,q4,q5,q6,q7,q8,q9]; (refine mt 1 ?_ rfl (by rfl) ?_ hS ?_; rotate_left; (intro w' h; (try dsimp only at h); go_simp; try exact rfl)); simp only [Act.put,q1,q2,q3,q4,q5,q6,q7,q8,q9]; (refine mt 2 ?_ rfl (by rfl) ?_ hS ?_; rotate_left; (intro w' h; (try dsimp only at h); go_simp; try exact rfl)); simp only [Act.put,q1,q2,q3,q4,q5,q6,q7,q8,q9]; (refine mt 3 ?_ rfl (by rfl) ?_ hS ?_; rotate_left; (intro w' h; (try dsimp only at h); go_simp; try exact rfl)); simp only [Act.put,q1,q2,q3,q4,q5,q6,q7,q8,q9]; (refine mt 4 ?_ rfl (by rfl) ?_ hS ?_; rotate_left; (intro w' h; (try dsimp only at h); go_simp; try exact rfl)); simp only [Act.put,q1,q2,q3,q4,q5,q6,q7,q8,q9]; (refine mt 5 ?_ rfl (by rfl) ?_ hS ?_; rotate_left; (intro w' h; (try dsimp only at h); go_simp; try exact rfl)); simp only [Act.put,q1,q2,q3,q4,q5,q6,q7,q8,q9]
              refine mk 6 rfl (by rfl) hS ?_; simp only [Act.put,q1,q2,q3,q4,q5,q6,q7,q8,q9]; refine mk 7 rfl (by rfl) hS ?_; simp only [Act.put,q1,q2,q3,q4,q5,q6,q7,q8,q9]; refine mk 8 rfl (by rfl) hS ?_; simp only [Act.put,q1,q2,q3,q4,q5,q6,q7,q8,q9]; refine mk 9 rfl (by rfl) hS ?_; simp only [Act.put,q1,q2,q3,q4,q5,q6,q7,q8,q9]; refine mk 10 rfl (by rfl) hS ?_; simp only [Act.put,q1,q2,q3,q4,q5,q6,q7,q8,q9]; refine mk 11 rfl (by rfl) hS ?_; simp only [Act.put,q1,q2,q3,q4,q5,q6,q7,q8,q9]; refine mk 12 rfl (by rfl) hS ?_; simp only [Act.put,q1,q2,q3,q4,q5,q6,q7,q8,q9]; refine mk 13 rfl (by rfl) hS ?_; simp only [Act.put,q1,q2,q3,q4,q5,q6,q7,q8,q9]; refine mk 14 rfl (by rfl) hS ?_; simp only [Act.put,q1,q2,q3,q4,q5,q6,q7,q8,q9]; refine mk 15 rfl (by rfl) hS ?_; simp only [Act.put,q1,q2,q3,q4,q5,q6,q7,q8,q9]; refine mk 16 rfl (by rfl) hS ?_; simp only [Act.put,q1,q2,q3,q4,q5,q6,q7,q8,q9]; refine mk 17 rfl (by rfl) hS ?_; simp only [Act.put,q1,q2,q3,q4,q5,q6,q7,q8,q9]; refine mk 18 rfl (by rfl) hS ?_; simp only [Act.put,q1,q2,q3,q4,q5,q6,q7,q8,q9]; refine mk 19 rfl (by rfl) hS ?_; simp only [Act.put,q1,q2,q3,q4,q5,q6,q7,q8,q9]; refine mk 20 rfl (by rfl) hS ?_; simp only [Act.put,q1,q2,q3,q4,q5,q6,q7,q8,q9]; refine mk 21 rfl (by rfl) hS ?_; simp only [Act.put,q1,q2,q3,q4,q5,q6,q7,q8,q9]; refine mk 22 rfl (by rfl) hS ?_; simp only [Act.put,q1,q2,q3,q4,q5,q6,q7,q8,q9]; refine mk 23 rfl (by rfl) hS ?_; simp only [Act.put,q1,q2,q3,q4,q5,q6,q7,q8,q9]; refine mk 24 rfl (by rfl) hS ?_; simp only [Act.put,q1,q2,q3,q4,q5,q6,q7,q8,q9]
              (refine mt 25 ?_ rfl (by rfl) ?_ hS ?_; rotate_left; (intro w' h; (try dsimp only at h); go_simp; try exact rfl)); simp only [Act.put,q1,q2,q3,q4,q5,q6,q7,q8,q9]
              refine wpAnyM_done (by kernel_rfl) ?_ _
              clear HS hS hL hbw
              have hM2 : Hid (mergeP v.pts u.pts = (mergeP (v.pts.drop (i + 1)) (u.pts.drop k)).map ((P ++ [X1]) ++ ·)) := show _ = _ by
                have hstep := hM.out.trans (congrArg (Option.map (P ++ ·)) (mergeP_left hX1 (.inl HPm.out)))
                rw [Option.map_map] at hstep
                rw [hstep]
                congr 1
                funext l
                simp
              clear hX1 z4
              have hPl2 : (P ++ [X1]).length = i + 1 + k := by simp [hPl]; omega
              obtain ⟨sf, sa, sb, o8, hOQ, hgb⟩ := hO
              obtain ⟨sf1, sf3, rfl⟩ := RowOf.shape hOQ.rf
              obtain ⟨sa1, sa3, rfl⟩ := RowOf.shape hOQ.ra
              obtain ⟨sb1, sb3, rfl⟩ := RowOf.shape hOQ.rb
              have HPUT := Lib.hid (point_spec V.heap.size i (i + k) _ _ _ _ v _ _ _ X1.f X1.a X1.b W3 U2 hOQ HV3.out (by rw [HG6.out]; exact HBV.out.trans hBL) (by rw [HG6.out]; exact Nat.le_of_lt hbase) KX.out.1 KX.out.2.1 KX.out.2.2 (by simp [Wv.of, hPl]) (by simp [Wv.of, hPl]) (by simp [Wv.of, hPl]) (by omega))
              clear hM hOQ 
              have fr2 := r2.free; have cr20 := r2.cell 0 _ rfl; have cr21 := r2.cell 1 _ rfl; have cr22 := r2.cell 2 _ rfl; have fr3 := r3.free; have cr30 := r3.cell 0 _ rfl; have cr31 := r3.cell 1 _ rfl; have cr32 := r3.cell 2 _ rfl; have fo8 := o8.free; have co80 := o8.cell 0 _ rfl; have co81 := o8.cell 1 _ rfl; have co82 := o8.cell 2 _ rfl
              go_wp2_with fail
              refine HPUT.out.mono ?_
              rintro e1 W7 ⟨sf', sa', sb', rfl, hO7, hb7⟩
              clear cr20 cr21 cr22 cr30 cr31 cr32 fr2 fr3 r2 r3 co80 co81 co82 fo8 HPUT
              have o8 := o8.below hb7 hgb
              obtain ⟨tf1, tf3, rfl⟩ := RowOf.shape hO7.rf
              obtain ⟨ta1, ta3, rfl⟩ := RowOf.shape hO7.ra
              obtain ⟨tb1, tb3, rfl⟩ := RowOf.shape hO7.rb
              have hO8 := OutB.store hO7 o8 hgb
              have hsn := Wv.of_snoc P X1
              rw [← hsn] at hO8
              have hfin := hO8.2
              have hBE := hBL.trans ((hb7.mono (Nat.le_of_lt hbase)).trans hfin)
              have HO8 := Lib.hid hO8.1
              clear hO7 hb7 hO8 hfin hsn
              generalize ((Wv.of P).fr ++ [X1.f]).length = q8 at *
              generalize ((Wv.of P).a ++ [X1.a]).length = q9 at *
              generalize ((Wv.of P).b ++ [X1.b]).length = q10 at *
              have fo8 := o8.free; have co80 := o8.cell 0 _ rfl; have co81 := o8.cell 1 _ rfl; have co82 := o8.cell 2 _ rfl
              go_wp2_with fail
              go_roundw
              case rel => first | exact ⟨i + 1, k, P ++ [X1], by omega, by omega, by go_num, rfl, HO8.out, hPl2, hBE, hM2⟩ | ((repeat apply Exists.intro); exact ⟨⟨i + 1, k, P ++ [X1], by omega, by omega, by go_num, rfl, HO8.out, hPl2, hBE, hM2⟩, rfl⟩)
              case measure => simp [intOf]; omega
          · obtain rfl : i = n := by omega
            by_cases hkm : k < m
            · obtain ⟨Y1, hY1⟩ : ∃ x, u.pts[k]? = some x := ⟨_, List.getElem?_eq_getElem (by have := HPm.out; omega)⟩
              have KY := Lib.hid (HPB.out k Y1 hY1)
              have hkm1 : (k : Int) < (m : Int) := by omega
              have hkm0 : (0 : Int) ≤ (k : Int) := by omega
              have hkme : ((k : Int) == (m : Int)) = false := by simp; omega
              have hii : ¬ ((i : Int) < (i : Int)) := by omega
              have fr2 := r2.free; have cr20 := r2.cell 0 _ rfl; have cr21 := r2.cell 1 _ rfl; have cr22 := r2.cell 2 _ rfl; have fr3 := r3.free; have cr30 := r3.cell 0 _ rfl; have cr31 := r3.cell 1 _ rfl; have cr32 := r3.cell 2 _ rfl
              go_upto_region 8 with (fail)
              clear cr20 cr21 cr22 fr2 cr30 cr31 cr32 fr3
              have hkd : Below wr.heap.size wr wr.drew := (Below.refl _ _).drew
              have HS := Lib.hid (show ∀ w' : World, Own w' 37 w.heap.size [.slice (some ⟨bf, of', none⟩) i cfv, .slice (some ⟨b1, o1, none⟩) i cav, .slice abv i cbv] → Own w' 37 (w.heap.size + 1) [.slice (some ⟨bu, ou, none⟩) m cfu, .slice (some ⟨b2, o2', none⟩) m cau, .slice abu m cbu] → Below wr.heap.size wr w' → w'.cell? ⟨w.heap.size, 0, none⟩ = some (.slice (some ⟨bf, of', none⟩) i cfv) ∧ w'.cell? ⟨w.heap.size + 1, 0, none⟩ = some (.slice (some ⟨bu, ou, none⟩) m cfu) from fun w' h2 h3 hb => ⟨h2.cell 0 _ rfl, h3.cell 0 _ rfl⟩)
              have r2 : Own wr.drew _ _ _ := r2.below hkd r2.lt
              have r3 : Own wr.drew _ _ _ := r3.below hkd r3.lt
              have z4 : Own wr.drew _ _ _ := z4.below hkd z4.lt
              have hO := hO.below hkd
              have hBW := hBW.drew
              have hBL := hBL.drew
              have hbw := hkd
              have hS := HS.out _ r2 r3 hbw
              have hL := True.intro
              clear hkd
              refine wp_region_late (fun w' => w'.cell? ⟨w.heap.size, 0, none⟩ = some (.slice (some ⟨bf, of', none⟩) i cfv) ∧ w'.cell? ⟨w.heap.size + 1, 0, none⟩ = some (.slice (some ⟨bu, ou, none⟩) m cfu)) (fun w' => True) (fun i => false) (by kernel_rfl) ?_; try simp only [List.size_toArray, List.length_cons, List.length_nil, Nat.reduceAdd]
              generalize wr.drew = U at r2 r3 z4 hO hBW hBL hbw hS ⊢
              (refine mt 0 ?_ rfl (by rfl) ?_ hS ?_; rotate_left; (intro w' h; (try dsimp only at h); go_simp; try exact rfl)); simp only [Act.put,q1,q2,q3,q4,q5,q6,q7,q8,q9]; (refine mt 1 ?_ rfl (by rfl) ?_ hS ?_; rotate_left; (intro w' h; (try dsimp only at h); go_simp; try exact rfl)); simp only [Act.put,q1,q2,q3,q4,q5,q6,q7,q8,q9]; (refine mt 2 ?_ rfl (by rfl) ?_ hS ?_; rotate_left; (intro w' h; (try dsimp only at h); go_simp; try exact rfl)); simp only [Act.put,q1,q2,q3,q4,q5,q6,q7,q8,q9]; (refine mt 3 ?_ rfl (by rfl) ?_ hS ?_; rotate_left; (intro w' h; (try dsimp only at h); go_simp; try exact rfl)); simp only [Act.put,q1,q2,q3,q4,q5,q6,q7,q8,q9]; (refine mt 4 ?_ rfl (by rfl) ?_ hS ?_; rotate_left; (intro w' h; (try dsimp only at h); go_simp; try exact rfl)); simp only [Act.put,q1,q2,q3,q4,q5,q6,q7,q8,q9]; (refine mt 5 ?_ rfl (by rfl) ?_ hS ?_; rotate_left; (intro w' h; (try dsimp only at h); go_simp; try exact rfl)); simp only [Act.put,q1,q2,q3,q4,q5,q6,q7,q8,q9]
              refine mk 6 rfl (by rfl) hS ?_; simp only [Act.put,q1,q2,q3,q4,q5,q6,q7,q8,q9]; refine mk 7 rfl (by rfl) hS ?_; simp only [Act.put,q1,q2,q3,q4,q5,q6,q7,q8,q9]; refine mk 8 rfl (by rfl) hS ?_; simp only [Act.put,q1,q2,q3,q4,q5,q6,q7,q8,q9]; refine mk 9 rfl (by rfl) hS ?_; simp only [Act.put,q1,q2,q3,q4,q5,q6,q7,q8,q9]; refine mk 10 rfl (by rfl) hS ?_; simp only [Act.put,q1,q2,q3,q4,q5,q6,q7,q8,q9]
              (refine mt 11 ?_ rfl (by rfl) ?_ hS ?_; rotate_left; (intro w' h; (try dsimp only at h); go_simp; try exact rfl)); simp only [Act.put,q1,q2,q3,q4,q5,q6,q7,q8,q9]; (refine mt 12 ?_ rfl (by rfl) ?_ hS ?_; rotate_left; (intro w' h; (try dsimp only at h); go_simp; try exact rfl)); simp only [Act.put,q1,q2,q3,q4,q5,q6,q7,q8,q9]
              refine mk 13 rfl (by rfl) hS ?_; simp only [Act.put,q1,q2,q3,q4,q5,q6,q7,q8,q9]; refine mk 14 rfl (by rfl) hS ?_; simp only [Act.put,q1,q2,q3,q4,q5,q6,q7,q8,q9]; refine mk 15 rfl (by rfl) hS ?_; simp only [Act.put,q1,q2,q3,q4,q5,q6,q7,q8,q9]; refine mk 16 rfl (by rfl) hS ?_; simp only [Act.put,q1,q2,q3,q4,q5,q6,q7,q8,q9]; refine mk 17 rfl (by rfl) hS ?_; simp only [Act.put,q1,q2,q3,q4,q5,q6,q7,q8,q9]; refine mk 18 rfl (by rfl) hS ?_; simp only [Act.put,q1,q2,q3,q4,q5,q6,q7,q8,q9]; refine mk 19 rfl (by rfl) hS ?_; simp only [Act.put,q1,q2,q3,q4,q5,q6,q7,q8,q9]; refine mk 20 rfl (by rfl) hS ?_; simp only [Act.put,q1,q2,q3,q4,q5,q6,q7,q8,q9]; refine mk 21 rfl (by rfl) hS ?_; simp only [Act.put,q1,q2,q3,q4,q5,q6,q7,q8,q9]; refine mk 22 rfl (by rfl) hS ?_; simp only [Act.put,q1,q2,q3,q4,q5,q6,q7,q8,q9]; refine mk 23 rfl (by rfl) hS ?_; simp only [Act.put,q1,q2,q3,q4,q5,q6,q7,q8,q9]
              (refine mt 24 ?_ rfl (by rfl) ?_ hS ?_; rotate_left; (intro w' h; (try dsimp only at h); go_simp; try exact rfl)); simp only [Act.put,q1,q2,q3,q4,q5,q6,q7,q8,q9]
              refine wpAnyM_done (by kernel_rfl) ?_ _
              clear HS hS hL hbw
              have fr2 := r2.free; have cr20 := r2.cell 0 _ rfl; have cr21 := r2.cell 1 _ rfl; have cr22 := r2.cell 2 _ rfl; have fr3 := r3.free; have cr30 := r3.cell 0 _ rfl; have cr31 := r3.cell 1 _ rfl; have cr32 := r3.cell 2 _ rfl
              go_upto_region 10 with (fail)
              clear cr20 cr21 cr22 fr2 cr30 cr31 cr32 fr3
              have hkd : Below U.heap.size U U.drew := (Below.refl _ _).drew
              have HS := Lib.hid (show ∀ w' : World, Own w' 37 w.heap.size [.slice (some ⟨bf, of', none⟩) i cfv, .slice (some ⟨b1, o1, none⟩) i cav, .slice abv i cbv] → Own w' 37 (w.heap.size + 1) [.slice (some ⟨bu, ou, none⟩) m cfu, .slice (some ⟨b2, o2', none⟩) m cau, .slice abu m cbu] → Below U.heap.size U w' → w'.cell? ⟨w.heap.size, 0, none⟩ = some (.slice (some ⟨bf, of', none⟩) i cfv) ∧ w'.cell? ⟨w.heap.size + 1, 0, none⟩ = some (.slice (some ⟨bu, ou, none⟩) m cfu) from fun w' h2 h3 hb => ⟨h2.cell 0 _ rfl, h3.cell 0 _ rfl⟩)
              have r2 : Own U.drew _ _ _ := r2.below hkd r2.lt
              have r3 : Own U.drew _ _ _ := r3.below hkd r3.lt
              have z4 : Own U.drew _ _ _ := z4.below hkd z4.lt
              have hO := hO.below hkd
              have hBW := hBW.drew
              have hBL := hBL.drew
              have hbw := hkd
              have hS := HS.out _ r2 r3 hbw
              have hL := True.intro
              clear hkd
              refine wp_region_late (fun w' => w'.cell? ⟨w.heap.size, 0, none⟩ = some (.slice (some ⟨bf, of', none⟩) i cfv) ∧ w'.cell? ⟨w.heap.size + 1, 0, none⟩ = some (.slice (some ⟨bu, ou, none⟩) m cfu)) (fun w' => True) (fun i => false) (by kernel_rfl) ?_; try simp only [List.size_toArray, List.length_cons, List.length_nil, Nat.reduceAdd]
              generalize U.drew = U2 at r2 r3 z4 hO hBW hBL hbw hS ⊢
              (refine mt 0 ?_ rfl (by rfl) ?_ hS ?_; rotate_left; (intro w' h; (try dsimp only at h); go_simp; try exact rfl)); simp only [Act.put,q1,q2,q3,q4,q5,q6,q7,q8,q9]; (refine mt 1 ?_ rfl (by rfl) ?_ hS ?_; rotate_left; (intro w' h; (try dsimp only at h); go_simp; try exact rfl)); simp only [Act.put,q1,q2,q3,q4,q5,q6,q7,q8,q9]; (refine mt 2 ?_ rfl (by rfl) ?_ hS ?_; rotate_left; (intro w' h; (try dsimp only at h); go_simp; try exact rfl)); simp only [Act.put,q1,q2,q3,q4,q5,q6,q7,q8,q9]; (refine mt 3 ?_ rfl (by rfl) ?_ hS ?_; rotate_left; (intro w' h; (try dsimp only at h); go_simp; try exact rfl)); simp only [Act.put,q1,q2,q3,q4,q5,q6,q7,q8,q9]; (refine mt 4 ?_ rfl (by rfl) ?_ hS ?_; rotate_left; (intro w' h; (try dsimp only at h); go_simp; try exact rfl)); simp only [Act.put,q1,q2,q3,q4,q5,q6,q7,q8,q9]; (refine mt 5 ?_ rfl (by rfl) ?_ hS ?_; rotate_left; (intro w' h; (try dsimp only at h); go_simp; try exact rfl)); simp only [Act.put,q1,q2,q3,q4,q5,q6,q7,q8,q9]; (refine mt 6 ?_ rfl (by rfl) ?_ hS ?_; rotate_left; (intro w' h; (try dsimp only at h); go_simp; try exact rfl)); simp only [Act.put,q1,q2,q3,q4,q5,q6,q7,q8,q9]; (refine mt 7 ?_ rfl (by rfl) ?_ hS ?_; rotate_left; (intro w' h; (try dsimp only at h); go_simp; try exact rfl)); simp only [Act.put,q1,q2,q3,q4,q5,q6,q7,q8,q9]; (refine mt 8 ?_ rfl (by rfl) ?_ hS ?_; rotate_left; (intro w' h; (try dsimp only at h); go_simp; try exact rfl)); simp only [Act.put,q1,q2,q3,q4,q5,q6,q7,q8,q9]; (refine mt 9 ?_ rfl (by rfl) ?_ hS ?_; rotate_left; (intro w' h; (try dsimp only at h); go_simp; try exact rfl)); simp only [Act.put,q1,q2,q3,q4,q5,q6,q7,q8,q9]; (refine mt 10 ?_ rfl (by rfl) ?_ hS ?_; rotate_left; (intro w' h; (try dsimp only at h); go_simp; try exact rfl)); simp only [Act.put,q1,q2,q3,q4,q5,q6,q7,q8,q9]; (refine mt 11 ?_ rfl (by rfl) ?_ hS ?_; rotate_left; (intro w' h; (try dsimp only at h); go_simp; try exact rfl)); simp only [Act.put,q1,q2,q3,q4,q5,q6,q7,q8,q9]
              refine mk 12 rfl (by rfl) hS ?_; simp only [Act.put,q1,q2,q3,q4,q5,q6,q7,q8,q9]; refine mk 13 rfl (by rfl) hS ?_; simp only [Act.put,q1,q2,q3,q4,q5,q6,q7,q8,q9]; refine mk 14 rfl (by rfl) hS ?_; simp only [Act.put,q1,q2,q3,q4,q5,q6,q7,q8,q9]; refine mk 15 rfl (by rfl) hS ?_; simp only [Act.put,q1,q2,q3,q4,q5,q6,q7,q8,q9]; refine mk 16 rfl (by rfl) hS ?_; simp only [Act.put,q1,q2,q3,q4,q5,q6,q7,q8,q9]; refine mk 17 rfl (by rfl) hS ?_; simp only [Act.put,q1,q2,q3,q4,q5,q6,q7,q8,q9]; refine mk 18 rfl (by rfl) hS ?_; simp only [Act.put,q1,q2,q3,q4,q5,q6,q7,q8,q9]; refine mk 19 rfl (by rfl) hS ?_; simp only [Act.put,q1,q2,q3,q4,q5,q6,q7,q8,q9]; refine mk 20 rfl (by rfl) hS ?_; simp only [Act.put,q1,q2,q3,q4,q5,q6,q7,q8,q9]; refine mk 21 rfl (by rfl) hS ?_; simp only [Act.put,q1,q2,q3,q4,q5,q6,q7,q8,q9]; refine mk 22 rfl (by rfl) hS ?_; simp only [Act.put,q1,q2,q3,q4,q5,q6,q7,q8,q9]; refine mk 23 rfl (by rfl) hS ?_; simp only [Act.put,q1,q2,q3,q4,q5,q6,q7,q8,q9]
              (refine mt 24 ?_ rfl (by rfl) ?_ hS ?_; rotate_left; (intro w' h; (try dsimp only at h); go_simp; try exact rfl)); simp only [Act.put,q1,q2,q3,q4,q5,q6,q7,q8,q9]; (refine mt 25 ?_ rfl (by rfl) ?_ hS ?_; rotate_left; (intro w' h; (try dsimp only at h); go_simp; try exact rfl)); simp only [Act.put,q1,q2,q3,q4,q5,q6,q7,q8,q9]
              refine wpAnyM_done (by kernel_rfl) ?_ _
              clear HS hS hL hbw
              have hM2 : Hid (mergeP v.pts u.pts = (mergeP (v.pts.drop i) (u.pts.drop (k + 1))).map ((P ++ [Y1]) ++ ·)) := show _ = _ by
                have hstep := hM.out.trans (congrArg (Option.map (P ++ ·)) (mergeP_right hY1 (.inl HPn.out)))
                rw [Option.map_map] at hstep
                rw [hstep]
                congr 1
                funext l
                simp
              clear hY1 z4
              have hPl2 : (P ++ [Y1]).length = i + (k + 1) := by simp [hPl]; omega
              obtain ⟨sf, sa, sb, o8, hOQ, hgb⟩ := hO
              obtain ⟨sf1, sf3, rfl⟩ := RowOf.shape hOQ.rf
              obtain ⟨sa1, sa3, rfl⟩ := RowOf.shape hOQ.ra
              obtain ⟨sb1, sb3, rfl⟩ := RowOf.shape hOQ.rb
              have HPUT := Lib.hid (point_spec V.heap.size k (i + k) _ _ _ _ u _ _ _ Y1.f Y1.a Y1.b W3 U2 hOQ HU3.out (by rw [HG6.out]; exact HBV.out.trans hBL) (by rw [HG6.out]; exact Nat.le_of_lt hbase) KY.out.1 KY.out.2.1 KY.out.2.2 (by simp [Wv.of, hPl]) (by simp [Wv.of, hPl]) (by simp [Wv.of, hPl]) (by omega))
              clear hM hOQ 
              have fr2 := r2.free; have cr20 := r2.cell 0 _ rfl; have cr21 := r2.cell 1 _ rfl; have cr22 := r2.cell 2 _ rfl; have fr3 := r3.free; have cr30 := r3.cell 0 _ rfl; have cr31 := r3.cell 1 _ rfl; have cr32 := r3.cell 2 _ rfl; have fo8 := o8.free; have co80 := o8.cell 0 _ rfl; have co81 := o8.cell 1 _ rfl; have co82 := o8.cell 2 _ rfl
              go_wp2_with fail
              refine HPUT.out.mono ?_
              rintro e1 W7 ⟨sf', sa', sb', rfl, hO7, hb7⟩
              clear cr20 cr21 cr22 cr30 cr31 cr32 fr2 fr3 r2 r3 co80 co81 co82 fo8 HPUT
              have o8 := o8.below hb7 hgb
              obtain ⟨tf1, tf3, rfl⟩ := RowOf.shape hO7.rf
              obtain ⟨ta1, ta3, rfl⟩ := RowOf.shape hO7.ra
              obtain ⟨tb1, tb3, rfl⟩ := RowOf.shape hO7.rb
              have hO8 := OutB.store hO7 o8 hgb
              have hsn := Wv.of_snoc P Y1
              rw [← hsn] at hO8
              have hfin := hO8.2
              have hBE := hBL.trans ((hb7.mono (Nat.le_of_lt hbase)).trans hfin)
              have HO8 := Lib.hid hO8.1
              clear hO7 hb7 hO8 hfin hsn
              generalize ((Wv.of P).fr ++ [Y1.f]).length = q8 at *
              generalize ((Wv.of P).a ++ [Y1.a]).length = q9 at *
              generalize ((Wv.of P).b ++ [Y1.b]).length = q10 at *
              have fo8 := o8.free; have co80 := o8.cell 0 _ rfl; have co81 := o8.cell 1 _ rfl; have co82 := o8.cell 2 _ rfl
              go_wp2_with fail
              go_roundw
              case rel => first | exact ⟨i, k + 1, P ++ [Y1], by omega, by omega, rfl, by go_num, HO8.out, hPl2, hBE, hM2⟩ | ((repeat apply Exists.intro); exact ⟨⟨i, k + 1, P ++ [Y1], by omega, by omega, rfl, by go_num, HO8.out, hPl2, hBE, hM2⟩, rfl⟩)
              case measure => simp [intOf]; omega
            · obtain rfl : k = m := by omega
              have hend := hM.out
              rw [mergeP_end (by have := HPn.out; omega) (by have := HPm.out; omega)] at hend
              simp only [Option.map_some, List.append_nil] at hend
              obtain ⟨sf, sa, sb, hbx, hOQ, hgb⟩ := hO
              obtain ⟨fa, fc, rfl⟩ := RowOf.shape hOQ.rf
              obtain ⟨ha, hc, rfl⟩ := RowOf.shape hOQ.ra
              obtain ⟨ia, ic, rfl⟩ := RowOf.shape hOQ.rb
              have hfl : (Wv.of P).fr.length = i + k := by simp [Wv.of, hPl]
              rw [hfl] at hOQ hbx
              have hik : i + k ≤ 100000 := by omega
              have hii : ¬ ((i : Int) < (i : Int)) := by omega
              have hkk : ¬ ((k : Int) < (k : Int)) := by omega
              by_cases hle : i + k ≤ 1024
              · obtain ⟨rfl, rfl⟩ := HE0'.out P hend (by omega)
                have hfin := outq_box hOQ (by rw [HG6.out]; exact HBV.out.trans hBL) z4 rfl
                clear hM hend HE8' HE0' HE9' hfl
                have hle' : ¬ (1024 < i + k) := by omega
                generalize i + k = ik at *
                have hle2 : ¬ ((ik : Int) > 1024) := by omega
                have hle3 : ¬ ((1024 : Int) < (ik : Int)) := by omega
                have fr2 := r2.free; have cr20 := r2.cell 0 _ rfl; have cr21 := r2.cell 1 _ rfl; have cr22 := r2.cell 2 _ rfl; have fr3 := r3.free; have cr30 := r3.cell 0 _ rfl; have cr31 := r3.cell 1 _ rfl; have cr32 := r3.cell 2 _ rfl; have fz4 := z4.free; have cz40 := z4.cell 0 _ rfl; have cz41 := z4.cell 1 _ rfl; have cz42 := z4.cell 2 _ rfl; have fhbx := hbx.free; have chbx0 := hbx.cell 0 _ rfl; have chbx1 := hbx.cell 1 _ rfl; have chbx2 := hbx.cell 2 _ rfl
                go_wp2_with fail
                exact bodyPost_ret (by simp [results, Tryz.results10, go_sem, cz40, cz41, cz42]) rfl ⟨_, rfl, ⟨_, rfl, hfin⟩, below3 hBW (by omega)⟩
              · obtain ⟨rfl, rfl⟩ := HE9'.out P hend (by omega)
                clear hM hend HE8' HE0' HE9' hfl
                have hle' : 1024 < i + k := by omega
                generalize i + k = ik at *
                have hle2 : ((ik : Int) > 1024) := by omega
                have fr2 := r2.free; have cr20 := r2.cell 0 _ rfl; have cr21 := r2.cell 1 _ rfl; have cr22 := r2.cell 2 _ rfl; have fr3 := r3.free; have cr30 := r3.cell 0 _ rfl; have cr31 := r3.cell 1 _ rfl; have cr32 := r3.cell 2 _ rfl; have fz4 := z4.free; have cz40 := z4.cell 0 _ rfl; have cz41 := z4.cell 1 _ rfl; have cz42 := z4.cell 2 _ rfl; have fhbx := hbx.free; have chbx0 := hbx.cell 0 _ rfl; have chbx1 := hbx.cell 1 _ rfl; have chbx2 := hbx.cell 2 _ rfl
                go_wp2_with fail
                exact bodyPost_ret (by simp [results, Tryz.results10, go_sem, cz40, cz41, cz42]) rfl ⟨_, rfl, ⟨_, rfl, zeroQ _⟩, below3 hBW (by omega)⟩
      · have hpq' : ((p : Int) != (q : Int)) = true := by rw [bne_iff_ne]; omega
        (refine mt 6 ?_ rfl (by rfl) ?_ hS ?_; rotate_left; (intro w' h; (try dsimp only at h); go_simp; try exact rfl)); simp only [Act.put,q1,q2,q3,q4,q5,q6,q7,q8,q9]
        refine wpAnyM_done (by kernel_rfl) ?_ _
        obtain ⟨rfl, rfl⟩ := HE4.out hpq
        clear hS hL
        have fo4 := o4.free; have co40 := o4.cell 0 _ rfl; have co41 := o4.cell 1 _ rfl; have co42 := o4.cell 2 _ rfl
        go_wp2_with fail
        exact bodyPost_ret (by simp [results, Tryz.results10, go_sem, co40, co41, co42]) rfl ⟨_, rfl, ⟨_, rfl, zeroQ _⟩, below3 hB (by omega)⟩
    · have hE : mergeErr v u = 1 := by unfold mergeErr; rw [if_neg (fun h => h2 h.2)]
      have hR : mergeRes v u = Wv.of [] := by unfold mergeRes; rw [hE]; rfl
      have h2' : vwB u = false := by simpa using h2
      rw [hE, hR]
      rw [h1] at HVV
      rw [h2'] at HVU
      clear h1 h2 h2' hE hR HPV HPU
      generalize v.fr.length = nv at *
      generalize v.a.length = nva at *
      generalize v.b.length = nvb at *
      generalize u.fr.length = nu at *
      generalize u.a.length = nua at *
      generalize u.b.length = nub at *
      clear hvf hva hvb huf hua hub
      go_enter Tryz.func10, Tryz.ntmps10
      go_upto_region 1 with (fail)
      obtain ⟨W, hW, o2, o3, o4, hB, hS⟩ := boxes3 w 37 37 37 [.slice afv nv cfv, .slice aav nva cav, .slice abv nvb cbv] [.slice afu nu cfu, .slice aau nua cau, .slice abu nub cbu] [.slice none 0 0, .slice none 0 0, .slice none 0 0]
      rw [← hW]
      clear hW
      have fo2 := o2.free; have co20 := o2.cell 0 _ rfl; have co21 := o2.cell 1 _ rfl; have co22 := o2.cell 2 _ rfl; have fo3 := o3.free; have co30 := o3.cell 0 _ rfl; have co31 := o3.cell 1 _ rfl; have co32 := o3.cell 2 _ rfl; have fo4 := o4.free; have co40 := o4.cell 0 _ rfl; have co41 := o4.cell 1 _ rfl; have co42 := o4.cell 2 _ rfl
      go_wp2_with fail
      refine (HVV.out W (HV0.out.below hB lr)).mono ?_
      rintro e1 W1 ⟨_, rfl, rfl, hb1⟩
      clear co20 co21 co22 fo2 co30 co31 co32 fo3
      have hsW1 : W.heap.size ≤ W1.heap.size := hb1.size; have hB := hB.trans (hb1.mono hB.size); have o2 := o2.below hb1 o2.lt; have o3 := o3.below hb1 o3.lt; have o4 := o4.below hb1 o4.lt; have fo2 := o2.free; have co20 := o2.cell 0 _ rfl; have co21 := o2.cell 1 _ rfl; have co22 := o2.cell 2 _ rfl; have fo3 := o3.free; have co30 := o3.cell 0 _ rfl; have co31 := o3.cell 1 _ rfl; have co32 := o3.cell 2 _ rfl; have fo4 := o4.free; have co40 := o4.cell 0 _ rfl; have co41 := o4.cell 1 _ rfl; have co42 := o4.cell 2 _ rfl
      go_wp2_with fail
      refine (HVU.out W1 (HU0.out.below hB lr)).mono ?_
      rintro e1 W2 ⟨_, rfl, rfl, hb2⟩
      clear co20 co21 co22 fo2 co30 co31 co32 fo3 co40 co41 co42 fo4
      have hsW2 : W1.heap.size ≤ W2.heap.size := hb2.size; have hB := hB.trans (hb2.mono hB.size); have o4 := o4.below hb2 o4.lt; have fo4 := o4.free; have co40 := o4.cell 0 _ rfl; have co41 := o4.cell 1 _ rfl; have co42 := o4.cell 2 _ rfl
      go_wp2_with fail
      exact bodyPost_ret (by simp [results, Tryz.results10, go_sem, co40, co41, co42]) rfl ⟨_, rfl, ⟨_, rfl, zeroQ _⟩, below3 hB (by omega)⟩
  · have hE : mergeErr v u = 1 := by unfold mergeErr; rw [if_neg (fun h => h1 h.1)]
    have hR : mergeRes v u = Wv.of [] := by unfold mergeRes; rw [hE]; rfl
    have h1' : vwB v = false := by simpa using h1
    rw [hE, hR]
    rw [h1'] at HVV
    clear h1 h1' hE hR HPV HPU
    generalize v.fr.length = nv at *
    generalize v.a.length = nva at *
    generalize v.b.length = nvb at *
    generalize u.fr.length = nu at *
    generalize u.a.length = nua at *
    generalize u.b.length = nub at *
    clear hvf hva hvb huf hua hub
    go_enter Tryz.func10, Tryz.ntmps10
    go_upto_region 1 with (fail)
    obtain ⟨W, hW, o2, o3, o4, hB, hS⟩ := boxes3 w 37 37 37 [.slice afv nv cfv, .slice aav nva cav, .slice abv nvb cbv] [.slice afu nu cfu, .slice aau nua cau, .slice abu nub cbu] [.slice none 0 0, .slice none 0 0, .slice none 0 0]
    rw [← hW]
    clear hW
    have fo2 := o2.free; have co20 := o2.cell 0 _ rfl; have co21 := o2.cell 1 _ rfl; have co22 := o2.cell 2 _ rfl; have fo3 := o3.free; have co30 := o3.cell 0 _ rfl; have co31 := o3.cell 1 _ rfl; have co32 := o3.cell 2 _ rfl; have fo4 := o4.free; have co40 := o4.cell 0 _ rfl; have co41 := o4.cell 1 _ rfl; have co42 := o4.cell 2 _ rfl
    go_wp2_with fail
    refine (HVV.out W (HV0.out.below hB lr)).mono ?_
    rintro e1 W1 ⟨_, rfl, rfl, hb1⟩
    clear co20 co21 co22 fo2 co30 co31 co32 fo3 co40 co41 co42 fo4
    have hsW1 : W.heap.size ≤ W1.heap.size := hb1.size; have hB := hB.trans (hb1.mono hB.size); have o4 := o4.below hb1 o4.lt; have fo4 := o4.free; have co40 := o4.cell 0 _ rfl; have co41 := o4.cell 1 _ rfl; have co42 := o4.cell 2 _ rfl
    go_wp2_with fail
    exact bodyPost_ret (by simp [results, Tryz.results10, go_sem, co40, co41, co42]) rfl ⟨_, rfl, ⟨_, rfl, zeroQ _⟩, below3 hB (by omega)⟩
end Go.Proofs.YtpnfdlnhmhekeaaGreat
