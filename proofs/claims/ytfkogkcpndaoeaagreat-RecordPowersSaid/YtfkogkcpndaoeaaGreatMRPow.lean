/- The reference's power of a wave. Conditions: bits. The drawn region of Level, the program's and the reference's. Conditions: what it calls, by its contracts. What Level returns, plain. Conditions: none. -/
import Derived.Test.YtfkogkcpndaoeaaGreatMLd
import Derived.Test.YtfkogkcpndaoeaaGreatMPow
import Derived.Test.YtfkogkcpndaoeaaGreatMPut
import Derived.Test.YtfkogkcpndaoeaaGreatMRDiv
import Derived.Test.YtfkogkcpndaoeaaGreatMRValid
import Derived.Test.YtfkogkcpndaoeaaGreatMVWaves
set_option linter.all false
namespace Go.Proofs.YtfkogkcpndaoeaaGreat
open Go.RowKit
set_option maxRecDepth 100000 in
set_option maxHeartbeats 1600000 in
theorem qpower_spec (v u : Value) (x z : CQ) (k : Nat) (w : World) (h : QRep w v x) (h' : QRep w u z) (hs : Small k x) (hs' : Small k z) (h0 : ¬ (z.re = 0 ∧ z.im = 0)) (hk : k ≤ 10000000000) :
    Calls Tryz.prog 44 #[v, u] w (Ret w fun w' v' => QRep w' v' (x.norm.div z)) := by
  obtain ⟨s1, s2, a1, a2, a3, l1, c1, l2, c2, l3, c3, rfl⟩ := h.open
  obtain ⟨t1, t2, p1, p2, p3, m1, n1, m2, n2, m3, n3, rfl⟩ := h'.open
  have HN := Lib.hid (fun v w h => qnorm_spec v x k w h hs (by omega))
  have HD := Lib.hid (fun v u w h h' => qdiv_nz v u x.norm z (2 * k + 1) w h h' hs.norm (hs'.mono (by omega)) h0 (by omega))
  clear hs hs' h0
  go_enter Tryz.func44, Tryz.ntmps44
  go_upto_region 1 with (fail)
  obtain ⟨W, hW, o1, o2, o4, hB, hS⟩ := boxes3 w 46 46 46 [.bool s1, .slice a1 l1 c1, .bool s2, .slice a2 l2 c2, .slice a3 l3 c3] [.bool t1, .slice p1 m1 n1, .bool t2, .slice p2 m2 n2, .slice p3 m3 n3] [.bool false, .slice none 0 0, .bool false, .slice none 0 0, .slice none 0 0]
  rw [← hW]
  clear hW
  have h := h.below hB (Nat.le_refl _); have h' := h'.below hB (Nat.le_refl _)
  go_cut [5] (fun s5 wx => QBoxW W (x.norm.div z) s5 wx)
  case first =>
    have hB := Below.refl W.heap.size W
    have qo10 := o1.cell 0 _ rfl; have qo11 := o1.cell 1 _ rfl; have qo12 := o1.cell 2 _ rfl; have qo13 := o1.cell 3 _ rfl; have qo14 := o1.cell 4 _ rfl; have qo20 := o2.cell 0 _ rfl; have qo21 := o2.cell 1 _ rfl; have qo22 := o2.cell 2 _ rfl; have qo23 := o2.cell 3 _ rfl; have qo24 := o2.cell 4 _ rfl
    have o1 : Own W.drew _ _ _ := o1; have o2 : Own W.drew _ _ _ := o2; have lto1 : _ < W.heap.size := o1.lt; have lto2 : _ < W.heap.size := o2.lt; have hB := hB.drew
    have h := h.below ((Below.refl W.heap.size W).drew) (Nat.le_refl _); have h' := h'.below ((Below.refl W.heap.size W).drew) (Nat.le_refl _)
    have tok1 : True := trivial
    have tok2 : True := trivial
    go_region_held3 (fun w' => w'.cell? ⟨w.heap.size, 0, none⟩ = some (.bool s1) ∧ w'.cell? ⟨w.heap.size, 1, none⟩ = some (.slice a1 l1 c1) ∧ w'.cell? ⟨w.heap.size, 2, none⟩ = some (.bool s2) ∧ w'.cell? ⟨w.heap.size, 3, none⟩ = some (.slice a2 l2 c2) ∧ w'.cell? ⟨w.heap.size, 4, none⟩ = some (.slice a3 l3 c3) ∧ w'.cell? ⟨w.heap.size + 1, 0, none⟩ = some (.bool t1) ∧ w'.cell? ⟨w.heap.size + 1, 1, none⟩ = some (.slice p1 m1 n1) ∧ w'.cell? ⟨w.heap.size + 1, 2, none⟩ = some (.bool t2) ∧ w'.cell? ⟨w.heap.size + 1, 3, none⟩ = some (.slice p2 m2 n2) ∧ w'.cell? ⟨w.heap.size + 1, 4, none⟩ = some (.slice p3 m3 n3)) (first | (with_reducible exact ⟨o1.cell 0 _ rfl, o1.cell 1 _ rfl, o1.cell 2 _ rfl, o1.cell 3 _ rfl, o1.cell 4 _ rfl, o2.cell 0 _ rfl, o2.cell 1 _ rfl, o2.cell 2 _ rfl, o2.cell 3 _ rfl, o2.cell 4 _ rfl⟩) | (simp [go_sem, qo10, qo11, qo12, qo13, qo14, qo20, qo21, qo22, qo23, qo24, lto1, lto2]; done))
      (first
        | (go_at_call 95; have _t := tok1; refine (HN.out _ _ (h.below (by first | exact Below.refl _ _ | exact (Below.refl _ _).alloc (Nat.le_refl _) _ | exact ((Below.refl _ _).alloc (Nat.le_refl _) _).alloc (by simp) _) (Nat.le_refl _))).mono ?_; rintro e W1 ⟨u1, rfl, hu1, hb1⟩; (try (have oN := oN.below hb1 oN.lt)); (try (first | have oN := own_behind hb1 | have oN := own_behindD hb1)); have hb1 := ext_step (W := W.drew) (by first | exact Below.refl _ _ | exact (Below.refl _ _).alloc (Nat.le_refl _) _ | exact ((Below.refl _ _).alloc (Nat.le_refl _) _).alloc (by simp) _) hb1; have hsW1 : W.heap.size ≤ W1.heap.size := hb1.size; have hB := hB.trans (hb1.mono hB.size); have o1 := o1.below hb1 o1.lt; have o2 := o2.below hb1 o2.lt; have lto1 := o1.lt; have lto2 := o2.lt; have qo10 := o1.cell 0 _ rfl; have qo11 := o1.cell 1 _ rfl; have qo12 := o1.cell 2 _ rfl; have qo13 := o1.cell 3 _ rfl; have qo14 := o1.cell 4 _ rfl; have qo20 := o2.cell 0 _ rfl; have qo21 := o2.cell 1 _ rfl; have qo22 := o2.cell 2 _ rfl; have qo23 := o2.cell 3 _ rfl; have qo24 := o2.cell 4 _ rfl; have h := h.below hb1 (Nat.le_refl _); have h' := h'.below hb1 (Nat.le_refl _); clear tok1 _t)
        | (go_at_call 94; have _t := tok2; refine (HD.out _ _ _ (hu1.below (by first | exact Below.refl _ _ | exact (Below.refl _ _).alloc (Nat.le_refl _) _ | exact ((Below.refl _ _).alloc (Nat.le_refl _) _).alloc (by simp) _) (Nat.le_refl _)) (h'.below (by first | exact Below.refl _ _ | exact (Below.refl _ _).alloc (Nat.le_refl _) _ | exact ((Below.refl _ _).alloc (Nat.le_refl _) _).alloc (by simp) _) (Nat.le_refl _))).mono ?_; rintro e W2 ⟨_, rfl, ⟨u2, rfl, hu2⟩, hb2⟩; (try (have oN := oN.below hb2 oN.lt)); (try (first | have oN := own_behind hb2 | have oN := own_behindD hb2)); have hb2 := ext_step (W := W1) (by first | exact Below.refl _ _ | exact (Below.refl _ _).alloc (Nat.le_refl _) _ | exact ((Below.refl _ _).alloc (Nat.le_refl _) _).alloc (by simp) _) hb2; have hsW2 : W1.heap.size ≤ W2.heap.size := hb2.size; have hB := hB.trans (hb2.mono hB.size); have o1 := o1.below hb2 o1.lt; have o2 := o2.below hb2 o2.lt; have lto1 := o1.lt; have lto2 := o2.lt; have qo10 := o1.cell 0 _ rfl; have qo11 := o1.cell 1 _ rfl; have qo12 := o1.cell 2 _ rfl; have qo13 := o1.cell 3 _ rfl; have qo14 := o1.cell 4 _ rfl; have qo20 := o2.cell 0 _ rfl; have qo21 := o2.cell 1 _ rfl; have qo22 := o2.cell 2 _ rfl; have qo23 := o2.cell 3 _ rfl; have qo24 := o2.cell 4 _ rfl; have h := h.below hb2 (Nat.le_refl _); have h' := h'.below hb2 (Nat.le_refl _); have hu1 := hu1.below hb2 (Nat.le_refl _); obtain ⟨_, _, _, _, _, _, _, _, _, _, _, rfl⟩ := hu2.open; (try (have foN := oN.free; have coN0 := oN.cell 0 _ rfl; have coN1 := oN.cell 1 _ rfl; have coN2 := oN.cell 2 _ rfl; have coN3 := oN.cell 3 _ rfl; have coN4 := oN.cell 4 _ rfl)); clear tok2 _t))
    all_goals go_wp2_with fail
    all_goals go_meet
    all_goals first | (with_reducible exact qboxw_new hB hu2) | (with_reducible refine qboxw_set hB hu2 oN ?_; exact (by first | exact Nat.le_refl _ | omega | (simp; done) | (simp; omega)))
  case rest =>
    obtain ⟨g5, rfl, ⟨z0, z2, d1, d3, d4, i1, j1, i3, j3, i4, j4, o5, r5⟩, hg5, hcb⟩ := hcut
    have hscW : W.heap.size ≤ wc.heap.size := hcb.size; have hB := hB.trans (hcb.mono hB.size); have o4 := o4.below hcb o4.lt
    have fo4 := o4.free; have co40 := o4.cell 0 _ rfl; have co41 := o4.cell 1 _ rfl; have co42 := o4.cell 2 _ rfl; have co43 := o4.cell 3 _ rfl; have co44 := o4.cell 4 _ rfl; have fo5 := o5.free; have co50 := o5.cell 0 _ rfl; have co51 := o5.cell 1 _ rfl; have co52 := o5.cell 2 _ rfl; have co53 := o5.cell 3 _ rfl; have co54 := o5.cell 4 _ rfl
    go_wp2_with fail
    exact bodyPost_ret (by simp [results, Tryz.results44, go_sem, co40, co41, co42, co43, co44]) rfl (q_end r5 o4 hB (by omega) rfl)
set_option maxRecDepth 100000 in
set_option maxHeartbeats 800000 in
theorem qPower_spec (v u : Value) (x z : CQ) (k : Nat) (w : World) (h : QRep w v x) (h' : QRep w u z) (hs : Small k x) (hs' : Small k z) (hk : k ≤ 100000) :
    Calls Tryz.prog 10 #[v, u] w (Ret w fun _ v' => PowRet x z v') := by
  have HP := Lib.hid (fun w (h : QRep w u z) => by have := qpos_spec u z k w h hs' (by omega); rwa [posR_eq] at this)
  have HH := Lib.hid h'
  obtain ⟨s1, s2, a1, a2, a3, l1, c1, l2, c2, l3, c3, rfl⟩ := h.open
  obtain ⟨t1, t2, p1, p2, p3, m1, n1, m2, n2, m3, n3, rfl⟩ := h'.open
  have HW := Lib.hid (fun v u w h h' (h0 : ¬ (z.re = 0 ∧ z.im = 0)) => qpower_spec v u x z k w h h' hs hs' h0 (by omega))
  have HNE := Lib.hid (fun v w h (h0 : ¬ (z.re = 0 ∧ z.im = 0)) => near64_spec v (x.norm.div z) (3 * (2 * k + 1) + 1) w h (hs.norm.div (hs'.mono (by omega)) h0) (by omega))
  have HNZ := Lib.hid (posQ_nz (x := z))
  have HPR : Hid (∀ v, ((posQ z = true ∧ ∃ R I, CW32 (x.norm.div z) R I ∧ v = .tuple #[.float .f32 R, .int .i64 0]) ∨ (posQ z = false ∧ v = .tuple #[.float .f32 0, .int .i64 1])) → PowRet x z v) := fun _ h => h
  clear hs hs'
  generalize posQ z = pz at *
  cases pz
  · go_enter Tryz.func10, Tryz.ntmps10
    go_upto_region 1 with (fail)
    obtain ⟨W, hW, o1, o2, hB, hS⟩ := boxes2 w 46 46 [.bool s1, .slice a1 l1 c1, .bool s2, .slice a2 l2 c2, .slice a3 l3 c3] [.bool t1, .slice p1 m1 n1, .bool t2, .slice p2 m2 n2, .slice p3 m3 n3]
    rw [← hW]
    clear hW
    have fo2 := o2.free; have co20 := o2.cell 0 _ rfl; have co21 := o2.cell 1 _ rfl; have co22 := o2.cell 2 _ rfl; have co23 := o2.cell 3 _ rfl; have co24 := o2.cell 4 _ rfl
    go_wp2_with fail
    refine (HP.out W (HH.out.below hB (Nat.le_refl _))).mono ?_
    rintro e W1 ⟨_, rfl, rfl, hb1⟩
    clear co20 co21 co22 co23 co24 fo2
    have hB := hB.trans (hb1.mono hB.size)
    go_wp2_with fail
    go_ret2
    exact ⟨_, rfl, HPR.out _ (.inr ⟨(by first | trivial | rfl), rfl⟩), hB⟩
  · have h0 := HNZ.out rfl
    go_enter Tryz.func10, Tryz.ntmps10
    go_upto_region 1 with (fail)
    obtain ⟨W, hW, o1, o2, hB, hS⟩ := boxes2 w 46 46 [.bool s1, .slice a1 l1 c1, .bool s2, .slice a2 l2 c2, .slice a3 l3 c3] [.bool t1, .slice p1 m1 n1, .bool t2, .slice p2 m2 n2, .slice p3 m3 n3]
    rw [← hW]
    clear hW
    have h := h.below hB (Nat.le_refl _); have h' := h'.below hB (Nat.le_refl _)
    have fo2 := o2.free; have co20 := o2.cell 0 _ rfl; have co21 := o2.cell 1 _ rfl; have co22 := o2.cell 2 _ rfl; have co23 := o2.cell 3 _ rfl; have co24 := o2.cell 4 _ rfl
    go_wp2_with fail
    refine (HP.out W h').mono ?_
    rintro e W1 ⟨_, rfl, rfl, hb1⟩
    clear co20 co21 co22 co23 co24 fo2
    have hsW1 : W.heap.size ≤ W1.heap.size := hb1.size; have hB := hB.trans (hb1.mono hB.size); have o1 := o1.below hb1 o1.lt; have o2 := o2.below hb1 o2.lt; have h := h.below hb1 (Nat.le_refl _); have h' := h'.below hb1 (Nat.le_refl _)
    have fo1 := o1.free; have co10 := o1.cell 0 _ rfl; have co11 := o1.cell 1 _ rfl; have co12 := o1.cell 2 _ rfl; have co13 := o1.cell 3 _ rfl; have co14 := o1.cell 4 _ rfl; have fo2 := o2.free; have co20 := o2.cell 0 _ rfl; have co21 := o2.cell 1 _ rfl; have co22 := o2.cell 2 _ rfl; have co23 := o2.cell 3 _ rfl; have co24 := o2.cell 4 _ rfl
    go_wp2_with fail
    refine (HW.out _ _ W1 h h' h0).mono ?_
    rintro e W2 ⟨u3, rfl, hu3, hb2⟩
    have hB := hB.trans (hb2.mono hB.size)
    clear co10 co11 co12 co13 co14 fo1 co20 co21 co22 co23 co24 fo2
    go_wp2_with fail
    refine (HNE.out _ W2 hu3 h0).mono ?_
    rintro e W3 ⟨_, rfl, ⟨R, I, rfl, hRI⟩, hb3⟩
    have hB := hB.trans (hb3.mono hB.size)
    go_wp2_with fail
    go_ret2
    exact ⟨_, rfl, HPR.out _ (.inl ⟨(by first | trivial | rfl), R, I, hRI, rfl⟩), hB⟩
end Go.Proofs.YtfkogkcpndaoeaaGreat
namespace Go.Proofs.YtfkogkcpndaoeaaGreat
open Go.RowKit
noncomputable def levregion : Code := (Tryz.f14.body.bind (findRegion 10)).getD .skip
set_option maxRecDepth 100000 in
set_option maxHeartbeats 3200000 in
theorem levreg (w : World) (g3 g4 g10 k s ba oa na ca bm om nm cm br or' nr cr : Nat) (c : Int) (p : CQ) {ys0 ys2 : Bool} {ya1 ya3 ya4 : Option Addr} {yl1 ym1 yl3 ym3 yl4 ym4 : Nat} {zs0 zs2 : Bool} {za1 za3 za4 : Option Addr} {zl1 zm1 zl3 zm3 zl4 zm4 : Nat} {ts0 ts2 : Bool} {ta1 ta3 ta4 : Option Addr} {tl1 tm1 tl3 tm3 tl4 tm4 : Nat} {R : Act → World → Prop} {u0 u1 u2 u5 u6 u7 u8 u9 u11 u14 u15 u16 u17 u18 u19 u20 u21 u22 u23 u24 u25 u26 u27 u28 u29 u30 u31 u32 u33 u34 u35 u36 u37 u38 u39 u40 u41 u42 u43 u44 u45 u46 u47 u48 u49 u50 u51 u52 u53 u54 u55 u56 u57 u58 u59 u60 u61 u62 u63 u64 u65 u66 u67 u68 u69 u70 u71 u72 : Value}
    (hx0 : w.cell? ⟨g3, 1, none⟩ = some (.slice (some ⟨ba, oa, none⟩) na ca))
    (hx1 : w.cell? ⟨ba, oa + k, none⟩ = some (.slice (some ⟨bm, om, none⟩) nm cm))
    (hx2 : w.cell? ⟨bm, om + s, none⟩ = some (.slice (some ⟨br, or', none⟩) nr cr))
    (hx3 : w.cell? ⟨br, or' + s * 5, none⟩ = some (.bool ys0))
    (hx4 : w.cell? ⟨br, or' + s * 5 + 1, none⟩ = some (.slice ya1 yl1 ym1))
    (hx5 : w.cell? ⟨br, or' + s * 5 + 2, none⟩ = some (.bool ys2))
    (hx6 : w.cell? ⟨br, or' + s * 5 + 3, none⟩ = some (.slice ya3 yl3 ym3))
    (hx7 : w.cell? ⟨br, or' + s * 5 + 4, none⟩ = some (.slice ya4 yl4 ym4))
    (hx8 : w.cell? ⟨g4, 0, none⟩ = some (.bool zs0))
    (hx9 : w.cell? ⟨g4, 1, none⟩ = some (.slice za1 zl1 zm1))
    (hx10 : w.cell? ⟨g4, 2, none⟩ = some (.bool zs2))
    (hx11 : w.cell? ⟨g4, 3, none⟩ = some (.slice za3 zl3 zm3))
    (hx12 : w.cell? ⟨g4, 4, none⟩ = some (.slice za4 zl4 zm4))
    (hx13 : w.cell? ⟨g10, 0, none⟩ = some (.bool ts0))
    (hx14 : w.cell? ⟨g10, 1, none⟩ = some (.slice ta1 tl1 tm1))
    (hx15 : w.cell? ⟨g10, 2, none⟩ = some (.bool ts2))
    (hx16 : w.cell? ⟨g10, 3, none⟩ = some (.slice ta3 tl3 tm3))
    (hx17 : w.cell? ⟨g10, 4, none⟩ = some (.slice ta4 tl4 tm4))
    (hk : k < na) (hs : s < nm) (hs2 : s < nr)
    (hC : ∀ W', Below w.heap.size w W' → Calls Tryz.prog 39 #[.agg #[.bool ys0, .slice ya1 yl1 ym1, .bool ys2, .slice ya3 yl3 ym3, .slice ya4 yl4 ym4], .agg #[.bool zs0, .slice za1 zl1 zm1, .bool zs2, .slice za3 zl3 zm3, .slice za4 zl4 zm4]] W' (Ret W' fun w'' v'' => NumRep w'' v'' p))
    (hD : ∀ W' v', Below w.heap.size w W' → NumRep W' v' p → Calls Tryz.prog 51 #[v', .agg #[.bool ts0, .slice ta1 tl1 tm1, .bool ts2, .slice ta3 tl3 tm3, .slice ta4 tl4 tm4]] W' (Ret W' fun _ v'' => v'' = .int .i64 c))
    (hQ : ∀ (W' : World) (x52 x53 x54 x55 x56 x57 x58 x59 x60 x61 x62 x63 x64 x65 x66 : Value), Below w.heap.size w W' → R ⟨List.toArray (u0 :: u1 :: u2 :: .pointer (some ⟨g3, 0, none⟩) :: .pointer (some ⟨g4, 0, none⟩) :: u5 :: u6 :: u7 :: u8 :: u9 :: .pointer (some ⟨g10, 0, none⟩) :: u11 :: .int .i64 (k : Int) :: .int .i64 (s : Int) :: u14 :: u15 :: u16 :: u17 :: u18 :: u19 :: u20 :: u21 :: u22 :: u23 :: u24 :: u25 :: u26 :: u27 :: u28 :: u29 :: u30 :: u31 :: u32 :: u33 :: u34 :: u35 :: u36 :: u37 :: u38 :: u39 :: u40 :: u41 :: u42 :: u43 :: u44 :: u45 :: u46 :: u47 :: u48 :: u49 :: u50 :: u51 :: x52 :: x53 :: x54 :: x55 :: x56 :: x57 :: x58 :: x59 :: x60 :: x61 :: x62 :: x63 :: x64 :: x65 :: x66 :: .bool (decide (0 < c)) :: u68 :: u69 :: u70 :: u71 :: u72 :: []), []⟩ W') :
    Code.wp Tryz.prog levregion (Only R) ⟨List.toArray (u0 :: u1 :: u2 :: .pointer (some ⟨g3, 0, none⟩) :: .pointer (some ⟨g4, 0, none⟩) :: u5 :: u6 :: u7 :: u8 :: u9 :: .pointer (some ⟨g10, 0, none⟩) :: u11 :: .int .i64 (k : Int) :: .int .i64 (s : Int) :: u14 :: u15 :: u16 :: u17 :: u18 :: u19 :: u20 :: u21 :: u22 :: u23 :: u24 :: u25 :: u26 :: u27 :: u28 :: u29 :: u30 :: u31 :: u32 :: u33 :: u34 :: u35 :: u36 :: u37 :: u38 :: u39 :: u40 :: u41 :: u42 :: u43 :: u44 :: u45 :: u46 :: u47 :: u48 :: u49 :: u50 :: u51 :: u52 :: u53 :: u54 :: u55 :: u56 :: u57 :: u58 :: u59 :: u60 :: u61 :: u62 :: u63 :: u64 :: u65 :: u66 :: u67 :: u68 :: u69 :: u70 :: u71 :: u72 :: []), []⟩ w := by
  conv => arg 2; whnf
  have hk1 : (k : Int) < (na : Int) := by omega
  have hs1 : (s : Int) < (nm : Int) := by omega
  have hs3 : (s : Int) < (nr : Int) := by omega
  have hk0 : (0 : Int) ≤ (k : Int) := by omega
  have hs0 : (0 : Int) ≤ (s : Int) := by omega
  have HS := Lib.hid (show ∀ W' : World, (∀ p : Addr, p.block < w.heap.size → W'.cell? p = w.cell? p) → W'.cell? ⟨g3, 1, none⟩ = some (.slice (some ⟨ba, oa, none⟩) na ca) ∧ W'.cell? ⟨ba, oa + k, none⟩ = some (.slice (some ⟨bm, om, none⟩) nm cm) ∧ W'.cell? ⟨bm, om + s, none⟩ = some (.slice (some ⟨br, or', none⟩) nr cr) ∧ W'.cell? ⟨br, or' + s * 5, none⟩ = some (.bool ys0) ∧ W'.cell? ⟨br, or' + s * 5 + 1, none⟩ = some (.slice ya1 yl1 ym1) ∧ W'.cell? ⟨br, or' + s * 5 + 2, none⟩ = some (.bool ys2) ∧ W'.cell? ⟨br, or' + s * 5 + 3, none⟩ = some (.slice ya3 yl3 ym3) ∧ W'.cell? ⟨br, or' + s * 5 + 4, none⟩ = some (.slice ya4 yl4 ym4) ∧ W'.cell? ⟨g4, 0, none⟩ = some (.bool zs0) ∧ W'.cell? ⟨g4, 1, none⟩ = some (.slice za1 zl1 zm1) ∧ W'.cell? ⟨g4, 2, none⟩ = some (.bool zs2) ∧ W'.cell? ⟨g4, 3, none⟩ = some (.slice za3 zl3 zm3) ∧ W'.cell? ⟨g4, 4, none⟩ = some (.slice za4 zl4 zm4) ∧ W'.cell? ⟨g10, 0, none⟩ = some (.bool ts0) ∧ W'.cell? ⟨g10, 1, none⟩ = some (.slice ta1 tl1 tm1) ∧ W'.cell? ⟨g10, 2, none⟩ = some (.bool ts2) ∧ W'.cell? ⟨g10, 3, none⟩ = some (.slice ta3 tl3 tm3) ∧ W'.cell? ⟨g10, 4, none⟩ = some (.slice ta4 tl4 tm4) from fun W' hf => ⟨(hf _ (World.block_lt_of_cell? w _ hx0)).trans hx0, (hf _ (World.block_lt_of_cell? w _ hx1)).trans hx1, (hf _ (World.block_lt_of_cell? w _ hx2)).trans hx2, (hf _ (World.block_lt_of_cell? w _ hx3)).trans hx3, (hf _ (World.block_lt_of_cell? w _ hx4)).trans hx4, (hf _ (World.block_lt_of_cell? w _ hx5)).trans hx5, (hf _ (World.block_lt_of_cell? w _ hx6)).trans hx6, (hf _ (World.block_lt_of_cell? w _ hx7)).trans hx7, (hf _ (World.block_lt_of_cell? w _ hx8)).trans hx8, (hf _ (World.block_lt_of_cell? w _ hx9)).trans hx9, (hf _ (World.block_lt_of_cell? w _ hx10)).trans hx10, (hf _ (World.block_lt_of_cell? w _ hx11)).trans hx11, (hf _ (World.block_lt_of_cell? w _ hx12)).trans hx12, (hf _ (World.block_lt_of_cell? w _ hx13)).trans hx13, (hf _ (World.block_lt_of_cell? w _ hx14)).trans hx14, (hf _ (World.block_lt_of_cell? w _ hx15)).trans hx15, (hf _ (World.block_lt_of_cell? w _ hx16)).trans hx16, (hf _ (World.block_lt_of_cell? w _ hx17)).trans hx17⟩)
  have hS := HS.out w.drew (fun p _ => rfl)
  have hL := True.intro
  have hbw : Below w.heap.size w w.drew := (Below.refl _ _).drew
  have HC := Lib.hid hC
  have HD := Lib.hid hD
  clear hC hD hx0 hx1 hx2 hx3 hx4 hx5 hx6 hx7 hx8 hx9 hx10 hx11 hx12 hx13 hx14 hx15 hx16 hx17
  refine wp_region_late (fun w' => w'.cell? ⟨g3, 1, none⟩ = some (.slice (some ⟨ba, oa, none⟩) na ca) ∧ w'.cell? ⟨ba, oa + k, none⟩ = some (.slice (some ⟨bm, om, none⟩) nm cm) ∧ w'.cell? ⟨bm, om + s, none⟩ = some (.slice (some ⟨br, or', none⟩) nr cr) ∧ w'.cell? ⟨br, or' + s * 5, none⟩ = some (.bool ys0) ∧ w'.cell? ⟨br, or' + s * 5 + 1, none⟩ = some (.slice ya1 yl1 ym1) ∧ w'.cell? ⟨br, or' + s * 5 + 2, none⟩ = some (.bool ys2) ∧ w'.cell? ⟨br, or' + s * 5 + 3, none⟩ = some (.slice ya3 yl3 ym3) ∧ w'.cell? ⟨br, or' + s * 5 + 4, none⟩ = some (.slice ya4 yl4 ym4) ∧ w'.cell? ⟨g4, 0, none⟩ = some (.bool zs0) ∧ w'.cell? ⟨g4, 1, none⟩ = some (.slice za1 zl1 zm1) ∧ w'.cell? ⟨g4, 2, none⟩ = some (.bool zs2) ∧ w'.cell? ⟨g4, 3, none⟩ = some (.slice za3 zl3 zm3) ∧ w'.cell? ⟨g4, 4, none⟩ = some (.slice za4 zl4 zm4) ∧ w'.cell? ⟨g10, 0, none⟩ = some (.bool ts0) ∧ w'.cell? ⟨g10, 1, none⟩ = some (.slice ta1 tl1 tm1) ∧ w'.cell? ⟨g10, 2, none⟩ = some (.bool ts2) ∧ w'.cell? ⟨g10, 3, none⟩ = some (.slice ta3 tl3 tm3) ∧ w'.cell? ⟨g10, 4, none⟩ = some (.slice ta4 tl4 tm4)) (fun w' => True) (fun i => false) (by kernel_rfl) ?_; try simp only [List.size_toArray, List.length_cons, List.length_nil, Nat.reduceAdd]
  generalize w.drew = W0 at *
  (refine mt 0 ?_ rfl (by rfl) ?_ hS ?_; rotate_left; (intro w' h; (try dsimp only at h); go_simp; try exact rfl)); simp only [Act.put,q1,q2,q3,q4,q5,q6,q7,q8,q9]; (refine mt 1 ?_ rfl (by rfl) ?_ hS ?_; rotate_left; (intro w' h; (try dsimp only at h); go_simp; try exact rfl)); simp only [Act.put,q1,q2,q3,q4,q5,q6,q7,q8,q9]; (refine mt 2 ?_ rfl (by rfl) ?_ hS ?_; rotate_left; (intro w' h; (try dsimp only at h); go_simp; try exact rfl)); simp only [Act.put,q1,q2,q3,q4,q5,q6,q7,q8,q9]; (refine mt 3 ?_ rfl (by rfl) ?_ hS ?_; rotate_left; (intro w' h; (try dsimp only at h); go_simp; try exact rfl)); simp only [Act.put,q1,q2,q3,q4,q5,q6,q7,q8,q9]; (refine mt 4 ?_ rfl (by rfl) ?_ hS ?_; rotate_left; (intro w' h; (try dsimp only at h); go_simp; try exact rfl)); simp only [Act.put,q1,q2,q3,q4,q5,q6,q7,q8,q9]; (refine mt 5 ?_ rfl (by rfl) ?_ hS ?_; rotate_left; (intro w' h; (try dsimp only at h); go_simp; try exact rfl)); simp only [Act.put,q1,q2,q3,q4,q5,q6,q7,q8,q9]; (refine mt 6 ?_ rfl (by rfl) ?_ hS ?_; rotate_left; (intro w' h; (try dsimp only at h); go_simp; try exact rfl)); simp only [Act.put,q1,q2,q3,q4,q5,q6,q7,q8,q9]; (refine mt 7 ?_ rfl (by rfl) ?_ hS ?_; rotate_left; (intro w' h; (try dsimp only at h); go_simp; try exact rfl)); simp only [Act.put,q1,q2,q3,q4,q5,q6,q7,q8,q9]; (refine mt 8 ?_ rfl (by rfl) ?_ hS ?_; rotate_left; (intro w' h; (try dsimp only at h); go_simp; try exact rfl)); simp only [Act.put,q1,q2,q3,q4,q5,q6,q7,q8,q9]; (refine mt 9 ?_ rfl (by rfl) ?_ hS ?_; rotate_left; (intro w' h; (try dsimp only at h); go_simp; try exact rfl)); simp only [Act.put,q1,q2,q3,q4,q5,q6,q7,q8,q9]; (refine mt 10 ?_ rfl (by rfl) ?_ hS ?_; rotate_left; (intro w' h; (try dsimp only at h); go_simp; try exact rfl)); simp only [Act.put,q1,q2,q3,q4,q5,q6,q7,q8,q9]; (refine mt 11 ?_ rfl (by rfl) ?_ hS ?_; rotate_left; (intro w' h; (try dsimp only at h); go_simp; try exact rfl)); simp only [Act.put,q1,q2,q3,q4,q5,q6,q7,q8,q9]; (refine mt 13 ?_ rfl (by rfl) ?_ hS ?_; rotate_left; (intro w' h; (try dsimp only at h); go_simp; try exact rfl)); simp only [Act.put,q1,q2,q3,q4,q5,q6,q7,q8,q9]
  refine mo 12 rfl fun K hK => ?_; go_simp; go_at_call 39; (with_reducible refine (HC.out (W0) hbw).mono ?_); rintro e1 W2 ⟨_, rfl, hp, hbC⟩; obtain ⟨_, _, _, _, _, _, _, _, _, _, _, rfl⟩ := hp.open; have hbw := hbw.trans (hbC.mono hbw.size); have hS := HS.out W2 (fun p hp => hbw.cell hp); refine hK _ _ hS (fun _ _ => hL) ?_; clear hK K; (try simp only [Act.put,q1,q2,q3,q4,q5,q6,q7,q8,q9])
  refine mo 14 rfl fun K hK => ?_; go_simp; go_at_call 51; (with_reducible refine (HD.out (W2) _ hbw hp).mono ?_); rintro e1 W3 ⟨_, rfl, rfl, hbD⟩; have hbw := hbw.trans (hbD.mono hbw.size); have hS := HS.out W3 (fun p hp => hbw.cell hp); refine hK _ _ hS (fun _ _ => hL) ?_; clear hK K; (try simp only [Act.put,q1,q2,q3,q4,q5,q6,q7,q8,q9])
  (refine mt 15 ?_ rfl (by rfl) ?_ hS ?_; rotate_left; (intro w' h; (try dsimp only at h); go_simp; try exact rfl)); simp only [Act.put,q1,q2,q3,q4,q5,q6,q7,q8,q9]
  refine wpAnyM_done (by kernel_rfl) ?_ _
  show R _ _
  exact hQ _ _ _ _ _ _ _ _ _ _ _ _ _ _ _ _ hbw
noncomputable def rlevregion : Code := (Tryz.f16.body.bind (findRegion 10)).getD .skip
set_option maxRecDepth 100000 in
set_option maxHeartbeats 3200000 in
theorem rlevreg (w : World) (g3 g4 g10 k s ba oa na ca bm om nm cm br or' nr cr : Nat) (c : Int) (p : CQ) {ys0 ys2 : Bool} {ya1 ya3 ya4 : Option Addr} {yl1 ym1 yl3 ym3 yl4 ym4 : Nat} {zs0 zs2 : Bool} {za1 za3 za4 : Option Addr} {zl1 zm1 zl3 zm3 zl4 zm4 : Nat} {ts0 ts2 : Bool} {ta1 ta3 ta4 : Option Addr} {tl1 tm1 tl3 tm3 tl4 tm4 : Nat} {R : Act → World → Prop} {u0 u1 u2 u5 u6 u7 u8 u9 u11 u14 u15 u16 u17 u18 u19 u20 u21 u22 u23 u24 u25 u26 u27 u28 u29 u30 u31 u32 u33 u34 u35 u36 u37 u38 u39 u40 u41 u42 u43 u44 u45 u46 u47 u48 u49 u50 u51 u52 u53 u54 u55 u56 u57 u58 u59 u60 u61 u62 u63 u64 u65 u66 u67 u68 u69 u70 u71 u72 : Value}
    (hx0 : w.cell? ⟨g3, 1, none⟩ = some (.slice (some ⟨ba, oa, none⟩) na ca))
    (hx1 : w.cell? ⟨ba, oa + k, none⟩ = some (.slice (some ⟨bm, om, none⟩) nm cm))
    (hx2 : w.cell? ⟨bm, om + s, none⟩ = some (.slice (some ⟨br, or', none⟩) nr cr))
    (hx3 : w.cell? ⟨br, or' + s * 5, none⟩ = some (.bool ys0))
    (hx4 : w.cell? ⟨br, or' + s * 5 + 1, none⟩ = some (.slice ya1 yl1 ym1))
    (hx5 : w.cell? ⟨br, or' + s * 5 + 2, none⟩ = some (.bool ys2))
    (hx6 : w.cell? ⟨br, or' + s * 5 + 3, none⟩ = some (.slice ya3 yl3 ym3))
    (hx7 : w.cell? ⟨br, or' + s * 5 + 4, none⟩ = some (.slice ya4 yl4 ym4))
    (hx8 : w.cell? ⟨g4, 0, none⟩ = some (.bool zs0))
    (hx9 : w.cell? ⟨g4, 1, none⟩ = some (.slice za1 zl1 zm1))
    (hx10 : w.cell? ⟨g4, 2, none⟩ = some (.bool zs2))
    (hx11 : w.cell? ⟨g4, 3, none⟩ = some (.slice za3 zl3 zm3))
    (hx12 : w.cell? ⟨g4, 4, none⟩ = some (.slice za4 zl4 zm4))
    (hx13 : w.cell? ⟨g10, 0, none⟩ = some (.bool ts0))
    (hx14 : w.cell? ⟨g10, 1, none⟩ = some (.slice ta1 tl1 tm1))
    (hx15 : w.cell? ⟨g10, 2, none⟩ = some (.bool ts2))
    (hx16 : w.cell? ⟨g10, 3, none⟩ = some (.slice ta3 tl3 tm3))
    (hx17 : w.cell? ⟨g10, 4, none⟩ = some (.slice ta4 tl4 tm4))
    (hk : k < na) (hs : s < nm) (hs2 : s < nr)
    (hC : ∀ W', Below w.heap.size w W' → Calls Tryz.prog 44 #[.agg #[.bool ys0, .slice ya1 yl1 ym1, .bool ys2, .slice ya3 yl3 ym3, .slice ya4 yl4 ym4], .agg #[.bool zs0, .slice za1 zl1 zm1, .bool zs2, .slice za3 zl3 zm3, .slice za4 zl4 zm4]] W' (Ret W' fun w'' v'' => QRep w'' v'' p))
    (hD : ∀ W' v', Below w.heap.size w W' → QRep W' v' p → Calls Tryz.prog 55 #[v', .agg #[.bool ts0, .slice ta1 tl1 tm1, .bool ts2, .slice ta3 tl3 tm3, .slice ta4 tl4 tm4]] W' (Ret W' fun _ v'' => v'' = .int .i64 c))
    (hQ : ∀ (W' : World) (x54 x55 x56 x57 x58 x59 x60 x61 x62 x63 x64 x65 x66 x67 x68 : Value), Below w.heap.size w W' → R ⟨List.toArray (u0 :: u1 :: u2 :: .pointer (some ⟨g3, 0, none⟩) :: .pointer (some ⟨g4, 0, none⟩) :: u5 :: u6 :: u7 :: u8 :: u9 :: .pointer (some ⟨g10, 0, none⟩) :: u11 :: .int .i64 (k : Int) :: .int .i64 (s : Int) :: u14 :: u15 :: u16 :: u17 :: u18 :: u19 :: u20 :: u21 :: u22 :: u23 :: u24 :: u25 :: u26 :: u27 :: u28 :: u29 :: u30 :: u31 :: u32 :: u33 :: u34 :: u35 :: u36 :: u37 :: u38 :: u39 :: u40 :: u41 :: u42 :: u43 :: u44 :: u45 :: u46 :: u47 :: u48 :: u49 :: u50 :: u51 :: u52 :: u53 :: x54 :: x55 :: x56 :: x57 :: x58 :: x59 :: x60 :: x61 :: x62 :: x63 :: x64 :: x65 :: x66 :: x67 :: x68 :: .bool (decide (0 < c)) :: u70 :: u71 :: u72 :: []), []⟩ W') :
    Code.wp Tryz.prog rlevregion (Only R) ⟨List.toArray (u0 :: u1 :: u2 :: .pointer (some ⟨g3, 0, none⟩) :: .pointer (some ⟨g4, 0, none⟩) :: u5 :: u6 :: u7 :: u8 :: u9 :: .pointer (some ⟨g10, 0, none⟩) :: u11 :: .int .i64 (k : Int) :: .int .i64 (s : Int) :: u14 :: u15 :: u16 :: u17 :: u18 :: u19 :: u20 :: u21 :: u22 :: u23 :: u24 :: u25 :: u26 :: u27 :: u28 :: u29 :: u30 :: u31 :: u32 :: u33 :: u34 :: u35 :: u36 :: u37 :: u38 :: u39 :: u40 :: u41 :: u42 :: u43 :: u44 :: u45 :: u46 :: u47 :: u48 :: u49 :: u50 :: u51 :: u52 :: u53 :: u54 :: u55 :: u56 :: u57 :: u58 :: u59 :: u60 :: u61 :: u62 :: u63 :: u64 :: u65 :: u66 :: u67 :: u68 :: u69 :: u70 :: u71 :: u72 :: []), []⟩ w := by
  conv => arg 2; whnf
  have hk1 : (k : Int) < (na : Int) := by omega
  have hs1 : (s : Int) < (nm : Int) := by omega
  have hs3 : (s : Int) < (nr : Int) := by omega
  have hk0 : (0 : Int) ≤ (k : Int) := by omega
  have hs0 : (0 : Int) ≤ (s : Int) := by omega
  have HS := Lib.hid (show ∀ W' : World, (∀ p : Addr, p.block < w.heap.size → W'.cell? p = w.cell? p) → W'.cell? ⟨g3, 1, none⟩ = some (.slice (some ⟨ba, oa, none⟩) na ca) ∧ W'.cell? ⟨ba, oa + k, none⟩ = some (.slice (some ⟨bm, om, none⟩) nm cm) ∧ W'.cell? ⟨bm, om + s, none⟩ = some (.slice (some ⟨br, or', none⟩) nr cr) ∧ W'.cell? ⟨br, or' + s * 5, none⟩ = some (.bool ys0) ∧ W'.cell? ⟨br, or' + s * 5 + 1, none⟩ = some (.slice ya1 yl1 ym1) ∧ W'.cell? ⟨br, or' + s * 5 + 2, none⟩ = some (.bool ys2) ∧ W'.cell? ⟨br, or' + s * 5 + 3, none⟩ = some (.slice ya3 yl3 ym3) ∧ W'.cell? ⟨br, or' + s * 5 + 4, none⟩ = some (.slice ya4 yl4 ym4) ∧ W'.cell? ⟨g4, 0, none⟩ = some (.bool zs0) ∧ W'.cell? ⟨g4, 1, none⟩ = some (.slice za1 zl1 zm1) ∧ W'.cell? ⟨g4, 2, none⟩ = some (.bool zs2) ∧ W'.cell? ⟨g4, 3, none⟩ = some (.slice za3 zl3 zm3) ∧ W'.cell? ⟨g4, 4, none⟩ = some (.slice za4 zl4 zm4) ∧ W'.cell? ⟨g10, 0, none⟩ = some (.bool ts0) ∧ W'.cell? ⟨g10, 1, none⟩ = some (.slice ta1 tl1 tm1) ∧ W'.cell? ⟨g10, 2, none⟩ = some (.bool ts2) ∧ W'.cell? ⟨g10, 3, none⟩ = some (.slice ta3 tl3 tm3) ∧ W'.cell? ⟨g10, 4, none⟩ = some (.slice ta4 tl4 tm4) from fun W' hf => ⟨(hf _ (World.block_lt_of_cell? w _ hx0)).trans hx0, (hf _ (World.block_lt_of_cell? w _ hx1)).trans hx1, (hf _ (World.block_lt_of_cell? w _ hx2)).trans hx2, (hf _ (World.block_lt_of_cell? w _ hx3)).trans hx3, (hf _ (World.block_lt_of_cell? w _ hx4)).trans hx4, (hf _ (World.block_lt_of_cell? w _ hx5)).trans hx5, (hf _ (World.block_lt_of_cell? w _ hx6)).trans hx6, (hf _ (World.block_lt_of_cell? w _ hx7)).trans hx7, (hf _ (World.block_lt_of_cell? w _ hx8)).trans hx8, (hf _ (World.block_lt_of_cell? w _ hx9)).trans hx9, (hf _ (World.block_lt_of_cell? w _ hx10)).trans hx10, (hf _ (World.block_lt_of_cell? w _ hx11)).trans hx11, (hf _ (World.block_lt_of_cell? w _ hx12)).trans hx12, (hf _ (World.block_lt_of_cell? w _ hx13)).trans hx13, (hf _ (World.block_lt_of_cell? w _ hx14)).trans hx14, (hf _ (World.block_lt_of_cell? w _ hx15)).trans hx15, (hf _ (World.block_lt_of_cell? w _ hx16)).trans hx16, (hf _ (World.block_lt_of_cell? w _ hx17)).trans hx17⟩)
  have hS := HS.out w.drew (fun p _ => rfl)
  have hL := True.intro
  have hbw : Below w.heap.size w w.drew := (Below.refl _ _).drew
  have HC := Lib.hid hC
  have HD := Lib.hid hD
  clear hC hD hx0 hx1 hx2 hx3 hx4 hx5 hx6 hx7 hx8 hx9 hx10 hx11 hx12 hx13 hx14 hx15 hx16 hx17
  refine wp_region_late (fun w' => w'.cell? ⟨g3, 1, none⟩ = some (.slice (some ⟨ba, oa, none⟩) na ca) ∧ w'.cell? ⟨ba, oa + k, none⟩ = some (.slice (some ⟨bm, om, none⟩) nm cm) ∧ w'.cell? ⟨bm, om + s, none⟩ = some (.slice (some ⟨br, or', none⟩) nr cr) ∧ w'.cell? ⟨br, or' + s * 5, none⟩ = some (.bool ys0) ∧ w'.cell? ⟨br, or' + s * 5 + 1, none⟩ = some (.slice ya1 yl1 ym1) ∧ w'.cell? ⟨br, or' + s * 5 + 2, none⟩ = some (.bool ys2) ∧ w'.cell? ⟨br, or' + s * 5 + 3, none⟩ = some (.slice ya3 yl3 ym3) ∧ w'.cell? ⟨br, or' + s * 5 + 4, none⟩ = some (.slice ya4 yl4 ym4) ∧ w'.cell? ⟨g4, 0, none⟩ = some (.bool zs0) ∧ w'.cell? ⟨g4, 1, none⟩ = some (.slice za1 zl1 zm1) ∧ w'.cell? ⟨g4, 2, none⟩ = some (.bool zs2) ∧ w'.cell? ⟨g4, 3, none⟩ = some (.slice za3 zl3 zm3) ∧ w'.cell? ⟨g4, 4, none⟩ = some (.slice za4 zl4 zm4) ∧ w'.cell? ⟨g10, 0, none⟩ = some (.bool ts0) ∧ w'.cell? ⟨g10, 1, none⟩ = some (.slice ta1 tl1 tm1) ∧ w'.cell? ⟨g10, 2, none⟩ = some (.bool ts2) ∧ w'.cell? ⟨g10, 3, none⟩ = some (.slice ta3 tl3 tm3) ∧ w'.cell? ⟨g10, 4, none⟩ = some (.slice ta4 tl4 tm4)) (fun w' => True) (fun i => false) (by kernel_rfl) ?_; try simp only [List.size_toArray, List.length_cons, List.length_nil, Nat.reduceAdd]
  generalize w.drew = W0 at *
  (refine mt 0 ?_ rfl (by rfl) ?_ hS ?_; rotate_left; (intro w' h; (try dsimp only at h); go_simp; try exact rfl)); simp only [Act.put,q1,q2,q3,q4,q5,q6,q7,q8,q9]; (refine mt 1 ?_ rfl (by rfl) ?_ hS ?_; rotate_left; (intro w' h; (try dsimp only at h); go_simp; try exact rfl)); simp only [Act.put,q1,q2,q3,q4,q5,q6,q7,q8,q9]; (refine mt 2 ?_ rfl (by rfl) ?_ hS ?_; rotate_left; (intro w' h; (try dsimp only at h); go_simp; try exact rfl)); simp only [Act.put,q1,q2,q3,q4,q5,q6,q7,q8,q9]; (refine mt 3 ?_ rfl (by rfl) ?_ hS ?_; rotate_left; (intro w' h; (try dsimp only at h); go_simp; try exact rfl)); simp only [Act.put,q1,q2,q3,q4,q5,q6,q7,q8,q9]; (refine mt 4 ?_ rfl (by rfl) ?_ hS ?_; rotate_left; (intro w' h; (try dsimp only at h); go_simp; try exact rfl)); simp only [Act.put,q1,q2,q3,q4,q5,q6,q7,q8,q9]; (refine mt 5 ?_ rfl (by rfl) ?_ hS ?_; rotate_left; (intro w' h; (try dsimp only at h); go_simp; try exact rfl)); simp only [Act.put,q1,q2,q3,q4,q5,q6,q7,q8,q9]; (refine mt 6 ?_ rfl (by rfl) ?_ hS ?_; rotate_left; (intro w' h; (try dsimp only at h); go_simp; try exact rfl)); simp only [Act.put,q1,q2,q3,q4,q5,q6,q7,q8,q9]; (refine mt 7 ?_ rfl (by rfl) ?_ hS ?_; rotate_left; (intro w' h; (try dsimp only at h); go_simp; try exact rfl)); simp only [Act.put,q1,q2,q3,q4,q5,q6,q7,q8,q9]; (refine mt 8 ?_ rfl (by rfl) ?_ hS ?_; rotate_left; (intro w' h; (try dsimp only at h); go_simp; try exact rfl)); simp only [Act.put,q1,q2,q3,q4,q5,q6,q7,q8,q9]; (refine mt 9 ?_ rfl (by rfl) ?_ hS ?_; rotate_left; (intro w' h; (try dsimp only at h); go_simp; try exact rfl)); simp only [Act.put,q1,q2,q3,q4,q5,q6,q7,q8,q9]; (refine mt 10 ?_ rfl (by rfl) ?_ hS ?_; rotate_left; (intro w' h; (try dsimp only at h); go_simp; try exact rfl)); simp only [Act.put,q1,q2,q3,q4,q5,q6,q7,q8,q9]; (refine mt 11 ?_ rfl (by rfl) ?_ hS ?_; rotate_left; (intro w' h; (try dsimp only at h); go_simp; try exact rfl)); simp only [Act.put,q1,q2,q3,q4,q5,q6,q7,q8,q9]; (refine mt 13 ?_ rfl (by rfl) ?_ hS ?_; rotate_left; (intro w' h; (try dsimp only at h); go_simp; try exact rfl)); simp only [Act.put,q1,q2,q3,q4,q5,q6,q7,q8,q9]
  refine mo 12 rfl fun K hK => ?_; go_simp; go_at_call 44; (with_reducible refine (HC.out (W0) hbw).mono ?_); rintro e1 W2 ⟨_, rfl, hp, hbC⟩; obtain ⟨_, _, _, _, _, _, _, _, _, _, _, rfl⟩ := hp.open; have hbw := hbw.trans (hbC.mono hbw.size); have hS := HS.out W2 (fun p hp => hbw.cell hp); refine hK _ _ hS (fun _ _ => hL) ?_; clear hK K; (try simp only [Act.put,q1,q2,q3,q4,q5,q6,q7,q8,q9])
  refine mo 14 rfl fun K hK => ?_; go_simp; go_at_call 55; (with_reducible refine (HD.out (W2) _ hbw hp).mono ?_); rintro e1 W3 ⟨_, rfl, rfl, hbD⟩; have hbw := hbw.trans (hbD.mono hbw.size); have hS := HS.out W3 (fun p hp => hbw.cell hp); refine hK _ _ hS (fun _ _ => hL) ?_; clear hK K; (try simp only [Act.put,q1,q2,q3,q4,q5,q6,q7,q8,q9])
  (refine mt 15 ?_ rfl (by rfl) ?_ hS ?_; rotate_left; (intro w' h; (try dsimp only at h); go_simp; try exact rfl)); simp only [Act.put,q1,q2,q3,q4,q5,q6,q7,q8,q9]
  refine wpAnyM_done (by kernel_rfl) ?_ _
  show R _ _
  exact hQ _ _ _ _ _ _ _ _ _ _ _ _ _ _ _ _ hbw
end Go.Proofs.YtfkogkcpndaoeaaGreat
namespace Go.Proofs.YtfkogkcpndaoeaaGreat
open Go.RowKit
theorem results_tmp4 {fn : Func} {t u v x : Tmp} (h : fn.results = #[.tmp t, .tmp u, .tmp v, .tmp x]) (tmps : Array Value) (P : Program) (w : World) :
    (results fn tmps).run P w = .ok (.tuple #[tmps.getD t undef, tmps.getD u undef, tmps.getD v undef, tmps.getD x undef]) w := by
  simp [results, h]
theorem vw_sq {x : Wv} (h : vwB x = true) : x.fr.length ≤ 1024 ∧ x.a.length = x.fr.length ∧ ∀ m ∈ x.a, m.length ≤ 8 ∧ ∀ r ∈ m, r.length = m.length := by
  unfold vwB at h
  rw [Bool.and_eq_true, Bool.and_eq_true, Bool.and_eq_true, decide_eq_true_iff, decide_eq_true_iff] at h
  obtain ⟨⟨⟨h1, h2⟩, h3⟩, h4⟩ := h
  obtain ⟨h5, h6⟩ := vf_len h1
  refine ⟨h6, h2, fun m hm => ?_⟩
  have hm2 : m ∈ x.a ++ x.b := List.mem_append_left _ hm
  cases hl : x.a ++ x.b with
  | nil => rw [hl] at hm2; cases hm2
  | cons m0 l =>
    rw [hl] at h4 hm2
    have h7 : (m0 :: l).all (matN m0.length) = true := h4
    rw [List.all_eq_true] at h7
    have h8 := h7 m hm2
    unfold matN inR at h8
    simp at h8
    obtain ⟨⟨h9, h10, h11⟩, h12⟩ := h8
    exact ⟨by omega, fun r hr => by have := h12 r hr; omega⟩
def LimR (L S : Nat) (l : CQ) (E : Nat) : Prop := (limB L = true ∧ E = 0 ∧ l = ⟨fq S, 0⟩ ∧ ¬ rcmp l.re 0 < 0) ∨ (limB L = false ∧ E = 1) ∨ (limB L = false ∧ E = 0 ∧ rcmp l.re 0 < 0)
def LevRet (x : Wv) (z : CQ) (L S : Nat) (v : Value) : Prop := ∃ (k s : Nat) (o : Bool) (E : Nat), v = .tuple #[.int .i64 (k : Int), .int .i64 (s : Int), .bool o, .int .i64 (E : Int)] ∧
  (((vwB x && posQ z && limB L) = false ∧ k = 0 ∧ s = 0 ∧ o = false ∧ E = 1) ∨ ((vwB x && posQ z && limB L) = true ∧ E = 0 ∧ IsHot x.a z ⟨fq S, 0⟩ k s o))
theorem LevRet.unique {x : Wv} {z : CQ} {L S : Nat} {v u : Value} (h : LevRet x z L S v) (h' : LevRet x z L S u) : v = u := by
  obtain ⟨k, s, o, E, rfl, h1⟩ := h
  obtain ⟨k', s', o', E', rfl, h2⟩ := h'
  rcases h1 with ⟨a, rfl, rfl, rfl, rfl⟩ | ⟨a, rfl, h1⟩
  · rcases h2 with ⟨_, rfl, rfl, rfl, rfl⟩ | ⟨b, -, -⟩
    · rfl
    · rw [a] at b; cases b
  · rcases h2 with ⟨b, -⟩ | ⟨_, rfl, h2⟩
    · rw [a] at b; cases b
    · obtain ⟨rfl, rfl, rfl⟩ := h1.unique h2
      rfl
theorem LevRet.shape {x : Wv} {z : CQ} {L S : Nat} {v : Value} (h : LevRet x z L S v) : ∃ (k s : Nat) (o : Bool) (E : Nat), v = .tuple #[.int .i64 (k : Int), .int .i64 (s : Int), .bool o, .int .i64 (E : Int)] := by
  obtain ⟨k, s, o, E, e, _⟩ := h
  exact ⟨k, s, o, E, e⟩
def Cool (m : List (List (List CQ))) (z l : CQ) (k s : Nat) : Prop := ∀ k' s', (k' < k ∨ k' = k ∧ s' < s) → ¬ Hot m z l k' s'
theorem Cool.start {m : List (List (List CQ))} {z l : CQ} : Cool m z l 0 0 := fun k' s' h => by omega
theorem Cool.next {m : List (List (List CQ))} {z l : CQ} {k s : Nat} (h : Cool m z l k s) (hn : ¬ Hot m z l k s) : Cool m z l k (s + 1) := by
  intro k' s' hh
  by_cases he : k' = k ∧ s' = s
  · obtain ⟨rfl, rfl⟩ := he; exact hn
  · exact h k' s' (by omega)
theorem Cool.row {m : List (List (List CQ))} {z l : CQ} {k n : Nat} {r : List (List CQ)} (h : Cool m z l k n) (hr : m[k]? = some r) (hl : r.length = n) : Cool m z l (k + 1) 0 := by
  intro k' s' hh
  by_cases he : k' = k
  · subst he
    by_cases hs : s' < n
    · exact h k' s' (.inr ⟨rfl, hs⟩)
    · rintro ⟨r', c, y, h1, h2, -⟩
      rw [hr] at h1
      injection h1 with h1
      subst h1
      rw [List.getElem?_eq_none (by omega)] at h2
      cases h2
  · exact h k' s' (by omega)
theorem Cool.all {m : List (List (List CQ))} {z l : CQ} {n : Nat} (h : Cool m z l n 0) (hl : m.length = n) : IsHot m z l 0 0 false := by
  refine .inr ⟨rfl, rfl, rfl, fun k' s' => ?_⟩
  by_cases hk : k' < n
  · exact h k' s' (.inl hk)
  · rintro ⟨r', c, y, h1, -⟩
    rw [List.getElem?_eq_none (by omega)] at h1
    cases h1
theorem Cool.hot {m : List (List (List CQ))} {z l : CQ} {k s : Nat} (h : Cool m z l k s) (hh : Hot m z l k s) : IsHot m z l k (s + 1) true := .inl ⟨rfl, s, rfl, hh, h⟩
theorem hot_iff {m : List (List (List CQ))} {z l : CQ} {k s : Nat} {r : List (List CQ)} {c : List CQ} {y : CQ} (h1 : m[k]? = some r) (h2 : r[s]? = some c) (h3 : c[s]? = some y) : Hot m z l k s ↔ 0 < qcmp (y.norm.div z) l := by
  constructor
  · rintro ⟨r', c', y', k1, k2, k3, k4⟩
    rw [h1] at k1; injection k1 with k1; subst k1
    rw [h2] at k2; injection k2 with k2; subst k2
    rw [h3] at k3; injection k3 with k3; subst k3
    exact k4
  · exact fun h => ⟨r, c, y, h1, h2, h3, h⟩
end Go.Proofs.YtfkogkcpndaoeaaGreat
