/- The program's power of a wave. Conditions: bits. -/
import Derived.Test.YtfkogkcpndaoeaaGreatMDivS
import Derived.Test.YtfkogkcpndaoeaaGreatMNear
import Derived.Test.YtfkogkcpndaoeaaGreatMNumH
import Derived.Test.YtfkogkcpndaoeaaGreatMVWaves
set_option linter.all false
namespace Go.Proofs.YtfkogkcpndaoeaaGreat
open Go.RowKit
theorem ndiv_nz (v u : Value) (x y : CQ) (k : Nat) (w : World) (h : NumRep w v x) (h' : NumRep w u y) (hs : Small k x) (hs' : Small k y) (h0 : ¬ (y.re = 0 ∧ y.im = 0)) (hk : k ≤ 100000000000) :
    Calls Tryz.prog 87 #[v, u] w (Ret w fun w' v' => ∃ u, v' = .tuple #[u, .int .i64 0] ∧ NumRep w' u (x.div y)) := by
  refine (ndiv_spec v u x y k w h h' hs hs' hk).mono ?_
  rintro e w' ⟨v', rfl, ⟨u, h1⟩, hb⟩
  rcases h1 with ⟨h1, h2, -⟩ | ⟨-, rfl, hu⟩
  · exact absurd ⟨h1, h2⟩ h0
  · exact ⟨_, rfl, ⟨_, rfl, hu⟩, hb⟩
def NBoxW (W : World) (x : CQ) (s : Value) (wx : World) : Prop := ∃ g : Nat, s = .pointer (some ⟨g, 0, none⟩) ∧ NumBox wx g x ∧ W.heap.size ≤ g ∧ Below W.heap.size W wx
theorem nboxw_new {W V : World} {x : CQ} {s0 s2 : Bool} {a1 a3 a4 : Option Addr} {l1 c1 l3 c3 l4 c4 : Nat} (hB : Below W.heap.size W V) (r : NumRep V (.agg #[.bool s0, .slice a1 l1 c1, .bool s2, .slice a3 l3 c3, .slice a4 l4 c4]) x) : NBoxW W x (.pointer (some ⟨V.heap.size, 0, none⟩)) (V.alloc (.cells #[.bool s0, .slice a1 l1 c1, .bool s2, .slice a3 l3 c3, .slice a4 l4 c4] 40)) :=
  ⟨_, rfl, ⟨_, _, _, _, _, _, _, _, _, _, _, own_new V _ [.bool s0, .slice a1 l1 c1, .bool s2, .slice a3 l3 c3, .slice a4 l4 c4], r.below ((Below.refl _ _).alloc (Nat.le_refl _) _) (Nat.le_refl _)⟩, hB.size, hB.alloc hB.size _⟩
theorem nboxw_set {W V : World} {x : CQ} {s0 s2 b0 b2 : Bool} {a1 a3 a4 x1 x3 x4 : Option Addr} {l1 c1 l3 c3 l4 c4 y1 z1 y3 z3 y4 z4 g : Nat} (hB : Below W.heap.size W V) (r : NumRep V (.agg #[.bool s0, .slice a1 l1 c1, .bool s2, .slice a3 l3 c3, .slice a4 l4 c4]) x) (o : Own V 40 g [.bool b0, .slice x1 y1 z1, .bool b2, .slice x3 y3 z3, .slice x4 y4 z4]) (hg : W.heap.size ≤ g) :
    NBoxW W x (.pointer (some ⟨g, 0, none⟩)) (((((V.setCell ⟨g, 0, none⟩ (.bool s0)).setCell ⟨g, 1, none⟩ (.slice a1 l1 c1)).setCell ⟨g, 2, none⟩ (.bool s2)).setCell ⟨g, 3, none⟩ (.slice a3 l3 c3)).setCell ⟨g, 4, none⟩ (.slice a4 l4 c4)) :=
  ⟨_, rfl, numbox_end r o rfl, hg, below5 hB hg⟩
set_option maxRecDepth 100000 in
set_option maxHeartbeats 1600000 in
theorem npower_spec (v u : Value) (x z : CQ) (k : Nat) (w : World) (h : NumRep w v x) (h' : NumRep w u z) (hs : Small k x) (hs' : Small k z) (h0 : ¬ (z.re = 0 ∧ z.im = 0)) (hk : k ≤ 10000000000) :
    Calls Tryz.prog 39 #[v, u] w (Ret w fun w' v' => NumRep w' v' (x.norm.div z)) := by
  obtain ⟨s1, s2, a1, a2, a3, l1, c1, l2, c2, l3, c3, rfl⟩ := h.open
  obtain ⟨t1, t2, p1, p2, p3, m1, n1, m2, n2, m3, n3, rfl⟩ := h'.open
  have HN := Lib.hid (fun v w h => nnorm_spec v x k w h hs (by omega))
  have HD := Lib.hid (fun v u w h h' => ndiv_nz v u x.norm z (2 * k + 1) w h h' hs.norm (hs'.mono (by omega)) h0 (by omega))
  clear hs hs' h0
  go_enter Tryz.func39, Tryz.ntmps39
  go_upto_region 1 with (fail)
  obtain ⟨W, hW, o1, o2, o4, hB, hS⟩ := boxes3 w 40 40 40 [.bool s1, .slice a1 l1 c1, .bool s2, .slice a2 l2 c2, .slice a3 l3 c3] [.bool t1, .slice p1 m1 n1, .bool t2, .slice p2 m2 n2, .slice p3 m3 n3] [.bool false, .slice none 0 0, .bool false, .slice none 0 0, .slice none 0 0]
  rw [← hW]
  clear hW
  have h := h.below hB (Nat.le_refl _); have h' := h'.below hB (Nat.le_refl _)
  go_cut [5] (fun s5 wx => NBoxW W (x.norm.div z) s5 wx)
  case first =>
    have hB := Below.refl W.heap.size W
    have qo10 := o1.cell 0 _ rfl; have qo11 := o1.cell 1 _ rfl; have qo12 := o1.cell 2 _ rfl; have qo13 := o1.cell 3 _ rfl; have qo14 := o1.cell 4 _ rfl; have qo20 := o2.cell 0 _ rfl; have qo21 := o2.cell 1 _ rfl; have qo22 := o2.cell 2 _ rfl; have qo23 := o2.cell 3 _ rfl; have qo24 := o2.cell 4 _ rfl
    have o1 : Own W.drew _ _ _ := o1; have o2 : Own W.drew _ _ _ := o2; have lto1 : _ < W.heap.size := o1.lt; have lto2 : _ < W.heap.size := o2.lt; have hB := hB.drew
    have h := h.below ((Below.refl W.heap.size W).drew) (Nat.le_refl _); have h' := h'.below ((Below.refl W.heap.size W).drew) (Nat.le_refl _)
    have tok1 : True := trivial
    have tok2 : True := trivial
    go_region_held3 (fun w' => w'.cell? ⟨w.heap.size, 0, none⟩ = some (.bool s1) ∧ w'.cell? ⟨w.heap.size, 1, none⟩ = some (.slice a1 l1 c1) ∧ w'.cell? ⟨w.heap.size, 2, none⟩ = some (.bool s2) ∧ w'.cell? ⟨w.heap.size, 3, none⟩ = some (.slice a2 l2 c2) ∧ w'.cell? ⟨w.heap.size, 4, none⟩ = some (.slice a3 l3 c3) ∧ w'.cell? ⟨w.heap.size + 1, 0, none⟩ = some (.bool t1) ∧ w'.cell? ⟨w.heap.size + 1, 1, none⟩ = some (.slice p1 m1 n1) ∧ w'.cell? ⟨w.heap.size + 1, 2, none⟩ = some (.bool t2) ∧ w'.cell? ⟨w.heap.size + 1, 3, none⟩ = some (.slice p2 m2 n2) ∧ w'.cell? ⟨w.heap.size + 1, 4, none⟩ = some (.slice p3 m3 n3)) (first | (with_reducible exact ⟨o1.cell 0 _ rfl, o1.cell 1 _ rfl, o1.cell 2 _ rfl, o1.cell 3 _ rfl, o1.cell 4 _ rfl, o2.cell 0 _ rfl, o2.cell 1 _ rfl, o2.cell 2 _ rfl, o2.cell 3 _ rfl, o2.cell 4 _ rfl⟩) | (simp [go_sem, qo10, qo11, qo12, qo13, qo14, qo20, qo21, qo22, qo23, qo24, lto1, lto2]; done))
      (first
        | (go_at_call 86; have _t := tok1; refine (HN.out _ _ (h.below (by first | exact Below.refl _ _ | exact (Below.refl _ _).alloc (Nat.le_refl _) _ | exact ((Below.refl _ _).alloc (Nat.le_refl _) _).alloc (by simp) _) (Nat.le_refl _))).mono ?_; rintro e W1 ⟨u1, rfl, hu1, hb1⟩; (try (have oN := oN.below hb1 oN.lt)); (try (first | have oN := own_behind hb1 | have oN := own_behindD hb1)); have hb1 := ext_step (W := W.drew) (by first | exact Below.refl _ _ | exact (Below.refl _ _).alloc (Nat.le_refl _) _ | exact ((Below.refl _ _).alloc (Nat.le_refl _) _).alloc (by simp) _) hb1; have hsW1 : W.heap.size ≤ W1.heap.size := hb1.size; have hB := hB.trans (hb1.mono hB.size); have o1 := o1.below hb1 o1.lt; have o2 := o2.below hb1 o2.lt; have lto1 := o1.lt; have lto2 := o2.lt; have qo10 := o1.cell 0 _ rfl; have qo11 := o1.cell 1 _ rfl; have qo12 := o1.cell 2 _ rfl; have qo13 := o1.cell 3 _ rfl; have qo14 := o1.cell 4 _ rfl; have qo20 := o2.cell 0 _ rfl; have qo21 := o2.cell 1 _ rfl; have qo22 := o2.cell 2 _ rfl; have qo23 := o2.cell 3 _ rfl; have qo24 := o2.cell 4 _ rfl; have h := h.below hb1 (Nat.le_refl _); have h' := h'.below hb1 (Nat.le_refl _); clear tok1 _t)
        | (go_at_call 87; have _t := tok2; refine (HD.out _ _ _ (hu1.below (by first | exact Below.refl _ _ | exact (Below.refl _ _).alloc (Nat.le_refl _) _ | exact ((Below.refl _ _).alloc (Nat.le_refl _) _).alloc (by simp) _) (Nat.le_refl _)) (h'.below (by first | exact Below.refl _ _ | exact (Below.refl _ _).alloc (Nat.le_refl _) _ | exact ((Below.refl _ _).alloc (Nat.le_refl _) _).alloc (by simp) _) (Nat.le_refl _))).mono ?_; rintro e W2 ⟨_, rfl, ⟨u2, rfl, hu2⟩, hb2⟩; (try (have oN := oN.below hb2 oN.lt)); (try (first | have oN := own_behind hb2 | have oN := own_behindD hb2)); have hb2 := ext_step (W := W1) (by first | exact Below.refl _ _ | exact (Below.refl _ _).alloc (Nat.le_refl _) _ | exact ((Below.refl _ _).alloc (Nat.le_refl _) _).alloc (by simp) _) hb2; have hsW2 : W1.heap.size ≤ W2.heap.size := hb2.size; have hB := hB.trans (hb2.mono hB.size); have o1 := o1.below hb2 o1.lt; have o2 := o2.below hb2 o2.lt; have lto1 := o1.lt; have lto2 := o2.lt; have qo10 := o1.cell 0 _ rfl; have qo11 := o1.cell 1 _ rfl; have qo12 := o1.cell 2 _ rfl; have qo13 := o1.cell 3 _ rfl; have qo14 := o1.cell 4 _ rfl; have qo20 := o2.cell 0 _ rfl; have qo21 := o2.cell 1 _ rfl; have qo22 := o2.cell 2 _ rfl; have qo23 := o2.cell 3 _ rfl; have qo24 := o2.cell 4 _ rfl; have h := h.below hb2 (Nat.le_refl _); have h' := h'.below hb2 (Nat.le_refl _); have hu1 := hu1.below hb2 (Nat.le_refl _); obtain ⟨_, _, _, _, _, _, _, _, _, _, _, rfl⟩ := hu2.open; (try (have foN := oN.free; have coN0 := oN.cell 0 _ rfl; have coN1 := oN.cell 1 _ rfl; have coN2 := oN.cell 2 _ rfl; have coN3 := oN.cell 3 _ rfl; have coN4 := oN.cell 4 _ rfl)); clear tok2 _t))
    all_goals go_wp2_with fail
    all_goals go_meet
    all_goals first | (with_reducible exact nboxw_new hB hu2) | (with_reducible refine nboxw_set hB hu2 oN ?_; exact (by first | exact Nat.le_refl _ | omega | (simp; done) | (simp; omega)))
  case rest =>
    obtain ⟨g5, rfl, ⟨z0, z2, d1, d3, d4, i1, j1, i3, j3, i4, j4, o5, r5⟩, hg5, hcb⟩ := hcut
    have hscW : W.heap.size ≤ wc.heap.size := hcb.size; have hB := hB.trans (hcb.mono hB.size); have o4 := o4.below hcb o4.lt
    have fo4 := o4.free; have co40 := o4.cell 0 _ rfl; have co41 := o4.cell 1 _ rfl; have co42 := o4.cell 2 _ rfl; have co43 := o4.cell 3 _ rfl; have co44 := o4.cell 4 _ rfl; have fo5 := o5.free; have co50 := o5.cell 0 _ rfl; have co51 := o5.cell 1 _ rfl; have co52 := o5.cell 2 _ rfl; have co53 := o5.cell 3 _ rfl; have co54 := o5.cell 4 _ rfl
    go_wp2_with fail
    exact bodyPost_ret (by simp [results, Tryz.results39, go_sem, co40, co41, co42, co43, co44]) rfl (num_end r5 o4 hB (by omega) rfl)
theorem posQ_nz {x : CQ} (h : posQ x = true) : ¬ (x.re = 0 ∧ x.im = 0) := by
  rintro ⟨h1, h2⟩
  unfold posQ at h
  rw [Bool.and_eq_true, decide_eq_true_iff, decide_eq_true_iff] at h
  have hx : x = cq 0 0 1 := CQ.ext (by rw [h1]; exact ((re_zero (by omega)).2 rfl).symm) (by rw [h2]; exact ((im_zero (by omega)).2 rfl).symm)
  rw [hx] at h
  have hz : qcmp (cq 0 0 1) (cq 0 0 1) = 0 := by
    unfold qcmp rcmp
    simp [Rat.lt_irrefl]
  rw [hz] at h
  exact absurd h.2 (by decide)
def PowRet (x z : CQ) (v : Value) : Prop := (posQ z = true ∧ ∃ R I, CW32 (x.norm.div z) R I ∧ v = .tuple #[.float .f32 R, .int .i64 0]) ∨ (posQ z = false ∧ v = .tuple #[.float .f32 0, .int .i64 1])
theorem PowRet.unique {x z : CQ} {v u : Value} (h : PowRet x z v) (h' : PowRet x z u) : v = u := by
  rcases h with ⟨h1, R, I, h2, rfl⟩ | ⟨h1, rfl⟩
  · rcases h' with ⟨_, R', I', h2', rfl⟩ | ⟨h1', _⟩
    · obtain ⟨rfl, _⟩ := h2.unique h2'
      rfl
    · rw [h1] at h1'; cases h1'
  · rcases h' with ⟨h1', _⟩ | ⟨_, rfl⟩
    · rw [h1] at h1'; cases h1'
    · rfl
set_option maxRecDepth 100000 in
set_option maxHeartbeats 800000 in
theorem nPower_spec (v u : Value) (x z : CQ) (k : Nat) (w : World) (h : NumRep w v x) (h' : NumRep w u z) (hs : Small k x) (hs' : Small k z) (hk : k ≤ 100000) :
    Calls Tryz.prog 8 #[v, u] w (Ret w fun _ v' => PowRet x z v') := by
  have HP := Lib.hid (fun w h => positive_spec u z k w h hs' hk)
  have HH := Lib.hid h'
  obtain ⟨s1, s2, a1, a2, a3, l1, c1, l2, c2, l3, c3, rfl⟩ := h.open
  obtain ⟨t1, t2, p1, p2, p3, m1, n1, m2, n2, m3, n3, rfl⟩ := h'.open
  have HW := Lib.hid (fun v u w h h' (h0 : ¬ (z.re = 0 ∧ z.im = 0)) => npower_spec v u x z k w h h' hs hs' h0 (by omega))
  have HNE := Lib.hid (fun v w h (h0 : ¬ (z.re = 0 ∧ z.im = 0)) => nnear64_spec v (x.norm.div z) (3 * (2 * k + 1) + 1) w h (hs.norm.div (hs'.mono (by omega)) h0) (by omega))
  have HNZ := Lib.hid (posQ_nz (x := z))
  have HPR : Hid (∀ v, ((posQ z = true ∧ ∃ R I, CW32 (x.norm.div z) R I ∧ v = .tuple #[.float .f32 R, .int .i64 0]) ∨ (posQ z = false ∧ v = .tuple #[.float .f32 0, .int .i64 1])) → PowRet x z v) := fun _ h => h
  clear hs hs'
  generalize posQ z = pz at *
  cases pz
  · go_enter Tryz.func8, Tryz.ntmps8
    go_upto_region 1 with (fail)
    obtain ⟨W, hW, o1, o2, hB, hS⟩ := boxes2 w 40 40 [.bool s1, .slice a1 l1 c1, .bool s2, .slice a2 l2 c2, .slice a3 l3 c3] [.bool t1, .slice p1 m1 n1, .bool t2, .slice p2 m2 n2, .slice p3 m3 n3]
    rw [← hW]
    clear hW
    have fo2 := o2.free; have co20 := o2.cell 0 _ rfl; have co21 := o2.cell 1 _ rfl; have co22 := o2.cell 2 _ rfl; have co23 := o2.cell 3 _ rfl; have co24 := o2.cell 4 _ rfl
    go_wp2_with fail
    refine (HP.out W (HH.out.below hB (Nat.le_refl _))).mono ?_
    rintro e W1 ⟨_, rfl, rfl, hb1⟩
    clear co20 co21 co22 co23 co24 fo2
    have hB := hB.trans (hb1.mono hB.size)
    go_wp2_with fail
    go_ret2
    exact ⟨_, rfl, HPR.out _ (.inr ⟨(by first | trivial | rfl), rfl⟩), hB⟩
  · have h0 := HNZ.out rfl
    go_enter Tryz.func8, Tryz.ntmps8
    go_upto_region 1 with (fail)
    obtain ⟨W, hW, o1, o2, hB, hS⟩ := boxes2 w 40 40 [.bool s1, .slice a1 l1 c1, .bool s2, .slice a2 l2 c2, .slice a3 l3 c3] [.bool t1, .slice p1 m1 n1, .bool t2, .slice p2 m2 n2, .slice p3 m3 n3]
    rw [← hW]
    clear hW
    have h := h.below hB (Nat.le_refl _); have h' := h'.below hB (Nat.le_refl _)
    have fo2 := o2.free; have co20 := o2.cell 0 _ rfl; have co21 := o2.cell 1 _ rfl; have co22 := o2.cell 2 _ rfl; have co23 := o2.cell 3 _ rfl; have co24 := o2.cell 4 _ rfl
    go_wp2_with fail
    refine (HP.out W h').mono ?_
    rintro e W1 ⟨_, rfl, rfl, hb1⟩
    clear co20 co21 co22 co23 co24 fo2
    have hsW1 : W.heap.size ≤ W1.heap.size := hb1.size; have hB := hB.trans (hb1.mono hB.size); have o1 := o1.below hb1 o1.lt; have o2 := o2.below hb1 o2.lt; have h := h.below hb1 (Nat.le_refl _); have h' := h'.below hb1 (Nat.le_refl _)
    have fo1 := o1.free; have co10 := o1.cell 0 _ rfl; have co11 := o1.cell 1 _ rfl; have co12 := o1.cell 2 _ rfl; have co13 := o1.cell 3 _ rfl; have co14 := o1.cell 4 _ rfl; have fo2 := o2.free; have co20 := o2.cell 0 _ rfl; have co21 := o2.cell 1 _ rfl; have co22 := o2.cell 2 _ rfl; have co23 := o2.cell 3 _ rfl; have co24 := o2.cell 4 _ rfl
    go_wp2_with fail
    refine (HW.out _ _ W1 h h' h0).mono ?_
    rintro e W2 ⟨u3, rfl, hu3, hb2⟩
    have hB := hB.trans (hb2.mono hB.size)
    clear co10 co11 co12 co13 co14 fo1 co20 co21 co22 co23 co24 fo2
    go_wp2_with fail
    refine (HNE.out _ W2 hu3 h0).mono ?_
    rintro e W3 ⟨_, rfl, ⟨R, I, rfl, hRI⟩, hb3⟩
    have hB := hB.trans (hb3.mono hB.size)
    go_wp2_with fail
    go_ret2
    exact ⟨_, rfl, HPR.out _ (.inl ⟨(by first | trivial | rfl), R, I, hRI, rfl⟩), hB⟩
end Go.Proofs.YtfkogkcpndaoeaaGreat
