/- AreRows, areStacks, areWaves, of what is equal. Conditions: bits, lengths. Sweeps that Merge and Cut return are small enough to be compared. Conditions: none. -/
import Derived.Test.YtpnfdlnhmhekeaaGreatMAre
import Derived.Test.YtpnfdlnhmhekeaaGreatMRMerge
set_option linter.all false
namespace Go.Proofs.YtpnfdlnhmhekeaaGreat
open Go.RowKit
def rowFit (e : Nat) (r : List CQ) : Prop := r.length ≤ 1000000 ∧ ∀ x ∈ r, Small e x
set_option maxRecDepth 100000 in
set_option maxHeartbeats 1600000 in
theorem areRows_spec (v u : Value) (l : List (List CQ)) (e : Nat) (w : World) (h : NumMat w v l) (h2 : QMat w u l) (hs : ∀ r ∈ l, rowFit e r) (he : e ≤ 1048576) :
    Calls Tryz.prog 104 #[v, u] w (Ret w fun _ v' => v' = .bool true) := by
  have HA := Lib.hid (fun v u r w (h1 : NumSl w v r) (h2 : QSl w u r) (h3 : rowFit e r) => areAll_spec v u r e w h1.1 h2.1 h3.2 he h3.1)
  have HS := Lib.hid hs
  obtain ⟨n, hn⟩ : ∃ n, l.length = n := ⟨_, rfl⟩
  obtain ⟨av, cv, rfl, hcv, hcv2⟩ := h.dims
  obtain ⟨au, cu, rfl, hcu, hcu2⟩ := h2.dims
  have HV := Lib.hid h
  have HU := Lib.hid h2
  have HN := Lib.hid hn
  rw [hn] at hcv hcu HV HU ⊢
  clear h h2 hn hs he
  go_enter Tryz.func104, Tryz.ntmps104
  go_wp2_with fail
  go_loopw [14] (fun iv wr => ∃ k : Nat, k ≤ n ∧ iv = .int .i64 (k : Int) ∧ Below w.heap.size w wr) (fun i _ => n - (intOf i).toNat)
  case atStart => exact ⟨0, Nat.zero_le _, rfl, Below.refl _ _⟩
  case round =>
    obtain ⟨k, hk, rfl, hB⟩ := hrel
    by_cases hlt : k < n
    · obtain ⟨r, hr⟩ : ∃ r, l[k]? = some r := ⟨_, List.getElem?_eq_getElem (by have := HN.out; omega)⟩
      obtain ⟨b1, o1, a1, c1, rfl, -, e1, hr1, hc1, hc12⟩ := (HV.out.below hB lr).list hr
      obtain ⟨b2, o2, a2, c2, rfl, -, e2, hr2, hc2, hc22⟩ := (HU.out.below hB lr).list hr
      have HF := Lib.hid (HS.out r (List.mem_of_getElem? hr))
      have HC := Lib.hid (HA.out _ _ r wr hr1 hr2 HF.out)
      clear hr hr1 hr2
      generalize r.length = p at *
      go_wp2_with fail
      refine HC.out.mono ?_
      rintro e W1 ⟨_, rfl, rfl, hb1⟩
      have hB1 := hB.trans (hb1.mono hB.size)
      clear e1 e2
      go_wp2_with fail
      go_roundw
      case rel => first | exact ⟨k + 1, by omega, by go_num, hB1⟩ | ((repeat apply Exists.intro); exact ⟨⟨k + 1, by omega, by go_num, hB1⟩, rfl⟩)
      case measure => simp [intOf]; omega
    · obtain rfl : k = n := by omega
      go_wp2_with fail
      go_ret
      exact ⟨_, rfl, rfl, hB⟩
set_option maxRecDepth 100000 in
set_option maxHeartbeats 1600000 in
theorem areStacks_spec (v u : Value) (l : List (List (List CQ))) (e : Nat) (w : World) (h : NumSt w v l) (h2 : QSt w u l) (hs : ∀ m ∈ l, ∀ r ∈ m, rowFit e r) (he : e ≤ 1048576) :
    Calls Tryz.prog 53 #[v, u] w (Ret w fun _ v' => v' = .bool true) := by
  have HA := Lib.hid (fun v u r w (h1 : NumMat w v r) (h2 : QMat w u r) (h3 : ∀ x ∈ r, rowFit e x) => areRows_spec v u r e w h1 h2 h3 he)
  have HS := Lib.hid hs
  obtain ⟨n, hn⟩ : ∃ n, l.length = n := ⟨_, rfl⟩
  obtain ⟨av, cv, rfl, hcv, hcv2⟩ := h.dims
  obtain ⟨au, cu, rfl, hcu, hcu2⟩ := h2.dims
  have HV := Lib.hid h
  have HU := Lib.hid h2
  have HN := Lib.hid hn
  rw [hn] at hcv hcu HV HU ⊢
  clear h h2 hn hs he
  go_enter Tryz.func53, Tryz.ntmps53
  go_wp2_with fail
  go_loopw [13] (fun iv wr => ∃ k : Nat, k ≤ n ∧ iv = .int .i64 (k : Int) ∧ Below w.heap.size w wr) (fun i _ => n - (intOf i).toNat)
  case atStart => exact ⟨0, Nat.zero_le _, rfl, Below.refl _ _⟩
  case round =>
    obtain ⟨k, hk, rfl, hB⟩ := hrel
    by_cases hlt : k < n
    · obtain ⟨r, hr⟩ : ∃ r, l[k]? = some r := ⟨_, List.getElem?_eq_getElem (by have := HN.out; omega)⟩
      obtain ⟨b1, o1, a1, c1, rfl, -, e1, hr1, hc1, hc12⟩ := (HV.out.below hB lr).mat hr
      obtain ⟨b2, o2, a2, c2, rfl, -, e2, hr2, hc2, hc22⟩ := (HU.out.below hB lr).mat hr
      have HF := Lib.hid (HS.out r (List.mem_of_getElem? hr))
      have hkd : Below wr.heap.size wr wr.drew := (Below.refl _ _).drew
      have HC := Lib.hid (HA.out _ _ r wr.drew (hr1.below hkd lr) (hr2.below hkd lr) HF.out)
      have hB := hB.drew
      have hlti : (k : Int) < (n : Int) := by omega
      have hk0 : (0 : Int) ≤ (k : Int) := by omega
      clear hr hr1 hr2 hkd
      generalize r.length = p at *
      go_upto_region 6 with (fail)
      have hS := And.intro e1 e2
      have hS : wr.drew.cell? _ = _ ∧ wr.drew.cell? _ = _ := hS
      have hL := True.intro
      clear e1 e2
      refine wp_region_late (fun w' => w'.cell? ⟨b1, o1 + k, none⟩ = some (.slice a1 p c1) ∧ w'.cell? ⟨b2, o2 + k, none⟩ = some (.slice a2 p c2)) (fun w' => True) (fun i => false) (by kernel_rfl) ?_; try simp only [List.size_toArray, List.length_cons, List.length_nil, Nat.reduceAdd]
      generalize wr.drew = U at *
      (refine mt 0 ?_ rfl (by rfl) ?_ hS ?_; rotate_left; (intro w' h; (try dsimp only at h); go_simp; try exact rfl)); simp only [Act.put,q1,q2,q3,q4,q5,q6,q7,q8,q9]; (refine mt 1 ?_ rfl (by rfl) ?_ hS ?_; rotate_left; (intro w' h; (try dsimp only at h); go_simp; try exact rfl)); simp only [Act.put,q1,q2,q3,q4,q5,q6,q7,q8,q9]; (refine mt 2 ?_ rfl (by rfl) ?_ hS ?_; rotate_left; (intro w' h; (try dsimp only at h); go_simp; try exact rfl)); simp only [Act.put,q1,q2,q3,q4,q5,q6,q7,q8,q9]; (refine mt 3 ?_ rfl (by rfl) ?_ hS ?_; rotate_left; (intro w' h; (try dsimp only at h); go_simp; try exact rfl)); simp only [Act.put,q1,q2,q3,q4,q5,q6,q7,q8,q9]; (refine mt 4 ?_ rfl (by rfl) ?_ hS ?_; rotate_left; (intro w' h; (try dsimp only at h); go_simp; try exact rfl)); simp only [Act.put,q1,q2,q3,q4,q5,q6,q7,q8,q9]; (refine mt 5 ?_ rfl (by rfl) ?_ hS ?_; rotate_left; (intro w' h; (try dsimp only at h); go_simp; try exact rfl)); simp only [Act.put,q1,q2,q3,q4,q5,q6,q7,q8,q9]; (refine mt 6 ?_ rfl (by rfl) ?_ hS ?_; rotate_left; (intro w' h; (try dsimp only at h); go_simp; try exact rfl)); simp only [Act.put,q1,q2,q3,q4,q5,q6,q7,q8,q9]; (refine mt 7 ?_ rfl (by rfl) ?_ hS ?_; rotate_left; (intro w' h; (try dsimp only at h); go_simp; try exact rfl)); simp only [Act.put,q1,q2,q3,q4,q5,q6,q7,q8,q9]
      refine mo 8 rfl fun K hK => ?_; go_simp; go_at_call 104; (with_reducible refine HC.out.mono ?_); rintro e3 W1 ⟨_, rfl, rfl, hb1⟩; have hB := hB.trans (hb1.mono hB.size); have hS := And.intro ((hb1.cell (World.block_lt_of_cell? U _ hS.1)).trans hS.1) ((hb1.cell (World.block_lt_of_cell? U _ hS.2)).trans hS.2); refine hK _ _ hS (fun _ _ => hL) ?_; clear hK K; (try simp only [Act.put,q1,q2,q3,q4,q5,q6,q7,q8,q9])
      (refine mt 9 ?_ rfl (by rfl) ?_ hS ?_; rotate_left; (intro w' h; (try dsimp only at h); go_simp; try exact rfl)); simp only [Act.put,q1,q2,q3,q4,q5,q6,q7,q8,q9]
      refine wpAnyM_done (by kernel_rfl) ?_ _
      clear hS hL HC
      go_wp2_with fail
      go_roundw
      case rel => first | exact ⟨k + 1, by omega, by go_num, hB⟩ | ((repeat apply Exists.intro); exact ⟨⟨k + 1, by omega, by go_num, hB⟩, rfl⟩)
      case measure => simp [intOf]; omega
    · obtain rfl : k = n := by omega
      go_wp2_with fail
      go_ret
      exact ⟨_, rfl, rfl, hB⟩
def okW (e : Nat) (x : Wv) : Prop := rowFit e x.fr ∧ (∀ m ∈ x.a, ∀ r ∈ m, rowFit e r) ∧ (∀ m ∈ x.b, ∀ r ∈ m, rowFit e r)
set_option maxRecDepth 100000 in
set_option maxHeartbeats 1600000 in
theorem areWaves_spec (v u : Value) (x : Wv) (e : Nat) (w : World) (h : WvT w v x) (h2 : QvT w u x) (hs : okW e x) (he : e ≤ 1048576) :
    Calls Tryz.prog 17 #[v, u] w (Ret w fun _ v' => v' = .bool true) := by
  have HF := Lib.hid (fun v u w (h1 : NumSl w v x.fr) (h2 : QSl w u x.fr) => areAll_spec v u x.fr e w h1.1 h2.1 hs.1.2 he hs.1.1)
  have HA := Lib.hid (fun v u w h1 h2 => areStacks_spec v u x.a e w h1 h2 hs.2.1 he)
  have HB := Lib.hid (fun v u w h1 h2 => areStacks_spec v u x.b e w h1 h2 hs.2.2 he)
  obtain ⟨vf, va, vb, rfl, h3, h4, h5⟩ := h
  obtain ⟨uf, ua, ub, rfl, k3, k4, k5⟩ := h2
  obtain ⟨f1, f2, f3, rfl⟩ := h3.shape
  obtain ⟨a1, a2, a3, rfl⟩ := h4.shape
  obtain ⟨b1, b2, b3, rfl⟩ := h5.shape
  obtain ⟨g1, g2, g3, rfl⟩ := k3.shape
  obtain ⟨c1, c2, c3, rfl⟩ := k4.shape
  obtain ⟨d1, d2, d3, rfl⟩ := k5.shape
  clear hs
  go_enter Tryz.func17, Tryz.ntmps17
  go_upto_region 1 with (fail)
  obtain ⟨W, hW, o1, o2, hB, hS⟩ := boxes2 w 33 37 [.slice f1 f2 f3, .slice a1 a2 a3, .slice b1 b2 b3] [.slice g1 g2 g3, .slice c1 c2 c3, .slice d1 d2 d3]
  rw [← hW]
  clear hW hS
  have h3 := h3.below hB lr; have h4 := h4.below hB lr; have h5 := h5.below hB lr; have k3 := k3.below hB lr; have k4 := k4.below hB lr; have k5 := k5.below hB lr
  have fo1 := o1.free; have co10 := o1.cell 0 _ rfl; have co11 := o1.cell 1 _ rfl; have co12 := o1.cell 2 _ rfl; have fo2 := o2.free; have co20 := o2.cell 0 _ rfl; have co21 := o2.cell 1 _ rfl; have co22 := o2.cell 2 _ rfl
  go_wp2_with fail
  refine (HF.out _ _ W h3 k3).mono ?_
  rintro e W1 ⟨_, rfl, rfl, hb1⟩
  clear co10 co11 co12 fo1 co20 co21 co22 fo2 h3 k3
  have hsW1 : W.heap.size ≤ W1.heap.size := hb1.size; have hB := hB.trans (hb1.mono hB.size); have o1 := o1.below hb1 o1.lt; have o2 := o2.below hb1 o2.lt; have h4 := h4.below hb1 lr; have h5 := h5.below hb1 lr; have k4 := k4.below hb1 lr; have k5 := k5.below hb1 lr
  have fo1 := o1.free; have co10 := o1.cell 0 _ rfl; have co11 := o1.cell 1 _ rfl; have co12 := o1.cell 2 _ rfl; have fo2 := o2.free; have co20 := o2.cell 0 _ rfl; have co21 := o2.cell 1 _ rfl; have co22 := o2.cell 2 _ rfl
  go_wp2_with fail
  refine (HA.out _ _ W1 h4 k4).mono ?_
  rintro e W2 ⟨_, rfl, rfl, hb2⟩
  clear co10 co11 co12 fo1 co20 co21 co22 fo2 h4 k4
  have hsW2 : W1.heap.size ≤ W2.heap.size := hb2.size; have hB := hB.trans (hb2.mono hB.size); have o1 := o1.below hb2 o1.lt; have o2 := o2.below hb2 o2.lt; have h5 := h5.below hb2 lr; have k5 := k5.below hb2 lr
  have fo1 := o1.free; have co10 := o1.cell 0 _ rfl; have co11 := o1.cell 1 _ rfl; have co12 := o1.cell 2 _ rfl; have fo2 := o2.free; have co20 := o2.cell 0 _ rfl; have co21 := o2.cell 1 _ rfl; have co22 := o2.cell 2 _ rfl
  go_wp2_with fail
  refine (HB.out _ _ W2 h5 k5).mono ?_
  rintro e W3 ⟨_, rfl, rfl, hb3⟩
  clear co10 co11 co12 fo1 co20 co21 co22 fo2
  have hsW3 : W2.heap.size ≤ W3.heap.size := hb3.size; have hB := hB.trans (hb3.mono hB.size)
  go_wp2_with fail
  go_ret
  exact ⟨_, rfl, rfl, hB⟩
end Go.Proofs.YtpnfdlnhmhekeaaGreat
namespace Go.Proofs.YtpnfdlnhmhekeaaGreat
open Go.RowKit
theorem mergeP_memB : ∀ (xs ys l : List Pt), mergeP xs ys = some l → ∀ p ∈ l, p ∈ xs ∨ p ∈ ys
  | [], ys, l, h => by
    simp [mergeP] at h
    subst h
    exact fun p hp => .inr hp
  | x :: xs, [], l, h => by
    simp [mergeP] at h
    subst h
    exact fun p hp => .inl hp
  | x :: xs, y :: ys, l, h => by
    rw [mergeP] at h
    split at h
    · cases h
    · split at h
      · obtain ⟨l', h1, rfl⟩ := Option.map_eq_some_iff.1 h
        intro p hp
        rcases List.mem_cons.1 hp with rfl | hp
        · exact .inl List.mem_cons_self
        · rcases mergeP_memB xs (y :: ys) l' h1 p hp with h2 | h2
          · exact .inl (List.mem_cons_of_mem _ h2)
          · exact .inr h2
      · obtain ⟨l', h1, rfl⟩ := Option.map_eq_some_iff.1 h
        intro p hp
        rcases List.mem_cons.1 hp with rfl | hp
        · exact .inr List.mem_cons_self
        · rcases mergeP_memB (x :: xs) ys l' h1 p hp with h2 | h2
          · exact .inl h2
          · exact .inr (List.mem_cons_of_mem _ h2)
  termination_by xs ys => xs.length + ys.length
theorem pts_memB {x : Wv} (ha : x.a.length = x.fr.length) (hb : x.b.length = x.fr.length) {p : Pt} (hp : p ∈ x.pts) : ∃ i : Nat, x.fr[i]? = some p.f ∧ x.a[i]? = some p.a ∧ x.b[i]? = some p.b := by
  obtain ⟨i, hi⟩ := List.getElem?_of_mem hp
  exact ⟨i, Wv.pts_at hi ha hb⟩
def ptOK (e : Nat) (p : Pt) : Prop := Small e p.f ∧ (∀ r ∈ p.a, rowFit e r) ∧ ∀ r ∈ p.b, rowFit e r
theorem okW_pts {e : Nat} {x : Wv} (h : okW e x) (ha : x.a.length = x.fr.length) (hb : x.b.length = x.fr.length) : ∀ p ∈ x.pts, ptOK e p := by
  intro p hp
  obtain ⟨i, h1, h2, h3⟩ := pts_memB ha hb hp
  exact ⟨h.1.2 _ (List.mem_of_getElem? h1), h.2.1 _ (List.mem_of_getElem? h2), h.2.2 _ (List.mem_of_getElem? h3)⟩
theorem okW_of {e : Nat} {l : List Pt} (hl : l.length ≤ 1000000) (h : ∀ p ∈ l, ptOK e p) : okW e (Wv.of l) := by
  refine ⟨⟨by simpa [Wv.of] using hl, fun y hy => ?_⟩, fun m hm r hr => ?_, fun m hm r hr => ?_⟩
  · obtain ⟨p, hp, rfl⟩ := List.mem_map.1 hy
    exact (h p hp).1
  · obtain ⟨p, hp, rfl⟩ := List.mem_map.1 hm
    exact (h p hp).2.1 r hr
  · obtain ⟨p, hp, rfl⟩ := List.mem_map.1 hm
    exact (h p hp).2.2 r hr
theorem okW_nil (e : Nat) : okW e (Wv.of []) := okW_of (by simp) (fun p hp => by cases hp)
theorem okW_merge {e : Nat} {v u : Wv} (hv : okW e v) (hu : okW e u) : okW e (mergeRes v u) := by
  unfold mergeRes
  split
  · rename_i h
    unfold mergeErr at h
    split at h
    · rename_i hvu
      obtain ⟨-, -, v3, v4, -⟩ := vw_parts hvu.1
      obtain ⟨-, -, u3, u4, -⟩ := vw_parts hvu.2
      split at h
      · cases hm : mergeP v.pts u.pts with
        | none => exact okW_nil e
        | some l =>
          rw [hm] at h
          refine okW_of ?_ fun p hp => ?_
          · show l.length ≤ 1000000
            simp only at h
            split at h
            · omega
            · cases h
          · rcases mergeP_memB _ _ _ hm p hp with h1 | h1
            · exact okW_pts hv v3 v4 p h1
            · exact okW_pts hu u3 u4 p h1
      · cases h
    · cases h
  · exact okW_nil e
theorem okW_cut {e : Nat} {x : Wv} {lo hi : CQ} (hx : okW e x) : okW e (cutRes x lo hi) := by
  unfold cutRes
  split
  · rename_i h
    unfold cutErr at h
    split at h
    · rename_i hc
      obtain ⟨-, h2, h3, h4, -⟩ := vw_parts hc.1
      refine okW_of ?_ fun p hp => okW_pts hx h3 h4 p (List.mem_filter.1 hp).1
      have : (cutPts x lo hi).length ≤ x.pts.length := List.length_filter_le _ _
      rw [Wv.pts_len] at this
      omega
    · cases h
  · exact okW_nil e
theorem SlOf.eachB {α : Type} {R : World → List Value → α → Prop} {size : Nat} {w : World} {v : Value} {l : List α} (h : SlOf R size w v l) : ∀ x ∈ l, ∃ u, R w u x := by
  intro x hx
  obtain ⟨i, hi⟩ := List.getElem?_of_mem hx
  obtain ⟨a, c, _, _, _, h2⟩ := h
  obtain ⟨b, o, u, _, _, hR, _⟩ := h2 i x hi
  exact ⟨u, hR⟩
theorem okW_wd {w : World} {v : Value} {x : Wd} (h : WdRep w v x) (hf : x.fit) : okW 64 x.wv := by
  obtain ⟨vf, va, vb, -, h1, h2, h3⟩ := h
  obtain ⟨f1, ⟨-, f2⟩, ⟨-, f3⟩⟩ := hf
  refine ⟨⟨by simp [Wd.wv]; omega, fun y hy => ?_⟩, fun m hm r hr => ?_, fun m hm r hr => ?_⟩
  · obtain ⟨q, hq, rfl⟩ := List.mem_map.1 hy
    obtain ⟨u, -, ok⟩ := SlOf.eachB h1 q hq
    exact Rt.small ok
  · obtain ⟨m', hm', rfl⟩ := List.mem_map.1 hm
    obtain ⟨r', hr', rfl⟩ := List.mem_map.1 hr
    have := (f2 m' hm').2 r' hr'
    refine ⟨by simp; omega, fun y hy => ?_⟩
    obtain ⟨q, hq, rfl⟩ := List.mem_map.1 hy
    obtain ⟨u1, v1, -, k1⟩ := SlOf.eachB h2 m' hm'
    obtain ⟨u2, v2, -, k2⟩ := SlOf.eachB k1 r' hr'
    obtain ⟨u, -, ok⟩ := SlOf.eachB k2 q hq
    exact Rt.small ok
  · obtain ⟨m', hm', rfl⟩ := List.mem_map.1 hm
    obtain ⟨r', hr', rfl⟩ := List.mem_map.1 hr
    have := (f3 m' hm').2 r' hr'
    refine ⟨by simp; omega, fun y hy => ?_⟩
    obtain ⟨q, hq, rfl⟩ := List.mem_map.1 hy
    obtain ⟨u1, v1, -, k1⟩ := SlOf.eachB h3 m' hm'
    obtain ⟨u2, v2, -, k2⟩ := SlOf.eachB k1 r' hr'
    obtain ⟨u, -, ok⟩ := SlOf.eachB k2 q hq
    exact Rt.small ok
end Go.Proofs.YtpnfdlnhmhekeaaGreat
