/- The reference's ValidWaves. Conditions: bits of the frequencies. -/
import Derived.Test.YtfkogkcpndaoeaaGreatMRValid
set_option linter.all false
namespace Go.Proofs.YtfkogkcpndaoeaaGreat
open Go.RowKit
theorem matN_fit {n : Nat} {m : List (List CQ)} (h : matN n m = true) : m.length = n ∧ 1 ≤ n ∧ n ≤ 8 := by
  unfold matN inR at h
  simp at h
  omega
theorem ports_square {a b : List (List (List CQ))} (ha : 0 < a.length) (hb : 0 < b.length) : squareB (a ++ b) = (decide (0 < portsN a) && decide (portsN a = portsN b)) := by
  obtain ⟨a0, a', rfl⟩ : ∃ x l, a = x :: l := by cases a with | nil => simp at ha | cons x l => exact ⟨_, _, rfl⟩
  obtain ⟨b0, b', rfl⟩ : ∃ x l, b = x :: l := by cases b with | nil => simp at hb | cons x l => exact ⟨_, _, rfl⟩
  have e1 : squareB (a0 :: a' ++ b0 :: b') = ((a0 :: a').all (matN a0.length) && (b0 :: b').all (matN a0.length)) := by
    show ((a0 :: a') ++ (b0 :: b')).all (matN a0.length) = _
    rw [List.all_append]
  rw [e1, portsN_at (l := a0 :: a') rfl, portsN_at (l := b0 :: b') rfl]
  by_cases h1 : (a0 :: a').all (matN a0.length) = true
  · rw [if_pos h1, h1]
    have hp := matN_fit (List.all_eq_true.1 h1 a0 List.mem_cons_self)
    rw [decide_eq_true (show 0 < a0.length by omega), Bool.true_and, Bool.true_and]
    by_cases hq : b0.length = a0.length
    · rw [hq]
      cases h2 : (b0 :: b').all (matN a0.length)
      · symm
        rw [if_neg (by simp), decide_eq_false_iff_not]
        omega
      · simp
    · have h2 : (b0 :: b').all (matN a0.length) = false := by
        rw [← Bool.not_eq_true, List.all_eq_true]
        exact fun h => hq (matN_fit (h b0 List.mem_cons_self)).1
      rw [h2]
      symm
      rw [decide_eq_false_iff_not]
      split <;> omega
  · rw [if_neg h1]
    have h2 : (a0 :: a').all (matN a0.length) = false := by simpa using h1
    rw [h2]
    simp
set_option maxRecDepth 100000 in
set_option maxHeartbeats 6400000 in
theorem qvalidWaves_spec (v : Value) (x : Wv) (k : Nat) (w : World) (h : QvT w v x) (hs : ∀ y ∈ x.fr, Small k y) (hk : k ≤ 100000) :
    Calls Tryz.prog 53 #[v] w (Ret w fun _ v' => v' = .bool (vwB x)) := by
  obtain ⟨vf, va, vb, rfl, hf, ha, hb⟩ := h
  obtain ⟨af, cf, rfl, hcf, hcf2⟩ := hf.dims
  obtain ⟨aa, ca, rfl, hca, hca2⟩ := ha.dims
  obtain ⟨ab, cb, rfl, hcb, hcb2⟩ := hb.dims
  have HV := Lib.hid (fun w h => qvalidFreqs_spec (.slice af x.fr.length cf) x.fr k w h hs hk)
  have HLEN := Lib.hid (vf_len (l := x.fr))
  have HPA := Lib.hid (fun w h => ports_spec (.slice aa x.a.length ca) x.a w h)
  have HPB := Lib.hid (fun w h => ports_spec (.slice ab x.b.length cb) x.b w h)
  have HSQ0 := Lib.hid (ports_square (a := x.a) (b := x.b))
  unfold vwB
  clear hs
  generalize vfB x.fr = t at *
  generalize squareB (x.a ++ x.b) = s at *
  generalize portsN x.a = pa at *
  generalize portsN x.b = pb at *
  generalize x.fr.length = p at *
  generalize x.a.length = la at *
  generalize x.b.length = lb at *
  cases t
  · clear HSQ0 HLEN HPA HPB hcf hcf2 hca hca2 hcb hcb2
    go_enter Tryz.func53, Tryz.ntmps53
    go_upto_region 1 with (fail)
    obtain ⟨W, hW, o1, hB, hS⟩ := boxes1 w 56 [.slice af p cf, .slice aa la ca, .slice ab lb cb]
    rw [← hW]
    clear hW hS
    have hf := hf.below hB (Nat.le_refl _); have ha := ha.below hB (Nat.le_refl _); have hb := hb.below hB (Nat.le_refl _)
    have hkd : Below W.heap.size W W.drew := (Below.refl _ _).drew
    have o1 : Own W.drew _ _ _ := o1.below hkd o1.lt
    have hB := hB.trans (hkd.mono hB.size)
    have hf := hf.below hkd (Nat.le_refl _); have ha := ha.below hkd (Nat.le_refl _); have hb := hb.below hkd (Nat.le_refl _)
    clear hkd
    have hS := And.intro (o1.cell 0 _ rfl) (And.intro (o1.cell 1 _ rfl) (o1.cell 2 _ rfl))
    have hL := True.intro
    refine wp_region_late (fun w' => w'.cell? ⟨w.heap.size, 0, none⟩ = some (.slice af p cf) ∧ w'.cell? ⟨w.heap.size, 1, none⟩ = some (.slice aa la ca) ∧ w'.cell? ⟨w.heap.size, 2, none⟩ = some (.slice ab lb cb)) (fun w' => True) (fun i => false) (by kernel_rfl) ?_; try simp only [List.size_toArray, List.length_cons, List.length_nil, Nat.reduceAdd]
    generalize W.drew = W0 at *
    (refine mt 0 ?_ rfl (by rfl) ?_ hS ?_; rotate_left; (intro w' h; (try dsimp only at h); go_simp; try exact rfl)); simp only [Act.put,q1,q2,q3,q4,q5,q6,q7,q8,q9]; (refine mt 1 ?_ rfl (by rfl) ?_ hS ?_; rotate_left; (intro w' h; (try dsimp only at h); go_simp; try exact rfl)); simp only [Act.put,q1,q2,q3,q4,q5,q6,q7,q8,q9]
    refine mo 2 rfl fun K hK => ?_; go_simp; go_at_call 107; (with_reducible refine (HV.out W0 hf).mono ?_); rintro e V1 ⟨_, rfl, rfl, hbV1⟩; have hB := hB.trans (hbV1.mono hB.size); have o1 := o1.below hbV1 o1.lt; have ha := ha.below hbV1 (Nat.le_refl _); have hb := hb.below hbV1 (Nat.le_refl _); have hf := hf.below hbV1 (Nat.le_refl _); have hS := And.intro (o1.cell 0 _ rfl) (And.intro (o1.cell 1 _ rfl) (o1.cell 2 _ rfl)); refine hK _ _ hS (fun _ _ => hL) ?_; clear hK K; (try simp only [Act.put,q1,q2,q3,q4,q5,q6,q7,q8,q9])
    (refine mt 3 ?_ rfl (by rfl) ?_ hS ?_; rotate_left; (intro w' h; (try dsimp only at h); go_simp; try exact rfl)); simp only [Act.put,q1,q2,q3,q4,q5,q6,q7,q8,q9]
    refine mk 4 rfl (by rfl) hS ?_; simp only [Act.put,q1,q2,q3,q4,q5,q6,q7,q8,q9]; refine mk 5 rfl (by rfl) hS ?_; simp only [Act.put,q1,q2,q3,q4,q5,q6,q7,q8,q9]; refine mk 6 rfl (by rfl) hS ?_; simp only [Act.put,q1,q2,q3,q4,q5,q6,q7,q8,q9]; refine mk 7 rfl (by rfl) hS ?_; simp only [Act.put,q1,q2,q3,q4,q5,q6,q7,q8,q9]; refine mk 8 rfl (by rfl) hS ?_; simp only [Act.put,q1,q2,q3,q4,q5,q6,q7,q8,q9]; refine mk 9 rfl (by rfl) hS ?_; simp only [Act.put,q1,q2,q3,q4,q5,q6,q7,q8,q9]; refine mk 10 rfl (by rfl) hS ?_; simp only [Act.put,q1,q2,q3,q4,q5,q6,q7,q8,q9]
    (refine mt 11 ?_ rfl (by rfl) ?_ hS ?_; rotate_left; (intro w' h; (try dsimp only at h); go_simp; try exact rfl)); simp only [Act.put,q1,q2,q3,q4,q5,q6,q7,q8,q9]; (refine mt 12 ?_ rfl (by rfl) ?_ hS ?_; rotate_left; (intro w' h; (try dsimp only at h); go_simp; try exact rfl)); simp only [Act.put,q1,q2,q3,q4,q5,q6,q7,q8,q9]
    refine mk 13 rfl (by rfl) hS ?_; simp only [Act.put,q1,q2,q3,q4,q5,q6,q7,q8,q9]; refine mk 14 rfl (by rfl) hS ?_; simp only [Act.put,q1,q2,q3,q4,q5,q6,q7,q8,q9]; refine mk 15 rfl (by rfl) hS ?_; simp only [Act.put,q1,q2,q3,q4,q5,q6,q7,q8,q9]; refine mk 16 rfl (by rfl) hS ?_; simp only [Act.put,q1,q2,q3,q4,q5,q6,q7,q8,q9]; refine mk 17 rfl (by rfl) hS ?_; simp only [Act.put,q1,q2,q3,q4,q5,q6,q7,q8,q9]; refine mk 18 rfl (by rfl) hS ?_; simp only [Act.put,q1,q2,q3,q4,q5,q6,q7,q8,q9]; refine mk 19 rfl (by rfl) hS ?_; simp only [Act.put,q1,q2,q3,q4,q5,q6,q7,q8,q9]
    (refine mt 20 ?_ rfl (by rfl) ?_ hS ?_; rotate_left; (intro w' h; (try dsimp only at h); go_simp; try exact rfl)); simp only [Act.put,q1,q2,q3,q4,q5,q6,q7,q8,q9]; (refine mt 21 ?_ rfl (by rfl) ?_ hS ?_; rotate_left; (intro w' h; (try dsimp only at h); go_simp; try exact rfl)); simp only [Act.put,q1,q2,q3,q4,q5,q6,q7,q8,q9]
    refine mk 22 rfl (by rfl) hS ?_; simp only [Act.put,q1,q2,q3,q4,q5,q6,q7,q8,q9]; refine mk 23 rfl (by rfl) hS ?_; simp only [Act.put,q1,q2,q3,q4,q5,q6,q7,q8,q9]; refine mk 24 rfl (by rfl) hS ?_; simp only [Act.put,q1,q2,q3,q4,q5,q6,q7,q8,q9]; refine mk 25 rfl (by rfl) hS ?_; simp only [Act.put,q1,q2,q3,q4,q5,q6,q7,q8,q9]
    (refine mt 26 ?_ rfl (by rfl) ?_ hS ?_; rotate_left; (intro w' h; (try dsimp only at h); go_simp; try exact rfl)); simp only [Act.put,q1,q2,q3,q4,q5,q6,q7,q8,q9]; (refine mt 27 ?_ rfl (by rfl) ?_ hS ?_; rotate_left; (intro w' h; (try dsimp only at h); go_simp; try exact rfl)); simp only [Act.put,q1,q2,q3,q4,q5,q6,q7,q8,q9]
    refine mk 28 rfl (by rfl) hS ?_; simp only [Act.put,q1,q2,q3,q4,q5,q6,q7,q8,q9]; refine mk 29 rfl (by rfl) hS ?_; simp only [Act.put,q1,q2,q3,q4,q5,q6,q7,q8,q9]; refine mk 30 rfl (by rfl) hS ?_; simp only [Act.put,q1,q2,q3,q4,q5,q6,q7,q8,q9]; refine mk 31 rfl (by rfl) hS ?_; simp only [Act.put,q1,q2,q3,q4,q5,q6,q7,q8,q9]; refine mk 32 rfl (by rfl) hS ?_; simp only [Act.put,q1,q2,q3,q4,q5,q6,q7,q8,q9]; refine mk 33 rfl (by rfl) hS ?_; simp only [Act.put,q1,q2,q3,q4,q5,q6,q7,q8,q9]; refine mk 34 rfl (by rfl) hS ?_; simp only [Act.put,q1,q2,q3,q4,q5,q6,q7,q8,q9]
    (refine mt 35 ?_ rfl (by rfl) ?_ hS ?_; rotate_left; (intro w' h; (try dsimp only at h); go_simp; try exact rfl)); simp only [Act.put,q1,q2,q3,q4,q5,q6,q7,q8,q9]
    (refine mt 36 ?_ rfl (by rfl) ?_ hS ?_; rotate_left; (intro w' h; (try dsimp only at h); go_simp; try exact rfl)); simp only [Act.put,q1,q2,q3,q4,q5,q6,q7,q8,q9]
    refine wpAnyM_done (by kernel_rfl) ?_ _
    go_wp2_with fail
    go_ret
    exact ⟨_, rfl, by simp, hB⟩
  · obtain ⟨hp1, hp2⟩ := HLEN.out rfl
    by_cases hap : la = p
    · by_cases hbp : lb = p
      · have HSQ := Lib.hid (HSQ0.out (by omega) (by omega))
        rw [decide_eq_true hap, decide_eq_true hbp]
        subst hap
        subst hbp
        clear HSQ0 HLEN hp1 hp2 hcf hcf2 hca hca2 hcb hcb2
        by_cases hpa : 0 < pa
        · have e1 : ((pa : Int) > 0) := by omega
          have e2 : ((pa : Int) == (pb : Int)) = decide (pa = pb) := by rw [Bool.eq_iff_iff, beq_iff_eq, decide_eq_true_iff]; omega
          rw [decide_eq_true hpa] at HSQ
          go_enter Tryz.func53, Tryz.ntmps53
          go_upto_region 1 with (fail)
          obtain ⟨W, hW, o1, hB, hS⟩ := boxes1 w 56 [.slice af lb cf, .slice aa lb ca, .slice ab lb cb]
          rw [← hW]
          clear hW hS
          have hf := hf.below hB (Nat.le_refl _); have ha := ha.below hB (Nat.le_refl _); have hb := hb.below hB (Nat.le_refl _)
          have hkd : Below W.heap.size W W.drew := (Below.refl _ _).drew
          have o1 : Own W.drew _ _ _ := o1.below hkd o1.lt
          have hB := hB.trans (hkd.mono hB.size)
          have hf := hf.below hkd (Nat.le_refl _); have ha := ha.below hkd (Nat.le_refl _); have hb := hb.below hkd (Nat.le_refl _)
          clear hkd
          have hS := And.intro (o1.cell 0 _ rfl) (And.intro (o1.cell 1 _ rfl) (o1.cell 2 _ rfl))
          have hL := True.intro
          refine wp_region_late (fun w' => w'.cell? ⟨w.heap.size, 0, none⟩ = some (.slice af lb cf) ∧ w'.cell? ⟨w.heap.size, 1, none⟩ = some (.slice aa lb ca) ∧ w'.cell? ⟨w.heap.size, 2, none⟩ = some (.slice ab lb cb)) (fun w' => True) (fun i => false) (by kernel_rfl) ?_; try simp only [List.size_toArray, List.length_cons, List.length_nil, Nat.reduceAdd]
          generalize W.drew = W0 at *
          (refine mt 0 ?_ rfl (by rfl) ?_ hS ?_; rotate_left; (intro w' h; (try dsimp only at h); go_simp; try exact rfl)); simp only [Act.put,q1,q2,q3,q4,q5,q6,q7,q8,q9]; (refine mt 1 ?_ rfl (by rfl) ?_ hS ?_; rotate_left; (intro w' h; (try dsimp only at h); go_simp; try exact rfl)); simp only [Act.put,q1,q2,q3,q4,q5,q6,q7,q8,q9]
          refine mo 2 rfl fun K hK => ?_; go_simp; go_at_call 107; (with_reducible refine (HV.out W0 hf).mono ?_); rintro e V1 ⟨_, rfl, rfl, hbV1⟩; have hB := hB.trans (hbV1.mono hB.size); have o1 := o1.below hbV1 o1.lt; have ha := ha.below hbV1 (Nat.le_refl _); have hb := hb.below hbV1 (Nat.le_refl _); have hf := hf.below hbV1 (Nat.le_refl _); have hS := And.intro (o1.cell 0 _ rfl) (And.intro (o1.cell 1 _ rfl) (o1.cell 2 _ rfl)); refine hK _ _ hS (fun _ _ => hL) ?_; clear hK K; (try simp only [Act.put,q1,q2,q3,q4,q5,q6,q7,q8,q9])
          (refine mt 3 ?_ rfl (by rfl) ?_ hS ?_; rotate_left; (intro w' h; (try dsimp only at h); go_simp; try exact rfl)); simp only [Act.put,q1,q2,q3,q4,q5,q6,q7,q8,q9]; (refine mt 4 ?_ rfl (by rfl) ?_ hS ?_; rotate_left; (intro w' h; (try dsimp only at h); go_simp; try exact rfl)); simp only [Act.put,q1,q2,q3,q4,q5,q6,q7,q8,q9]; (refine mt 5 ?_ rfl (by rfl) ?_ hS ?_; rotate_left; (intro w' h; (try dsimp only at h); go_simp; try exact rfl)); simp only [Act.put,q1,q2,q3,q4,q5,q6,q7,q8,q9]; (refine mt 6 ?_ rfl (by rfl) ?_ hS ?_; rotate_left; (intro w' h; (try dsimp only at h); go_simp; try exact rfl)); simp only [Act.put,q1,q2,q3,q4,q5,q6,q7,q8,q9]; (refine mt 7 ?_ rfl (by rfl) ?_ hS ?_; rotate_left; (intro w' h; (try dsimp only at h); go_simp; try exact rfl)); simp only [Act.put,q1,q2,q3,q4,q5,q6,q7,q8,q9]; (refine mt 8 ?_ rfl (by rfl) ?_ hS ?_; rotate_left; (intro w' h; (try dsimp only at h); go_simp; try exact rfl)); simp only [Act.put,q1,q2,q3,q4,q5,q6,q7,q8,q9]; (refine mt 9 ?_ rfl (by rfl) ?_ hS ?_; rotate_left; (intro w' h; (try dsimp only at h); go_simp; try exact rfl)); simp only [Act.put,q1,q2,q3,q4,q5,q6,q7,q8,q9]; (refine mt 10 ?_ rfl (by rfl) ?_ hS ?_; rotate_left; (intro w' h; (try dsimp only at h); go_simp; try exact rfl)); simp only [Act.put,q1,q2,q3,q4,q5,q6,q7,q8,q9]; (refine mt 11 ?_ rfl (by rfl) ?_ hS ?_; rotate_left; (intro w' h; (try dsimp only at h); go_simp; try exact rfl)); simp only [Act.put,q1,q2,q3,q4,q5,q6,q7,q8,q9]; (refine mt 12 ?_ rfl (by rfl) ?_ hS ?_; rotate_left; (intro w' h; (try dsimp only at h); go_simp; try exact rfl)); simp only [Act.put,q1,q2,q3,q4,q5,q6,q7,q8,q9]; (refine mt 13 ?_ rfl (by rfl) ?_ hS ?_; rotate_left; (intro w' h; (try dsimp only at h); go_simp; try exact rfl)); simp only [Act.put,q1,q2,q3,q4,q5,q6,q7,q8,q9]; (refine mt 14 ?_ rfl (by rfl) ?_ hS ?_; rotate_left; (intro w' h; (try dsimp only at h); go_simp; try exact rfl)); simp only [Act.put,q1,q2,q3,q4,q5,q6,q7,q8,q9]; (refine mt 15 ?_ rfl (by rfl) ?_ hS ?_; rotate_left; (intro w' h; (try dsimp only at h); go_simp; try exact rfl)); simp only [Act.put,q1,q2,q3,q4,q5,q6,q7,q8,q9]; (refine mt 16 ?_ rfl (by rfl) ?_ hS ?_; rotate_left; (intro w' h; (try dsimp only at h); go_simp; try exact rfl)); simp only [Act.put,q1,q2,q3,q4,q5,q6,q7,q8,q9]; (refine mt 17 ?_ rfl (by rfl) ?_ hS ?_; rotate_left; (intro w' h; (try dsimp only at h); go_simp; try exact rfl)); simp only [Act.put,q1,q2,q3,q4,q5,q6,q7,q8,q9]; (refine mt 18 ?_ rfl (by rfl) ?_ hS ?_; rotate_left; (intro w' h; (try dsimp only at h); go_simp; try exact rfl)); simp only [Act.put,q1,q2,q3,q4,q5,q6,q7,q8,q9]; (refine mt 19 ?_ rfl (by rfl) ?_ hS ?_; rotate_left; (intro w' h; (try dsimp only at h); go_simp; try exact rfl)); simp only [Act.put,q1,q2,q3,q4,q5,q6,q7,q8,q9]; (refine mt 20 ?_ rfl (by rfl) ?_ hS ?_; rotate_left; (intro w' h; (try dsimp only at h); go_simp; try exact rfl)); simp only [Act.put,q1,q2,q3,q4,q5,q6,q7,q8,q9]; (refine mt 21 ?_ rfl (by rfl) ?_ hS ?_; rotate_left; (intro w' h; (try dsimp only at h); go_simp; try exact rfl)); simp only [Act.put,q1,q2,q3,q4,q5,q6,q7,q8,q9]; (refine mt 22 ?_ rfl (by rfl) ?_ hS ?_; rotate_left; (intro w' h; (try dsimp only at h); go_simp; try exact rfl)); simp only [Act.put,q1,q2,q3,q4,q5,q6,q7,q8,q9]; (refine mt 23 ?_ rfl (by rfl) ?_ hS ?_; rotate_left; (intro w' h; (try dsimp only at h); go_simp; try exact rfl)); simp only [Act.put,q1,q2,q3,q4,q5,q6,q7,q8,q9]
          refine mo 24 rfl fun K hK => ?_; go_simp; go_at_call 108; (with_reducible refine (HPA.out V1 ha).mono ?_); rintro e V2 ⟨_, rfl, rfl, hbV2⟩; have hB := hB.trans (hbV2.mono hB.size); have o1 := o1.below hbV2 o1.lt; have ha := ha.below hbV2 (Nat.le_refl _); have hb := hb.below hbV2 (Nat.le_refl _); have hf := hf.below hbV2 (Nat.le_refl _); have hS := And.intro (o1.cell 0 _ rfl) (And.intro (o1.cell 1 _ rfl) (o1.cell 2 _ rfl)); refine hK _ _ hS (fun _ _ => hL) ?_; clear hK K; (try simp only [Act.put,q1,q2,q3,q4,q5,q6,q7,q8,q9])
          (refine mt 25 ?_ rfl (by rfl) ?_ hS ?_; rotate_left; (intro w' h; (try dsimp only at h); go_simp; try exact rfl)); simp only [Act.put,q1,q2,q3,q4,q5,q6,q7,q8,q9]; (refine mt 26 ?_ rfl (by rfl) ?_ hS ?_; rotate_left; (intro w' h; (try dsimp only at h); go_simp; try exact rfl)); simp only [Act.put,q1,q2,q3,q4,q5,q6,q7,q8,q9]; (refine mt 27 ?_ rfl (by rfl) ?_ hS ?_; rotate_left; (intro w' h; (try dsimp only at h); go_simp; try exact rfl)); simp only [Act.put,q1,q2,q3,q4,q5,q6,q7,q8,q9]; (refine mt 28 ?_ rfl (by rfl) ?_ hS ?_; rotate_left; (intro w' h; (try dsimp only at h); go_simp; try exact rfl)); simp only [Act.put,q1,q2,q3,q4,q5,q6,q7,q8,q9]; (refine mt 29 ?_ rfl (by rfl) ?_ hS ?_; rotate_left; (intro w' h; (try dsimp only at h); go_simp; try exact rfl)); simp only [Act.put,q1,q2,q3,q4,q5,q6,q7,q8,q9]
          (refine mt 31 ?_ rfl (by rfl) ?_ hS ?_; rotate_left; (intro w' h; (try dsimp only at h); go_simp; try exact rfl)); simp only [Act.put,q1,q2,q3,q4,q5,q6,q7,q8,q9]; (refine mt 32 ?_ rfl (by rfl) ?_ hS ?_; rotate_left; (intro w' h; (try dsimp only at h); go_simp; try exact rfl)); simp only [Act.put,q1,q2,q3,q4,q5,q6,q7,q8,q9]
          refine mo 30 rfl fun K hK => ?_; go_simp; go_at_call 108; (with_reducible refine (HPA.out V2 ha).mono ?_); rintro e V3 ⟨_, rfl, rfl, hbV3⟩; have hB := hB.trans (hbV3.mono hB.size); have o1 := o1.below hbV3 o1.lt; have ha := ha.below hbV3 (Nat.le_refl _); have hb := hb.below hbV3 (Nat.le_refl _); have hf := hf.below hbV3 (Nat.le_refl _); have hS := And.intro (o1.cell 0 _ rfl) (And.intro (o1.cell 1 _ rfl) (o1.cell 2 _ rfl)); refine hK _ _ hS (fun _ _ => hL) ?_; clear hK K; (try simp only [Act.put,q1,q2,q3,q4,q5,q6,q7,q8,q9])
          refine mo 33 rfl fun K hK => ?_; go_simp; go_at_call 108; (with_reducible refine (HPB.out V3 hb).mono ?_); rintro e V4 ⟨_, rfl, rfl, hbV4⟩; have hB := hB.trans (hbV4.mono hB.size); have o1 := o1.below hbV4 o1.lt; have ha := ha.below hbV4 (Nat.le_refl _); have hb := hb.below hbV4 (Nat.le_refl _); have hf := hf.below hbV4 (Nat.le_refl _); have hS := And.intro (o1.cell 0 _ rfl) (And.intro (o1.cell 1 _ rfl) (o1.cell 2 _ rfl)); refine hK _ _ hS (fun _ _ => hL) ?_; clear hK K; (try simp only [Act.put,q1,q2,q3,q4,q5,q6,q7,q8,q9])
          (refine mt 34 ?_ rfl (by rfl) ?_ hS ?_; rotate_left; (intro w' h; (try dsimp only at h); go_simp; try exact rfl)); simp only [Act.put,q1,q2,q3,q4,q5,q6,q7,q8,q9]; (refine mt 35 ?_ rfl (by rfl) ?_ hS ?_; rotate_left; (intro w' h; (try dsimp only at h); go_simp; try exact rfl)); simp only [Act.put,q1,q2,q3,q4,q5,q6,q7,q8,q9]
          (refine mt 36 ?_ rfl (by rfl) ?_ hS ?_; rotate_left; (intro w' h; (try dsimp only at h); go_simp; try exact rfl)); simp only [Act.put,q1,q2,q3,q4,q5,q6,q7,q8,q9]
          refine wpAnyM_done (by kernel_rfl) ?_ _
          go_wp2_with fail
          go_ret
          exact ⟨_, rfl, by rw [HSQ.out]; simp, hB⟩
        · obtain rfl : pa = 0 := by omega
          clear hpa
          go_enter Tryz.func53, Tryz.ntmps53
          go_upto_region 1 with (fail)
          obtain ⟨W, hW, o1, hB, hS⟩ := boxes1 w 56 [.slice af lb cf, .slice aa lb ca, .slice ab lb cb]
          rw [← hW]
          clear hW hS
          have hf := hf.below hB (Nat.le_refl _); have ha := ha.below hB (Nat.le_refl _); have hb := hb.below hB (Nat.le_refl _)
          have hkd : Below W.heap.size W W.drew := (Below.refl _ _).drew
          have o1 : Own W.drew _ _ _ := o1.below hkd o1.lt
          have hB := hB.trans (hkd.mono hB.size)
          have hf := hf.below hkd (Nat.le_refl _); have ha := ha.below hkd (Nat.le_refl _); have hb := hb.below hkd (Nat.le_refl _)
          clear hkd
          have hS := And.intro (o1.cell 0 _ rfl) (And.intro (o1.cell 1 _ rfl) (o1.cell 2 _ rfl))
          have hL := True.intro
          refine wp_region_late (fun w' => w'.cell? ⟨w.heap.size, 0, none⟩ = some (.slice af lb cf) ∧ w'.cell? ⟨w.heap.size, 1, none⟩ = some (.slice aa lb ca) ∧ w'.cell? ⟨w.heap.size, 2, none⟩ = some (.slice ab lb cb)) (fun w' => True) (fun i => false) (by kernel_rfl) ?_; try simp only [List.size_toArray, List.length_cons, List.length_nil, Nat.reduceAdd]
          generalize W.drew = W0 at *
          (refine mt 0 ?_ rfl (by rfl) ?_ hS ?_; rotate_left; (intro w' h; (try dsimp only at h); go_simp; try exact rfl)); simp only [Act.put,q1,q2,q3,q4,q5,q6,q7,q8,q9]; (refine mt 1 ?_ rfl (by rfl) ?_ hS ?_; rotate_left; (intro w' h; (try dsimp only at h); go_simp; try exact rfl)); simp only [Act.put,q1,q2,q3,q4,q5,q6,q7,q8,q9]
          refine mo 2 rfl fun K hK => ?_; go_simp; go_at_call 107; (with_reducible refine (HV.out W0 hf).mono ?_); rintro e V1 ⟨_, rfl, rfl, hbV1⟩; have hB := hB.trans (hbV1.mono hB.size); have o1 := o1.below hbV1 o1.lt; have ha := ha.below hbV1 (Nat.le_refl _); have hb := hb.below hbV1 (Nat.le_refl _); have hf := hf.below hbV1 (Nat.le_refl _); have hS := And.intro (o1.cell 0 _ rfl) (And.intro (o1.cell 1 _ rfl) (o1.cell 2 _ rfl)); refine hK _ _ hS (fun _ _ => hL) ?_; clear hK K; (try simp only [Act.put,q1,q2,q3,q4,q5,q6,q7,q8,q9])
          (refine mt 3 ?_ rfl (by rfl) ?_ hS ?_; rotate_left; (intro w' h; (try dsimp only at h); go_simp; try exact rfl)); simp only [Act.put,q1,q2,q3,q4,q5,q6,q7,q8,q9]; (refine mt 4 ?_ rfl (by rfl) ?_ hS ?_; rotate_left; (intro w' h; (try dsimp only at h); go_simp; try exact rfl)); simp only [Act.put,q1,q2,q3,q4,q5,q6,q7,q8,q9]; (refine mt 5 ?_ rfl (by rfl) ?_ hS ?_; rotate_left; (intro w' h; (try dsimp only at h); go_simp; try exact rfl)); simp only [Act.put,q1,q2,q3,q4,q5,q6,q7,q8,q9]; (refine mt 6 ?_ rfl (by rfl) ?_ hS ?_; rotate_left; (intro w' h; (try dsimp only at h); go_simp; try exact rfl)); simp only [Act.put,q1,q2,q3,q4,q5,q6,q7,q8,q9]; (refine mt 7 ?_ rfl (by rfl) ?_ hS ?_; rotate_left; (intro w' h; (try dsimp only at h); go_simp; try exact rfl)); simp only [Act.put,q1,q2,q3,q4,q5,q6,q7,q8,q9]; (refine mt 8 ?_ rfl (by rfl) ?_ hS ?_; rotate_left; (intro w' h; (try dsimp only at h); go_simp; try exact rfl)); simp only [Act.put,q1,q2,q3,q4,q5,q6,q7,q8,q9]; (refine mt 9 ?_ rfl (by rfl) ?_ hS ?_; rotate_left; (intro w' h; (try dsimp only at h); go_simp; try exact rfl)); simp only [Act.put,q1,q2,q3,q4,q5,q6,q7,q8,q9]; (refine mt 10 ?_ rfl (by rfl) ?_ hS ?_; rotate_left; (intro w' h; (try dsimp only at h); go_simp; try exact rfl)); simp only [Act.put,q1,q2,q3,q4,q5,q6,q7,q8,q9]; (refine mt 11 ?_ rfl (by rfl) ?_ hS ?_; rotate_left; (intro w' h; (try dsimp only at h); go_simp; try exact rfl)); simp only [Act.put,q1,q2,q3,q4,q5,q6,q7,q8,q9]; (refine mt 12 ?_ rfl (by rfl) ?_ hS ?_; rotate_left; (intro w' h; (try dsimp only at h); go_simp; try exact rfl)); simp only [Act.put,q1,q2,q3,q4,q5,q6,q7,q8,q9]; (refine mt 13 ?_ rfl (by rfl) ?_ hS ?_; rotate_left; (intro w' h; (try dsimp only at h); go_simp; try exact rfl)); simp only [Act.put,q1,q2,q3,q4,q5,q6,q7,q8,q9]; (refine mt 14 ?_ rfl (by rfl) ?_ hS ?_; rotate_left; (intro w' h; (try dsimp only at h); go_simp; try exact rfl)); simp only [Act.put,q1,q2,q3,q4,q5,q6,q7,q8,q9]; (refine mt 15 ?_ rfl (by rfl) ?_ hS ?_; rotate_left; (intro w' h; (try dsimp only at h); go_simp; try exact rfl)); simp only [Act.put,q1,q2,q3,q4,q5,q6,q7,q8,q9]; (refine mt 16 ?_ rfl (by rfl) ?_ hS ?_; rotate_left; (intro w' h; (try dsimp only at h); go_simp; try exact rfl)); simp only [Act.put,q1,q2,q3,q4,q5,q6,q7,q8,q9]; (refine mt 17 ?_ rfl (by rfl) ?_ hS ?_; rotate_left; (intro w' h; (try dsimp only at h); go_simp; try exact rfl)); simp only [Act.put,q1,q2,q3,q4,q5,q6,q7,q8,q9]; (refine mt 18 ?_ rfl (by rfl) ?_ hS ?_; rotate_left; (intro w' h; (try dsimp only at h); go_simp; try exact rfl)); simp only [Act.put,q1,q2,q3,q4,q5,q6,q7,q8,q9]; (refine mt 19 ?_ rfl (by rfl) ?_ hS ?_; rotate_left; (intro w' h; (try dsimp only at h); go_simp; try exact rfl)); simp only [Act.put,q1,q2,q3,q4,q5,q6,q7,q8,q9]; (refine mt 20 ?_ rfl (by rfl) ?_ hS ?_; rotate_left; (intro w' h; (try dsimp only at h); go_simp; try exact rfl)); simp only [Act.put,q1,q2,q3,q4,q5,q6,q7,q8,q9]; (refine mt 21 ?_ rfl (by rfl) ?_ hS ?_; rotate_left; (intro w' h; (try dsimp only at h); go_simp; try exact rfl)); simp only [Act.put,q1,q2,q3,q4,q5,q6,q7,q8,q9]; (refine mt 22 ?_ rfl (by rfl) ?_ hS ?_; rotate_left; (intro w' h; (try dsimp only at h); go_simp; try exact rfl)); simp only [Act.put,q1,q2,q3,q4,q5,q6,q7,q8,q9]; (refine mt 23 ?_ rfl (by rfl) ?_ hS ?_; rotate_left; (intro w' h; (try dsimp only at h); go_simp; try exact rfl)); simp only [Act.put,q1,q2,q3,q4,q5,q6,q7,q8,q9]
          refine mo 24 rfl fun K hK => ?_; go_simp; go_at_call 108; (with_reducible refine (HPA.out V1 ha).mono ?_); rintro e V2 ⟨_, rfl, rfl, hbV2⟩; have hB := hB.trans (hbV2.mono hB.size); have o1 := o1.below hbV2 o1.lt; have ha := ha.below hbV2 (Nat.le_refl _); have hb := hb.below hbV2 (Nat.le_refl _); have hf := hf.below hbV2 (Nat.le_refl _); have hS := And.intro (o1.cell 0 _ rfl) (And.intro (o1.cell 1 _ rfl) (o1.cell 2 _ rfl)); refine hK _ _ hS (fun _ _ => hL) ?_; clear hK K; (try simp only [Act.put,q1,q2,q3,q4,q5,q6,q7,q8,q9])
          (refine mt 25 ?_ rfl (by rfl) ?_ hS ?_; rotate_left; (intro w' h; (try dsimp only at h); go_simp; try exact rfl)); simp only [Act.put,q1,q2,q3,q4,q5,q6,q7,q8,q9]; (refine mt 26 ?_ rfl (by rfl) ?_ hS ?_; rotate_left; (intro w' h; (try dsimp only at h); go_simp; try exact rfl)); simp only [Act.put,q1,q2,q3,q4,q5,q6,q7,q8,q9]; (refine mt 27 ?_ rfl (by rfl) ?_ hS ?_; rotate_left; (intro w' h; (try dsimp only at h); go_simp; try exact rfl)); simp only [Act.put,q1,q2,q3,q4,q5,q6,q7,q8,q9]
          refine mk 28 rfl (by rfl) hS ?_; simp only [Act.put,q1,q2,q3,q4,q5,q6,q7,q8,q9]; refine mk 29 rfl (by rfl) hS ?_; simp only [Act.put,q1,q2,q3,q4,q5,q6,q7,q8,q9]; refine mk 30 rfl (by rfl) hS ?_; simp only [Act.put,q1,q2,q3,q4,q5,q6,q7,q8,q9]; refine mk 31 rfl (by rfl) hS ?_; simp only [Act.put,q1,q2,q3,q4,q5,q6,q7,q8,q9]; refine mk 32 rfl (by rfl) hS ?_; simp only [Act.put,q1,q2,q3,q4,q5,q6,q7,q8,q9]; refine mk 33 rfl (by rfl) hS ?_; simp only [Act.put,q1,q2,q3,q4,q5,q6,q7,q8,q9]; refine mk 34 rfl (by rfl) hS ?_; simp only [Act.put,q1,q2,q3,q4,q5,q6,q7,q8,q9]
          (refine mt 35 ?_ rfl (by rfl) ?_ hS ?_; rotate_left; (intro w' h; (try dsimp only at h); go_simp; try exact rfl)); simp only [Act.put,q1,q2,q3,q4,q5,q6,q7,q8,q9]
          (refine mt 36 ?_ rfl (by rfl) ?_ hS ?_; rotate_left; (intro w' h; (try dsimp only at h); go_simp; try exact rfl)); simp only [Act.put,q1,q2,q3,q4,q5,q6,q7,q8,q9]
          refine wpAnyM_done (by kernel_rfl) ?_ _
          go_wp2_with fail
          go_ret
          exact ⟨_, rfl, by simp [HSQ.out], hB⟩
      · rw [decide_eq_false hbp]
        subst hap
        have hbp' : ((lb : Int) == (la : Int)) = false := by simp; omega
        clear HSQ0 HLEN hp1 hp2 hcf hcf2 hca hca2 hcb hcb2 hbp HPA HPB
        go_enter Tryz.func53, Tryz.ntmps53
        go_upto_region 1 with (fail)
        obtain ⟨W, hW, o1, hB, hS⟩ := boxes1 w 56 [.slice af la cf, .slice aa la ca, .slice ab lb cb]
        rw [← hW]
        clear hW hS
        have hf := hf.below hB (Nat.le_refl _); have ha := ha.below hB (Nat.le_refl _); have hb := hb.below hB (Nat.le_refl _)
        have hkd : Below W.heap.size W W.drew := (Below.refl _ _).drew
        have o1 : Own W.drew _ _ _ := o1.below hkd o1.lt
        have hB := hB.trans (hkd.mono hB.size)
        have hf := hf.below hkd (Nat.le_refl _); have ha := ha.below hkd (Nat.le_refl _); have hb := hb.below hkd (Nat.le_refl _)
        clear hkd
        have hS := And.intro (o1.cell 0 _ rfl) (And.intro (o1.cell 1 _ rfl) (o1.cell 2 _ rfl))
        have hL := True.intro
        refine wp_region_late (fun w' => w'.cell? ⟨w.heap.size, 0, none⟩ = some (.slice af la cf) ∧ w'.cell? ⟨w.heap.size, 1, none⟩ = some (.slice aa la ca) ∧ w'.cell? ⟨w.heap.size, 2, none⟩ = some (.slice ab lb cb)) (fun w' => True) (fun i => false) (by kernel_rfl) ?_; try simp only [List.size_toArray, List.length_cons, List.length_nil, Nat.reduceAdd]
        generalize W.drew = W0 at *
        (refine mt 0 ?_ rfl (by rfl) ?_ hS ?_; rotate_left; (intro w' h; (try dsimp only at h); go_simp; try exact rfl)); simp only [Act.put,q1,q2,q3,q4,q5,q6,q7,q8,q9]; (refine mt 1 ?_ rfl (by rfl) ?_ hS ?_; rotate_left; (intro w' h; (try dsimp only at h); go_simp; try exact rfl)); simp only [Act.put,q1,q2,q3,q4,q5,q6,q7,q8,q9]
        refine mo 2 rfl fun K hK => ?_; go_simp; go_at_call 107; (with_reducible refine (HV.out W0 hf).mono ?_); rintro e V1 ⟨_, rfl, rfl, hbV1⟩; have hB := hB.trans (hbV1.mono hB.size); have o1 := o1.below hbV1 o1.lt; have ha := ha.below hbV1 (Nat.le_refl _); have hb := hb.below hbV1 (Nat.le_refl _); have hf := hf.below hbV1 (Nat.le_refl _); have hS := And.intro (o1.cell 0 _ rfl) (And.intro (o1.cell 1 _ rfl) (o1.cell 2 _ rfl)); refine hK _ _ hS (fun _ _ => hL) ?_; clear hK K; (try simp only [Act.put,q1,q2,q3,q4,q5,q6,q7,q8,q9])
        (refine mt 3 ?_ rfl (by rfl) ?_ hS ?_; rotate_left; (intro w' h; (try dsimp only at h); go_simp; try exact rfl)); simp only [Act.put,q1,q2,q3,q4,q5,q6,q7,q8,q9]; (refine mt 4 ?_ rfl (by rfl) ?_ hS ?_; rotate_left; (intro w' h; (try dsimp only at h); go_simp; try exact rfl)); simp only [Act.put,q1,q2,q3,q4,q5,q6,q7,q8,q9]; (refine mt 5 ?_ rfl (by rfl) ?_ hS ?_; rotate_left; (intro w' h; (try dsimp only at h); go_simp; try exact rfl)); simp only [Act.put,q1,q2,q3,q4,q5,q6,q7,q8,q9]; (refine mt 6 ?_ rfl (by rfl) ?_ hS ?_; rotate_left; (intro w' h; (try dsimp only at h); go_simp; try exact rfl)); simp only [Act.put,q1,q2,q3,q4,q5,q6,q7,q8,q9]; (refine mt 7 ?_ rfl (by rfl) ?_ hS ?_; rotate_left; (intro w' h; (try dsimp only at h); go_simp; try exact rfl)); simp only [Act.put,q1,q2,q3,q4,q5,q6,q7,q8,q9]; (refine mt 8 ?_ rfl (by rfl) ?_ hS ?_; rotate_left; (intro w' h; (try dsimp only at h); go_simp; try exact rfl)); simp only [Act.put,q1,q2,q3,q4,q5,q6,q7,q8,q9]; (refine mt 9 ?_ rfl (by rfl) ?_ hS ?_; rotate_left; (intro w' h; (try dsimp only at h); go_simp; try exact rfl)); simp only [Act.put,q1,q2,q3,q4,q5,q6,q7,q8,q9]; (refine mt 10 ?_ rfl (by rfl) ?_ hS ?_; rotate_left; (intro w' h; (try dsimp only at h); go_simp; try exact rfl)); simp only [Act.put,q1,q2,q3,q4,q5,q6,q7,q8,q9]; (refine mt 11 ?_ rfl (by rfl) ?_ hS ?_; rotate_left; (intro w' h; (try dsimp only at h); go_simp; try exact rfl)); simp only [Act.put,q1,q2,q3,q4,q5,q6,q7,q8,q9]; (refine mt 12 ?_ rfl (by rfl) ?_ hS ?_; rotate_left; (intro w' h; (try dsimp only at h); go_simp; try exact rfl)); simp only [Act.put,q1,q2,q3,q4,q5,q6,q7,q8,q9]; (refine mt 13 ?_ rfl (by rfl) ?_ hS ?_; rotate_left; (intro w' h; (try dsimp only at h); go_simp; try exact rfl)); simp only [Act.put,q1,q2,q3,q4,q5,q6,q7,q8,q9]; (refine mt 14 ?_ rfl (by rfl) ?_ hS ?_; rotate_left; (intro w' h; (try dsimp only at h); go_simp; try exact rfl)); simp only [Act.put,q1,q2,q3,q4,q5,q6,q7,q8,q9]; (refine mt 15 ?_ rfl (by rfl) ?_ hS ?_; rotate_left; (intro w' h; (try dsimp only at h); go_simp; try exact rfl)); simp only [Act.put,q1,q2,q3,q4,q5,q6,q7,q8,q9]; (refine mt 16 ?_ rfl (by rfl) ?_ hS ?_; rotate_left; (intro w' h; (try dsimp only at h); go_simp; try exact rfl)); simp only [Act.put,q1,q2,q3,q4,q5,q6,q7,q8,q9]; (refine mt 17 ?_ rfl (by rfl) ?_ hS ?_; rotate_left; (intro w' h; (try dsimp only at h); go_simp; try exact rfl)); simp only [Act.put,q1,q2,q3,q4,q5,q6,q7,q8,q9]; (refine mt 18 ?_ rfl (by rfl) ?_ hS ?_; rotate_left; (intro w' h; (try dsimp only at h); go_simp; try exact rfl)); simp only [Act.put,q1,q2,q3,q4,q5,q6,q7,q8,q9]; (refine mt 19 ?_ rfl (by rfl) ?_ hS ?_; rotate_left; (intro w' h; (try dsimp only at h); go_simp; try exact rfl)); simp only [Act.put,q1,q2,q3,q4,q5,q6,q7,q8,q9]; (refine mt 20 ?_ rfl (by rfl) ?_ hS ?_; rotate_left; (intro w' h; (try dsimp only at h); go_simp; try exact rfl)); simp only [Act.put,q1,q2,q3,q4,q5,q6,q7,q8,q9]; (refine mt 21 ?_ rfl (by rfl) ?_ hS ?_; rotate_left; (intro w' h; (try dsimp only at h); go_simp; try exact rfl)); simp only [Act.put,q1,q2,q3,q4,q5,q6,q7,q8,q9]
        refine mk 22 rfl (by rfl) hS ?_; simp only [Act.put,q1,q2,q3,q4,q5,q6,q7,q8,q9]; refine mk 23 rfl (by rfl) hS ?_; simp only [Act.put,q1,q2,q3,q4,q5,q6,q7,q8,q9]; refine mk 24 rfl (by rfl) hS ?_; simp only [Act.put,q1,q2,q3,q4,q5,q6,q7,q8,q9]; refine mk 25 rfl (by rfl) hS ?_; simp only [Act.put,q1,q2,q3,q4,q5,q6,q7,q8,q9]
        (refine mt 26 ?_ rfl (by rfl) ?_ hS ?_; rotate_left; (intro w' h; (try dsimp only at h); go_simp; try exact rfl)); simp only [Act.put,q1,q2,q3,q4,q5,q6,q7,q8,q9]; (refine mt 27 ?_ rfl (by rfl) ?_ hS ?_; rotate_left; (intro w' h; (try dsimp only at h); go_simp; try exact rfl)); simp only [Act.put,q1,q2,q3,q4,q5,q6,q7,q8,q9]
        refine mk 28 rfl (by rfl) hS ?_; simp only [Act.put,q1,q2,q3,q4,q5,q6,q7,q8,q9]; refine mk 29 rfl (by rfl) hS ?_; simp only [Act.put,q1,q2,q3,q4,q5,q6,q7,q8,q9]; refine mk 30 rfl (by rfl) hS ?_; simp only [Act.put,q1,q2,q3,q4,q5,q6,q7,q8,q9]; refine mk 31 rfl (by rfl) hS ?_; simp only [Act.put,q1,q2,q3,q4,q5,q6,q7,q8,q9]; refine mk 32 rfl (by rfl) hS ?_; simp only [Act.put,q1,q2,q3,q4,q5,q6,q7,q8,q9]; refine mk 33 rfl (by rfl) hS ?_; simp only [Act.put,q1,q2,q3,q4,q5,q6,q7,q8,q9]; refine mk 34 rfl (by rfl) hS ?_; simp only [Act.put,q1,q2,q3,q4,q5,q6,q7,q8,q9]
        (refine mt 35 ?_ rfl (by rfl) ?_ hS ?_; rotate_left; (intro w' h; (try dsimp only at h); go_simp; try exact rfl)); simp only [Act.put,q1,q2,q3,q4,q5,q6,q7,q8,q9]
        (refine mt 36 ?_ rfl (by rfl) ?_ hS ?_; rotate_left; (intro w' h; (try dsimp only at h); go_simp; try exact rfl)); simp only [Act.put,q1,q2,q3,q4,q5,q6,q7,q8,q9]
        refine wpAnyM_done (by kernel_rfl) ?_ _
        go_wp2_with fail
        go_ret
        exact ⟨_, rfl, by simp, hB⟩
    · rw [decide_eq_false hap]
      have hap' : ((la : Int) == (p : Int)) = false := by simp; omega
      clear HSQ0 HLEN hp1 hp2 hcf hcf2 hca hca2 hcb hcb2 hap HPA HPB
      go_enter Tryz.func53, Tryz.ntmps53
      go_upto_region 1 with (fail)
      obtain ⟨W, hW, o1, hB, hS⟩ := boxes1 w 56 [.slice af p cf, .slice aa la ca, .slice ab lb cb]
      rw [← hW]
      clear hW hS
      have hf := hf.below hB (Nat.le_refl _); have ha := ha.below hB (Nat.le_refl _); have hb := hb.below hB (Nat.le_refl _)
      have hkd : Below W.heap.size W W.drew := (Below.refl _ _).drew
      have o1 : Own W.drew _ _ _ := o1.below hkd o1.lt
      have hB := hB.trans (hkd.mono hB.size)
      have hf := hf.below hkd (Nat.le_refl _); have ha := ha.below hkd (Nat.le_refl _); have hb := hb.below hkd (Nat.le_refl _)
      clear hkd
      have hS := And.intro (o1.cell 0 _ rfl) (And.intro (o1.cell 1 _ rfl) (o1.cell 2 _ rfl))
      have hL := True.intro
      refine wp_region_late (fun w' => w'.cell? ⟨w.heap.size, 0, none⟩ = some (.slice af p cf) ∧ w'.cell? ⟨w.heap.size, 1, none⟩ = some (.slice aa la ca) ∧ w'.cell? ⟨w.heap.size, 2, none⟩ = some (.slice ab lb cb)) (fun w' => True) (fun i => false) (by kernel_rfl) ?_; try simp only [List.size_toArray, List.length_cons, List.length_nil, Nat.reduceAdd]
      generalize W.drew = W0 at *
      (refine mt 0 ?_ rfl (by rfl) ?_ hS ?_; rotate_left; (intro w' h; (try dsimp only at h); go_simp; try exact rfl)); simp only [Act.put,q1,q2,q3,q4,q5,q6,q7,q8,q9]; (refine mt 1 ?_ rfl (by rfl) ?_ hS ?_; rotate_left; (intro w' h; (try dsimp only at h); go_simp; try exact rfl)); simp only [Act.put,q1,q2,q3,q4,q5,q6,q7,q8,q9]
      refine mo 2 rfl fun K hK => ?_; go_simp; go_at_call 107; (with_reducible refine (HV.out W0 hf).mono ?_); rintro e V1 ⟨_, rfl, rfl, hbV1⟩; have hB := hB.trans (hbV1.mono hB.size); have o1 := o1.below hbV1 o1.lt; have ha := ha.below hbV1 (Nat.le_refl _); have hb := hb.below hbV1 (Nat.le_refl _); have hf := hf.below hbV1 (Nat.le_refl _); have hS := And.intro (o1.cell 0 _ rfl) (And.intro (o1.cell 1 _ rfl) (o1.cell 2 _ rfl)); refine hK _ _ hS (fun _ _ => hL) ?_; clear hK K; (try simp only [Act.put,q1,q2,q3,q4,q5,q6,q7,q8,q9])
      (refine mt 3 ?_ rfl (by rfl) ?_ hS ?_; rotate_left; (intro w' h; (try dsimp only at h); go_simp; try exact rfl)); simp only [Act.put,q1,q2,q3,q4,q5,q6,q7,q8,q9]; (refine mt 4 ?_ rfl (by rfl) ?_ hS ?_; rotate_left; (intro w' h; (try dsimp only at h); go_simp; try exact rfl)); simp only [Act.put,q1,q2,q3,q4,q5,q6,q7,q8,q9]; (refine mt 5 ?_ rfl (by rfl) ?_ hS ?_; rotate_left; (intro w' h; (try dsimp only at h); go_simp; try exact rfl)); simp only [Act.put,q1,q2,q3,q4,q5,q6,q7,q8,q9]; (refine mt 6 ?_ rfl (by rfl) ?_ hS ?_; rotate_left; (intro w' h; (try dsimp only at h); go_simp; try exact rfl)); simp only [Act.put,q1,q2,q3,q4,q5,q6,q7,q8,q9]; (refine mt 7 ?_ rfl (by rfl) ?_ hS ?_; rotate_left; (intro w' h; (try dsimp only at h); go_simp; try exact rfl)); simp only [Act.put,q1,q2,q3,q4,q5,q6,q7,q8,q9]; (refine mt 8 ?_ rfl (by rfl) ?_ hS ?_; rotate_left; (intro w' h; (try dsimp only at h); go_simp; try exact rfl)); simp only [Act.put,q1,q2,q3,q4,q5,q6,q7,q8,q9]; (refine mt 9 ?_ rfl (by rfl) ?_ hS ?_; rotate_left; (intro w' h; (try dsimp only at h); go_simp; try exact rfl)); simp only [Act.put,q1,q2,q3,q4,q5,q6,q7,q8,q9]; (refine mt 10 ?_ rfl (by rfl) ?_ hS ?_; rotate_left; (intro w' h; (try dsimp only at h); go_simp; try exact rfl)); simp only [Act.put,q1,q2,q3,q4,q5,q6,q7,q8,q9]; (refine mt 11 ?_ rfl (by rfl) ?_ hS ?_; rotate_left; (intro w' h; (try dsimp only at h); go_simp; try exact rfl)); simp only [Act.put,q1,q2,q3,q4,q5,q6,q7,q8,q9]; (refine mt 12 ?_ rfl (by rfl) ?_ hS ?_; rotate_left; (intro w' h; (try dsimp only at h); go_simp; try exact rfl)); simp only [Act.put,q1,q2,q3,q4,q5,q6,q7,q8,q9]
      refine mk 13 rfl (by rfl) hS ?_; simp only [Act.put,q1,q2,q3,q4,q5,q6,q7,q8,q9]; refine mk 14 rfl (by rfl) hS ?_; simp only [Act.put,q1,q2,q3,q4,q5,q6,q7,q8,q9]; refine mk 15 rfl (by rfl) hS ?_; simp only [Act.put,q1,q2,q3,q4,q5,q6,q7,q8,q9]; refine mk 16 rfl (by rfl) hS ?_; simp only [Act.put,q1,q2,q3,q4,q5,q6,q7,q8,q9]; refine mk 17 rfl (by rfl) hS ?_; simp only [Act.put,q1,q2,q3,q4,q5,q6,q7,q8,q9]; refine mk 18 rfl (by rfl) hS ?_; simp only [Act.put,q1,q2,q3,q4,q5,q6,q7,q8,q9]; refine mk 19 rfl (by rfl) hS ?_; simp only [Act.put,q1,q2,q3,q4,q5,q6,q7,q8,q9]
      (refine mt 20 ?_ rfl (by rfl) ?_ hS ?_; rotate_left; (intro w' h; (try dsimp only at h); go_simp; try exact rfl)); simp only [Act.put,q1,q2,q3,q4,q5,q6,q7,q8,q9]; (refine mt 21 ?_ rfl (by rfl) ?_ hS ?_; rotate_left; (intro w' h; (try dsimp only at h); go_simp; try exact rfl)); simp only [Act.put,q1,q2,q3,q4,q5,q6,q7,q8,q9]
      refine mk 22 rfl (by rfl) hS ?_; simp only [Act.put,q1,q2,q3,q4,q5,q6,q7,q8,q9]; refine mk 23 rfl (by rfl) hS ?_; simp only [Act.put,q1,q2,q3,q4,q5,q6,q7,q8,q9]; refine mk 24 rfl (by rfl) hS ?_; simp only [Act.put,q1,q2,q3,q4,q5,q6,q7,q8,q9]; refine mk 25 rfl (by rfl) hS ?_; simp only [Act.put,q1,q2,q3,q4,q5,q6,q7,q8,q9]
      (refine mt 26 ?_ rfl (by rfl) ?_ hS ?_; rotate_left; (intro w' h; (try dsimp only at h); go_simp; try exact rfl)); simp only [Act.put,q1,q2,q3,q4,q5,q6,q7,q8,q9]; (refine mt 27 ?_ rfl (by rfl) ?_ hS ?_; rotate_left; (intro w' h; (try dsimp only at h); go_simp; try exact rfl)); simp only [Act.put,q1,q2,q3,q4,q5,q6,q7,q8,q9]
      refine mk 28 rfl (by rfl) hS ?_; simp only [Act.put,q1,q2,q3,q4,q5,q6,q7,q8,q9]; refine mk 29 rfl (by rfl) hS ?_; simp only [Act.put,q1,q2,q3,q4,q5,q6,q7,q8,q9]; refine mk 30 rfl (by rfl) hS ?_; simp only [Act.put,q1,q2,q3,q4,q5,q6,q7,q8,q9]; refine mk 31 rfl (by rfl) hS ?_; simp only [Act.put,q1,q2,q3,q4,q5,q6,q7,q8,q9]; refine mk 32 rfl (by rfl) hS ?_; simp only [Act.put,q1,q2,q3,q4,q5,q6,q7,q8,q9]; refine mk 33 rfl (by rfl) hS ?_; simp only [Act.put,q1,q2,q3,q4,q5,q6,q7,q8,q9]; refine mk 34 rfl (by rfl) hS ?_; simp only [Act.put,q1,q2,q3,q4,q5,q6,q7,q8,q9]
      (refine mt 35 ?_ rfl (by rfl) ?_ hS ?_; rotate_left; (intro w' h; (try dsimp only at h); go_simp; try exact rfl)); simp only [Act.put,q1,q2,q3,q4,q5,q6,q7,q8,q9]
      (refine mt 36 ?_ rfl (by rfl) ?_ hS ?_; rotate_left; (intro w' h; (try dsimp only at h); go_simp; try exact rfl)); simp only [Act.put,q1,q2,q3,q4,q5,q6,q7,q8,q9]
      refine wpAnyM_done (by kernel_rfl) ?_ _
      go_wp2_with fail
      go_ret
      exact ⟨_, rfl, by simp, hB⟩
end Go.Proofs.YtfkogkcpndaoeaaGreat
