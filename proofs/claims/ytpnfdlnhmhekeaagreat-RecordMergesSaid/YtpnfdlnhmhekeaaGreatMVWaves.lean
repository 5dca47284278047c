/- slices.Grow of nil, slices.Concat of two stacks. Conditions: some element each, at most 2000. record.ValidWaves. Conditions: bits of the frequencies. -/
import Derived.Test.YtpnfdlnhmhekeaaGreatMFreqs
import Derived.Test.YtpnfdlnhmhekeaaGreatMSquare
import Derived.Lib.AppendZerosOnto
import Derived.Lib.SliceRun
set_option linter.all false
namespace Go.Proofs.YtpnfdlnhmhekeaaGreat
open Go.RowKit
set_option maxRecDepth 100000 in
set_option maxHeartbeats 2000000 in
theorem grow_spec (k : Nat) (w : World) (h0 : 0 < k) (hk : k ≤ 100000) :
    Calls Tryz.prog 101 #[.slice none 0 0, .int .i64 (k : Int)] w (Ret w fun w' v' => w'.ownsRow w.heap.size 65 1 v' 0 []) := by
  obtain ⟨i0, hi0, hz0, hz1, hz2⟩ := info_parts info_rows
  have hrz : ∀ ty, (Builtin.append_ #[31, 3] ty #[.slice none 0 0, .int .i64 (k : Int)]).run Tryz.prog w =
      .ok (.slice (some ⟨w.heap.size, 0, none⟩) (0 + k) (grownCap w (0 + k) 0 65)) (w.drew.alloc (.cells (([] : List Value).toArray ++ Builtin.zeroCells (Value.slice none 0 0).cells k ++ Builtin.zeroCells (Value.slice none 0 0).cells (grownCap w (0 + k) 0 65 - (0 + k))) 65)) := fun ty =>
    Lib.run_append_grow_zeros w 31 3 ty 65 i0 (.slice none 0 0) .i64 .i64 Tryz.underlying31 Tryz.underlying3 hi0 hz0 none 0 0 [] (run_firstCells_none w.drew i0.size 0 0 0) k h0 (by omega) (by omega) (by omega) (by rw [hz2]; omega)
      (growslice_fits (by omega) (by rw [hz2]; omega))
  have hge : 0 + k ≤ grownCap w (0 + k) 0 65 := grownCap_ge w _ _ _
  have hle : grownCap w (0 + k) 0 65 ≤ maxLen := grownCap_le_maxLen w (0 + k) 0 65 (by unfold maxLen; omega)
  generalize grownCap w (0 + k) 0 65 = G at *
  have hG63 : G ≤ 9223372036854775807 := by unfold maxLen at hle; exact hle
  have h1 : ¬ ((k : Int) < 0) := by omega
  have h3 : wrap64 ((k : Int)) = (k : Int) := by unfold wrap64; omega
  have h4 : (0 : Int) < (k : Int) := by omega
  rw [Nat.zero_add] at hrz hge
  have hfin : (w.drew.alloc (.cells (([] : List Value).toArray ++ Builtin.zeroCells (Value.slice none 0 0).cells k ++ Builtin.zeroCells (Value.slice none 0 0).cells (G - k)) 65)).ownsRow w.heap.size 65 1 (.slice (some ⟨w.heap.size, 0, none⟩) 0 G) 0 [] ∧ Below w.heap.size w (w.drew.alloc (.cells (([] : List Value).toArray ++ Builtin.zeroCells (Value.slice none 0 0).cells k ++ Builtin.zeroCells (Value.slice none 0 0).cells (G - k)) 65)) := by
    refine ⟨⟨rfl, .inr ⟨w.heap.size, G, ([] : List Value).toArray ++ Builtin.zeroCells (Value.slice none 0 0).cells k ++ Builtin.zeroCells (Value.slice none 0 0).cells (G - k), rfl, Nat.le_refl _, ?_, Nat.zero_le _, hle, ?_, ?_⟩⟩, (Below.refl _ _).drew.alloc (Nat.le_refl _) _⟩
    · show (w.heap.push _)[w.heap.size]? = _
      simp
    · simp [size_zeroCells, Value.cells]
      omega
    · simp
  generalize w.drew.alloc (.cells (([] : List Value).toArray ++ Builtin.zeroCells (Value.slice none 0 0).cells k ++ Builtin.zeroCells (Value.slice none 0 0).cells (G - k)) 65) = W2 at *
  clear hi0 hz0 hz1 hz2
  go_enter Tryz.func101, Tryz.ntmps101
  go_wp2_with (at_builtin; refine Lib.wpList_append_run _ rfl _ _ _ _ rfl _ _ rfl rfl _ _ (hrz _) ?_)
  all_goals (go_ret; exact ⟨_, rfl, hfin.1, hfin.2⟩)
set_option maxRecDepth 100000 in
set_option maxHeartbeats 3200000 in
theorem concat_spec (g : Nat) (va vb : Value) (la lb : List (List (List CQ))) (w : World) (ho : Own w 31 g [va, vb]) (ha : NumSt w va la) (hb : NumSt w vb lb) (h1 : 0 < la.length ∧ la.length ≤ 2000) (h2 : 0 < lb.length ∧ lb.length ≤ 2000) :
    Calls Tryz.prog 50 #[.slice (some ⟨g, 0, none⟩) 2 2] w (Ret w fun w' v' => NumSt w' v' (la ++ lb)) := by
  obtain ⟨aa, ca, rfl, hca, hca2⟩ := ha.dims
  obtain ⟨ab, cb, rfl, hcb, hcb2⟩ := hb.dims
  obtain ⟨p, hp⟩ : ∃ p, la.length = p := ⟨_, rfl⟩
  obtain ⟨q, hq⟩ : ∃ q, lb.length = q := ⟨_, rfl⟩
  have HA := Lib.hid ha
  have HB := Lib.hid hb
  have HP := Lib.hid hp
  have HQ := Lib.hid hq
  rw [hp] at hca h1 ho HA
  rw [hq] at hcb h2 ho HB
  obtain ⟨h1, h1'⟩ := h1
  obtain ⟨h2, h2'⟩ := h2
  clear ha hb hp hq
  have ltg := ho.lt
  have c0 := ho.cell 0 _ rfl
  have c1 := ho.cell 1 _ rfl
  have HO := Lib.hid ho
  clear ho
  go_enter Tryz.func50, Tryz.ntmps50
  go_wp2_with fail
  have hw1 : IntKind.i64.wrap ((p : Int)) = (p : Int) := by rw [IntKind.wrap_i64]; omega
  have hw2 : IntKind.i64.wrap ((p : Int) + (q : Int)) = ((p + q : Nat) : Int) := by rw [IntKind.wrap_i64]; omega
  have hn1 : ¬ ((p : Int) < 0) := by omega
  have hn2 : ¬ (((p + q : Nat) : Int) < 0) := by omega
  have hpq : 0 < p + q ∧ p + q ≤ 100000 := by omega
  have HPQ : Hid (∃ t, t = p + q) := ⟨_, rfl⟩
  obtain ⟨t, ht⟩ := HPQ
  rw [← ht] at hw2 hn2 hpq
  have HTT := Lib.hid ht
  clear ht
  refine wp_loop_rounds 3 ?_
  rw [rounds_succ]
  go_wp2_with fail
  rw [rounds_succ]
  go_wp2_with fail
  rw [rounds_succ]
  go_wp2_with fail
  refine (grow_spec t w hpq.1 hpq.2).mono ?_
  rintro e W1 ⟨v1, rfl, hv1, hb1⟩
  have hr1 : RowOf NumsM 65 1 W1 w.heap.size v1 [] := ⟨[], rfl, hv1, fun i u x hu => by simp at hu⟩
  have hA1 := HA.out.below hb1 (Nat.le_refl _)
  have hB1 := HB.out.below hb1 (Nat.le_refl _)
  have hs1 := hb1.size
  clear c0 c1 hw1 hw2 hn1 hn2 hv1
  have HO1 := HO.out.below hb1 ltg
  have c0 := HO1.cell 0 _ rfl
  have c1 := HO1.cell 1 _ rfl
  have hzero : (0 : Nat) + p ≤ 1000000 := by omega
  go_wp2_with fail
  refine wp_loop_rounds 3 ?_
  rw [rounds_succ]
  go_wp2_with (at_builtin; (refine append_many W1 rfl (.tmp 31) (.tmp 32) 31 65 (.slice none 0 0) 1 24 rfl Tryz.underlying31 info_rows rfl (by omega) (by omega) w.heap.size _ 0 [] la numsM_stable (by decide) one_cellT rfl hr1 rfl _ p ca rfl hA1.1 h1 hzero hs1 ?_); intro g2 cap2 W2 hr2 hb2 _ hs2)
  have hbw2 : Below w.heap.size w W2 := hb1.trans hb2
  have hB2 := HB.out.below hbw2 (Nat.le_refl _)
  have HO2 := HO.out.below hbw2 ltg
  clear c0 c1 HO1 hA1 hB1 hr1
  have c0 := HO2.cell 0 _ rfl
  have c1 := HO2.cell 1 _ rfl
  have hzero2 : p + q ≤ 1000000 := by omega
  have hlen2 : la.length = p := HP.out
  rw [Nat.zero_add, List.nil_append] at hr2
  rw [rounds_succ]
  go_wp2_with (at_builtin; (refine append_many W2 rfl (.tmp 31) (.tmp 32) 31 65 (.slice none 0 0) 1 24 rfl Tryz.underlying31 info_rows rfl (by omega) (by omega) w.heap.size _ p la lb numsM_stable (by decide) one_cellT rfl hr2 hlen2 _ q cb rfl hB2.1 h2 hzero2 hs2 ?_); intro g3 cap3 W3 hr3 hb3 _ hs3)
  rw [rounds_succ]
  go_wp2_with fail
  go_ret
  exact ⟨_, rfl, hr3.slT, hbw2.trans hb3⟩
end Go.Proofs.YtpnfdlnhmhekeaaGreat
namespace Go.Proofs.YtpnfdlnhmhekeaaGreat
open Go.RowKit
def vwB (x : Wv) : Bool := vfB x.fr && decide (x.a.length = x.fr.length) && decide (x.b.length = x.fr.length) && squareB (x.a ++ x.b)
theorem vf_len {l : List CQ} (h : vfB l = true) : 0 < l.length ∧ l.length ≤ 1024 := by
  unfold vfB at h
  rw [Bool.and_eq_true] at h
  have h2 := h.2
  unfold inR at h2
  simp at h2
  omega
set_option maxRecDepth 100000 in
set_option maxHeartbeats 3200000 in
theorem validWaves_spec (v : Value) (x : Wv) (k : Nat) (w : World) (h : WvT w v x) (hs : ∀ y ∈ x.fr, Small k y) (hk : k ≤ 100000) :
    Calls Tryz.prog 15 #[v] w (Ret w fun _ v' => v' = .bool (vwB x)) := by
  obtain ⟨vf, va, vb, rfl, hf, ha, hb⟩ := h
  obtain ⟨af, cf, rfl, hcf, hcf2⟩ := hf.dims
  obtain ⟨aa, ca, rfl, hca, hca2⟩ := ha.dims
  obtain ⟨ab, cb, rfl, hcb, hcb2⟩ := hb.dims
  have HV := Lib.hid (fun w h => validFreqs_spec (.slice af x.fr.length cf) x.fr k w h hs hk)
  have HLEN := Lib.hid (vf_len (l := x.fr))
  have HC := Lib.hid (fun g w ho ha hb h1 h2 => concat_spec g (.slice aa x.a.length ca) (.slice ab x.b.length cb) x.a x.b w ho ha hb h1 h2)
  have HQ := Lib.hid (fun v w h => square_spec v (x.a ++ x.b) w h)
  unfold vwB
  clear hs
  generalize vfB x.fr = t at *
  generalize squareB (x.a ++ x.b) = s at *
  generalize x.fr.length = p at *
  have HP := Lib.hid (show x.a.length = x.a.length from rfl)
  cases t
  · go_enter Tryz.func15, Tryz.ntmps15
    go_upto_region 1 with (fail)
    obtain ⟨W, hW, o1, hB, hS⟩ := boxes1 w 33 [.slice af p cf, .slice aa x.a.length ca, .slice ab x.b.length cb]
    rw [← hW]
    clear hW
    have hf := hf.below hB (Nat.le_refl _)
    have fo1 := o1.free; have co10 := o1.cell 0 _ rfl; have co11 := o1.cell 1 _ rfl; have co12 := o1.cell 2 _ rfl
    go_wp2_with fail
    refine (HV.out W hf).mono ?_
    rintro e W1 ⟨_, rfl, rfl, hb1⟩
    have hB := hB.trans (hb1.mono hB.size)
    clear co10 co11 co12 fo1
    go_wp2_with fail
    go_ret
    exact ⟨_, rfl, rfl, hB⟩
  · obtain ⟨hp1, hp2⟩ := HLEN.out rfl
    by_cases hap : x.a.length = p
    · by_cases hbp : x.b.length = p
      · rw [decide_eq_true hap, decide_eq_true hbp]
        rw [hap] at HC
        rw [hbp] at HC
        rw [hap] at ha ⊢
        rw [hbp] at hb ⊢
        clear HLEN HP hap hbp hca hcb
        go_enter Tryz.func15, Tryz.ntmps15
        go_upto_region 1 with (fail)
        obtain ⟨W, hW, o1, hB, hS⟩ := boxes1 w 33 [.slice af p cf, .slice aa p ca, .slice ab p cb]
        rw [← hW]
        clear hW
        have hf := hf.below hB (Nat.le_refl _); have ha := ha.below hB (Nat.le_refl _); have hb := hb.below hB (Nat.le_refl _)
        have fo1 := o1.free; have co10 := o1.cell 0 _ rfl; have co11 := o1.cell 1 _ rfl; have co12 := o1.cell 2 _ rfl
        go_wp2_with fail
        refine (HV.out W hf).mono ?_
        rintro e W1 ⟨_, rfl, rfl, hb1⟩
        clear co10 co11 co12 fo1
        have hsW1 : W.heap.size ≤ W1.heap.size := hb1.size; have hB := hB.trans (hb1.mono hB.size); have o1 := o1.below hb1 o1.lt; have ha := ha.below hb1 (Nat.le_refl _); have hb := hb.below hb1 (Nat.le_refl _)
        have fo1 := o1.free; have co10 := o1.cell 0 _ rfl; have co11 := o1.cell 1 _ rfl; have co12 := o1.cell 2 _ rfl
        go_wp2_with fail
        obtain ⟨V, hV, o2, hBV, hSV⟩ := boxes1 W1 31 [.slice aa p ca, .slice ab p cb]
        rw [← hV]
        clear hV co10 co11 co12 fo1
        have hsV : W1.heap.size ≤ V.heap.size := hBV.size; have hB := hB.trans (hBV.mono hB.size); have ha := ha.below hBV (Nat.le_refl _); have hb := hb.below hBV (Nat.le_refl _)
        refine (HC.out _ V o2 ha hb ⟨hp1, by omega⟩ ⟨hp1, by omega⟩).mono ?_
        rintro e W2 ⟨u, rfl, hu, hb2⟩
        have hsW2 : V.heap.size ≤ W2.heap.size := hb2.size; have hB := hB.trans (hb2.mono hB.size)
        go_wp2_with fail
        refine (HQ.out _ W2 hu).mono ?_
        rintro e W3 ⟨_, rfl, rfl, hb3⟩
        have hB := hB.trans (hb3.mono hB.size)
        go_wp2_with fail
        go_ret
        exact ⟨_, rfl, rfl, hB⟩
      · rw [decide_eq_true hap, decide_eq_false hbp]
        obtain ⟨na, hna⟩ : ∃ n, x.a.length = n := ⟨_, rfl⟩
        obtain ⟨nb, hnb⟩ : ∃ n, x.b.length = n := ⟨_, rfl⟩
        rw [hna] at hap ⊢
        rw [hnb] at hbp ⊢
        subst hap
        have hne : ¬ ((nb : Int) = (na : Int)) := by omega
        clear HLEN HP HC HQ ha hb hna hnb hca hcb
        go_enter Tryz.func15, Tryz.ntmps15
        go_upto_region 1 with (fail)
        obtain ⟨W, hW, o1, hB, hS⟩ := boxes1 w 33 [.slice af na cf, .slice aa na ca, .slice ab nb cb]
        rw [← hW]
        clear hW
        have hf := hf.below hB (Nat.le_refl _)
        have fo1 := o1.free; have co10 := o1.cell 0 _ rfl; have co11 := o1.cell 1 _ rfl; have co12 := o1.cell 2 _ rfl
        go_wp2_with fail
        refine (HV.out W hf).mono ?_
        rintro e W1 ⟨_, rfl, rfl, hb1⟩
        clear co10 co11 co12 fo1
        have hsW1 : W.heap.size ≤ W1.heap.size := hb1.size; have hB := hB.trans (hb1.mono hB.size); have o1 := o1.below hb1 o1.lt
        have fo1 := o1.free; have co10 := o1.cell 0 _ rfl; have co11 := o1.cell 1 _ rfl; have co12 := o1.cell 2 _ rfl
        go_wp2_with fail
        go_ret
        exact ⟨_, rfl, rfl, hB⟩
    · rw [decide_eq_false hap]
      obtain ⟨na, hna⟩ : ∃ n, x.a.length = n := ⟨_, rfl⟩
      obtain ⟨nb, hnb⟩ : ∃ n, x.b.length = n := ⟨_, rfl⟩
      rw [hna] at hap ⊢
      rw [hnb]
      have hne : ¬ ((na : Int) = (p : Int)) := by omega
      clear HLEN HP HC HQ ha hb hna hnb hca hcb
      go_enter Tryz.func15, Tryz.ntmps15
      go_upto_region 1 with (fail)
      obtain ⟨W, hW, o1, hB, hS⟩ := boxes1 w 33 [.slice af p cf, .slice aa na ca, .slice ab nb cb]
      rw [← hW]
      clear hW
      have hf := hf.below hB (Nat.le_refl _)
      have fo1 := o1.free; have co10 := o1.cell 0 _ rfl; have co11 := o1.cell 1 _ rfl; have co12 := o1.cell 2 _ rfl
      go_wp2_with fail
      refine (HV.out W hf).mono ?_
      rintro e W1 ⟨_, rfl, rfl, hb1⟩
      clear co10 co11 co12 fo1
      have hsW1 : W.heap.size ≤ W1.heap.size := hb1.size; have hB := hB.trans (hb1.mono hB.size); have o1 := o1.below hb1 o1.lt
      have fo1 := o1.free; have co10 := o1.cell 0 _ rfl; have co11 := o1.cell 1 _ rfl; have co12 := o1.cell 2 _ rfl
      go_wp2_with fail
      go_ret
      exact ⟨_, rfl, rfl, hB⟩
end Go.Proofs.YtpnfdlnhmhekeaaGreat
