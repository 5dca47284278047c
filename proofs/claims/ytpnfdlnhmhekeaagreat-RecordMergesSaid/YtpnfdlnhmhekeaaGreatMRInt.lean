/- The reference's integers. Conditions: fewer than 2^43 bits. -/
import Derived.Test.YtpnfdlnhmhekeaaGreatMRNatE
set_option linter.unusedSimpArgs false
set_option linter.unusedVariables false
set_option linter.all false
namespace Go.Proofs.YtpnfdlnhmhekeaaGreat
open Go.RowKit

set_option maxHeartbeats 400000 in
theorem rsigned_spec (neg : Bool) (v : Value) (n : Nat) (w : World) (h : NatRep w v n) :
    Calls Tryz.prog 132 #[.bool neg, v] w (Ret w fun w' v' => WholeRep w' v' (sgn neg n)) := by
  obtain ⟨a, len, cap, rfl, hlen, hcap, hmax⟩ := h.any
  cases neg
  · go_enter Tryz.func132, Tryz.ntmps132
    go_wp2
    refine bodyPost_ret (v := .agg #[.bool false, .slice a len cap]) (by simp [results, Tryz.results132, go_sem]) rfl ⟨_, rfl, ?_, (Below.refl _ _).alloc (Nat.le_refl _) _⟩
    exact whole_mk (h.below ((Below.refl _ _).alloc (Nat.le_refl _) _) (Nat.le_refl _)) rfl
  · by_cases h0 : n = 0
    · obtain rfl : len = 0 := hlen.2 h0
      subst h0
      go_enter Tryz.func132, Tryz.ntmps132
      go_wp2
      refine bodyPost_ret (v := .agg #[.bool false, .slice a 0 cap]) (by simp [results, Tryz.results132, go_sem]) rfl ⟨_, rfl, ?_, (Below.refl _ _).alloc (Nat.le_refl _) _⟩
      exact whole_mk (h.below ((Below.refl _ _).alloc (Nat.le_refl _) _) (Nat.le_refl _)) rfl
    · have hl0 : 0 < len := by
        rcases Nat.eq_zero_or_pos len with h | h
        · exact absurd (hlen.1 h) h0
        · exact h
      go_enter Tryz.func132, Tryz.ntmps132
      go_wp2
      refine bodyPost_ret (v := .agg #[.bool true, .slice a len cap]) (by simp [results, Tryz.results132, go_sem]) rfl ⟨_, rfl, ?_, (Below.refl _ _).alloc (Nat.le_refl _) _⟩
      exact whole_mk (h.below ((Below.refl _ _).alloc (Nat.le_refl _) _) (Nat.le_refl _)) (by simp; omega)

set_option maxHeartbeats 400000 in
theorem rminus_spec (v : Value) (z : Int) (w : World) (h : WholeRep w v z) :
    Calls Tryz.prog 97 #[v] w (Ret w fun w' v' => WholeRep w' v' (-z)) := by
  obtain ⟨m, rfl, hm⟩ := h
  go_enter Tryz.func97, Tryz.ntmps97
  go_wp2_with fail
  refine (rsigned_spec _ m z.natAbs _ (hm.below (((Below.refl _ _).alloc (Nat.le_refl _) _).alloc (by simp) _) (Nat.le_refl _))).mono ?_
  rintro e w' ⟨_, rfl, ⟨m', rfl, hm'⟩, hb⟩
  obtain ⟨a', l', c', rfl, _, _, _⟩ := hm'.any
  have o2 : Own w' 55 (w.heap.size + 1) [.bool false, .slice none 0 0] := (own_at (w.alloc (.cells #[.bool (decide (z < 0)), m] 55)) _ _ (by simp)).below hb (by simp)
  have c0 := o2.cell 0 _ rfl
  have c1 := o2.cell 1 _ rfl
  have f0 := o2.free 0
  have f1 := o2.free 1
  go_wp2_with fail
  refine bodyPost_ret (v := .agg #[.bool (decide (sgn (!decide (z < 0)) z.natAbs < 0)), .slice a' l' c']) (by simp [results, Tryz.results97, go_sem, c0, c1]) rfl ⟨_, rfl, ?_, ?_⟩
  · rw [sgn_minus] at hm' ⊢
    exact ⟨_, rfl, (hm'.put o2 rfl 0 _).put (o2.set 0 _) rfl 1 _⟩
  · have h1 := ((Below.refl w.heap.size w).alloc (Nat.le_refl _) (.cells #[.bool (decide (z < 0)), m] 55)).alloc (by simp) (.cells #[.bool false, .slice none 0 0] 55)
    exact ((h1.trans (hb.mono h1.size)).setCell (by simp) _).setCell (by simp) _

set_option maxRecDepth 100000 in
set_option maxHeartbeats 400000 in
theorem rtimes_spec (v u : Value) (z y : Int) (k : Nat) (w : World) (h : WholeRep w v z) (h' : WholeRep w u y) (hn : z.natAbs < 2 ^ k) (hm : y.natAbs < 2 ^ k) (hk : k ≤ 8796093022208) :
    Calls Tryz.prog 152 #[v, u] w (Ret w fun w' v' => WholeRep w' v' (z * y)) := by
  obtain ⟨m, rfl, hm1⟩ := h
  obtain ⟨m2, rfl, hm2⟩ := h'
  obtain ⟨a1, l1, c1, rfl, _, _, _⟩ := hm1.any
  obtain ⟨a2, l2, c2, rfl, _, _, _⟩ := hm2.any
  generalize hz : decide (z < 0) = s1
  generalize hy : decide (y < 0) = s2
  have Hz := Lib.hid hz
  have Hy := Lib.hid hy
  clear hz hy
  go_enter Tryz.func152, Tryz.ntmps152
  go_wp2_with fail
  obtain ⟨W, hW, o1, o2, o3, hB, hS⟩ := boxes3 w 55 55 55 [.bool s1, .slice a1 l1 c1] [.bool s2, .slice a2 l2 c2] [.bool false, .slice none 0 0]
  rw [← hW]
  clear hW
  have o1 : Own W.drew _ _ _ := o1; have o2 : Own W.drew _ _ _ := o2; have o3 : Own W.drew _ _ _ := o3; have hB := hB.drew
  go_region_held3 (fun w' => w'.cell? ⟨w.heap.size, 0, none⟩ = some (.bool s1) ∧ w'.cell? ⟨w.heap.size, 1, none⟩ = some (.slice a1 l1 c1) ∧ w'.cell? ⟨w.heap.size + 1, 0, none⟩ = some (.bool s2) ∧ w'.cell? ⟨w.heap.size + 1, 1, none⟩ = some (.slice a2 l2 c2)) (first | (with_reducible exact ⟨o1.cell 0 _ rfl, o1.cell 1 _ rfl, o2.cell 0 _ rfl, o2.cell 1 _ rfl⟩) | (simp [go_sem, o1.cell 0 _ rfl, o1.cell 1 _ rfl, o2.cell 0 _ rfl, o2.cell 1 _ rfl]; done) | exact ⟨o1.cell 0 _ rfl, o1.cell 1 _ rfl, o2.cell 0 _ rfl, o2.cell 1 _ rfl⟩)
    (first
      | (go_at_call 153; refine (rmul_spec _ _ z.natAbs y.natAbs k _ (hm1.below hB (Nat.le_refl _)) (hm2.below hB (Nat.le_refl _)) hn hm (by omega)).mono ?_; rintro e W1 ⟨v', rfl, hv', hb1⟩; have hsW1 : W.heap.size ≤ W1.heap.size := hb1.size; have hB := hB.trans (hb1.mono hB.size); have o1 := o1.below hb1 (show _ < W.heap.size by first | omega | (simp; omega)); have o2 := o2.below hb1 (show _ < W.heap.size by first | omega | (simp; omega)); have o3 := o3.below hb1 (show _ < W.heap.size by first | omega | (simp; omega)))
      | (go_at_call 132; refine (rsigned_spec _ _ (z.natAbs * y.natAbs) _ hv').mono ?_; rintro e W2 ⟨_, rfl, ⟨m', rfl, hm'⟩, hb2⟩; obtain ⟨a', l', c', rfl, _, _, _⟩ := hm'.any; have hsW2 : W1.heap.size ≤ W2.heap.size := hb2.size; have hB := hB.trans (hb2.mono hB.size); have o1 := o1.below hb2 (show _ < W1.heap.size by first | omega | (simp; omega)); have o2 := o2.below hb2 (show _ < W1.heap.size by first | omega | (simp; omega)); have o3 := o3.below hb2 (show _ < W1.heap.size by first | omega | (simp; omega)); have fo3 := o3.free; have co30 := o3.cell 0 _ rfl; have co31 := o3.cell 1 _ rfl))
  go_wp2_with fail
  refine bodyPost_ret (v := .agg #[.bool (decide (sgn (!s1 == s2) (z.natAbs * y.natAbs) < 0)), .slice a' l' c']) (by simp [results, Tryz.results152, go_sem, co30, co31]) rfl ⟨_, rfl, whole_ret hm' o3 (by rw [← Hz.out, ← Hy.out, sgn_mul]), (hB.setCell (show _ ≤ _ + 1 + 1 by omega) _).setCell (show _ ≤ _ + 1 + 1 by omega) _⟩

set_option maxRecDepth 100000 in
set_option maxHeartbeats 800000 in
theorem rplus_spec (v u : Value) (z y : Int) (k : Nat) (w : World) (h : WholeRep w v z) (h' : WholeRep w u y) (hn : z.natAbs < 2 ^ k) (hm : y.natAbs < 2 ^ k) (hk : k ≤ 8796093022208) :
    Calls Tryz.prog 151 #[v, u] w (Ret w fun w' v' => WholeRep w' v' (z + y)) := by
  obtain ⟨m, rfl, hm1⟩ := h
  obtain ⟨m2, rfl, hm2⟩ := h'
  obtain ⟨a1, l1, c1, rfl, _, _, _⟩ := hm1.any
  obtain ⟨a2, l2, c2, rfl, _, _, _⟩ := hm2.any
  have g1 := sgn_plus z y
  have g2 := sgn_minus1 z y
  have g3 := sgn_minus2 z y
  generalize hz : decide (z < 0) = s1 at *
  generalize hy : decide (y < 0) = s2 at *
  have G1 := Lib.hid g1
  have G2 := Lib.hid g2
  have G3 := Lib.hid g3
  clear hz hy g1 g2 g3
  go_enter Tryz.func151, Tryz.ntmps151
  go_upto_region 1 with (fail)
  obtain ⟨W, hW, o1, o2, o3, hB, hS⟩ := boxes3 w 55 55 55 [.bool s1, .slice a1 l1 c1] [.bool s2, .slice a2 l2 c2] [.bool false, .slice none 0 0]
  rw [← hW]
  clear hW
  have h10 := o1.cell 0 _ rfl
  have h11 := o1.cell 1 _ rfl
  have h20 := o2.cell 0 _ rfl
  have h21 := o2.cell 1 _ rfl
  by_cases hs : s1 = s2
  · have he : (s1 == s2) = true := by simp [hs]
    have HE := Lib.hid (G1.out hs)
    clear hs
    go_wp2_with fail
    have o1 : Own W.drew _ _ _ := o1; have o2 : Own W.drew _ _ _ := o2; have o3 : Own W.drew _ _ _ := o3; have hB := hB.drew
    clear h10 h11 h20 h21
    go_region_held3 (fun w' => w'.cell? ⟨w.heap.size, 0, none⟩ = some (.bool s1) ∧ w'.cell? ⟨w.heap.size, 1, none⟩ = some (.slice a1 l1 c1) ∧ w'.cell? ⟨w.heap.size + 1, 0, none⟩ = some (.bool s2) ∧ w'.cell? ⟨w.heap.size + 1, 1, none⟩ = some (.slice a2 l2 c2)) (first | (with_reducible exact ⟨o1.cell 0 _ rfl, o1.cell 1 _ rfl, o2.cell 0 _ rfl, o2.cell 1 _ rfl⟩) | (simp [go_sem, o1.cell 0 _ rfl, o1.cell 1 _ rfl, o2.cell 0 _ rfl, o2.cell 1 _ rfl]; done) | exact ⟨o1.cell 0 _ rfl, o1.cell 1 _ rfl, o2.cell 0 _ rfl, o2.cell 1 _ rfl⟩)
      (first
        | (go_at_call 166; refine (radd_spec _ _ z.natAbs y.natAbs k _ (hm1.below hB (Nat.le_refl _)) (hm2.below hB (Nat.le_refl _)) hn hm (by omega)).mono ?_; rintro e W1 ⟨v', rfl, hv', hb1⟩; have hsW1 : W.heap.size ≤ W1.heap.size := hb1.size; have hB := hB.trans (hb1.mono hB.size); have o1 := o1.below hb1 (show _ < W.heap.size by first | omega | (simp; omega)); have o2 := o2.below hb1 (show _ < W.heap.size by first | omega | (simp; omega)); have o3 := o3.below hb1 (show _ < W.heap.size by first | omega | (simp; omega)))
        | (go_at_call 132; refine (rsigned_spec _ _ (z.natAbs + y.natAbs) _ hv').mono ?_; rintro e W2 ⟨_, rfl, ⟨m', rfl, hm'⟩, hb2⟩; obtain ⟨a', l', c', rfl, _, _, _⟩ := hm'.any; have hsW2 : W1.heap.size ≤ W2.heap.size := hb2.size; have hB := hB.trans (hb2.mono hB.size); have o1 := o1.below hb2 (show _ < W1.heap.size by first | omega | (simp; omega)); have o2 := o2.below hb2 (show _ < W1.heap.size by first | omega | (simp; omega)); have o3 := o3.below hb2 (show _ < W1.heap.size by first | omega | (simp; omega)); have fo3 := o3.free; have co30 := o3.cell 0 _ rfl; have co31 := o3.cell 1 _ rfl))
    go_wp2_with fail
    refine bodyPost_ret (v := .agg #[.bool (decide (sgn s1 (z.natAbs + y.natAbs) < 0)), .slice a' l' c']) (by simp [results, Tryz.results151, go_sem, co30, co31]) rfl ⟨_, rfl, whole_ret hm' o3 HE.out, (hB.setCell (show _ ≤ _ + 1 + 1 by omega) _).setCell (show _ ≤ _ + 1 + 1 by omega) _⟩
  · have he : (s1 == s2) = false := by simp [hs]
    have HS := Lib.hid hs
    clear hs
    go_wp2_with fail
    refine (rcmp_spec _ _ z.natAbs y.natAbs W (hm1.below hB (Nat.le_refl _)) (hm2.below hB (Nat.le_refl _))).mono ?_
    rintro e V ⟨_, rfl, rfl, hb0⟩
    have hsV : W.heap.size ≤ V.heap.size := hb0.size; have hB := hB.trans (hb0.mono hB.size); have o1 := o1.below hb0 (show _ < W.heap.size by first | omega | (simp; omega)); have o2 := o2.below hb0 (show _ < W.heap.size by first | omega | (simp; omega)); have o3 := o3.below hb0 (show _ < W.heap.size by first | omega | (simp; omega))
    clear h10 h11 h20 h21
    by_cases hle : y.natAbs ≤ z.natAbs
    · have hc := cmpZ_nonneg hle
      have HE := Lib.hid (G2.out HS.out hle)
      generalize cmpZ z.natAbs y.natAbs = cc at *
      have HLE := Lib.hid hle
      clear hle
      go_wp2_with fail
      have o1 : Own V.drew _ _ _ := o1; have o2 : Own V.drew _ _ _ := o2; have o3 : Own V.drew _ _ _ := o3; have hB := hB.drew
      go_region_held3 (fun w' => w'.cell? ⟨w.heap.size, 0, none⟩ = some (.bool s1) ∧ w'.cell? ⟨w.heap.size, 1, none⟩ = some (.slice a1 l1 c1) ∧ w'.cell? ⟨w.heap.size + 1, 0, none⟩ = some (.bool s2) ∧ w'.cell? ⟨w.heap.size + 1, 1, none⟩ = some (.slice a2 l2 c2)) (first | (with_reducible exact ⟨o1.cell 0 _ rfl, o1.cell 1 _ rfl, o2.cell 0 _ rfl, o2.cell 1 _ rfl⟩) | (simp [go_sem, o1.cell 0 _ rfl, o1.cell 1 _ rfl, o2.cell 0 _ rfl, o2.cell 1 _ rfl]; done) | exact ⟨o1.cell 0 _ rfl, o1.cell 1 _ rfl, o2.cell 0 _ rfl, o2.cell 1 _ rfl⟩)
        (first
          | (go_at_call 167; refine (rsub_spec _ _ z.natAbs y.natAbs k _ (hm1.below hB (Nat.le_refl _)) (hm2.below hB (Nat.le_refl _)) hn HLE.out (by omega)).mono ?_; rintro e W1 ⟨v', rfl, hv', hb1⟩; have hsW1 : V.heap.size ≤ W1.heap.size := hb1.size; have hB := hB.trans (hb1.mono hB.size); have o1 := o1.below hb1 (show _ < V.heap.size by first | omega | (simp; omega)); have o2 := o2.below hb1 (show _ < V.heap.size by first | omega | (simp; omega)); have o3 := o3.below hb1 (show _ < V.heap.size by first | omega | (simp; omega)))
          | (go_at_call 132; refine (rsigned_spec _ _ (z.natAbs - y.natAbs) _ hv').mono ?_; rintro e W2 ⟨_, rfl, ⟨m', rfl, hm'⟩, hb2⟩; obtain ⟨a', l', c', rfl, _, _, _⟩ := hm'.any; have hsW2 : W1.heap.size ≤ W2.heap.size := hb2.size; have hB := hB.trans (hb2.mono hB.size); have o1 := o1.below hb2 (show _ < W1.heap.size by first | omega | (simp; omega)); have o2 := o2.below hb2 (show _ < W1.heap.size by first | omega | (simp; omega)); have o3 := o3.below hb2 (show _ < W1.heap.size by first | omega | (simp; omega)); have fo3 := o3.free; have co30 := o3.cell 0 _ rfl; have co31 := o3.cell 1 _ rfl))
      go_wp2_with fail
      refine bodyPost_ret (v := .agg #[.bool (decide (sgn s1 (z.natAbs - y.natAbs) < 0)), .slice a' l' c']) (by simp [results, Tryz.results151, go_sem, co30, co31]) rfl ⟨_, rfl, whole_ret hm' o3 HE.out, (hB.setCell (show _ ≤ _ + 1 + 1 by omega) _).setCell (show _ ≤ _ + 1 + 1 by omega) _⟩
    · have hc := cmpZ_negative hle
      have HE := Lib.hid (G3.out HS.out hle)
      generalize cmpZ z.natAbs y.natAbs = cc at *
      have HLE : Hid (z.natAbs ≤ y.natAbs) := show _ ≤ _ by omega
      clear hle
      go_wp2_with fail
      have o1 : Own V.drew _ _ _ := o1; have o2 : Own V.drew _ _ _ := o2; have o3 : Own V.drew _ _ _ := o3; have hB := hB.drew
      go_region_held3 (fun w' => w'.cell? ⟨w.heap.size, 0, none⟩ = some (.bool s1) ∧ w'.cell? ⟨w.heap.size, 1, none⟩ = some (.slice a1 l1 c1) ∧ w'.cell? ⟨w.heap.size + 1, 0, none⟩ = some (.bool s2) ∧ w'.cell? ⟨w.heap.size + 1, 1, none⟩ = some (.slice a2 l2 c2)) (first | (with_reducible exact ⟨o1.cell 0 _ rfl, o1.cell 1 _ rfl, o2.cell 0 _ rfl, o2.cell 1 _ rfl⟩) | (simp [go_sem, o1.cell 0 _ rfl, o1.cell 1 _ rfl, o2.cell 0 _ rfl, o2.cell 1 _ rfl]; done) | exact ⟨o1.cell 0 _ rfl, o1.cell 1 _ rfl, o2.cell 0 _ rfl, o2.cell 1 _ rfl⟩)
        (first
          | (go_at_call 167; refine (rsub_spec _ _ y.natAbs z.natAbs k _ (hm2.below hB (Nat.le_refl _)) (hm1.below hB (Nat.le_refl _)) hm HLE.out (by omega)).mono ?_; rintro e W1 ⟨v', rfl, hv', hb1⟩; have hsW1 : V.heap.size ≤ W1.heap.size := hb1.size; have hB := hB.trans (hb1.mono hB.size); have o1 := o1.below hb1 (show _ < V.heap.size by first | omega | (simp; omega)); have o2 := o2.below hb1 (show _ < V.heap.size by first | omega | (simp; omega)); have o3 := o3.below hb1 (show _ < V.heap.size by first | omega | (simp; omega)))
          | (go_at_call 132; refine (rsigned_spec _ _ (y.natAbs - z.natAbs) _ hv').mono ?_; rintro e W2 ⟨_, rfl, ⟨m', rfl, hm'⟩, hb2⟩; obtain ⟨a', l', c', rfl, _, _, _⟩ := hm'.any; have hsW2 : W1.heap.size ≤ W2.heap.size := hb2.size; have hB := hB.trans (hb2.mono hB.size); have o1 := o1.below hb2 (show _ < W1.heap.size by first | omega | (simp; omega)); have o2 := o2.below hb2 (show _ < W1.heap.size by first | omega | (simp; omega)); have o3 := o3.below hb2 (show _ < W1.heap.size by first | omega | (simp; omega)); have fo3 := o3.free; have co30 := o3.cell 0 _ rfl; have co31 := o3.cell 1 _ rfl))
      go_wp2_with fail
      refine bodyPost_ret (v := .agg #[.bool (decide (sgn s2 (y.natAbs - z.natAbs) < 0)), .slice a' l' c']) (by simp [results, Tryz.results151, go_sem, co30, co31]) rfl ⟨_, rfl, whole_ret hm' o3 HE.out, (hB.setCell (show _ ≤ _ + 1 + 1 by omega) _).setCell (show _ ≤ _ + 1 + 1 by omega) _⟩

set_option maxHeartbeats 400000 in
theorem rintOf_spec (z : Int) (w : World) (h1 : -9223372036854775808 ≤ z) (h2 : z ≤ 9223372036854775807) :
    Calls Tryz.prog 96 #[.int .i64 z] w (Ret w fun w' v' => WholeRep w' v' z ∧ z.natAbs < 2 ^ 64) := by
  by_cases hm : z = -9223372036854775808
  · subst hm
    have e2 : IntKind.u64.wrap (-9223372036854775808) = ((9223372036854775808 : Nat) : Int) := by rw [IntKind.wrap_u64]; rfl
    have e1 : IntKind.i64.wrap 9223372036854775808 = -9223372036854775808 := by decide
    generalize h63 : (9223372036854775808 : Nat) = n at e2
    go_enter Tryz.func96, Tryz.ntmps96
    go_wp2_with fail
    obtain ⟨W, hW, o1, hB, hS⟩ := boxes1 w 55 [.bool false, .slice none 0 0]
    rw [← hW]
    clear hW
    refine (rnatOf_spec n W (by omega)).mono ?_
    rintro e W1 ⟨v1, rfl, hv1, hb1⟩
    obtain ⟨a', l', c', rfl, _, _, _⟩ := hv1.any
    have hsW1 : W.heap.size ≤ W1.heap.size := hb1.size; have hB := hB.trans (hb1.mono hB.size); have o1 := o1.below hb1 o1.lt; have fo1 := o1.free; have co10 := o1.cell 0 _ rfl; have co11 := o1.cell 1 _ rfl
    go_wp2_with fail
    refine bodyPost_ret (v := .agg #[.bool true, .slice a' l' c']) (by simp [results, Tryz.results96, go_sem, co10, co11]) rfl ⟨_, rfl, ⟨⟨.slice a' l' c', by simp, ?_⟩, by omega⟩, (hB.setCell (Nat.le_refl _) _).setCell (Nat.le_refl _) _⟩
    have := (hv1.put o1 rfl 0 (.bool true)).put (o1.set 0 _) rfl 1 (.slice a' l' c')
    rw [show (-9223372036854775808 : Int).natAbs = n from by omega]
    exact this
  by_cases hz : z < 0
  · obtain ⟨n, rfl⟩ : ∃ n : Nat, z = -(n : Int) := ⟨z.natAbs, by omega⟩
    have hn0 : 0 < n := by omega
    have hn63 : (n : Int) < 9223372036854775808 := by omega
    have hn00 : (0 : Int) ≤ n := by omega
    go_enter Tryz.func96, Tryz.ntmps96
    go_wp2_with fail
    obtain ⟨W, hW, o1, hB, hS⟩ := boxes1 w 55 [.bool false, .slice none 0 0]
    rw [← hW]
    clear hW
    refine (rnatOf_spec n W (by omega)).mono ?_
    rintro e W1 ⟨v1, rfl, hv1, hb1⟩
    obtain ⟨a', l', c', rfl, _, _, _⟩ := hv1.any
    have hsW1 : W.heap.size ≤ W1.heap.size := hb1.size; have hB := hB.trans (hb1.mono hB.size); have o1 := o1.below hb1 o1.lt; have fo1 := o1.free; have co10 := o1.cell 0 _ rfl; have co11 := o1.cell 1 _ rfl
    go_wp2_with fail
    refine bodyPost_ret (v := .agg #[.bool true, .slice a' l' c']) (by simp [results, Tryz.results96, go_sem, co10, co11]) rfl ⟨_, rfl, ⟨⟨.slice a' l' c', ?_, ?_⟩, by omega⟩, (hB.setCell (Nat.le_refl _) _).setCell (Nat.le_refl _) _⟩
    · rw [decide_eq_true (by omega)]
    · have := (hv1.put o1 rfl 0 (.bool true)).put (o1.set 0 _) rfl 1 (.slice a' l' c')
      rw [show (-(n : Int)).natAbs = n from by omega]
      exact this
  · obtain ⟨n, rfl⟩ : ∃ n : Nat, z = (n : Int) := ⟨z.toNat, by omega⟩
    go_enter Tryz.func96, Tryz.ntmps96
    go_wp2_with fail
    obtain ⟨W, hW, o1, hB, hS⟩ := boxes1 w 55 [.bool false, .slice none 0 0]
    rw [← hW]
    clear hW
    refine (rnatOf_spec n W (by omega)).mono ?_
    rintro e W1 ⟨v1, rfl, hv1, hb1⟩
    obtain ⟨a', l', c', rfl, _, _, _⟩ := hv1.any
    have hsW1 : W.heap.size ≤ W1.heap.size := hb1.size; have hB := hB.trans (hb1.mono hB.size); have o1 := o1.below hb1 o1.lt; have fo1 := o1.free; have co10 := o1.cell 0 _ rfl; have co11 := o1.cell 1 _ rfl
    go_wp2_with fail
    refine bodyPost_ret (v := .agg #[.bool false, .slice a' l' c']) (by simp [results, Tryz.results96, go_sem, co10, co11]) rfl ⟨_, rfl, ⟨⟨.slice a' l' c', ?_, ?_⟩, by omega⟩, (hB.setCell (Nat.le_refl _) _).setCell (Nat.le_refl _) _⟩
    · rw [decide_eq_false (by omega)]
    · have := (hv1.put o1 rfl 0 (.bool false)).put (o1.set 0 _) rfl 1 (.slice a' l' c')
      rw [show ((n : Int)).natAbs = n from by omega]
      exact this

end Go.Proofs.YtpnfdlnhmhekeaaGreat
