/- The reference's greatest common divisor and decimal digits. Conditions: fewer than 2^20 bits for digits. The reference's integers. Conditions: fewer than 2^43 bits. The reference's numbers: IntSub, Make. Conditions: fewer than 2^43 bits. -/
import Derived.Test.YtfkogkcpndaoeaaGreatMDec
import Derived.Test.YtfkogkcpndaoeaaGreatMNumD
import Derived.Test.YtfkogkcpndaoeaaGreatMRNatD
set_option linter.all false
namespace Go.Proofs.YtfkogkcpndaoeaaGreat
open Go.RowKit
set_option maxHeartbeats 400000 in
theorem rgcd_spec (v u : Value) (n m k : Nat) (w : World) (h : NatRep w v n) (h' : NatRep w u m) (hn : n < 2 ^ k) (hm : m < 2 ^ k) (hk : k ≤ 8796093022208) :
    Calls Tryz.prog 157 #[v, u] w (Ret w fun w' v' => NatRep w' v' (Nat.gcd n m)) := by
  have Hn := Lib.hid hn
  have Hm := Lib.hid hm
  clear hn hm
  go_enter Tryz.func157, Tryz.ntmps157
  go_wp2_with fail
  go_loopg [0, 1] m (fun g s0 s1 wr => ∃ n' : Nat, NatRep wr s0 n' ∧ NatRep wr s1 g ∧ Hid (n' < 2 ^ k) ∧ Hid (g < 2 ^ k) ∧ Hid (Nat.gcd n' g = Nat.gcd n m) ∧ Below w.heap.size w wr)
  case atStart => exact ⟨n, h, h', Hn, Hm, rfl, Below.refl _ _⟩
  case round =>
    obtain ⟨n', r1, r2, Hn', Hg', He, hb⟩ := hrel
    obtain ⟨a, len, cap, rfl, hlen, hcap, hmax⟩ := r2.any
    by_cases h0 : gk = 0
    · obtain rfl : len = 0 := hlen.2 h0
      subst h0
      go_wp2_with fail
      go_ret
      refine ⟨_, rfl, ?_, hb⟩
      have e := He.out
      rw [Nat.gcd_zero_right] at e
      rw [← e]; exact r1
    · have hl0 : 0 < len := by
        rcases Nat.eq_zero_or_pos len with h | h
        · exact absurd (hlen.1 h) h0
        · exact h
      go_wp2_with fail
      refine (rdiv_spec _ _ n' gk k wr r1 r2 (by omega) Hn'.out hk).mono ?_
      rintro e w' ⟨_, rfl, ⟨q, r, rfl, hq, hr⟩, hb2⟩
      have r3 := r2.below hb2 (Nat.le_refl _)
      have hlt : n' % gk < gk := Nat.mod_lt _ (by omega)
      go_wp2_with fail
      go_roundg (n' % gk)
      case measure => exact hlt
      case rel =>
        refine ⟨gk, r3, hr, Hg', show _ < _ from Nat.lt_trans hlt Hg'.out, show _ = _ from ?_, hb.trans (hb2.mono hb.size)⟩
        rw [← He.out, Nat.gcd_comm n' gk, Nat.gcd_rec gk n', Nat.gcd_comm]
end Go.Proofs.YtfkogkcpndaoeaaGreat
namespace Go.Proofs.YtfkogkcpndaoeaaGreat
open Go.RowKit
set_option maxHeartbeats 400000 in
theorem rsigned_spec (neg : Bool) (v : Value) (n : Nat) (w : World) (h : NatRep w v n) :
    Calls Tryz.prog 156 #[.bool neg, v] w (Ret w fun w' v' => WholeRep w' v' (sgn neg n)) := by
  obtain ⟨a, len, cap, rfl, hlen, hcap, hmax⟩ := h.any
  cases neg
  · go_enter Tryz.func156, Tryz.ntmps156
    go_wp2
    refine bodyPost_ret (v := .agg #[.bool false, .slice a len cap]) (by simp [results, Tryz.results156, go_sem]) rfl ⟨_, rfl, ?_, (Below.refl _ _).alloc (Nat.le_refl _) _⟩
    exact whole_mk (h.below ((Below.refl _ _).alloc (Nat.le_refl _) _) (Nat.le_refl _)) rfl
  · by_cases h0 : n = 0
    · obtain rfl : len = 0 := hlen.2 h0
      subst h0
      go_enter Tryz.func156, Tryz.ntmps156
      go_wp2
      refine bodyPost_ret (v := .agg #[.bool false, .slice a 0 cap]) (by simp [results, Tryz.results156, go_sem]) rfl ⟨_, rfl, ?_, (Below.refl _ _).alloc (Nat.le_refl _) _⟩
      exact whole_mk (h.below ((Below.refl _ _).alloc (Nat.le_refl _) _) (Nat.le_refl _)) rfl
    · have hl0 : 0 < len := by
        rcases Nat.eq_zero_or_pos len with h | h
        · exact absurd (hlen.1 h) h0
        · exact h
      go_enter Tryz.func156, Tryz.ntmps156
      go_wp2
      refine bodyPost_ret (v := .agg #[.bool true, .slice a len cap]) (by simp [results, Tryz.results156, go_sem]) rfl ⟨_, rfl, ?_, (Below.refl _ _).alloc (Nat.le_refl _) _⟩
      exact whole_mk (h.below ((Below.refl _ _).alloc (Nat.le_refl _) _) (Nat.le_refl _)) (by simp; omega)
set_option maxHeartbeats 400000 in
theorem rminus_spec (v : Value) (z : Int) (w : World) (h : WholeRep w v z) :
    Calls Tryz.prog 98 #[v] w (Ret w fun w' v' => WholeRep w' v' (-z)) := by
  obtain ⟨m, rfl, hm⟩ := h
  go_enter Tryz.func98, Tryz.ntmps98
  go_wp2_with fail
  refine (rsigned_spec _ m z.natAbs _ (hm.below (((Below.refl _ _).alloc (Nat.le_refl _) _).alloc (by simp) _) (Nat.le_refl _))).mono ?_
  rintro e w' ⟨_, rfl, ⟨m', rfl, hm'⟩, hb⟩
  obtain ⟨a', l', c', rfl, _, _, _⟩ := hm'.any
  have o2 : Own w' 44 (w.heap.size + 1) [.bool false, .slice none 0 0] := (own_at (w.alloc (.cells #[.bool (decide (z < 0)), m] 44)) _ _ (by simp)).below hb (by simp)
  have c0 := o2.cell 0 _ rfl
  have c1 := o2.cell 1 _ rfl
  have f0 := o2.free 0
  have f1 := o2.free 1
  go_wp2_with fail
  refine bodyPost_ret (v := .agg #[.bool (decide (sgn (!decide (z < 0)) z.natAbs < 0)), .slice a' l' c']) (by simp [results, Tryz.results98, go_sem, c0, c1]) rfl ⟨_, rfl, ?_, ?_⟩
  · rw [sgn_minus] at hm' ⊢
    exact ⟨_, rfl, (hm'.put o2 rfl 0 _).put (o2.set 0 _) rfl 1 _⟩
  · have h1 := ((Below.refl w.heap.size w).alloc (Nat.le_refl _) (.cells #[.bool (decide (z < 0)), m] 44)).alloc (by simp) (.cells #[.bool false, .slice none 0 0] 44)
    exact ((h1.trans (hb.mono h1.size)).setCell (by simp) _).setCell (by simp) _
set_option maxRecDepth 100000 in
set_option maxHeartbeats 400000 in
theorem rtimes_spec (v u : Value) (z y : Int) (k : Nat) (w : World) (h : WholeRep w v z) (h' : WholeRep w u y) (hn : z.natAbs < 2 ^ k) (hm : y.natAbs < 2 ^ k) (hk : k ≤ 8796093022208) :
    Calls Tryz.prog 153 #[v, u] w (Ret w fun w' v' => WholeRep w' v' (z * y)) := by
  obtain ⟨m, rfl, hm1⟩ := h
  obtain ⟨m2, rfl, hm2⟩ := h'
  obtain ⟨a1, l1, c1, rfl, _, _, _⟩ := hm1.any
  obtain ⟨a2, l2, c2, rfl, _, _, _⟩ := hm2.any
  generalize hz : decide (z < 0) = s1
  generalize hy : decide (y < 0) = s2
  have Hz := Lib.hid hz
  have Hy := Lib.hid hy
  clear hz hy
  go_enter Tryz.func153, Tryz.ntmps153
  go_wp2_with fail
  obtain ⟨W, hW, o1, o2, o3, hB, hS⟩ := boxes3 w 44 44 44 [.bool s1, .slice a1 l1 c1] [.bool s2, .slice a2 l2 c2] [.bool false, .slice none 0 0]
  rw [← hW]
  clear hW
  have o1 : Own W.drew _ _ _ := o1; have o2 : Own W.drew _ _ _ := o2; have o3 : Own W.drew _ _ _ := o3; have hB := hB.drew
  go_region_held3 (fun w' => w'.cell? ⟨w.heap.size, 0, none⟩ = some (.bool s1) ∧ w'.cell? ⟨w.heap.size, 1, none⟩ = some (.slice a1 l1 c1) ∧ w'.cell? ⟨w.heap.size + 1, 0, none⟩ = some (.bool s2) ∧ w'.cell? ⟨w.heap.size + 1, 1, none⟩ = some (.slice a2 l2 c2)) (first | (with_reducible exact ⟨o1.cell 0 _ rfl, o1.cell 1 _ rfl, o2.cell 0 _ rfl, o2.cell 1 _ rfl⟩) | (simp [go_sem, o1.cell 0 _ rfl, o1.cell 1 _ rfl, o2.cell 0 _ rfl, o2.cell 1 _ rfl]; done) | exact ⟨o1.cell 0 _ rfl, o1.cell 1 _ rfl, o2.cell 0 _ rfl, o2.cell 1 _ rfl⟩)
    (first
      | (go_at_call 154; refine (rmul_spec _ _ z.natAbs y.natAbs k _ (hm1.below hB (Nat.le_refl _)) (hm2.below hB (Nat.le_refl _)) hn hm (by omega)).mono ?_; rintro e W1 ⟨v', rfl, hv', hb1⟩; have hsW1 : W.heap.size ≤ W1.heap.size := hb1.size; have hB := hB.trans (hb1.mono hB.size); have o1 := o1.below hb1 (show _ < W.heap.size by first | omega | (simp; omega)); have o2 := o2.below hb1 (show _ < W.heap.size by first | omega | (simp; omega)); have o3 := o3.below hb1 (show _ < W.heap.size by first | omega | (simp; omega)))
      | (go_at_call 156; refine (rsigned_spec _ _ (z.natAbs * y.natAbs) _ hv').mono ?_; rintro e W2 ⟨_, rfl, ⟨m', rfl, hm'⟩, hb2⟩; obtain ⟨a', l', c', rfl, _, _, _⟩ := hm'.any; have hsW2 : W1.heap.size ≤ W2.heap.size := hb2.size; have hB := hB.trans (hb2.mono hB.size); have o1 := o1.below hb2 (show _ < W1.heap.size by first | omega | (simp; omega)); have o2 := o2.below hb2 (show _ < W1.heap.size by first | omega | (simp; omega)); have o3 := o3.below hb2 (show _ < W1.heap.size by first | omega | (simp; omega)); have fo3 := o3.free; have co30 := o3.cell 0 _ rfl; have co31 := o3.cell 1 _ rfl))
  go_wp2_with fail
  refine bodyPost_ret (v := .agg #[.bool (decide (sgn (!s1 == s2) (z.natAbs * y.natAbs) < 0)), .slice a' l' c']) (by simp [results, Tryz.results153, go_sem, co30, co31]) rfl ⟨_, rfl, whole_ret hm' o3 (by rw [← Hz.out, ← Hy.out, sgn_mul]), (hB.setCell (show _ ≤ _ + 1 + 1 by omega) _).setCell (show _ ≤ _ + 1 + 1 by omega) _⟩
set_option maxRecDepth 100000 in
set_option maxHeartbeats 800000 in
theorem rplus_spec (v u : Value) (z y : Int) (k : Nat) (w : World) (h : WholeRep w v z) (h' : WholeRep w u y) (hn : z.natAbs < 2 ^ k) (hm : y.natAbs < 2 ^ k) (hk : k ≤ 8796093022208) :
    Calls Tryz.prog 168 #[v, u] w (Ret w fun w' v' => WholeRep w' v' (z + y)) := by
  obtain ⟨m, rfl, hm1⟩ := h
  obtain ⟨m2, rfl, hm2⟩ := h'
  obtain ⟨a1, l1, c1, rfl, _, _, _⟩ := hm1.any
  obtain ⟨a2, l2, c2, rfl, _, _, _⟩ := hm2.any
  have g1 := sgn_plus z y
  have g2 := sgn_minus1 z y
  have g3 := sgn_minus2 z y
  generalize hz : decide (z < 0) = s1 at *
  generalize hy : decide (y < 0) = s2 at *
  have G1 := Lib.hid g1
  have G2 := Lib.hid g2
  have G3 := Lib.hid g3
  clear hz hy g1 g2 g3
  go_enter Tryz.func168, Tryz.ntmps168
  go_upto_region 1 with (fail)
  obtain ⟨W, hW, o1, o2, o3, hB, hS⟩ := boxes3 w 44 44 44 [.bool s1, .slice a1 l1 c1] [.bool s2, .slice a2 l2 c2] [.bool false, .slice none 0 0]
  rw [← hW]
  clear hW
  have h10 := o1.cell 0 _ rfl
  have h11 := o1.cell 1 _ rfl
  have h20 := o2.cell 0 _ rfl
  have h21 := o2.cell 1 _ rfl
  by_cases hs : s1 = s2
  · have he : (s1 == s2) = true := by simp [hs]
    have HE := Lib.hid (G1.out hs)
    clear hs
    go_wp2_with fail
    have o1 : Own W.drew _ _ _ := o1; have o2 : Own W.drew _ _ _ := o2; have o3 : Own W.drew _ _ _ := o3; have hB := hB.drew
    clear h10 h11 h20 h21
    go_region_held3 (fun w' => w'.cell? ⟨w.heap.size, 0, none⟩ = some (.bool s1) ∧ w'.cell? ⟨w.heap.size, 1, none⟩ = some (.slice a1 l1 c1) ∧ w'.cell? ⟨w.heap.size + 1, 0, none⟩ = some (.bool s2) ∧ w'.cell? ⟨w.heap.size + 1, 1, none⟩ = some (.slice a2 l2 c2)) (first | (with_reducible exact ⟨o1.cell 0 _ rfl, o1.cell 1 _ rfl, o2.cell 0 _ rfl, o2.cell 1 _ rfl⟩) | (simp [go_sem, o1.cell 0 _ rfl, o1.cell 1 _ rfl, o2.cell 0 _ rfl, o2.cell 1 _ rfl]; done) | exact ⟨o1.cell 0 _ rfl, o1.cell 1 _ rfl, o2.cell 0 _ rfl, o2.cell 1 _ rfl⟩)
      (first
        | (go_at_call 147; refine (radd_spec _ _ z.natAbs y.natAbs k _ (hm1.below hB (Nat.le_refl _)) (hm2.below hB (Nat.le_refl _)) hn hm (by omega)).mono ?_; rintro e W1 ⟨v', rfl, hv', hb1⟩; have hsW1 : W.heap.size ≤ W1.heap.size := hb1.size; have hB := hB.trans (hb1.mono hB.size); have o1 := o1.below hb1 (show _ < W.heap.size by first | omega | (simp; omega)); have o2 := o2.below hb1 (show _ < W.heap.size by first | omega | (simp; omega)); have o3 := o3.below hb1 (show _ < W.heap.size by first | omega | (simp; omega)))
        | (go_at_call 156; refine (rsigned_spec _ _ (z.natAbs + y.natAbs) _ hv').mono ?_; rintro e W2 ⟨_, rfl, ⟨m', rfl, hm'⟩, hb2⟩; obtain ⟨a', l', c', rfl, _, _, _⟩ := hm'.any; have hsW2 : W1.heap.size ≤ W2.heap.size := hb2.size; have hB := hB.trans (hb2.mono hB.size); have o1 := o1.below hb2 (show _ < W1.heap.size by first | omega | (simp; omega)); have o2 := o2.below hb2 (show _ < W1.heap.size by first | omega | (simp; omega)); have o3 := o3.below hb2 (show _ < W1.heap.size by first | omega | (simp; omega)); have fo3 := o3.free; have co30 := o3.cell 0 _ rfl; have co31 := o3.cell 1 _ rfl))
    go_wp2_with fail
    refine bodyPost_ret (v := .agg #[.bool (decide (sgn s1 (z.natAbs + y.natAbs) < 0)), .slice a' l' c']) (by simp [results, Tryz.results168, go_sem, co30, co31]) rfl ⟨_, rfl, whole_ret hm' o3 HE.out, (hB.setCell (show _ ≤ _ + 1 + 1 by omega) _).setCell (show _ ≤ _ + 1 + 1 by omega) _⟩
  · have he : (s1 == s2) = false := by simp [hs]
    have HS := Lib.hid hs
    clear hs
    go_wp2_with fail
    refine (rcmp_spec _ _ z.natAbs y.natAbs W (hm1.below hB (Nat.le_refl _)) (hm2.below hB (Nat.le_refl _))).mono ?_
    rintro e V ⟨_, rfl, rfl, hb0⟩
    have hsV : W.heap.size ≤ V.heap.size := hb0.size; have hB := hB.trans (hb0.mono hB.size); have o1 := o1.below hb0 (show _ < W.heap.size by first | omega | (simp; omega)); have o2 := o2.below hb0 (show _ < W.heap.size by first | omega | (simp; omega)); have o3 := o3.below hb0 (show _ < W.heap.size by first | omega | (simp; omega))
    clear h10 h11 h20 h21
    by_cases hle : y.natAbs ≤ z.natAbs
    · have hc := cmpZ_nonneg hle
      have HE := Lib.hid (G2.out HS.out hle)
      generalize cmpZ z.natAbs y.natAbs = cc at *
      have HLE := Lib.hid hle
      clear hle
      go_wp2_with fail
      have o1 : Own V.drew _ _ _ := o1; have o2 : Own V.drew _ _ _ := o2; have o3 : Own V.drew _ _ _ := o3; have hB := hB.drew
      go_region_held3 (fun w' => w'.cell? ⟨w.heap.size, 0, none⟩ = some (.bool s1) ∧ w'.cell? ⟨w.heap.size, 1, none⟩ = some (.slice a1 l1 c1) ∧ w'.cell? ⟨w.heap.size + 1, 0, none⟩ = some (.bool s2) ∧ w'.cell? ⟨w.heap.size + 1, 1, none⟩ = some (.slice a2 l2 c2)) (first | (with_reducible exact ⟨o1.cell 0 _ rfl, o1.cell 1 _ rfl, o2.cell 0 _ rfl, o2.cell 1 _ rfl⟩) | (simp [go_sem, o1.cell 0 _ rfl, o1.cell 1 _ rfl, o2.cell 0 _ rfl, o2.cell 1 _ rfl]; done) | exact ⟨o1.cell 0 _ rfl, o1.cell 1 _ rfl, o2.cell 0 _ rfl, o2.cell 1 _ rfl⟩)
        (first
          | (go_at_call 194; refine (rsub_spec _ _ z.natAbs y.natAbs k _ (hm1.below hB (Nat.le_refl _)) (hm2.below hB (Nat.le_refl _)) hn HLE.out (by omega)).mono ?_; rintro e W1 ⟨v', rfl, hv', hb1⟩; have hsW1 : V.heap.size ≤ W1.heap.size := hb1.size; have hB := hB.trans (hb1.mono hB.size); have o1 := o1.below hb1 (show _ < V.heap.size by first | omega | (simp; omega)); have o2 := o2.below hb1 (show _ < V.heap.size by first | omega | (simp; omega)); have o3 := o3.below hb1 (show _ < V.heap.size by first | omega | (simp; omega)))
          | (go_at_call 156; refine (rsigned_spec _ _ (z.natAbs - y.natAbs) _ hv').mono ?_; rintro e W2 ⟨_, rfl, ⟨m', rfl, hm'⟩, hb2⟩; obtain ⟨a', l', c', rfl, _, _, _⟩ := hm'.any; have hsW2 : W1.heap.size ≤ W2.heap.size := hb2.size; have hB := hB.trans (hb2.mono hB.size); have o1 := o1.below hb2 (show _ < W1.heap.size by first | omega | (simp; omega)); have o2 := o2.below hb2 (show _ < W1.heap.size by first | omega | (simp; omega)); have o3 := o3.below hb2 (show _ < W1.heap.size by first | omega | (simp; omega)); have fo3 := o3.free; have co30 := o3.cell 0 _ rfl; have co31 := o3.cell 1 _ rfl))
      go_wp2_with fail
      refine bodyPost_ret (v := .agg #[.bool (decide (sgn s1 (z.natAbs - y.natAbs) < 0)), .slice a' l' c']) (by simp [results, Tryz.results168, go_sem, co30, co31]) rfl ⟨_, rfl, whole_ret hm' o3 HE.out, (hB.setCell (show _ ≤ _ + 1 + 1 by omega) _).setCell (show _ ≤ _ + 1 + 1 by omega) _⟩
    · have hc := cmpZ_negative hle
      have HE := Lib.hid (G3.out HS.out hle)
      generalize cmpZ z.natAbs y.natAbs = cc at *
      have HLE : Hid (z.natAbs ≤ y.natAbs) := show _ ≤ _ by omega
      clear hle
      go_wp2_with fail
      have o1 : Own V.drew _ _ _ := o1; have o2 : Own V.drew _ _ _ := o2; have o3 : Own V.drew _ _ _ := o3; have hB := hB.drew
      go_region_held3 (fun w' => w'.cell? ⟨w.heap.size, 0, none⟩ = some (.bool s1) ∧ w'.cell? ⟨w.heap.size, 1, none⟩ = some (.slice a1 l1 c1) ∧ w'.cell? ⟨w.heap.size + 1, 0, none⟩ = some (.bool s2) ∧ w'.cell? ⟨w.heap.size + 1, 1, none⟩ = some (.slice a2 l2 c2)) (first | (with_reducible exact ⟨o1.cell 0 _ rfl, o1.cell 1 _ rfl, o2.cell 0 _ rfl, o2.cell 1 _ rfl⟩) | (simp [go_sem, o1.cell 0 _ rfl, o1.cell 1 _ rfl, o2.cell 0 _ rfl, o2.cell 1 _ rfl]; done) | exact ⟨o1.cell 0 _ rfl, o1.cell 1 _ rfl, o2.cell 0 _ rfl, o2.cell 1 _ rfl⟩)
        (first
          | (go_at_call 194; refine (rsub_spec _ _ y.natAbs z.natAbs k _ (hm2.below hB (Nat.le_refl _)) (hm1.below hB (Nat.le_refl _)) hm HLE.out (by omega)).mono ?_; rintro e W1 ⟨v', rfl, hv', hb1⟩; have hsW1 : V.heap.size ≤ W1.heap.size := hb1.size; have hB := hB.trans (hb1.mono hB.size); have o1 := o1.below hb1 (show _ < V.heap.size by first | omega | (simp; omega)); have o2 := o2.below hb1 (show _ < V.heap.size by first | omega | (simp; omega)); have o3 := o3.below hb1 (show _ < V.heap.size by first | omega | (simp; omega)))
          | (go_at_call 156; refine (rsigned_spec _ _ (y.natAbs - z.natAbs) _ hv').mono ?_; rintro e W2 ⟨_, rfl, ⟨m', rfl, hm'⟩, hb2⟩; obtain ⟨a', l', c', rfl, _, _, _⟩ := hm'.any; have hsW2 : W1.heap.size ≤ W2.heap.size := hb2.size; have hB := hB.trans (hb2.mono hB.size); have o1 := o1.below hb2 (show _ < W1.heap.size by first | omega | (simp; omega)); have o2 := o2.below hb2 (show _ < W1.heap.size by first | omega | (simp; omega)); have o3 := o3.below hb2 (show _ < W1.heap.size by first | omega | (simp; omega)); have fo3 := o3.free; have co30 := o3.cell 0 _ rfl; have co31 := o3.cell 1 _ rfl))
      go_wp2_with fail
      refine bodyPost_ret (v := .agg #[.bool (decide (sgn s2 (y.natAbs - z.natAbs) < 0)), .slice a' l' c']) (by simp [results, Tryz.results168, go_sem, co30, co31]) rfl ⟨_, rfl, whole_ret hm' o3 HE.out, (hB.setCell (show _ ≤ _ + 1 + 1 by omega) _).setCell (show _ ≤ _ + 1 + 1 by omega) _⟩
set_option maxHeartbeats 400000 in
theorem rintOf_spec (z : Int) (w : World) (h1 : -9223372036854775808 ≤ z) (h2 : z ≤ 9223372036854775807) :
    Calls Tryz.prog 97 #[.int .i64 z] w (Ret w fun w' v' => WholeRep w' v' z ∧ z.natAbs < 2 ^ 64) := by
  by_cases hm : z = -9223372036854775808
  · subst hm
    have e2 : IntKind.u64.wrap (-9223372036854775808) = ((9223372036854775808 : Nat) : Int) := by rw [IntKind.wrap_u64]; rfl
    have e1 : IntKind.i64.wrap 9223372036854775808 = -9223372036854775808 := by decide
    generalize h63 : (9223372036854775808 : Nat) = n at e2
    go_enter Tryz.func97, Tryz.ntmps97
    go_wp2_with fail
    obtain ⟨W, hW, o1, hB, hS⟩ := boxes1 w 44 [.bool false, .slice none 0 0]
    rw [← hW]
    clear hW
    refine (rnatOf_spec n W (by omega)).mono ?_
    rintro e W1 ⟨v1, rfl, hv1, hb1⟩
    obtain ⟨a', l', c', rfl, _, _, _⟩ := hv1.any
    have hsW1 : W.heap.size ≤ W1.heap.size := hb1.size; have hB := hB.trans (hb1.mono hB.size); have o1 := o1.below hb1 o1.lt; have fo1 := o1.free; have co10 := o1.cell 0 _ rfl; have co11 := o1.cell 1 _ rfl
    go_wp2_with fail
    refine bodyPost_ret (v := .agg #[.bool true, .slice a' l' c']) (by simp [results, Tryz.results97, go_sem, co10, co11]) rfl ⟨_, rfl, ⟨⟨.slice a' l' c', by simp, ?_⟩, by omega⟩, (hB.setCell (Nat.le_refl _) _).setCell (Nat.le_refl _) _⟩
    have := (hv1.put o1 rfl 0 (.bool true)).put (o1.set 0 _) rfl 1 (.slice a' l' c')
    rw [show (-9223372036854775808 : Int).natAbs = n from by omega]
    exact this
  by_cases hz : z < 0
  · obtain ⟨n, rfl⟩ : ∃ n : Nat, z = -(n : Int) := ⟨z.natAbs, by omega⟩
    have hn0 : 0 < n := by omega
    have hn63 : (n : Int) < 9223372036854775808 := by omega
    have hn00 : (0 : Int) ≤ n := by omega
    go_enter Tryz.func97, Tryz.ntmps97
    go_wp2_with fail
    obtain ⟨W, hW, o1, hB, hS⟩ := boxes1 w 44 [.bool false, .slice none 0 0]
    rw [← hW]
    clear hW
    refine (rnatOf_spec n W (by omega)).mono ?_
    rintro e W1 ⟨v1, rfl, hv1, hb1⟩
    obtain ⟨a', l', c', rfl, _, _, _⟩ := hv1.any
    have hsW1 : W.heap.size ≤ W1.heap.size := hb1.size; have hB := hB.trans (hb1.mono hB.size); have o1 := o1.below hb1 o1.lt; have fo1 := o1.free; have co10 := o1.cell 0 _ rfl; have co11 := o1.cell 1 _ rfl
    go_wp2_with fail
    refine bodyPost_ret (v := .agg #[.bool true, .slice a' l' c']) (by simp [results, Tryz.results97, go_sem, co10, co11]) rfl ⟨_, rfl, ⟨⟨.slice a' l' c', ?_, ?_⟩, by omega⟩, (hB.setCell (Nat.le_refl _) _).setCell (Nat.le_refl _) _⟩
    · rw [decide_eq_true (by omega)]
    · have := (hv1.put o1 rfl 0 (.bool true)).put (o1.set 0 _) rfl 1 (.slice a' l' c')
      rw [show (-(n : Int)).natAbs = n from by omega]
      exact this
  · obtain ⟨n, rfl⟩ : ∃ n : Nat, z = (n : Int) := ⟨z.toNat, by omega⟩
    go_enter Tryz.func97, Tryz.ntmps97
    go_wp2_with fail
    obtain ⟨W, hW, o1, hB, hS⟩ := boxes1 w 44 [.bool false, .slice none 0 0]
    rw [← hW]
    clear hW
    refine (rnatOf_spec n W (by omega)).mono ?_
    rintro e W1 ⟨v1, rfl, hv1, hb1⟩
    obtain ⟨a', l', c', rfl, _, _, _⟩ := hv1.any
    have hsW1 : W.heap.size ≤ W1.heap.size := hb1.size; have hB := hB.trans (hb1.mono hB.size); have o1 := o1.below hb1 o1.lt; have fo1 := o1.free; have co10 := o1.cell 0 _ rfl; have co11 := o1.cell 1 _ rfl
    go_wp2_with fail
    refine bodyPost_ret (v := .agg #[.bool false, .slice a' l' c']) (by simp [results, Tryz.results97, go_sem, co10, co11]) rfl ⟨_, rfl, ⟨⟨.slice a' l' c', ?_, ?_⟩, by omega⟩, (hB.setCell (Nat.le_refl _) _).setCell (Nat.le_refl _) _⟩
    · rw [decide_eq_false (by omega)]
    · have := (hv1.put o1 rfl 0 (.bool false)).put (o1.set 0 _) rfl 1 (.slice a' l' c')
      rw [show ((n : Int)).natAbs = n from by omega]
      exact this
end Go.Proofs.YtfkogkcpndaoeaaGreat
namespace Go.Proofs.YtfkogkcpndaoeaaGreat
open Go.RowKit
def RTri (w : World) (v : Value) (a b : Int) (d : Nat) : Prop :=
  ∃ (m1 m2 m3 : Value), v = .agg #[.bool (decide (a < 0)), m1, .bool (decide (b < 0)), m2, m3] ∧ NatRep w m1 a.natAbs ∧ NatRep w m2 b.natAbs ∧ NatRep w m3 d ∧ Low a b d
def QRep (w : World) (v : Value) (x : CQ) : Prop := ∃ (a b : Int) (d : Nat), RTri w v a b d ∧ x = cq a b d
theorem RTri.below {B : Nat} {w w' : World} {v : Value} {a b : Int} {d : Nat} (h : RTri w v a b d) (hb : Below B w w') (hB : w.heap.size ≤ B) : RTri w' v a b d := by
  obtain ⟨m1, m2, m3, e, h1, h2, h3, h4⟩ := h
  exact ⟨m1, m2, m3, e, h1.below hb hB, h2.below hb hB, h3.below hb hB, h4⟩
theorem QRep.below {B : Nat} {w w' : World} {v : Value} {x : CQ} (h : QRep w v x) (hb : Below B w w') (hB : w.heap.size ≤ B) : QRep w' v x := by
  obtain ⟨a, b, d, h1, h2⟩ := h
  exact ⟨a, b, d, h1.below hb hB, h2⟩
theorem QRep.put {w : World} {g : Nat} {E : TypeId} {cs : List Value} {v : Value} {x : CQ} (h : QRep w v x) (ho : Own w E g cs) (hn : cs.all noU = true) (i : Nat) (u : Value) : QRep (w.setCell ⟨g, i, none⟩ u) v x := by
  obtain ⟨a, b, d, ⟨m1, m2, m3, e, h1, h2, h3, h4⟩, hx⟩ := h
  exact ⟨a, b, d, ⟨m1, m2, m3, e, h1.put ho hn i u, h2.put ho hn i u, h3.put ho hn i u, h4⟩, hx⟩
structure QAll (w : World) (v : Value) (x : CQ) (a b : Int) (d : Nat) (s1 s2 : Bool) (a1 a2 a3 : Option Addr) (l1 c1 l2 c2 l3 c3 : Nat) : Prop where
  e : v = .agg #[.bool s1, .slice a1 l1 c1, .bool s2, .slice a2 l2 c2, .slice a3 l3 c3]
  wa : WholeRep w (.agg #[.bool s1, .slice a1 l1 c1]) a
  wb : WholeRep w (.agg #[.bool s2, .slice a2 l2 c2]) b
  na : NatRep w (.slice a1 l1 c1) a.natAbs
  nb : NatRep w (.slice a2 l2 c2) b.natAbs
  nd : NatRep w (.slice a3 l3 c3) d
  low : Low a b d
  x : x = cq a b d
  la : l1 = 0 ↔ a = 0
  lb : l2 = 0 ↔ b = 0
  sa : s1 = decide (a < 0)
  sb : s2 = decide (b < 0)
theorem QRep.all {w : World} {v : Value} {x : CQ} (h : QRep w v x) : ∃ (a b : Int) (d : Nat) (s1 s2 : Bool) (a1 a2 a3 : Option Addr) (l1 c1 l2 c2 l3 c3 : Nat), QAll w v x a b d s1 s2 a1 a2 a3 l1 c1 l2 c2 l3 c3 := by
  obtain ⟨a, b, d, ⟨m1, m2, m3, rfl, h1, h2, h3, h4⟩, rfl⟩ := h
  obtain ⟨a1, l1, c1, rfl, e1, _, _⟩ := h1.any
  obtain ⟨a2, l2, c2, rfl, e2, _, _⟩ := h2.any
  obtain ⟨a3, l3, c3, rfl, _, _, _⟩ := h3.any
  exact ⟨a, b, d, _, _, a1, a2, a3, l1, c1, l2, c2, l3, c3, rfl, ⟨_, rfl, h1⟩, ⟨_, rfl, h2⟩, h1, h2, h3, h4, rfl, by rw [e1]; omega, by rw [e2]; omega, rfl, rfl⟩
theorem QRep.open {w : World} {v : Value} {x : CQ} (h : QRep w v x) : ∃ (s0 s2 : Bool) (a1 a3 a4 : Option Addr) (l1 c1 l3 c3 l4 c4 : Nat), v = .agg #[.bool s0, .slice a1 l1 c1, .bool s2, .slice a3 l3 c3, .slice a4 l4 c4] := by
  obtain ⟨_, _, _, _, _, _, _, _, _, _, _, _, _, _, h⟩ := h.all
  exact ⟨_, _, _, _, _, _, _, _, _, _, _, h.e⟩
theorem qrep_ret {w : World} {E : TypeId} {g : Nat} {x : CQ} {s0 s2 b0 b2 : Bool} {a1 a3 a4 x1 x3 x4 : Option Addr} {l1 c1 l3 c3 l4 c4 y1 z1 y3 z3 y4 z4 : Nat}
    (h : QRep w (.agg #[.bool s0, .slice a1 l1 c1, .bool s2, .slice a3 l3 c3, .slice a4 l4 c4]) x) (o : Own w E g [.bool b0, .slice x1 y1 z1, .bool b2, .slice x3 y3 z3, .slice x4 y4 z4]) :
    QRep (((((w.setCell ⟨g, 0, none⟩ (.bool s0)).setCell ⟨g, 1, none⟩ (.slice a1 l1 c1)).setCell ⟨g, 2, none⟩ (.bool s2)).setCell ⟨g, 3, none⟩ (.slice a3 l3 c3)).setCell ⟨g, 4, none⟩ (.slice a4 l4 c4)) (.agg #[.bool s0, .slice a1 l1 c1, .bool s2, .slice a3 l3 c3, .slice a4 l4 c4]) x :=
  ((((h.put o rfl 0 _).put (o.set 0 _) rfl 1 _).put ((o.set 0 _).set 1 _) rfl 2 _).put (((o.set 0 _).set 1 _).set 2 _) rfl 3 _).put ((((o.set 0 _).set 1 _).set 2 _).set 3 _) rfl 4 _
theorem q_end {w W : World} {E : TypeId} {g : Nat} {x y : CQ} {s0 s2 b0 b2 : Bool} {a1 a3 a4 x1 x3 x4 : Option Addr} {l1 c1 l3 c3 l4 c4 y1 z1 y3 z3 y4 z4 : Nat}
    (h : QRep W (.agg #[.bool s0, .slice a1 l1 c1, .bool s2, .slice a3 l3 c3, .slice a4 l4 c4]) x) (o : Own W E g [.bool b0, .slice x1 y1 z1, .bool b2, .slice x3 y3 z3, .slice x4 y4 z4]) (hB : Below w.heap.size w W) (hg : w.heap.size ≤ g) (e : x = y) :
    Ret w (fun w' v' => QRep w' v' y) (.returned (.agg #[.bool s0, .slice a1 l1 c1, .bool s2, .slice a3 l3 c3, .slice a4 l4 c4])) (((((W.setCell ⟨g, 0, none⟩ (.bool s0)).setCell ⟨g, 1, none⟩ (.slice a1 l1 c1)).setCell ⟨g, 2, none⟩ (.bool s2)).setCell ⟨g, 3, none⟩ (.slice a3 l3 c3)).setCell ⟨g, 4, none⟩ (.slice a4 l4 c4)) := by
  subst e
  exact ⟨_, rfl, qrep_ret h o, below5 hB hg⟩
theorem q_pair {w W : World} {E : TypeId} {g : Nat} {x y : CQ} {r : Value} {s0 s2 b0 b2 : Bool} {a1 a3 a4 x1 x3 x4 : Option Addr} {l1 c1 l3 c3 l4 c4 y1 z1 y3 z3 y4 z4 : Nat}
    (h : QRep W (.agg #[.bool s0, .slice a1 l1 c1, .bool s2, .slice a3 l3 c3, .slice a4 l4 c4]) x) (o : Own W E g [.bool b0, .slice x1 y1 z1, .bool b2, .slice x3 y3 z3, .slice x4 y4 z4]) (hB : Below w.heap.size w W) (hg : w.heap.size ≤ g) (e : x = y) :
    Ret w (fun w' v' => ∃ u, v' = .tuple #[u, r] ∧ QRep w' u y) (.returned (.tuple #[.agg #[.bool s0, .slice a1 l1 c1, .bool s2, .slice a3 l3 c3, .slice a4 l4 c4], r])) (((((W.setCell ⟨g, 0, none⟩ (.bool s0)).setCell ⟨g, 1, none⟩ (.slice a1 l1 c1)).setCell ⟨g, 2, none⟩ (.bool s2)).setCell ⟨g, 3, none⟩ (.slice a3 l3 c3)).setCell ⟨g, 4, none⟩ (.slice a4 l4 c4)) := by
  subst e
  exact ⟨_, rfl, ⟨_, rfl, qrep_ret h o⟩, below5 hB hg⟩
theorem NatRep.isOne {w : World} {v : Value} {n : Nat} (h : NatRep w v n) : ∃ (a : Option Addr) (len cap : Nat), v = .slice a len cap ∧ len ≤ cap ∧ cap ≤ 9223372036854775807 ∧
    ((n ≠ 1 ∧ ((len : Int) == 1) = false) ∨ ∃ b o, len = 1 ∧ a = some ⟨b, o, none⟩ ∧ ∃ x : Nat, x < 4294967296 ∧ w.cell? ⟨b, o, none⟩ = some (.int .u32 (x : Int)) ∧ n = x) := by
  obtain ⟨xs, h1, h2, rfl⟩ := h
  obtain ⟨a, lx, cx, rfl, Hlx, hlcx, hmx, hX, wX⟩ := h1.any
  refine ⟨a, lx, cx, rfl, hlcx, hmx, ?_⟩
  by_cases hl : lx = 1
  · right
    subst hl
    obtain ⟨x, rfl⟩ : ∃ x, xs = [x] := List.length_eq_one_iff.1 Hlx.out
    obtain ⟨b, o, rfl, hc⟩ := hX.at (i := 0) rfl
    exact ⟨b, o, rfl, rfl, x, wX x (by simp), by simpa using hc, by simp [nval]⟩
  · left
    refine ⟨fun e => hl ?_, by simp; omega⟩
    have := norm_inj wX (ys := [1]) (by simp [Words]) h2 (by simp [Norm]) (by simpa [nval] using e)
    rw [← Hlx.out, this]; rfl
theorem q_mk {w : World} {m1 m2 m3 : Value} {s1 s2 : Bool} {a b : Int} {d g : Nat} (hd : 0 < d) (hg : g = Nat.gcd (Nat.gcd a.natAbs b.natAbs) d) (n1 : WholeRep w (.agg #[.bool s1, m1]) (a / g)) (n2 : WholeRep w (.agg #[.bool s2, m2]) (b / g)) (n3 : NatRep w m3 (d / g)) :
    QRep w (.agg #[.bool s1, m1, .bool s2, m2, m3]) (cq a b d) := by
  obtain ⟨h1, h2⟩ := cq_div hd hg.symm
  obtain ⟨k1, e1, r1⟩ := n1
  obtain ⟨k2, e2, r2⟩ := n2
  simp only [Value.agg.injEq, Array.mk.injEq, List.cons.injEq, and_true, Value.bool.injEq] at e1 e2
  obtain ⟨rfl, rfl⟩ := e1
  obtain ⟨rfl, rfl⟩ := e2
  exact ⟨a / g, b / g, d / g, ⟨_, _, _, rfl, r1, r2, n3, h1⟩, h2⟩
theorem sgn_div {a : Int} {g : Nat} (h : g ∣ a.natAbs) (hg : 0 < g) : sgn (decide (a < 0)) (a.natAbs / g) = a / g := by
  obtain ⟨h1, h2⟩ := div_abs h
  rw [← h1, ← h2 hg, sgn_self]
theorem WholeRep.sign {w : World} {s : Bool} {m : Value} {z : Int} (h : WholeRep w (.agg #[.bool s, m]) z) : s = decide (z < 0) ∧ NatRep w m z.natAbs := by
  obtain ⟨k1, e1, r1⟩ := h
  simp only [Value.agg.injEq, Array.mk.injEq, List.cons.injEq, and_true, Value.bool.injEq] at e1
  obtain ⟨rfl, rfl⟩ := e1
  exact ⟨rfl, r1⟩
set_option maxRecDepth 100000 in
set_option maxHeartbeats 1600000 in
theorem make_spec (v u x : Value) (a b : Int) (d k : Nat) (w : World) (h : WholeRep w v a) (h' : WholeRep w u b) (hx : NatRep w x d) (hd : 0 < d) (ha : a.natAbs < 2 ^ k) (hb : b.natAbs < 2 ^ k) (hdk : d < 2 ^ k) (hk : k ≤ 8796093022207) :
    Calls Tryz.prog 99 #[v, u, x] w (Ret w fun w' v' => QRep w' v' (cq a b d)) := by
  obtain ⟨s1, a1, l1, c1, rfl, -, -⟩ := h.open
  obtain ⟨s2, a2, l2, c2, rfl, -, -⟩ := h'.open
  obtain ⟨a3, l3, c3, rfl, _, _, _⟩ := hx.any
  obtain ⟨hsa, na⟩ := h.sign
  obtain ⟨hsb, nb⟩ := h'.sign
  obtain ⟨g, hg⟩ : ∃ g, g = Nat.gcd (Nat.gcd a.natAbs b.natAbs) d := ⟨_, rfl⟩
  have hg0 : 0 < g := hg ▸ gcd3_pos hd
  have hgk : g < 2 ^ k := hg ▸ gcd3_small hd hdk
  have hga : g ∣ a.natAbs := hg ▸ Nat.dvd_trans (Nat.gcd_dvd_left _ _) (Nat.gcd_dvd_left _ _)
  have hgb : g ∣ b.natAbs := hg ▸ Nat.dvd_trans (Nat.gcd_dvd_left _ _) (Nat.gcd_dvd_right _ _)
  have ea : sgn s1 (a.natAbs / g) = a / g := by rw [hsa]; exact sgn_div hga hg0
  have eb : sgn s2 (b.natAbs / g) = b / g := by rw [hsb]; exact sgn_div hgb hg0
  have HG := Lib.hid hg
  have Hgk := Lib.hid hgk
  have Ha := Lib.hid ha
  have Hb := Lib.hid hb
  have Hdk := Lib.hid hdk
  have Ea := Lib.hid ea
  have Eb := Lib.hid eb
  clear hg hgk ha hb hdk hga hgb ea eb hsa hsb
  go_enter Tryz.func99, Tryz.ntmps99
  go_upto_region 1 with (fail)
  obtain ⟨W, hW, o1, o2, o3, hB, hS⟩ := boxes3 w 44 44 46 [.bool s1, .slice a1 l1 c1] [.bool s2, .slice a2 l2 c2] [.bool false, .slice none 0 0, .bool false, .slice none 0 0, .slice none 0 0]
  rw [← hW]
  clear hW
  have k1 := na.below hB (Nat.le_refl _)
  have k2 := nb.below hB (Nat.le_refl _)
  have k3 := hx.below hB (Nat.le_refl _)
  have w1 := h.below hB (Nat.le_refl _)
  have w2 := h'.below hB (Nat.le_refl _)
  clear h h' hx na nb
  have fo1 := o1.free; have co10 := o1.cell 0 _ rfl; have co11 := o1.cell 1 _ rfl; have fo2 := o2.free; have co20 := o2.cell 0 _ rfl; have co21 := o2.cell 1 _ rfl
  go_wp2_with fail
  refine (rgcd_spec _ _ a.natAbs b.natAbs k W k1 k2 Ha.out Hb.out (by omega)).mono ?_
  rintro e W1 ⟨v1, rfl, hv1, hb1⟩
  have q3 := k3.below hb1 (Nat.le_refl _)
  go_wp2_with fail
  refine (rgcd_spec _ _ (Nat.gcd a.natAbs b.natAbs) d k W1 hv1 q3 (gcd_small Ha.out Hb.out) Hdk.out (by omega)).mono ?_
  rintro e W2 ⟨v2, rfl, hv2, hb2⟩
  rw [← HG.out] at hv2
  have hb2 := hb1.trans (hb2.mono hb1.size)
  clear co10 co11 fo1 co20 co21 fo2 q3 hv1 hb1
  have hsW2 : W.heap.size ≤ W2.heap.size := hb2.size; have hB := hB.trans (hb2.mono hB.size); have o1 := o1.below hb2 o1.lt; have o2 := o2.below hb2 o2.lt; have o3 := o3.below hb2 o3.lt; have k1 := k1.below hb2 (Nat.le_refl _); have k2 := k2.below hb2 (Nat.le_refl _); have k3 := k3.below hb2 (Nat.le_refl _); have w1 := w1.below hb2 (Nat.le_refl _); have w2 := w2.below hb2 (Nat.le_refl _); have fo1 := o1.free; have co10 := o1.cell 0 _ rfl; have co11 := o1.cell 1 _ rfl; have fo2 := o2.free; have co20 := o2.cell 0 _ rfl; have co21 := o2.cell 1 _ rfl
  obtain ⟨ag, lg, cg, rfl, hlcg, hmcg, hone⟩ := hv2.isOne
  go_upto_region 2 with (fail)
  obtain ⟨gb, hgb⟩ : ∃ gb, gb = decide (g = 1) := ⟨_, rfl⟩
  have Hgb := Lib.hid hgb
  clear hgb
  go_cut [29] (fun s wx => s = .bool gb ∧ wx = W2)
  case first =>
    rcases hone with ⟨hne, hl⟩ | ⟨b', o', rfl, rfl, x, hxb, hc, hgx⟩
    · obtain rfl : gb = false := by rw [Hgb.out]; simp [hne]
      go_wp2_with fail
      go_meet
      exact ⟨rfl, rfl⟩
    · have hgb2 : ((x : Int) == 1) = gb := by rw [Hgb.out, hgx, Bool.eq_iff_iff]; simp; omega
      clear hgx
      go_wp2_with fail
      go_meet
      exact ⟨rfl, rfl⟩
  case rest =>
    obtain ⟨rfl, rfl⟩ := hcut
    clear hone
    by_cases hg1 : g = 1
    · obtain rfl : gb = true := by rw [Hgb.out]; simp [hg1]
      have hfin := q_mk (w := wc) (m3 := .slice a3 l3 c3) hd HG.out (by rw [hg1, show ((1 : Nat) : Int) = 1 from rfl, Int.ediv_one]; exact w1) (by rw [hg1, show ((1 : Nat) : Int) = 1 from rfl, Int.ediv_one]; exact w2) (by rw [hg1, Nat.div_one]; exact k3)
      clear hg1 Ea Eb
      have fo3 := o3.free; have co30 := o3.cell 0 _ rfl; have co31 := o3.cell 1 _ rfl; have co32 := o3.cell 2 _ rfl; have co33 := o3.cell 3 _ rfl; have co34 := o3.cell 4 _ rfl
      go_wp2_with fail
      refine bodyPost_ret (by simp [results, Tryz.results99, go_sem, co30, co31, co32, co33, co34]) rfl (q_end hfin o3 hB (by omega) rfl)
    · obtain rfl : gb = false := by rw [Hgb.out]; simp [hg1]
      clear hg1
      go_wp2_with fail
      refine (rdiv_spec _ _ a.natAbs g k wc k1 hv2 hg0 Ha.out (by omega)).mono ?_
      rintro e W3 ⟨_, rfl, ⟨q1, r1, rfl, hq1, _⟩, hb3⟩
      clear co10 co11 fo1 co20 co21 fo2
      have hsW3 : wc.heap.size ≤ W3.heap.size := hb3.size; have hB := hB.trans (hb3.mono hB.size); have o1 := o1.below hb3 o1.lt; have o2 := o2.below hb3 o2.lt; have o3 := o3.below hb3 o3.lt; have k2 := k2.below hb3 (Nat.le_refl _); have k3 := k3.below hb3 (Nat.le_refl _); have hv2 := hv2.below hb3 (Nat.le_refl _); have fo1 := o1.free; have co10 := o1.cell 0 _ rfl; have co11 := o1.cell 1 _ rfl; have fo2 := o2.free; have co20 := o2.cell 0 _ rfl; have co21 := o2.cell 1 _ rfl
      go_wp2_with fail
      refine (rdiv_spec _ _ b.natAbs g k W3 k2 hv2 hg0 Hb.out (by omega)).mono ?_
      rintro e W4 ⟨_, rfl, ⟨q2, r2, rfl, hq2, _⟩, hb4⟩
      clear co10 co11 fo1 co20 co21 fo2
      have hsW4 : W3.heap.size ≤ W4.heap.size := hb4.size; have hB := hB.trans (hb4.mono hB.size); have o1 := o1.below hb4 o1.lt; have o2 := o2.below hb4 o2.lt; have o3 := o3.below hb4 o3.lt; have k3 := k3.below hb4 (Nat.le_refl _); have hv2 := hv2.below hb4 (Nat.le_refl _); have hq1 := hq1.below hb4 (Nat.le_refl _)
      go_wp2_with fail
      refine (rdiv_spec _ _ d g k W4 k3 hv2 hg0 Hdk.out (by omega)).mono ?_
      rintro e W5 ⟨_, rfl, ⟨q3, r3, rfl, hq3, _⟩, hb5⟩
      have hsW5 : W4.heap.size ≤ W5.heap.size := hb5.size; have hB := hB.trans (hb5.mono hB.size); have o1 := o1.below hb5 o1.lt; have o2 := o2.below hb5 o2.lt; have o3 := o3.below hb5 o3.lt; have hq1 := hq1.below hb5 (Nat.le_refl _); have hq2 := hq2.below hb5 (Nat.le_refl _)
      obtain ⟨b3, p3, t3, rfl, _, _, _⟩ := hq3.any
      obtain ⟨b1, p1, t1, rfl, _, _, _⟩ := hq1.any
      obtain ⟨b2, p2, t2, rfl, _, _, _⟩ := hq2.any
      clear k1 k2 k3 w1 w2 hv2
      go_upto_region 7 with (fail)
      have qo10 := o1.cell 0 _ rfl; have qo11 := o1.cell 1 _ rfl; have qo20 := o2.cell 0 _ rfl; have qo21 := o2.cell 1 _ rfl
      have o1 : Own W5.drew _ _ _ := o1; have o2 : Own W5.drew _ _ _ := o2; have o3 : Own W5.drew _ _ _ := o3; have lto1 : _ < W5.heap.size := o1.lt; have lto2 : _ < W5.heap.size := o2.lt; have lto3 : _ < W5.heap.size := o3.lt; have hB := hB.drew
      have hq1 := hq1.below ((Below.refl W5.heap.size W5).drew) (Nat.le_refl _); have hq2 := hq2.below ((Below.refl W5.heap.size W5).drew) (Nat.le_refl _); have hq3 := hq3.below ((Below.refl W5.heap.size W5).drew) (Nat.le_refl _)
      have tok1 : True := trivial
      have tok2 : True := trivial
      go_region_held3 (fun w' => w'.cell? ⟨w.heap.size, 0, none⟩ = some (.bool s1) ∧ w'.cell? ⟨w.heap.size, 1, none⟩ = some (.slice a1 l1 c1) ∧ w'.cell? ⟨w.heap.size + 1, 0, none⟩ = some (.bool s2) ∧ w'.cell? ⟨w.heap.size + 1, 1, none⟩ = some (.slice a2 l2 c2)) (first | (with_reducible exact ⟨o1.cell 0 _ rfl, o1.cell 1 _ rfl, o2.cell 0 _ rfl, o2.cell 1 _ rfl⟩) | (simp [go_sem, qo10, qo11, qo20, qo21, lto1, lto2]; done))
        (first
          | (go_at_call 156; have _t := tok1; refine (rsigned_spec _ _ (a.natAbs / g) _ hq1).mono ?_; rintro e W51 ⟨u1, rfl, hu1, hb1⟩; have hsW51 : W5.heap.size ≤ W51.heap.size := hb1.size; have hB := hB.trans (hb1.mono hB.size); have o1 := o1.below hb1 o1.lt; have o2 := o2.below hb1 o2.lt; have o3 := o3.below hb1 o3.lt; have lto1 := o1.lt; have lto2 := o2.lt; have lto3 := o3.lt; have qo10 := o1.cell 0 _ rfl; have qo11 := o1.cell 1 _ rfl; have qo20 := o2.cell 0 _ rfl; have qo21 := o2.cell 1 _ rfl; have hq1 := hq1.below hb1 (Nat.le_refl _); have hq2 := hq2.below hb1 (Nat.le_refl _); have hq3 := hq3.below hb1 (Nat.le_refl _); clear tok1 _t)
          | (go_at_call 156; have _t := tok2; refine (rsigned_spec _ _ (b.natAbs / g) _ hq2).mono ?_; rintro e W52 ⟨u2, rfl, hu2, hb2⟩; have hsW52 : W51.heap.size ≤ W52.heap.size := hb2.size; have hB := hB.trans (hb2.mono hB.size); have o1 := o1.below hb2 o1.lt; have o2 := o2.below hb2 o2.lt; have o3 := o3.below hb2 o3.lt; have lto1 := o1.lt; have lto2 := o2.lt; have lto3 := o3.lt; have qo10 := o1.cell 0 _ rfl; have qo11 := o1.cell 1 _ rfl; have qo20 := o2.cell 0 _ rfl; have qo21 := o2.cell 1 _ rfl; have hq1 := hq1.below hb2 (Nat.le_refl _); have hq2 := hq2.below hb2 (Nat.le_refl _); have hq3 := hq3.below hb2 (Nat.le_refl _); have hu1 := hu1.below hb2 (Nat.le_refl _); rw [Ea.out] at hu1; rw [Eb.out] at hu2; obtain ⟨t1, e1, e2, e3, rfl, _, _⟩ := hu1.open; obtain ⟨t2, f1, f2, f3, rfl, _, _⟩ := hu2.open; have fo3 := o3.free; have co30 := o3.cell 0 _ rfl; have co31 := o3.cell 1 _ rfl; have co32 := o3.cell 2 _ rfl; have co33 := o3.cell 3 _ rfl; have co34 := o3.cell 4 _ rfl; clear tok2 _t))
      go_wp2_with fail
      refine bodyPost_ret (by simp [results, Tryz.results99, go_sem, co30, co31, co32, co33, co34]) rfl (q_end (q_mk hd HG.out hu1 hu2 hq3) o3 hB (by omega) rfl)
end Go.Proofs.YtfkogkcpndaoeaaGreat
