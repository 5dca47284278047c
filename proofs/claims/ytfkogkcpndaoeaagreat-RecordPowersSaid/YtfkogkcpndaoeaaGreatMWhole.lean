/- Greatest common divisors, and integers with a sign. Conditions: fewer than 2^43 bits. Plain facts on complex numbers whose parts are fractions. Conditions: none. -/
import Derived.Test.YtfkogkcpndaoeaaGreatMNatG
import Derived.Deep.RegionHeld3
set_option linter.all false
namespace Go.Proofs.YtfkogkcpndaoeaaGreat
open Go.RowKit
theorem NatRep.any {w : World} {v : Value} {n : Nat} (h : NatRep w v n) : ∃ (a : Option Addr) (len cap : Nat), v = .slice a len cap ∧ (len = 0 ↔ n = 0) ∧ len ≤ cap ∧ cap ≤ 9223372036854775807 := by
  obtain ⟨xs, h1, h2, rfl⟩ := h
  obtain ⟨a, lx, cx, rfl, Hlx, hlcx, hmx, _, _⟩ := h1.any
  refine ⟨a, lx, cx, rfl, ⟨fun h => ?_, fun h => ?_⟩, hlcx, hmx⟩
  · subst h; rw [List.eq_nil_of_length_eq_zero Hlx.out]; rfl
  · have := nval_zero h2 h
    rw [← Hlx.out, this]; rfl
theorem NatRep.zero {w : World} : NatRep w (.slice none 0 0) 0 := ⟨[], Us.nil, Norm.nil, rfl⟩
set_option maxHeartbeats 400000 in
theorem gcd_spec (v u : Value) (n m k : Nat) (w : World) (h : NatRep w v n) (h' : NatRep w u m) (hn : n < 2 ^ k) (hm : m < 2 ^ k) (hk : k ≤ 8796093022208) :
    Calls Tryz.prog 141 #[v, u] w (Ret w fun w' v' => NatRep w' v' (Nat.gcd n m)) := by
  have Hn := Lib.hid hn
  have Hm := Lib.hid hm
  clear hn hm
  go_enter Tryz.func141, Tryz.ntmps141
  go_wp2_with fail
  go_loopg [0, 1] m (fun g s0 s1 wr => ∃ n' : Nat, NatRep wr s0 n' ∧ NatRep wr s1 g ∧ Hid (n' < 2 ^ k) ∧ Hid (g < 2 ^ k) ∧ Hid (Nat.gcd n' g = Nat.gcd n m) ∧ Below w.heap.size w wr)
  case atStart => exact ⟨n, h, h', Hn, Hm, rfl, Below.refl _ _⟩
  case round =>
    obtain ⟨n', r1, r2, Hn', Hg', He, hb⟩ := hrel
    obtain ⟨a, len, cap, rfl, hlen, hcap, hmax⟩ := r2.any
    by_cases h0 : gk = 0
    · obtain rfl : len = 0 := hlen.2 h0
      subst h0
      go_wp2_with fail
      go_ret
      refine ⟨_, rfl, ?_, hb⟩
      have e := He.out
      rw [Nat.gcd_zero_right] at e
      rw [← e]; exact r1
    · have hl0 : 0 < len := by
        rcases Nat.eq_zero_or_pos len with h | h
        · exact absurd (hlen.1 h) h0
        · exact h
      go_wp2_with fail
      refine (div_spec _ _ n' gk k wr r1 r2 (by omega) Hn'.out hk).mono ?_
      rintro e w' ⟨_, rfl, ⟨q, r, rfl, hq, hr⟩, hb2⟩
      have r3 := r2.below hb2 (Nat.le_refl _)
      have hlt : n' % gk < gk := Nat.mod_lt _ (by omega)
      go_wp2_with fail
      go_roundg (n' % gk)
      case measure => exact hlt
      case rel =>
        refine ⟨gk, r3, hr, Hg', show _ < _ from Nat.lt_trans hlt Hg'.out, show _ = _ from ?_, hb.trans (hb2.mono hb.size)⟩
        rw [← He.out, Nat.gcd_comm n' gk, Nat.gcd_rec gk n', Nat.gcd_comm]
def sgn (neg : Bool) (n : Nat) : Int := if neg then -(n : Int) else n
def WholeRep (w : World) (v : Value) (z : Int) : Prop := ∃ m, v = .agg #[.bool (decide (z < 0)), m] ∧ NatRep w m z.natAbs
theorem WholeRep.below {B : Nat} {w w' : World} {v : Value} {z : Int} (h : WholeRep w v z) (hb : Below B w w') (hB : w.heap.size ≤ B) : WholeRep w' v z := by
  obtain ⟨m, h1, h2⟩ := h
  exact ⟨m, h1, h2.below hb hB⟩
theorem sgn_abs (neg : Bool) (n : Nat) : (sgn neg n).natAbs = n := by cases neg <;> simp [sgn]
theorem sgn_neg (neg : Bool) (n : Nat) : decide (sgn neg n < 0) = (neg && decide (0 < n)) := by cases neg <;> simp [sgn] <;> omega
theorem whole_mk {w : World} {m : Value} {b neg : Bool} {n : Nat} (h : NatRep w m n) (hb : b = (neg && decide (0 < n))) : WholeRep w (.agg #[.bool b, m]) (sgn neg n) :=
  ⟨m, by rw [sgn_neg, hb], by rw [sgn_abs]; exact h⟩
set_option maxHeartbeats 400000 in
theorem wholeOf_spec (neg : Bool) (v : Value) (n : Nat) (w : World) (h : NatRep w v n) :
    Calls Tryz.prog 140 #[.bool neg, v] w (Ret w fun w' v' => WholeRep w' v' (sgn neg n)) := by
  obtain ⟨a, len, cap, rfl, hlen, hcap, hmax⟩ := h.any
  cases neg
  · go_enter Tryz.func140, Tryz.ntmps140
    go_wp2
    refine bodyPost_ret (v := .agg #[.bool false, .slice a len cap]) (by simp [results, Tryz.results140, go_sem]) rfl ⟨_, rfl, ?_, (Below.refl _ _).alloc (Nat.le_refl _) _⟩
    exact whole_mk (h.below ((Below.refl _ _).alloc (Nat.le_refl _) _) (Nat.le_refl _)) rfl
  · by_cases h0 : n = 0
    · obtain rfl : len = 0 := hlen.2 h0
      subst h0
      go_enter Tryz.func140, Tryz.ntmps140
      go_wp2
      refine bodyPost_ret (v := .agg #[.bool false, .slice a 0 cap]) (by simp [results, Tryz.results140, go_sem]) rfl ⟨_, rfl, ?_, (Below.refl _ _).alloc (Nat.le_refl _) _⟩
      exact whole_mk (h.below ((Below.refl _ _).alloc (Nat.le_refl _) _) (Nat.le_refl _)) rfl
    · have hl0 : 0 < len := by
        rcases Nat.eq_zero_or_pos len with h | h
        · exact absurd (hlen.1 h) h0
        · exact h
      go_enter Tryz.func140, Tryz.ntmps140
      go_wp2
      refine bodyPost_ret (v := .agg #[.bool true, .slice a len cap]) (by simp [results, Tryz.results140, go_sem]) rfl ⟨_, rfl, ?_, (Below.refl _ _).alloc (Nat.le_refl _) _⟩
      exact whole_mk (h.below ((Below.refl _ _).alloc (Nat.le_refl _) _) (Nat.le_refl _)) (by simp; omega)
theorem sgn_minus (z : Int) : sgn (!decide (z < 0)) z.natAbs = -z := by unfold sgn; by_cases h : z < 0 <;> simp [h] <;> omega
theorem sgn_self (z : Int) : sgn (decide (z < 0)) z.natAbs = z := by unfold sgn; by_cases h : z < 0 <;> simp [h] <;> omega
theorem sgn_mul (z y : Int) : sgn (!(decide (z < 0) == decide (y < 0))) (z.natAbs * y.natAbs) = z * y := by
  unfold sgn
  rw [Int.natCast_mul]
  by_cases h : z < 0 <;> by_cases h' : y < 0 <;> simp [h, h']
  · rw [Int.ofNat_natAbs_of_nonpos (by omega), Int.ofNat_natAbs_of_nonpos (by omega), Int.neg_mul_neg]
  · rw [Int.ofNat_natAbs_of_nonpos (by omega), Int.natAbs_of_nonneg (by omega), Int.neg_mul, Int.neg_neg]
  · rw [Int.ofNat_natAbs_of_nonpos (by omega : y ≤ 0), Int.natAbs_of_nonneg (by omega), Int.mul_neg, Int.neg_neg]
  · rw [Int.natAbs_of_nonneg (by omega), Int.natAbs_of_nonneg (by omega)]
theorem sgn_scale (z : Int) (m : Nat) : sgn (decide (z < 0)) (z.natAbs * m) = z * m := by
  unfold sgn
  rw [Int.natCast_mul]
  by_cases h : z < 0 <;> simp [h]
  · rw [Int.ofNat_natAbs_of_nonpos (by omega), Int.neg_mul, Int.neg_neg]
  · rw [Int.natAbs_of_nonneg (by omega)]
set_option maxHeartbeats 400000 in
theorem minus_spec (v : Value) (z : Int) (w : World) (h : WholeRep w v z) :
    Calls Tryz.prog 90 #[v] w (Ret w fun w' v' => WholeRep w' v' (-z)) := by
  obtain ⟨m, rfl, hm⟩ := h
  go_enter Tryz.func90, Tryz.ntmps90
  go_wp2_with fail
  refine (wholeOf_spec _ m z.natAbs _ (hm.below (((Below.refl _ _).alloc (Nat.le_refl _) _).alloc (by simp) _) (Nat.le_refl _))).mono ?_
  rintro e w' ⟨_, rfl, ⟨m', rfl, hm'⟩, hb⟩
  obtain ⟨a', l', c', rfl, _, _, _⟩ := hm'.any
  have o2 : Own w' 38 (w.heap.size + 1) [.bool false, .slice none 0 0] := (own_at (w.alloc (.cells #[.bool (decide (z < 0)), m] 38)) _ _ (by simp)).below hb (by simp)
  have c0 := o2.cell 0 _ rfl
  have c1 := o2.cell 1 _ rfl
  have f0 := o2.free 0
  have f1 := o2.free 1
  go_wp2_with fail
  refine bodyPost_ret (v := .agg #[.bool (decide (sgn (!decide (z < 0)) z.natAbs < 0)), .slice a' l' c']) (by simp [results, Tryz.results90, go_sem, c0, c1]) rfl ⟨_, rfl, ?_, ?_⟩
  · rw [sgn_minus] at hm' ⊢
    exact ⟨_, rfl, (hm'.put o2 rfl 0 _).put (o2.set 0 _) rfl 1 _⟩
  · have h1 := ((Below.refl w.heap.size w).alloc (Nat.le_refl _) (.cells #[.bool (decide (z < 0)), m] 38)).alloc (by simp) (.cells #[.bool false, .slice none 0 0] 38)
    exact ((h1.trans (hb.mono h1.size)).setCell (by simp) _).setCell (by simp) _
theorem whole_ret {w : World} {E : TypeId} {g l c l0 c0 : Nat} {zz z : Int} {a a0 : Option Addr} {b0 : Bool} (hm : NatRep w (.slice a l c) zz.natAbs) (o : Own w E g [.bool b0, .slice a0 l0 c0]) (e : zz = z) :
    WholeRep ((w.setCell ⟨g, 0, none⟩ (.bool (decide (zz < 0)))).setCell ⟨g, 1, none⟩ (.slice a l c)) (.agg #[.bool (decide (zz < 0)), .slice a l c]) z := by
  subst e
  exact ⟨_, rfl, (hm.put o rfl 0 _).put (o.set 0 _) rfl 1 _⟩
set_option maxRecDepth 100000 in
set_option maxHeartbeats 400000 in
theorem times_spec (v u : Value) (z y : Int) (k : Nat) (w : World) (h : WholeRep w v z) (h' : WholeRep w u y) (hn : z.natAbs < 2 ^ k) (hm : y.natAbs < 2 ^ k) (hk : k ≤ 8796093022208) :
    Calls Tryz.prog 136 #[v, u] w (Ret w fun w' v' => WholeRep w' v' (z * y)) := by
  obtain ⟨m, rfl, hm1⟩ := h
  obtain ⟨m2, rfl, hm2⟩ := h'
  obtain ⟨a1, l1, c1, rfl, _, _, _⟩ := hm1.any
  obtain ⟨a2, l2, c2, rfl, _, _, _⟩ := hm2.any
  generalize hz : decide (z < 0) = s1
  generalize hy : decide (y < 0) = s2
  have Hz := Lib.hid hz
  have Hy := Lib.hid hy
  clear hz hy
  go_enter Tryz.func136, Tryz.ntmps136
  go_wp2_with fail
  obtain ⟨W, hW, o1, o2, o3, hB, hS⟩ := boxes3 w 38 38 38 [.bool s1, .slice a1 l1 c1] [.bool s2, .slice a2 l2 c2] [.bool false, .slice none 0 0]
  rw [← hW]
  clear hW
  have o1 : Own W.drew _ _ _ := o1; have o2 : Own W.drew _ _ _ := o2; have o3 : Own W.drew _ _ _ := o3; have hB := hB.drew
  go_region_held3 (fun w' => w'.cell? ⟨w.heap.size, 0, none⟩ = some (.bool s1) ∧ w'.cell? ⟨w.heap.size, 1, none⟩ = some (.slice a1 l1 c1) ∧ w'.cell? ⟨w.heap.size + 1, 0, none⟩ = some (.bool s2) ∧ w'.cell? ⟨w.heap.size + 1, 1, none⟩ = some (.slice a2 l2 c2)) (first | (with_reducible exact ⟨o1.cell 0 _ rfl, o1.cell 1 _ rfl, o2.cell 0 _ rfl, o2.cell 1 _ rfl⟩) | (simp [go_sem, o1.cell 0 _ rfl, o1.cell 1 _ rfl, o2.cell 0 _ rfl, o2.cell 1 _ rfl]; done) | exact ⟨o1.cell 0 _ rfl, o1.cell 1 _ rfl, o2.cell 0 _ rfl, o2.cell 1 _ rfl⟩)
    (first
      | (go_at_call 138; refine (mul_spec _ _ z.natAbs y.natAbs k _ (hm1.below hB (Nat.le_refl _)) (hm2.below hB (Nat.le_refl _)) hn hm (by omega)).mono ?_; rintro e W1 ⟨v', rfl, hv', hb1⟩; have hsW1 : W.heap.size ≤ W1.heap.size := hb1.size; have hB := hB.trans (hb1.mono hB.size); have o1 := o1.below hb1 (show _ < W.heap.size by first | omega | (simp; omega)); have o2 := o2.below hb1 (show _ < W.heap.size by first | omega | (simp; omega)); have o3 := o3.below hb1 (show _ < W.heap.size by first | omega | (simp; omega)))
      | (go_at_call 140; refine (wholeOf_spec _ _ (z.natAbs * y.natAbs) _ hv').mono ?_; rintro e W2 ⟨_, rfl, ⟨m', rfl, hm'⟩, hb2⟩; obtain ⟨a', l', c', rfl, _, _, _⟩ := hm'.any; have hsW2 : W1.heap.size ≤ W2.heap.size := hb2.size; have hB := hB.trans (hb2.mono hB.size); have o1 := o1.below hb2 (show _ < W1.heap.size by first | omega | (simp; omega)); have o2 := o2.below hb2 (show _ < W1.heap.size by first | omega | (simp; omega)); have o3 := o3.below hb2 (show _ < W1.heap.size by first | omega | (simp; omega)); have fo3 := o3.free; have co30 := o3.cell 0 _ rfl; have co31 := o3.cell 1 _ rfl))
  go_wp2_with fail
  refine bodyPost_ret (v := .agg #[.bool (decide (sgn (!s1 == s2) (z.natAbs * y.natAbs) < 0)), .slice a' l' c']) (by simp [results, Tryz.results136, go_sem, co30, co31]) rfl ⟨_, rfl, whole_ret hm' o3 (by rw [← Hz.out, ← Hy.out, sgn_mul]), (hB.setCell (show _ ≤ _ + 1 + 1 by omega) _).setCell (show _ ≤ _ + 1 + 1 by omega) _⟩
set_option maxRecDepth 100000 in
set_option maxHeartbeats 400000 in
theorem scaled_spec (v u : Value) (z : Int) (m k : Nat) (w : World) (h : WholeRep w v z) (h' : NatRep w u m) (hn : z.natAbs < 2 ^ k) (hm : m < 2 ^ k) (hk : k ≤ 8796093022208) :
    Calls Tryz.prog 104 #[v, u] w (Ret w fun w' v' => WholeRep w' v' (z * m)) := by
  obtain ⟨m1, rfl, hm1⟩ := h
  obtain ⟨a1, l1, c1, rfl, _, _, _⟩ := hm1.any
  obtain ⟨a2, l2, c2, rfl, _, _, _⟩ := h'.any
  generalize hz : decide (z < 0) = s1
  have Hz := Lib.hid hz
  clear hz
  go_enter Tryz.func104, Tryz.ntmps104
  go_wp2_with fail
  obtain ⟨W, hW, o1, o3, hB, hS⟩ := boxes2 w 38 38 [.bool s1, .slice a1 l1 c1] [.bool false, .slice none 0 0]
  rw [← hW]
  clear hW
  have o1 : Own W.drew _ _ _ := o1; have o3 : Own W.drew _ _ _ := o3; have hB := hB.drew
  go_region_held3 (fun w' => w'.cell? ⟨w.heap.size, 0, none⟩ = some (.bool s1) ∧ w'.cell? ⟨w.heap.size, 1, none⟩ = some (.slice a1 l1 c1)) (first | (with_reducible exact ⟨o1.cell 0 _ rfl, o1.cell 1 _ rfl⟩) | (simp [go_sem, o1.cell 0 _ rfl, o1.cell 1 _ rfl]; done) | exact ⟨o1.cell 0 _ rfl, o1.cell 1 _ rfl⟩)
    (first
      | (go_at_call 138; refine (mul_spec _ _ z.natAbs m k _ (hm1.below hB (Nat.le_refl _)) (h'.below hB (Nat.le_refl _)) hn hm (by omega)).mono ?_; rintro e W1 ⟨v', rfl, hv', hb1⟩; have hsW1 : W.heap.size ≤ W1.heap.size := hb1.size; have hB := hB.trans (hb1.mono hB.size); have o1 := o1.below hb1 (show _ < W.heap.size by first | omega | (simp; omega)); have o3 := o3.below hb1 (show _ < W.heap.size by first | omega | (simp; omega)))
      | (go_at_call 140; refine (wholeOf_spec _ _ (z.natAbs * m) _ hv').mono ?_; rintro e W2 ⟨_, rfl, ⟨m', rfl, hm'⟩, hb2⟩; obtain ⟨a', l', c', rfl, _, _, _⟩ := hm'.any; have hsW2 : W1.heap.size ≤ W2.heap.size := hb2.size; have hB := hB.trans (hb2.mono hB.size); have o1 := o1.below hb2 (show _ < W1.heap.size by first | omega | (simp; omega)); have o3 := o3.below hb2 (show _ < W1.heap.size by first | omega | (simp; omega)); have fo3 := o3.free; have co30 := o3.cell 0 _ rfl; have co31 := o3.cell 1 _ rfl))
  go_wp2_with fail
  refine bodyPost_ret (v := .agg #[.bool (decide (sgn s1 (z.natAbs * m) < 0)), .slice a' l' c']) (by simp [results, Tryz.results104, go_sem, co30, co31]) rfl ⟨_, rfl, whole_ret hm' o3 (by rw [← Hz.out, sgn_scale]), (hB.setCell (show _ ≤ _ + 1 by omega) _).setCell (show _ ≤ _ + 1 by omega) _⟩
theorem sgn_plus (z y : Int) (h : decide (z < 0) = decide (y < 0)) : sgn (decide (z < 0)) (z.natAbs + y.natAbs) = z + y := by
  rw [decide_eq_decide] at h
  unfold sgn; by_cases h' : z < 0 <;> simp [h'] <;> omega
theorem sgn_minus1 (z y : Int) (h : ¬ decide (z < 0) = decide (y < 0)) (hl : y.natAbs ≤ z.natAbs) : sgn (decide (z < 0)) (z.natAbs - y.natAbs) = z + y := by
  rw [decide_eq_decide] at h
  unfold sgn; by_cases h' : z < 0 <;> simp [h'] <;> omega
theorem sgn_minus2 (z y : Int) (h : ¬ decide (z < 0) = decide (y < 0)) (hl : ¬ y.natAbs ≤ z.natAbs) : sgn (decide (y < 0)) (y.natAbs - z.natAbs) = z + y := by
  rw [decide_eq_decide] at h
  unfold sgn; by_cases h' : y < 0 <;> simp [h'] <;> omega
theorem cmpZ_nonneg {n m : Nat} (h : m ≤ n) : 0 ≤ cmpZ n m := by unfold cmpZ; rw [if_neg (by omega)]; split <;> omega
theorem cmpZ_negative {n m : Nat} (h : ¬ m ≤ n) : cmpZ n m < 0 := by unfold cmpZ; rw [if_pos (by omega)]; omega
set_option maxRecDepth 100000 in
set_option maxHeartbeats 800000 in
theorem plus_spec (v u : Value) (z y : Int) (k : Nat) (w : World) (h : WholeRep w v z) (h' : WholeRep w u y) (hn : z.natAbs < 2 ^ k) (hm : y.natAbs < 2 ^ k) (hk : k ≤ 8796093022208) :
    Calls Tryz.prog 137 #[v, u] w (Ret w fun w' v' => WholeRep w' v' (z + y)) := by
  obtain ⟨m, rfl, hm1⟩ := h
  obtain ⟨m2, rfl, hm2⟩ := h'
  obtain ⟨a1, l1, c1, rfl, _, _, _⟩ := hm1.any
  obtain ⟨a2, l2, c2, rfl, _, _, _⟩ := hm2.any
  have g1 := sgn_plus z y
  have g2 := sgn_minus1 z y
  have g3 := sgn_minus2 z y
  generalize hz : decide (z < 0) = s1 at *
  generalize hy : decide (y < 0) = s2 at *
  have G1 := Lib.hid g1
  have G2 := Lib.hid g2
  have G3 := Lib.hid g3
  clear hz hy g1 g2 g3
  go_enter Tryz.func137, Tryz.ntmps137
  go_upto_region 1 with (fail)
  obtain ⟨W, hW, o1, o2, o3, hB, hS⟩ := boxes3 w 38 38 38 [.bool s1, .slice a1 l1 c1] [.bool s2, .slice a2 l2 c2] [.bool false, .slice none 0 0]
  rw [← hW]
  clear hW
  have h10 := o1.cell 0 _ rfl
  have h11 := o1.cell 1 _ rfl
  have h20 := o2.cell 0 _ rfl
  have h21 := o2.cell 1 _ rfl
  by_cases hs : s1 = s2
  · have he : (s1 == s2) = true := by simp [hs]
    have HE := Lib.hid (G1.out hs)
    clear hs
    go_wp2_with fail
    have o1 : Own W.drew _ _ _ := o1; have o2 : Own W.drew _ _ _ := o2; have o3 : Own W.drew _ _ _ := o3; have hB := hB.drew
    clear h10 h11 h20 h21
    go_region_held3 (fun w' => w'.cell? ⟨w.heap.size, 0, none⟩ = some (.bool s1) ∧ w'.cell? ⟨w.heap.size, 1, none⟩ = some (.slice a1 l1 c1) ∧ w'.cell? ⟨w.heap.size + 1, 0, none⟩ = some (.bool s2) ∧ w'.cell? ⟨w.heap.size + 1, 1, none⟩ = some (.slice a2 l2 c2)) (first | (with_reducible exact ⟨o1.cell 0 _ rfl, o1.cell 1 _ rfl, o2.cell 0 _ rfl, o2.cell 1 _ rfl⟩) | (simp [go_sem, o1.cell 0 _ rfl, o1.cell 1 _ rfl, o2.cell 0 _ rfl, o2.cell 1 _ rfl]; done) | exact ⟨o1.cell 0 _ rfl, o1.cell 1 _ rfl, o2.cell 0 _ rfl, o2.cell 1 _ rfl⟩)
      (first
        | (go_at_call 178; refine (add_spec _ _ z.natAbs y.natAbs k _ (hm1.below hB (Nat.le_refl _)) (hm2.below hB (Nat.le_refl _)) hn hm (by omega)).mono ?_; rintro e W1 ⟨v', rfl, hv', hb1⟩; have hsW1 : W.heap.size ≤ W1.heap.size := hb1.size; have hB := hB.trans (hb1.mono hB.size); have o1 := o1.below hb1 (show _ < W.heap.size by first | omega | (simp; omega)); have o2 := o2.below hb1 (show _ < W.heap.size by first | omega | (simp; omega)); have o3 := o3.below hb1 (show _ < W.heap.size by first | omega | (simp; omega)))
        | (go_at_call 140; refine (wholeOf_spec _ _ (z.natAbs + y.natAbs) _ hv').mono ?_; rintro e W2 ⟨_, rfl, ⟨m', rfl, hm'⟩, hb2⟩; obtain ⟨a', l', c', rfl, _, _, _⟩ := hm'.any; have hsW2 : W1.heap.size ≤ W2.heap.size := hb2.size; have hB := hB.trans (hb2.mono hB.size); have o1 := o1.below hb2 (show _ < W1.heap.size by first | omega | (simp; omega)); have o2 := o2.below hb2 (show _ < W1.heap.size by first | omega | (simp; omega)); have o3 := o3.below hb2 (show _ < W1.heap.size by first | omega | (simp; omega)); have fo3 := o3.free; have co30 := o3.cell 0 _ rfl; have co31 := o3.cell 1 _ rfl))
    go_wp2_with fail
    refine bodyPost_ret (v := .agg #[.bool (decide (sgn s1 (z.natAbs + y.natAbs) < 0)), .slice a' l' c']) (by simp [results, Tryz.results137, go_sem, co30, co31]) rfl ⟨_, rfl, whole_ret hm' o3 HE.out, (hB.setCell (show _ ≤ _ + 1 + 1 by omega) _).setCell (show _ ≤ _ + 1 + 1 by omega) _⟩
  · have he : (s1 == s2) = false := by simp [hs]
    have HS := Lib.hid hs
    clear hs
    go_wp2_with fail
    refine (cmp_spec _ _ z.natAbs y.natAbs W (hm1.below hB (Nat.le_refl _)) (hm2.below hB (Nat.le_refl _))).mono ?_
    rintro e V ⟨_, rfl, rfl, hb0⟩
    have hsV : W.heap.size ≤ V.heap.size := hb0.size; have hB := hB.trans (hb0.mono hB.size); have o1 := o1.below hb0 (show _ < W.heap.size by first | omega | (simp; omega)); have o2 := o2.below hb0 (show _ < W.heap.size by first | omega | (simp; omega)); have o3 := o3.below hb0 (show _ < W.heap.size by first | omega | (simp; omega))
    clear h10 h11 h20 h21
    by_cases hle : y.natAbs ≤ z.natAbs
    · have hc := cmpZ_nonneg hle
      have HE := Lib.hid (G2.out HS.out hle)
      generalize cmpZ z.natAbs y.natAbs = cc at *
      have HLE := Lib.hid hle
      clear hle
      go_wp2_with fail
      have o1 : Own V.drew _ _ _ := o1; have o2 : Own V.drew _ _ _ := o2; have o3 : Own V.drew _ _ _ := o3; have hB := hB.drew
      go_region_held3 (fun w' => w'.cell? ⟨w.heap.size, 0, none⟩ = some (.bool s1) ∧ w'.cell? ⟨w.heap.size, 1, none⟩ = some (.slice a1 l1 c1) ∧ w'.cell? ⟨w.heap.size + 1, 0, none⟩ = some (.bool s2) ∧ w'.cell? ⟨w.heap.size + 1, 1, none⟩ = some (.slice a2 l2 c2)) (first | (with_reducible exact ⟨o1.cell 0 _ rfl, o1.cell 1 _ rfl, o2.cell 0 _ rfl, o2.cell 1 _ rfl⟩) | (simp [go_sem, o1.cell 0 _ rfl, o1.cell 1 _ rfl, o2.cell 0 _ rfl, o2.cell 1 _ rfl]; done) | exact ⟨o1.cell 0 _ rfl, o1.cell 1 _ rfl, o2.cell 0 _ rfl, o2.cell 1 _ rfl⟩)
        (first
          | (go_at_call 179; refine (sub_spec _ _ z.natAbs y.natAbs k _ (hm1.below hB (Nat.le_refl _)) (hm2.below hB (Nat.le_refl _)) hn HLE.out (by omega)).mono ?_; rintro e W1 ⟨v', rfl, hv', hb1⟩; have hsW1 : V.heap.size ≤ W1.heap.size := hb1.size; have hB := hB.trans (hb1.mono hB.size); have o1 := o1.below hb1 (show _ < V.heap.size by first | omega | (simp; omega)); have o2 := o2.below hb1 (show _ < V.heap.size by first | omega | (simp; omega)); have o3 := o3.below hb1 (show _ < V.heap.size by first | omega | (simp; omega)))
          | (go_at_call 140; refine (wholeOf_spec _ _ (z.natAbs - y.natAbs) _ hv').mono ?_; rintro e W2 ⟨_, rfl, ⟨m', rfl, hm'⟩, hb2⟩; obtain ⟨a', l', c', rfl, _, _, _⟩ := hm'.any; have hsW2 : W1.heap.size ≤ W2.heap.size := hb2.size; have hB := hB.trans (hb2.mono hB.size); have o1 := o1.below hb2 (show _ < W1.heap.size by first | omega | (simp; omega)); have o2 := o2.below hb2 (show _ < W1.heap.size by first | omega | (simp; omega)); have o3 := o3.below hb2 (show _ < W1.heap.size by first | omega | (simp; omega)); have fo3 := o3.free; have co30 := o3.cell 0 _ rfl; have co31 := o3.cell 1 _ rfl))
      go_wp2_with fail
      refine bodyPost_ret (v := .agg #[.bool (decide (sgn s1 (z.natAbs - y.natAbs) < 0)), .slice a' l' c']) (by simp [results, Tryz.results137, go_sem, co30, co31]) rfl ⟨_, rfl, whole_ret hm' o3 HE.out, (hB.setCell (show _ ≤ _ + 1 + 1 by omega) _).setCell (show _ ≤ _ + 1 + 1 by omega) _⟩
    · have hc := cmpZ_negative hle
      have HE := Lib.hid (G3.out HS.out hle)
      generalize cmpZ z.natAbs y.natAbs = cc at *
      have HLE : Hid (z.natAbs ≤ y.natAbs) := show _ ≤ _ by omega
      clear hle
      go_wp2_with fail
      have o1 : Own V.drew _ _ _ := o1; have o2 : Own V.drew _ _ _ := o2; have o3 : Own V.drew _ _ _ := o3; have hB := hB.drew
      go_region_held3 (fun w' => w'.cell? ⟨w.heap.size, 0, none⟩ = some (.bool s1) ∧ w'.cell? ⟨w.heap.size, 1, none⟩ = some (.slice a1 l1 c1) ∧ w'.cell? ⟨w.heap.size + 1, 0, none⟩ = some (.bool s2) ∧ w'.cell? ⟨w.heap.size + 1, 1, none⟩ = some (.slice a2 l2 c2)) (first | (with_reducible exact ⟨o1.cell 0 _ rfl, o1.cell 1 _ rfl, o2.cell 0 _ rfl, o2.cell 1 _ rfl⟩) | (simp [go_sem, o1.cell 0 _ rfl, o1.cell 1 _ rfl, o2.cell 0 _ rfl, o2.cell 1 _ rfl]; done) | exact ⟨o1.cell 0 _ rfl, o1.cell 1 _ rfl, o2.cell 0 _ rfl, o2.cell 1 _ rfl⟩)
        (first
          | (go_at_call 179; refine (sub_spec _ _ y.natAbs z.natAbs k _ (hm2.below hB (Nat.le_refl _)) (hm1.below hB (Nat.le_refl _)) hm HLE.out (by omega)).mono ?_; rintro e W1 ⟨v', rfl, hv', hb1⟩; have hsW1 : V.heap.size ≤ W1.heap.size := hb1.size; have hB := hB.trans (hb1.mono hB.size); have o1 := o1.below hb1 (show _ < V.heap.size by first | omega | (simp; omega)); have o2 := o2.below hb1 (show _ < V.heap.size by first | omega | (simp; omega)); have o3 := o3.below hb1 (show _ < V.heap.size by first | omega | (simp; omega)))
          | (go_at_call 140; refine (wholeOf_spec _ _ (y.natAbs - z.natAbs) _ hv').mono ?_; rintro e W2 ⟨_, rfl, ⟨m', rfl, hm'⟩, hb2⟩; obtain ⟨a', l', c', rfl, _, _, _⟩ := hm'.any; have hsW2 : W1.heap.size ≤ W2.heap.size := hb2.size; have hB := hB.trans (hb2.mono hB.size); have o1 := o1.below hb2 (show _ < W1.heap.size by first | omega | (simp; omega)); have o2 := o2.below hb2 (show _ < W1.heap.size by first | omega | (simp; omega)); have o3 := o3.below hb2 (show _ < W1.heap.size by first | omega | (simp; omega)); have fo3 := o3.free; have co30 := o3.cell 0 _ rfl; have co31 := o3.cell 1 _ rfl))
      go_wp2_with fail
      refine bodyPost_ret (v := .agg #[.bool (decide (sgn s2 (y.natAbs - z.natAbs) < 0)), .slice a' l' c']) (by simp [results, Tryz.results137, go_sem, co30, co31]) rfl ⟨_, rfl, whole_ret hm' o3 HE.out, (hB.setCell (show _ ≤ _ + 1 + 1 by omega) _).setCell (show _ ≤ _ + 1 + 1 by omega) _⟩
set_option maxHeartbeats 400000 in
theorem of64_spec (z : Int) (w : World) (h1 : -9223372036854775808 ≤ z) (h2 : z ≤ 9223372036854775807) :
    Calls Tryz.prog 76 #[.int .i64 z] w (Ret w fun w' v' => WholeRep w' v' z ∧ z.natAbs < 2 ^ 64) := by
  by_cases hz : z < 0
  · obtain ⟨n, rfl⟩ : ∃ n : Nat, z = -(n : Int) := ⟨z.natAbs, by omega⟩
    have hn0 : 0 < n := by omega
    have e1 : IntKind.u64.wrap (-(n : Int)) = 18446744073709551616 - (n : Int) := by rw [IntKind.wrap_u64]; omega
    have e2 : IntKind.u64.wrap (-(18446744073709551616 - (n : Int))) = (n : Int) := by rw [IntKind.wrap_u64]; omega
    go_enter Tryz.func76, Tryz.ntmps76
    go_wp2_with fail
    obtain ⟨W, hW, o1, hB, hS⟩ := boxes1 w 38 [.bool false, .slice none 0 0]
    rw [← hW]
    clear hW
    refine (natOf_spec n W (by omega)).mono ?_
    rintro e W1 ⟨v1, rfl, hv1, hb1⟩
    obtain ⟨a', l', c', rfl, _, _, _⟩ := hv1.any
    have hsW1 : W.heap.size ≤ W1.heap.size := hb1.size; have hB := hB.trans (hb1.mono hB.size); have o1 := o1.below hb1 o1.lt; have fo1 := o1.free; have co10 := o1.cell 0 _ rfl; have co11 := o1.cell 1 _ rfl
    go_wp2_with fail
    refine bodyPost_ret (v := .agg #[.bool true, .slice a' l' c']) (by simp [results, Tryz.results76, go_sem, co10, co11]) rfl ⟨_, rfl, ⟨⟨.slice a' l' c', ?_, ?_⟩, by omega⟩, (hB.setCell (Nat.le_refl _) _).setCell (Nat.le_refl _) _⟩
    · rw [decide_eq_true (by omega)]
    · have := (hv1.put o1 rfl 0 (.bool true)).put (o1.set 0 _) rfl 1 (.slice a' l' c')
      rw [show (-(n : Int)).natAbs = n from by omega]
      exact this
  · obtain ⟨n, rfl⟩ : ∃ n : Nat, z = (n : Int) := ⟨z.toNat, by omega⟩
    go_enter Tryz.func76, Tryz.ntmps76
    go_wp2_with fail
    obtain ⟨W, hW, o1, hB, hS⟩ := boxes1 w 38 [.bool false, .slice none 0 0]
    rw [← hW]
    clear hW
    refine (natOf_spec n W (by omega)).mono ?_
    rintro e W1 ⟨v1, rfl, hv1, hb1⟩
    obtain ⟨a', l', c', rfl, _, _, _⟩ := hv1.any
    have hsW1 : W.heap.size ≤ W1.heap.size := hb1.size; have hB := hB.trans (hb1.mono hB.size); have o1 := o1.below hb1 o1.lt; have fo1 := o1.free; have co10 := o1.cell 0 _ rfl; have co11 := o1.cell 1 _ rfl
    go_wp2_with fail
    refine bodyPost_ret (v := .agg #[.bool false, .slice a' l' c']) (by simp [results, Tryz.results76, go_sem, co10, co11]) rfl ⟨_, rfl, ⟨⟨.slice a' l' c', ?_, ?_⟩, by omega⟩, (hB.setCell (Nat.le_refl _) _).setCell (Nat.le_refl _) _⟩
    · rw [decide_eq_false (by omega)]
    · have := (hv1.put o1 rfl 0 (.bool false)).put (o1.set 0 _) rfl 1 (.slice a' l' c')
      rw [show ((n : Int)).natAbs = n from by omega]
      exact this
def icmp (z y : Int) : Int := if z < y then -1 else if y < z then 1 else 0
set_option maxRecDepth 100000 in
set_option maxHeartbeats 800000 in
theorem wcmp_spec (v u : Value) (z y : Int) (k : Nat) (w : World) (h : WholeRep w v z) (h' : WholeRep w u y) (hn : z.natAbs < 2 ^ k) (hm : y.natAbs < 2 ^ k) (hk : k ≤ 8796093022208) :
    Calls Tryz.prog 105 #[v, u] w (Ret w fun _ v' => v' = .int .i64 (icmp z y)) := by
  obtain ⟨m, rfl, hm1⟩ := h
  obtain ⟨m2, rfl, hm2⟩ := h'
  obtain ⟨a1, l1, c1, rfl, _, _, _⟩ := hm1.any
  obtain ⟨a2, l2, c2, rfl, _, _, _⟩ := hm2.any
  have hw1 : WholeRep w (.agg #[.bool (decide (z < 0)), .slice a1 l1 c1]) z := ⟨_, rfl, hm1⟩
  have hw2 : WholeRep w (.agg #[.bool (decide (y < 0)), .slice a2 l2 c2]) y := ⟨_, rfl, hm2⟩
  generalize decide (z < 0) = s1 at *
  generalize decide (y < 0) = s2 at *
  go_enter Tryz.func105, Tryz.ntmps105
  go_upto_region 1 with (fail)
  obtain ⟨W, hW, o1, o2, hB, hS⟩ := boxes2 w 38 38 [.bool s1, .slice a1 l1 c1] [.bool s2, .slice a2 l2 c2]
  rw [← hW]
  clear hW
  go_cut [5] (fun s5 wx => ∃ (g l c : Nat) (a : Option Addr), s5 = .pointer (some ⟨g, 0, none⟩) ∧ Own wx 38 g [.bool (decide (z + -y < 0)), .slice a l c] ∧ NatRep wx (.slice a l c) (z + -y).natAbs ∧ Below w.heap.size w wx)
  case first =>
    have qo10 := o1.cell 0 _ rfl; have qo11 := o1.cell 1 _ rfl; have qo20 := o2.cell 0 _ rfl; have qo21 := o2.cell 1 _ rfl
    have o1 : Own W.drew _ _ _ := o1; have o2 : Own W.drew _ _ _ := o2; have lto1 : _ < W.heap.size := o1.lt; have lto2 : _ < W.heap.size := o2.lt; have hB := hB.drew
    have hw1 := hw1.below hB (Nat.le_refl _); have hw2 := hw2.below hB (Nat.le_refl _)
    have tok1 : True := trivial
    have tok2 : True := trivial
    go_region_held3 (fun w' => w'.cell? ⟨w.heap.size, 0, none⟩ = some (.bool s1) ∧ w'.cell? ⟨w.heap.size, 1, none⟩ = some (.slice a1 l1 c1) ∧ w'.cell? ⟨w.heap.size + 1, 0, none⟩ = some (.bool s2) ∧ w'.cell? ⟨w.heap.size + 1, 1, none⟩ = some (.slice a2 l2 c2)) (first | (with_reducible exact ⟨o1.cell 0 _ rfl, o1.cell 1 _ rfl, o2.cell 0 _ rfl, o2.cell 1 _ rfl⟩) | (simp [go_sem, qo10, qo11, qo20, qo21, lto1, lto2]; done))
      (first
        | (go_at_call 90; have _t := tok1; refine (minus_spec _ y _ (hw2.below (by first | exact Below.refl _ _ | exact (Below.refl _ _).alloc (Nat.le_refl _) _ | exact ((Below.refl _ _).alloc (Nat.le_refl _) _).alloc (by simp) _) (Nat.le_refl _))).mono ?_; rintro e W1 ⟨v1, rfl, hv1, hb1⟩; (try (have oN := oN.below hb1 oN.lt)); (try (first | have oN := own_behind hb1 | have oN := own_behindD hb1)); have hb1 := ext_step (W := W.drew) (by first | exact Below.refl _ _ | exact (Below.refl _ _).alloc (Nat.le_refl _) _ | exact ((Below.refl _ _).alloc (Nat.le_refl _) _).alloc (by simp) _) hb1; have hsW1 : W.heap.size ≤ W1.heap.size := hb1.size; have hB := hB.trans (hb1.mono hB.size); have o1 := o1.below hb1 o1.lt; have o2 := o2.below hb1 o2.lt; have lto1 := o1.lt; have lto2 := o2.lt; have qo10 := o1.cell 0 _ rfl; have qo11 := o1.cell 1 _ rfl; have qo20 := o2.cell 0 _ rfl; have qo21 := o2.cell 1 _ rfl; have hw1 := hw1.below hb1 (Nat.le_refl _); have hw2 := hw2.below hb1 (Nat.le_refl _); clear tok1 _t)
        | (go_at_call 137; have _t := tok2; refine (plus_spec _ _ z (-y) k _ (hw1.below (by first | exact Below.refl _ _ | exact (Below.refl _ _).alloc (Nat.le_refl _) _ | exact ((Below.refl _ _).alloc (Nat.le_refl _) _).alloc (by simp) _) (Nat.le_refl _)) (hv1.below (by first | exact Below.refl _ _ | exact (Below.refl _ _).alloc (Nat.le_refl _) _ | exact ((Below.refl _ _).alloc (Nat.le_refl _) _).alloc (by simp) _) (Nat.le_refl _)) hn (by omega) hk).mono ?_; rintro e W2 ⟨_, rfl, ⟨m', rfl, hm'⟩, hb2⟩; (try (have oN := oN.below hb2 oN.lt)); (try (first | have oN := own_behind hb2 | have oN := own_behindD hb2)); have hb2 := ext_step (W := W1) (by first | exact Below.refl _ _ | exact (Below.refl _ _).alloc (Nat.le_refl _) _ | exact ((Below.refl _ _).alloc (Nat.le_refl _) _).alloc (by simp) _) hb2; have hsW2 : W1.heap.size ≤ W2.heap.size := hb2.size; have hB := hB.trans (hb2.mono hB.size); have o1 := o1.below hb2 o1.lt; have o2 := o2.below hb2 o2.lt; have lto1 := o1.lt; have lto2 := o2.lt; have qo10 := o1.cell 0 _ rfl; have qo11 := o1.cell 1 _ rfl; have qo20 := o2.cell 0 _ rfl; have qo21 := o2.cell 1 _ rfl; have hw1 := hw1.below hb2 (Nat.le_refl _); have hw2 := hw2.below hb2 (Nat.le_refl _); have hv1 := hv1.below hb2 (Nat.le_refl _); obtain ⟨a', l', c', rfl, _, _, _⟩ := hm'.any; (try (have foN := oN.free; have coN0 := oN.cell 0 _ rfl; have coN1 := oN.cell 1 _ rfl)); clear tok2 _t))
    all_goals go_wp2_with fail
    all_goals go_meet
    all_goals first
      | exact ⟨_, l', c', a', rfl, own_new _ _ _, hm'.below ((Below.refl _ _).alloc (Nat.le_refl _) _) (Nat.le_refl _), hB.alloc hB.size _⟩
      | exact ⟨_, l', c', a', rfl, (oN.set 0 _).set 1 _, (hm'.put oN rfl 0 _).put (oN.set 0 _) rfl 1 _, (hB.setCell (by first | exact Nat.le_refl _ | omega | (simp; done) | (simp; omega)) _).setCell (by first | exact Nat.le_refl _ | omega | (simp; done) | (simp; omega)) _⟩
  case rest =>
    obtain ⟨g, l, c, a, rfl, o3, hm3, hB3⟩ := hcut
    obtain ⟨a3, l3, c3, e3, hl3, hcap3, hmax3⟩ := hm3.any
    injection e3 with ea el ec
    subst ea el ec
    have fo3 := o3.free; have co30 := o3.cell 0 _ rfl; have co31 := o3.cell 1 _ rfl
    rcases Int.lt_trichotomy z y with hlt | heq | hgt
    · have hd : decide (z + -y < 0) = true := decide_eq_true (by omega)
      rw [hd] at co30
      go_wp2_with fail
      go_ret
      exact ⟨_, rfl, int_of (by unfold icmp; rw [if_pos hlt]), hB3⟩
    · have hd : decide (z + -y < 0) = false := decide_eq_false (by omega)
      rw [hd] at co30
      obtain rfl : l = 0 := hl3.2 (by omega)
      go_wp2_with fail
      go_ret
      exact ⟨_, rfl, int_of (by unfold icmp; rw [if_neg (by omega), if_neg (by omega)]; rfl), hB3⟩
    · have hd : decide (z + -y < 0) = false := decide_eq_false (by omega)
      rw [hd] at co30
      have hl1 : 1 ≤ l := by
        rcases Nat.eq_zero_or_pos l with h0 | h0
        · have := hl3.1 h0; omega
        · exact h0
      have hmin : min (l : Int) 1 = 1 := by omega
      go_wp2_with fail
      go_ret
      exact ⟨_, rfl, int_of (by unfold icmp; rw [if_neg (by omega), if_pos hgt]), hB3⟩
theorem WholeRep.put {w : World} {g : Nat} {E : TypeId} {cs : List Value} {v : Value} {z : Int} (h : WholeRep w v z) (ho : Own w E g cs) (hn : cs.all noU = true) (i : Nat) (u : Value) : WholeRep (w.setCell ⟨g, i, none⟩ u) v z := by
  obtain ⟨m, e, hm⟩ := h
  exact ⟨m, e, hm.put ho hn i u⟩
def BoxW (W : World) (z : Int) (s : Value) (wx : World) : Prop :=
  ∃ (g l c : Nat) (sb : Bool) (a : Option Addr), s = .pointer (some ⟨g, 0, none⟩) ∧ W.heap.size ≤ g ∧ Own wx 38 g [.bool sb, .slice a l c] ∧ WholeRep wx (.agg #[.bool sb, .slice a l c]) z ∧ Below W.heap.size W wx
theorem boxw_new {W V : World} {z : Int} {s : Bool} {a : Option Addr} {l c : Nat} (hB : Below W.heap.size W V) (r : WholeRep V (.agg #[.bool s, .slice a l c]) z) : BoxW W z (.pointer (some ⟨V.heap.size, 0, none⟩)) (V.alloc (.cells #[.bool s, .slice a l c] 38)) :=
  ⟨_, _, _, _, _, rfl, hB.size, own_new _ _ _, r.below ((Below.refl _ _).alloc (Nat.le_refl _) _) (Nat.le_refl _), hB.alloc hB.size _⟩
theorem boxw_set {W V : World} {z : Int} {s b0 : Bool} {a a0 : Option Addr} {l c l0 c0 g : Nat} (hB : Below W.heap.size W V) (r : WholeRep V (.agg #[.bool s, .slice a l c]) z) (o : Own V 38 g [.bool b0, .slice a0 l0 c0]) (hg : W.heap.size ≤ g) :
    BoxW W z (.pointer (some ⟨g, 0, none⟩)) ((V.setCell ⟨g, 0, none⟩ (.bool s)).setCell ⟨g, 1, none⟩ (.slice a l c)) :=
  ⟨_, _, _, _, _, rfl, hg, (o.set 0 _).set 1 _, (r.put o rfl 0 _).put (o.set 0 _) rfl 1 _, (hB.setCell hg _).setCell hg _⟩
end Go.Proofs.YtfkogkcpndaoeaaGreat
namespace Go.Proofs.YtfkogkcpndaoeaaGreat
structure CQ where
  re : Rat
  im : Rat
theorem CQ.ext {x y : CQ} (h1 : x.re = y.re) (h2 : x.im = y.im) : x = y := by cases x; cases y; simp at h1 h2; rw [h1, h2]
def cq (a b : Int) (d : Nat) : CQ := ⟨(a : Rat) / ((d : Int) : Rat), (b : Rat) / ((d : Int) : Rat)⟩
def CQ.add (x y : CQ) : CQ := ⟨x.re + y.re, x.im + y.im⟩
def CQ.neg (x : CQ) : CQ := ⟨-x.re, -x.im⟩
def CQ.conj (x : CQ) : CQ := ⟨x.re, -x.im⟩
def CQ.sub (x y : CQ) : CQ := ⟨x.re - y.re, x.im - y.im⟩
def CQ.mul (x y : CQ) : CQ := ⟨x.re * y.re - x.im * y.im, x.re * y.im + x.im * y.re⟩
def Low (a b : Int) (d : Nat) : Prop := 0 < d ∧ Nat.gcd (Nat.gcd a.natAbs b.natAbs) d = 1
theorem rat_ne {d : Nat} (h : 0 < d) : ((d : Int) : Rat) ≠ 0 := by
  intro h0
  have : ((d : Int) : Rat) = ((0 : Int) : Rat) := by rw [h0]; rfl
  rw [Rat.intCast_inj] at this
  omega
theorem ratio_eq {a A : Int} {d D : Nat} (h : 0 < d) (H : 0 < D) : (a : Rat) / ((d : Int) : Rat) = (A : Rat) / ((D : Int) : Rat) ↔ a * D = A * d := by
  have h1 := rat_ne h
  have h2 := rat_ne H
  constructor
  · intro e
    have : (a : Rat) * ((D : Int) : Rat) = (A : Rat) * ((d : Int) : Rat) := by grind
    rw [← Rat.intCast_mul, ← Rat.intCast_mul, Rat.intCast_inj] at this
    exact this
  · intro e
    have : (a : Rat) * ((D : Int) : Rat) = (A : Rat) * ((d : Int) : Rat) := by
      rw [← Rat.intCast_mul, ← Rat.intCast_mul, Rat.intCast_inj]; exact e
    grind
theorem cq_eq {a b A B : Int} {d D : Nat} (h : 0 < d) (H : 0 < D) : cq a b d = cq A B D ↔ a * D = A * d ∧ b * D = B * d := by
  unfold cq
  rw [CQ.mk.injEq, ratio_eq h H, ratio_eq h H]
theorem low_dvd {a b A B : Int} {d D : Nat} (h : Low a b d) (H : 0 < D) (e : cq a b d = cq A B D) : ∃ g : Nat, 0 < g ∧ D = d * g ∧ A = a * g ∧ B = b * g := by
  obtain ⟨h0, h1⟩ := h
  obtain ⟨e1, e2⟩ := (cq_eq h0 H).1 e
  have k1 : d ∣ a.natAbs * D := ⟨A.natAbs, by rw [← Int.natAbs_natCast D, ← Int.natAbs_mul, e1, Int.natAbs_mul, Int.natAbs_natCast, Nat.mul_comm]⟩
  have k2 : d ∣ b.natAbs * D := ⟨B.natAbs, by rw [← Int.natAbs_natCast D, ← Int.natAbs_mul, e2, Int.natAbs_mul, Int.natAbs_natCast, Nat.mul_comm]⟩
  have k3 : d ∣ Nat.gcd (Nat.gcd (a.natAbs * D) (b.natAbs * D)) (d * D) := Nat.dvd_gcd (Nat.dvd_gcd k1 k2) (Nat.dvd_mul_right _ _)
  rw [Nat.gcd_mul_right, Nat.gcd_mul_right, h1, Nat.one_mul] at k3
  obtain ⟨g, rfl⟩ := k3
  have hg : 0 < g := Nat.pos_of_mul_pos_left H
  refine ⟨g, hg, rfl, ?_, ?_⟩
  · have : (A - a * g) * d = 0 := by rw [Int.sub_mul, ← e1, Int.natCast_mul]; grind
    rcases Int.mul_eq_zero.1 this with h | h <;> omega
  · have : (B - b * g) * d = 0 := by rw [Int.sub_mul, ← e2, Int.natCast_mul]; grind
    rcases Int.mul_eq_zero.1 this with h | h <;> omega
theorem low_unique {a b A B : Int} {d D : Nat} (h : Low a b d) (H : Low A B D) (e : cq a b d = cq A B D) : a = A ∧ b = B ∧ d = D := by
  obtain ⟨g, hg, rfl, rfl, rfl⟩ := low_dvd h H.1 e
  have h2 := H.2
  rw [Int.natAbs_mul, Int.natAbs_mul, Int.natAbs_natCast, Nat.gcd_mul_right, Nat.gcd_mul_right, h.2, Nat.one_mul] at h2
  subst h2
  simp
def Small (k : Nat) (x : CQ) : Prop := ∃ (a b : Int) (d : Nat), 0 < d ∧ a.natAbs < 2 ^ k ∧ b.natAbs < 2 ^ k ∧ d < 2 ^ k ∧ x = cq a b d
theorem Small.low {a b : Int} {d k : Nat} (h : Low a b d) (hs : Small k (cq a b d)) : a.natAbs < 2 ^ k ∧ b.natAbs < 2 ^ k ∧ d < 2 ^ k := by
  obtain ⟨A, B, D, hD, h1, h2, h3, e⟩ := hs
  obtain ⟨g, hg, rfl, rfl, rfl⟩ := low_dvd h hD e
  rw [Int.natAbs_mul, Int.natAbs_natCast] at h1 h2
  refine ⟨Nat.lt_of_le_of_lt (Nat.le_mul_of_pos_right _ hg) h1, Nat.lt_of_le_of_lt (Nat.le_mul_of_pos_right _ hg) h2, Nat.lt_of_le_of_lt (Nat.le_mul_of_pos_right _ hg) h3⟩
theorem Small.mono {k l : Nat} {x : CQ} (h : Small k x) (hl : k ≤ l) : Small l x := by
  obtain ⟨a, b, d, h0, h1, h2, h3, e⟩ := h
  have := Nat.pow_le_pow_right (n := 2) (by omega) hl
  exact ⟨a, b, d, h0, by omega, by omega, by omega, e⟩
theorem small_mk {k : Nat} {a b : Int} {d : Nat} (h0 : 0 < d) (h1 : a.natAbs < 2 ^ k) (h2 : b.natAbs < 2 ^ k) (h3 : d < 2 ^ k) : Small k (cq a b d) := ⟨a, b, d, h0, h1, h2, h3, rfl⟩
theorem mul_small {a b : Int} {k : Nat} (h1 : a.natAbs < 2 ^ k) (h2 : b.natAbs < 2 ^ k) : (a * b).natAbs < 2 ^ (2 * k) := by
  rw [Int.natAbs_mul, Nat.two_mul, Nat.pow_add]
  exact Nat.mul_lt_mul_of_lt_of_lt h1 h2
theorem mul_small' {a : Int} {n k : Nat} (h1 : a.natAbs < 2 ^ k) (h2 : n < 2 ^ k) : (a * n).natAbs < 2 ^ (2 * k) := mul_small h1 (by simpa using h2)
theorem nmul_small {a b k : Nat} (h1 : a < 2 ^ k) (h2 : b < 2 ^ k) : a * b < 2 ^ (2 * k) := by
  rw [Nat.two_mul, Nat.pow_add]; exact Nat.mul_lt_mul_of_lt_of_lt h1 h2
theorem add_small {a b : Int} {k : Nat} (h1 : a.natAbs < 2 ^ k) (h2 : b.natAbs < 2 ^ k) : (a + b).natAbs < 2 ^ (k + 1) := by
  rw [Nat.pow_succ]; omega
theorem pow_step {n k l : Nat} (h : n < 2 ^ k) (hl : k ≤ l) : n < 2 ^ l := Nat.lt_of_lt_of_le h (Nat.pow_le_pow_right (by omega) hl)
theorem cq_add {a b c e : Int} {d f : Nat} (h : 0 < d) (H : 0 < f) : (cq a b d).add (cq c e f) = cq (a * f + c * d) (b * f + e * d) (d * f) := by
  have h1 := rat_ne h
  have h2 := rat_ne H
  unfold cq CQ.add
  simp only [Int.natCast_mul, Rat.intCast_add, Rat.intCast_mul]
  refine CQ.ext ?_ ?_ <;> simp only <;> grind
theorem cq_mul {a b c e : Int} {d f : Nat} (h : 0 < d) (H : 0 < f) : (cq a b d).mul (cq c e f) = cq (a * c + -(b * e)) (a * e + b * c) (d * f) := by
  have h1 := rat_ne h
  have h2 := rat_ne H
  unfold cq CQ.mul
  simp only [Int.natCast_mul, Rat.intCast_add, Rat.intCast_mul, Rat.intCast_neg]
  refine CQ.ext ?_ ?_ <;> simp only <;> grind
theorem cq_neg {a b : Int} {d : Nat} : (cq a b d).neg = cq (-a) (-b) d := by
  unfold cq CQ.neg
  simp only [Rat.intCast_neg]
  refine CQ.ext ?_ ?_ <;> simp only <;> grind
theorem CQ.sub_eq (x y : CQ) : x.sub y = x.add y.neg := by
  unfold CQ.sub CQ.add CQ.neg
  refine CQ.ext ?_ ?_ <;> simp only <;> grind
theorem Small.add {k : Nat} {x y : CQ} (h : Small k x) (h' : Small k y) : Small (2 * k + 1) (x.add y) := by
  obtain ⟨a, b, d, h0, h1, h2, h3, rfl⟩ := h
  obtain ⟨A, B, D, H0, H1, H2, H3, rfl⟩ := h'
  rw [cq_add h0 H0]
  exact small_mk (Nat.mul_pos h0 H0) (add_small (mul_small' h1 H3) (mul_small' H1 h3)) (add_small (mul_small' h2 H3) (mul_small' H2 h3)) (pow_step (nmul_small h3 H3) (by omega))
theorem Small.mul {k : Nat} {x y : CQ} (h : Small k x) (h' : Small k y) : Small (2 * k + 1) (x.mul y) := by
  obtain ⟨a, b, d, h0, h1, h2, h3, rfl⟩ := h
  obtain ⟨A, B, D, H0, H1, H2, H3, rfl⟩ := h'
  rw [cq_mul h0 H0]
  exact small_mk (Nat.mul_pos h0 H0) (add_small (mul_small h1 H1) (by rw [Int.natAbs_neg]; exact mul_small h2 H2)) (add_small (mul_small h1 H2) (mul_small h2 H1)) (pow_step (nmul_small h3 H3) (by omega))
theorem Small.neg {k : Nat} {x : CQ} (h : Small k x) : Small k x.neg := by
  obtain ⟨a, b, d, h0, h1, h2, h3, rfl⟩ := h
  rw [cq_neg]
  exact small_mk h0 (by rwa [Int.natAbs_neg]) (by rwa [Int.natAbs_neg]) h3
theorem Small.sub {k : Nat} {x y : CQ} (h : Small k x) (h' : Small k y) : Small (2 * k + 1) (x.sub y) := by
  rw [CQ.sub_eq]; exact h.add h'.neg
theorem cq_div {a b : Int} {d g : Nat} (hd : 0 < d) (hg : Nat.gcd (Nat.gcd a.natAbs b.natAbs) d = g) : Low (a / g) (b / g) (d / g) ∧ cq a b d = cq (a / g) (b / g) (d / g) := by
  have hgd : g ∣ d := hg ▸ Nat.gcd_dvd_right _ _
  have hga : g ∣ a.natAbs := hg ▸ Nat.dvd_trans (Nat.gcd_dvd_left _ _) (Nat.gcd_dvd_left _ _)
  have hgb : g ∣ b.natAbs := hg ▸ Nat.dvd_trans (Nat.gcd_dvd_left _ _) (Nat.gcd_dvd_right _ _)
  have hg0 : 0 < g := Nat.pos_of_dvd_of_pos hgd hd
  obtain ⟨A, rfl⟩ : (g : Int) ∣ a := Int.ofNat_dvd_left.2 hga
  obtain ⟨B, rfl⟩ : (g : Int) ∣ b := Int.ofNat_dvd_left.2 hgb
  obtain ⟨D, rfl⟩ := hgd
  have hD : 0 < D := Nat.pos_of_ne_zero (fun h => by rw [h] at hd; simp at hd)
  rw [Int.mul_ediv_cancel_left _ (by omega), Int.mul_ediv_cancel_left _ (by omega), Nat.mul_div_cancel_left _ hg0]
  rw [Int.natAbs_mul, Int.natAbs_mul, Int.natAbs_natCast, Nat.gcd_mul_left, Nat.gcd_mul_left] at hg
  refine ⟨⟨hD, Nat.eq_of_mul_eq_mul_left hg0 (by omega)⟩, ?_⟩
  rw [cq_eq hd hD]
  simp only [Int.natCast_mul]
  constructor <;> grind
theorem div_abs {a : Int} {g : Nat} (h : g ∣ a.natAbs) : (a / g).natAbs = a.natAbs / g ∧ (0 < g → decide (a / g < 0) = decide (a < 0)) := by
  obtain ⟨A, rfl⟩ : (g : Int) ∣ a := Int.ofNat_dvd_left.2 h
  rcases Nat.eq_zero_or_pos g with h0 | h0
  · subst h0; simp
  · rw [Int.mul_ediv_cancel_left _ (by omega), Int.natAbs_mul, Int.natAbs_natCast, Nat.mul_div_cancel_left _ h0]
    refine ⟨rfl, fun _ => ?_⟩
    rw [decide_eq_decide]
    constructor
    · intro hA; exact Int.mul_neg_of_pos_of_neg (by omega) hA
    · intro hA
      rcases Int.lt_or_le A 0 with h1 | h1
      · exact h1
      · have := Int.mul_nonneg (show (0 : Int) ≤ g by omega) h1; omega
end Go.Proofs.YtfkogkcpndaoeaaGreat
