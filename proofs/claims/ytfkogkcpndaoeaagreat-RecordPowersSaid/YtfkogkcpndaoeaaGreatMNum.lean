/- Numbers: floor, over, den, Int. Conditions: fewer than 2^42 bits. -/
import Derived.Test.YtfkogkcpndaoeaaGreatMWhole
set_option linter.all false
namespace Go.Proofs.YtfkogkcpndaoeaaGreat
open Go.RowKit
theorem nat_one {w : World} : NatRep (w.alloc (.cells #[.int .u32 1] 28)) (.slice (some ⟨w.heap.size, 0, none⟩) 1 1) 1 :=
  ⟨[1], (ownU_new w _ [1] (by simp [u32]) (by simp [Words])).us (by simp) rfl, by simp [Norm], by simp [nval]⟩
theorem nat_one' {w : World} {g : Nat} (hg : g = w.heap.size) : NatRep (w.alloc (.cells #[.int .u32 1] 28)) (.slice (some ⟨g, 0, none⟩) 1 1) 1 := by subst hg; exact nat_one
theorem sgn_floor1 (z : Int) (d : Nat) (hd : 0 < d) (h : ¬ (z < 0 ∧ 0 < z.natAbs % d)) : sgn (decide (z < 0)) (z.natAbs / d) = z / d := by
  unfold sgn
  by_cases hz : z < 0
  · have hr : z.natAbs % d = 0 := by omega
    obtain ⟨q, hq⟩ := Nat.dvd_of_mod_eq_zero hr
    have e : z = -((d : Int) * q) := by rw [← Int.natCast_mul]; omega
    simp only [hz, decide_true, if_true]
    rw [hq, Nat.mul_div_cancel_left _ hd, e, ← Int.mul_neg, Int.mul_ediv_cancel_left _ (by omega)]
  · simp only [hz, decide_false]
    obtain ⟨n, rfl⟩ : ∃ n : Nat, z = n := ⟨z.toNat, by omega⟩
    simp
theorem sgn_floor2 (z : Int) (d : Nat) (hd : 0 < d) (h : z < 0 ∧ 0 < z.natAbs % d) : sgn (decide (z < 0)) (z.natAbs / d + 1) = z / d := by
  obtain ⟨h1, h2⟩ := h
  unfold sgn
  simp only [h1, decide_true, if_true]
  have hm := Nat.mod_lt z.natAbs hd
  have hq := Nat.div_add_mod z.natAbs d
  have e : z = -((d : Int) * (z.natAbs / d : Nat)) - (z.natAbs % d : Nat) := by rw [← Int.natCast_mul]; omega
  generalize z.natAbs / d = q at *
  generalize z.natAbs % d = r at *
  have e2 : z = ((d : Int) - r) + (d : Int) * (-((q : Int) + 1)) := by rw [e]; grind
  rw [e2, Int.add_mul_ediv_left _ _ (by omega), Int.ediv_eq_zero_of_lt (by omega) (by omega)]
  omega
set_option maxRecDepth 100000 in
set_option maxHeartbeats 800000 in
theorem floor_spec (v u : Value) (z : Int) (d k : Nat) (w : World) (h : WholeRep w v z) (h' : NatRep w u d) (hd : 0 < d) (hn : z.natAbs < 2 ^ k) (hk : k ≤ 8796093022207) :
    Calls Tryz.prog 175 #[v, u] w (Ret w fun w' v' => WholeRep w' v' (z / d)) := by
  obtain ⟨m, rfl, hm1⟩ := h
  obtain ⟨a1, l1, c1, rfl, _, _, _⟩ := hm1.any
  have g1 := sgn_floor1 z d hd
  have g2 := sgn_floor2 z d hd
  have hz : (decide (z < 0) = true ↔ z < 0) := by simp
  generalize decide (z < 0) = s1 at *
  have G1 := Lib.hid g1
  have G2 := Lib.hid g2
  have Hz := Lib.hid hz
  clear g1 g2 hz
  go_enter Tryz.func175, Tryz.ntmps175
  go_upto_region 1 with (fail)
  obtain ⟨W, hW, o1, o3, hB, hS⟩ := boxes2 w 38 38 [.bool s1, .slice a1 l1 c1] [.bool false, .slice none 0 0]
  rw [← hW]
  clear hW
  have fo1 := o1.free; have co10 := o1.cell 0 _ rfl; have co11 := o1.cell 1 _ rfl
  go_wp2_with fail
  refine (div_spec _ _ z.natAbs d k W (hm1.below hB (Nat.le_refl _)) (h'.below hB (Nat.le_refl _)) hd hn (by omega)).mono ?_
  rintro e W1 ⟨_, rfl, ⟨q, r, rfl, hq, hr⟩, hb1⟩
  obtain ⟨a3, l3, c3, rfl, hl3, _, _⟩ := hr.any
  clear co10 co11 fo1
  have hsW1 : W.heap.size ≤ W1.heap.size := hb1.size; have hB := hB.trans (hb1.mono hB.size); have o1 := o1.below hb1 o1.lt; have o3 := o3.below hb1 o3.lt; have fo1 := o1.free; have co10 := o1.cell 0 _ rfl; have co11 := o1.cell 1 _ rfl
  by_cases hc : s1 = true ∧ l3 ≠ 0
  · obtain ⟨rfl, hl⟩ := hc
    have hl0 : 0 < l3 := by omega
    have hr0 : 0 < z.natAbs % d := by
      rcases Nat.eq_zero_or_pos (z.natAbs % d) with h | h
      · exact absurd (hl3.2 h) hl
      · exact h
    have G := Lib.hid (G2.out ⟨Hz.out.1 rfl, hr0⟩)
    have hqs : z.natAbs / d < 2 ^ k := Nat.lt_of_le_of_lt (Nat.div_le_self _ _) hn
    have Hqs := Lib.hid hqs
    clear hr0 hl hqs
    go_wp2_with fail
    have q1 := hq.below ((Below.refl W1.heap.size W1).alloc (Nat.le_refl _) (.cells #[.int .u32 1] 28)) (Nat.le_refl _)
    refine (add_spec _ _ (z.natAbs / d) 1 (k + 1) _ q1 nat_one (pow_step Hqs.out (by omega)) (by rw [Nat.pow_succ]; have := Nat.pow_pos (n := k) (show 0 < 2 by omega); omega) (by omega)).mono ?_
    rintro e W2 ⟨v2, rfl, hv2, hb2⟩
    have hb2 := ext_step (W := W1) (by first | exact Below.refl _ _ | exact (Below.refl _ _).alloc (Nat.le_refl _) _ | exact ((Below.refl _ _).alloc (Nat.le_refl _) _).alloc (by simp) _) hb2
    have hsW2 : W1.heap.size ≤ W2.heap.size := hb2.size; have hB := hB.trans (hb2.mono hB.size); have o1 := o1.below hb2 o1.lt; have o3 := o3.below hb2 o3.lt
    clear co10 co11 fo1
    have fo1 := o1.free; have co10 := o1.cell 0 _ rfl; have co11 := o1.cell 1 _ rfl
    go_wp2_with fail
    refine (wholeOf_spec _ _ _ _ hv2).mono ?_
    rintro e W3 ⟨_, rfl, ⟨m', rfl, hm'⟩, hb3⟩
    obtain ⟨a', l', c', rfl, _, _, _⟩ := hm'.any
    have hsW3 : W2.heap.size ≤ W3.heap.size := hb3.size; have hB := hB.trans (hb3.mono hB.size); have o1 := o1.below hb3 o1.lt; have o3 := o3.below hb3 o3.lt
    clear co10 co11 fo1
    have fo3 := o3.free; have co30 := o3.cell 0 _ rfl; have co31 := o3.cell 1 _ rfl
    go_wp2_with fail
    refine bodyPost_ret (v := .agg #[.bool (decide (sgn true (z.natAbs / d + 1) < 0)), .slice a' l' c']) (by simp [results, Tryz.results175, go_sem, co30, co31]) rfl ⟨_, rfl, whole_ret hm' o3 G.out, (hB.setCell (show _ ≤ _ + 1 by omega) _).setCell (show _ ≤ _ + 1 by omega) _⟩
  · have G := Lib.hid (G1.out (fun hh => hc ⟨Hz.out.2 hh.1, fun h0 => by have := hl3.1 h0; omega⟩))
    have hcase : s1 = false ∨ s1 = true ∧ l3 = 0 := by
      cases s1
      · exact .inl rfl
      · refine .inr ⟨rfl, ?_⟩
        rcases Nat.eq_zero_or_pos l3 with h | h
        · exact h
        · exact absurd ⟨rfl, by omega⟩ hc
    clear hc hl3 hr
    rcases hcase with rfl | ⟨rfl, rfl⟩
    all_goals
      go_wp2_with fail
      refine (wholeOf_spec _ _ _ _ hq).mono ?_
      rintro e W3 ⟨_, rfl, ⟨m', rfl, hm'⟩, hb3⟩
      obtain ⟨a', l', c', rfl, _, _, _⟩ := hm'.any
      have hsW3 : W1.heap.size ≤ W3.heap.size := hb3.size; have hB := hB.trans (hb3.mono hB.size); have o1 := o1.below hb3 o1.lt; have o3 := o3.below hb3 o3.lt
      clear co10 co11 fo1
      have fo3 := o3.free; have co30 := o3.cell 0 _ rfl; have co31 := o3.cell 1 _ rfl
      go_wp2_with fail
    · refine bodyPost_ret (v := .agg #[.bool (decide (sgn false (z.natAbs / d) < 0)), .slice a' l' c']) (by simp [results, Tryz.results175, go_sem, co30, co31]) rfl ⟨_, rfl, whole_ret hm' o3 G.out, (hB.setCell (show _ ≤ _ + 1 by omega) _).setCell (show _ ≤ _ + 1 by omega) _⟩
    · refine bodyPost_ret (v := .agg #[.bool (decide (sgn true (z.natAbs / d) < 0)), .slice a' l' c']) (by simp [results, Tryz.results175, go_sem, co30, co31]) rfl ⟨_, rfl, whole_ret hm' o3 G.out, (hB.setCell (show _ ≤ _ + 1 by omega) _).setCell (show _ ≤ _ + 1 by omega) _⟩
def Tri (w : World) (v : Value) (a b : Int) (d : Nat) : Prop :=
  ∃ (m1 m2 m3 : Value), v = .agg #[.bool (decide (a < 0)), m1, .bool (decide (b < 0)), m2, m3] ∧ NatRep w m1 a.natAbs ∧ NatRep w m2 b.natAbs ∧ NatRep w m3 (if d = 1 then 0 else d) ∧ Low a b d
def NumRep (w : World) (v : Value) (x : CQ) : Prop := ∃ (a b : Int) (d : Nat), Tri w v a b d ∧ x = cq a b d
theorem Tri.below {B : Nat} {w w' : World} {v : Value} {a b : Int} {d : Nat} (h : Tri w v a b d) (hb : Below B w w') (hB : w.heap.size ≤ B) : Tri w' v a b d := by
  obtain ⟨m1, m2, m3, e, h1, h2, h3, h4⟩ := h
  exact ⟨m1, m2, m3, e, h1.below hb hB, h2.below hb hB, h3.below hb hB, h4⟩
theorem NumRep.below {B : Nat} {w w' : World} {v : Value} {x : CQ} (h : NumRep w v x) (hb : Below B w w') (hB : w.heap.size ≤ B) : NumRep w' v x := by
  obtain ⟨a, b, d, h1, h2⟩ := h
  exact ⟨a, b, d, h1.below hb hB, h2⟩
theorem Tri.put {w : World} {g : Nat} {E : TypeId} {cs : List Value} {v : Value} {a b : Int} {d : Nat} (h : Tri w v a b d) (ho : Own w E g cs) (hn : cs.all noU = true) (i : Nat) (u : Value) : Tri (w.setCell ⟨g, i, none⟩ u) v a b d := by
  obtain ⟨m1, m2, m3, e, h1, h2, h3, h4⟩ := h
  exact ⟨m1, m2, m3, e, h1.put ho hn i u, h2.put ho hn i u, h3.put ho hn i u, h4⟩
theorem NumRep.put {w : World} {g : Nat} {E : TypeId} {cs : List Value} {v : Value} {x : CQ} (h : NumRep w v x) (ho : Own w E g cs) (hn : cs.all noU = true) (i : Nat) (u : Value) : NumRep (w.setCell ⟨g, i, none⟩ u) v x := by
  obtain ⟨a, b, d, h1, h2⟩ := h
  exact ⟨a, b, d, h1.put ho hn i u, h2⟩
theorem Tri.open {w : World} {v : Value} {a b : Int} {d : Nat} (h : Tri w v a b d) : ∃ (a1 a2 a3 : Option Addr) (l1 c1 l2 c2 l3 c3 : Nat),
    v = .agg #[.bool (decide (a < 0)), .slice a1 l1 c1, .bool (decide (b < 0)), .slice a2 l2 c2, .slice a3 l3 c3] ∧ NatRep w (.slice a1 l1 c1) a.natAbs ∧ NatRep w (.slice a2 l2 c2) b.natAbs ∧ NatRep w (.slice a3 l3 c3) (if d = 1 then 0 else d) ∧ (l3 = 0 ↔ d = 1) ∧ Low a b d := by
  obtain ⟨m1, m2, m3, rfl, h1, h2, h3, h4⟩ := h
  obtain ⟨a1, l1, c1, rfl, _, _, _⟩ := h1.any
  obtain ⟨a2, l2, c2, rfl, _, _, _⟩ := h2.any
  obtain ⟨a3, l3, c3, rfl, e3, _, _⟩ := h3.any
  refine ⟨a1, a2, a3, l1, c1, l2, c2, l3, c3, rfl, h1, h2, h3, ?_, h4⟩
  rw [e3]
  have := h4.1
  split <;> omega
def nil5 : List Value := [.bool false, .slice none 0 0, .bool false, .slice none 0 0, .slice none 0 0]
theorem num_ret {w : World} {E : TypeId} {g : Nat} {x : CQ} {s0 s2 b0 b2 : Bool} {a1 a3 a4 x1 x3 x4 : Option Addr} {l1 c1 l3 c3 l4 c4 y1 z1 y3 z3 y4 z4 : Nat}
    (h : NumRep w (.agg #[.bool s0, .slice a1 l1 c1, .bool s2, .slice a3 l3 c3, .slice a4 l4 c4]) x) (o : Own w E g [.bool b0, .slice x1 y1 z1, .bool b2, .slice x3 y3 z3, .slice x4 y4 z4]) :
    NumRep (((((w.setCell ⟨g, 0, none⟩ (.bool s0)).setCell ⟨g, 1, none⟩ (.slice a1 l1 c1)).setCell ⟨g, 2, none⟩ (.bool s2)).setCell ⟨g, 3, none⟩ (.slice a3 l3 c3)).setCell ⟨g, 4, none⟩ (.slice a4 l4 c4)) (.agg #[.bool s0, .slice a1 l1 c1, .bool s2, .slice a3 l3 c3, .slice a4 l4 c4]) x :=
  ((((h.put o rfl 0 _).put (o.set 0 _) rfl 1 _).put ((o.set 0 _).set 1 _) rfl 2 _).put (((o.set 0 _).set 1 _).set 2 _) rfl 3 _).put ((((o.set 0 _).set 1 _).set 2 _).set 3 _) rfl 4 _
theorem below5 {B : Nat} {a w : World} {g : Nat} {v0 v1 v2 v3 v4 : Value} (h : Below B a w) (hg : B ≤ g) : Below B a (((((w.setCell ⟨g, 0, none⟩ v0).setCell ⟨g, 1, none⟩ v1).setCell ⟨g, 2, none⟩ v2).setCell ⟨g, 3, none⟩ v3).setCell ⟨g, 4, none⟩ v4) :=
  ((((h.setCell hg _).setCell hg _).setCell hg _).setCell hg _).setCell hg _
theorem NumRep.open {w : World} {v : Value} {x : CQ} (h : NumRep w v x) : ∃ (s0 s2 : Bool) (a1 a3 a4 : Option Addr) (l1 c1 l3 c3 l4 c4 : Nat), v = .agg #[.bool s0, .slice a1 l1 c1, .bool s2, .slice a3 l3 c3, .slice a4 l4 c4] := by
  obtain ⟨a, b, d, ht, _⟩ := h
  obtain ⟨a1, a2, a3, l1, c1, l2, c2, l3, c3, rfl, _⟩ := ht.open
  exact ⟨_, _, _, _, _, _, _, _, _, _, _, rfl⟩
theorem num_mk {w : World} {m1 m2 m3 : Value} {a b : Int} {d g : Nat} (hd : 0 < d) (hg : g = Nat.gcd (Nat.gcd a.natAbs b.natAbs) d) (n1 : NatRep w m1 (a.natAbs / g)) (n2 : NatRep w m2 (b.natAbs / g)) (n3 : NatRep w m3 (if d / g = 1 then 0 else d / g)) :
    NumRep w (.agg #[.bool (decide (a < 0)), m1, .bool (decide (b < 0)), m2, m3]) (cq a b d) := by
  obtain ⟨h1, h2⟩ := cq_div hd hg.symm
  have hg0 : 0 < g := Nat.pos_of_ne_zero fun h => by rw [h] at hg; have := (Nat.gcd_eq_zero_iff.1 hg.symm).2; omega
  have ga : g ∣ a.natAbs := hg ▸ Nat.dvd_trans (Nat.gcd_dvd_left _ _) (Nat.gcd_dvd_left _ _)
  have gb : g ∣ b.natAbs := hg ▸ Nat.dvd_trans (Nat.gcd_dvd_left _ _) (Nat.gcd_dvd_right _ _)
  have ea := div_abs ga
  have eb := div_abs gb
  refine ⟨a / g, b / g, d / g, ⟨m1, m2, m3, by rw [ea.2 hg0, eb.2 hg0], by rw [ea.1]; exact n1, by rw [eb.1]; exact n2, n3, h1⟩, h2⟩
set_option maxHeartbeats 400000 in
theorem den_spec (v : Value) (a b : Int) (d : Nat) (w : World) (h : Tri w v a b d) :
    Calls Tryz.prog 75 #[v] w (Ret w fun w' v' => NatRep w' v' d) := by
  obtain ⟨a1, a2, a3, l1, c1, l2, c2, l3, c3, rfl, h1, h2, h3, hl, h4⟩ := h.open
  by_cases h0 : l3 = 0
  · obtain rfl := hl.1 h0
    subst h0
    go_enter Tryz.func75, Tryz.ntmps75
    go_wp2
    go_ret
    exact ⟨_, rfl, nat_one' (by simp), ((Below.refl _ _).alloc (Nat.le_refl _) _).alloc (by simp) _⟩
  · have hd : d ≠ 1 := fun e => h0 (hl.2 e)
    rw [if_neg hd] at h3
    have hl3 : ((l3 : Int) == 0) = false := by simp; omega
    have H0 := Lib.hid h0
    clear h0
    go_enter Tryz.func75, Tryz.ntmps75
    go_wp2
    go_ret
    exact ⟨_, rfl, h3.below ((Below.refl _ _).alloc (Nat.le_refl _) _) (Nat.le_refl _), (Below.refl _ _).alloc (Nat.le_refl _) _⟩
theorem gcd3_pos {a b : Int} {d : Nat} (hd : 0 < d) : 0 < Nat.gcd (Nat.gcd a.natAbs b.natAbs) d := Nat.pos_of_ne_zero fun h => by have := (Nat.gcd_eq_zero_iff.1 h).2; omega
theorem gcd3_small {a b : Int} {d k : Nat} (hd : 0 < d) (h : d < 2 ^ k) : Nat.gcd (Nat.gcd a.natAbs b.natAbs) d < 2 ^ k := Nat.lt_of_le_of_lt (Nat.gcd_le_right _ hd) h
theorem gcd_small {a b k : Nat} (h1 : a < 2 ^ k) (h2 : b < 2 ^ k) : Nat.gcd a b < 2 ^ k := by
  rcases Nat.eq_zero_or_pos a with h | h
  · subst h; simpa using h2
  · exact Nat.lt_of_le_of_lt (Nat.gcd_le_left _ h) h1
def OverCut (w : World) (a b : Int) (d g : Nat) (s2 : Value) (wx : World) : Prop :=
  ∃ (m1 m2 m3 : Value), s2 = m3 ∧ NatRep wx m1 (a.natAbs / g) ∧ NatRep wx m2 (b.natAbs / g) ∧ NatRep wx m3 (d / g) ∧
    Own wx 38 w.heap.size [.bool (decide (a < 0)), m1] ∧ Own wx 38 (w.heap.size + 1) [.bool (decide (b < 0)), m2] ∧ Own wx 40 (w.heap.size + 1 + 1) [.bool false, .slice none 0 0, .bool false, .slice none 0 0, .slice none 0 0] ∧ Below w.heap.size w wx
set_option maxRecDepth 100000 in
set_option maxHeartbeats 1600000 in
theorem over_spec (v u x : Value) (a b : Int) (d k : Nat) (w : World) (h : WholeRep w v a) (h' : WholeRep w u b) (hx : NatRep w x d) (hd : 0 < d) (ha : a.natAbs < 2 ^ k) (hb : b.natAbs < 2 ^ k) (hdk : d < 2 ^ k) (hk : k ≤ 8796093022207) :
    Calls Tryz.prog 91 #[v, u, x] w (Ret w fun w' v' => NumRep w' v' (cq a b d)) := by
  obtain ⟨m1, rfl, h1⟩ := h
  obtain ⟨m2, rfl, h2⟩ := h'
  obtain ⟨a1, l1, c1, rfl, _, _, _⟩ := h1.any
  obtain ⟨a2, l2, c2, rfl, _, _, _⟩ := h2.any
  obtain ⟨a3, l3, c3, rfl, _, _, _⟩ := hx.any
  obtain ⟨g, hg⟩ : ∃ g, g = Nat.gcd (Nat.gcd a.natAbs b.natAbs) d := ⟨_, rfl⟩
  have hg0 : 0 < g := hg ▸ gcd3_pos hd
  have hgk : g < 2 ^ k := hg ▸ gcd3_small hd hdk
  have HG := Lib.hid hg
  have Hgk := Lib.hid hgk
  have Ha := Lib.hid ha
  have Hb := Lib.hid hb
  have Hdk := Lib.hid hdk
  have Hcut : ∀ s2 wx, OverCut w a b d g s2 wx → OverCut w a b d g s2 wx := fun _ _ h => h
  have HCut := Lib.hid Hcut
  clear hg hgk ha hb hdk Hcut
  go_enter Tryz.func91, Tryz.ntmps91
  go_upto_region 1 with (fail)
  obtain ⟨W, hW, o1, o2, o3, hB, hS⟩ := boxes3 w 38 38 40 [.bool (decide (a < 0)), .slice a1 l1 c1] [.bool (decide (b < 0)), .slice a2 l2 c2] [.bool false, .slice none 0 0, .bool false, .slice none 0 0, .slice none 0 0]
  rw [← hW]
  clear hW
  generalize hsa : decide (a < 0) = sa at o1
  generalize hsb : decide (b < 0) = sb at o2
  have Hsa := Lib.hid hsa
  have Hsb := Lib.hid hsb
  clear hsa hsb
  have k1 := h1.below hB (Nat.le_refl _)
  have k2 := h2.below hB (Nat.le_refl _)
  have k3 := hx.below hB (Nat.le_refl _)
  clear h1 h2 hx
  have fo1 := o1.free; have co10 := o1.cell 0 _ rfl; have co11 := o1.cell 1 _ rfl; have fo2 := o2.free; have co20 := o2.cell 0 _ rfl; have co21 := o2.cell 1 _ rfl
  go_wp2_with fail
  refine (gcd_spec _ _ a.natAbs b.natAbs k W k1 k2 Ha.out Hb.out (by omega)).mono ?_
  rintro e W1 ⟨v1, rfl, hv1, hb1⟩
  have q3 := k3.below hb1 (Nat.le_refl _)
  go_wp2_with fail
  refine (gcd_spec _ _ (Nat.gcd a.natAbs b.natAbs) d k W1 hv1 q3 (gcd_small Ha.out Hb.out) Hdk.out (by omega)).mono ?_
  rintro e W2 ⟨v2, rfl, hv2, hb2⟩
  rw [← HG.out] at hv2
  have hb2 := hb1.trans (hb2.mono hb1.size)
  clear co10 co11 fo1 co20 co21 fo2 q3 hv1 hb1
  have hsW2 : W.heap.size ≤ W2.heap.size := hb2.size; have hB := hB.trans (hb2.mono hB.size); have o1 := o1.below hb2 o1.lt; have o2 := o2.below hb2 o2.lt; have o3 := o3.below hb2 o3.lt; have k1 := k1.below hb2 (Nat.le_refl _); have k2 := k2.below hb2 (Nat.le_refl _); have k3 := k3.below hb2 (Nat.le_refl _); have fo1 := o1.free; have co10 := o1.cell 0 _ rfl; have co11 := o1.cell 1 _ rfl; have fo2 := o2.free; have co20 := o2.cell 0 _ rfl; have co21 := o2.cell 1 _ rfl
  go_wp2_with fail
  refine (one_spec _ g W2 hv2).mono ?_
  rintro e W2' ⟨_, rfl, rfl, rfl⟩
  obtain ⟨gb, hgb⟩ : ∃ gb, gb = decide (g = 1) := ⟨_, rfl⟩
  rw [← hgb]
  have Hgb := Lib.hid hgb
  clear hgb
  go_upto_if 17 with (fail)
  go_cut [2] (fun s2 wx => OverCut w a b d g s2 wx)
  case first =>
    by_cases hg1 : g = 1
    · obtain rfl : gb = true := by rw [Hgb.out]; simp [hg1]
      have e1 : a.natAbs / g = a.natAbs := by rw [hg1, Nat.div_one]
      have e2 : b.natAbs / g = b.natAbs := by rw [hg1, Nat.div_one]
      have e3 : d / g = d := by rw [hg1, Nat.div_one]
      have hfin : OverCut w a b d g (.slice a3 l3 c3) W2 := by
        refine ⟨.slice a1 l1 c1, .slice a2 l2 c2, _, rfl, ?_, ?_, ?_, ?_, ?_, o3, hB⟩
        · rw [e1]; exact k1
        · rw [e2]; exact k2
        · rw [e3]; exact k3
        · rw [Hsa.out]; exact o1
        · rw [Hsb.out]; exact o2
      have HF := Lib.hid hfin
      clear hfin e1 e2 e3 hg1
      go_wp2_with fail
      go_meet
      exact HF.out
    · obtain rfl : gb = false := by rw [Hgb.out]; simp [hg1]
      clear hg1
      go_wp2_with fail
      refine (div_spec _ _ a.natAbs g k W2 k1 hv2 hg0 Ha.out (by omega)).mono ?_
      rintro e W3 ⟨_, rfl, ⟨q1, r1, rfl, hq1, _⟩, hb3⟩
      obtain ⟨b1, p1, t1, rfl, _, _, _⟩ := hq1.any
      clear co10 co11 fo1 co20 co21 fo2
      have hsW3 : W2.heap.size ≤ W3.heap.size := hb3.size; have hB := hB.trans (hb3.mono hB.size); have o1 := o1.below hb3 o1.lt; have o2 := o2.below hb3 o2.lt; have o3 := o3.below hb3 o3.lt; have k2 := k2.below hb3 (Nat.le_refl _); have k3 := k3.below hb3 (Nat.le_refl _); have hv2 := hv2.below hb3 (Nat.le_refl _); have fo1 := o1.free; have co10 := o1.cell 0 _ rfl; have co11 := o1.cell 1 _ rfl; have fo2 := o2.free; have co20 := o2.cell 0 _ rfl; have co21 := o2.cell 1 _ rfl
      go_wp2_with fail
      refine (div_spec _ _ b.natAbs g k _ (k2.put o1 rfl 1 _) (hv2.put o1 rfl 1 _) hg0 Hb.out (by omega)).mono ?_
      rintro e W4 ⟨_, rfl, ⟨q2, r2, rfl, hq2, _⟩, hb4⟩
      obtain ⟨b2, p2, t2, rfl, _, _, _⟩ := hq2.any
      have hq1 := hq1.put o1 rfl 1 (.slice b1 p1 t1)
      have k3 := k3.put o1 rfl 1 (.slice b1 p1 t1)
      have hv2 := hv2.put o1 rfl 1 (.slice b1 p1 t1)
      have o2 := o2.other (a := ⟨w.heap.size, 1, none⟩) (by simp) (.slice b1 p1 t1)
      have o3 := o3.other (a := ⟨w.heap.size, 1, none⟩) (by simp; omega) (.slice b1 p1 t1)
      have o1 := o1.set 1 (.slice b1 p1 t1)
      have hB := hB.setCell (p := ⟨w.heap.size, 1, none⟩) (Nat.le_refl _) (.slice b1 p1 t1)
      clear co10 co11 fo1 co20 co21 fo2
      have hB := hB.trans (hb4.mono hB.size)
      have o1 := o1.below hb4 o1.lt
      have o2 := o2.below hb4 o2.lt
      have o3 := o3.below hb4 o3.lt
      have hq1 := hq1.below hb4 (Nat.le_refl _); have k3 := k3.below hb4 (Nat.le_refl _); have hv2 := hv2.below hb4 (Nat.le_refl _); have fo1 := o1.free; have co10 := o1.cell 0 _ rfl; have co11 := o1.cell 1 _ rfl; have fo2 := o2.free; have co20 := o2.cell 0 _ rfl; have co21 := o2.cell 1 _ rfl
      go_wp2_with fail
      refine (div_spec _ _ d g k _ (k3.put o2 rfl 1 _) (hv2.put o2 rfl 1 _) hg0 Hdk.out (by omega)).mono ?_
      rintro e W5 ⟨_, rfl, ⟨q3, r3, rfl, hq3, _⟩, hb5⟩
      obtain ⟨b3, p3, t3, rfl, _, _, _⟩ := hq3.any
      have hq1 := hq1.put o2 rfl 1 (.slice b2 p2 t2)
      have hq2 := hq2.put o2 rfl 1 (.slice b2 p2 t2)
      have o1 := o1.other (a := ⟨w.heap.size + 1, 1, none⟩) (by simp) (.slice b2 p2 t2)
      have o3 := o3.other (a := ⟨w.heap.size + 1, 1, none⟩) (by simp) (.slice b2 p2 t2)
      have o2 := o2.set 1 (.slice b2 p2 t2)
      have hB := hB.setCell (p := ⟨w.heap.size + 1, 1, none⟩) (Nat.le_succ _) (.slice b2 p2 t2)
      clear co10 co11 fo1 co20 co21 fo2
      have hB := hB.trans (hb5.mono hB.size)
      have o1 := o1.below hb5 o1.lt
      have o2 := o2.below hb5 o2.lt
      have o3 := o3.below hb5 o3.lt
      have hq1 := hq1.below hb5 (Nat.le_refl _); have hq2 := hq2.below hb5 (Nat.le_refl _)
      go_wp2_with fail
      go_meet
      refine ⟨.slice b1 p1 t1, .slice b2 p2 t2, _, rfl, hq1, hq2, hq3, ?_, ?_, o3, hB⟩
      · rw [Hsa.out]; exact o1
      · rw [Hsb.out]; exact o2
  case rest =>
    obtain ⟨m1, m2, m3, rfl, n1, n2, n3, o1, o2, o3, hB⟩ := hcut
    obtain ⟨b1, p1, t1, rfl, _, _, _⟩ := n1.any
    obtain ⟨b2, p2, t2, rfl, _, _, _⟩ := n2.any
    obtain ⟨b3, p3, t3, rfl, _, _, _⟩ := n3.any
    have hmk := num_mk (w := wc) (m3 := if d / g = 1 then .slice none 0 0 else .slice b3 p3 t3) hd HG.out n1 n2 (by rcases Decidable.em (d / g = 1) with h | h; (rw [if_pos h, if_pos h]; exact NatRep.zero); (rw [if_neg h, if_neg h]; exact n3))
    generalize hsa2 : decide (a < 0) = sa2 at *
    generalize hsb2 : decide (b < 0) = sb2 at *
    clear hsa2 hsb2 Hsa Hsb
    by_cases hd1 : d / g = 1
    · rw [if_pos hd1] at hmk
      obtain ⟨db, hdb⟩ : ∃ db, db = decide (d / g = 1) := ⟨_, rfl⟩
      have hdb' : db = true := by rw [hdb]; simp [hd1]
      have Hdb := Lib.hid hdb
      clear hdb hd1
      have fo1 := o1.free; have co10 := o1.cell 0 _ rfl; have co11 := o1.cell 1 _ rfl; have fo2 := o2.free; have co20 := o2.cell 0 _ rfl; have co21 := o2.cell 1 _ rfl; have fo3 := o3.free; have co30 := o3.cell 0 _ rfl; have co31 := o3.cell 1 _ rfl; have co32 := o3.cell 2 _ rfl; have co33 := o3.cell 3 _ rfl; have co34 := o3.cell 4 _ rfl
      go_wp2_with fail
      refine (one_spec _ (d / g) wc n3).mono ?_
      rintro e W6 ⟨_, rfl, rfl, rfl⟩
      rw [← Hdb.out]
      subst hdb'
      go_wp2_with fail
      refine bodyPost_ret (v := .agg #[.bool sa2, .slice b1 p1 t1, .bool sb2, .slice b2 p2 t2, .slice none 0 0]) (by simp [results, Tryz.results91, go_sem, co30, co31, co32, co33, co34]) rfl ⟨_, rfl, num_ret hmk o3, below5 hB (by omega)⟩
    · rw [if_neg hd1] at hmk
      obtain ⟨db, hdb⟩ : ∃ db, db = decide (d / g = 1) := ⟨_, rfl⟩
      have hdb' : db = false := by rw [hdb]; simp [hd1]
      have Hdb := Lib.hid hdb
      clear hdb hd1
      have fo1 := o1.free; have co10 := o1.cell 0 _ rfl; have co11 := o1.cell 1 _ rfl; have fo2 := o2.free; have co20 := o2.cell 0 _ rfl; have co21 := o2.cell 1 _ rfl; have fo3 := o3.free; have co30 := o3.cell 0 _ rfl; have co31 := o3.cell 1 _ rfl; have co32 := o3.cell 2 _ rfl; have co33 := o3.cell 3 _ rfl; have co34 := o3.cell 4 _ rfl
      go_wp2_with fail
      refine (one_spec _ (d / g) wc n3).mono ?_
      rintro e W6 ⟨_, rfl, rfl, rfl⟩
      rw [← Hdb.out]
      subst hdb'
      go_wp2_with fail
      refine bodyPost_ret (v := .agg #[.bool sa2, .slice b1 p1 t1, .bool sb2, .slice b2 p2 t2, .slice b3 p3 t3]) (by simp [results, Tryz.results91, go_sem, co30, co31, co32, co33, co34]) rfl ⟨_, rfl, num_ret hmk o3, below5 hB (by omega)⟩
end Go.Proofs.YtfkogkcpndaoeaaGreat
