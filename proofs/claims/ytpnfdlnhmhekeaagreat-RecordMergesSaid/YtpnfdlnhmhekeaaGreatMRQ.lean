/- The reference's numbers: IntSub, Make. Conditions: fewer than 2^43 bits. -/
import Derived.Test.YtpnfdlnhmhekeaaGreatMNumD
import Derived.Test.YtpnfdlnhmhekeaaGreatMRInt
set_option linter.unusedSimpArgs false
set_option linter.unusedVariables false
set_option linter.all false
namespace Go.Proofs.YtpnfdlnhmhekeaaGreat
open Go.RowKit

/-- `v` is a number of the reference: (a + b i) / d in lowest terms. -/
def RTri (w : World) (v : Value) (a b : Int) (d : Nat) : Prop :=
  ∃ (m1 m2 m3 : Value), v = .agg #[.bool (decide (a < 0)), m1, .bool (decide (b < 0)), m2, m3] ∧ NatRep w m1 a.natAbs ∧ NatRep w m2 b.natAbs ∧ NatRep w m3 d ∧ Low a b d
/-- `v` is the reference's number x. -/
def QRep (w : World) (v : Value) (x : CQ) : Prop := ∃ (a b : Int) (d : Nat), RTri w v a b d ∧ x = cq a b d

theorem RTri.below {B : Nat} {w w' : World} {v : Value} {a b : Int} {d : Nat} (h : RTri w v a b d) (hb : Below B w w') (hB : w.heap.size ≤ B) : RTri w' v a b d := by
  obtain ⟨m1, m2, m3, e, h1, h2, h3, h4⟩ := h
  exact ⟨m1, m2, m3, e, h1.below hb hB, h2.below hb hB, h3.below hb hB, h4⟩
theorem QRep.below {B : Nat} {w w' : World} {v : Value} {x : CQ} (h : QRep w v x) (hb : Below B w w') (hB : w.heap.size ≤ B) : QRep w' v x := by
  obtain ⟨a, b, d, h1, h2⟩ := h
  exact ⟨a, b, d, h1.below hb hB, h2⟩
theorem QRep.put {w : World} {g : Nat} {E : TypeId} {cs : List Value} {v : Value} {x : CQ} (h : QRep w v x) (ho : Own w E g cs) (hn : cs.all noU = true) (i : Nat) (u : Value) : QRep (w.setCell ⟨g, i, none⟩ u) v x := by
  obtain ⟨a, b, d, ⟨m1, m2, m3, e, h1, h2, h3, h4⟩, hx⟩ := h
  exact ⟨a, b, d, ⟨m1, m2, m3, e, h1.put ho hn i u, h2.put ho hn i u, h3.put ho hn i u, h4⟩, hx⟩

/-- A number of the reference with all that is known of it. -/
structure QAll (w : World) (v : Value) (x : CQ) (a b : Int) (d : Nat) (s1 s2 : Bool) (a1 a2 a3 : Option Addr) (l1 c1 l2 c2 l3 c3 : Nat) : Prop where
  e : v = .agg #[.bool s1, .slice a1 l1 c1, .bool s2, .slice a2 l2 c2, .slice a3 l3 c3]
  wa : WholeRep w (.agg #[.bool s1, .slice a1 l1 c1]) a
  wb : WholeRep w (.agg #[.bool s2, .slice a2 l2 c2]) b
  na : NatRep w (.slice a1 l1 c1) a.natAbs
  nb : NatRep w (.slice a2 l2 c2) b.natAbs
  nd : NatRep w (.slice a3 l3 c3) d
  low : Low a b d
  x : x = cq a b d
  la : l1 = 0 ↔ a = 0
  lb : l2 = 0 ↔ b = 0
  sa : s1 = decide (a < 0)
  sb : s2 = decide (b < 0)

theorem QRep.all {w : World} {v : Value} {x : CQ} (h : QRep w v x) : ∃ (a b : Int) (d : Nat) (s1 s2 : Bool) (a1 a2 a3 : Option Addr) (l1 c1 l2 c2 l3 c3 : Nat), QAll w v x a b d s1 s2 a1 a2 a3 l1 c1 l2 c2 l3 c3 := by
  obtain ⟨a, b, d, ⟨m1, m2, m3, rfl, h1, h2, h3, h4⟩, rfl⟩ := h
  obtain ⟨a1, l1, c1, rfl, e1, _, _⟩ := h1.any
  obtain ⟨a2, l2, c2, rfl, e2, _, _⟩ := h2.any
  obtain ⟨a3, l3, c3, rfl, _, _, _⟩ := h3.any
  exact ⟨a, b, d, _, _, a1, a2, a3, l1, c1, l2, c2, l3, c3, rfl, ⟨_, rfl, h1⟩, ⟨_, rfl, h2⟩, h1, h2, h3, h4, rfl, by rw [e1]; omega, by rw [e2]; omega, rfl, rfl⟩
theorem QRep.open {w : World} {v : Value} {x : CQ} (h : QRep w v x) : ∃ (s0 s2 : Bool) (a1 a3 a4 : Option Addr) (l1 c1 l3 c3 l4 c4 : Nat), v = .agg #[.bool s0, .slice a1 l1 c1, .bool s2, .slice a3 l3 c3, .slice a4 l4 c4] := by
  obtain ⟨_, _, _, _, _, _, _, _, _, _, _, _, _, _, h⟩ := h.all
  exact ⟨_, _, _, _, _, _, _, _, _, _, _, h.e⟩

theorem qrep_ret {w : World} {E : TypeId} {g : Nat} {x : CQ} {s0 s2 b0 b2 : Bool} {a1 a3 a4 x1 x3 x4 : Option Addr} {l1 c1 l3 c3 l4 c4 y1 z1 y3 z3 y4 z4 : Nat}
    (h : QRep w (.agg #[.bool s0, .slice a1 l1 c1, .bool s2, .slice a3 l3 c3, .slice a4 l4 c4]) x) (o : Own w E g [.bool b0, .slice x1 y1 z1, .bool b2, .slice x3 y3 z3, .slice x4 y4 z4]) :
    QRep (((((w.setCell ⟨g, 0, none⟩ (.bool s0)).setCell ⟨g, 1, none⟩ (.slice a1 l1 c1)).setCell ⟨g, 2, none⟩ (.bool s2)).setCell ⟨g, 3, none⟩ (.slice a3 l3 c3)).setCell ⟨g, 4, none⟩ (.slice a4 l4 c4)) (.agg #[.bool s0, .slice a1 l1 c1, .bool s2, .slice a3 l3 c3, .slice a4 l4 c4]) x :=
  ((((h.put o rfl 0 _).put (o.set 0 _) rfl 1 _).put ((o.set 0 _).set 1 _) rfl 2 _).put (((o.set 0 _).set 1 _).set 2 _) rfl 3 _).put ((((o.set 0 _).set 1 _).set 2 _).set 3 _) rfl 4 _
/-- The end of a function whose result is a number of the reference. -/
theorem q_end {w W : World} {E : TypeId} {g : Nat} {x y : CQ} {s0 s2 b0 b2 : Bool} {a1 a3 a4 x1 x3 x4 : Option Addr} {l1 c1 l3 c3 l4 c4 y1 z1 y3 z3 y4 z4 : Nat}
    (h : QRep W (.agg #[.bool s0, .slice a1 l1 c1, .bool s2, .slice a3 l3 c3, .slice a4 l4 c4]) x) (o : Own W E g [.bool b0, .slice x1 y1 z1, .bool b2, .slice x3 y3 z3, .slice x4 y4 z4]) (hB : Below w.heap.size w W) (hg : w.heap.size ≤ g) (e : x = y) :
    Ret w (fun w' v' => QRep w' v' y) (.returned (.agg #[.bool s0, .slice a1 l1 c1, .bool s2, .slice a3 l3 c3, .slice a4 l4 c4])) (((((W.setCell ⟨g, 0, none⟩ (.bool s0)).setCell ⟨g, 1, none⟩ (.slice a1 l1 c1)).setCell ⟨g, 2, none⟩ (.bool s2)).setCell ⟨g, 3, none⟩ (.slice a3 l3 c3)).setCell ⟨g, 4, none⟩ (.slice a4 l4 c4)) := by
  subst e
  exact ⟨_, rfl, qrep_ret h o, below5 hB hg⟩
theorem q_pair {w W : World} {E : TypeId} {g : Nat} {x y : CQ} {r : Value} {s0 s2 b0 b2 : Bool} {a1 a3 a4 x1 x3 x4 : Option Addr} {l1 c1 l3 c3 l4 c4 y1 z1 y3 z3 y4 z4 : Nat}
    (h : QRep W (.agg #[.bool s0, .slice a1 l1 c1, .bool s2, .slice a3 l3 c3, .slice a4 l4 c4]) x) (o : Own W E g [.bool b0, .slice x1 y1 z1, .bool b2, .slice x3 y3 z3, .slice x4 y4 z4]) (hB : Below w.heap.size w W) (hg : w.heap.size ≤ g) (e : x = y) :
    Ret w (fun w' v' => ∃ u, v' = .tuple #[u, r] ∧ QRep w' u y) (.returned (.tuple #[.agg #[.bool s0, .slice a1 l1 c1, .bool s2, .slice a3 l3 c3, .slice a4 l4 c4], r])) (((((W.setCell ⟨g, 0, none⟩ (.bool s0)).setCell ⟨g, 1, none⟩ (.slice a1 l1 c1)).setCell ⟨g, 2, none⟩ (.bool s2)).setCell ⟨g, 3, none⟩ (.slice a3 l3 c3)).setCell ⟨g, 4, none⟩ (.slice a4 l4 c4)) := by
  subst e
  exact ⟨_, rfl, ⟨_, rfl, qrep_ret h o⟩, below5 hB hg⟩

/-- Whether a nat is 1, as the reference asks it. -/
theorem NatRep.isOne {w : World} {v : Value} {n : Nat} (h : NatRep w v n) : ∃ (a : Option Addr) (len cap : Nat), v = .slice a len cap ∧ len ≤ cap ∧ cap ≤ 9223372036854775807 ∧
    ((n ≠ 1 ∧ ((len : Int) == 1) = false) ∨ ∃ b o, len = 1 ∧ a = some ⟨b, o, none⟩ ∧ ∃ x : Nat, x < 4294967296 ∧ w.cell? ⟨b, o, none⟩ = some (.int .u32 (x : Int)) ∧ n = x) := by
  obtain ⟨xs, h1, h2, rfl⟩ := h
  obtain ⟨a, lx, cx, rfl, Hlx, hlcx, hmx, hX, wX⟩ := h1.any
  refine ⟨a, lx, cx, rfl, hlcx, hmx, ?_⟩
  by_cases hl : lx = 1
  · right
    subst hl
    obtain ⟨x, rfl⟩ : ∃ x, xs = [x] := List.length_eq_one_iff.1 Hlx.out
    obtain ⟨b, o, rfl, hc⟩ := hX.at (i := 0) rfl
    exact ⟨b, o, rfl, rfl, x, wX x (by simp), by simpa using hc, by simp [nval]⟩
  · left
    refine ⟨fun e => hl ?_, by simp; omega⟩
    have := norm_inj wX (ys := [1]) (by simp [Words]) h2 (by simp [Norm]) (by simpa [nval] using e)
    rw [← Hlx.out, this]; rfl

theorem q_mk {w : World} {m1 m2 m3 : Value} {s1 s2 : Bool} {a b : Int} {d g : Nat} (hd : 0 < d) (hg : g = Nat.gcd (Nat.gcd a.natAbs b.natAbs) d) (n1 : WholeRep w (.agg #[.bool s1, m1]) (a / g)) (n2 : WholeRep w (.agg #[.bool s2, m2]) (b / g)) (n3 : NatRep w m3 (d / g)) :
    QRep w (.agg #[.bool s1, m1, .bool s2, m2, m3]) (cq a b d) := by
  obtain ⟨h1, h2⟩ := cq_div hd hg.symm
  obtain ⟨k1, e1, r1⟩ := n1
  obtain ⟨k2, e2, r2⟩ := n2
  simp only [Value.agg.injEq, Array.mk.injEq, List.cons.injEq, and_true, Value.bool.injEq] at e1 e2
  obtain ⟨rfl, rfl⟩ := e1
  obtain ⟨rfl, rfl⟩ := e2
  exact ⟨a / g, b / g, d / g, ⟨_, _, _, rfl, r1, r2, n3, h1⟩, h2⟩

theorem sgn_div {a : Int} {g : Nat} (h : g ∣ a.natAbs) (hg : 0 < g) : sgn (decide (a < 0)) (a.natAbs / g) = a / g := by
  obtain ⟨h1, h2⟩ := div_abs h
  rw [← h1, ← h2 hg, sgn_self]

theorem WholeRep.sign {w : World} {s : Bool} {m : Value} {z : Int} (h : WholeRep w (.agg #[.bool s, m]) z) : s = decide (z < 0) ∧ NatRep w m z.natAbs := by
  obtain ⟨k1, e1, r1⟩ := h
  simp only [Value.agg.injEq, Array.mk.injEq, List.cons.injEq, and_true, Value.bool.injEq] at e1
  obtain ⟨rfl, rfl⟩ := e1
  exact ⟨rfl, r1⟩

set_option maxRecDepth 100000 in
set_option maxHeartbeats 1600000 in
theorem make_spec (v u x : Value) (a b : Int) (d k : Nat) (w : World) (h : WholeRep w v a) (h' : WholeRep w u b) (hx : NatRep w x d) (hd : 0 < d) (ha : a.natAbs < 2 ^ k) (hb : b.natAbs < 2 ^ k) (hdk : d < 2 ^ k) (hk : k ≤ 8796093022207) :
    Calls Tryz.prog 98 #[v, u, x] w (Ret w fun w' v' => QRep w' v' (cq a b d)) := by
  obtain ⟨s1, a1, l1, c1, rfl, -, -⟩ := h.open
  obtain ⟨s2, a2, l2, c2, rfl, -, -⟩ := h'.open
  obtain ⟨a3, l3, c3, rfl, _, _, _⟩ := hx.any
  obtain ⟨hsa, na⟩ := h.sign
  obtain ⟨hsb, nb⟩ := h'.sign
  obtain ⟨g, hg⟩ : ∃ g, g = Nat.gcd (Nat.gcd a.natAbs b.natAbs) d := ⟨_, rfl⟩
  have hg0 : 0 < g := hg ▸ gcd3_pos hd
  have hgk : g < 2 ^ k := hg ▸ gcd3_small hd hdk
  have hga : g ∣ a.natAbs := hg ▸ Nat.dvd_trans (Nat.gcd_dvd_left _ _) (Nat.gcd_dvd_left _ _)
  have hgb : g ∣ b.natAbs := hg ▸ Nat.dvd_trans (Nat.gcd_dvd_left _ _) (Nat.gcd_dvd_right _ _)
  have ea : sgn s1 (a.natAbs / g) = a / g := by rw [hsa]; exact sgn_div hga hg0
  have eb : sgn s2 (b.natAbs / g) = b / g := by rw [hsb]; exact sgn_div hgb hg0
  have HG := Lib.hid hg
  have Hgk := Lib.hid hgk
  have Ha := Lib.hid ha
  have Hb := Lib.hid hb
  have Hdk := Lib.hid hdk
  have Ea := Lib.hid ea
  have Eb := Lib.hid eb
  clear hg hgk ha hb hdk hga hgb ea eb hsa hsb
  go_enter Tryz.func98, Tryz.ntmps98
  go_upto_region 1 with (fail)
  obtain ⟨W, hW, o1, o2, o3, hB, hS⟩ := boxes3 w 55 55 57 [.bool s1, .slice a1 l1 c1] [.bool s2, .slice a2 l2 c2] [.bool false, .slice none 0 0, .bool false, .slice none 0 0, .slice none 0 0]
  rw [← hW]
  clear hW
  have k1 := na.below hB (Nat.le_refl _)
  have k2 := nb.below hB (Nat.le_refl _)
  have k3 := hx.below hB (Nat.le_refl _)
  have w1 := h.below hB (Nat.le_refl _)
  have w2 := h'.below hB (Nat.le_refl _)
  clear h h' hx na nb
  have fo1 := o1.free; have co10 := o1.cell 0 _ rfl; have co11 := o1.cell 1 _ rfl; have fo2 := o2.free; have co20 := o2.cell 0 _ rfl; have co21 := o2.cell 1 _ rfl
  go_wp2_with fail
  refine (rgcd_spec _ _ a.natAbs b.natAbs k W k1 k2 Ha.out Hb.out (by omega)).mono ?_
  rintro e W1 ⟨v1, rfl, hv1, hb1⟩
  have q3 := k3.below hb1 (Nat.le_refl _)
  go_wp2_with fail
  refine (rgcd_spec _ _ (Nat.gcd a.natAbs b.natAbs) d k W1 hv1 q3 (gcd_small Ha.out Hb.out) Hdk.out (by omega)).mono ?_
  rintro e W2 ⟨v2, rfl, hv2, hb2⟩
  rw [← HG.out] at hv2
  have hb2 := hb1.trans (hb2.mono hb1.size)
  clear co10 co11 fo1 co20 co21 fo2 q3 hv1 hb1
  have hsW2 : W.heap.size ≤ W2.heap.size := hb2.size; have hB := hB.trans (hb2.mono hB.size); have o1 := o1.below hb2 o1.lt; have o2 := o2.below hb2 o2.lt; have o3 := o3.below hb2 o3.lt; have k1 := k1.below hb2 (Nat.le_refl _); have k2 := k2.below hb2 (Nat.le_refl _); have k3 := k3.below hb2 (Nat.le_refl _); have w1 := w1.below hb2 (Nat.le_refl _); have w2 := w2.below hb2 (Nat.le_refl _); have fo1 := o1.free; have co10 := o1.cell 0 _ rfl; have co11 := o1.cell 1 _ rfl; have fo2 := o2.free; have co20 := o2.cell 0 _ rfl; have co21 := o2.cell 1 _ rfl
  obtain ⟨ag, lg, cg, rfl, hlcg, hmcg, hone⟩ := hv2.isOne
  go_upto_region 2 with (fail)
  obtain ⟨gb, hgb⟩ : ∃ gb, gb = decide (g = 1) := ⟨_, rfl⟩
  have Hgb := Lib.hid hgb
  clear hgb
  go_cut [29] (fun s wx => s = .bool gb ∧ wx = W2)
  case first =>
    rcases hone with ⟨hne, hl⟩ | ⟨b', o', rfl, rfl, x, hxb, hc, hgx⟩
    · obtain rfl : gb = false := by rw [Hgb.out]; simp [hne]
      go_wp2_with fail
      go_meet
      exact ⟨rfl, rfl⟩
    · have hgb2 : ((x : Int) == 1) = gb := by rw [Hgb.out, hgx, Bool.eq_iff_iff]; simp; omega
      clear hgx
      go_wp2_with fail
      go_meet
      exact ⟨rfl, rfl⟩
  case rest =>
    obtain ⟨rfl, rfl⟩ := hcut
    clear hone
    by_cases hg1 : g = 1
    · obtain rfl : gb = true := by rw [Hgb.out]; simp [hg1]
      have hfin := q_mk (w := wc) (m3 := .slice a3 l3 c3) hd HG.out (by rw [hg1, show ((1 : Nat) : Int) = 1 from rfl, Int.ediv_one]; exact w1) (by rw [hg1, show ((1 : Nat) : Int) = 1 from rfl, Int.ediv_one]; exact w2) (by rw [hg1, Nat.div_one]; exact k3)
      clear hg1 Ea Eb
      have fo3 := o3.free; have co30 := o3.cell 0 _ rfl; have co31 := o3.cell 1 _ rfl; have co32 := o3.cell 2 _ rfl; have co33 := o3.cell 3 _ rfl; have co34 := o3.cell 4 _ rfl
      go_wp2_with fail
      refine bodyPost_ret (by simp [results, Tryz.results98, go_sem, co30, co31, co32, co33, co34]) rfl (q_end hfin o3 hB (by omega) rfl)
    · obtain rfl : gb = false := by rw [Hgb.out]; simp [hg1]
      clear hg1
      go_wp2_with fail
      refine (rdiv_spec _ _ a.natAbs g k wc k1 hv2 hg0 Ha.out (by omega)).mono ?_
      rintro e W3 ⟨_, rfl, ⟨q1, r1, rfl, hq1, _⟩, hb3⟩
      clear co10 co11 fo1 co20 co21 fo2
      have hsW3 : wc.heap.size ≤ W3.heap.size := hb3.size; have hB := hB.trans (hb3.mono hB.size); have o1 := o1.below hb3 o1.lt; have o2 := o2.below hb3 o2.lt; have o3 := o3.below hb3 o3.lt; have k2 := k2.below hb3 (Nat.le_refl _); have k3 := k3.below hb3 (Nat.le_refl _); have hv2 := hv2.below hb3 (Nat.le_refl _); have fo1 := o1.free; have co10 := o1.cell 0 _ rfl; have co11 := o1.cell 1 _ rfl; have fo2 := o2.free; have co20 := o2.cell 0 _ rfl; have co21 := o2.cell 1 _ rfl
      go_wp2_with fail
      refine (rdiv_spec _ _ b.natAbs g k W3 k2 hv2 hg0 Hb.out (by omega)).mono ?_
      rintro e W4 ⟨_, rfl, ⟨q2, r2, rfl, hq2, _⟩, hb4⟩
      clear co10 co11 fo1 co20 co21 fo2
      have hsW4 : W3.heap.size ≤ W4.heap.size := hb4.size; have hB := hB.trans (hb4.mono hB.size); have o1 := o1.below hb4 o1.lt; have o2 := o2.below hb4 o2.lt; have o3 := o3.below hb4 o3.lt; have k3 := k3.below hb4 (Nat.le_refl _); have hv2 := hv2.below hb4 (Nat.le_refl _); have hq1 := hq1.below hb4 (Nat.le_refl _)
      go_wp2_with fail
      refine (rdiv_spec _ _ d g k W4 k3 hv2 hg0 Hdk.out (by omega)).mono ?_
      rintro e W5 ⟨_, rfl, ⟨q3, r3, rfl, hq3, _⟩, hb5⟩
      have hsW5 : W4.heap.size ≤ W5.heap.size := hb5.size; have hB := hB.trans (hb5.mono hB.size); have o1 := o1.below hb5 o1.lt; have o2 := o2.below hb5 o2.lt; have o3 := o3.below hb5 o3.lt; have hq1 := hq1.below hb5 (Nat.le_refl _); have hq2 := hq2.below hb5 (Nat.le_refl _)
      obtain ⟨b3, p3, t3, rfl, _, _, _⟩ := hq3.any
      obtain ⟨b1, p1, t1, rfl, _, _, _⟩ := hq1.any
      obtain ⟨b2, p2, t2, rfl, _, _, _⟩ := hq2.any
      clear k1 k2 k3 w1 w2 hv2
      go_upto_region 7 with (fail)
      have qo10 := o1.cell 0 _ rfl; have qo11 := o1.cell 1 _ rfl; have qo20 := o2.cell 0 _ rfl; have qo21 := o2.cell 1 _ rfl
      have o1 : Own W5.drew _ _ _ := o1; have o2 : Own W5.drew _ _ _ := o2; have o3 : Own W5.drew _ _ _ := o3; have lto1 : _ < W5.heap.size := o1.lt; have lto2 : _ < W5.heap.size := o2.lt; have lto3 : _ < W5.heap.size := o3.lt; have hB := hB.drew
      have hq1 := hq1.below ((Below.refl W5.heap.size W5).drew) (Nat.le_refl _); have hq2 := hq2.below ((Below.refl W5.heap.size W5).drew) (Nat.le_refl _); have hq3 := hq3.below ((Below.refl W5.heap.size W5).drew) (Nat.le_refl _)
      have tok1 : True := trivial
      have tok2 : True := trivial
      go_region_held3 (fun w' => w'.cell? ⟨w.heap.size, 0, none⟩ = some (.bool s1) ∧ w'.cell? ⟨w.heap.size, 1, none⟩ = some (.slice a1 l1 c1) ∧ w'.cell? ⟨w.heap.size + 1, 0, none⟩ = some (.bool s2) ∧ w'.cell? ⟨w.heap.size + 1, 1, none⟩ = some (.slice a2 l2 c2)) (first | (with_reducible exact ⟨o1.cell 0 _ rfl, o1.cell 1 _ rfl, o2.cell 0 _ rfl, o2.cell 1 _ rfl⟩) | (simp [go_sem, qo10, qo11, qo20, qo21, lto1, lto2]; done))
        (first
          | (go_at_call 132; have _t := tok1; refine (rsigned_spec _ _ (a.natAbs / g) _ hq1).mono ?_; rintro e W51 ⟨u1, rfl, hu1, hb1⟩; have hsW51 : W5.heap.size ≤ W51.heap.size := hb1.size; have hB := hB.trans (hb1.mono hB.size); have o1 := o1.below hb1 o1.lt; have o2 := o2.below hb1 o2.lt; have o3 := o3.below hb1 o3.lt; have lto1 := o1.lt; have lto2 := o2.lt; have lto3 := o3.lt; have qo10 := o1.cell 0 _ rfl; have qo11 := o1.cell 1 _ rfl; have qo20 := o2.cell 0 _ rfl; have qo21 := o2.cell 1 _ rfl; have hq1 := hq1.below hb1 (Nat.le_refl _); have hq2 := hq2.below hb1 (Nat.le_refl _); have hq3 := hq3.below hb1 (Nat.le_refl _); clear tok1 _t)
          | (go_at_call 132; have _t := tok2; refine (rsigned_spec _ _ (b.natAbs / g) _ hq2).mono ?_; rintro e W52 ⟨u2, rfl, hu2, hb2⟩; have hsW52 : W51.heap.size ≤ W52.heap.size := hb2.size; have hB := hB.trans (hb2.mono hB.size); have o1 := o1.below hb2 o1.lt; have o2 := o2.below hb2 o2.lt; have o3 := o3.below hb2 o3.lt; have lto1 := o1.lt; have lto2 := o2.lt; have lto3 := o3.lt; have qo10 := o1.cell 0 _ rfl; have qo11 := o1.cell 1 _ rfl; have qo20 := o2.cell 0 _ rfl; have qo21 := o2.cell 1 _ rfl; have hq1 := hq1.below hb2 (Nat.le_refl _); have hq2 := hq2.below hb2 (Nat.le_refl _); have hq3 := hq3.below hb2 (Nat.le_refl _); have hu1 := hu1.below hb2 (Nat.le_refl _); rw [Ea.out] at hu1; rw [Eb.out] at hu2; obtain ⟨t1, e1, e2, e3, rfl, _, _⟩ := hu1.open; obtain ⟨t2, f1, f2, f3, rfl, _, _⟩ := hu2.open; have fo3 := o3.free; have co30 := o3.cell 0 _ rfl; have co31 := o3.cell 1 _ rfl; have co32 := o3.cell 2 _ rfl; have co33 := o3.cell 3 _ rfl; have co34 := o3.cell 4 _ rfl; clear tok2 _t))
      go_wp2_with fail
      refine bodyPost_ret (by simp [results, Tryz.results98, go_sem, co30, co31, co32, co33, co34]) rfl (q_end (q_mk hd HG.out hu1 hu2 hq3) o3 hB (by omega) rfl)
end Go.Proofs.YtpnfdlnhmhekeaaGreat
