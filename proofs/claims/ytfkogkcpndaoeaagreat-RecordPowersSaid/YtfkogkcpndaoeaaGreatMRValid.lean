/- The reference's numbers: Neg, Sub, Zero, Im, Sign, Cmp, Real, Positive. Conditions: bits. The reference's ValidFreqs, ports, ValidWaves. Conditions: bits of the frequencies. The reference's ports, ValidWaves. Conditions: bits of the frequencies. -/
import Derived.Test.YtfkogkcpndaoeaaGreatMPut
import Derived.Test.YtfkogkcpndaoeaaGreatMRQB
import Derived.Test.YtfkogkcpndaoeaaGreatMVWaves
set_option linter.all false
namespace Go.Proofs.YtfkogkcpndaoeaaGreat
open Go.RowKit
theorem q_of {w : World} {s1 s2 : Bool} {u v3 v4 : Value} {a b : Int} {d : Nat} (ha : WholeRep w (.agg #[.bool s1, u]) a) (hb : WholeRep w (.agg #[.bool s2, v3]) b) (hd : NatRep w v4 d) (hl : Low a b d) :
    QRep w (.agg #[.bool s1, u, .bool s2, v3, v4]) (cq a b d) := by
  obtain ⟨e1, h1⟩ := ha.sign
  obtain ⟨e2, h2⟩ := hb.sign
  subst e1 e2
  exact ⟨a, b, d, ⟨_, _, _, rfl, h1, h2, hd, hl⟩, rfl⟩
set_option maxRecDepth 100000 in
set_option maxHeartbeats 800000 in
theorem qneg_spec (v : Value) (x : CQ) (w : World) (h : QRep w v x) :
    Calls Tryz.prog 165 #[v] w (Ret w fun w' v' => QRep w' v' x.neg) := by
  obtain ⟨a, b, d, s1, s2, a1, a2, a3, l1, c1, l2, c2, l3, c3, H⟩ := h.all
  obtain ⟨rfl, wa, wb, -, -, nd, low, rfl, -, -, -, -⟩ := H
  clear h
  go_enter Tryz.func165, Tryz.ntmps165
  go_upto_region 1 with (fail)
  obtain ⟨W, hW, o1, o3, hB, hS⟩ := boxes2 w 46 46 [.bool s1, .slice a1 l1 c1, .bool s2, .slice a2 l2 c2, .slice a3 l3 c3] [.bool false, .slice none 0 0, .bool false, .slice none 0 0, .slice none 0 0]
  rw [← hW]
  clear hW
  have qo10 := o1.cell 0 _ rfl; have qo11 := o1.cell 1 _ rfl; have qo12 := o1.cell 2 _ rfl; have qo13 := o1.cell 3 _ rfl; have qo14 := o1.cell 4 _ rfl
  have o1 : Own W.drew _ _ _ := o1; have o3 : Own W.drew _ _ _ := o3; have lto1 : _ < W.heap.size := o1.lt; have lto3 : _ < W.heap.size := o3.lt; have hB := hB.drew
  have wa := wa.below hB (Nat.le_refl _); have wb := wb.below hB (Nat.le_refl _); have nd := nd.below hB (Nat.le_refl _)
  have tok1 : True := trivial
  have tok2 : True := trivial
  go_region_held3 (fun w' => w'.cell? ⟨w.heap.size, 0, none⟩ = some (.bool s1) ∧ w'.cell? ⟨w.heap.size, 1, none⟩ = some (.slice a1 l1 c1) ∧ w'.cell? ⟨w.heap.size, 2, none⟩ = some (.bool s2) ∧ w'.cell? ⟨w.heap.size, 3, none⟩ = some (.slice a2 l2 c2) ∧ w'.cell? ⟨w.heap.size, 4, none⟩ = some (.slice a3 l3 c3)) (first | (with_reducible exact ⟨o1.cell 0 _ rfl, o1.cell 1 _ rfl, o1.cell 2 _ rfl, o1.cell 3 _ rfl, o1.cell 4 _ rfl⟩) | (simp [go_sem, qo10, qo11, qo12, qo13, qo14, lto1]; done))
    (first
      | (go_at_call 98; have _t := tok1; refine (rminus_spec _ a _ wa).mono ?_; rintro e W1 ⟨u1, rfl, hu1, hb1⟩; have hsW1 : W.heap.size ≤ W1.heap.size := hb1.size; have hB := hB.trans (hb1.mono hB.size); have o1 := o1.below hb1 o1.lt; have o3 := o3.below hb1 o3.lt; have lto1 := o1.lt; have lto3 := o3.lt; have qo10 := o1.cell 0 _ rfl; have qo11 := o1.cell 1 _ rfl; have qo12 := o1.cell 2 _ rfl; have qo13 := o1.cell 3 _ rfl; have qo14 := o1.cell 4 _ rfl; have wa := wa.below hb1 (Nat.le_refl _); have wb := wb.below hb1 (Nat.le_refl _); have nd := nd.below hb1 (Nat.le_refl _); obtain ⟨x1, y1, z1, e1, rfl, _, _⟩ := hu1.open; clear tok1 _t)
      | (go_at_call 98; have _t := tok2; refine (rminus_spec _ b _ wb).mono ?_; rintro e W2 ⟨u2, rfl, hu2, hb2⟩; have hsW2 : W1.heap.size ≤ W2.heap.size := hb2.size; have hB := hB.trans (hb2.mono hB.size); have o1 := o1.below hb2 o1.lt; have o3 := o3.below hb2 o3.lt; have lto1 := o1.lt; have lto3 := o3.lt; have qo10 := o1.cell 0 _ rfl; have qo11 := o1.cell 1 _ rfl; have qo12 := o1.cell 2 _ rfl; have qo13 := o1.cell 3 _ rfl; have qo14 := o1.cell 4 _ rfl; have wa := wa.below hb2 (Nat.le_refl _); have wb := wb.below hb2 (Nat.le_refl _); have nd := nd.below hb2 (Nat.le_refl _); have hu1 := hu1.below hb2 (Nat.le_refl _); obtain ⟨x2, y2, z2, e2, rfl, _, _⟩ := hu2.open; have fo3 := o3.free; have co30 := o3.cell 0 _ rfl; have co31 := o3.cell 1 _ rfl; have co32 := o3.cell 2 _ rfl; have co33 := o3.cell 3 _ rfl; have co34 := o3.cell 4 _ rfl; clear tok2 _t))
  go_wp2_with fail
  exact bodyPost_ret (by simp [results, Tryz.results165, go_sem, co30, co31, co32, co33, co34]) rfl (q_end (q_of hu1 hu2 nd (low_neg low)) o3 hB (by omega) cq_neg.symm)
set_option maxRecDepth 100000 in
set_option maxHeartbeats 800000 in
theorem qsub_spec (v u : Value) (x y : CQ) (k : Nat) (w : World) (h : QRep w v x) (h' : QRep w u y) (hs : Small k x) (hs' : Small k y) (hk : k ≤ 1099511627776) :
    Calls Tryz.prog 109 #[v, u] w (Ret w fun w' v' => QRep w' v' (x.sub y)) := by
  obtain ⟨s1, s2, a1, a2, a3, l1, c1, l2, c2, l3, c3, rfl⟩ := h.open
  obtain ⟨t1, t2, p1, p2, p3, m1, n1, m2, n2, m3, n3, rfl⟩ := h'.open
  go_enter Tryz.func109, Tryz.ntmps109
  go_upto_region 1 with (fail)
  obtain ⟨W, hW, o1, o2, o3, hB, hS⟩ := boxes3 w 46 46 46 [.bool s1, .slice a1 l1 c1, .bool s2, .slice a2 l2 c2, .slice a3 l3 c3] [.bool t1, .slice p1 m1 n1, .bool t2, .slice p2 m2 n2, .slice p3 m3 n3] [.bool false, .slice none 0 0, .bool false, .slice none 0 0, .slice none 0 0]
  rw [← hW]
  clear hW
  have qo10 := o1.cell 0 _ rfl; have qo11 := o1.cell 1 _ rfl; have qo12 := o1.cell 2 _ rfl; have qo13 := o1.cell 3 _ rfl; have qo14 := o1.cell 4 _ rfl; have qo20 := o2.cell 0 _ rfl; have qo21 := o2.cell 1 _ rfl; have qo22 := o2.cell 2 _ rfl; have qo23 := o2.cell 3 _ rfl; have qo24 := o2.cell 4 _ rfl
  have o1 : Own W.drew _ _ _ := o1; have o2 : Own W.drew _ _ _ := o2; have o3 : Own W.drew _ _ _ := o3; have lto1 : _ < W.heap.size := o1.lt; have lto2 : _ < W.heap.size := o2.lt; have lto3 : _ < W.heap.size := o3.lt; have hB := hB.drew
  have h := h.below hB (Nat.le_refl _); have h' := h'.below hB (Nat.le_refl _)
  have tok1 : True := trivial
  have tok2 : True := trivial
  go_region_held3 (fun w' => w'.cell? ⟨w.heap.size, 0, none⟩ = some (.bool s1) ∧ w'.cell? ⟨w.heap.size, 1, none⟩ = some (.slice a1 l1 c1) ∧ w'.cell? ⟨w.heap.size, 2, none⟩ = some (.bool s2) ∧ w'.cell? ⟨w.heap.size, 3, none⟩ = some (.slice a2 l2 c2) ∧ w'.cell? ⟨w.heap.size, 4, none⟩ = some (.slice a3 l3 c3) ∧ w'.cell? ⟨w.heap.size + 1, 0, none⟩ = some (.bool t1) ∧ w'.cell? ⟨w.heap.size + 1, 1, none⟩ = some (.slice p1 m1 n1) ∧ w'.cell? ⟨w.heap.size + 1, 2, none⟩ = some (.bool t2) ∧ w'.cell? ⟨w.heap.size + 1, 3, none⟩ = some (.slice p2 m2 n2) ∧ w'.cell? ⟨w.heap.size + 1, 4, none⟩ = some (.slice p3 m3 n3)) (first | (with_reducible exact ⟨o1.cell 0 _ rfl, o1.cell 1 _ rfl, o1.cell 2 _ rfl, o1.cell 3 _ rfl, o1.cell 4 _ rfl, o2.cell 0 _ rfl, o2.cell 1 _ rfl, o2.cell 2 _ rfl, o2.cell 3 _ rfl, o2.cell 4 _ rfl⟩) | (simp [go_sem, qo10, qo11, qo12, qo13, qo14, qo20, qo21, qo22, qo23, qo24, lto1, lto2]; done))
    (first
      | (go_at_call 165; have _t := tok1; refine (qneg_spec _ y _ h').mono ?_; rintro e W1 ⟨u1, rfl, hu1, hb1⟩; have hsW1 : W.heap.size ≤ W1.heap.size := hb1.size; have hB := hB.trans (hb1.mono hB.size); have o1 := o1.below hb1 o1.lt; have o2 := o2.below hb1 o2.lt; have o3 := o3.below hb1 o3.lt; have lto1 := o1.lt; have lto2 := o2.lt; have lto3 := o3.lt; have qo10 := o1.cell 0 _ rfl; have qo11 := o1.cell 1 _ rfl; have qo12 := o1.cell 2 _ rfl; have qo13 := o1.cell 3 _ rfl; have qo14 := o1.cell 4 _ rfl; have qo20 := o2.cell 0 _ rfl; have qo21 := o2.cell 1 _ rfl; have qo22 := o2.cell 2 _ rfl; have qo23 := o2.cell 3 _ rfl; have qo24 := o2.cell 4 _ rfl; have h := h.below hb1 (Nat.le_refl _); have h' := h'.below hb1 (Nat.le_refl _); clear tok1 _t)
      | (go_at_call 122; have _t := tok2; refine (qadd_spec _ _ x y.neg k _ h hu1 hs hs'.neg hk).mono ?_; rintro e W2 ⟨u8, rfl, hu8, hb2⟩; have hsW2 : W1.heap.size ≤ W2.heap.size := hb2.size; have hB := hB.trans (hb2.mono hB.size); have o1 := o1.below hb2 o1.lt; have o2 := o2.below hb2 o2.lt; have o3 := o3.below hb2 o3.lt; have lto1 := o1.lt; have lto2 := o2.lt; have lto3 := o3.lt; have qo10 := o1.cell 0 _ rfl; have qo11 := o1.cell 1 _ rfl; have qo12 := o1.cell 2 _ rfl; have qo13 := o1.cell 3 _ rfl; have qo14 := o1.cell 4 _ rfl; have qo20 := o2.cell 0 _ rfl; have qo21 := o2.cell 1 _ rfl; have qo22 := o2.cell 2 _ rfl; have qo23 := o2.cell 3 _ rfl; have qo24 := o2.cell 4 _ rfl; have h := h.below hb2 (Nat.le_refl _); have h' := h'.below hb2 (Nat.le_refl _); have hu1 := hu1.below hb2 (Nat.le_refl _); obtain ⟨_, _, _, _, _, _, _, _, _, _, _, rfl⟩ := hu8.open; have fo3 := o3.free; have co30 := o3.cell 0 _ rfl; have co31 := o3.cell 1 _ rfl; have co32 := o3.cell 2 _ rfl; have co33 := o3.cell 3 _ rfl; have co34 := o3.cell 4 _ rfl; clear tok2 _t))
  go_wp2_with fail
  exact bodyPost_ret (by simp [results, Tryz.results109, go_sem, co30, co31, co32, co33, co34]) rfl (q_end hu8 o3 hB (by omega) (CQ.sub_eq x y).symm)
def cqZero (x : CQ) : Bool := decide (x.re = 0) && decide (x.im = 0)
set_option maxHeartbeats 400000 in
theorem qzero_spec (v : Value) (x : CQ) (w : World) (h : QRep w v x) :
    Calls Tryz.prog 144 #[v] w (Ret w fun _ v' => v' = .bool (cqZero x)) := by
  obtain ⟨a, b, d, s1, s2, a1, a2, a3, l1, c1, l2, c2, l3, c3, H⟩ := h.all
  obtain ⟨rfl, -, -, -, -, -, low, rfl, la, lb, -, -⟩ := H
  have e1 : ((l1 : Int) == 0) = decide ((cq a b d).re = 0) := by
    rw [Bool.eq_iff_iff, beq_iff_eq, decide_eq_true_iff, re_zero low.1, ← la]; omega
  have e2 : ((l2 : Int) == 0) = decide ((cq a b d).im = 0) := by
    rw [Bool.eq_iff_iff, beq_iff_eq, decide_eq_true_iff, im_zero low.1, ← lb]; omega
  have HR := Lib.hid (show cqZero (cq a b d) = (decide ((cq a b d).re = 0) && decide ((cq a b d).im = 0)) from rfl)
  generalize cqZero (cq a b d) = res at *
  generalize decide ((cq a b d).im = 0) = r2 at *
  generalize decide ((cq a b d).re = 0) = r1 at *
  clear la lb low h
  go_enter Tryz.func144, Tryz.ntmps144
  cases r1
  · go_wp2
    go_ret
    exact ⟨_, rfl, congrArg Value.bool (by rw [HR.out]; rfl), (Below.refl _ _).alloc (Nat.le_refl _) _⟩
  · go_wp2
    go_ret
    exact ⟨_, rfl, congrArg Value.bool (by rw [HR.out]; simp), (Below.refl _ _).alloc (Nat.le_refl _) _⟩
set_option maxRecDepth 100000 in
set_option maxHeartbeats 800000 in
theorem qim_spec (v : Value) (x : CQ) (k : Nat) (w : World) (h : QRep w v x) (hs : Small k x) (hk : k ≤ 1099511627776) :
    Calls Tryz.prog 110 #[v] w (Ret w fun w' v' => QRep w' v' ⟨x.im, 0⟩) := by
  obtain ⟨a, b, d, s1, s2, a1, a2, a3, l1, c1, l2, c2, l3, c3, H⟩ := h.all
  obtain ⟨rfl, wa, wb, -, -, nd, low, rfl, -, -, -, -⟩ := H
  obtain ⟨hs1, hs2, hs3⟩ := hs.low low
  have hfin : cq b 0 d = ⟨(cq a b d).im, 0⟩ := CQ.ext rfl (show ((0 : Int) : Rat) / _ = 0 by rw [Rat.div_def]; simp)
  have HF := Lib.hid hfin
  clear hfin h
  go_enter Tryz.func110, Tryz.ntmps110
  go_upto_region 1 with (fail)
  obtain ⟨W, hW, o1, o3, hB, hS⟩ := boxes2 w 46 46 [.bool s1, .slice a1 l1 c1, .bool s2, .slice a2 l2 c2, .slice a3 l3 c3] [.bool false, .slice none 0 0, .bool false, .slice none 0 0, .slice none 0 0]
  rw [← hW]
  clear hW
  have wb := wb.below hB (Nat.le_refl _); have nd := nd.below hB (Nat.le_refl _)
  have fo1 := o1.free; have co10 := o1.cell 0 _ rfl; have co11 := o1.cell 1 _ rfl; have co12 := o1.cell 2 _ rfl; have co13 := o1.cell 3 _ rfl; have co14 := o1.cell 4 _ rfl
  go_wp2_with fail
  refine (make_spec _ _ _ b 0 d k W wb whole_zero nd low.1 hs2 (Nat.two_pow_pos k) hs3 (by omega)).mono ?_
  rintro e W1 ⟨_, rfl, hu8, hb1⟩
  obtain ⟨_, _, _, _, _, _, _, _, _, _, _, rfl⟩ := hu8.open
  clear co10 co11 co12 co13 co14 fo1
  have hsW1 : W.heap.size ≤ W1.heap.size := hb1.size; have hB := hB.trans (hb1.mono hB.size); have o3 := o3.below hb1 o3.lt; have fo3 := o3.free; have co30 := o3.cell 0 _ rfl; have co31 := o3.cell 1 _ rfl; have co32 := o3.cell 2 _ rfl; have co33 := o3.cell 3 _ rfl; have co34 := o3.cell 4 _ rfl
  go_wp2_with fail
  exact bodyPost_ret (by simp [results, Tryz.results110, go_sem, co30, co31, co32, co33, co34]) rfl (q_end hu8 o3 hB (by omega) HF.out)
theorem rcmp_sign {a : Int} {d : Nat} (h : 0 < d) : rcmp ((a : Rat) / ((d : Int) : Rat)) 0 = icmp a 0 := by
  have := rcmp_eq (a := a) (A := 0) (D := 1) h (by omega)
  have e : ((0 : Int) : Rat) / (((1 : Nat) : Int) : Rat) = 0 := by rw [Rat.div_def]; simp
  rw [e] at this
  rw [← this]
  simp
set_option maxHeartbeats 400000 in
theorem qsign_spec (v : Value) (x : CQ) (w : World) (h : QRep w v x) :
    Calls Tryz.prog 54 #[v] w (Ret w fun _ v' => v' = .int .i64 (rcmp x.re 0)) := by
  obtain ⟨a, b, d, s1, s2, a1, a2, a3, l1, c1, l2, c2, l3, c3, H⟩ := h.all
  obtain ⟨rfl, -, -, -, -, -, low, rfl, la, -, sa, -⟩ := H
  have e : rcmp (cq a b d).re 0 = icmp a 0 := rcmp_sign low.1
  rw [e]
  have F1 := Lib.hid (show s1 = true → icmp a 0 = -1 from fun h1 => by
    rw [sa, decide_eq_true_iff] at h1
    unfold icmp; rw [if_pos h1])
  have F2 := Lib.hid (show s1 = false → 0 < l1 → icmp a 0 = 1 from fun h1 h2 => by
    rw [sa, decide_eq_false_iff_not] at h1
    have : a ≠ 0 := fun e => by have := la.2 e; omega
    unfold icmp; rw [if_neg h1, if_pos (by omega)])
  have F3 := Lib.hid (show l1 = 0 → icmp a 0 = 0 from fun h1 => by
    have := la.1 h1
    subst this; decide)
  clear h la sa e low
  go_enter Tryz.func54, Tryz.ntmps54
  cases s1
  · by_cases hl : 0 < l1
    · have HF := Lib.hid (F2.out rfl hl)
      have hli : (l1 : Int) > 0 := by omega
      clear F1 F2 F3
      go_wp2
      go_ret
      exact ⟨_, rfl, int_of HF.out.symm, (Below.refl _ _).alloc (Nat.le_refl _) _⟩
    · obtain rfl : l1 = 0 := by omega
      have HF := Lib.hid (F3.out rfl)
      clear F1 F2 F3
      go_wp2
      go_ret
      exact ⟨_, rfl, int_of HF.out.symm, (Below.refl _ _).alloc (Nat.le_refl _) _⟩
  · have HF := Lib.hid (F1.out rfl)
    clear F1 F2 F3
    go_wp2
    go_ret
    exact ⟨_, rfl, int_of HF.out.symm, (Below.refl _ _).alloc (Nat.le_refl _) _⟩
theorem rcmp_sub (x y : Rat) : rcmp (x - y) 0 = rcmp x y := by
  unfold rcmp
  have h1 : x - y < 0 ↔ x < y := by constructor <;> intro h <;> grind
  have h2 : 0 < x - y ↔ y < x := by constructor <;> intro h <;> grind
  simp only [h1, h2]
set_option maxRecDepth 100000 in
set_option maxHeartbeats 800000 in
theorem rqcmp_spec (v u : Value) (x y : CQ) (k : Nat) (w : World) (h : QRep w v x) (h' : QRep w u y) (hs : Small k x) (hs' : Small k y) (hk : k ≤ 549755813887) :
    Calls Tryz.prog 55 #[v, u] w (Ret w fun _ v' => v' = .int .i64 (qcmp x y)) := by
  obtain ⟨s1, s2, a1, a2, a3, l1, c1, l2, c2, l3, c3, rfl⟩ := h.open
  obtain ⟨t1, t2, p1, p2, p3, m1, n1, m2, n2, m3, n3, rfl⟩ := h'.open
  have HS := Lib.hid (hs.sub hs')
  have HQ := Lib.hid (show qcmp x y = if rcmp (x.sub y).re 0 = 0 then rcmp (x.sub y).im 0 else rcmp (x.sub y).re 0 by
    unfold qcmp
    rw [show (x.sub y).re = x.re - y.re from rfl, show (x.sub y).im = x.im - y.im from rfl, rcmp_sub, rcmp_sub])
  generalize qcmp x y = res at *
  go_enter Tryz.func55, Tryz.ntmps55
  go_upto_region 1 with (fail)
  obtain ⟨W, hW, o1, o2, hB, hS⟩ := boxes2 w 46 46 [.bool s1, .slice a1 l1 c1, .bool s2, .slice a2 l2 c2, .slice a3 l3 c3] [.bool t1, .slice p1 m1 n1, .bool t2, .slice p2 m2 n2, .slice p3 m3 n3]
  rw [← hW]
  clear hW
  have h := h.below hB (Nat.le_refl _); have h' := h'.below hB (Nat.le_refl _)
  have fo1 := o1.free; have co10 := o1.cell 0 _ rfl; have co11 := o1.cell 1 _ rfl; have co12 := o1.cell 2 _ rfl; have co13 := o1.cell 3 _ rfl; have co14 := o1.cell 4 _ rfl; have fo2 := o2.free; have co20 := o2.cell 0 _ rfl; have co21 := o2.cell 1 _ rfl; have co22 := o2.cell 2 _ rfl; have co23 := o2.cell 3 _ rfl; have co24 := o2.cell 4 _ rfl
  go_wp2_with fail
  refine (qsub_spec _ _ x y k W h h' hs hs' (by omega)).mono ?_
  rintro e W1 ⟨_, rfl, hd, hb1⟩
  obtain ⟨q1, q2, r1, r2, r3, i1, j1, i2, j2, i3, j3, rfl⟩ := hd.open
  clear co10 co11 co12 co13 co14 fo1 co20 co21 co22 co23 co24 fo2 o1 o2 h h' hs hs'
  generalize x.sub y = dd at *
  have hsW1 : W.heap.size ≤ W1.heap.size := hb1.size; have hB := hB.trans (hb1.mono hB.size)
  go_upto_region 2 with (fail)
  obtain ⟨V, hV, o1, hBV, hSV⟩ := boxes1 W1 46 [.bool q1, .slice r1 i1 j1, .bool q2, .slice r2 i2 j2, .slice r3 i3 j3]
  rw [← hV]
  clear hV
  have hsV : W1.heap.size ≤ V.heap.size := hBV.size; have hB := hB.trans (hBV.mono hB.size); have hd := hd.below hBV (Nat.le_refl _)
  have fo1 := o1.free; have co10 := o1.cell 0 _ rfl; have co11 := o1.cell 1 _ rfl; have co12 := o1.cell 2 _ rfl; have co13 := o1.cell 3 _ rfl; have co14 := o1.cell 4 _ rfl
  go_wp2_with fail
  refine (qsign_spec _ dd V hd).mono ?_
  rintro e W2 ⟨_, rfl, rfl, hb2⟩
  clear co10 co11 co12 co13 co14 fo1
  have hsW2 : V.heap.size ≤ W2.heap.size := hb2.size; have hB := hB.trans (hb2.mono hB.size); have o1 := o1.below hb2 o1.lt; have hd := hd.below hb2 (Nat.le_refl _); have fo1 := o1.free; have co10 := o1.cell 0 _ rfl; have co11 := o1.cell 1 _ rfl; have co12 := o1.cell 2 _ rfl; have co13 := o1.cell 3 _ rfl; have co14 := o1.cell 4 _ rfl
  by_cases hc : rcmp dd.re 0 = 0
  · have HR := Lib.hid (HQ.out.trans (if_pos hc))
    clear HQ
    rw [hc]
    clear hc
    go_wp2_with fail
    refine (qim_spec _ dd (2 * k + 1) W2 hd HS.out (by omega)).mono ?_
    rintro e W3 ⟨_, rfl, hi, hb3⟩
    clear co10 co11 co12 co13 co14 fo1 o1
    have hsW3 : W2.heap.size ≤ W3.heap.size := hb3.size; have hB := hB.trans (hb3.mono hB.size)
    obtain ⟨_, _, _, _, _, _, _, _, _, _, _, rfl⟩ := hi.open
    go_wp2_with fail
    refine (qsign_spec _ _ W3 hi).mono ?_
    rintro e W4 ⟨_, rfl, rfl, hb4⟩
    have hsW4 : W3.heap.size ≤ W4.heap.size := hb4.size; have hB := hB.trans (hb4.mono hB.size)
    generalize rcmp dd.im 0 = cc at *
    go_wp2_with fail
    go_ret
    exact ⟨_, rfl, int_of HR.out.symm, hB⟩
  · have HR := Lib.hid (HQ.out.trans (if_neg hc))
    clear HQ
    have hc1 : (rcmp dd.re 0 != 0) = true := by simpa using hc
    generalize rcmp dd.re 0 = cc at *
    clear hc
    go_wp2_with fail
    go_ret
    exact ⟨_, rfl, int_of HR.out.symm, hB⟩
set_option maxRecDepth 100000 in
set_option maxHeartbeats 800000 in
theorem qreal_spec (v : Value) (x : CQ) (k : Nat) (w : World) (h : QRep w v x) (hs : Small k x) (hk : k ≤ 1099511627776) :
    Calls Tryz.prog 92 #[v] w (Ret w fun _ v' => v' = .bool (decide (x.im = 0))) := by
  obtain ⟨s1, s2, a1, a2, a3, l1, c1, l2, c2, l3, c3, rfl⟩ := h.open
  go_enter Tryz.func92, Tryz.ntmps92
  go_upto_region 1 with (fail)
  obtain ⟨W, hW, o1, hB, hS⟩ := boxes1 w 46 [.bool s1, .slice a1 l1 c1, .bool s2, .slice a2 l2 c2, .slice a3 l3 c3]
  rw [← hW]
  clear hW
  have h := h.below hB (Nat.le_refl _)
  have fo1 := o1.free; have co10 := o1.cell 0 _ rfl; have co11 := o1.cell 1 _ rfl; have co12 := o1.cell 2 _ rfl; have co13 := o1.cell 3 _ rfl; have co14 := o1.cell 4 _ rfl
  go_wp2_with fail
  refine (qim_spec _ x k W h hs hk).mono ?_
  rintro e W1 ⟨_, rfl, hi, hb1⟩
  clear co10 co11 co12 co13 co14 fo1 o1
  have hsW1 : W.heap.size ≤ W1.heap.size := hb1.size; have hB := hB.trans (hb1.mono hB.size)
  obtain ⟨_, _, _, _, _, _, _, _, _, _, _, rfl⟩ := hi.open
  go_wp2_with fail
  refine (qzero_spec _ _ W1 hi).mono ?_
  rintro e W2 ⟨_, rfl, rfl, hb2⟩
  have hsW2 : W1.heap.size ≤ W2.heap.size := hb2.size; have hB := hB.trans (hb2.mono hB.size)
  have HZ := Lib.hid (show cqZero ⟨x.im, 0⟩ = decide (x.im = 0) by simp [cqZero])
  generalize cqZero ⟨x.im, 0⟩ = rr at *
  go_wp2_with fail
  go_ret
  exact ⟨_, rfl, congrArg Value.bool HZ.out, hB⟩
def posR (x : CQ) : Bool := decide (x.im = 0) && decide (0 < rcmp x.re 0)
set_option maxRecDepth 100000 in
set_option maxHeartbeats 800000 in
theorem qpos_spec (v : Value) (x : CQ) (k : Nat) (w : World) (h : QRep w v x) (hs : Small k x) (hk : k ≤ 1099511627776) :
    Calls Tryz.prog 42 #[v] w (Ret w fun _ v' => v' = .bool (posR x)) := by
  obtain ⟨s1, s2, a1, a2, a3, l1, c1, l2, c2, l3, c3, rfl⟩ := h.open
  go_enter Tryz.func42, Tryz.ntmps42
  go_upto_region 1 with (fail)
  obtain ⟨W, hW, o1, hB, hS⟩ := boxes1 w 46 [.bool s1, .slice a1 l1 c1, .bool s2, .slice a2 l2 c2, .slice a3 l3 c3]
  rw [← hW]
  clear hW
  have h := h.below hB (Nat.le_refl _)
  have fo1 := o1.free; have co10 := o1.cell 0 _ rfl; have co11 := o1.cell 1 _ rfl; have co12 := o1.cell 2 _ rfl; have co13 := o1.cell 3 _ rfl; have co14 := o1.cell 4 _ rfl
  go_wp2_with fail
  refine (qreal_spec _ x k W h hs hk).mono ?_
  rintro e W1 ⟨_, rfl, rfl, hb1⟩
  clear co10 co11 co12 co13 co14 fo1
  have hsW1 : W.heap.size ≤ W1.heap.size := hb1.size; have hB := hB.trans (hb1.mono hB.size); have o1 := o1.below hb1 o1.lt; have h := h.below hb1 (Nat.le_refl _); have fo1 := o1.free; have co10 := o1.cell 0 _ rfl; have co11 := o1.cell 1 _ rfl; have co12 := o1.cell 2 _ rfl; have co13 := o1.cell 3 _ rfl; have co14 := o1.cell 4 _ rfl
  have HP := Lib.hid (show posR x = (decide (x.im = 0) && decide (0 < rcmp x.re 0)) from rfl)
  generalize decide (x.im = 0) = r1 at *
  cases r1
  · go_wp2_with fail
    go_ret
    exact ⟨_, rfl, congrArg Value.bool (by rw [HP.out]; rfl), hB⟩
  · go_wp2_with fail
    refine (qsign_spec _ x W1 h).mono ?_
    rintro e W2 ⟨_, rfl, rfl, hb2⟩
    clear co10 co11 co12 co13 co14 fo1 o1
    have hsW2 : W1.heap.size ≤ W2.heap.size := hb2.size; have hB := hB.trans (hb2.mono hB.size)
    have e3 : decide (rcmp x.re 0 > 0) = decide (0 < rcmp x.re 0) := rfl
    generalize hcc : rcmp x.re 0 = cc at *
    clear hcc
    go_wp2_with fail
    go_ret
    exact ⟨_, rfl, congrArg Value.bool (by rw [HP.out]; simp), hB⟩
end Go.Proofs.YtfkogkcpndaoeaaGreat
namespace Go.Proofs.YtfkogkcpndaoeaaGreat
open Go.RowKit
theorem rcmp_flip (x y : Rat) : rcmp y x = -rcmp x y := by
  unfold rcmp
  by_cases h1 : x < y
  · have h2 : ¬ y < x := fun h => by grind
    rw [if_neg h2, if_pos h1, if_pos h1]; rfl
  · by_cases h2 : y < x
    · rw [if_pos h2, if_neg h1, if_pos h2]
    · rw [if_neg h2, if_neg h1, if_neg h1, if_neg h2]; rfl
theorem qcmp_flip (x y : CQ) : qcmp y x = -qcmp x y := by
  unfold qcmp
  rw [rcmp_flip x.re y.re, rcmp_flip x.im y.im]
  by_cases h : rcmp x.re y.re = 0
  · rw [if_pos h, if_pos (by omega)]
  · rw [if_neg h, if_neg (by omega)]
theorem posR_eq (x : CQ) : posR x = posQ x := by
  unfold posR posQ
  by_cases h : x.im = 0
  · have h0 : (cq 0 0 1).re = 0 ∧ (cq 0 0 1).im = 0 := by
      unfold cq
      constructor <;> simp [Rat.div_def]
    unfold qcmp
    rw [h0.1, h0.2, h]
    by_cases h2 : rcmp x.re 0 = 0
    · rw [if_pos h2, h2]
      simp [rcmp]
    · rw [if_neg h2]
  · simp [h]
theorem QSl.num {w : World} {a : Option Addr} {n c i : Nat} {l : List CQ} {x : CQ} (h : QSl w (.slice a n c) l) (hi : l[i]? = some x) :
    ∃ (b o : Nat) (s0 s2 : Bool) (a1 a3 a4 : Option Addr) (l1 m1 l3 m3 l4 m4 : Nat), a = some ⟨b, o, none⟩ ∧ b < w.heap.size ∧ QRep w (.agg #[.bool s0, .slice a1 l1 m1, .bool s2, .slice a3 l3 m3, .slice a4 l4 m4]) x ∧
      w.cell? ⟨b, o + i * 5, none⟩ = some (.bool s0) ∧ w.cell? ⟨b, o + i * 5 + 1, none⟩ = some (.slice a1 l1 m1) ∧ w.cell? ⟨b, o + i * 5 + 2, none⟩ = some (.bool s2) ∧ w.cell? ⟨b, o + i * 5 + 3, none⟩ = some (.slice a3 l3 m3) ∧ w.cell? ⟨b, o + i * 5 + 4, none⟩ = some (.slice a4 l4 m4) := by
  obtain ⟨b, o, u, e, hu, hR, hc⟩ := h.1.get hi
  have hR2 : QRep w (.agg u.toArray) x := hR
  obtain ⟨s0, s2, a1, a3, a4, l1, m1, l3, m3, l4, m4, hx1⟩ := hR2.open
  have hv1 : u = [.bool s0, .slice a1 l1 m1, .bool s2, .slice a3 l3 m3, .slice a4 l4 m4] := by injection hx1 with h; exact List.toArray_inj h
  subst hv1
  exact ⟨b, o, s0, s2, a1, a3, a4, l1, m1, l3, m3, l4, m4, e, World.block_lt_of_cell? w _ (hc 0 _ rfl), hR2, hc 0 _ rfl, hc 1 _ rfl, hc 2 _ rfl, hc 3 _ rfl, hc 4 _ rfl⟩
theorem QSt.mat {w : World} {a : Option Addr} {n c i : Nat} {l : List (List (List CQ))} {m : List (List CQ)} (h : QSt w (.slice a n c) l) (hi : l[i]? = some m) :
    ∃ (b o : Nat) (a' : Option Addr) (c' : Nat), a = some ⟨b, o, none⟩ ∧ b < w.heap.size ∧ w.cell? ⟨b, o + i, none⟩ = some (.slice a' m.length c') ∧ QMat w (.slice a' m.length c') m ∧ m.length ≤ c' ∧ c' ≤ 9223372036854775807 := by
  obtain ⟨b, o, u, e, hu, hR, hc⟩ := h.1.get hi
  obtain ⟨v, rfl, hv⟩ := hR
  obtain ⟨⟨a', c', rfl, h1, h2, h3⟩, h4⟩ := hv
  have hc0 := hc 0 _ rfl
  rw [Nat.mul_one, Nat.add_zero] at hc0
  exact ⟨b, o, a', c', e, World.block_lt_of_cell? w _ hc0, hc0, ⟨⟨a', c', rfl, h1, h2, h3⟩, h4⟩, h1, h2⟩
theorem QMat.list {w : World} {a : Option Addr} {n c i : Nat} {m : List (List CQ)} {r : List CQ} (h : QMat w (.slice a n c) m) (hi : m[i]? = some r) :
    ∃ (b o : Nat) (a' : Option Addr) (c' : Nat), a = some ⟨b, o, none⟩ ∧ b < w.heap.size ∧ w.cell? ⟨b, o + i, none⟩ = some (.slice a' r.length c') ∧ QSl w (.slice a' r.length c') r ∧ r.length ≤ c' ∧ c' ≤ 9223372036854775807 := by
  obtain ⟨b, o, u, e, hu, hR, hc⟩ := h.1.get hi
  obtain ⟨v, rfl, hv⟩ := hR
  obtain ⟨⟨a', c', rfl, h1, h2, h3⟩, h4⟩ := hv
  have hc0 := hc 0 _ rfl
  rw [Nat.mul_one, Nat.add_zero] at hc0
  exact ⟨b, o, a', c', e, World.block_lt_of_cell? w _ hc0, hc0, ⟨⟨a', c', rfl, h1, h2, h3⟩, h4⟩, h1, h2⟩
theorem QSt.dims {w : World} {v : Value} {l : List (List (List CQ))} (h : QSt w v l) : ∃ a c, v = .slice a l.length c ∧ l.length ≤ c ∧ c ≤ 9223372036854775807 := by
  obtain ⟨⟨a, c, h1, h2, h3, _⟩, _⟩ := h
  exact ⟨a, c, h1, h2, h3⟩
theorem QMat.dims {w : World} {v : Value} {l : List (List CQ)} (h : QMat w v l) : ∃ a c, v = .slice a l.length c ∧ l.length ≤ c ∧ c ≤ 9223372036854775807 := by
  obtain ⟨⟨a, c, h1, h2, h3, _⟩, _⟩ := h
  exact ⟨a, c, h1, h2, h3⟩
theorem QSl.dims {w : World} {v : Value} {l : List CQ} (h : QSl w v l) : ∃ a c, v = .slice a l.length c ∧ l.length ≤ c ∧ c ≤ 9223372036854775807 := by
  obtain ⟨⟨a, c, h1, h2, h3, _⟩, _⟩ := h
  exact ⟨a, c, h1, h2, h3⟩
set_option maxRecDepth 100000 in
set_option maxHeartbeats 3200000 in
theorem qvalidFreqs_spec (v : Value) (l : List CQ) (k : Nat) (w : World) (h : QSl w v l) (hs : ∀ x ∈ l, Small k x) (hk : k ≤ 100000) :
    Calls Tryz.prog 107 #[v] w (Ret w fun _ v' => v' = .bool (vfB l)) := by
  obtain ⟨n, hln⟩ : ∃ n, l.length = n := ⟨_, rfl⟩
  obtain ⟨a, c, rfl, hc, hc2⟩ := h.dims
  have HPo := Lib.hid (fun v x w h hx => by have := qpos_spec v x k w h (hs x hx) (by omega); rwa [posR_eq] at this)
  have HCm := Lib.hid (fun v u x y w h h' hx hy => rqcmp_spec v u x y k w h h' (hs x hx) (hs y hy) (by omega))
  have HL := Lib.hid h
  have HN := Lib.hid hln
  have HF := Lib.hid (fun i hi => vf_no (l := l) (i := i) hi)
  have HT := Lib.hid (show (List.range n).all (vfStep l) = true → (1 ≤ n ∧ n ≤ 1024) → vfB l = true from fun h h2 => by unfold vfB; rw [hln, h]; unfold inR; simp; omega)
  have HO := Lib.hid (show ¬ (1 ≤ n ∧ n ≤ 1024) → vfB l = false from fun h => by unfold vfB inR; rw [hln]; simp; omega)
  rw [hln] at hc ⊢
  rw [hln] at HL
  clear h hln hs
  generalize vfB l = r at *
  by_cases hin : 1 ≤ n ∧ n ≤ 1024
  case neg =>
    obtain rfl : r = false := HO.out hin
    clear HO HT HF HL HN HPo HCm
    by_cases h1 : n < 1
    · obtain rfl : n = 0 := by omega
      go_enter Tryz.func107, Tryz.ntmps107
      go_wp2_with fail
      go_ret
      exact ⟨_, rfl, rfl, Below.refl _ _⟩
    · have hi1 : ¬ (n : Int) < 1 := by omega
      have hi2 : (n : Int) > 1024 := by omega
      go_enter Tryz.func107, Tryz.ntmps107
      go_wp2_with fail
      go_ret
      exact ⟨_, rfl, rfl, Below.refl _ _⟩
  obtain ⟨hin1, hin2⟩ := hin
  have HT := Lib.hid (fun h => HT.out h ⟨hin1, hin2⟩)
  clear HO
  have hi1 : ¬ (n : Int) < 1 := by omega
  have hi2 : ¬ (n : Int) > 1024 := by omega
  have hi3 : ¬ (1024 : Int) < (n : Int) := by omega
  go_enter Tryz.func107, Tryz.ntmps107
  go_wp2_with fail
  clear hi1 hi2 hi3
  go_loopw [3] (fun iv wr => ∃ i : Nat, i ≤ n ∧ iv = .int .i64 (i : Int) ∧ Below w.heap.size w wr ∧ Hid ((List.range i).all (vfStep l) = true)) (fun i _ => n - (intOf i).toNat)
  case atStart => exact ⟨0, by omega, rfl, Below.refl _ _, rfl⟩
  case round =>
    obtain ⟨i, hi, rfl, hB, hall⟩ := hrel
    by_cases hlt : i < n
    · obtain ⟨x, hx⟩ : ∃ x, l[i]? = some x := ⟨_, List.getElem?_eq_getElem (by have := HN.out; omega)⟩
      have HX := Lib.hid hx
      have HMX := Lib.hid (List.mem_of_getElem? hx)
      obtain ⟨b, o, s0, s2, a1, a3, a4, l1, m1, l3, m3, l4, m4, rfl, hbl, hrep, e0, e1, e2, e3, e4⟩ := (HL.out.below hB (Nat.le_refl _)).num hx
      clear hx
      have hlti : (i : Int) < (n : Int) := by omega
      have hi0 : (0 : Int) ≤ (i : Int) := by omega
      cases hp : posQ x
      · have hr : r = false := HF.out i (by have := HN.out; omega) (vfStep_pos HX.out hp)
        subst hr
        have HP := Lib.hid hp
        clear hp
        go_upto_region 6 with (fail)
        have HS := Lib.hid (show ∀ w' : World, Below wr.heap.size wr w' → w'.cell? ⟨b, o + i * 5, none⟩ = some (.bool s0) ∧ w'.cell? ⟨b, o + i * 5 + 1, none⟩ = some (.slice a1 l1 m1) ∧ w'.cell? ⟨b, o + i * 5 + 2, none⟩ = some (.bool s2) ∧ w'.cell? ⟨b, o + i * 5 + 3, none⟩ = some (.slice a3 l3 m3) ∧ w'.cell? ⟨b, o + i * 5 + 4, none⟩ = some (.slice a4 l4 m4) from fun w' hb => ⟨(hb.cell hbl).trans e0, (hb.cell hbl).trans e1, (hb.cell hbl).trans e2, (hb.cell hbl).trans e3, (hb.cell hbl).trans e4⟩)
        clear e0 e1 e2 e3 e4
        have hS := HS.out wr.drew (Below.refl _ _).drew
        have hbw : Below wr.heap.size wr wr.drew := (Below.refl _ _).drew
        have tok1 : True := trivial
        have tok2 : True := trivial
        have hr1 := hrep.below hbw (Nat.le_refl _)
        clear hbl
        have hL := True.intro
        refine wp_region_late (fun w' => w'.cell? ⟨b, o + i * 5, none⟩ = some (.bool s0) ∧ w'.cell? ⟨b, o + i * 5 + 1, none⟩ = some (.slice a1 l1 m1) ∧ w'.cell? ⟨b, o + i * 5 + 2, none⟩ = some (.bool s2) ∧ w'.cell? ⟨b, o + i * 5 + 3, none⟩ = some (.slice a3 l3 m3) ∧ w'.cell? ⟨b, o + i * 5 + 4, none⟩ = some (.slice a4 l4 m4)) (fun w' => True) (fun i => false) (by kernel_rfl) ?_; try simp only [List.size_toArray, List.length_cons, List.length_nil, Nat.reduceAdd]
        generalize wr.drew = W0 at *
        (refine mt 0 ?_ rfl (by rfl) ?_ hS ?_; rotate_left; (intro w' h; (try dsimp only at h); go_simp; try exact rfl)); simp only [Act.put,q1,q2,q3,q4,q5,q6,q7,q8,q9]; (refine mt 1 ?_ rfl (by rfl) ?_ hS ?_; rotate_left; (intro w' h; (try dsimp only at h); go_simp; try exact rfl)); simp only [Act.put,q1,q2,q3,q4,q5,q6,q7,q8,q9]; (refine mt 2 ?_ rfl (by rfl) ?_ hS ?_; rotate_left; (intro w' h; (try dsimp only at h); go_simp; try exact rfl)); simp only [Act.put,q1,q2,q3,q4,q5,q6,q7,q8,q9]; (refine mt 3 ?_ rfl (by rfl) ?_ hS ?_; rotate_left; (intro w' h; (try dsimp only at h); go_simp; try exact rfl)); simp only [Act.put,q1,q2,q3,q4,q5,q6,q7,q8,q9]
        refine mo 4 rfl fun K hK => ?_; go_simp; go_at_call 42; have _t := tok1; (with_reducible refine (HPo.out _ x W0 hr1 HMX.out).mono ?_); rw [HP.out]; rintro e V1 ⟨_, rfl, rfl, hbV1⟩; have hbw := hbw.trans (hbV1.mono hbw.size); have hr1 := hr1.below hbV1 (Nat.le_refl _); have hS := HS.out V1 hbw; clear tok1 _t; refine hK _ _ hS (fun _ _ => hL) ?_; clear hK K; (try simp only [Act.put,q1,q2,q3,q4,q5,q6,q7,q8,q9])
        (refine mt 5 ?_ rfl (by rfl) ?_ hS ?_; rotate_left; (intro w' h; (try dsimp only at h); go_simp; try exact rfl)); simp only [Act.put,q1,q2,q3,q4,q5,q6,q7,q8,q9]; (refine mt 6 ?_ rfl (by rfl) ?_ hS ?_; rotate_left; (intro w' h; (try dsimp only at h); go_simp; try exact rfl)); simp only [Act.put,q1,q2,q3,q4,q5,q6,q7,q8,q9]
        refine mk 7 rfl (by rfl) hS ?_; simp only [Act.put,q1,q2,q3,q4,q5,q6,q7,q8,q9]; refine mk 8 rfl (by rfl) hS ?_; simp only [Act.put,q1,q2,q3,q4,q5,q6,q7,q8,q9]; refine mk 9 rfl (by rfl) hS ?_; simp only [Act.put,q1,q2,q3,q4,q5,q6,q7,q8,q9]; refine mk 10 rfl (by rfl) hS ?_; simp only [Act.put,q1,q2,q3,q4,q5,q6,q7,q8,q9]; refine mk 11 rfl (by rfl) hS ?_; simp only [Act.put,q1,q2,q3,q4,q5,q6,q7,q8,q9]; refine mk 12 rfl (by rfl) hS ?_; simp only [Act.put,q1,q2,q3,q4,q5,q6,q7,q8,q9]; refine mk 13 rfl (by rfl) hS ?_; simp only [Act.put,q1,q2,q3,q4,q5,q6,q7,q8,q9]; refine mk 14 rfl (by rfl) hS ?_; simp only [Act.put,q1,q2,q3,q4,q5,q6,q7,q8,q9]; refine mk 15 rfl (by rfl) hS ?_; simp only [Act.put,q1,q2,q3,q4,q5,q6,q7,q8,q9]; refine mk 16 rfl (by rfl) hS ?_; simp only [Act.put,q1,q2,q3,q4,q5,q6,q7,q8,q9]; refine mk 17 rfl (by rfl) hS ?_; simp only [Act.put,q1,q2,q3,q4,q5,q6,q7,q8,q9]; refine mk 18 rfl (by rfl) hS ?_; simp only [Act.put,q1,q2,q3,q4,q5,q6,q7,q8,q9]; refine mk 19 rfl (by rfl) hS ?_; simp only [Act.put,q1,q2,q3,q4,q5,q6,q7,q8,q9]; refine mk 20 rfl (by rfl) hS ?_; simp only [Act.put,q1,q2,q3,q4,q5,q6,q7,q8,q9]; refine mk 21 rfl (by rfl) hS ?_; simp only [Act.put,q1,q2,q3,q4,q5,q6,q7,q8,q9]
        (refine mt 22 ?_ rfl (by rfl) ?_ hS ?_; rotate_left; (intro w' h; (try dsimp only at h); go_simp; try exact rfl)); simp only [Act.put,q1,q2,q3,q4,q5,q6,q7,q8,q9]
        refine wpAnyM_done (by kernel_rfl) ?_ _
        have hB3 := hB.trans (hbw.mono hB.size)
        go_wp2_with fail
        go_ret
        exact ⟨_, rfl, rfl, hB3⟩
      · have HP := Lib.hid hp
        clear hp
        rcases Nat.eq_zero_or_pos i with rfl | hpos
        · have hnext := Lib.hid (vf_next (vfStep_zero HX.out HP.out) hall.out)
          simp only [Nat.zero_mul, Nat.add_zero] at e0 e1 e2 e3 e4
          go_upto_region 6 with (fail)
          have HS := Lib.hid (show ∀ w' : World, Below wr.heap.size wr w' → w'.cell? ⟨b, o, none⟩ = some (.bool s0) ∧ w'.cell? ⟨b, o + 1, none⟩ = some (.slice a1 l1 m1) ∧ w'.cell? ⟨b, o + 2, none⟩ = some (.bool s2) ∧ w'.cell? ⟨b, o + 3, none⟩ = some (.slice a3 l3 m3) ∧ w'.cell? ⟨b, o + 4, none⟩ = some (.slice a4 l4 m4) from fun w' hb => ⟨(hb.cell hbl).trans e0, (hb.cell hbl).trans e1, (hb.cell hbl).trans e2, (hb.cell hbl).trans e3, (hb.cell hbl).trans e4⟩)
          clear e0 e1 e2 e3 e4
          have hS := HS.out wr.drew (Below.refl _ _).drew
          have hbw : Below wr.heap.size wr wr.drew := (Below.refl _ _).drew
          have tok1 : True := trivial
          have tok2 : True := trivial
          have hr1 := hrep.below hbw (Nat.le_refl _)
          clear hbl
          have hL := True.intro
          refine wp_region_late (fun w' => w'.cell? ⟨b, o, none⟩ = some (.bool s0) ∧ w'.cell? ⟨b, o + 1, none⟩ = some (.slice a1 l1 m1) ∧ w'.cell? ⟨b, o + 2, none⟩ = some (.bool s2) ∧ w'.cell? ⟨b, o + 3, none⟩ = some (.slice a3 l3 m3) ∧ w'.cell? ⟨b, o + 4, none⟩ = some (.slice a4 l4 m4)) (fun w' => True) (fun i => false) (by kernel_rfl) ?_; try simp only [List.size_toArray, List.length_cons, List.length_nil, Nat.reduceAdd]
          generalize wr.drew = W0 at *
          (refine mt 0 ?_ rfl (by rfl) ?_ hS ?_; rotate_left; (intro w' h; (try dsimp only at h); go_simp; try exact rfl)); simp only [Act.put,q1,q2,q3,q4,q5,q6,q7,q8,q9]; (refine mt 1 ?_ rfl (by rfl) ?_ hS ?_; rotate_left; (intro w' h; (try dsimp only at h); go_simp; try exact rfl)); simp only [Act.put,q1,q2,q3,q4,q5,q6,q7,q8,q9]; (refine mt 2 ?_ rfl (by rfl) ?_ hS ?_; rotate_left; (intro w' h; (try dsimp only at h); go_simp; try exact rfl)); simp only [Act.put,q1,q2,q3,q4,q5,q6,q7,q8,q9]; (refine mt 3 ?_ rfl (by rfl) ?_ hS ?_; rotate_left; (intro w' h; (try dsimp only at h); go_simp; try exact rfl)); simp only [Act.put,q1,q2,q3,q4,q5,q6,q7,q8,q9]
          refine mo 4 rfl fun K hK => ?_; go_simp; go_at_call 42; have _t := tok1; (with_reducible refine (HPo.out _ x W0 hr1 HMX.out).mono ?_); rw [HP.out]; rintro e V1 ⟨_, rfl, rfl, hbV1⟩; have hbw := hbw.trans (hbV1.mono hbw.size); have hr1 := hr1.below hbV1 (Nat.le_refl _); have hS := HS.out V1 hbw; clear tok1 _t; refine hK _ _ hS (fun _ _ => hL) ?_; clear hK K; (try simp only [Act.put,q1,q2,q3,q4,q5,q6,q7,q8,q9])
          (refine mt 5 ?_ rfl (by rfl) ?_ hS ?_; rotate_left; (intro w' h; (try dsimp only at h); go_simp; try exact rfl)); simp only [Act.put,q1,q2,q3,q4,q5,q6,q7,q8,q9]; (refine mt 6 ?_ rfl (by rfl) ?_ hS ?_; rotate_left; (intro w' h; (try dsimp only at h); go_simp; try exact rfl)); simp only [Act.put,q1,q2,q3,q4,q5,q6,q7,q8,q9]; (refine mt 7 ?_ rfl (by rfl) ?_ hS ?_; rotate_left; (intro w' h; (try dsimp only at h); go_simp; try exact rfl)); simp only [Act.put,q1,q2,q3,q4,q5,q6,q7,q8,q9]; (refine mt 8 ?_ rfl (by rfl) ?_ hS ?_; rotate_left; (intro w' h; (try dsimp only at h); go_simp; try exact rfl)); simp only [Act.put,q1,q2,q3,q4,q5,q6,q7,q8,q9]; (refine mt 9 ?_ rfl (by rfl) ?_ hS ?_; rotate_left; (intro w' h; (try dsimp only at h); go_simp; try exact rfl)); simp only [Act.put,q1,q2,q3,q4,q5,q6,q7,q8,q9]
          refine mk 10 rfl (by rfl) hS ?_; simp only [Act.put,q1,q2,q3,q4,q5,q6,q7,q8,q9]; refine mk 11 rfl (by rfl) hS ?_; simp only [Act.put,q1,q2,q3,q4,q5,q6,q7,q8,q9]; refine mk 12 rfl (by rfl) hS ?_; simp only [Act.put,q1,q2,q3,q4,q5,q6,q7,q8,q9]; refine mk 13 rfl (by rfl) hS ?_; simp only [Act.put,q1,q2,q3,q4,q5,q6,q7,q8,q9]; refine mk 14 rfl (by rfl) hS ?_; simp only [Act.put,q1,q2,q3,q4,q5,q6,q7,q8,q9]; refine mk 15 rfl (by rfl) hS ?_; simp only [Act.put,q1,q2,q3,q4,q5,q6,q7,q8,q9]; refine mk 16 rfl (by rfl) hS ?_; simp only [Act.put,q1,q2,q3,q4,q5,q6,q7,q8,q9]; refine mk 17 rfl (by rfl) hS ?_; simp only [Act.put,q1,q2,q3,q4,q5,q6,q7,q8,q9]; refine mk 18 rfl (by rfl) hS ?_; simp only [Act.put,q1,q2,q3,q4,q5,q6,q7,q8,q9]; refine mk 19 rfl (by rfl) hS ?_; simp only [Act.put,q1,q2,q3,q4,q5,q6,q7,q8,q9]; refine mk 20 rfl (by rfl) hS ?_; simp only [Act.put,q1,q2,q3,q4,q5,q6,q7,q8,q9]
          (refine mt 21 ?_ rfl (by rfl) ?_ hS ?_; rotate_left; (intro w' h; (try dsimp only at h); go_simp; try exact rfl)); simp only [Act.put,q1,q2,q3,q4,q5,q6,q7,q8,q9]; (refine mt 22 ?_ rfl (by rfl) ?_ hS ?_; rotate_left; (intro w' h; (try dsimp only at h); go_simp; try exact rfl)); simp only [Act.put,q1,q2,q3,q4,q5,q6,q7,q8,q9]
          refine wpAnyM_done (by kernel_rfl) ?_ _
          have hB3 := hB.trans (hbw.mono hB.size)
          go_wp2_with fail
          go_roundw
          case rel => exact ⟨1, by omega, by go_num, hB3, hnext⟩
          case measure => simp [intOf]; omega
        · obtain ⟨j, hj⟩ : ∃ j, i = j + 1 := ⟨i - 1, by omega⟩
          obtain ⟨y, hy⟩ : ∃ y, l[j]? = some y := ⟨_, List.getElem?_eq_getElem (by have := HN.out; omega)⟩
          have HY := Lib.hid hy
          have HMY := Lib.hid (List.mem_of_getElem? hy)
          obtain ⟨b', o', t0, t2, d1, d3, d4, p1, q1, p3, q3, p4, q4, hab, -, hrep2, f0, f1, f2, f3, f4⟩ := (HL.out.below hB (Nat.le_refl _)).num hy
          injection hab with hab
          injection hab with hb1 ho1 _
          subst hb1 ho1
          have HZ : Hid (vfStep l i = decide (0 < qcmp x y)) := show _ = _ by
            have := vfStep_next (i := j) (hj ▸ HX.out) HY.out HP.out
            rwa [← hj] at this
          have hwj : IntKind.i64.wrap ((i : Int) - 1) = (j : Int) := by rw [IntKind.wrap_i64]; omega
          have hgt : (0 : Int) < (i : Int) := by omega
          have hjn : (j : Int) < (n : Int) := by omega
          have hj0 : (0 : Int) ≤ (j : Int) := by omega
          have hjn' : j < n := by omega
          clear hy hj
          go_upto_region 6 with (fail)
          have HS := Lib.hid (show ∀ w' : World, Below wr.heap.size wr w' → w'.cell? ⟨b, o + i * 5, none⟩ = some (.bool s0) ∧ w'.cell? ⟨b, o + i * 5 + 1, none⟩ = some (.slice a1 l1 m1) ∧ w'.cell? ⟨b, o + i * 5 + 2, none⟩ = some (.bool s2) ∧ w'.cell? ⟨b, o + i * 5 + 3, none⟩ = some (.slice a3 l3 m3) ∧ w'.cell? ⟨b, o + i * 5 + 4, none⟩ = some (.slice a4 l4 m4) ∧ w'.cell? ⟨b, o + j * 5, none⟩ = some (.bool t0) ∧ w'.cell? ⟨b, o + j * 5 + 1, none⟩ = some (.slice d1 p1 q1) ∧ w'.cell? ⟨b, o + j * 5 + 2, none⟩ = some (.bool t2) ∧ w'.cell? ⟨b, o + j * 5 + 3, none⟩ = some (.slice d3 p3 q3) ∧ w'.cell? ⟨b, o + j * 5 + 4, none⟩ = some (.slice d4 p4 q4) from fun w' hb => ⟨(hb.cell hbl).trans e0, (hb.cell hbl).trans e1, (hb.cell hbl).trans e2, (hb.cell hbl).trans e3, (hb.cell hbl).trans e4, (hb.cell hbl).trans f0, (hb.cell hbl).trans f1, (hb.cell hbl).trans f2, (hb.cell hbl).trans f3, (hb.cell hbl).trans f4⟩)
          clear e0 e1 e2 e3 e4 f0 f1 f2 f3 f4
          have hS := HS.out wr.drew (Below.refl _ _).drew
          have hbw : Below wr.heap.size wr wr.drew := (Below.refl _ _).drew
          have tok1 : True := trivial
          have tok2 : True := trivial
          have hr1 := hrep.below hbw (Nat.le_refl _)
          have hr2 := hrep2.below hbw (Nat.le_refl _)
          clear hbl
          go_region_held3 (fun w' => w'.cell? ⟨b, o + i * 5, none⟩ = some (.bool s0) ∧ w'.cell? ⟨b, o + i * 5 + 1, none⟩ = some (.slice a1 l1 m1) ∧ w'.cell? ⟨b, o + i * 5 + 2, none⟩ = some (.bool s2) ∧ w'.cell? ⟨b, o + i * 5 + 3, none⟩ = some (.slice a3 l3 m3) ∧ w'.cell? ⟨b, o + i * 5 + 4, none⟩ = some (.slice a4 l4 m4) ∧ w'.cell? ⟨b, o + j * 5, none⟩ = some (.bool t0) ∧ w'.cell? ⟨b, o + j * 5 + 1, none⟩ = some (.slice d1 p1 q1) ∧ w'.cell? ⟨b, o + j * 5 + 2, none⟩ = some (.bool t2) ∧ w'.cell? ⟨b, o + j * 5 + 3, none⟩ = some (.slice d3 p3 q3) ∧ w'.cell? ⟨b, o + j * 5 + 4, none⟩ = some (.slice d4 p4 q4)) (first | (with_reducible exact hS) | (simpa [go_sem] using hS)) (first | (go_simp; go_at_call 42; have _t := tok1; (with_reducible refine (HPo.out _ x wr.drew hr1 HMX.out).mono ?_); rw [HP.out]; rintro e V1 ⟨_, rfl, rfl, hbV1⟩; have hbw := hbw.trans (hbV1.mono hbw.size); have hr1 := hr1.below hbV1 (Nat.le_refl _); have hr2 := hr2.below hbV1 (Nat.le_refl _); have hS := HS.out V1 hbw; clear tok1 _t) | (go_simp; go_at_call 55; have _t := tok2; (with_reducible refine (HCm.out _ _ y x V1 hr2 hr1 HMY.out HMX.out).mono ?_); rintro e V2 ⟨_, rfl, rfl, hbV2⟩; have hbw := hbw.trans (hbV2.mono hbw.size); have hS := HS.out V2 hbw; clear tok2 _t))
          have hB3 := hB.trans (hbw.mono hB.size)
          have HFL := Lib.hid (qcmp_flip x y)
          rw [HFL.out]
          generalize qcmp x y = z at *
          by_cases hz : 0 < z
          · have hnext := Lib.hid (vf_next (HZ.out.trans (decide_eq_true hz)) hall.out)
            have hz' : ¬ (-z ≥ 0) := by omega
            have hz2 : ¬ (0 ≤ -z) := by omega
            clear hz
            generalize -z = zz at *
            go_wp2_with fail
            go_roundw
            case rel => exact ⟨i + 1, by omega, by go_num, hB3, hnext⟩
            case measure => simp [intOf]; omega
          · have hr : r = false := HF.out i (by have := HN.out; omega) (HZ.out.trans (decide_eq_false hz))
            subst hr
            have hz' : -z ≥ 0 := by omega
            have hz2 : 0 ≤ -z := by omega
            clear hz
            generalize -z = zz at *
            go_wp2_with fail
            go_ret
            exact ⟨_, rfl, rfl, hB3⟩
    · obtain rfl : i = n := by omega
      have hr := HT.out hall.out
      subst hr
      go_wp2_with fail
      go_ret
      exact ⟨_, rfl, rfl, hB⟩
end Go.Proofs.YtfkogkcpndaoeaaGreat
namespace Go.Proofs.YtfkogkcpndaoeaaGreat
open Go.RowKit
def portsN (l : List (List (List CQ))) : Nat := match l with
  | [] => 0
  | m :: _ => if l.all (matN m.length) = true then m.length else 0
theorem portsN_at {l : List (List (List CQ))} {m : List (List CQ)} (h : l[0]? = some m) : portsN l = if l.all (matN m.length) = true then m.length else 0 := by
  cases l with
  | nil => simp at h
  | cons a l =>
    simp at h
    subst h
    rfl
set_option maxRecDepth 100000 in
set_option maxHeartbeats 3200000 in
theorem ports_spec (v : Value) (l : List (List (List CQ))) (w : World) (h : QSt w v l) :
    Calls Tryz.prog 108 #[v] w (Ret w fun _ v' => v' = .int .i64 (portsN l : Int)) := by
  obtain ⟨n, hln⟩ : ∃ n, l.length = n := ⟨_, rfl⟩
  obtain ⟨a, c, rfl, hc, hc2⟩ := h.dims
  have HL := Lib.hid h
  have HN := Lib.hid hln
  have HF := Lib.hid (show ∀ m0, l[0]? = some m0 → l.all (matN m0.length) = false → portsN l = 0 from fun m0 h0 h => by rw [portsN_at h0, h]; rfl)
  have HT := Lib.hid (show ∀ m0, l[0]? = some m0 → l.all (matN m0.length) = true → portsN l = m0.length from fun m0 h0 h => by rw [portsN_at h0, h]; rfl)
  have HZ := Lib.hid (show n = 0 → portsN l = 0 from fun h => by
    have : l = [] := List.eq_nil_of_length_eq_zero (by omega)
    subst this
    rfl)
  rw [hln] at hc HL ⊢
  clear h hln
  generalize portsN l = r at *
  by_cases hn0 : n = 0
  · obtain rfl : r = 0 := HZ.out hn0
    subst hn0
    clear HF HT HL HN HZ
    go_enter Tryz.func108, Tryz.ntmps108
    go_wp2_with fail
    go_ret
    exact ⟨_, rfl, rfl, Below.refl _ _⟩
  obtain ⟨m0, hm0⟩ : ∃ m, l[0]? = some m := ⟨_, List.getElem?_eq_getElem (by have := HN.out; omega)⟩
  obtain ⟨b, o, a2, c2, rfl, -, f0, -, hqc, hqc2⟩ := HL.out.mat hm0
  simp only [Nat.add_zero] at f0
  obtain ⟨q, hq⟩ : ∃ q, m0.length = q := ⟨_, rfl⟩
  rw [hq] at f0 hqc
  have HM0 := Lib.hid hm0
  have HQ := Lib.hid hq
  clear hm0 hq HZ
  have hn1 : ((n : Int) == 0) = false := by simp; omega
  have hn2 : (0 : Int) < (n : Int) := by omega
  have hn3 : 0 < n := by omega
  by_cases hin : 1 ≤ q ∧ q ≤ 8
  case neg =>
    obtain rfl : r = 0 := HF.out m0 HM0.out (all_no HM0.out (by unfold matN inR; rw [HQ.out]; simp; omega))
    clear HF HT HL HN
    by_cases h1 : q < 1
    · obtain rfl : q = 0 := by omega
      go_enter Tryz.func108, Tryz.ntmps108
      go_wp2_with fail
      go_ret
      exact ⟨_, rfl, rfl, Below.refl _ _⟩
    · have hi1 : ¬ (q : Int) < 1 := by omega
      have hi2 : (q : Int) > 8 := by omega
      clear hin h1
      go_enter Tryz.func108, Tryz.ntmps108
      go_wp2_with fail
      go_ret
      exact ⟨_, rfl, rfl, Below.refl _ _⟩
  obtain ⟨hin1, hin2⟩ := hin
  have hi1 : ¬ (q : Int) < 1 := by omega
  have hi2 : ¬ (q : Int) > 8 := by omega
  have hi3 : ¬ (8 : Int) < (q : Int) := by omega
  go_enter Tryz.func108, Tryz.ntmps108
  go_wp2_with fail
  have HIN := Lib.hid (And.intro hin1 hin2)
  clear f0 hi1 hi2 hi3 hin1 hin2 hn1 hn2 hn0
  go_loopw [4] (fun iv wr => ∃ k : Nat, k ≤ n ∧ iv = .int .i64 (k : Int) ∧ wr = w ∧ Hid ((l.take k).all (matN q) = true)) (fun i _ => n - (intOf i).toNat)
  case atStart => exact ⟨0, Nat.zero_le _, rfl, rfl, rfl⟩
  case round =>
    obtain ⟨k, hk, rfl, rfl, hall⟩ := hrel
    by_cases hlt : k < n
    · obtain ⟨m, hm⟩ : ∃ m, l[k]? = some m := ⟨_, List.getElem?_eq_getElem (by have := HN.out; omega)⟩
      obtain ⟨b', o', a1, c1, hab, hbl, e0, hmat, hc1, hc12⟩ := HL.out.mat hm
      injection hab with hab
      injection hab with hb1 ho1 _
      subst hb1 ho1
      obtain ⟨p, hp⟩ : ∃ p, m.length = p := ⟨_, rfl⟩
      rw [hp] at e0 hmat hc1
      have HM := Lib.hid hm
      have HP := Lib.hid hp
      clear hm hp
      by_cases hpq : p = q
      · subst hpq
        have HMat := Lib.hid hmat
        clear hmat
        go_wp2_with fail
        go_loopw [5] (fun iv wt => ∃ j : Nat, j ≤ p ∧ iv = .int .i64 (j : Int) ∧ wt = wr ∧ Hid ((m.take j).all (fun r => decide (r.length = p)) = true)) (fun i _ => p - (intOf i).toNat)
        case atStart => exact ⟨0, Nat.zero_le _, rfl, rfl, rfl⟩
        case round =>
          obtain ⟨j, hj, rfl, rfl, hallj⟩ := hrel
          by_cases hlj : j < p
          · obtain ⟨x, hx⟩ : ∃ x, m[j]? = some x := ⟨_, List.getElem?_eq_getElem (by have := HP.out; omega)⟩
            obtain ⟨b3, o3, a3, c3, rfl, -, e3, -, hc3, hc32⟩ := HMat.out.list hx
            obtain ⟨y, hy⟩ : ∃ y, x.length = y := ⟨_, rfl⟩
            rw [hy] at e3 hc3
            have HX := Lib.hid hx
            have HY := Lib.hid hy
            clear hx hy
            by_cases hyp : y = p
            · subst hyp
              have hnext := Lib.hid (all_next (p := fun r => decide (r.length = y)) HX.out (by rw [HY.out]; simp) hallj.out)
              go_wp2_with fail
              go_roundw
              case rel => exact ⟨j + 1, by omega, by go_num, trivial, hnext⟩
              case measure => simp [intOf]; omega
            · have hr : r = 0 := HF.out m0 HM0.out (all_no HM.out (by unfold matN; rw [HQ.out, all_no (p := fun r => decide (r.length = p)) HX.out (by rw [HY.out]; exact decide_eq_false hyp), Bool.and_false]))
              subst hr
              have hyp' : ¬ ((y : Int) = (p : Int)) := by omega
              go_wp2_with fail
              go_ret
              exact ⟨_, rfl, rfl, Below.refl _ _⟩
          · obtain rfl : j = p := by omega
            have hrow : m.all (fun r => decide (r.length = j)) = true := by
              have := hallj.out
              rwa [List.take_of_length_le (by have := HP.out; omega)] at this
            have hnext : Hid ((l.take (k + 1)).all (matN j) = true) :=
              all_next HM.out (by unfold matN inR; rw [HP.out, hrow]; have := HIN.out; simp; omega) hall.out
            clear hrow
            go_wp2_with fail
            go_roundw
            case rel => exact ⟨k + 1, by omega, by go_num, trivial, hnext⟩
            case measure => simp [intOf]; omega
      · have hr : r = 0 := HF.out m0 HM0.out (all_no HM.out (by unfold matN; rw [HP.out, HQ.out, decide_eq_false hpq]; rfl))
        subst hr
        have hpq' : ¬ ((p : Int) = (q : Int)) := by omega
        go_wp2_with fail
        go_ret
        exact ⟨_, rfl, rfl, Below.refl _ _⟩
    · obtain rfl : k = n := by omega
      have hr : r = q := by
        have h1 := hall.out
        rw [List.take_of_length_le (by have := HN.out; omega)] at h1
        have h2 := HT.out m0 HM0.out (by rw [HQ.out]; exact h1)
        rw [h2, HQ.out]
      subst hr
      go_wp2_with fail
      go_ret
      exact ⟨_, rfl, rfl, Below.refl _ _⟩
end Go.Proofs.YtfkogkcpndaoeaaGreat
