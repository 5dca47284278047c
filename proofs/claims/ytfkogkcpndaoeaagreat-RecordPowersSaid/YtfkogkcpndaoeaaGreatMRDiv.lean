/- The reference's conjugate, square of the absolute value, quotient. Conditions: bits. The reference's quotient, by a number that is not 0. Conditions: bits. -/
import Derived.Test.YtfkogkcpndaoeaaGreatMDivS
import Derived.Test.YtfkogkcpndaoeaaGreatMRQM
import Derived.Test.YtfkogkcpndaoeaaGreatMRValid
set_option linter.all false
namespace Go.Proofs.YtfkogkcpndaoeaaGreat
open Go.RowKit
theorem low_conj {a b : Int} {d : Nat} (h : Low a b d) : Low a (-b) d := by
  unfold Low at *
  rwa [Int.natAbs_neg]
theorem cq_conj {a b : Int} {d : Nat} : (cq a b d).conj = cq a (-b) d := by
  unfold cq CQ.conj
  refine CQ.ext rfl ?_
  simp only
  rw [Rat.intCast_neg, Rat.div_def, Rat.div_def, Rat.neg_mul]
theorem Small.conj {k : Nat} {x : CQ} (h : Small k x) : Small k x.conj := by
  obtain ⟨a, b, d, h0, h1, h2, h3, rfl⟩ := h
  rw [cq_conj]
  exact small_mk h0 h1 (by rw [Int.natAbs_neg]; exact h2) h3
set_option maxRecDepth 100000 in
set_option maxHeartbeats 800000 in
theorem qconj_spec (v : Value) (x : CQ) (w : World) (h : QRep w v x) :
    Calls Tryz.prog 152 #[v] w (Ret w fun w' v' => QRep w' v' x.conj) := by
  obtain ⟨a, b, d, s1, s2, a1, a2, a3, l1, c1, l2, c2, l3, c3, H⟩ := h.all
  obtain ⟨rfl, wa, wb, -, -, nd, low, rfl, -, -, -, -⟩ := H
  clear h
  go_enter Tryz.func152, Tryz.ntmps152
  go_upto_region 1 with (fail)
  obtain ⟨W, hW, o1, o3, hB, hS⟩ := boxes2 w 46 46 [.bool s1, .slice a1 l1 c1, .bool s2, .slice a2 l2 c2, .slice a3 l3 c3] [.bool false, .slice none 0 0, .bool false, .slice none 0 0, .slice none 0 0]
  rw [← hW]
  clear hW
  have qo10 := o1.cell 0 _ rfl; have qo11 := o1.cell 1 _ rfl; have qo12 := o1.cell 2 _ rfl; have qo13 := o1.cell 3 _ rfl; have qo14 := o1.cell 4 _ rfl
  have o1 : Own W.drew _ _ _ := o1; have o3 : Own W.drew _ _ _ := o3; have lto1 : _ < W.heap.size := o1.lt; have lto3 : _ < W.heap.size := o3.lt; have hB := hB.drew
  have wa := wa.below hB (Nat.le_refl _); have wb := wb.below hB (Nat.le_refl _); have nd := nd.below hB (Nat.le_refl _)
  have tok1 : True := trivial
  go_region_held3 (fun w' => w'.cell? ⟨w.heap.size, 0, none⟩ = some (.bool s1) ∧ w'.cell? ⟨w.heap.size, 1, none⟩ = some (.slice a1 l1 c1) ∧ w'.cell? ⟨w.heap.size, 2, none⟩ = some (.bool s2) ∧ w'.cell? ⟨w.heap.size, 3, none⟩ = some (.slice a2 l2 c2) ∧ w'.cell? ⟨w.heap.size, 4, none⟩ = some (.slice a3 l3 c3)) (first | (with_reducible exact ⟨o1.cell 0 _ rfl, o1.cell 1 _ rfl, o1.cell 2 _ rfl, o1.cell 3 _ rfl, o1.cell 4 _ rfl⟩) | (simp [go_sem, qo10, qo11, qo12, qo13, qo14, lto1]; done))
    (first
      | (go_at_call 98; have _t := tok1; refine (rminus_spec _ b _ wb).mono ?_; rintro e W1 ⟨u2, rfl, hu2, hb1⟩; have hsW1 : W.heap.size ≤ W1.heap.size := hb1.size; have hB := hB.trans (hb1.mono hB.size); have o1 := o1.below hb1 o1.lt; have o3 := o3.below hb1 o3.lt; have lto1 := o1.lt; have lto3 := o3.lt; have qo10 := o1.cell 0 _ rfl; have qo11 := o1.cell 1 _ rfl; have qo12 := o1.cell 2 _ rfl; have qo13 := o1.cell 3 _ rfl; have qo14 := o1.cell 4 _ rfl; have wa := wa.below hb1 (Nat.le_refl _); have wb := wb.below hb1 (Nat.le_refl _); have nd := nd.below hb1 (Nat.le_refl _); obtain ⟨x2, y2, z2, e2, rfl, _, _⟩ := hu2.open; have fo3 := o3.free; have co30 := o3.cell 0 _ rfl; have co31 := o3.cell 1 _ rfl; have co32 := o3.cell 2 _ rfl; have co33 := o3.cell 3 _ rfl; have co34 := o3.cell 4 _ rfl; clear tok1 _t))
  go_wp2_with fail
  exact bodyPost_ret (by simp [results, Tryz.results152, go_sem, co30, co31, co32, co33, co34]) rfl (q_end (q_of wa hu2 nd (low_conj low)) o3 hB (by omega) cq_conj.symm)
set_option maxRecDepth 100000 in
set_option maxHeartbeats 800000 in
theorem qnorm_spec (v : Value) (x : CQ) (k : Nat) (w : World) (h : QRep w v x) (hs : Small k x) (hk : k ≤ 1099511627776) :
    Calls Tryz.prog 95 #[v] w (Ret w fun w' v' => QRep w' v' x.norm) := by
  obtain ⟨s1, s2, a1, a2, a3, l1, c1, l2, c2, l3, c3, rfl⟩ := h.open
  have HE := Lib.hid (norm_conj x)
  go_enter Tryz.func95, Tryz.ntmps95
  go_upto_region 1 with (fail)
  obtain ⟨W, hW, o1, o3, hB, hS⟩ := boxes2 w 46 46 [.bool s1, .slice a1 l1 c1, .bool s2, .slice a2 l2 c2, .slice a3 l3 c3] [.bool false, .slice none 0 0, .bool false, .slice none 0 0, .slice none 0 0]
  rw [← hW]
  clear hW
  have qo10 := o1.cell 0 _ rfl; have qo11 := o1.cell 1 _ rfl; have qo12 := o1.cell 2 _ rfl; have qo13 := o1.cell 3 _ rfl; have qo14 := o1.cell 4 _ rfl
  have o1 : Own W.drew _ _ _ := o1; have o3 : Own W.drew _ _ _ := o3; have lto1 : _ < W.heap.size := o1.lt; have lto3 : _ < W.heap.size := o3.lt; have hB := hB.drew
  have h := h.below hB (Nat.le_refl _)
  have tok1 : True := trivial
  have tok2 : True := trivial
  go_region_held3 (fun w' => w'.cell? ⟨w.heap.size, 0, none⟩ = some (.bool s1) ∧ w'.cell? ⟨w.heap.size, 1, none⟩ = some (.slice a1 l1 c1) ∧ w'.cell? ⟨w.heap.size, 2, none⟩ = some (.bool s2) ∧ w'.cell? ⟨w.heap.size, 3, none⟩ = some (.slice a2 l2 c2) ∧ w'.cell? ⟨w.heap.size, 4, none⟩ = some (.slice a3 l3 c3)) (first | (with_reducible exact ⟨o1.cell 0 _ rfl, o1.cell 1 _ rfl, o1.cell 2 _ rfl, o1.cell 3 _ rfl, o1.cell 4 _ rfl⟩) | (simp [go_sem, qo10, qo11, qo12, qo13, qo14, lto1]; done))
    (first
      | (go_at_call 152; have _t := tok1; refine (qconj_spec _ x _ h).mono ?_; rintro e W1 ⟨u1, rfl, hu1, hb1⟩; have hsW1 : W.heap.size ≤ W1.heap.size := hb1.size; have hB := hB.trans (hb1.mono hB.size); have o1 := o1.below hb1 o1.lt; have o3 := o3.below hb1 o3.lt; have lto1 := o1.lt; have lto3 := o3.lt; have qo10 := o1.cell 0 _ rfl; have qo11 := o1.cell 1 _ rfl; have qo12 := o1.cell 2 _ rfl; have qo13 := o1.cell 3 _ rfl; have qo14 := o1.cell 4 _ rfl; have h := h.below hb1 (Nat.le_refl _); clear tok1 _t)
      | (go_at_call 123; have _t := tok2; refine (qmul_spec _ _ x x.conj k _ h hu1 hs hs.conj hk).mono ?_; rintro e W2 ⟨u8, rfl, hu8, hb2⟩; have hsW2 : W1.heap.size ≤ W2.heap.size := hb2.size; have hB := hB.trans (hb2.mono hB.size); have o1 := o1.below hb2 o1.lt; have o3 := o3.below hb2 o3.lt; have lto1 := o1.lt; have lto3 := o3.lt; have qo10 := o1.cell 0 _ rfl; have qo11 := o1.cell 1 _ rfl; have qo12 := o1.cell 2 _ rfl; have qo13 := o1.cell 3 _ rfl; have qo14 := o1.cell 4 _ rfl; have h := h.below hb2 (Nat.le_refl _); have hu1 := hu1.below hb2 (Nat.le_refl _); obtain ⟨_, _, _, _, _, _, _, _, _, _, _, rfl⟩ := hu8.open; have fo3 := o3.free; have co30 := o3.cell 0 _ rfl; have co31 := o3.cell 1 _ rfl; have co32 := o3.cell 2 _ rfl; have co33 := o3.cell 3 _ rfl; have co34 := o3.cell 4 _ rfl; clear tok2 _t))
  go_wp2_with fail
  exact bodyPost_ret (by simp [results, Tryz.results95, go_sem, co30, co31, co32, co33, co34]) rfl (q_end hu8 o3 hB (by omega) HE.out)
end Go.Proofs.YtfkogkcpndaoeaaGreat
namespace Go.Proofs.YtfkogkcpndaoeaaGreat
open Go.RowKit
def QBox (w : World) (g : Nat) (x : CQ) : Prop := ∃ (s0 s2 : Bool) (a1 a3 a4 : Option Addr) (l1 c1 l3 c3 l4 c4 : Nat),
  Own w 46 g [.bool s0, .slice a1 l1 c1, .bool s2, .slice a3 l3 c3, .slice a4 l4 c4] ∧ QRep w (.agg #[.bool s0, .slice a1 l1 c1, .bool s2, .slice a3 l3 c3, .slice a4 l4 c4]) x
theorem QRep.parts {w : World} {z1 z2 : Bool} {d1 d2 d3 : Option Addr} {i1 j1 i2 j2 i3 j3 : Nat} {y : CQ} (h : QRep w (.agg #[.bool z1, .slice d1 i1 j1, .bool z2, .slice d2 i2 j2, .slice d3 i3 j3]) y) :
    ∃ (A B : Int) (D : Nat), WholeRep w (.agg #[.bool z1, .slice d1 i1 j1]) A ∧ WholeRep w (.agg #[.bool z2, .slice d2 i2 j2]) B ∧ NatRep w (.slice d3 i3 j3) D ∧ Low A B D ∧ y = cq A B D := by
  obtain ⟨A, B, D, s1, s2, a1, a2, a3, l1, c1, l2, c2, l3, c3, H⟩ := h.all
  obtain ⟨e, wa, wb, -, -, nd, low, hx, -, -, -, -⟩ := H
  simp only [Value.agg.injEq, Array.mk.injEq, List.cons.injEq, and_true, Value.bool.injEq] at e
  obtain ⟨e1, e2, e3, e4, e5⟩ := e
  rw [← e1, ← e2] at wa
  rw [← e3, ← e4] at wb
  rw [← e5] at nd
  exact ⟨A, B, D, wa, wb, nd, low, hx⟩
theorem norm_parts {y : CQ} (h0 : ¬ (y.re = 0 ∧ y.im = 0)) {A B : Int} {D : Nat} (hD : 0 < D) (h : y.norm = cq A B D) : B = 0 ∧ 0 < A := by
  constructor
  · have e : (cq A B D).im = 0 := by rw [← h]; rfl
    exact (im_zero hD).1 e
  · have h1 := rat_sq_pos h0
    have h2 : 0 ≤ y.re * y.re := by
      rcases Rat.le_total (a := 0) (b := y.re) with h | h
      · exact Rat.mul_nonneg h h
      · have := Rat.mul_nonneg (show 0 ≤ -y.re by grind) (show 0 ≤ -y.re by grind)
        grind
    have h3 : 0 ≤ y.im * y.im := by
      rcases Rat.le_total (a := 0) (b := y.im) with h | h
      · exact Rat.mul_nonneg h h
      · have := Rat.mul_nonneg (show 0 ≤ -y.im by grind) (show 0 ≤ -y.im by grind)
        grind
    have e : y.re * y.re + y.im * y.im = (A : Rat) / ((D : Int) : Rat) := congrArg CQ.re h
    have h4 : 0 < (A : Rat) / ((D : Int) : Rat) := by rw [← e]; grind
    have h5 : (A : Rat) / ((D : Int) : Rat) * ((D : Int) : Rat) = (A : Rat) := Rat.div_mul_cancel (rat_ne hD)
    have h6 : (0 : Rat) < ((D : Int) : Rat) := by exact_mod_cast (show (0 : Int) < D by omega)
    have h7 := Rat.mul_pos h4 h6
    rw [h5] at h7
    exact_mod_cast h7
def QBoxW (W : World) (x : CQ) (s : Value) (wx : World) : Prop := ∃ g : Nat, s = .pointer (some ⟨g, 0, none⟩) ∧ QBox wx g x ∧ W.heap.size ≤ g ∧ Below W.heap.size W wx
theorem qboxw_new {W V : World} {x : CQ} {s0 s2 : Bool} {a1 a3 a4 : Option Addr} {l1 c1 l3 c3 l4 c4 : Nat} (hB : Below W.heap.size W V) (r : QRep V (.agg #[.bool s0, .slice a1 l1 c1, .bool s2, .slice a3 l3 c3, .slice a4 l4 c4]) x) : QBoxW W x (.pointer (some ⟨V.heap.size, 0, none⟩)) (V.alloc (.cells #[.bool s0, .slice a1 l1 c1, .bool s2, .slice a3 l3 c3, .slice a4 l4 c4] 46)) :=
  ⟨_, rfl, ⟨_, _, _, _, _, _, _, _, _, _, _, own_new V _ [.bool s0, .slice a1 l1 c1, .bool s2, .slice a3 l3 c3, .slice a4 l4 c4], r.below ((Below.refl _ _).alloc (Nat.le_refl _) _) (Nat.le_refl _)⟩, hB.size, hB.alloc hB.size _⟩
theorem qboxw_set {W V : World} {x : CQ} {s0 s2 b0 b2 : Bool} {a1 a3 a4 x1 x3 x4 : Option Addr} {l1 c1 l3 c3 l4 c4 y1 z1 y3 z3 y4 z4 g : Nat} (hB : Below W.heap.size W V) (r : QRep V (.agg #[.bool s0, .slice a1 l1 c1, .bool s2, .slice a3 l3 c3, .slice a4 l4 c4]) x) (o : Own V 46 g [.bool b0, .slice x1 y1 z1, .bool b2, .slice x3 y3 z3, .slice x4 y4 z4]) (hg : W.heap.size ≤ g) :
    QBoxW W x (.pointer (some ⟨g, 0, none⟩)) (((((V.setCell ⟨g, 0, none⟩ (.bool s0)).setCell ⟨g, 1, none⟩ (.slice a1 l1 c1)).setCell ⟨g, 2, none⟩ (.bool s2)).setCell ⟨g, 3, none⟩ (.slice a3 l3 c3)).setCell ⟨g, 4, none⟩ (.slice a4 l4 c4)) :=
  ⟨_, rfl, ⟨_, _, _, _, _, _, _, _, _, _, _, ((((o.set 0 _).set 1 _).set 2 _).set 3 _).set 4 _, qrep_ret r o⟩, hg, below5 hB hg⟩
set_option maxRecDepth 100000 in
set_option maxHeartbeats 3200000 in
theorem qdiv_nz (v u : Value) (x y : CQ) (k : Nat) (w : World) (h : QRep w v x) (h' : QRep w u y) (hs : Small k x) (hs' : Small k y) (h0 : ¬ (y.re = 0 ∧ y.im = 0)) (hk : k ≤ 100000000000) :
    Calls Tryz.prog 94 #[v, u] w (Ret w fun w' v' => ∃ u, v' = .tuple #[u, .int .i64 0] ∧ QRep w' u (x.div y)) := by
  obtain ⟨s1, s2, a1, a2, a3, l1, c1, l2, c2, l3, c3, rfl⟩ := h.open
  obtain ⟨t1, t2, p1, p2, p3, m1, n1, m2, n2, m3, n3, rfl⟩ := h'.open
  have HZ : Hid (cqZero y = false) := show _ = _ by
    unfold cqZero
    rw [Bool.and_eq_false_iff, decide_eq_false_iff_not, decide_eq_false_iff_not]
    by_cases h1 : y.re = 0
    · exact .inr fun h2 => h0 ⟨h1, h2⟩
    · exact .inl h1
  have HNO := Lib.hid (fun v w h => qnorm_spec v y k w h hs' (by omega))
  have HMU := Lib.hid (fun v u w h h' => qmul_spec v u x y.conj k w h h' hs hs'.conj (by omega))
  have HSN := Lib.hid hs'.norm
  have HSZ := Lib.hid (hs.mul hs'.conj)
  have H0 := Lib.hid h0
  clear hs hs' h0
  go_enter Tryz.func94, Tryz.ntmps94
  go_upto_region 1 with (fail)
  obtain ⟨W, hW, o2, o3, o4, hB, hS⟩ := boxes3 w 46 46 46 [.bool s1, .slice a1 l1 c1, .bool s2, .slice a2 l2 c2, .slice a3 l3 c3] [.bool t1, .slice p1 m1 n1, .bool t2, .slice p2 m2 n2, .slice p3 m3 n3] [.bool false, .slice none 0 0, .bool false, .slice none 0 0, .slice none 0 0]
  rw [← hW]
  clear hW hS
  have h := h.below hB (Nat.le_refl _); have h' := h'.below hB (Nat.le_refl _)
  have fo3 := o3.free; have co30 := o3.cell 0 _ rfl; have co31 := o3.cell 1 _ rfl; have co32 := o3.cell 2 _ rfl; have co33 := o3.cell 3 _ rfl; have co34 := o3.cell 4 _ rfl
  go_wp2_with fail
  refine (qzero_spec _ y W h').mono ?_
  rintro e W1 ⟨_, rfl, rfl, hb1⟩
  rw [HZ.out]
  clear co30 co31 co32 co33 co34 fo3
  have hsW1 : W.heap.size ≤ W1.heap.size := hb1.size; have hB := hB.trans (hb1.mono hB.size); have o2 := o2.below hb1 o2.lt; have o3 := o3.below hb1 o3.lt; have o4 := o4.below hb1 o4.lt; have h := h.below hb1 (Nat.le_refl _); have h' := h'.below hb1 (Nat.le_refl _); have fo3 := o3.free; have co30 := o3.cell 0 _ rfl; have co31 := o3.cell 1 _ rfl; have co32 := o3.cell 2 _ rfl; have co33 := o3.cell 3 _ rfl; have co34 := o3.cell 4 _ rfl
  go_wp2_with fail
  refine (HNO.out _ W1 h').mono ?_
  rintro e W2 ⟨_, rfl, hn, hb2⟩
  clear co30 co31 co32 co33 co34 fo3
  have hsW2 : W1.heap.size ≤ W2.heap.size := hb2.size; have hB := hB.trans (hb2.mono hB.size); have o2 := o2.below hb2 o2.lt; have o3 := o3.below hb2 o3.lt; have o4 := o4.below hb2 o4.lt; have h := h.below hb2 (Nat.le_refl _); have h' := h'.below hb2 (Nat.le_refl _)
  obtain ⟨y1, y2, e1, e2, e3, i1, j1, i2, j2, i3, j3, rfl⟩ := hn.open
  have l42 : w.heap.size + 1 + 1 < W2.heap.size := o4.lt
  go_upto_region 4 with (fail)
  obtain ⟨V1, hV1, o6, hBV1, hSV1⟩ := boxes1 W2 46 [.bool y1, .slice e1 i1 j1, .bool y2, .slice e2 i2 j2, .slice e3 i3 j3]
  rw [← hV1]
  clear hV1 hSV1
  have hsV1 : W2.heap.size ≤ V1.heap.size := hBV1.size; have hB := hB.trans (hBV1.mono hB.size); have o2 := o2.below hBV1 o2.lt; have o3 := o3.below hBV1 o3.lt; have o4 := o4.below hBV1 o4.lt; have h := h.below hBV1 (Nat.le_refl _); have h' := h'.below hBV1 (Nat.le_refl _); have hn := hn.below hBV1 (Nat.le_refl _)
  have l4a := o4.lt
  have l6a := o6.lt
  go_cut [7] (fun s7 wx => QBoxW V1 (x.mul y.conj) s7 wx)
  case first =>
    have hB := Below.refl V1.heap.size V1
    have qo20 := o2.cell 0 _ rfl; have qo21 := o2.cell 1 _ rfl; have qo22 := o2.cell 2 _ rfl; have qo23 := o2.cell 3 _ rfl; have qo24 := o2.cell 4 _ rfl; have qo30 := o3.cell 0 _ rfl; have qo31 := o3.cell 1 _ rfl; have qo32 := o3.cell 2 _ rfl; have qo33 := o3.cell 3 _ rfl; have qo34 := o3.cell 4 _ rfl
    have o2 : Own V1.drew _ _ _ := o2; have o3 : Own V1.drew _ _ _ := o3; have lto2 : _ < V1.heap.size := o2.lt; have lto3 : _ < V1.heap.size := o3.lt; have hB := hB.drew
    have h := h.below ((Below.refl V1.heap.size V1).drew) (Nat.le_refl _); have h' := h'.below ((Below.refl V1.heap.size V1).drew) (Nat.le_refl _)
    have tok1 : True := trivial
    have tok2 : True := trivial
    go_region_held3 (fun w' => w'.cell? ⟨w.heap.size, 0, none⟩ = some (.bool s1) ∧ w'.cell? ⟨w.heap.size, 1, none⟩ = some (.slice a1 l1 c1) ∧ w'.cell? ⟨w.heap.size, 2, none⟩ = some (.bool s2) ∧ w'.cell? ⟨w.heap.size, 3, none⟩ = some (.slice a2 l2 c2) ∧ w'.cell? ⟨w.heap.size, 4, none⟩ = some (.slice a3 l3 c3) ∧ w'.cell? ⟨w.heap.size + 1, 0, none⟩ = some (.bool t1) ∧ w'.cell? ⟨w.heap.size + 1, 1, none⟩ = some (.slice p1 m1 n1) ∧ w'.cell? ⟨w.heap.size + 1, 2, none⟩ = some (.bool t2) ∧ w'.cell? ⟨w.heap.size + 1, 3, none⟩ = some (.slice p2 m2 n2) ∧ w'.cell? ⟨w.heap.size + 1, 4, none⟩ = some (.slice p3 m3 n3)) (first | (with_reducible exact ⟨o2.cell 0 _ rfl, o2.cell 1 _ rfl, o2.cell 2 _ rfl, o2.cell 3 _ rfl, o2.cell 4 _ rfl, o3.cell 0 _ rfl, o3.cell 1 _ rfl, o3.cell 2 _ rfl, o3.cell 3 _ rfl, o3.cell 4 _ rfl⟩) | (simp [go_sem, qo20, qo21, qo22, qo23, qo24, qo30, qo31, qo32, qo33, qo34, lto2, lto3]; done))
      (first
        | (go_at_call 152; have _t := tok1; refine (qconj_spec _ y _ (h'.below (by first | exact Below.refl _ _ | exact (Below.refl _ _).alloc (Nat.le_refl _) _ | exact ((Below.refl _ _).alloc (Nat.le_refl _) _).alloc (by simp) _) (Nat.le_refl _))).mono ?_; rintro e V11 ⟨u1, rfl, hu1, hb1⟩; (try (have oN := oN.below hb1 oN.lt)); (try (first | have oN := own_behind hb1 | have oN := own_behindD hb1)); have hb1 := ext_step (W := V1.drew) (by first | exact Below.refl _ _ | exact (Below.refl _ _).alloc (Nat.le_refl _) _ | exact ((Below.refl _ _).alloc (Nat.le_refl _) _).alloc (by simp) _) hb1; have hsV11 : V1.heap.size ≤ V11.heap.size := hb1.size; have hB := hB.trans (hb1.mono hB.size); have o2 := o2.below hb1 o2.lt; have o3 := o3.below hb1 o3.lt; have lto2 := o2.lt; have lto3 := o3.lt; have qo20 := o2.cell 0 _ rfl; have qo21 := o2.cell 1 _ rfl; have qo22 := o2.cell 2 _ rfl; have qo23 := o2.cell 3 _ rfl; have qo24 := o2.cell 4 _ rfl; have qo30 := o3.cell 0 _ rfl; have qo31 := o3.cell 1 _ rfl; have qo32 := o3.cell 2 _ rfl; have qo33 := o3.cell 3 _ rfl; have qo34 := o3.cell 4 _ rfl; have h := h.below hb1 (Nat.le_refl _); have h' := h'.below hb1 (Nat.le_refl _); clear tok1 _t)
        | (go_at_call 123; have _t := tok2; refine (HMU.out _ _ _ (h.below (by first | exact Below.refl _ _ | exact (Below.refl _ _).alloc (Nat.le_refl _) _ | exact ((Below.refl _ _).alloc (Nat.le_refl _) _).alloc (by simp) _) (Nat.le_refl _)) (hu1.below (by first | exact Below.refl _ _ | exact (Below.refl _ _).alloc (Nat.le_refl _) _ | exact ((Below.refl _ _).alloc (Nat.le_refl _) _).alloc (by simp) _) (Nat.le_refl _))).mono ?_; rintro e V12 ⟨u2, rfl, hu2, hb2⟩; (try (have oN := oN.below hb2 oN.lt)); (try (first | have oN := own_behind hb2 | have oN := own_behindD hb2)); have hb2 := ext_step (W := V11) (by first | exact Below.refl _ _ | exact (Below.refl _ _).alloc (Nat.le_refl _) _ | exact ((Below.refl _ _).alloc (Nat.le_refl _) _).alloc (by simp) _) hb2; have hsV12 : V11.heap.size ≤ V12.heap.size := hb2.size; have hB := hB.trans (hb2.mono hB.size); have o2 := o2.below hb2 o2.lt; have o3 := o3.below hb2 o3.lt; have lto2 := o2.lt; have lto3 := o3.lt; have qo20 := o2.cell 0 _ rfl; have qo21 := o2.cell 1 _ rfl; have qo22 := o2.cell 2 _ rfl; have qo23 := o2.cell 3 _ rfl; have qo24 := o2.cell 4 _ rfl; have qo30 := o3.cell 0 _ rfl; have qo31 := o3.cell 1 _ rfl; have qo32 := o3.cell 2 _ rfl; have qo33 := o3.cell 3 _ rfl; have qo34 := o3.cell 4 _ rfl; have h := h.below hb2 (Nat.le_refl _); have h' := h'.below hb2 (Nat.le_refl _); have hu1 := hu1.below hb2 (Nat.le_refl _); obtain ⟨_, _, _, _, _, _, _, _, _, _, _, rfl⟩ := hu2.open; (try (have foN := oN.free; have coN0 := oN.cell 0 _ rfl; have coN1 := oN.cell 1 _ rfl; have coN2 := oN.cell 2 _ rfl; have coN3 := oN.cell 3 _ rfl; have coN4 := oN.cell 4 _ rfl)); clear tok2 _t))
    all_goals go_wp2_with fail
    all_goals go_meet
    all_goals first | (with_reducible exact qboxw_new hB hu2) | (with_reducible refine qboxw_set hB hu2 oN ?_; exact (by first | exact Nat.le_refl _ | omega | (simp; done) | (simp; omega)))
  case rest =>
    obtain ⟨g7, rfl, ⟨z0, z2, d1, d3, d4, x1, w1, x3, w3, x4, w4, o7, r7⟩, hg7, hcb⟩ := hcut
    have hscV1 : V1.heap.size ≤ wc.heap.size := hcb.size; have hB := hB.trans (hcb.mono hB.size); have o2 := o2.below hcb o2.lt; have o3 := o3.below hcb o3.lt; have o4 := o4.below hcb o4.lt; have o6 := o6.below hcb o6.lt; have hn := hn.below hcb (Nat.le_refl _)
    obtain ⟨A, B, D, za, zb, zd, lowz, hze⟩ := r7.parts
    obtain ⟨N, M0, M, na, nb, nm, lown, hne⟩ := hn.parts
    obtain ⟨rfl, hN0⟩ := norm_parts H0.out lown.1 hne
    obtain ⟨L, rfl⟩ : ∃ L : Nat, N = (L : Int) := ⟨N.toNat, by omega⟩
    have hL0 : 0 < L := by omega
    have HFIN := Lib.hid (cq_div_ref lowz.1 hL0 lown.1 hze hne)
    have hsz := HSZ.out
    rw [hze] at hsz
    obtain ⟨hz1, hz2, hz3⟩ := hsz.low lowz
    have hsn := HSN.out
    rw [hne] at hsn
    obtain ⟨hn1, -, hn3⟩ := hsn.low lown
    have hM1 : (M : Int).natAbs < 2 ^ (2 * k + 1) := by rw [Int.natAbs_natCast]; exact hn3
    have hL1 : L < 2 ^ (2 * k + 1) := by rw [Int.natAbs_natCast] at hn1; exact hn1
    have E1 := Lib.hid (mul_small hz1 hM1)
    have E2 := Lib.hid (mul_small hz2 hM1)
    have E3 := Lib.hid (nmul_small hz3 hL1)
    have nL : NatRep wc (.slice e1 i1 j1) L := by have := na.sign.2; rwa [Int.natAbs_natCast] at this
    clear hn r7 h h' hsz hsn na nb hN0
    have wM := whole_den nm
    have fo6 := o6.free; have co60 := o6.cell 0 _ rfl; have co61 := o6.cell 1 _ rfl; have co62 := o6.cell 2 _ rfl; have co63 := o6.cell 3 _ rfl; have co64 := o6.cell 4 _ rfl
    go_upto_region 6 with (fail)
    obtain ⟨V3, hV3, o8, hBV3, hSV3⟩ := boxes1 wc 44 [.bool false, .slice e3 i3 j3]
    rw [← hV3]
    clear hV3 hSV3 co60 co61 co62 co63 co64 fo6
    have hsV3 : wc.heap.size ≤ V3.heap.size := hBV3.size; have hB := hB.trans (hBV3.mono hB.size); have o4 := o4.below hBV3 o4.lt; have o6 := o6.below hBV3 o6.lt; have o7 := o7.below hBV3 o7.lt; have za := za.below hBV3 (Nat.le_refl _); have zb := zb.below hBV3 (Nat.le_refl _); have zd := zd.below hBV3 (Nat.le_refl _); have nL := nL.below hBV3 (Nat.le_refl _); have wM := wM.below hBV3 (Nat.le_refl _)
    have qo70 := o7.cell 0 _ rfl; have qo71 := o7.cell 1 _ rfl; have qo72 := o7.cell 2 _ rfl; have qo73 := o7.cell 3 _ rfl; have qo74 := o7.cell 4 _ rfl; have qo80 := o8.cell 0 _ rfl; have qo81 := o8.cell 1 _ rfl; have qo60 := o6.cell 0 _ rfl; have qo61 := o6.cell 1 _ rfl; have qo62 := o6.cell 2 _ rfl; have qo63 := o6.cell 3 _ rfl; have qo64 := o6.cell 4 _ rfl
    have o7 : Own V3.drew _ _ _ := o7; have o8 : Own V3.drew _ _ _ := o8; have o6 : Own V3.drew _ _ _ := o6; have o4 : Own V3.drew _ _ _ := o4; have lto7 : _ < V3.heap.size := o7.lt; have lto8 : _ < V3.heap.size := o8.lt; have lto6 : _ < V3.heap.size := o6.lt; have lto4 : _ < V3.heap.size := o4.lt; have hB := hB.drew
    have za := za.below ((Below.refl V3.heap.size V3).drew) (Nat.le_refl _); have zb := zb.below ((Below.refl V3.heap.size V3).drew) (Nat.le_refl _); have zd := zd.below ((Below.refl V3.heap.size V3).drew) (Nat.le_refl _); have nL := nL.below ((Below.refl V3.heap.size V3).drew) (Nat.le_refl _); have wM := wM.below ((Below.refl V3.heap.size V3).drew) (Nat.le_refl _)
    have tok1 : True := trivial
    have tok2 : True := trivial
    have tok3 : True := trivial
    have tok4 : True := trivial
    go_region_held3 (fun w' => w'.cell? ⟨g7, 0, none⟩ = some (.bool z0) ∧ w'.cell? ⟨g7, 1, none⟩ = some (.slice d1 x1 w1) ∧ w'.cell? ⟨g7, 2, none⟩ = some (.bool z2) ∧ w'.cell? ⟨g7, 3, none⟩ = some (.slice d3 x3 w3) ∧ w'.cell? ⟨g7, 4, none⟩ = some (.slice d4 x4 w4) ∧ w'.cell? ⟨wc.heap.size, 0, none⟩ = some (.bool false) ∧ w'.cell? ⟨wc.heap.size, 1, none⟩ = some (.slice e3 i3 j3) ∧ w'.cell? ⟨W2.heap.size, 0, none⟩ = some (.bool y1) ∧ w'.cell? ⟨W2.heap.size, 1, none⟩ = some (.slice e1 i1 j1) ∧ w'.cell? ⟨W2.heap.size, 2, none⟩ = some (.bool y2) ∧ w'.cell? ⟨W2.heap.size, 3, none⟩ = some (.slice e2 i2 j2) ∧ w'.cell? ⟨W2.heap.size, 4, none⟩ = some (.slice e3 i3 j3)) (first | (with_reducible exact ⟨o7.cell 0 _ rfl, o7.cell 1 _ rfl, o7.cell 2 _ rfl, o7.cell 3 _ rfl, o7.cell 4 _ rfl, o8.cell 0 _ rfl, o8.cell 1 _ rfl, o6.cell 0 _ rfl, o6.cell 1 _ rfl, o6.cell 2 _ rfl, o6.cell 3 _ rfl, o6.cell 4 _ rfl⟩) | (simp [go_sem, qo70, qo71, qo72, qo73, qo74, qo80, qo81, qo60, qo61, qo62, qo63, qo64, lto7, lto8, lto6]; done))
      (first
        | (go_at_call 153; have _t := tok1; refine (rtimes_spec _ _ A (M : Int) (2 * k + 1) _ za wM hz1 hM1 (by omega)).mono ?_; rintro e V31 ⟨q1, rfl, hq1, hb1⟩; have hsV31 : V3.heap.size ≤ V31.heap.size := hb1.size; have hB := hB.trans (hb1.mono hB.size); have o7 := o7.below hb1 o7.lt; have o8 := o8.below hb1 o8.lt; have o6 := o6.below hb1 o6.lt; have o4 := o4.below hb1 o4.lt; have lto7 := o7.lt; have lto8 := o8.lt; have lto6 := o6.lt; have lto4 := o4.lt; have qo70 := o7.cell 0 _ rfl; have qo71 := o7.cell 1 _ rfl; have qo72 := o7.cell 2 _ rfl; have qo73 := o7.cell 3 _ rfl; have qo74 := o7.cell 4 _ rfl; have qo80 := o8.cell 0 _ rfl; have qo81 := o8.cell 1 _ rfl; have qo60 := o6.cell 0 _ rfl; have qo61 := o6.cell 1 _ rfl; have qo62 := o6.cell 2 _ rfl; have qo63 := o6.cell 3 _ rfl; have qo64 := o6.cell 4 _ rfl; have za := za.below hb1 (Nat.le_refl _); have zb := zb.below hb1 (Nat.le_refl _); have zd := zd.below hb1 (Nat.le_refl _); have nL := nL.below hb1 (Nat.le_refl _); have wM := wM.below hb1 (Nat.le_refl _); clear tok1 _t)
        | (go_at_call 153; have _t := tok2; refine (rtimes_spec _ _ B (M : Int) (2 * k + 1) _ zb wM hz2 hM1 (by omega)).mono ?_; rintro e V32 ⟨q2, rfl, hq2, hb2⟩; have hsV32 : V31.heap.size ≤ V32.heap.size := hb2.size; have hB := hB.trans (hb2.mono hB.size); have o7 := o7.below hb2 o7.lt; have o8 := o8.below hb2 o8.lt; have o6 := o6.below hb2 o6.lt; have o4 := o4.below hb2 o4.lt; have lto7 := o7.lt; have lto8 := o8.lt; have lto6 := o6.lt; have lto4 := o4.lt; have qo70 := o7.cell 0 _ rfl; have qo71 := o7.cell 1 _ rfl; have qo72 := o7.cell 2 _ rfl; have qo73 := o7.cell 3 _ rfl; have qo74 := o7.cell 4 _ rfl; have qo80 := o8.cell 0 _ rfl; have qo81 := o8.cell 1 _ rfl; have qo60 := o6.cell 0 _ rfl; have qo61 := o6.cell 1 _ rfl; have qo62 := o6.cell 2 _ rfl; have qo63 := o6.cell 3 _ rfl; have qo64 := o6.cell 4 _ rfl; have za := za.below hb2 (Nat.le_refl _); have zb := zb.below hb2 (Nat.le_refl _); have zd := zd.below hb2 (Nat.le_refl _); have nL := nL.below hb2 (Nat.le_refl _); have wM := wM.below hb2 (Nat.le_refl _); have hq1 := hq1.below hb2 (Nat.le_refl _); clear tok2 _t)
        | (go_at_call 154; have _t := tok3; refine (rmul_spec _ _ D L (2 * k + 1) _ zd nL hz3 hL1 (by omega)).mono ?_; rintro e V33 ⟨q3, rfl, hq3, hb3⟩; have hsV33 : V32.heap.size ≤ V33.heap.size := hb3.size; have hB := hB.trans (hb3.mono hB.size); have o7 := o7.below hb3 o7.lt; have o8 := o8.below hb3 o8.lt; have o6 := o6.below hb3 o6.lt; have o4 := o4.below hb3 o4.lt; have lto7 := o7.lt; have lto8 := o8.lt; have lto6 := o6.lt; have lto4 := o4.lt; have qo70 := o7.cell 0 _ rfl; have qo71 := o7.cell 1 _ rfl; have qo72 := o7.cell 2 _ rfl; have qo73 := o7.cell 3 _ rfl; have qo74 := o7.cell 4 _ rfl; have qo80 := o8.cell 0 _ rfl; have qo81 := o8.cell 1 _ rfl; have qo60 := o6.cell 0 _ rfl; have qo61 := o6.cell 1 _ rfl; have qo62 := o6.cell 2 _ rfl; have qo63 := o6.cell 3 _ rfl; have qo64 := o6.cell 4 _ rfl; have za := za.below hb3 (Nat.le_refl _); have zb := zb.below hb3 (Nat.le_refl _); have zd := zd.below hb3 (Nat.le_refl _); have nL := nL.below hb3 (Nat.le_refl _); have wM := wM.below hb3 (Nat.le_refl _); have hq1 := hq1.below hb3 (Nat.le_refl _); have hq2 := hq2.below hb3 (Nat.le_refl _); clear tok3 _t)
        | (go_at_call 99; have _t := tok4; refine (make_spec _ _ _ (A * M) (B * M) (D * L) (2 * (2 * k + 1)) _ hq1 hq2 hq3 (Nat.mul_pos lowz.1 hL0) E1.out E2.out E3.out (by omega)).mono ?_; rintro e V34 ⟨u8, rfl, hu8, hb4⟩; have hsV34 : V33.heap.size ≤ V34.heap.size := hb4.size; have hB := hB.trans (hb4.mono hB.size); have o7 := o7.below hb4 o7.lt; have o8 := o8.below hb4 o8.lt; have o6 := o6.below hb4 o6.lt; have o4 := o4.below hb4 o4.lt; have lto7 := o7.lt; have lto8 := o8.lt; have lto6 := o6.lt; have lto4 := o4.lt; have qo70 := o7.cell 0 _ rfl; have qo71 := o7.cell 1 _ rfl; have qo72 := o7.cell 2 _ rfl; have qo73 := o7.cell 3 _ rfl; have qo74 := o7.cell 4 _ rfl; have qo80 := o8.cell 0 _ rfl; have qo81 := o8.cell 1 _ rfl; have qo60 := o6.cell 0 _ rfl; have qo61 := o6.cell 1 _ rfl; have qo62 := o6.cell 2 _ rfl; have qo63 := o6.cell 3 _ rfl; have qo64 := o6.cell 4 _ rfl; have za := za.below hb4 (Nat.le_refl _); have zb := zb.below hb4 (Nat.le_refl _); have zd := zd.below hb4 (Nat.le_refl _); have nL := nL.below hb4 (Nat.le_refl _); have wM := wM.below hb4 (Nat.le_refl _); have hq1 := hq1.below hb4 (Nat.le_refl _); have hq2 := hq2.below hb4 (Nat.le_refl _); have hq3 := hq3.below hb4 (Nat.le_refl _); obtain ⟨_, _, _, _, _, _, _, _, _, _, _, rfl⟩ := hu8.open; have fo4 := o4.free; have co40 := o4.cell 0 _ rfl; have co41 := o4.cell 1 _ rfl; have co42 := o4.cell 2 _ rfl; have co43 := o4.cell 3 _ rfl; have co44 := o4.cell 4 _ rfl; clear tok4 _t))
    go_wp2_with fail
    exact bodyPost_ret (by simp [results, Tryz.results94, go_sem, co40, co41, co42, co43, co44]) rfl (q_pair hu8 o4 hB (by omega) HFIN.out)
end Go.Proofs.YtfkogkcpndaoeaaGreat
