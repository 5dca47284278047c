/- The reference's numbers: Whole, Add, Mul. Conditions: fewer than 2^40 bits. The reference's numbers: New. Conditions: the denominator is not 0. -/
import Derived.Test.YtfkogkcpndaoeaaGreatMRNatE
set_option linter.all false
namespace Go.Proofs.YtfkogkcpndaoeaaGreat
open Go.RowKit
theorem low_whole (z : Int) : Low z 0 1 := by simp [Low]
set_option maxHeartbeats 400000 in
theorem qwhole_spec (z : Int) (w : World) (h1 : -9223372036854775808 ≤ z) (h2 : z ≤ 9223372036854775807) :
    Calls Tryz.prog 96 #[.int .i64 z] w (Ret w fun w' v' => QRep w' v' (cq z 0 1)) := by
  go_enter Tryz.func96, Tryz.ntmps96
  go_wp2_with fail
  obtain ⟨W, hW, o1, hB, hS⟩ := boxes1 w 46 [.bool false, .slice none 0 0, .bool false, .slice none 0 0, .slice none 0 0]
  rw [← hW]
  clear hW
  refine (rintOf_spec z W h1 h2).mono ?_
  rintro e W1 ⟨_, rfl, ⟨hw, _⟩, hb1⟩
  obtain ⟨s, a, l, c, rfl, _, _⟩ := hw.open
  have hsW1 : W.heap.size ≤ W1.heap.size := hb1.size; have hB := hB.trans (hb1.mono hB.size); have o1 := o1.below hb1 o1.lt
  have o2 := o1.alloc (.cells #[.int .u32 1] 28)
  have fo2 := o2.free; have co20 := o2.cell 0 _ rfl; have co21 := o2.cell 1 _ rfl; have co22 := o2.cell 2 _ rfl; have co23 := o2.cell 3 _ rfl; have co24 := o2.cell 4 _ rfl
  go_wp2_with fail
  obtain ⟨hs, hn⟩ := (hw.below ((Below.refl W1.heap.size W1).alloc (Nat.le_refl _) (.cells #[.int .u32 1] 28)) (Nat.le_refl _)).sign
  have hq : QRep (W1.alloc (.cells #[.int .u32 1] 28)) (.agg #[.bool s, .slice a l c, .bool false, .slice none 0 0, .slice (some ⟨W1.heap.size, 0, none⟩) 1 1]) (cq z 0 1) :=
    ⟨z, 0, 1, ⟨_, _, _, by rw [hs]; rfl, hn, NatRep.zero, nat_one, low_whole z⟩, rfl⟩
  exact bodyPost_ret (by simp [results, Tryz.results96, go_sem, co20, co21, co22, co23, co24]) rfl (q_end hq o2 (hB.alloc hB.size _) (Nat.le_refl _) rfl)
def Boxes2 (W : World) (u v s5 s6 : Value) (wx : World) : Prop :=
  ∃ g5 g6 : Nat, s5 = .pointer (some ⟨g5, 0, none⟩) ∧ s6 = .pointer (some ⟨g6, 0, none⟩) ∧ Own wx 44 g5 [.bool false, u] ∧ Own wx 44 g6 [.bool false, v] ∧ g5 ≠ g6 ∧ W.heap.size ≤ g5 ∧ W.heap.size ≤ g6 ∧ Below W.heap.size W wx
theorem boxes2_a (W : World) (u v : Value) : Boxes2 W u v (.pointer (some ⟨W.heap.size, 0, none⟩)) (.pointer (some ⟨W.heap.size + 1, 0, none⟩)) ((W.alloc (.cells #[.bool false, u] 44)).alloc (.cells #[.bool false, v] 44)).drew :=
  ⟨_, _, rfl, rfl, Own.alloc (own_new W _ [.bool false, u]) _, own_at _ _ [.bool false, v] (by simp), by omega, Nat.le_refl _, by omega, (((Below.refl _ _).alloc (Nat.le_refl _) _).alloc (by simp) _).drew⟩
theorem boxes2_b (W : World) (u v : Value) : Boxes2 W u v (.pointer (some ⟨W.heap.size + 1, 0, none⟩)) (.pointer (some ⟨W.heap.size, 0, none⟩)) ((W.alloc (.cells #[.bool false, v] 44)).alloc (.cells #[.bool false, u] 44)).drew :=
  ⟨_, _, rfl, rfl, own_at _ _ [.bool false, u] (by simp), Own.alloc (own_new W _ [.bool false, v]) _, by omega, by omega, Nat.le_refl _, (((Below.refl _ _).alloc (Nat.le_refl _) _).alloc (by simp) _).drew⟩
theorem whole_den {w : World} {v : Value} {d : Nat} (h : NatRep w v d) : WholeRep w (.agg #[.bool false, v]) (d : Int) := ⟨v, by rw [decide_eq_false (by omega)], by simpa using h⟩
set_option maxRecDepth 100000 in
set_option maxHeartbeats 1600000 in
theorem qadd_spec (v u : Value) (x y : CQ) (k : Nat) (w : World) (h : QRep w v x) (h' : QRep w u y) (hs : Small k x) (hs' : Small k y) (hk : k ≤ 1099511627776) :
    Calls Tryz.prog 122 #[v, u] w (Ret w fun w' v' => QRep w' v' (x.add y)) := by
  obtain ⟨a, b, d, s1, s2, a1, a2, a3, l1, c1, l2, c2, l3, c3, H⟩ := h.all
  obtain ⟨a', b', d', t1, t2, p1, p2, p3, m1, n1, m2, n2, m3, n3, H'⟩ := h'.all
  obtain ⟨rfl, wa, wb, -, -, nd, low, rfl, -, -, -, -⟩ := H
  obtain ⟨rfl, wa', wb', -, -, nd', low', rfl, -, -, -, -⟩ := H'
  obtain ⟨hs1, hs2, hs3⟩ := hs.low low
  obtain ⟨hs1', hs2', hs3'⟩ := hs'.low low'
  clear h h' hs hs'
  have B1 := Lib.hid (mul_small' hs1 hs3')
  have B2 := Lib.hid (mul_small' hs1' hs3)
  have B3 := Lib.hid (mul_small' hs2 hs3')
  have B4 := Lib.hid (mul_small' hs2' hs3)
  have B5 := Lib.hid (nmul_small hs3 hs3')
  have hd3 : (d : Int).natAbs < 2 ^ k := by simpa using hs3
  have hd3' : (d' : Int).natAbs < 2 ^ k := by simpa using hs3'
  go_enter Tryz.func122, Tryz.ntmps122
  go_upto_region 1 with (fail)
  obtain ⟨W, hW, o1, o2, o3, hB, hS⟩ := boxes3 w 46 46 46 [.bool s1, .slice a1 l1 c1, .bool s2, .slice a2 l2 c2, .slice a3 l3 c3] [.bool t1, .slice p1 m1 n1, .bool t2, .slice p2 m2 n2, .slice p3 m3 n3] [.bool false, .slice none 0 0, .bool false, .slice none 0 0, .slice none 0 0]
  rw [← hW]
  clear hW
  have wa := wa.below hB (Nat.le_refl _); have wb := wb.below hB (Nat.le_refl _); have nd := nd.below hB (Nat.le_refl _); have wa' := wa'.below hB (Nat.le_refl _); have wb' := wb'.below hB (Nat.le_refl _); have nd' := nd'.below hB (Nat.le_refl _)
  go_cut [5, 6] (fun s5 s6 wx => Boxes2 W (.slice a3 l3 c3) (.slice p3 m3 n3) s5 s6 wx)
  case first =>
    have fo1 := o1.free; have co10 := o1.cell 0 _ rfl; have co11 := o1.cell 1 _ rfl; have co12 := o1.cell 2 _ rfl; have co13 := o1.cell 3 _ rfl; have co14 := o1.cell 4 _ rfl; have fo2 := o2.free; have co20 := o2.cell 0 _ rfl; have co21 := o2.cell 1 _ rfl; have co22 := o2.cell 2 _ rfl; have co23 := o2.cell 3 _ rfl; have co24 := o2.cell 4 _ rfl
    have lt1 := o1.lt
    have lt2 := o2.lt
    have lt1' : w.heap.size < W.heap.size + 1 := by omega
    have lt2' : w.heap.size + 1 < W.heap.size + 1 := by omega
    go_region
    all_goals go_wp2_with fail
    all_goals go_meet
    all_goals first | exact boxes2_a _ _ _ | exact boxes2_b _ _ _
  case rest =>
    obtain ⟨g5, g6, rfl, rfl, o5, o6, hne, hg5, hg6, hcb⟩ := hcut
    have hscW : W.heap.size ≤ wc.heap.size := hcb.size; have hB := hB.trans (hcb.mono hB.size); have o1 := o1.below hcb o1.lt; have o2 := o2.below hcb o2.lt; have o3 := o3.below hcb o3.lt; have wa := wa.below hcb (Nat.le_refl _); have wb := wb.below hcb (Nat.le_refl _); have nd := nd.below hcb (Nat.le_refl _); have wa' := wa'.below hcb (Nat.le_refl _); have wb' := wb'.below hcb (Nat.le_refl _); have nd' := nd'.below hcb (Nat.le_refl _)
    have we := whole_den nd'
    have wd := whole_den nd
    go_upto_region 2 with (fail)
    have qo10 := o1.cell 0 _ rfl; have qo11 := o1.cell 1 _ rfl; have qo12 := o1.cell 2 _ rfl; have qo13 := o1.cell 3 _ rfl; have qo14 := o1.cell 4 _ rfl; have qo20 := o2.cell 0 _ rfl; have qo21 := o2.cell 1 _ rfl; have qo22 := o2.cell 2 _ rfl; have qo23 := o2.cell 3 _ rfl; have qo24 := o2.cell 4 _ rfl; have qo50 := o5.cell 0 _ rfl; have qo51 := o5.cell 1 _ rfl; have qo60 := o6.cell 0 _ rfl; have qo61 := o6.cell 1 _ rfl
    have o1 : Own wc.drew _ _ _ := o1; have o2 : Own wc.drew _ _ _ := o2; have o5 : Own wc.drew _ _ _ := o5; have o6 : Own wc.drew _ _ _ := o6; have o3 : Own wc.drew _ _ _ := o3; have lto1 : _ < wc.heap.size := o1.lt; have lto2 : _ < wc.heap.size := o2.lt; have lto5 : _ < wc.heap.size := o5.lt; have lto6 : _ < wc.heap.size := o6.lt; have lto3 : _ < wc.heap.size := o3.lt; have hB := hB.drew
    have wa := wa.below ((Below.refl wc.heap.size wc).drew) (Nat.le_refl _); have wb := wb.below ((Below.refl wc.heap.size wc).drew) (Nat.le_refl _); have nd := nd.below ((Below.refl wc.heap.size wc).drew) (Nat.le_refl _); have wa' := wa'.below ((Below.refl wc.heap.size wc).drew) (Nat.le_refl _); have wb' := wb'.below ((Below.refl wc.heap.size wc).drew) (Nat.le_refl _); have nd' := nd'.below ((Below.refl wc.heap.size wc).drew) (Nat.le_refl _); have wd := wd.below ((Below.refl wc.heap.size wc).drew) (Nat.le_refl _); have we := we.below ((Below.refl wc.heap.size wc).drew) (Nat.le_refl _)
    have tok1 : True := trivial
    have tok2 : True := trivial
    have tok3 : True := trivial
    have tok4 : True := trivial
    have tok5 : True := trivial
    have tok6 : True := trivial
    have tok7 : True := trivial
    have tok8 : True := trivial
    go_region_held3 (fun w' => w'.cell? ⟨w.heap.size, 0, none⟩ = some (.bool s1) ∧ w'.cell? ⟨w.heap.size, 1, none⟩ = some (.slice a1 l1 c1) ∧ w'.cell? ⟨w.heap.size, 2, none⟩ = some (.bool s2) ∧ w'.cell? ⟨w.heap.size, 3, none⟩ = some (.slice a2 l2 c2) ∧ w'.cell? ⟨w.heap.size, 4, none⟩ = some (.slice a3 l3 c3) ∧ w'.cell? ⟨w.heap.size + 1, 0, none⟩ = some (.bool t1) ∧ w'.cell? ⟨w.heap.size + 1, 1, none⟩ = some (.slice p1 m1 n1) ∧ w'.cell? ⟨w.heap.size + 1, 2, none⟩ = some (.bool t2) ∧ w'.cell? ⟨w.heap.size + 1, 3, none⟩ = some (.slice p2 m2 n2) ∧ w'.cell? ⟨w.heap.size + 1, 4, none⟩ = some (.slice p3 m3 n3) ∧ w'.cell? ⟨g5, 0, none⟩ = some (.bool false) ∧ w'.cell? ⟨g5, 1, none⟩ = some (.slice a3 l3 c3) ∧ w'.cell? ⟨g6, 0, none⟩ = some (.bool false) ∧ w'.cell? ⟨g6, 1, none⟩ = some (.slice p3 m3 n3)) (first | (with_reducible exact ⟨o1.cell 0 _ rfl, o1.cell 1 _ rfl, o1.cell 2 _ rfl, o1.cell 3 _ rfl, o1.cell 4 _ rfl, o2.cell 0 _ rfl, o2.cell 1 _ rfl, o2.cell 2 _ rfl, o2.cell 3 _ rfl, o2.cell 4 _ rfl, o5.cell 0 _ rfl, o5.cell 1 _ rfl, o6.cell 0 _ rfl, o6.cell 1 _ rfl⟩) | (simp [go_sem, qo10, qo11, qo12, qo13, qo14, qo20, qo21, qo22, qo23, qo24, qo50, qo51, qo60, qo61, lto1, lto2, lto5, lto6]; done))
      (first
        | (go_at_call 153; have _t := tok1; refine (rtimes_spec _ _ a (d' : Int) k _ wa we hs1 hd3' (by omega)).mono ?_; rintro e wc1 ⟨u1, rfl, hu1, hb1⟩; have hswc1 : wc.heap.size ≤ wc1.heap.size := hb1.size; have hB := hB.trans (hb1.mono hB.size); have o1 := o1.below hb1 o1.lt; have o2 := o2.below hb1 o2.lt; have o5 := o5.below hb1 o5.lt; have o6 := o6.below hb1 o6.lt; have o3 := o3.below hb1 o3.lt; have lto1 := o1.lt; have lto2 := o2.lt; have lto5 := o5.lt; have lto6 := o6.lt; have lto3 := o3.lt; have qo10 := o1.cell 0 _ rfl; have qo11 := o1.cell 1 _ rfl; have qo12 := o1.cell 2 _ rfl; have qo13 := o1.cell 3 _ rfl; have qo14 := o1.cell 4 _ rfl; have qo20 := o2.cell 0 _ rfl; have qo21 := o2.cell 1 _ rfl; have qo22 := o2.cell 2 _ rfl; have qo23 := o2.cell 3 _ rfl; have qo24 := o2.cell 4 _ rfl; have qo50 := o5.cell 0 _ rfl; have qo51 := o5.cell 1 _ rfl; have qo60 := o6.cell 0 _ rfl; have qo61 := o6.cell 1 _ rfl; have wa := wa.below hb1 (Nat.le_refl _); have wb := wb.below hb1 (Nat.le_refl _); have nd := nd.below hb1 (Nat.le_refl _); have wa' := wa'.below hb1 (Nat.le_refl _); have wb' := wb'.below hb1 (Nat.le_refl _); have nd' := nd'.below hb1 (Nat.le_refl _); have wd := wd.below hb1 (Nat.le_refl _); have we := we.below hb1 (Nat.le_refl _); clear tok1 _t)
        | (go_at_call 153; have _t := tok2; refine (rtimes_spec _ _ a' (d : Int) k _ wa' wd hs1' hd3 (by omega)).mono ?_; rintro e wc2 ⟨u2, rfl, hu2, hb2⟩; have hswc2 : wc1.heap.size ≤ wc2.heap.size := hb2.size; have hB := hB.trans (hb2.mono hB.size); have o1 := o1.below hb2 o1.lt; have o2 := o2.below hb2 o2.lt; have o5 := o5.below hb2 o5.lt; have o6 := o6.below hb2 o6.lt; have o3 := o3.below hb2 o3.lt; have lto1 := o1.lt; have lto2 := o2.lt; have lto5 := o5.lt; have lto6 := o6.lt; have lto3 := o3.lt; have qo10 := o1.cell 0 _ rfl; have qo11 := o1.cell 1 _ rfl; have qo12 := o1.cell 2 _ rfl; have qo13 := o1.cell 3 _ rfl; have qo14 := o1.cell 4 _ rfl; have qo20 := o2.cell 0 _ rfl; have qo21 := o2.cell 1 _ rfl; have qo22 := o2.cell 2 _ rfl; have qo23 := o2.cell 3 _ rfl; have qo24 := o2.cell 4 _ rfl; have qo50 := o5.cell 0 _ rfl; have qo51 := o5.cell 1 _ rfl; have qo60 := o6.cell 0 _ rfl; have qo61 := o6.cell 1 _ rfl; have wa := wa.below hb2 (Nat.le_refl _); have wb := wb.below hb2 (Nat.le_refl _); have nd := nd.below hb2 (Nat.le_refl _); have wa' := wa'.below hb2 (Nat.le_refl _); have wb' := wb'.below hb2 (Nat.le_refl _); have nd' := nd'.below hb2 (Nat.le_refl _); have wd := wd.below hb2 (Nat.le_refl _); have we := we.below hb2 (Nat.le_refl _); have hu1 := hu1.below hb2 (Nat.le_refl _); clear tok2 _t)
        | (go_at_call 168; have _t := tok3; refine (rplus_spec _ _ (a * d') (a' * d) (2 * k) _ hu1 hu2 B1.out B2.out (by omega)).mono ?_; rintro e wc3 ⟨u3, rfl, hu3, hb3⟩; have hswc3 : wc2.heap.size ≤ wc3.heap.size := hb3.size; have hB := hB.trans (hb3.mono hB.size); have o1 := o1.below hb3 o1.lt; have o2 := o2.below hb3 o2.lt; have o5 := o5.below hb3 o5.lt; have o6 := o6.below hb3 o6.lt; have o3 := o3.below hb3 o3.lt; have lto1 := o1.lt; have lto2 := o2.lt; have lto5 := o5.lt; have lto6 := o6.lt; have lto3 := o3.lt; have qo10 := o1.cell 0 _ rfl; have qo11 := o1.cell 1 _ rfl; have qo12 := o1.cell 2 _ rfl; have qo13 := o1.cell 3 _ rfl; have qo14 := o1.cell 4 _ rfl; have qo20 := o2.cell 0 _ rfl; have qo21 := o2.cell 1 _ rfl; have qo22 := o2.cell 2 _ rfl; have qo23 := o2.cell 3 _ rfl; have qo24 := o2.cell 4 _ rfl; have qo50 := o5.cell 0 _ rfl; have qo51 := o5.cell 1 _ rfl; have qo60 := o6.cell 0 _ rfl; have qo61 := o6.cell 1 _ rfl; have wa := wa.below hb3 (Nat.le_refl _); have wb := wb.below hb3 (Nat.le_refl _); have nd := nd.below hb3 (Nat.le_refl _); have wa' := wa'.below hb3 (Nat.le_refl _); have wb' := wb'.below hb3 (Nat.le_refl _); have nd' := nd'.below hb3 (Nat.le_refl _); have wd := wd.below hb3 (Nat.le_refl _); have we := we.below hb3 (Nat.le_refl _); have hu1 := hu1.below hb3 (Nat.le_refl _); have hu2 := hu2.below hb3 (Nat.le_refl _); clear tok3 _t)
        | (go_at_call 153; have _t := tok4; refine (rtimes_spec _ _ b (d' : Int) k _ wb we hs2 hd3' (by omega)).mono ?_; rintro e wc4 ⟨u4, rfl, hu4, hb4⟩; have hswc4 : wc3.heap.size ≤ wc4.heap.size := hb4.size; have hB := hB.trans (hb4.mono hB.size); have o1 := o1.below hb4 o1.lt; have o2 := o2.below hb4 o2.lt; have o5 := o5.below hb4 o5.lt; have o6 := o6.below hb4 o6.lt; have o3 := o3.below hb4 o3.lt; have lto1 := o1.lt; have lto2 := o2.lt; have lto5 := o5.lt; have lto6 := o6.lt; have lto3 := o3.lt; have qo10 := o1.cell 0 _ rfl; have qo11 := o1.cell 1 _ rfl; have qo12 := o1.cell 2 _ rfl; have qo13 := o1.cell 3 _ rfl; have qo14 := o1.cell 4 _ rfl; have qo20 := o2.cell 0 _ rfl; have qo21 := o2.cell 1 _ rfl; have qo22 := o2.cell 2 _ rfl; have qo23 := o2.cell 3 _ rfl; have qo24 := o2.cell 4 _ rfl; have qo50 := o5.cell 0 _ rfl; have qo51 := o5.cell 1 _ rfl; have qo60 := o6.cell 0 _ rfl; have qo61 := o6.cell 1 _ rfl; have wa := wa.below hb4 (Nat.le_refl _); have wb := wb.below hb4 (Nat.le_refl _); have nd := nd.below hb4 (Nat.le_refl _); have wa' := wa'.below hb4 (Nat.le_refl _); have wb' := wb'.below hb4 (Nat.le_refl _); have nd' := nd'.below hb4 (Nat.le_refl _); have wd := wd.below hb4 (Nat.le_refl _); have we := we.below hb4 (Nat.le_refl _); have hu1 := hu1.below hb4 (Nat.le_refl _); have hu2 := hu2.below hb4 (Nat.le_refl _); have hu3 := hu3.below hb4 (Nat.le_refl _); clear tok4 _t)
        | (go_at_call 153; have _t := tok5; refine (rtimes_spec _ _ b' (d : Int) k _ wb' wd hs2' hd3 (by omega)).mono ?_; rintro e wc5 ⟨u5, rfl, hu5, hb5⟩; have hswc5 : wc4.heap.size ≤ wc5.heap.size := hb5.size; have hB := hB.trans (hb5.mono hB.size); have o1 := o1.below hb5 o1.lt; have o2 := o2.below hb5 o2.lt; have o5 := o5.below hb5 o5.lt; have o6 := o6.below hb5 o6.lt; have o3 := o3.below hb5 o3.lt; have lto1 := o1.lt; have lto2 := o2.lt; have lto5 := o5.lt; have lto6 := o6.lt; have lto3 := o3.lt; have qo10 := o1.cell 0 _ rfl; have qo11 := o1.cell 1 _ rfl; have qo12 := o1.cell 2 _ rfl; have qo13 := o1.cell 3 _ rfl; have qo14 := o1.cell 4 _ rfl; have qo20 := o2.cell 0 _ rfl; have qo21 := o2.cell 1 _ rfl; have qo22 := o2.cell 2 _ rfl; have qo23 := o2.cell 3 _ rfl; have qo24 := o2.cell 4 _ rfl; have qo50 := o5.cell 0 _ rfl; have qo51 := o5.cell 1 _ rfl; have qo60 := o6.cell 0 _ rfl; have qo61 := o6.cell 1 _ rfl; have wa := wa.below hb5 (Nat.le_refl _); have wb := wb.below hb5 (Nat.le_refl _); have nd := nd.below hb5 (Nat.le_refl _); have wa' := wa'.below hb5 (Nat.le_refl _); have wb' := wb'.below hb5 (Nat.le_refl _); have nd' := nd'.below hb5 (Nat.le_refl _); have wd := wd.below hb5 (Nat.le_refl _); have we := we.below hb5 (Nat.le_refl _); have hu1 := hu1.below hb5 (Nat.le_refl _); have hu2 := hu2.below hb5 (Nat.le_refl _); have hu3 := hu3.below hb5 (Nat.le_refl _); have hu4 := hu4.below hb5 (Nat.le_refl _); clear tok5 _t)
        | (go_at_call 168; have _t := tok6; refine (rplus_spec _ _ (b * d') (b' * d) (2 * k) _ hu4 hu5 B3.out B4.out (by omega)).mono ?_; rintro e wc6 ⟨u6, rfl, hu6, hb6⟩; have hswc6 : wc5.heap.size ≤ wc6.heap.size := hb6.size; have hB := hB.trans (hb6.mono hB.size); have o1 := o1.below hb6 o1.lt; have o2 := o2.below hb6 o2.lt; have o5 := o5.below hb6 o5.lt; have o6 := o6.below hb6 o6.lt; have o3 := o3.below hb6 o3.lt; have lto1 := o1.lt; have lto2 := o2.lt; have lto5 := o5.lt; have lto6 := o6.lt; have lto3 := o3.lt; have qo10 := o1.cell 0 _ rfl; have qo11 := o1.cell 1 _ rfl; have qo12 := o1.cell 2 _ rfl; have qo13 := o1.cell 3 _ rfl; have qo14 := o1.cell 4 _ rfl; have qo20 := o2.cell 0 _ rfl; have qo21 := o2.cell 1 _ rfl; have qo22 := o2.cell 2 _ rfl; have qo23 := o2.cell 3 _ rfl; have qo24 := o2.cell 4 _ rfl; have qo50 := o5.cell 0 _ rfl; have qo51 := o5.cell 1 _ rfl; have qo60 := o6.cell 0 _ rfl; have qo61 := o6.cell 1 _ rfl; have wa := wa.below hb6 (Nat.le_refl _); have wb := wb.below hb6 (Nat.le_refl _); have nd := nd.below hb6 (Nat.le_refl _); have wa' := wa'.below hb6 (Nat.le_refl _); have wb' := wb'.below hb6 (Nat.le_refl _); have nd' := nd'.below hb6 (Nat.le_refl _); have wd := wd.below hb6 (Nat.le_refl _); have we := we.below hb6 (Nat.le_refl _); have hu1 := hu1.below hb6 (Nat.le_refl _); have hu2 := hu2.below hb6 (Nat.le_refl _); have hu3 := hu3.below hb6 (Nat.le_refl _); have hu4 := hu4.below hb6 (Nat.le_refl _); have hu5 := hu5.below hb6 (Nat.le_refl _); clear tok6 _t)
        | (go_at_call 154; have _t := tok7; refine (rmul_spec _ _ d d' k _ nd nd' hs3 hs3' (by omega)).mono ?_; rintro e wc7 ⟨u7, rfl, hu7, hb7⟩; have hswc7 : wc6.heap.size ≤ wc7.heap.size := hb7.size; have hB := hB.trans (hb7.mono hB.size); have o1 := o1.below hb7 o1.lt; have o2 := o2.below hb7 o2.lt; have o5 := o5.below hb7 o5.lt; have o6 := o6.below hb7 o6.lt; have o3 := o3.below hb7 o3.lt; have lto1 := o1.lt; have lto2 := o2.lt; have lto5 := o5.lt; have lto6 := o6.lt; have lto3 := o3.lt; have qo10 := o1.cell 0 _ rfl; have qo11 := o1.cell 1 _ rfl; have qo12 := o1.cell 2 _ rfl; have qo13 := o1.cell 3 _ rfl; have qo14 := o1.cell 4 _ rfl; have qo20 := o2.cell 0 _ rfl; have qo21 := o2.cell 1 _ rfl; have qo22 := o2.cell 2 _ rfl; have qo23 := o2.cell 3 _ rfl; have qo24 := o2.cell 4 _ rfl; have qo50 := o5.cell 0 _ rfl; have qo51 := o5.cell 1 _ rfl; have qo60 := o6.cell 0 _ rfl; have qo61 := o6.cell 1 _ rfl; have wa := wa.below hb7 (Nat.le_refl _); have wb := wb.below hb7 (Nat.le_refl _); have nd := nd.below hb7 (Nat.le_refl _); have wa' := wa'.below hb7 (Nat.le_refl _); have wb' := wb'.below hb7 (Nat.le_refl _); have nd' := nd'.below hb7 (Nat.le_refl _); have wd := wd.below hb7 (Nat.le_refl _); have we := we.below hb7 (Nat.le_refl _); have hu1 := hu1.below hb7 (Nat.le_refl _); have hu2 := hu2.below hb7 (Nat.le_refl _); have hu3 := hu3.below hb7 (Nat.le_refl _); have hu4 := hu4.below hb7 (Nat.le_refl _); have hu5 := hu5.below hb7 (Nat.le_refl _); have hu6 := hu6.below hb7 (Nat.le_refl _); clear tok7 _t)
        | (go_at_call 99; have _t := tok8; refine (make_spec _ _ _ (a * d' + a' * d) (b * d' + b' * d) (d * d') (2 * k + 1) _ hu3 hu6 hu7 (Nat.mul_pos low.1 low'.1) (add_small B1.out B2.out) (add_small B3.out B4.out) (pow_step B5.out (by omega)) (by omega)).mono ?_; rintro e wc8 ⟨u8, rfl, hu8, hb8⟩; have hswc8 : wc7.heap.size ≤ wc8.heap.size := hb8.size; have hB := hB.trans (hb8.mono hB.size); have o1 := o1.below hb8 o1.lt; have o2 := o2.below hb8 o2.lt; have o5 := o5.below hb8 o5.lt; have o6 := o6.below hb8 o6.lt; have o3 := o3.below hb8 o3.lt; have lto1 := o1.lt; have lto2 := o2.lt; have lto5 := o5.lt; have lto6 := o6.lt; have lto3 := o3.lt; have qo10 := o1.cell 0 _ rfl; have qo11 := o1.cell 1 _ rfl; have qo12 := o1.cell 2 _ rfl; have qo13 := o1.cell 3 _ rfl; have qo14 := o1.cell 4 _ rfl; have qo20 := o2.cell 0 _ rfl; have qo21 := o2.cell 1 _ rfl; have qo22 := o2.cell 2 _ rfl; have qo23 := o2.cell 3 _ rfl; have qo24 := o2.cell 4 _ rfl; have qo50 := o5.cell 0 _ rfl; have qo51 := o5.cell 1 _ rfl; have qo60 := o6.cell 0 _ rfl; have qo61 := o6.cell 1 _ rfl; have wa := wa.below hb8 (Nat.le_refl _); have wb := wb.below hb8 (Nat.le_refl _); have nd := nd.below hb8 (Nat.le_refl _); have wa' := wa'.below hb8 (Nat.le_refl _); have wb' := wb'.below hb8 (Nat.le_refl _); have nd' := nd'.below hb8 (Nat.le_refl _); have wd := wd.below hb8 (Nat.le_refl _); have we := we.below hb8 (Nat.le_refl _); have hu1 := hu1.below hb8 (Nat.le_refl _); have hu2 := hu2.below hb8 (Nat.le_refl _); have hu3 := hu3.below hb8 (Nat.le_refl _); have hu4 := hu4.below hb8 (Nat.le_refl _); have hu5 := hu5.below hb8 (Nat.le_refl _); have hu6 := hu6.below hb8 (Nat.le_refl _); have hu7 := hu7.below hb8 (Nat.le_refl _); obtain ⟨_, _, _, _, _, _, _, _, _, _, _, rfl⟩ := hu8.open; have fo3 := o3.free; have co30 := o3.cell 0 _ rfl; have co31 := o3.cell 1 _ rfl; have co32 := o3.cell 2 _ rfl; have co33 := o3.cell 3 _ rfl; have co34 := o3.cell 4 _ rfl; clear tok8 _t))
    go_wp2_with fail
    exact bodyPost_ret (by simp [results, Tryz.results122, go_sem, co30, co31, co32, co33, co34]) rfl (q_end hu8 o3 hB (by omega) (cq_add low.1 low'.1).symm)
end Go.Proofs.YtfkogkcpndaoeaaGreat
namespace Go.Proofs.YtfkogkcpndaoeaaGreat
open Go.RowKit
def cqz (a b d : Int) : CQ := ⟨(a : Rat) / (d : Rat), (b : Rat) / (d : Rat)⟩
theorem cqz_pos {a b d : Int} (h : 0 < d) : cqz a b d = cq a b d.natAbs := by
  unfold cqz cq
  rw [Int.natAbs_of_nonneg (by omega)]
theorem rat_neg_div (a d : Int) : ((-a : Int) : Rat) / ((-d : Int) : Rat) = (a : Rat) / (d : Rat) := by
  rw [Rat.intCast_neg, Rat.intCast_neg]
  by_cases h : (d : Rat) = 0
  · rw [h]; simp [Rat.div_def]
  · have h' : -(d : Rat) ≠ 0 := by grind
    grind
theorem cqz_neg {a b d : Int} (h : d < 0) : cqz a b d = cq (-a) (-b) d.natAbs := by
  unfold cqz cq
  rw [show ((d.natAbs : Nat) : Int) = -d by omega, rat_neg_div, rat_neg_div]
theorem set22 {X : World} {E : TypeId} {g h : Nat} {x0 x1 y0 y1 : Value} (u0 u1 v0 v1 : Value) (og : Own X E g [x0, x1]) (oh : Own X E h [y0, y1]) (hne : g ≠ h) (hx : [x0, x1].all noU = true) (hy : [y0, y1].all noU = true) (hu : [u0, x1].all noU = true) (hv : [v0, y1].all noU = true) :
    ∃ Y, Y = (((X.setCell ⟨g, 0, none⟩ u0).setCell ⟨g, 1, none⟩ u1).setCell ⟨h, 0, none⟩ v0).setCell ⟨h, 1, none⟩ v1 ∧ Own Y E g [u0, u1] ∧ Own Y E h [v0, v1] ∧ Y.heap.size = X.heap.size ∧
      (∀ (E' : TypeId) (k : Nat) (cs : List Value), k ≠ g → k ≠ h → Own X E' k cs → Own Y E' k cs) ∧ (∀ (v : Value) (n : Nat), NatRep X v n → NatRep Y v n) ∧ (∀ (B : Nat) (w : World), Below B w X → B ≤ g → B ≤ h → Below B w Y) := by
  refine ⟨_, rfl, ?_, ?_, ?_, ?_, ?_, ?_⟩
  · exact ((((og.set 0 u0).set 1 u1).other (a := ⟨h, 0, none⟩) (Ne.symm hne) v0).other (a := ⟨h, 1, none⟩) (Ne.symm hne) v1)
  · exact (((oh.other (a := ⟨g, 0, none⟩) hne u0).other (a := ⟨g, 1, none⟩) hne u1).set 0 v0).set 1 v1
  · simp [World.setCell]
  · intro E' k cs h1 h2 o
    exact (((o.other (a := ⟨g, 0, none⟩) (Ne.symm h1) u0).other (a := ⟨g, 1, none⟩) (Ne.symm h1) u1).other (a := ⟨h, 0, none⟩) (Ne.symm h2) v0).other (a := ⟨h, 1, none⟩) (Ne.symm h2) v1
  · intro v n r
    have oh' := (oh.other (a := ⟨g, 0, none⟩) hne u0).other (a := ⟨g, 1, none⟩) hne u1
    exact (((r.put og hx 0 u0).put (og.set 0 u0) hu 1 u1).put oh' hy 0 v0).put (oh'.set 0 v0) hv 1 v1
  · intro B w hb h1 h2
    exact (((hb.setCell h1 _).setCell h1 _).setCell h2 _).setCell h2 _
theorem WholeRep.on {w w' : World} {v : Value} {z : Int} (h : WholeRep w v z) (hn : ∀ (v : Value) (n : Nat), NatRep w v n → NatRep w' v n) : WholeRep w' v z := by
  obtain ⟨m, e, hm⟩ := h
  exact ⟨m, e, hn _ _ hm⟩
set_option maxRecDepth 100000 in
set_option maxHeartbeats 800000 in
theorem qnew_spec (a b d : Int) (w : World) (ha1 : -9223372036854775808 ≤ a) (ha2 : a ≤ 9223372036854775807) (hc1 : -9223372036854775808 ≤ b) (hc2 : b ≤ 9223372036854775807) (hd0 : d ≠ 0) (hd1 : -9223372036854775808 ≤ d) (hd2 : d ≤ 9223372036854775807) :
    Calls Tryz.prog 45 #[.int .i64 a, .int .i64 b, .int .i64 d] w (Ret w fun w' v' => ∃ u, v' = .tuple #[u, .int .i64 0] ∧ QRep w' u (cqz a b d)) := by
  have hdz : (d == 0) = false := by simp; omega
  go_enter Tryz.func45, Tryz.ntmps45
  go_wp2_with fail
  obtain ⟨W, hW, o3, hB, hS⟩ := boxes1 w 46 [.bool false, .slice none 0 0, .bool false, .slice none 0 0, .slice none 0 0]
  rw [← hW]
  clear hW
  refine (rintOf_spec d W hd1 hd2).mono ?_
  rintro e W1 ⟨_, rfl, ⟨wd, sd⟩, hb1⟩
  obtain ⟨t1, p1, m1, n1, rfl, _, htd⟩ := wd.open
  have hsW1 : W.heap.size ≤ W1.heap.size := hb1.size; have hB := hB.trans (hb1.mono hB.size); have o3 := o3.below hb1 o3.lt
  go_upto_region 4 with (fail)
  obtain ⟨V1, hV1, o6, hBV1, hSV1⟩ := boxes1 W1 44 [.bool t1, .slice p1 m1 n1]
  rw [← hV1]
  clear hV1
  have hB := hB.trans (hBV1.mono hB.size)
  have o3 := o3.below hBV1 o3.lt; have wd := wd.below hBV1 (Nat.le_refl _)
  go_wp2_with fail
  refine (rintOf_spec a V1 ha1 ha2).mono ?_
  rintro e W2 ⟨_, rfl, ⟨wa, sa⟩, hb2⟩
  obtain ⟨s1, a1, l1, c1, rfl, _, _⟩ := wa.open
  have hsW2 : V1.heap.size ≤ W2.heap.size := hb2.size; have hB := hB.trans (hb2.mono hB.size); have o3 := o3.below hb2 o3.lt; have o6 := o6.below hb2 o6.lt; have wd := wd.below hb2 (Nat.le_refl _)
  go_wp2_with fail
  refine (rintOf_spec b W2 hc1 hc2).mono ?_
  rintro e W3 ⟨_, rfl, ⟨wb, sb⟩, hb3⟩
  obtain ⟨s2, a2, l2, c2, rfl, _, _⟩ := wb.open
  have hsW3 : W2.heap.size ≤ W3.heap.size := hb3.size; have hB := hB.trans (hb3.mono hB.size); have o3 := o3.below hb3 o3.lt; have o6 := o6.below hb3 o6.lt; have wa := wa.below hb3 (Nat.le_refl _); have wd := wd.below hb3 (Nat.le_refl _)
  go_upto_region 5 with (fail)
  obtain ⟨V, hV, o4, o5, hBV, hSV⟩ := boxes2 W3 44 44 [.bool s1, .slice a1 l1 c1] [.bool s2, .slice a2 l2 c2]
  rw [← hV]
  clear hV
  have hB := hB.trans (hBV.mono hB.size)
  have o3 := o3.below hBV o3.lt; have o6 := o6.below hBV o6.lt; have wa := wa.below hBV (Nat.le_refl _); have wb := wb.below hBV (Nat.le_refl _); have wd := wd.below hBV (Nat.le_refl _)
  obtain ⟨-, hmd⟩ := wd.sign
  rcases Int.lt_or_lt_of_ne hd0 with hneg | hpos
  · obtain rfl : t1 = true := htd.2 hneg
    have sa' : (-a).natAbs < 2 ^ 64 := by omega
    have sb' : (-b).natAbs < 2 ^ 64 := by omega
    have hd : 0 < d.natAbs := by omega
    have HQ := Lib.hid (cqz_neg (a := a) (b := b) hneg)
    clear sa sb htd hneg
    have lt4 := o4.lt
    have lt5 := o5.lt
    have lt6 := o6.lt
    have lt3 := o3.lt
    have fo4 := o4.free; have co40 := o4.cell 0 _ rfl; have co41 := o4.cell 1 _ rfl; have fo5 := o5.free; have co50 := o5.cell 0 _ rfl; have co51 := o5.cell 1 _ rfl; have fo6 := o6.free; have co60 := o6.cell 0 _ rfl; have co61 := o6.cell 1 _ rfl
    go_wp2_with fail
    have tok1 : True := trivial
    have q3 : Own V.drew 46 _ _ := o3
    have q4 : Own V.drew 44 _ _ := o4
    have q5 : Own V.drew 44 _ _ := o5
    have q6 : Own V.drew 44 _ _ := o6
    have ra := wa.below ((Below.refl V.heap.size V).drew) (Nat.le_refl _)
    have rb := wb.below ((Below.refl V.heap.size V).drew) (Nat.le_refl _)
    have rd := hmd.below ((Below.refl V.heap.size V).drew) (Nat.le_refl _)
    have hB := hB.drew
    clear o3 o4 o5 o6 wa wb wd hmd
    go_region_with (first
      | (go_at_call 98; have _t := tok1; refine (rminus_spec _ a V.drew ra).mono ?_; rintro e X1 ⟨u1, rfl, hu1, hx1⟩; obtain ⟨e1, e2, e3, e4, rfl, _, _⟩ := hu1.open; have hB := hB.trans (hx1.mono hB.size); have ltx1 := hx1.size; have q3 := q3.below hx1 q3.lt; have q4 := q4.below hx1 q4.lt; have q5 := q5.below hx1 q5.lt; have q6 := q6.below hx1 q6.lt; have rb := rb.below hx1 (Nat.le_refl _); have rd := rd.below hx1 (Nat.le_refl _); have fq4 := q4.free; have cq40 := q4.cell 0 _ rfl; have cq41 := q4.cell 1 _ rfl; have fq5 := q5.free; have cq50 := q5.cell 0 _ rfl; have cq51 := q5.cell 1 _ rfl; have fq6 := q6.free; have cq60 := q6.cell 0 _ rfl; have cq61 := q6.cell 1 _ rfl; clear tok1 _t)
      | (go_at_call 98; refine (rminus_spec _ b X1 rb).mono ?_; rintro e X2 ⟨u2, rfl, hu2, hx2⟩; obtain ⟨f1, f2, f3, f4, rfl, _, _⟩ := hu2.open; have hB := hB.trans (hx2.mono hB.size); have ltx2 := hx2.size; clear cq40 cq41 fq4 cq50 cq51 fq5 cq60 cq61 fq6; have q3 := q3.below hx2 q3.lt; have q4 := q4.below hx2 q4.lt; have q5 := q5.below hx2 q5.lt; have q6 := q6.below hx2 q6.lt; have hu1 := hu1.below hx2 (Nat.le_refl _); have rd := rd.below hx2 (Nat.le_refl _); have fq4 := q4.free; have cq40 := q4.cell 0 _ rfl; have cq41 := q4.cell 1 _ rfl; have fq5 := q5.free; have cq50 := q5.cell 0 _ rfl; have cq51 := q5.cell 1 _ rfl; have fq6 := q6.free; have cq60 := q6.cell 0 _ rfl; have cq61 := q6.cell 1 _ rfl))
    all_goals
      obtain ⟨Y, hY, p4, p5, hYs, hYo, hYn, hYb⟩ := set22 (.bool e1) (.slice e2 e3 e4) (.bool f1) (.slice f2 f3 f4) q4 q5 (by omega) rfl rfl rfl rfl
      rw [← hY]
      have p3 := hYo _ _ _ (by omega) (by omega) q3
      have p6 := hYo _ _ _ (by omega) (by omega) q6
      have ru := hu1.on hYn
      have rv := hu2.on hYn
      have rd := hYn _ _ rd
      have hB := hYb _ _ hB (by omega) (by omega)
      clear hY hYo hYn hYb q3 q4 q5 q6 hu1 hu2
      have fp4 := p4.free; have cp40 := p4.cell 0 _ rfl; have cp41 := p4.cell 1 _ rfl; have fp5 := p5.free; have cp50 := p5.cell 0 _ rfl; have cp51 := p5.cell 1 _ rfl; have fp6 := p6.free; have cp60 := p6.cell 0 _ rfl; have cp61 := p6.cell 1 _ rfl
      go_wp2_with fail
      refine (make_spec _ _ _ (-a) (-b) d.natAbs 64 Y ru rv rd hd sa' sb' sd (by omega)).mono ?_
      rintro e W4 ⟨u8, rfl, hu8, hb4⟩
      obtain ⟨_, _, _, _, _, _, _, _, _, _, _, rfl⟩ := hu8.open
      have hsW4 : Y.heap.size ≤ W4.heap.size := hb4.size; have hB := hB.trans (hb4.mono hB.size); have p3 := p3.below hb4 p3.lt; have fp3 := p3.free; have cp30 := p3.cell 0 _ rfl; have cp31 := p3.cell 1 _ rfl; have cp32 := p3.cell 2 _ rfl; have cp33 := p3.cell 3 _ rfl; have cp34 := p3.cell 4 _ rfl
      go_wp2_with fail
      exact bodyPost_ret (by simp [results, Tryz.results45, go_sem, cp30, cp31, cp32, cp33, cp34]) rfl (q_pair hu8 p3 hB (by omega) HQ.out.symm)
  · obtain rfl : t1 = false := by
      rw [← Bool.not_eq_true, htd]; omega
    have fo4 := o4.free; have co40 := o4.cell 0 _ rfl; have co41 := o4.cell 1 _ rfl; have fo5 := o5.free; have co50 := o5.cell 0 _ rfl; have co51 := o5.cell 1 _ rfl; have fo6 := o6.free; have co60 := o6.cell 0 _ rfl; have co61 := o6.cell 1 _ rfl
    go_wp2_with fail
    refine (make_spec _ _ _ a b d.natAbs 64 V wa wb hmd (by omega) sa sb sd (by omega)).mono ?_
    rintro e W4 ⟨u8, rfl, hu8, hb4⟩
    obtain ⟨_, _, _, _, _, _, _, _, _, _, _, rfl⟩ := hu8.open
    have hsW4 : V.heap.size ≤ W4.heap.size := hb4.size; have hB := hB.trans (hb4.mono hB.size); have o3 := o3.below hb4 o3.lt; have fo3 := o3.free; have co30 := o3.cell 0 _ rfl; have co31 := o3.cell 1 _ rfl; have co32 := o3.cell 2 _ rfl; have co33 := o3.cell 3 _ rfl; have co34 := o3.cell 4 _ rfl
    go_wp2_with fail
    exact bodyPost_ret (by simp [results, Tryz.results45, go_sem, co30, co31, co32, co33, co34]) rfl (q_pair hu8 o3 hB (by omega) (cqz_pos hpos).symm)
end Go.Proofs.YtfkogkcpndaoeaaGreat
