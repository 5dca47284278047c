/- record.WriteTouch at a table of one element. Conditions: the table has one frequency and one element; all numbers are decimal. -/
import Derived.Test.YtfkogkcpndaoeaaGreatMOne
import Derived.RegionTactic
set_option linter.all false
namespace Go.Proofs.YtfkogkcpndaoeaaGreat
open Go.RowKit
theorem TabOne.keptX {w w' : World} {b base gf gs gr ge : Nat} {T : TypeId} {cs : List Value} {xf xe : CQ} (h : TabOne w gf gs gr ge xf xe) (hk : KeptX b base w w') (o : Own w T b cs) (hT : T ≠ 28) (h1 : gf ≠ b) (h2 : gs ≠ b) (h3 : gr ≠ b) (h4 : ge ≠ b) : TabOne w' gf gs gr ge xf xe :=
  ⟨h.f.keptX hk o hT h1, hk.own h.s (by decide) h2, hk.own h.r (by decide) h3, h.e.keptX hk o hT h4⟩
def tHead (z : Int) (dz : Nat) : List UInt8 := [35, 32, 72, 90, 32, 83, 32, 82, 73, 32, 82, 32] ++ decTxt z dz ++ [10]
def tLine (f : Int) (df : Nat) (a b : Int) (de : Nat) : List UInt8 := decTxt f df ++ [32] ++ decTxt a de ++ [32] ++ decTxt b de ++ [10]
structure WT (w wr : World) (g1 gt base gf gs gr ge : Nat) (cells : List Value) (xf xe : CQ) (p : Option Addr) (l : List UInt8) (sm : Bool) : Prop where
  o : Own wr 101 g1 cells
  t : TabOne wr gf gs gr ge xf xe
  b : BuildAt wr 157 gt base p l [.bool false, .bool sm]
  p : SelfP gt p
  hB : Below base w wr
  hs : base ≤ wr.heap.size
theorem WT.below {w wr wx : World} {g1 gt base gf gs gr ge : Nat} {cells : List Value} {xf xe : CQ} {p : Option Addr} {l : List UInt8} {sm : Bool} (h : WT w wr g1 gt base gf gs gr ge cells xf xe p l sm) (hb : Below wr.heap.size wr wx) : WT w wx g1 gt base gf gs gr ge cells xf xe p l sm :=
  ⟨h.o.below hb h.o.lt, h.t.below hb, h.b.below hb, h.p, h.hB.trans (hb.mono h.hs), Nat.le_trans h.hs hb.size⟩
theorem WT.step {w wr wx : World} {g1 gt base gf gs gr ge : Nat} {cells : List Value} {xf xe : CQ} {p q : Option Addr} {l m : List UInt8} {sm sn : Bool} (h : WT w wr g1 gt base gf gs gr ge cells xf xe p l sm) (hk : KeptX gt base wr wx) (hb : BuildAt wx 157 gt base q m [.bool false, .bool sn]) (hq : SelfP gt q)
    (h0 : base ≤ gt) (h1 : g1 ≠ gt) (h2 : gf ≠ gt) (h3 : gs ≠ gt) (h4 : gr ≠ gt) (h5 : ge ≠ gt) : WT w wx g1 gt base gf gs gr ge cells xf xe q m sn := by
  obtain ⟨v, ob, _⟩ := h.b
  exact ⟨hk.own h.o (by decide) h1, h.t.keptX hk ob (by decide) h2 h3 h4 h5, hb, hq, h.hB.trans (hk.below h0 (Nat.le_refl _) h.hs), Nat.le_trans h.hs hk.size⟩
theorem row_own {w : World} {base g n c size : Nat} {T : TypeId} {xs : List Value} (h : w.ownsRow base T size (.slice (some ⟨g, 0, none⟩) n c) n xs) : ∃ cs, Own w T g cs ∧ ∀ (i : Nat) (v : Value), xs[i]? = some v → cs[i]? = some v := by
  rcases h.2 with ⟨e, _⟩ | ⟨g', cap, cur, e, _, hg, _, _, _, ht⟩
  · cases e
  · injection e with e _ _
    obtain rfl : g = g' := by simpa using congrArg (fun x : Option Addr => x.map Addr.block) e
    refine ⟨cur.toList, by unfold Own; rw [Array.toArray_toList]; exact hg, fun i v hi => ?_⟩
    rw [← ht, List.getElem?_take] at hi
    split at hi
    · exact hi
    · cases hi
def TwoWT (w wr : World) (i g1 gt base gf gs gr ge : Nat) (cells : List Value) (xf xe : CQ) (l m : List UInt8) (sm : Bool) : Prop :=
  (i = 0 → ∃ p, WT w wr g1 gt base gf gs gr ge cells xf xe p l sm) ∧ (i = 1 → ∃ p, WT w wr g1 gt base gf gs gr ge cells xf xe p m sm)
set_option maxRecDepth 100000 in
set_option maxHeartbeats 1600000 in
theorem writeTouch_one (s0 s2 : Bool) (a1 a3 a4 : Option Addr) (l1 c1 l3 c3 l4 c4 gf gs gr ge : Nat) (z f a b : Int) (dz df de k : Nat) (w : World)
    (hz : NumRep w (.agg #[.bool s0, .slice a1 l1 c1, .bool s2, .slice a3 l3 c3, .slice a4 l4 c4]) (cq z 0 dz)) (ht : TabOne w gf gs gr ge (cq f 0 df) (cq a b de))
    (hd1 : 0 < dz) (hd2 : 0 < df) (hd3 : 0 < de) (hz0 : 0 < z) (hf0 : 0 < f) (b1 : z.natAbs < 2 ^ k) (b2 : dz < 2 ^ k) (b3 : f.natAbs < 2 ^ k) (b4 : df < 2 ^ k) (b5 : a.natAbs < 2 ^ k) (b6 : b.natAbs < 2 ^ k) (b7 : de < 2 ^ k) (hk : k ≤ 100000)
    (k1 : decOk z dz = true) (k2 : decOk f df = true) (k3 : decOk a de = true) (k4 : decOk b de = true) :
    Calls Tryz.prog 37 #[.agg #[.bool s0, .slice a1 l1 c1, .bool s2, .slice a3 l3 c3, .slice a4 l4 c4, .slice (some ⟨gf, 0, none⟩) 1 1, .slice (some ⟨gs, 0, none⟩) 1 1]] w
      (Ret w fun _ v' => v' = .tuple #[.string ⟨(tHead z dz ++ tLine f df a b de).toArray⟩, .int .i64 0]) := by
  have hvt := fun w hz ht => validTable_one s0 s2 a1 a3 a4 l1 c1 l3 c3 l4 c4 gf gs gr ge z f dz df k (cq a b de) w hz ht hd1 hd2 hz0 hf0 b1 b2 b3 b4 hk
  have hdz := fun v w h => decimal_spec v z dz k w h hd1 b1 b2 hk
  rw [decRes_eq, k1] at hdz
  have hwf := fun gt base p l v w h hp hl hb hv => word_touch gt base p l false false v f df k w h hp hl hb hv hd2 b3 b4 hk
  have hwa := fun gt base p l v w h hp hl hb hv => word_touch gt base p l false true v a de k w h hp hl hb hv hd3 b5 b7 hk
  have hwb := fun gt base p l v w h hp hl hb hv => word_touch gt base p l false true v b de k w h hp hl hb hv hd3 b6 b7 hk
  rw [k2] at hwf
  rw [k3] at hwa
  rw [k4] at hwb
  have ere : (⟨(cq a b de).re, 0⟩ : CQ) = cq a 0 de := CQ.ext rfl ((im_zero hd3).2 rfl).symm
  have eim : (⟨(cq a b de).im, 0⟩ : CQ) = cq b 0 de := CQ.ext rfl ((im_zero hd3).2 rfl).symm
  have hre := fun v w h => re_spec v (cq a b de) k w h (small_mk hd3 b5 b6 b7) (by omega)
  have him := fun v w h => im_spec v (cq a b de) k w h (small_mk hd3 b5 b6 b7) (by omega)
  rw [ere] at hre
  rw [eim] at him
  have n1 := decTxt_len hd1 b1 b2 hk
  have n2 := decTxt_len hd2 b3 b4 hk
  have n3 := decTxt_len hd3 b5 b7 hk
  have n4 := decTxt_len hd3 b6 b7 hk
  have HVt := Lib.hid hvt
  have HDz := Lib.hid hdz
  have HWf := Lib.hid hwf
  have HWa := Lib.hid hwa
  have HWb := Lib.hid hwb
  have HRe := Lib.hid hre
  have HIm := Lib.hid him
  have HHead : Hid (tHead z dz = [35, 32, 72, 90, 32, 83, 32, 82, 73, 32, 82, 32] ++ decTxt z dz ++ [10]) := rfl
  have HLine : Hid (tLine f df a b de = decTxt f df ++ [32] ++ decTxt a de ++ [32] ++ decTxt b de ++ [10]) := rfl
  clear hvt hdz hwf hwa hwb hre him ere eim k1 k2 k3 k4 b1 b2 b3 b4 b5 b6 b7
  generalize tHead z dz = tH at *
  generalize tLine f df a b de = tL at *
  generalize decTxt z dz = tz at *
  generalize decTxt f df = tf at *
  generalize decTxt a de = ta at *
  generalize decTxt b de = tb at *
  go_enter Tryz.func37, Tryz.ntmps37
  go_upto_region 1 with (fail)
  obtain ⟨W, hW, o1, hB, hS⟩ := boxes1 w 101 [.bool s0, .slice a1 l1 c1, .bool s2, .slice a3 l3 c3, .slice a4 l4 c4, .slice (some ⟨gf, 0, none⟩) 1 1, .slice (some ⟨gs, 0, none⟩) 1 1]
  rw [← hW]
  clear hW
  have lf : gf < w.heap.size := by obtain ⟨_, _, _, _, _, _, _, _, _, _, _, o, _⟩ := ht.f; exact o.lt
  have le : ge < w.heap.size := by obtain ⟨_, _, _, _, _, _, _, _, _, _, _, o, _⟩ := ht.e; exact o.lt
  have ls := ht.s.lt
  have lr := ht.r.lt
  have hz := hz.below hB (Nat.le_refl _)
  have ht := ht.below hB
  have fo1 := o1.free; have co10 := o1.cell 0 _ rfl; have co11 := o1.cell 1 _ rfl; have co12 := o1.cell 2 _ rfl; have co13 := o1.cell 3 _ rfl; have co14 := o1.cell 4 _ rfl; have co15 := o1.cell 5 _ rfl; have co16 := o1.cell 6 _ rfl
  go_wp2_with fail
  refine (HVt.out W hz ht).mono ?_
  rintro e W1 ⟨_, rfl, rfl, hb1⟩
  clear co10 co11 co12 co13 co14 co15 co16 fo1
  have ht := ht.below hb1
  have hsW1 : W.heap.size ≤ W1.heap.size := hb1.size; have hB := hB.trans (hb1.mono hB.size); have o1 := o1.below hb1 o1.lt; have hz := hz.below hb1 (Nat.le_refl _)
  go_upto_region 4 with (fail)
  obtain ⟨V, hV, o4, hBV, hSV⟩ := boxes1 W1 157 [.pointer none, .slice none 0 0, .bool false, .bool false]
  rw [← hV]
  clear hV
  have ht := ht.below hBV
  have hsV : W1.heap.size ≤ V.heap.size := hBV.size; have hB := hB.trans (hBV.mono hB.size); have o1 := o1.below hBV o1.lt; have hz := hz.below hBV (Nat.le_refl _)
  have hgt : w.heap.size < W1.heap.size := by omega
  have hbu : BuildAt V 157 W1.heap.size w.heap.size none [] [.bool false, .bool false] := ⟨_, o4, World.ownsRow_nil _ _ _ _⟩
  clear o4
  generalize W1.heap.size = gt at *
  have fo1 := o1.free; have co10 := o1.cell 0 _ rfl; have co11 := o1.cell 1 _ rfl; have co12 := o1.cell 2 _ rfl; have co13 := o1.cell 3 _ rfl; have co14 := o1.cell 4 _ rfl; have co15 := o1.cell 5 _ rfl; have co16 := o1.cell 6 _ rfl
  go_wp2_with fail
  refine (HDz.out _ V hz).mono ?_
  rintro e W2 ⟨_, rfl, rfl, hb2⟩
  clear co10 co11 co12 co13 co14 co15 co16 fo1
  have ht := ht.below hb2
  have hbu := hbu.below hb2
  have hsW2 : V.heap.size ≤ W2.heap.size := hb2.size; have hB := hB.trans (hb2.mono hB.size); have o1 := o1.below hb2 o1.lt
  clear hz
  obtain ⟨q2, q3, hf⟩ := boxes_more hbu
  go_upto_region 6 with (fail)
  obtain ⟨WS, hWS⟩ : ∃ WS, WS = W2.setCell ⟨gt, 2, none⟩ (.bool false) := ⟨_, rfl⟩
  rw [← hWS]
  have hk2 : KeptX gt w.heap.size W2 WS := by rw [hWS]; exact (KeptX.refl _ _ _).set _
  have hbu2 : BuildAt WS 157 gt w.heap.size none [] [.bool false, .bool false] := by rw [hWS]; exact hbu.set2 (by decide)
  clear hWS q2 q3 hf
  have hst : WT w WS w.heap.size gt w.heap.size gf gs gr ge [.bool s0, .slice a1 l1 c1, .bool s2, .slice a3 l3 c3, .slice a4 l4 c4, .slice (some ⟨gf, 0, none⟩) 1 1, .slice (some ⟨gs, 0, none⟩) 1 1] (cq f 0 df) (cq a b de) none [] false :=
    WT.step (w := w) ⟨o1, ht, hbu, .inl rfl, hB, hB.size⟩ hk2 hbu2 (.inl rfl) (by omega) (by omega) (by omega) (by omega) (by omega) (by omega)
  clear o1 ht hbu hbu2 hB hk2
  obtain ⟨tA, hA⟩ : ∃ tA : List UInt8, tA = [35, 32, 72, 90, 32, 83, 32, 82, 73, 32, 82, 32] ++ tz := ⟨_, rfl⟩
  have hAl : tA.length ≤ 8000012 := by rw [hA, List.length_append]; show 12 + tz.length ≤ _; omega
  have HA := Lib.hid hA
  have hHA : tH = tA ++ [10] := by rw [HHead.out, hA]
  have HHA := Lib.hid hHA
  clear hA hHA
  have hadd1 : ∀ w, (Op.stringOp .add ⟨#[35, 32, 72, 90, 32, 83, 32, 82, 73, 32, 82, 32]⟩ ⟨tz.toArray⟩).run Tryz.prog w = .ok (.string ⟨tA.toArray⟩) w := fun w => by
    rw [HA.out, ← str_app]; exact run_string_add_sum w _ _ (by show 12 + tz.toArray.size ≤ _; rw [List.size_toArray]; omega)
  have hadd2 : ∀ w, (Op.stringOp .add ⟨tA.toArray⟩ ⟨#[10]⟩).run Tryz.prog w = .ok (.string ⟨tH.toArray⟩) w := fun w => by
    rw [HHA.out, ← str_app]; exact run_string_add_sum w _ _ (by show tA.toArray.size + 1 ≤ _; rw [List.size_toArray]; omega)
  have nH : tH.length ≤ 8000100 := by rw [HHA.out, List.length_append]; show tA.length + 1 ≤ _; omega
  go_wp2_with fail
  refine (writeString_spec 157 gt w.heap.size none [] tH _ WS (lies_touch _ _) hst.b (.inl rfl) (by simp; omega) hst.hs).mono ?_
  rintro e W3 ⟨⟨_, rfl⟩, h3, hk3⟩
  have hst := hst.step hk3 h3 (.inr rfl) (by omega) (by omega) (by omega) (by omega) (by omega) (by omega)
  clear h3 hk3 hadd1 hadd2
  rw [List.nil_append] at hst
  have o1 := hst.o
  have fo1 := o1.free; have co10 := o1.cell 0 _ rfl; have co11 := o1.cell 1 _ rfl; have co12 := o1.cell 2 _ rfl; have co13 := o1.cell 3 _ rfl; have co14 := o1.cell 4 _ rfl; have co15 := o1.cell 5 _ rfl; have co16 := o1.cell 6 _ rfl
  go_wp2_with fail
  have nL : tL.length ≤ 30000000 := by rw [HLine.out]; simp only [List.length_append, List.length_cons, List.length_nil]; omega
  clear co10 co11 co12 co13 co14 co15 co16 fo1 o1
  go_loopg [34] 1 (fun g s34 wr => ∃ i : Nat, i + g = 1 ∧ s34 = .int .i64 (i : Int) ∧ TwoWT w wr i w.heap.size gt w.heap.size gf gs gr ge [.bool s0, .slice a1 l1 c1, .bool s2, .slice a3 l3 c3, .slice a4 l4 c4, .slice (some ⟨gf, 0, none⟩) 1 1, .slice (some ⟨gs, 0, none⟩) 1 1] (cq f 0 df) (cq a b de) tH (tH ++ tL) false)
  case atStart => exact ⟨0, by omega, rfl, fun _ => ⟨_, hst⟩, fun h => by omega⟩
  case round =>
    clear hst
    obtain ⟨i, hi, rfl, h0, h1⟩ := hrel
    rcases (show i = 0 ∨ i = 1 by omega) with rfl | rfl
    · obtain ⟨p, hst⟩ := h0 rfl
      clear h0 h1
      obtain rfl : gk = 1 := by omega
      have hnb := hst.t.f
      obtain ⟨t0, t2, d1, d3, d4, m1, n1', m3, n3', m4, n4', of, hnf⟩ := hnb
      have fof := of.free; have cof0 := of.cell 0 _ rfl; have cof1 := of.cell 1 _ rfl; have cof2 := of.cell 2 _ rfl; have cof3 := of.cell 3 _ rfl; have cof4 := of.cell 4 _ rfl
      go_upto_region 10 with (fail)
      obtain ⟨V1, hV, o8, hBV1, hSV1⟩ := boxes1 wr 40 [.bool t0, .slice d1 m1 n1', .bool t2, .slice d3 m3 n3', .slice d4 m4 n4']
      rw [← hV]
      clear hV cof0 cof1 cof2 cof3 cof4 fof of
      have hst := hst.below hBV1
      have hnf := hnf.below hBV1 (Nat.le_refl _)
      have fo8 := o8.free; have co80 := o8.cell 0 _ rfl; have co81 := o8.cell 1 _ rfl; have co82 := o8.cell 2 _ rfl; have co83 := o8.cell 3 _ rfl; have co84 := o8.cell 4 _ rfl
      go_wp2_with fail
      refine (HWf.out gt w.heap.size p tH _ V1 hst.b hst.p (by omega) hst.hs hnf).mono ?_
      rintro e W4 ⟨rfl, h4, hk4⟩
      have hst := hst.step hk4 (by simpa using h4) (.inr rfl) (by omega) (by omega) (by omega) (by omega) (by omega) (by omega)
      clear h4 hk4 co80 co81 co82 co83 co84 fo8 o8 hnf hBV1
      have o1 := hst.o
      have qs := hst.t.s.cell 0 _ rfl
      have fo1 := o1.free; have co10 := o1.cell 0 _ rfl; have co11 := o1.cell 1 _ rfl; have co12 := o1.cell 2 _ rfl; have co13 := o1.cell 3 _ rfl; have co14 := o1.cell 4 _ rfl; have co15 := o1.cell 5 _ rfl; have co16 := o1.cell 6 _ rfl
      go_wp2_with fail
      refine (touchOrder_one W4).mono ?_
      rintro e W5 ⟨_, rfl, ⟨-, hT, -⟩, hb5⟩
      obtain ⟨go, capo, rfl, hown⟩ := hT rfl
      have hst := hst.below hb5
      clear co10 co11 co12 co13 co14 co15 co16 fo1 o1 qs hT
      have hgo : W4.heap.size ≤ go ∧ go < W5.heap.size := hown.lt go rfl
      obtain ⟨cs, og, hcs⟩ := row_own hown
      have hc0 := hcs 0 (.int .i64 0) rfl
      have hc1 := hcs 1 (.int .i64 0) rfl
      have hgot : go ≠ gt := by have := hst.b.lt; obtain ⟨v, ob, _⟩ := hst.b; intro e; subst e; unfold Own at og ob; rw [og] at ob; simp at ob
      clear hcs hown
      obtain ⟨lm, hlm⟩ : ∃ lm, lm = tH ++ tf := ⟨_, rfl⟩
      rw [← hlm] at hst
      have HLm := Lib.hid hlm
      have nLm : lm.length ≤ 20000000 := by rw [hlm, List.length_append]; omega
      clear hlm
      have hst : WT w W5 w.heap.size gt w.heap.size gf gs gr ge [.bool s0, .slice a1 l1 c1, .bool s2, .slice a3 l3 c3, .slice a4 l4 c4, .slice (some ⟨gf, 0, none⟩) 1 1, .slice (some ⟨gs, 0, none⟩) 1 1] (cq f 0 df) (cq a b de) (some ⟨gt, 0, none⟩) lm true := hst
      go_wp2_with fail
      obtain ⟨wo, rfl⟩ : ∃ wo : World, wo = W5 := ⟨_, rfl⟩
      go_loopg [50] 1 (fun g s50 wi => ∃ j : Nat, j + g = 1 ∧ s50 = .int .i64 (j : Int) ∧ TwoWT w wi j w.heap.size gt w.heap.size gf gs gr ge [.bool s0, .slice a1 l1 c1, .bool s2, .slice a3 l3 c3, .slice a4 l4 c4, .slice (some ⟨gf, 0, none⟩) 1 1, .slice (some ⟨gs, 0, none⟩) 1 1] (cq f 0 df) (cq a b de) lm (lm ++ [32] ++ ta ++ [32] ++ tb) true ∧ Own wi 167 go cs)
      case atStart => exact ⟨0, by omega, rfl, ⟨fun _ => ⟨_, hst⟩, fun h => by omega⟩, og⟩
      case round =>
        clear hst og
        obtain ⟨j, hj, rfl, ⟨h0, h1⟩, og⟩ := hrel
        rcases (show j = 0 ∨ j = 1 by omega) with rfl | rfl
        · obtain ⟨p, hst⟩ := h0 rfl
          clear h0 h1
          obtain rfl : gk = 1 := by omega
          have qg0 := og.cell 0 _ hc0
          have qg1 := og.cell 1 _ hc1
          go_upto_region 15 with (fail)
          obtain ⟨V2, hV, o11, hBV2, hSV2⟩ := boxes1 wr 167 [.int .i64 0, .int .i64 0]
          rw [← hV]
          clear hV qg0 qg1
          have hst := hst.below hBV2
          have og := og.below hBV2 og.lt
          generalize wr.heap.size = g11 at *
          have q110 := o11.cell 0 _ rfl
          have q111 := o11.cell 1 _ rfl
          have o1 := hst.o
          have lt1 := o1.lt
          have lts := hst.t.s.lt
          have ltr := hst.t.r.lt
          have lt11 := o11.lt
          have p0 := o1.cell 6 _ rfl
          have p1 := hst.t.s.cell 0 _ rfl
          have p2 := hst.t.r.cell 0 _ rfl
          obtain ⟨r0, r2, e1', e3', e4', x1, y1, x3, y3, x4, y4, oe, hne⟩ := hst.t.e
          have lte := oe.lt
          have p5 := oe.cell 0 _ rfl
          have p6 := oe.cell 1 _ rfl
          have p7 := oe.cell 2 _ rfl
          have p8 := oe.cell 3 _ rfl
          have p9 := oe.cell 4 _ rfl
          go_upto_region 18 with (fail)
          go_region_held3 (fun w' => w'.cell? ⟨w.heap.size, 6, none⟩ = some (.slice (some ⟨gs, 0, none⟩) 1 1) ∧ w'.cell? ⟨gs, 0, none⟩ = some (.slice (some ⟨gr, 0, none⟩) 1 1) ∧ w'.cell? ⟨gr, 0, none⟩ = some (.slice (some ⟨ge, 0, none⟩) 1 1) ∧ w'.cell? ⟨g11, 0, none⟩ = some (.int .i64 0) ∧ w'.cell? ⟨g11, 1, none⟩ = some (.int .i64 0) ∧ w'.cell? ⟨ge, 0, none⟩ = some (.bool r0) ∧ w'.cell? ⟨ge, 1, none⟩ = some (.slice e1' x1 y1) ∧ w'.cell? ⟨ge, 2, none⟩ = some (.bool r2) ∧ w'.cell? ⟨ge, 3, none⟩ = some (.slice e3' x3 y3) ∧ w'.cell? ⟨ge, 4, none⟩ = some (.slice e4' x4 y4))
            (first | (with_reducible exact ⟨p0, p1, p2, q110, q111, p5, p6, p7, p8, p9⟩) | (simp [go_sem, p0, p1, p2, q110, q111, p5, p6, p7, p8, p9, lt1, lts, ltr, lt11, lte]; done))
            (fail)
          go_upto_region 19 with (fail)
          obtain ⟨V3, hV3⟩ : ∃ V3, V3 = (V2.alloc (.cells #[.bool r0, .slice e1' x1 y1, .bool r2, .slice e3' x3 y3, .slice e4' x4 y4] 40)).drew := ⟨_, rfl⟩
          rw [← hV3]
          have hb3 : Below V2.heap.size V2 V3 := by rw [hV3]; exact ((Below.refl _ _).alloc (Nat.le_refl _) _).drew
          have o13 : Own V3 40 V2.heap.size [.bool r0, .slice e1' x1 y1, .bool r2, .slice e3' x3 y3, .slice e4' x4 y4] := by rw [hV3]; exact own_new V2 40 _
          clear hV3 p0 p1 p2 q110 q111 p5 p6 p7 p8 p9 o1 oe lt1 lts ltr lt11 lte o11
          have hg13 : w.heap.size ≤ V2.heap.size := hst.hB.size
          have hgt13 : gt < V2.heap.size := hst.b.lt
          have hst := hst.below hb3
          have og := og.below hb3 og.lt
          have hne := hne.below hb3 (Nat.le_refl _)
          generalize V2.heap.size = g13 at *
          have fo13 := o13.free; have co130 := o13.cell 0 _ rfl; have co131 := o13.cell 1 _ rfl; have co132 := o13.cell 2 _ rfl; have co133 := o13.cell 3 _ rfl; have co134 := o13.cell 4 _ rfl
          go_wp2_with fail
          refine (HRe.out _ V3 hne).mono ?_
          rintro e W6 ⟨u6, rfl, hu6, hb6⟩
          have hst := hst.below hb6
          have og := og.below hb6 og.lt
          have o13 := o13.below hb6 o13.lt
          have hne := hne.below hb6 (Nat.le_refl _)
          clear co130 co131 co132 co133 co134 fo13
          go_wp2_with fail
          refine (HWa.out gt w.heap.size p lm _ W6 hst.b hst.p (by omega) hst.hs hu6).mono ?_
          rintro e W7 ⟨rfl, h7, hk7⟩
          have hne : NumRep W7 (.agg #[.bool r0, .slice e1' x1 y1, .bool r2, .slice e3' x3 y3, .slice e4' x4 y4]) (cq a b de) := by
            obtain ⟨v, ob, _⟩ := hst.b
            exact hne.keptX hk7 ob (by decide)
          have hst := hst.step hk7 (by simpa using h7) (.inr rfl) (by omega) (by omega) (by omega) (by omega) (by omega) (by omega)
          have og := hk7.own og (by decide) hgot
          have o13 := hk7.own o13 (by decide) (by omega)
          clear h7 hk7 hu6
          have fo13 := o13.free; have co130 := o13.cell 0 _ rfl; have co131 := o13.cell 1 _ rfl; have co132 := o13.cell 2 _ rfl; have co133 := o13.cell 3 _ rfl; have co134 := o13.cell 4 _ rfl
          go_wp2_with fail
          refine (HIm.out _ W7 hne).mono ?_
          rintro e W8 ⟨u8, rfl, hu8, hb8⟩
          have hst := hst.below hb8
          have og := og.below hb8 og.lt
          clear co130 co131 co132 co133 co134 fo13 o13 hne
          have nLa : (lm ++ [32] ++ ta).length ≤ 30000000 := by simp only [List.length_append, List.length_cons, List.length_nil]; omega
          go_wp2_with fail
          refine (HWb.out gt w.heap.size _ _ _ W8 hst.b hst.p (by simpa using (show lm.length + (ta.length + 1) ≤ 1000000000 by omega)) hst.hs hu8).mono ?_
          rintro e W9 ⟨rfl, h9, hk9⟩
          have hst := hst.step hk9 (m := lm ++ [32] ++ ta ++ [32] ++ tb) (sn := true) (by simpa using h9) (.inr rfl) (by omega) (by omega) (by omega) (by omega) (by omega) (by omega)
          have og := hk9.own og (by decide) hgot
          have hTwo : TwoWT w W9 1 w.heap.size gt w.heap.size gf gs gr ge [.bool s0, .slice a1 l1 c1, .bool s2, .slice a3 l3 c3, .slice a4 l4 c4, .slice (some ⟨gf, 0, none⟩) 1 1, .slice (some ⟨gs, 0, none⟩) 1 1] (cq f 0 df) (cq a b de) lm (lm ++ [32] ++ ta ++ [32] ++ tb) true := ⟨fun h => by omega, fun _ => ⟨_, hst⟩⟩
          clear h9 hk9 hst hu8
          go_wp2_with fail
          go_roundg 0
          case measure => omega
          case rel => exact ⟨1, by omega, by go_num, hTwo, og⟩
        · obtain ⟨p, hst⟩ := h1 rfl
          clear h0 h1
          go_wp2_with fail
          refine (end_spec gt w.heap.size p _ false true wr hst.b hst.p (by simp only [List.length_append, List.length_cons, List.length_nil]; omega) hst.hs).mono ?_
          rintro e W9 ⟨rfl, h9, hk9⟩
          have hst := hst.step hk9 h9 (.inr rfl) (by omega) (by omega) (by omega) (by omega) (by omega) (by omega)
          have hfin : lm ++ [32] ++ ta ++ [32] ++ tb ++ [10] = tH ++ tL := by rw [HLine.out, HLm.out]; simp
          rw [hfin] at hst
          have hTwo : TwoWT w W9 1 w.heap.size gt w.heap.size gf gs gr ge [.bool s0, .slice a1 l1 c1, .bool s2, .slice a3 l3 c3, .slice a4 l4 c4, .slice (some ⟨gf, 0, none⟩) 1 1, .slice (some ⟨gs, 0, none⟩) 1 1] (cq f 0 df) (cq a b de) tH (tH ++ tL) false := ⟨fun h => by omega, fun _ => ⟨_, hst⟩⟩
          clear h9 hk9 hfin hst
          go_wp2_with fail
          go_roundg 0
          case measure => omega
          case rel => exact ⟨1, by omega, by go_num, hTwo⟩
    · obtain ⟨p, hst⟩ := h1 rfl
      clear h0 h1
      obtain ⟨q2, q3, hf⟩ := boxes_more hst.b
      have o1 := hst.o
      have fo1 := o1.free; have co10 := o1.cell 0 _ rfl; have co11 := o1.cell 1 _ rfl; have co12 := o1.cell 2 _ rfl; have co13 := o1.cell 3 _ rfl; have co14 := o1.cell 4 _ rfl; have co15 := o1.cell 5 _ rfl; have co16 := o1.cell 6 _ rfl
      have hne : tH ++ tL ≠ [] := by rw [HHA.out]; simp
      go_wp2_with fail
      refine (string_spec 157 gt w.heap.size p (tH ++ tL) _ wr hst.b hne).mono ?_
      rintro e Wz ⟨rfl, hbz⟩
      go_wp2_with fail
      go_ret2
      exact ⟨_, rfl, rfl, hst.hB.trans hbz⟩
end Go.Proofs.YtfkogkcpndaoeaaGreat
