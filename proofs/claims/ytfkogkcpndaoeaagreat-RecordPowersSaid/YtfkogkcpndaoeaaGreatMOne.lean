/- positive, validFreqs, square, ValidTable at a table of one element. Conditions: the table has one frequency and one element. touch.word, touch.end. Conditions: the number is real, at most 100000 bits. square, ValidTable, touchOrder at a table of one element. Conditions: the table has one frequency and one element. -/
import Derived.Test.YtfkogkcpndaoeaaGreatMDecim
import Derived.Test.YtfkogkcpndaoeaaGreatMRec
set_option linter.all false
namespace Go.Proofs.YtfkogkcpndaoeaaGreat
open Go.RowKit
theorem cmp_pos {a : Int} {d : Nat} (h : 0 < d) (ha : 0 < a) : qcmp (cq a 0 d) (cq 0 0 1) = 1 := by
  unfold qcmp
  have hr := ratio_lt (a := a) (A := 0) h (show 0 < 1 by omega)
  have hr2 := ratio_lt (a := 0) (A := a) (show 0 < 1 by omega) h
  have hre : rcmp (cq a 0 d).re (cq 0 0 1).re = 1 := by
    show rcmp ((a : Rat) / ((d : Int) : Rat)) (((0 : Int) : Rat) / (((1 : Nat) : Int) : Rat)) = _
    unfold rcmp
    simp only [hr, hr2]
    rw [if_neg (by omega), if_pos (by omega)]
  rw [hre]; simp
theorem num_nil {w : World} : NumRep w (.agg #[.bool false, .slice none 0 0, .bool false, .slice none 0 0, .slice none 0 0]) (cq 0 0 1) := num_int whole_zero
set_option maxRecDepth 100000 in
set_option maxHeartbeats 1600000 in
theorem positive_yes (v : Value) (a : Int) (d k : Nat) (w : World) (h : NumRep w v (cq a 0 d)) (hd : 0 < d) (ha0 : 0 < a) (ha : a.natAbs < 2 ^ k) (hdk : d < 2 ^ k) (hk : k ≤ 100000) :
    Calls Tryz.prog 38 #[v] w (Ret w fun _ v' => v' = .bool true) := by
  obtain ⟨s0, s2, a1, a3, a4, l1, c1, l3, c3, l4, c4, rfl⟩ := h.open
  have HS := Lib.hid (small_mk (b := 0) hd ha (Nat.two_pow_pos k) hdk)
  have HS0 := Lib.hid (small_mk (a := 0) (b := 0) (d := 1) (k := k + 4) (by omega) (Nat.two_pow_pos _) (Nat.two_pow_pos _) (Nat.one_lt_two_pow (by omega)))
  have hre := fun v w h => real_spec v (cq a 0 d) w h
  have him : decide ((cq a 0 d).im = 0) = true := by simp [(im_zero hd).2 rfl]
  rw [him] at hre
  have hcm := fun v u w h h' => ncmp_spec v u (cq a 0 d) (cq 0 0 1) (k + 4) w h h' (HS.out.mono (by omega)) HS0.out (by omega)
  rw [cmp_pos hd ha0] at hcm
  have HRe := Lib.hid hre
  have HCm := Lib.hid hcm
  clear hre him hcm ha hdk
  go_enter Tryz.func38, Tryz.ntmps38
  go_upto_region 1 with (fail)
  obtain ⟨W, hW, o1, hB, hS⟩ := boxes1 w 40 [.bool s0, .slice a1 l1 c1, .bool s2, .slice a3 l3 c3, .slice a4 l4 c4]
  rw [← hW]
  clear hW
  have h := h.below hB (Nat.le_refl _)
  have fo1 := o1.free; have co10 := o1.cell 0 _ rfl; have co11 := o1.cell 1 _ rfl; have co12 := o1.cell 2 _ rfl; have co13 := o1.cell 3 _ rfl; have co14 := o1.cell 4 _ rfl
  go_wp2_with fail
  refine (HRe.out _ W h).mono ?_
  rintro e W1 ⟨_, rfl, rfl, hb1⟩
  clear co10 co11 co12 co13 co14 fo1
  have hsW1 : W.heap.size ≤ W1.heap.size := hb1.size; have hB := hB.trans (hb1.mono hB.size); have o1 := o1.below hb1 o1.lt; have h := h.below hb1 (Nat.le_refl _)
  have fo1 := o1.free; have co10 := o1.cell 0 _ rfl; have co11 := o1.cell 1 _ rfl; have co12 := o1.cell 2 _ rfl; have co13 := o1.cell 3 _ rfl; have co14 := o1.cell 4 _ rfl
  go_wp2_with fail
  refine (HCm.out _ _ W1 h num_nil).mono ?_
  rintro e W2 ⟨_, rfl, rfl, hb2⟩
  have hB := hB.trans (hb2.mono hB.size)
  go_wp2_with fail
  go_ret
  exact ⟨_, rfl, rfl, hB⟩
def One (w : World) (v : Value) (g : Nat) (x : CQ) : Prop := v = .slice (some ⟨g, 0, none⟩) 1 1 ∧ NumBox w g x
theorem One.below {w w' : World} {v : Value} {g : Nat} {x : CQ} (h : One w v g x) (hb : Below w.heap.size w w') : One w' v g x := ⟨h.1, h.2.grown hb⟩
set_option maxRecDepth 100000 in
set_option maxHeartbeats 1600000 in
theorem validFreqs_one (v : Value) (g : Nat) (a : Int) (d k : Nat) (w : World) (h : One w v g (cq a 0 d)) (hd : 0 < d) (ha0 : 0 < a) (ha : a.natAbs < 2 ^ k) (hdk : d < 2 ^ k) (hk : k ≤ 100000) :
    Calls Tryz.prog 100 #[v] w (Ret w fun _ v' => v' = .bool true) := by
  have hpo := fun v w h => positive_yes v a d k w h hd ha0 ha hdk hk
  have HPo := Lib.hid hpo
  clear hpo ha hdk
  obtain ⟨rfl, hbx⟩ := h
  have hin : inR 1 1 1024 = true := by simp [inR]
  go_enter Tryz.func100, Tryz.ntmps100
  go_wp2_with fail
  go_loopw [7] (fun iv wr => ∃ i : Nat, i ≤ 1 ∧ iv = .int .i64 (i : Int) ∧ Below w.heap.size w wr) (fun i _ => 1 - (intOf i).toNat)
  case atStart => exact ⟨0, by omega, rfl, Below.refl _ _⟩
  case round =>
    obtain ⟨i, hi, rfl, hB⟩ := hrel
    rcases (show i = 0 ∨ i = 1 by omega) with rfl | rfl
    · have hbr := hbx.grown hB
      obtain ⟨s0, s2, a1, a3, a4, l1, c1, l3, c3, l4, c4, o1, h1⟩ := hbr
      have fo1 := o1.free; have co10 := o1.cell 0 _ rfl; have co11 := o1.cell 1 _ rfl; have co12 := o1.cell 2 _ rfl; have co13 := o1.cell 3 _ rfl; have co14 := o1.cell 4 _ rfl
      go_upto_region 4 with (fail)
      obtain ⟨V, hV, o4, hBV, hSV⟩ := boxes1 wr 40 [.bool s0, .slice a1 l1 c1, .bool s2, .slice a3 l3 c3, .slice a4 l4 c4]
      rw [← hV]
      clear hV co10 co11 co12 co13 co14 fo1
      have hsV : wr.heap.size ≤ V.heap.size := hBV.size; have hB := hB.trans (hBV.mono hB.size); have h1 := h1.below hBV (Nat.le_refl _)
      generalize wr.heap.size = g4 at *
      have fo4 := o4.free; have co40 := o4.cell 0 _ rfl; have co41 := o4.cell 1 _ rfl; have co42 := o4.cell 2 _ rfl; have co43 := o4.cell 3 _ rfl; have co44 := o4.cell 4 _ rfl
      refine wp_region_held (S := fun _ => True) (by kernel_rfl) ?_
      refine wpAnyH_ready (rs := [0]) (by kernel_rfl) (by simp) ?_; refine AllReadyH.cons (o := _) rfl (fun K hK => ?_) AllReadyH.nil; go_simp; refine hK.out _ _ trivial (fun _ => ?_); clear hK K
      refine wpAnyH_ready (rs := [1]) (by kernel_rfl) (by simp) ?_; refine AllReadyH.cons (o := _) rfl (fun K hK => ?_) AllReadyH.nil; go_simp; refine (HPo.out _ V.drew h1).mono ?_; rintro e V1 ⟨_, rfl, rfl, hb1⟩; have hB := hB.drew.trans (hb1.mono hB.size); refine hK.out _ _ trivial (fun _ => ?_); clear hK K
      refine wpAnyH_ready (rs := [2]) (by kernel_rfl) (by simp) ?_; refine AllReadyH.cons (o := _) rfl (fun K hK => ?_) AllReadyH.nil; go_simp; refine hK.out _ _ trivial (fun _ => ?_); clear hK K
      refine wpAnyH_ready (rs := [3]) (by kernel_rfl) (by simp) ?_; refine AllReadyH.cons (o := _) rfl (fun K hK => ?_) AllReadyH.nil; go_simp; refine hK.out _ _ trivial (fun _ => ?_); clear hK K
      refine wpAnyH_ready (rs := [4]) (by kernel_rfl) (by simp) ?_; refine AllReadyH.cons (o := _) rfl (fun K hK => ?_) AllReadyH.nil; go_simp; refine hK.out _ _ trivial (fun _ => ?_); clear hK K
      refine wpAnyH_ready (rs := [5]) (by kernel_rfl) (by simp) ?_; refine AllReadyH.cons (o := _) rfl (fun K hK => ?_) AllReadyH.nil; go_simp; refine hK.out _ _ trivial (fun _ => ?_); clear hK K
      refine wpAnyH_ready (rs := [6]) (by kernel_rfl) (by simp) ?_; refine AllReadyH.cons (o := _) rfl (fun K hK => ?_) AllReadyH.nil; go_simp; refine hK.out _ _ trivial (fun _ => ?_); clear hK K
      refine wpAnyH_take (i := 7) (oi := _) (v := undef) rfl (by kernel_rfl) (by kernel_rfl) (by kernel_rfl) (fun _ _ _ h => h) (Or.inr ⟨by rfl, rfl⟩) trivial ?_
      refine wpAnyH_take (i := 8) (oi := _) (v := undef) rfl (by kernel_rfl) (by kernel_rfl) (by kernel_rfl) (fun _ _ _ h => h) (Or.inr ⟨by rfl, rfl⟩) trivial ?_
      refine wpAnyH_ready (rs := [9]) (by kernel_rfl) (by simp) ?_; refine AllReadyH.cons (o := _) rfl (fun K hK => ?_) AllReadyH.nil; go_simp; refine hK.out _ _ trivial (fun _ => ?_); clear hK K
      refine wpAnyH_ready (rs := [10]) (by kernel_rfl) (by simp) ?_; refine AllReadyH.cons (o := _) rfl (fun K hK => ?_) AllReadyH.nil; go_simp; refine hK.out _ _ trivial (fun _ => ?_); clear hK K
      refine wpAnyH_ready (rs := [11]) (by kernel_rfl) (by simp) ?_; refine AllReadyH.cons (o := _) rfl (fun K hK => ?_) AllReadyH.nil; go_simp; refine hK.out _ _ trivial (fun _ => ?_); clear hK K
      refine wpAnyH_ready (rs := [12]) (by kernel_rfl) (by simp) ?_; refine AllReadyH.cons (o := _) rfl (fun K hK => ?_) AllReadyH.nil; go_simp; refine hK.out _ _ trivial (fun _ => ?_); clear hK K
      refine wpAnyH_ready (rs := [13]) (by kernel_rfl) (by simp) ?_; refine AllReadyH.cons (o := _) rfl (fun K hK => ?_) AllReadyH.nil; go_simp; refine hK.out _ _ trivial (fun _ => ?_); clear hK K
      refine wpAnyH_ready (rs := [14]) (by kernel_rfl) (by simp) ?_; refine AllReadyH.cons (o := _) rfl (fun K hK => ?_) AllReadyH.nil; go_simp; refine hK.out _ _ trivial (fun _ => ?_); clear hK K
      refine wpAnyH_ready (rs := [15]) (by kernel_rfl) (by simp) ?_; refine AllReadyH.cons (o := _) rfl (fun K hK => ?_) AllReadyH.nil; go_simp; refine hK.out _ _ trivial (fun _ => ?_); clear hK K
      refine wpAnyH_ready (rs := [16]) (by kernel_rfl) (by simp) ?_; refine AllReadyH.cons (o := _) rfl (fun K hK => ?_) AllReadyH.nil; go_simp; refine hK.out _ _ trivial (fun _ => ?_); clear hK K
      refine wpAnyH_done (by kernel_rfl) ?_ _
      go_wp2_with fail
      go_roundw
      case rel => exact ⟨1, by omega, by go_num, hB⟩
      case measure => simp [intOf]
    · go_wp2_with (refine (inRange_spec _ _ _ _).mono ?_; rintro e w' ⟨rfl, rfl⟩)
      go_ret
      exact ⟨_, rfl, rfl, hB⟩
end Go.Proofs.YtfkogkcpndaoeaaGreat
namespace Go.Proofs.YtfkogkcpndaoeaaGreat
open Go.RowKit
def decOk (a : Int) (d : Nat) : Bool := (decText a d).isSome
def decTxt (a : Int) (d : Nat) : List UInt8 := (decText a d).getD []
theorem decRes_eq (a : Int) (d : Nat) : decRes a d = .tuple #[.string ⟨(decTxt a d).toArray⟩, .bool (decOk a d)] := by
  unfold decRes decTxt decOk
  cases decText a d <;> rfl
theorem decTxt_len {a : Int} {d k : Nat} (hd : 0 < d) (ha : a.natAbs < 2 ^ k) (hdk : d < 2 ^ k) (hk : k ≤ 100000) : (decTxt a d).length ≤ 8000000 := by
  have hq : a.natAbs / d < 2 ^ k := Nat.lt_of_le_of_lt (Nat.div_le_self _ _) ha
  have hl := dec_length hq
  have hs : (if a < 0 then ([45] : List UInt8) else []).length ≤ 1 := by split <;> simp
  unfold decTxt decText
  split
  · simp only [Option.getD_some, List.length_append]; omega
  · cases h : decDig d 64 (a.natAbs % d) with
    | none => simp
    | some t =>
      have := decDig_len hdk hd 64 _ t (Nat.mod_lt _ hd) h
      have h2 : 64 * (k + 5) ≤ 64 * 100005 := Nat.mul_le_mul (by omega) (by omega)
      simp only [Option.map_some, Option.getD_some, List.length_append, List.length_cons]
      omega
theorem boxes_more {w : World} {T : TypeId} {b base : Nat} {p : Option Addr} {l : List UInt8} {x y : Value} (h : BuildAt w T b base p l [x, y]) :
    w.cell? ⟨b, 2, none⟩ = some x ∧ w.cell? ⟨b, 3, none⟩ = some y ∧ (∀ i, w.frozen? ⟨b, i, none⟩ = false) := by
  obtain ⟨v, o, _⟩ := h
  exact ⟨o.cell 2 _ rfl, o.cell 3 _ rfl, o.free⟩
theorem BuildAt.set2 {w : World} {T : TypeId} {b base : Nat} {p : Option Addr} {l : List UInt8} {x y u : Value} (h : BuildAt w T b base p l [x, y]) (hT : T ≠ 5) : BuildAt (w.setCell ⟨b, 2, none⟩ u) T b base p l [u, y] := by
  obtain ⟨v, o, hv⟩ := h
  exact ⟨v, o.set 2 u, hv.far o hT⟩
theorem BuildAt.set3 {w : World} {T : TypeId} {b base : Nat} {p : Option Addr} {l : List UInt8} {x y u : Value} (h : BuildAt w T b base p l [x, y]) (hT : T ≠ 5) : BuildAt (w.setCell ⟨b, 3, none⟩ u) T b base p l [x, u] := by
  obtain ⟨v, o, hv⟩ := h
  exact ⟨v, o.set 3 u, hv.far o hT⟩
set_option maxRecDepth 100000 in
set_option maxHeartbeats 1600000 in
theorem end_spec (b base : Nat) (p : Option Addr) (l : List UInt8) (x y : Bool) (w : World) (h : BuildAt w 157 b base p l [.bool x, .bool y]) (hp : SelfP b p) (hl : l.length < 1099511627776) (hb : base ≤ w.heap.size) :
    Calls Tryz.prog 82 #[.pointer (some ⟨b, 0, none⟩)] w (fun e w' => e = .returned (.tuple #[]) ∧ BuildAt w' 157 b base (some ⟨b, 0, none⟩) (l ++ [10]) [.bool x, .bool false] ∧ KeptX b base w w') := by
  go_enter Tryz.func82, Tryz.ntmps82
  go_wp2_with fail
  refine (writeByte_spec 157 b base p l 10 10 [.bool x, .bool y] w rfl (lies_touch _ _) h hp hl hb).mono ?_
  rintro e w1 ⟨rfl, h1, hk⟩
  obtain ⟨q2, q3, hf⟩ := boxes_more h1
  go_wp2_with fail
  go_end0
  exact ⟨rfl, h1.set3 (by decide), hk.set _⟩
set_option maxRecDepth 100000 in
set_option maxHeartbeats 1600000 in
theorem word_touch (b base : Nat) (p : Option Addr) (l : List UInt8) (x y : Bool) (v : Value) (a : Int) (d k : Nat) (w : World) (h : BuildAt w 157 b base p l [.bool x, .bool y]) (hp : SelfP b p) (hl : l.length ≤ 1000000000) (hb : base ≤ w.heap.size)
    (hv : NumRep w v (cq a 0 d)) (hd : 0 < d) (ha : a.natAbs < 2 ^ k) (hdk : d < 2 ^ k) (hk : k ≤ 100000) :
    Calls Tryz.prog 80 #[.pointer (some ⟨b, 0, none⟩), v] w (fun e w' => e = .returned (.tuple #[]) ∧ BuildAt w' 157 b base (some ⟨b, 0, none⟩) (l ++ (if y then [32] else []) ++ decTxt a d) [.bool (x || !decOk a d), .bool true] ∧ KeptX b base w w') := by
  obtain ⟨s0, s2, a1, a3, a4, l1, c1, l3, c3, l4, c4, rfl⟩ := hv.open
  have hdc := fun v w h => decimal_spec v a d k w h hd ha hdk hk
  rw [decRes_eq] at hdc
  have HDc := Lib.hid hdc
  have htl := decTxt_len hd ha hdk hk
  clear hdc ha hdk
  generalize decTxt a d = t at *
  generalize decOk a d = ok at *
  go_enter Tryz.func80, Tryz.ntmps80
  go_upto_region 1 with (fail)
  obtain ⟨W, hW, o1, hB, hS⟩ := boxes1 w 40 [.bool s0, .slice a1 l1 c1, .bool s2, .slice a3 l3 c3, .slice a4 l4 c4]
  rw [← hW]
  clear hW
  have hv := hv.below hB (Nat.le_refl _)
  have h := h.below hB
  have hk0 : KeptX b base w W := KeptX.of_below hB
  have fo1 := o1.free; have co10 := o1.cell 0 _ rfl; have co11 := o1.cell 1 _ rfl; have co12 := o1.cell 2 _ rfl; have co13 := o1.cell 3 _ rfl; have co14 := o1.cell 4 _ rfl
  go_wp2_with fail
  refine (HDc.out _ W hv).mono ?_
  rintro e W1 ⟨_, rfl, rfl, hb1⟩
  have h := h.below hb1
  have hk0 := hk0.trans (KeptX.of_below hb1)
  have hz1 := hk0.size
  clear co10 co11 co12 co13 co14 fo1 hv o1 hb1 hB hS
  obtain ⟨q2, q3, hf⟩ := boxes_more h
  cases y
  · cases x <;> cases ok
    all_goals go_upto_region 3 with (fail)
    all_goals
      first
        | (obtain ⟨WS, hWS⟩ : ∃ WS, WS = W1.setCell ⟨b, 2, none⟩ (.bool true) := ⟨_, rfl⟩
           rw [← hWS]
           have h2 : BuildAt WS 157 b base p l [.bool true, .bool false] := by rw [hWS]; exact h.set2 (by decide)
           have hk2 : KeptX b base w WS := by rw [hWS]; exact hk0.set _
           clear hWS)
        | (obtain ⟨WS, hWS⟩ : ∃ WS, WS = W1.setCell ⟨b, 2, none⟩ (.bool false) := ⟨_, rfl⟩
           rw [← hWS]
           have h2 : BuildAt WS 157 b base p l [.bool false, .bool false] := by rw [hWS]; exact h.set2 (by decide)
           have hk2 : KeptX b base w WS := by rw [hWS]; exact hk0.set _
           clear hWS)
      clear q2 q3 hf h hk0
      obtain ⟨q2, q3, hf⟩ := boxes_more h2
      have hz2 := hk2.size
      clear q2 hf
      go_wp2_with fail
      refine (writeString_spec 157 b base p l t _ WS (lies_touch _ _) h2 hp (by omega) (by omega)).mono ?_
      rintro e W3 ⟨⟨_, rfl⟩, h4, hk4⟩
      have hk2 := hk2.trans hk4
      obtain ⟨q2, q3, hf⟩ := boxes_more h4
      go_wp2_with fail
      go_end0
      exact ⟨rfl, by simpa using h4.set3 (by decide), hk2.set _⟩
  · cases x <;> cases ok
    all_goals go_upto_region 3 with (fail)
    all_goals
      first
        | (obtain ⟨WS, hWS⟩ : ∃ WS, WS = W1.setCell ⟨b, 2, none⟩ (.bool true) := ⟨_, rfl⟩
           rw [← hWS]
           have h2 : BuildAt WS 157 b base p l [.bool true, .bool true] := by rw [hWS]; exact h.set2 (by decide)
           have hk2 : KeptX b base w WS := by rw [hWS]; exact hk0.set _
           clear hWS)
        | (obtain ⟨WS, hWS⟩ : ∃ WS, WS = W1.setCell ⟨b, 2, none⟩ (.bool false) := ⟨_, rfl⟩
           rw [← hWS]
           have h2 : BuildAt WS 157 b base p l [.bool false, .bool true] := by rw [hWS]; exact h.set2 (by decide)
           have hk2 : KeptX b base w WS := by rw [hWS]; exact hk0.set _
           clear hWS)
      clear q2 q3 hf h hk0
      obtain ⟨q2, q3, hf⟩ := boxes_more h2
      have hz2 := hk2.size
      clear q2 hf
      go_wp2_with fail
      refine (writeByte_spec 157 b base p l 32 32 _ WS rfl (lies_touch _ _) h2 hp (by omega) (by omega)).mono ?_
      rintro e W2 ⟨rfl, h3, hk3⟩
      have hk2 := hk2.trans hk3
      have hz2 := hk2.size
      clear hk3 h2 q3
      go_wp2_with fail
      refine (writeString_spec 157 b base _ (l ++ [32]) t _ W2 (lies_touch _ _) h3 (.inr rfl) (by simp; omega) (by omega)).mono ?_
      rintro e W3 ⟨⟨_, rfl⟩, h4, hk4⟩
      have hk2 := hk2.trans hk4
      obtain ⟨q2, q3, hf⟩ := boxes_more h4
      go_wp2_with fail
      go_end0
      exact ⟨rfl, by simpa using h4.set3 (by decide), hk2.set _⟩
end Go.Proofs.YtfkogkcpndaoeaaGreat
namespace Go.Proofs.YtfkogkcpndaoeaaGreat
open Go.RowKit
set_option maxRecDepth 100000 in
set_option maxHeartbeats 1600000 in
theorem square_one (gs gr ge : Nat) (w : World) (h1 : Own w 64 gs [.slice (some ⟨gr, 0, none⟩) 1 1]) (h2 : Own w 49 gr [.slice (some ⟨ge, 0, none⟩) 1 1]) :
    Calls Tryz.prog 101 #[.slice (some ⟨gs, 0, none⟩) 1 1] w (fun e w' => e = .returned (.bool true) ∧ w = w') := by
  have q1 := h1.cell 0 _ rfl
  have q2 := h2.cell 0 _ rfl
  have hin : inR 1 1 8 = true := by simp [inR]
  go_enter Tryz.func101, Tryz.ntmps101
  go_wp2_with fail
  go_loop [10] (fun iv => ∃ i : Nat, i ≤ 1 ∧ iv = .int .i64 (i : Int)) (fun i => 1 - (intOf i).toNat)
  case atStart => exact ⟨0, by omega, rfl⟩
  case round =>
    obtain ⟨i, hi, rfl⟩ := hrel
    rcases (show i = 0 ∨ i = 1 by omega) with rfl | rfl
    · go_wp2_with (refine (inRange_spec _ _ _ _).mono ?_; rintro e w' ⟨rfl, rfl⟩)
      go_loop [29] (fun iv => ∃ i : Nat, i ≤ 1 ∧ iv = .int .i64 (i : Int)) (fun i => 1 - (intOf i).toNat)
      case atStart => exact ⟨0, by omega, rfl⟩
      case round =>
        obtain ⟨i, hi2, rfl⟩ := hrel
        rcases (show i = 0 ∨ i = 1 by omega) with rfl | rfl
        · go_wp2_with fail
          go_round
          case rel => exact ⟨1, by omega, by go_num⟩
          case measure => simp [intOf]
        · go_wp2_with fail
          go_round
          case rel => exact ⟨1, by omega, by go_num⟩
          case measure => simp [intOf]
    · go_wp2_with fail
      go_ret
      exact ⟨rfl, rfl⟩
structure TabOne (w : World) (gf gs gr ge : Nat) (xf xe : CQ) : Prop where
  f : NumBox w gf xf
  s : Own w 64 gs [.slice (some ⟨gr, 0, none⟩) 1 1]
  r : Own w 49 gr [.slice (some ⟨ge, 0, none⟩) 1 1]
  e : NumBox w ge xe
theorem TabOne.below {w w' : World} {gf gs gr ge : Nat} {xf xe : CQ} (h : TabOne w gf gs gr ge xf xe) (hb : Below w.heap.size w w') : TabOne w' gf gs gr ge xf xe :=
  ⟨h.f.grown hb, h.s.below hb h.s.lt, h.r.below hb h.r.lt, h.e.grown hb⟩
set_option maxRecDepth 100000 in
set_option maxHeartbeats 1600000 in
theorem validTable_one (s0 s2 : Bool) (a1 a3 a4 : Option Addr) (l1 c1 l3 c3 l4 c4 gf gs gr ge : Nat) (z f : Int) (dz df k : Nat) (xe : CQ) (w : World)
    (hz : NumRep w (.agg #[.bool s0, .slice a1 l1 c1, .bool s2, .slice a3 l3 c3, .slice a4 l4 c4]) (cq z 0 dz)) (ht : TabOne w gf gs gr ge (cq f 0 df) xe)
    (hd1 : 0 < dz) (hd2 : 0 < df) (hz0 : 0 < z) (hf0 : 0 < f) (b1 : z.natAbs < 2 ^ k) (b2 : dz < 2 ^ k) (b3 : f.natAbs < 2 ^ k) (b4 : df < 2 ^ k) (hk : k ≤ 100000) :
    Calls Tryz.prog 77 #[.agg #[.bool s0, .slice a1 l1 c1, .bool s2, .slice a3 l3 c3, .slice a4 l4 c4, .slice (some ⟨gf, 0, none⟩) 1 1, .slice (some ⟨gs, 0, none⟩) 1 1]] w (Ret w fun _ v' => v' = .bool true) := by
  have hp := fun v w h => positive_yes v z dz k w h hd1 hz0 b1 b2 hk
  have hv := fun w h => validFreqs_one (.slice (some ⟨gf, 0, none⟩) 1 1) gf f df k w h hd2 hf0 b3 b4 hk
  have HP := Lib.hid hp
  have HV := Lib.hid hv
  clear hp hv b1 b2 b3 b4
  go_enter Tryz.func77, Tryz.ntmps77
  go_upto_region 1 with (fail)
  obtain ⟨W, hW, o1, hB, hS⟩ := boxes1 w 101 [.bool s0, .slice a1 l1 c1, .bool s2, .slice a3 l3 c3, .slice a4 l4 c4, .slice (some ⟨gf, 0, none⟩) 1 1, .slice (some ⟨gs, 0, none⟩) 1 1]
  rw [← hW]
  clear hW
  have hz := hz.below hB (Nat.le_refl _)
  have ht := ht.below hB
  have fo1 := o1.free; have co10 := o1.cell 0 _ rfl; have co11 := o1.cell 1 _ rfl; have co12 := o1.cell 2 _ rfl; have co13 := o1.cell 3 _ rfl; have co14 := o1.cell 4 _ rfl; have co15 := o1.cell 5 _ rfl; have co16 := o1.cell 6 _ rfl
  go_wp2_with fail
  refine (HP.out _ W hz).mono ?_
  rintro e W1 ⟨_, rfl, rfl, hb1⟩
  clear co10 co11 co12 co13 co14 co15 co16 fo1
  have ht := ht.below hb1
  have hsW1 : W.heap.size ≤ W1.heap.size := hb1.size; have hB := hB.trans (hb1.mono hB.size); have o1 := o1.below hb1 o1.lt; have fo1 := o1.free; have co10 := o1.cell 0 _ rfl; have co11 := o1.cell 1 _ rfl; have co12 := o1.cell 2 _ rfl; have co13 := o1.cell 3 _ rfl; have co14 := o1.cell 4 _ rfl; have co15 := o1.cell 5 _ rfl; have co16 := o1.cell 6 _ rfl
  go_wp2_with fail
  refine (HV.out W1 ⟨rfl, ht.f⟩).mono ?_
  rintro e W2 ⟨_, rfl, rfl, hb2⟩
  clear co10 co11 co12 co13 co14 co15 co16 fo1
  have ht := ht.below hb2
  have hsW2 : W1.heap.size ≤ W2.heap.size := hb2.size; have hB := hB.trans (hb2.mono hB.size); have o1 := o1.below hb2 o1.lt; have fo1 := o1.free; have co10 := o1.cell 0 _ rfl; have co11 := o1.cell 1 _ rfl; have co12 := o1.cell 2 _ rfl; have co13 := o1.cell 3 _ rfl; have co14 := o1.cell 4 _ rfl; have co15 := o1.cell 5 _ rfl; have co16 := o1.cell 6 _ rfl
  go_wp2_with fail
  refine (square_one gs gr ge W2 ht.s ht.r).mono ?_
  rintro e w' ⟨rfl, rfl⟩
  go_wp2_with fail
  go_ret
  exact ⟨_, rfl, rfl, hB⟩
def pairInt : List Value := [.int .i64 0, .int .i64 0]
theorem info_pair2 : (Tryz.prog.info? 167).map (fun i => (i.zero, i.size, i.bytes)) = some (some (.agg #[.int .i64 0, .int .i64 0]), 2, 16) := by kernel_rfl
def TOrd (w : World) (i : Nat) (v : Value) (wr : World) : Prop :=
  (i = 0 → v = .slice none 0 0) ∧ (i = 1 → ∃ g cap, v = .slice (some ⟨g, 0, none⟩) 1 cap ∧ wr.ownsRow w.heap.size 167 2 v 1 pairInt) ∧ Below w.heap.size w wr
theorem tord_one {w wr w1 : World} {v : Value} (hB : Below w.heap.size w wr) (hown : w1.ownsRow w.heap.size 167 2 v 1 pairInt) (hg : (wr.alloc (.cells #[.int .i64 0, .int .i64 0] 167)).grownBy w1 none) : TOrd w 1 v w1 := by
  refine ⟨fun h => by omega, fun _ => ?_, ?_⟩
  · rcases hown.2 with ⟨_, h0⟩ | ⟨g, cap, cur, hv, _⟩
    · omega
    · exact ⟨g, cap, hv, hown⟩
  · exact (hB.alloc hB.size _).grown hg (by have := hB.size; simp; omega) (fun j hj => by cases hj)
set_option maxRecDepth 100000 in
set_option maxHeartbeats 1600000 in
theorem touchOrder_one (w : World) :
    Calls Tryz.prog 81 #[.int .i64 1] w (Ret w fun w' v' => TOrd w 1 v' w') := by
  obtain ⟨i0, hi, hz0, hz1, hz2⟩ := info_parts info_pair2
  go_enter Tryz.func81, Tryz.ntmps81
  go_wp2_with fail
  go_loopw [3, 14] (fun v iv wr => ∃ i : Nat, i ≤ 1 ∧ iv = .int .i64 (i : Int) ∧ TOrd w i v wr) (fun _ iv _ => 1 - (intOf iv).toNat)
  case atStart => exact ⟨0, by omega, rfl, fun _ => rfl, fun h => by omega, Below.refl _ _⟩
  case round =>
    obtain ⟨i, hi1, rfl, h0, h1, hB⟩ := hrel
    rcases (show i = 0 ∨ i = 1 by omega) with rfl | rfl
    · obtain rfl := h0 rfl
      clear h0 h1
      go_wp2_with fail
      obtain ⟨wo, rfl⟩ : ∃ wo : World, wo = wr := ⟨_, rfl⟩
      go_loopw [3, 18] (fun v iv wr => ∃ i : Nat, i ≤ 1 ∧ iv = .int .i64 (i : Int) ∧ TOrd w i v wr) (fun _ iv _ => 1 - (intOf iv).toNat)
      case atStart => exact ⟨0, by omega, rfl, fun _ => rfl, fun h => by omega, hB⟩
      case round =>
        clear hB
        obtain ⟨i, hi2, rfl, h0, h1, hB⟩ := hrel
        rcases (show i = 0 ∨ i = 1 by omega) with rfl | rfl
        · obtain rfl := h0 rfl
          clear h0 h1
          have hbs := hB.size
          go_wp2_with (at_builtin; go_must (refine wpList_append_own _ rfl (.tmp 21) (.tmp 25) 165 rfl w.heap.size 167 i0 (.agg #[.int .i64 0, .int .i64 0]) 2 16 Tryz.underlying165 hi hz0 hz1 hz2 rfl (by omega) (.slice none 0 0) 0 [] rfl (World.ownsRow_nil _ _ _ _) ⟨wr.heap.size, 0, none⟩ 1 1 pairInt rfl rfl (fun j u hj => by rw [Addr.add_lit, Nat.zero_add]; exact (own_new wr 167 [.int .i64 0, .int .i64 0]).cell j u hj) (fun u hu => by simp only [pairInt, List.mem_cons, List.not_mem_nil, or_false] at hu; rcases hu with rfl | rfl <;> rfl) (by unfold maxLen; omega) (by omega) (by simp; omega) ?_); intro v1 w1 hown hg _; have hT := tord_one hB hown hg)
          go_roundw
          case rel => first | exact ⟨1, by omega, by go_num, hT⟩ | ((repeat apply Exists.intro); first | exact ⟨⟨1, by omega, by go_num, hT⟩, rfl⟩ | exact ⟨⟨1, by omega, by go_num, hT⟩, rfl, rfl, rfl⟩ | exact ⟨⟨1, by omega, by go_num, hT⟩, rfl, rfl⟩)
          case measure => simp [intOf]
        · obtain ⟨g, cap, rfl, hown⟩ := h1 rfl
          have hT : TOrd w 1 (.slice (some ⟨g, 0, none⟩) 1 cap) wr := ⟨fun h => by omega, fun _ => ⟨g, cap, rfl, hown⟩, hB⟩
          clear h0 h1
          go_wp2_with fail
          go_roundw
          case rel => first | exact ⟨1, by omega, by go_num, hT⟩ | ((repeat apply Exists.intro); first | exact ⟨⟨1, by omega, by go_num, hT⟩, rfl⟩ | exact ⟨⟨1, by omega, by go_num, hT⟩, rfl, rfl, rfl⟩ | exact ⟨⟨1, by omega, by go_num, hT⟩, rfl, rfl⟩)
          case measure => simp [intOf]
    · obtain ⟨g, cap, rfl, hown⟩ := h1 rfl
      have hT : TOrd w 1 (.slice (some ⟨g, 0, none⟩) 1 cap) wr := ⟨fun h => by omega, fun _ => ⟨g, cap, rfl, hown⟩, hB⟩
      clear h0 h1
      go_wp2_with fail
      go_ret
      exact ⟨_, rfl, hT, hB⟩
end Go.Proofs.YtfkogkcpndaoeaaGreat
