/- positive and validFreqs, of any numbers. Conditions: bits. append of many elements to an own row, in terms of the elements. Conditions: some element. square: all matrices square, of one size from 1 to 8. Conditions: at most 1000 matrices. slices.Grow of nil, slices.Concat of two stacks. Conditions: some element each, at most 2000. record.ValidWaves. Conditions: bits of the frequencies. -/
import Derived.Test.YtfkogkcpndaoeaaGreatMKept
import Derived.Lib.AppendZerosOnto
import Derived.Lib.SliceRun
set_option linter.all false
namespace Go.Proofs.YtfkogkcpndaoeaaGreat
open Go.RowKit
def posQ (x : CQ) : Bool := decide (x.im = 0) && decide (0 < qcmp x (cq 0 0 1))
theorem small_nought (k : Nat) : Small (k + 4) (cq 0 0 1) := small_mk (by omega) (Nat.two_pow_pos _) (Nat.two_pow_pos _) (Nat.one_lt_two_pow (by omega))
set_option maxRecDepth 100000 in
set_option maxHeartbeats 1600000 in
theorem positive_spec (v : Value) (x : CQ) (k : Nat) (w : World) (h : NumRep w v x) (hs : Small k x) (hk : k ≤ 100000) :
    Calls Tryz.prog 38 #[v] w (Ret w fun _ v' => v' = .bool (posQ x)) := by
  obtain ⟨s0, s2, a1, a3, a4, l1, c1, l3, c3, l4, c4, rfl⟩ := h.open
  have HRe := Lib.hid (fun v w h => real_spec v x w h)
  have HCm := Lib.hid (fun v u w h h' => ncmp_spec v u x (cq 0 0 1) (k + 4) w h h' (hs.mono (by omega)) (small_nought k) (by omega))
  unfold posQ
  generalize decide (x.im = 0) = t at *
  generalize qcmp x (cq 0 0 1) = z at *
  clear hs
  cases t
  · go_enter Tryz.func38, Tryz.ntmps38
    go_upto_region 1 with (fail)
    obtain ⟨W, hW, o1, hB, hS⟩ := boxes1 w 40 [.bool s0, .slice a1 l1 c1, .bool s2, .slice a3 l3 c3, .slice a4 l4 c4]
    rw [← hW]
    clear hW
    have h := h.below hB (Nat.le_refl _)
    have fo1 := o1.free; have co10 := o1.cell 0 _ rfl; have co11 := o1.cell 1 _ rfl; have co12 := o1.cell 2 _ rfl; have co13 := o1.cell 3 _ rfl; have co14 := o1.cell 4 _ rfl
    go_wp2_with fail
    refine (HRe.out _ W h).mono ?_
    rintro e W1 ⟨_, rfl, rfl, hb1⟩
    clear co10 co11 co12 co13 co14 fo1
    have hB := hB.trans (hb1.mono hB.size)
    go_wp2_with fail
    go_ret
    exact ⟨_, rfl, rfl, hB⟩
  · go_enter Tryz.func38, Tryz.ntmps38
    go_upto_region 1 with (fail)
    obtain ⟨W, hW, o1, hB, hS⟩ := boxes1 w 40 [.bool s0, .slice a1 l1 c1, .bool s2, .slice a3 l3 c3, .slice a4 l4 c4]
    rw [← hW]
    clear hW
    have h := h.below hB (Nat.le_refl _)
    have fo1 := o1.free; have co10 := o1.cell 0 _ rfl; have co11 := o1.cell 1 _ rfl; have co12 := o1.cell 2 _ rfl; have co13 := o1.cell 3 _ rfl; have co14 := o1.cell 4 _ rfl
    go_wp2_with fail
    refine (HRe.out _ W h).mono ?_
    rintro e W1 ⟨_, rfl, rfl, hb1⟩
    clear co10 co11 co12 co13 co14 fo1
    have hsW1 : W.heap.size ≤ W1.heap.size := hb1.size; have hB := hB.trans (hb1.mono hB.size); have o1 := o1.below hb1 o1.lt; have h := h.below hb1 (Nat.le_refl _)
    have fo1 := o1.free; have co10 := o1.cell 0 _ rfl; have co11 := o1.cell 1 _ rfl; have co12 := o1.cell 2 _ rfl; have co13 := o1.cell 3 _ rfl; have co14 := o1.cell 4 _ rfl
    go_wp2_with fail
    refine (HCm.out _ _ W1 h num_nil).mono ?_
    rintro e W2 ⟨_, rfl, rfl, hb2⟩
    have hB := hB.trans (hb2.mono hB.size)
    go_wp2_with fail
    go_ret
    exact ⟨_, rfl, by simp, hB⟩
def vfStep (l : List CQ) (i : Nat) : Bool := match l[i]? with
  | none => false
  | some x => posQ x && (decide (i = 0) || match l[i - 1]? with
    | none => false
    | some y => decide (0 < qcmp x y))
def vfB (l : List CQ) : Bool := (List.range l.length).all (vfStep l) && inR (l.length : Int) 1 1024
theorem vf_no {l : List CQ} {i : Nat} (hi : i < l.length) (h : vfStep l i = false) : vfB l = false := by
  unfold vfB
  rw [all_no (List.getElem?_range hi) h]
  rfl
theorem vf_next {l : List CQ} {i : Nat} (h : vfStep l i = true) (ha : (List.range i).all (vfStep l) = true) : (List.range (i + 1)).all (vfStep l) = true := by
  rw [List.range_succ, List.all_append, ha]
  simp [h]
theorem vfStep_pos {l : List CQ} {i : Nat} {x : CQ} (h : l[i]? = some x) (hp : posQ x = false) : vfStep l i = false := by unfold vfStep; rw [h]; simp [hp]
theorem vfStep_zero {l : List CQ} {x : CQ} (h : l[0]? = some x) (hp : posQ x = true) : vfStep l 0 = true := by unfold vfStep; rw [h]; simp [hp]
theorem vfStep_next {l : List CQ} {i : Nat} {x y : CQ} (h : l[i + 1]? = some x) (h2 : l[i]? = some y) (hp : posQ x = true) : vfStep l (i + 1) = decide (0 < qcmp x y) := by
  unfold vfStep
  rw [h]
  simp [hp, h2]
theorem NumSl.num {w : World} {a : Option Addr} {n c i : Nat} {l : List CQ} {x : CQ} (h : NumSl w (.slice a n c) l) (hi : l[i]? = some x) :
    ∃ (b o : Nat) (s0 s2 : Bool) (a1 a3 a4 : Option Addr) (l1 m1 l3 m3 l4 m4 : Nat), a = some ⟨b, o, none⟩ ∧ b < w.heap.size ∧ NumRep w (.agg #[.bool s0, .slice a1 l1 m1, .bool s2, .slice a3 l3 m3, .slice a4 l4 m4]) x ∧
      w.cell? ⟨b, o + i * 5, none⟩ = some (.bool s0) ∧ w.cell? ⟨b, o + i * 5 + 1, none⟩ = some (.slice a1 l1 m1) ∧ w.cell? ⟨b, o + i * 5 + 2, none⟩ = some (.bool s2) ∧ w.cell? ⟨b, o + i * 5 + 3, none⟩ = some (.slice a3 l3 m3) ∧ w.cell? ⟨b, o + i * 5 + 4, none⟩ = some (.slice a4 l4 m4) := by
  obtain ⟨b, o, u, e, hu, hR, hc⟩ := h.1.get hi
  have hR2 : NumRep w (.agg u.toArray) x := hR
  obtain ⟨s0, s2, a1, a3, a4, l1, m1, l3, m3, l4, m4, hx1⟩ := hR2.open
  have hv1 : u = [.bool s0, .slice a1 l1 m1, .bool s2, .slice a3 l3 m3, .slice a4 l4 m4] := by injection hx1 with h; exact List.toArray_inj h
  subst hv1
  exact ⟨b, o, s0, s2, a1, a3, a4, l1, m1, l3, m3, l4, m4, e, World.block_lt_of_cell? w _ (hc 0 _ rfl), hR2, hc 0 _ rfl, hc 1 _ rfl, hc 2 _ rfl, hc 3 _ rfl, hc 4 _ rfl⟩
set_option maxRecDepth 100000 in
set_option maxHeartbeats 3200000 in
theorem validFreqs_spec (v : Value) (l : List CQ) (k : Nat) (w : World) (h : NumSl w v l) (hs : ∀ x ∈ l, Small k x) (hk : k ≤ 100000) :
    Calls Tryz.prog 100 #[v] w (Ret w fun _ v' => v' = .bool (vfB l)) := by
  obtain ⟨n, hln⟩ : ∃ n, l.length = n := ⟨_, rfl⟩
  obtain ⟨a, c, rfl, hc, hc2, -⟩ := id h.1
  have HPo := Lib.hid (fun v x w h hx => positive_spec v x k w h (hs x hx) hk)
  have HCm := Lib.hid (fun v u x y w h h' hx hy => ncmp_spec v u x y k w h h' (hs x hx) (hs y hy) (by omega))
  have HL := Lib.hid h
  have HN := Lib.hid hln
  have HF := Lib.hid (fun i hi => vf_no (l := l) (i := i) hi)
  have HT := Lib.hid (show (List.range n).all (vfStep l) = true → vfB l = inR (n : Int) 1 1024 from fun h => by unfold vfB; rw [hln, h]; rfl)
  rw [hln] at hc ⊢
  rw [hln] at HL
  clear h hln hs
  generalize vfB l = r at *
  go_enter Tryz.func100, Tryz.ntmps100
  go_wp2_with fail
  go_loopw [7] (fun iv wr => ∃ i : Nat, i ≤ n ∧ iv = .int .i64 (i : Int) ∧ Below w.heap.size w wr ∧ Hid ((List.range i).all (vfStep l) = true)) (fun i _ => n - (intOf i).toNat)
  case atStart => exact ⟨0, by omega, rfl, Below.refl _ _, rfl⟩
  case round =>
    obtain ⟨i, hi, rfl, hB, hall⟩ := hrel
    by_cases hlt : i < n
    · obtain ⟨x, hx⟩ : ∃ x, l[i]? = some x := ⟨_, List.getElem?_eq_getElem (by have := HN.out; omega)⟩
      have HX := Lib.hid hx
      have HMX := Lib.hid (List.mem_of_getElem? hx)
      obtain ⟨b, o, s0, s2, a1, a3, a4, l1, m1, l3, m3, l4, m4, rfl, hbl, hrep, e0, e1, e2, e3, e4⟩ := (HL.out.below hB (Nat.le_refl _)).num hx
      clear hx
      cases hp : posQ x
      · have hr : r = false := HF.out i (by have := HN.out; omega) (vfStep_pos HX.out hp)
        subst hr
        have HP := Lib.hid hp
        clear hp
        go_upto_region 4 with (fail)
        obtain ⟨V, hV, o4, hBV, hSV⟩ := boxes1 wr 40 [.bool s0, .slice a1 l1 m1, .bool s2, .slice a3 l3 m3, .slice a4 l4 m4]
        rw [← hV]
        clear hV e0 e1 e2 e3 e4
        have hsV : wr.heap.size ≤ V.heap.size := hBV.size; have hB := hB.trans (hBV.mono hB.size); have hrep := hrep.below hBV (Nat.le_refl _)
        generalize wr.heap.size = g4 at *
        have fo4 := o4.free; have co40 := o4.cell 0 _ rfl; have co41 := o4.cell 1 _ rfl; have co42 := o4.cell 2 _ rfl; have co43 := o4.cell 3 _ rfl; have co44 := o4.cell 4 _ rfl
        refine wp_region_held (S := fun _ => True) (by kernel_rfl) ?_
        refine wpAnyH_ready (rs := [0]) (by kernel_rfl) (by simp) ?_; refine AllReadyH.cons (o := _) rfl (fun K hK => ?_) AllReadyH.nil; go_simp; refine hK.out _ _ trivial (fun _ => ?_); clear hK K
        refine wpAnyH_ready (rs := [1]) (by kernel_rfl) (by simp) ?_; refine AllReadyH.cons (o := _) rfl (fun K hK => ?_) AllReadyH.nil; go_simp; refine (HPo.out _ x V.drew hrep HMX.out).mono ?_; rw [HP.out]; rintro e V1 ⟨_, rfl, rfl, hb1⟩; have hB := hB.drew.trans (hb1.mono hB.size); refine hK.out _ _ trivial (fun _ => ?_); clear hK K
        refine wpAnyH_ready (rs := [2]) (by kernel_rfl) (by simp) ?_; refine AllReadyH.cons (o := _) rfl (fun K hK => ?_) AllReadyH.nil; go_simp; refine hK.out _ _ trivial (fun _ => ?_); clear hK K
        refine wpAnyH_ready (rs := [3]) (by kernel_rfl) (by simp) ?_; refine AllReadyH.cons (o := _) rfl (fun K hK => ?_) AllReadyH.nil; go_simp; refine hK.out _ _ trivial (fun _ => ?_); clear hK K
        refine wpAnyH_ready (rs := [4]) (by kernel_rfl) (by simp) ?_; refine AllReadyH.cons (o := _) rfl (fun K hK => ?_) AllReadyH.nil; go_simp; refine hK.out _ _ trivial (fun _ => ?_); clear hK K
        refine wpAnyH_ready (rs := [5]) (by kernel_rfl) (by simp) ?_; refine AllReadyH.cons (o := _) rfl (fun K hK => ?_) AllReadyH.nil; go_simp; refine hK.out _ _ trivial (fun _ => ?_); clear hK K
        refine wpAnyH_ready (rs := [6]) (by kernel_rfl) (by simp) ?_; refine AllReadyH.cons (o := _) rfl (fun K hK => ?_) AllReadyH.nil; go_simp; refine hK.out _ _ trivial (fun _ => ?_); clear hK K
        refine wpAnyH_take (i := 7) (oi := _) (v := undef) rfl (by kernel_rfl) (by kernel_rfl) (by kernel_rfl) (fun _ _ _ h => h) (Or.inr ⟨by rfl, rfl⟩) trivial ?_
        refine wpAnyH_take (i := 8) (oi := _) (v := undef) rfl (by kernel_rfl) (by kernel_rfl) (by kernel_rfl) (fun _ _ _ h => h) (Or.inr ⟨by rfl, rfl⟩) trivial ?_
        refine wpAnyH_ready (rs := [9]) (by kernel_rfl) (by simp) ?_; refine AllReadyH.cons (o := _) rfl (fun K hK => ?_) AllReadyH.nil; go_simp; refine hK.out _ _ trivial (fun _ => ?_); clear hK K
        refine wpAnyH_ready (rs := [10]) (by kernel_rfl) (by simp) ?_; refine AllReadyH.cons (o := _) rfl (fun K hK => ?_) AllReadyH.nil; go_simp; refine hK.out _ _ trivial (fun _ => ?_); clear hK K
        refine wpAnyH_ready (rs := [11]) (by kernel_rfl) (by simp) ?_; refine AllReadyH.cons (o := _) rfl (fun K hK => ?_) AllReadyH.nil; go_simp; refine hK.out _ _ trivial (fun _ => ?_); clear hK K
        refine wpAnyH_ready (rs := [12]) (by kernel_rfl) (by simp) ?_; refine AllReadyH.cons (o := _) rfl (fun K hK => ?_) AllReadyH.nil; go_simp; refine hK.out _ _ trivial (fun _ => ?_); clear hK K
        refine wpAnyH_ready (rs := [13]) (by kernel_rfl) (by simp) ?_; refine AllReadyH.cons (o := _) rfl (fun K hK => ?_) AllReadyH.nil; go_simp; refine hK.out _ _ trivial (fun _ => ?_); clear hK K
        refine wpAnyH_ready (rs := [14]) (by kernel_rfl) (by simp) ?_; refine AllReadyH.cons (o := _) rfl (fun K hK => ?_) AllReadyH.nil; go_simp; refine hK.out _ _ trivial (fun _ => ?_); clear hK K
        refine wpAnyH_ready (rs := [15]) (by kernel_rfl) (by simp) ?_; refine AllReadyH.cons (o := _) rfl (fun K hK => ?_) AllReadyH.nil; go_simp; refine hK.out _ _ trivial (fun _ => ?_); clear hK K
        refine wpAnyH_ready (rs := [16]) (by kernel_rfl) (by simp) ?_; refine AllReadyH.cons (o := _) rfl (fun K hK => ?_) AllReadyH.nil; go_simp; refine hK.out _ _ trivial (fun _ => ?_); clear hK K
        refine wpAnyH_done (by kernel_rfl) ?_ _
        go_wp2_with fail
        go_ret
        exact ⟨_, rfl, rfl, hB⟩
      · have HP := Lib.hid hp
        clear hp
        rcases Nat.eq_zero_or_pos i with rfl | hpos
        · have hnext := Lib.hid (vf_next (vfStep_zero HX.out HP.out) hall.out)
          simp only [Nat.zero_mul, Nat.add_zero] at e0 e1 e2 e3 e4
          go_upto_region 4 with (fail)
          obtain ⟨V, hV, o4, hBV, hSV⟩ := boxes1 wr 40 [.bool s0, .slice a1 l1 m1, .bool s2, .slice a3 l3 m3, .slice a4 l4 m4]
          rw [← hV]
          clear hV e0 e1 e2 e3 e4
          have hsV : wr.heap.size ≤ V.heap.size := hBV.size; have hB := hB.trans (hBV.mono hB.size); have hrep := hrep.below hBV (Nat.le_refl _)
          generalize wr.heap.size = g4 at *
          have fo4 := o4.free; have co40 := o4.cell 0 _ rfl; have co41 := o4.cell 1 _ rfl; have co42 := o4.cell 2 _ rfl; have co43 := o4.cell 3 _ rfl; have co44 := o4.cell 4 _ rfl
          refine wp_region_held (S := fun _ => True) (by kernel_rfl) ?_
          refine wpAnyH_ready (rs := [0]) (by kernel_rfl) (by simp) ?_; refine AllReadyH.cons (o := _) rfl (fun K hK => ?_) AllReadyH.nil; go_simp; refine hK.out _ _ trivial (fun _ => ?_); clear hK K
          refine wpAnyH_ready (rs := [1]) (by kernel_rfl) (by simp) ?_; refine AllReadyH.cons (o := _) rfl (fun K hK => ?_) AllReadyH.nil; go_simp; refine (HPo.out _ x V.drew hrep HMX.out).mono ?_; rw [HP.out]; rintro e V1 ⟨_, rfl, rfl, hb1⟩; have hB := hB.drew.trans (hb1.mono hB.size); refine hK.out _ _ trivial (fun _ => ?_); clear hK K
          refine wpAnyH_ready (rs := [2]) (by kernel_rfl) (by simp) ?_; refine AllReadyH.cons (o := _) rfl (fun K hK => ?_) AllReadyH.nil; go_simp; refine hK.out _ _ trivial (fun _ => ?_); clear hK K
          refine wpAnyH_ready (rs := [3]) (by kernel_rfl) (by simp) ?_; refine AllReadyH.cons (o := _) rfl (fun K hK => ?_) AllReadyH.nil; go_simp; refine hK.out _ _ trivial (fun _ => ?_); clear hK K
          refine wpAnyH_ready (rs := [4]) (by kernel_rfl) (by simp) ?_; refine AllReadyH.cons (o := _) rfl (fun K hK => ?_) AllReadyH.nil; go_simp; refine hK.out _ _ trivial (fun _ => ?_); clear hK K
          refine wpAnyH_ready (rs := [5]) (by kernel_rfl) (by simp) ?_; refine AllReadyH.cons (o := _) rfl (fun K hK => ?_) AllReadyH.nil; go_simp; refine hK.out _ _ trivial (fun _ => ?_); clear hK K
          refine wpAnyH_ready (rs := [6]) (by kernel_rfl) (by simp) ?_; refine AllReadyH.cons (o := _) rfl (fun K hK => ?_) AllReadyH.nil; go_simp; refine hK.out _ _ trivial (fun _ => ?_); clear hK K
          refine wpAnyH_take (i := 7) (oi := _) (v := undef) rfl (by kernel_rfl) (by kernel_rfl) (by kernel_rfl) (fun _ _ _ h => h) (Or.inr ⟨by rfl, rfl⟩) trivial ?_
          refine wpAnyH_take (i := 8) (oi := _) (v := undef) rfl (by kernel_rfl) (by kernel_rfl) (by kernel_rfl) (fun _ _ _ h => h) (Or.inr ⟨by rfl, rfl⟩) trivial ?_
          refine wpAnyH_ready (rs := [9]) (by kernel_rfl) (by simp) ?_; refine AllReadyH.cons (o := _) rfl (fun K hK => ?_) AllReadyH.nil; go_simp; refine hK.out _ _ trivial (fun _ => ?_); clear hK K
          refine wpAnyH_ready (rs := [10]) (by kernel_rfl) (by simp) ?_; refine AllReadyH.cons (o := _) rfl (fun K hK => ?_) AllReadyH.nil; go_simp; refine hK.out _ _ trivial (fun _ => ?_); clear hK K
          refine wpAnyH_ready (rs := [11]) (by kernel_rfl) (by simp) ?_; refine AllReadyH.cons (o := _) rfl (fun K hK => ?_) AllReadyH.nil; go_simp; refine hK.out _ _ trivial (fun _ => ?_); clear hK K
          refine wpAnyH_ready (rs := [12]) (by kernel_rfl) (by simp) ?_; refine AllReadyH.cons (o := _) rfl (fun K hK => ?_) AllReadyH.nil; go_simp; refine hK.out _ _ trivial (fun _ => ?_); clear hK K
          refine wpAnyH_ready (rs := [13]) (by kernel_rfl) (by simp) ?_; refine AllReadyH.cons (o := _) rfl (fun K hK => ?_) AllReadyH.nil; go_simp; refine hK.out _ _ trivial (fun _ => ?_); clear hK K
          refine wpAnyH_ready (rs := [14]) (by kernel_rfl) (by simp) ?_; refine AllReadyH.cons (o := _) rfl (fun K hK => ?_) AllReadyH.nil; go_simp; refine hK.out _ _ trivial (fun _ => ?_); clear hK K
          refine wpAnyH_ready (rs := [15]) (by kernel_rfl) (by simp) ?_; refine AllReadyH.cons (o := _) rfl (fun K hK => ?_) AllReadyH.nil; go_simp; refine hK.out _ _ trivial (fun _ => ?_); clear hK K
          refine wpAnyH_ready (rs := [16]) (by kernel_rfl) (by simp) ?_; refine AllReadyH.cons (o := _) rfl (fun K hK => ?_) AllReadyH.nil; go_simp; refine hK.out _ _ trivial (fun _ => ?_); clear hK K
          refine wpAnyH_done (by kernel_rfl) ?_ _
          go_wp2_with fail
          go_roundw
          case rel => exact ⟨1, by omega, by go_num, hB, hnext⟩
          case measure => simp [intOf]; omega
        · obtain ⟨j, hj⟩ : ∃ j, i = j + 1 := ⟨i - 1, by omega⟩
          obtain ⟨y, hy⟩ : ∃ y, l[j]? = some y := ⟨_, List.getElem?_eq_getElem (by have := HN.out; omega)⟩
          have HY := Lib.hid hy
          have HMY := Lib.hid (List.mem_of_getElem? hy)
          obtain ⟨b', o', t0, t2, d1, d3, d4, p1, q1, p3, q3, p4, q4, hab, -, hrep2, f0, f1, f2, f3, f4⟩ := (HL.out.below hB (Nat.le_refl _)).num hy
          injection hab with hab
          injection hab with hb1 ho1 _
          subst hb1 ho1
          have HZ : Hid (vfStep l i = decide (0 < qcmp x y)) := show _ = _ by
            have := vfStep_next (i := j) (hj ▸ HX.out) HY.out HP.out
            rwa [← hj] at this
          have hwj : IntKind.i64.wrap ((i : Int) - 1) = (j : Int) := by rw [IntKind.wrap_i64]; omega
          have hgt : (0 : Int) < (i : Int) := by omega
          have hjn : (j : Int) < (n : Int) := by omega
          have hj0 : (0 : Int) ≤ (j : Int) := by omega
          have hjn' : j < n := by omega
          clear hy hj
          go_upto_region 4 with (fail)
          obtain ⟨V, hV, o4, hBV, hSV⟩ := boxes1 wr 40 [.bool s0, .slice a1 l1 m1, .bool s2, .slice a3 l3 m3, .slice a4 l4 m4]
          rw [← hV]
          have hbw : b < wr.heap.size := World.block_lt_of_cell? wr _ e0
          replace f0 := (hBV.cell hbw).trans f0
          replace f1 := (hBV.cell hbw).trans f1
          replace f2 := (hBV.cell hbw).trans f2
          replace f3 := (hBV.cell hbw).trans f3
          replace f4 := (hBV.cell hbw).trans f4
          clear hV e0 e1 e2 e3 e4 hbw
          have hsV : wr.heap.size ≤ V.heap.size := hBV.size; have hB := hB.trans (hBV.mono hB.size); have hrep := hrep.below hBV (Nat.le_refl _); have hrep2 := hrep2.below hBV (Nat.le_refl _)
          generalize wr.heap.size = g4 at *
          have fo4 := o4.free; have co40 := o4.cell 0 _ rfl; have co41 := o4.cell 1 _ rfl; have co42 := o4.cell 2 _ rfl; have co43 := o4.cell 3 _ rfl; have co44 := o4.cell 4 _ rfl
          have lt4 := o4.lt
          have ltb : b < V.heap.size := World.block_lt_of_cell? V _ f0
          have hkV : Below V.heap.size V V.drew := (Below.refl _ _).drew
          have hr1 := hrep.below hkV (Nat.le_refl _)
          have hr2 := hrep2.below hkV (Nat.le_refl _)
          clear o4 fo4
          have Gco40 := Lib.hid co40; have Gco41 := Lib.hid co41; have Gco42 := Lib.hid co42; have Gco43 := Lib.hid co43; have Gco44 := Lib.hid co44; have Gf0 := Lib.hid f0; have Gf1 := Lib.hid f1; have Gf2 := Lib.hid f2; have Gf3 := Lib.hid f3; have Gf4 := Lib.hid f4
          have tok1 : True := trivial
          have tok2 : True := trivial
          go_region_held3 (fun w' => w'.cell? ⟨g4, 0, none⟩ = some (.bool s0) ∧ w'.cell? ⟨g4, 1, none⟩ = some (.slice a1 l1 m1) ∧ w'.cell? ⟨g4, 2, none⟩ = some (.bool s2) ∧ w'.cell? ⟨g4, 3, none⟩ = some (.slice a3 l3 m3) ∧ w'.cell? ⟨g4, 4, none⟩ = some (.slice a4 l4 m4) ∧ w'.cell? ⟨b, o + j * 5, none⟩ = some (.bool t0) ∧ w'.cell? ⟨b, o + j * 5 + 1, none⟩ = some (.slice d1 p1 q1) ∧ w'.cell? ⟨b, o + j * 5 + 2, none⟩ = some (.bool t2) ∧ w'.cell? ⟨b, o + j * 5 + 3, none⟩ = some (.slice d3 p3 q3) ∧ w'.cell? ⟨b, o + j * 5 + 4, none⟩ = some (.slice d4 p4 q4)) (first | (with_reducible exact ⟨co40, co41, co42, co43, co44, f0, f1, f2, f3, f4⟩) | (simp [go_sem, co40, co41, co42, co43, co44, f0, f1, f2, f3, f4, lt4, ltb]; done)) (first
            | (go_simp; go_at_call 38; have _t := tok1; (with_reducible refine (HPo.out _ x V.drew hr1 HMX.out).mono ?_); rw [HP.out]; rintro e V1 ⟨_, rfl, rfl, hb1⟩; have hbb1 : Below V.heap.size V V1 := hkV.trans hb1; have hr1 := hr1.below hb1 (Nat.le_refl _); have hr2 := hr2.below hb1 (Nat.le_refl _); have co40 := (hbb1.cell (World.block_lt_of_cell? V _ Gco40.out)).trans Gco40.out; have co41 := (hbb1.cell (World.block_lt_of_cell? V _ Gco41.out)).trans Gco41.out; have co42 := (hbb1.cell (World.block_lt_of_cell? V _ Gco42.out)).trans Gco42.out; have co43 := (hbb1.cell (World.block_lt_of_cell? V _ Gco43.out)).trans Gco43.out; have co44 := (hbb1.cell (World.block_lt_of_cell? V _ Gco44.out)).trans Gco44.out; have f0 := (hbb1.cell (World.block_lt_of_cell? V _ Gf0.out)).trans Gf0.out; have f1 := (hbb1.cell (World.block_lt_of_cell? V _ Gf1.out)).trans Gf1.out; have f2 := (hbb1.cell (World.block_lt_of_cell? V _ Gf2.out)).trans Gf2.out; have f3 := (hbb1.cell (World.block_lt_of_cell? V _ Gf3.out)).trans Gf3.out; have f4 := (hbb1.cell (World.block_lt_of_cell? V _ Gf4.out)).trans Gf4.out; have lt4 := World.block_lt_of_cell? V1 _ co40; have ltb := World.block_lt_of_cell? V1 _ f0; clear tok1 _t)
            | (go_simp; go_at_call 51; have _t := tok2; (with_reducible refine (HCm.out _ _ x y V1 hr1 hr2 HMX.out HMY.out).mono ?_); rintro e V2 ⟨_, rfl, rfl, hb2⟩; have hbb2 : Below V.heap.size V V2 := hbb1.trans (hb2.mono hbb1.size); have co40 := (hbb2.cell (World.block_lt_of_cell? V _ Gco40.out)).trans Gco40.out; have co41 := (hbb2.cell (World.block_lt_of_cell? V _ Gco41.out)).trans Gco41.out; have co42 := (hbb2.cell (World.block_lt_of_cell? V _ Gco42.out)).trans Gco42.out; have co43 := (hbb2.cell (World.block_lt_of_cell? V _ Gco43.out)).trans Gco43.out; have co44 := (hbb2.cell (World.block_lt_of_cell? V _ Gco44.out)).trans Gco44.out; have f0 := (hbb2.cell (World.block_lt_of_cell? V _ Gf0.out)).trans Gf0.out; have f1 := (hbb2.cell (World.block_lt_of_cell? V _ Gf1.out)).trans Gf1.out; have f2 := (hbb2.cell (World.block_lt_of_cell? V _ Gf2.out)).trans Gf2.out; have f3 := (hbb2.cell (World.block_lt_of_cell? V _ Gf3.out)).trans Gf3.out; have f4 := (hbb2.cell (World.block_lt_of_cell? V _ Gf4.out)).trans Gf4.out; have lt4 := World.block_lt_of_cell? V2 _ co40; have ltb := World.block_lt_of_cell? V2 _ f0; clear tok2 _t))
          have hB3 := hB.trans (hbb2.mono hB.size)
          generalize qcmp x y = z at *
          by_cases hz : 0 < z
          · have hnext := Lib.hid (vf_next (HZ.out.trans (decide_eq_true hz)) hall.out)
            have hz' : ¬ z ≤ 0 := by omega
            go_wp2_with fail
            go_roundw
            case rel => exact ⟨i + 1, by omega, by go_num, hB3, hnext⟩
            case measure => simp [intOf]; omega
          · have hr : r = false := HF.out i (by have := HN.out; omega) (HZ.out.trans (decide_eq_false hz))
            subst hr
            have hz' : z ≤ 0 := by omega
            go_wp2_with fail
            go_ret
            exact ⟨_, rfl, rfl, hB3⟩
    · obtain rfl : i = n := by omega
      have hr := HT.out hall.out
      subst hr
      go_wp2_with (refine (inRange_spec _ _ _ _).mono ?_; rintro e w' ⟨rfl, rfl⟩)
      go_ret
      exact ⟨_, rfl, rfl, hB⟩
end Go.Proofs.YtfkogkcpndaoeaaGreat
namespace Go.Proofs.YtfkogkcpndaoeaaGreat
open Go.RowKit
variable {α : Type} {R : World → List Value → α → Prop} {T : TypeId} {size : Nat} {ts : List TypeId}
theorem SlOf.lists {w : World} {b o n c : Nat} {l : List α} (h : SlOf R size w (.slice (some ⟨b, o, none⟩) n c) l) :
    ∃ us : List (List Value), us.length = l.length ∧ ∀ i x, l[i]? = some x → ∃ u, us[i]? = some u ∧ u.length = size ∧ R w u x ∧ ∀ j y, u[j]? = some y → w.cell? ⟨b, o + i * size + j, none⟩ = some y := by
  obtain ⟨a, c', h1, _, _, h2⟩ := h
  injection h1 with h1 _ _
  subst h1
  have key : ∀ k, k ≤ l.length → ∃ us : List (List Value), us.length = k ∧ ∀ i x, i < k → l[i]? = some x → ∃ u, us[i]? = some u ∧ u.length = size ∧ R w u x ∧ ∀ j y, u[j]? = some y → w.cell? ⟨b, o + i * size + j, none⟩ = some y := by
    intro k
    induction k with
    | zero => intro _; exact ⟨[], rfl, fun i x hi => by omega⟩
    | succ k ih =>
      intro hk
      obtain ⟨us, hul, hus⟩ := ih (by omega)
      obtain ⟨b', o', u, e1, e2, e3, e4⟩ := h2 k _ (List.getElem?_eq_getElem (by omega))
      injection e1 with e1
      injection e1 with e5 e6 _
      subst e5 e6
      refine ⟨us ++ [u], by simp [hul], fun i x hi hx => ?_⟩
      rcases Nat.lt_or_ge i k with hik | hik
      · obtain ⟨u', h3, h4⟩ := hus i x hik hx
        exact ⟨u', by rw [List.getElem?_append_left (by omega)]; exact h3, h4⟩
      · obtain rfl : i = k := by omega
        rw [List.getElem?_eq_getElem (by omega)] at hx
        obtain rfl := Option.some.inj hx
        exact ⟨u, by rw [List.getElem?_append_right (by omega), hul]; simp, e2, e3, e4⟩
  obtain ⟨us, hul, hus⟩ := key l.length (Nat.le_refl _)
  exact ⟨us, hul, fun i x hx => hus i x (List.getElem?_eq_some_iff.1 hx).1 hx⟩
theorem flat_len {us : List (List Value)} (h : ∀ u ∈ us, u.length = size) : us.flatten.length = us.length * size := by
  induction us with
  | nil => simp
  | cons u us ih =>
    rw [List.flatten_cons, List.length_append, ih fun x hx => h x (List.mem_cons_of_mem _ hx), h u List.mem_cons_self, List.length_cons, Nat.succ_mul, Nat.add_comm]
theorem append_many {ops : Array Oper} {rest : List Oper} {o : Oper} {a : Act} {Q : Exit → Act → World → Prop} (W : World) (hgd : o.guard = none) (s x : Operand) (t e : TypeId) (z : Value) (size bytes : Nat)
    (ho : o.op = .call { callee := .builtin .append, args := #[s, x], argTypes := #[t, t] }) (ht : Tryz.prog.underlying t = some (.slice e)) (hinfo : (Tryz.prog.info? e).map (fun i => (i.zero, i.size, i.bytes)) = some (some z, size, bytes)) (hzs : z.cells.size = size) (hsz : 0 < size) (hby : bytes ≤ 1000)
    (base : Nat) (v : Value) (n : Nat) (l l2 : List α) (hS : Stable R ts) (hT : e ∉ ts) (hone : ∀ w u x, R w u x → ∀ y ∈ u, y.oneCell' = true) (hs : a.eval s = v) (hO : RowOf R e size W base v l) (hl : l.length = n)
    (ad : Option Addr) (m c : Nat) (hx : a.eval x = .slice ad m c) (hsrc : SlOf R size W (.slice ad m c) l2) (h0 : 0 < m) (hn : n + m ≤ 1000000) (hbase : base ≤ W.heap.size)
    (K : ∀ g cap w', RowOf R e size w' base (.slice (some ⟨g, 0, none⟩) (n + m) cap) (l ++ l2) → Below base W w' → W.grownBy w' v.ownBlock → base ≤ w'.heap.size → wpList Tryz.prog ops Q rest (a.put o.dst (.slice (some ⟨g, 0, none⟩) (n + m) cap)) w') :
    wpList Tryz.prog ops Q (o :: rest) a W := by
  obtain ⟨i0, hi, hz0, hz1, hz2⟩ := info_parts hinfo
  obtain ⟨us, hul, hr, hus⟩ := hO
  rw [hl] at hr hul
  have hm : l2.length = m := by
    obtain ⟨_, _, h1, _⟩ := hsrc
    exact (Value.slice.inj h1).2.1.symm
  obtain ⟨b, of, rfl⟩ : ∃ b of, ad = some ⟨b, of, none⟩ := by
    obtain ⟨b, of, u, e1, _⟩ := hsrc.get (List.getElem?_eq_getElem (show 0 < l2.length by omega))
    exact ⟨b, of, e1⟩
  obtain ⟨vs, hvl, hvs⟩ := hsrc.lists
  rw [hm] at hvl
  have hvlen : ∀ u ∈ vs, u.length = size := by
    intro u hu
    obtain ⟨i, hi⟩ := List.getElem?_of_mem hu
    have hil : i < l2.length := by rw [hm, ← hvl]; exact (List.getElem?_eq_some_iff.1 hi).1
    obtain ⟨u', h1, h2, _⟩ := hvs i _ (List.getElem?_eq_getElem hil)
    rw [hi] at h1
    rw [Option.some.inj h1]
    exact h2
  have hflat : vs.flatten.length = m * size := by rw [flat_len hvlen, hvl]
  have hcell : ∀ j u, vs.flatten[j]? = some u → ∃ i r u', j = i * size + r ∧ i < m ∧ vs[i]? = some u' ∧ u'[r]? = some u := fun j u hj => by
    have hjl : j < m * size := by rw [← hflat]; exact (List.getElem?_eq_some_iff.1 hj).1
    have hi : j / size < m := (Nat.div_lt_iff_lt_mul hsz).2 hjl
    have hrl : j % size < size := Nat.mod_lt _ hsz
    obtain ⟨u', h1, h2, _⟩ := hvs (j / size) _ (List.getElem?_eq_getElem (show j / size < l2.length by omega))
    have h3 : u'[j % size]? = some (u'[j % size]'(by omega)) := List.getElem?_eq_getElem (by omega)
    have h4 := flatten_at hvlen h1 h3
    have h5 : j / size * size + j % size = j := by rw [Nat.mul_comm]; exact Nat.div_add_mod j size
    rw [h5, hj] at h4
    exact ⟨j / size, j % size, u', h5.symm, hi, h1, by rw [h3]; exact h4.symm⟩
  have hby2 : (n + m) * bytes ≤ 1000000 * 1000 := Nat.mul_le_mul hn hby
  refine wpList_append_lies W hgd s x t ho base e i0 z size bytes ht hi hz0 hz1 hz2 hzs hsz v n us.flatten hs hr ⟨b, of, none⟩ m c vs.flatten hx hflat (fun j u hj => ?_) (fun u hu => ?_) h0 (by unfold maxLen; omega) (by omega) hbase _ rfl fun g cap w' h1 h2 h3 h4 => ?_
  · obtain ⟨i, r, u', rfl, him, h1, h2⟩ := hcell j u hj
    obtain ⟨u'', h3, _, _, h5⟩ := hvs i _ (List.getElem?_eq_getElem (show i < l2.length by omega))
    rw [h1] at h3
    obtain rfl := Option.some.inj h3
    rw [Addr.add_lit, ← Nat.add_assoc]
    exact h5 r u h2
  · obtain ⟨j, hj⟩ := List.getElem?_of_mem hu
    obtain ⟨i, r, u', rfl, him, h1, h2⟩ := hcell j u hj
    obtain ⟨u'', h3, _, h4, _⟩ := hvs i _ (List.getElem?_eq_getElem (show i < l2.length by omega))
    rw [h1] at h3
    obtain rfl := Option.some.inj h3
    exact hone W _ _ h4 u (List.mem_of_getElem? h2)
  · refine K g cap w' ⟨us ++ vs, by simp [hul, hvl, hm, hl], ?_, fun i u y hu hy => ?_⟩ (below_row (Below.refl base W) hr h2 (Nat.le_refl _) hbase) h2 (by have := h2.size; omega)
    · rw [List.length_append, hl, hm, List.flatten_append]
      exact h1
    · rcases Nat.lt_or_ge i us.length with hi' | hi'
      · rw [List.getElem?_append_left hi'] at hu
        rw [List.getElem?_append_left (by omega)] at hy
        exact ⟨(hus i u y hu hy).1, hS.row (hus i u y hu hy).2 hr hT h2⟩
      · rw [List.getElem?_append_right hi'] at hu
        rw [List.getElem?_append_right (by omega)] at hy
        obtain ⟨u', h5, h6, h7, _⟩ := hvs (i - us.length) y (by rw [hul, ← hl]; exact hy)
        rw [hu] at h5
        obtain rfl := Option.some.inj h5
        exact ⟨h6, hS.row h7 hr hT h2⟩
theorem one_cellT : ∀ w u (x : List α), CellT R T size w u x → ∀ y ∈ u, y.oneCell' = true := fun w u x h => by
  obtain ⟨v, rfl, h⟩ := h
  obtain ⟨a, c, rfl⟩ := slT_shape h
  exact oneS
end Go.Proofs.YtfkogkcpndaoeaaGreat
namespace Go.Proofs.YtfkogkcpndaoeaaGreat
open Go.RowKit
def matN (n : Nat) (m : List (List CQ)) : Bool := decide (m.length = n) && inR (n : Int) 1 8 && m.all (fun r => decide (r.length = n))
def squareB (l : List (List (List CQ))) : Bool := match l with
  | [] => true
  | m :: _ => l.all (matN m.length)
theorem squareB_at {l : List (List (List CQ))} {m : List (List CQ)} (h : l[0]? = some m) : squareB l = l.all (matN m.length) := by
  cases l with
  | nil => simp at h
  | cons a l =>
    simp at h
    subst h
    rfl
theorem NumSt.mat {w : World} {a : Option Addr} {n c i : Nat} {l : List (List (List CQ))} {m : List (List CQ)} (h : NumSt w (.slice a n c) l) (hi : l[i]? = some m) :
    ∃ (b o : Nat) (a' : Option Addr) (c' : Nat), a = some ⟨b, o, none⟩ ∧ b < w.heap.size ∧ w.cell? ⟨b, o + i, none⟩ = some (.slice a' m.length c') ∧ NumMat w (.slice a' m.length c') m ∧ m.length ≤ c' ∧ c' ≤ 9223372036854775807 := by
  obtain ⟨b, o, u, e, hu, hR, hc⟩ := h.1.get hi
  obtain ⟨v, rfl, hv⟩ := hR
  obtain ⟨⟨a', c', rfl, h1, h2, h3⟩, h4⟩ := hv
  have hc0 := hc 0 _ rfl
  rw [Nat.mul_one, Nat.add_zero] at hc0
  exact ⟨b, o, a', c', e, World.block_lt_of_cell? w _ hc0, hc0, ⟨⟨a', c', rfl, h1, h2, h3⟩, h4⟩, h1, h2⟩
theorem NumMat.list {w : World} {a : Option Addr} {n c i : Nat} {m : List (List CQ)} {r : List CQ} (h : NumMat w (.slice a n c) m) (hi : m[i]? = some r) :
    ∃ (b o : Nat) (a' : Option Addr) (c' : Nat), a = some ⟨b, o, none⟩ ∧ b < w.heap.size ∧ w.cell? ⟨b, o + i, none⟩ = some (.slice a' r.length c') ∧ NumSl w (.slice a' r.length c') r ∧ r.length ≤ c' ∧ c' ≤ 9223372036854775807 := by
  obtain ⟨b, o, u, e, hu, hR, hc⟩ := h.1.get hi
  obtain ⟨v, rfl, hv⟩ := hR
  obtain ⟨⟨a', c', rfl, h1, h2, h3⟩, h4⟩ := hv
  have hc0 := hc 0 _ rfl
  rw [Nat.mul_one, Nat.add_zero] at hc0
  exact ⟨b, o, a', c', e, World.block_lt_of_cell? w _ hc0, hc0, ⟨⟨a', c', rfl, h1, h2, h3⟩, h4⟩, h1, h2⟩
theorem NumSt.dims {w : World} {v : Value} {l : List (List (List CQ))} (h : NumSt w v l) : ∃ a c, v = .slice a l.length c ∧ l.length ≤ c ∧ c ≤ 9223372036854775807 := by
  obtain ⟨⟨a, c, h1, h2, h3, _⟩, _⟩ := h
  exact ⟨a, c, h1, h2, h3⟩
theorem NumMat.dims {w : World} {v : Value} {l : List (List CQ)} (h : NumMat w v l) : ∃ a c, v = .slice a l.length c ∧ l.length ≤ c ∧ c ≤ 9223372036854775807 := by
  obtain ⟨⟨a, c, h1, h2, h3, _⟩, _⟩ := h
  exact ⟨a, c, h1, h2, h3⟩
theorem NumSl.dims {w : World} {v : Value} {l : List CQ} (h : NumSl w v l) : ∃ a c, v = .slice a l.length c ∧ l.length ≤ c ∧ c ≤ 9223372036854775807 := by
  obtain ⟨⟨a, c, h1, h2, h3, _⟩, _⟩ := h
  exact ⟨a, c, h1, h2, h3⟩
set_option maxRecDepth 100000 in
set_option maxHeartbeats 3200000 in
theorem square_spec (v : Value) (l : List (List (List CQ))) (w : World) (h : NumSt w v l) :
    Calls Tryz.prog 101 #[v] w (Ret w fun _ v' => v' = .bool (squareB l)) := by
  obtain ⟨n, hln⟩ : ∃ n, l.length = n := ⟨_, rfl⟩
  obtain ⟨a, c, rfl, hc, hc2⟩ := h.dims
  have HL := Lib.hid h
  have HN := Lib.hid hln
  have HF := Lib.hid (show ∀ m0, l[0]? = some m0 → l.all (matN m0.length) = false → squareB l = false from fun m0 h0 h => by rw [squareB_at h0, h])
  have HT := Lib.hid (show (n = 0 ∨ ∀ m0, l[0]? = some m0 → l.all (matN m0.length) = true) → squareB l = true from fun h => by
    rcases h with h | h
    · have : l = [] := List.eq_nil_of_length_eq_zero (by omega)
      subst this
      rfl
    · cases hl0 : l[0]? with
      | none => have : l = [] := List.eq_nil_of_length_eq_zero (by simpa using hl0)
                subst this
                rfl
      | some m0 => rw [squareB_at hl0, h m0 hl0])
  rw [hln] at hc HL ⊢
  clear h hln
  generalize squareB l = r at *
  go_enter Tryz.func101, Tryz.ntmps101
  go_wp2_with fail
  go_loopw [10] (fun iv wr => ∃ k : Nat, k ≤ n ∧ iv = .int .i64 (k : Int) ∧ Below w.heap.size w wr ∧ Hid (∀ m0, l[0]? = some m0 → (l.take k).all (matN m0.length) = true)) (fun i _ => n - (intOf i).toNat)
  case atStart => exact ⟨0, Nat.zero_le _, rfl, Below.refl _ _, fun _ _ => rfl⟩
  case round =>
    obtain ⟨k, hk, rfl, hB, hall⟩ := hrel
    by_cases hlt : k < n
    · obtain ⟨m, hm⟩ : ∃ m, l[k]? = some m := ⟨_, List.getElem?_eq_getElem (by have := HN.out; omega)⟩
      obtain ⟨m0, hm0⟩ : ∃ m, l[0]? = some m := ⟨_, List.getElem?_eq_getElem (by have := HN.out; omega)⟩
      obtain ⟨b, o, a1, c1, rfl, hbl, e0, hmat, hc1, hc12⟩ := (HL.out.below hB (Nat.le_refl _)).mat hm
      obtain ⟨b', o', a2, c2, hab, -, f0, -, -, -⟩ := (HL.out.below hB (Nat.le_refl _)).mat hm0
      injection hab with hab
      injection hab with hb1 ho1 _
      subst hb1 ho1
      simp only [Nat.add_zero] at f0
      obtain ⟨p, hp⟩ : ∃ p, m.length = p := ⟨_, rfl⟩
      obtain ⟨q, hq⟩ : ∃ q, m0.length = q := ⟨_, rfl⟩
      rw [hp] at e0 hmat hc1
      rw [hq] at f0
      have HM := Lib.hid hm
      have HM0 := Lib.hid hm0
      have HP := Lib.hid hp
      have HQ := Lib.hid hq
      clear hm hm0 hp hq
      by_cases hpq : p = q
      · subst hpq
        by_cases hin : inR (p : Int) 1 8 = true
        · obtain ⟨W0, hW0⟩ : ∃ W0 : World, W0 = wr := ⟨_, rfl⟩
          rw [← hW0] at e0 f0 hB hmat
          rw [← hW0]
          clear hW0
          have HMat := Lib.hid hmat
          have HIN := Lib.hid hin
          clear hmat hin
          go_wp2_with (refine (inRange_spec _ _ _ _).mono ?_; rw [HIN.out]; rintro e w' ⟨rfl, rfl⟩)
          clear e0 f0
          go_loopw [29] (fun iv wt => ∃ j : Nat, j ≤ p ∧ iv = .int .i64 (j : Int) ∧ Below W0.heap.size W0 wt ∧ Hid ((m.take j).all (fun r => decide (r.length = p)) = true)) (fun i _ => p - (intOf i).toNat)
          case atStart => exact ⟨0, Nat.zero_le _, rfl, Below.refl _ _, rfl⟩
          case round =>
            obtain ⟨j, hj, rfl, hC, hallj⟩ := hrel
            by_cases hlj : j < p
            · obtain ⟨x, hx⟩ : ∃ x, m[j]? = some x := ⟨_, List.getElem?_eq_getElem (by have := HP.out; omega)⟩
              obtain ⟨b3, o3, a3, c3, rfl, -, e3, -, hc3, hc32⟩ := (HMat.out.below hC (Nat.le_refl _)).list hx
              obtain ⟨y, hy⟩ : ∃ y, x.length = y := ⟨_, rfl⟩
              rw [hy] at e3 hc3
              have HX := Lib.hid hx
              have HY := Lib.hid hy
              clear hx hy
              by_cases hyp : y = p
              · subst hyp
                have hnext := Lib.hid (all_next (p := fun r => decide (r.length = y)) HX.out (by rw [HY.out]; simp) hallj.out)
                go_wp2_with fail
                go_roundw
                case rel => first | exact ⟨j + 1, by omega, by go_num, hC, hnext⟩ | ((repeat apply Exists.intro); exact ⟨⟨j + 1, by omega, by go_num, hC, hnext⟩, rfl⟩)
                case measure => simp [intOf]; omega
              · have hr : r = false := HF.out m0 HM0.out (all_no HM.out (by unfold matN; rw [HQ.out, all_no (p := fun r => decide (r.length = p)) HX.out (by rw [HY.out]; exact decide_eq_false hyp), Bool.and_false]))
                subst hr
                have hyp' : ¬ ((y : Int) = (p : Int)) := by omega
                go_wp2_with fail
                go_ret
                exact ⟨_, rfl, rfl, hB.trans (hC.mono hB.size)⟩
            · obtain rfl : j = p := by omega
              have hrow : m.all (fun r => decide (r.length = j)) = true := by
                have := hallj.out
                rwa [List.take_of_length_le (by have := HP.out; omega)] at this
              have hnext : Hid (∀ m0', l[0]? = some m0' → (l.take (k + 1)).all (matN m0'.length) = true) := fun m0' h0 => by
                have e : m0' = m0 := Option.some.inj (h0.symm.trans HM0.out)
                subst e
                exact all_next HM.out (by unfold matN; rw [HP.out, HQ.out, hrow, HIN.out]; simp) (hall.out _ h0)
              have hB3 := hB.trans (hC.mono hB.size)
              clear hrow
              go_wp2_with fail
              go_roundw
              case rel => first | exact ⟨k + 1, by omega, by go_num, hB3, hnext⟩ | ((repeat apply Exists.intro); exact ⟨⟨k + 1, by omega, by go_num, hB3, hnext⟩, rfl⟩)
              case measure => simp [intOf]; omega
        · have hin' : inR (p : Int) 1 8 = false := by simpa using hin
          have hr : r = false := HF.out m0 HM0.out (all_no HM0.out (by unfold matN; rw [HQ.out, hin']; simp))
          subst hr
          have HIN := Lib.hid hin'
          clear hin hin'
          go_wp2_with (refine (inRange_spec _ _ _ _).mono ?_; rw [HIN.out]; rintro e w' ⟨rfl, rfl⟩)
          go_ret
          exact ⟨_, rfl, rfl, hB⟩
      · have hr : r = false := HF.out m0 HM0.out (all_no HM.out (by unfold matN; rw [HP.out, HQ.out, decide_eq_false hpq]; rfl))
        subst hr
        have hpq' : ¬ ((p : Int) = (q : Int)) := by omega
        go_wp2_with fail
        go_ret
        exact ⟨_, rfl, rfl, hB⟩
    · obtain rfl : k = n := by omega
      have hr : r = true := HT.out (.inr fun m0 h0 => by
        have := hall.out m0 h0
        rwa [List.take_of_length_le (by have := HN.out; omega)] at this)
      subst hr
      go_wp2_with fail
      go_ret
      exact ⟨_, rfl, rfl, hB⟩
end Go.Proofs.YtfkogkcpndaoeaaGreat
namespace Go.Proofs.YtfkogkcpndaoeaaGreat
open Go.RowKit
set_option maxRecDepth 100000 in
set_option maxHeartbeats 2000000 in
theorem grow_spec (k : Nat) (w : World) (h0 : 0 < k) (hk : k ≤ 100000) :
    Calls Tryz.prog 159 #[.slice none 0 0, .int .i64 (k : Int)] w (Ret w fun w' v' => w'.ownsRow w.heap.size 64 1 v' 0 []) := by
  obtain ⟨i0, hi0, hz0, hz1, hz2⟩ := info_parts info_rows
  have hrz : ∀ ty, (Builtin.append_ #[50, 3] ty #[.slice none 0 0, .int .i64 (k : Int)]).run Tryz.prog w =
      .ok (.slice (some ⟨w.heap.size, 0, none⟩) (0 + k) (grownCap w (0 + k) 0 64)) (w.drew.alloc (.cells (([] : List Value).toArray ++ Builtin.zeroCells (Value.slice none 0 0).cells k ++ Builtin.zeroCells (Value.slice none 0 0).cells (grownCap w (0 + k) 0 64 - (0 + k))) 64)) := fun ty =>
    Lib.run_append_grow_zeros w 50 3 ty 64 i0 (.slice none 0 0) .i64 .i64 Tryz.underlying50 Tryz.underlying3 hi0 hz0 none 0 0 [] (run_firstCells_none w.drew i0.size 0 0 0) k h0 (by omega) (by omega) (by omega) (by rw [hz2]; omega)
      (growslice_fits (by omega) (by rw [hz2]; omega))
  have hge : 0 + k ≤ grownCap w (0 + k) 0 64 := grownCap_ge w _ _ _
  have hle : grownCap w (0 + k) 0 64 ≤ maxLen := grownCap_le_maxLen w (0 + k) 0 64 (by unfold maxLen; omega)
  generalize grownCap w (0 + k) 0 64 = G at *
  have hG63 : G ≤ 9223372036854775807 := by unfold maxLen at hle; exact hle
  have h1 : ¬ ((k : Int) < 0) := by omega
  have h3 : wrap64 ((k : Int)) = (k : Int) := by unfold wrap64; omega
  have h4 : (0 : Int) < (k : Int) := by omega
  rw [Nat.zero_add] at hrz hge
  have hfin : (w.drew.alloc (.cells (([] : List Value).toArray ++ Builtin.zeroCells (Value.slice none 0 0).cells k ++ Builtin.zeroCells (Value.slice none 0 0).cells (G - k)) 64)).ownsRow w.heap.size 64 1 (.slice (some ⟨w.heap.size, 0, none⟩) 0 G) 0 [] ∧ Below w.heap.size w (w.drew.alloc (.cells (([] : List Value).toArray ++ Builtin.zeroCells (Value.slice none 0 0).cells k ++ Builtin.zeroCells (Value.slice none 0 0).cells (G - k)) 64)) := by
    refine ⟨⟨rfl, .inr ⟨w.heap.size, G, ([] : List Value).toArray ++ Builtin.zeroCells (Value.slice none 0 0).cells k ++ Builtin.zeroCells (Value.slice none 0 0).cells (G - k), rfl, Nat.le_refl _, ?_, Nat.zero_le _, hle, ?_, ?_⟩⟩, (Below.refl _ _).drew.alloc (Nat.le_refl _) _⟩
    · show (w.heap.push _)[w.heap.size]? = _
      simp
    · simp [size_zeroCells, Value.cells]
      omega
    · simp
  generalize w.drew.alloc (.cells (([] : List Value).toArray ++ Builtin.zeroCells (Value.slice none 0 0).cells k ++ Builtin.zeroCells (Value.slice none 0 0).cells (G - k)) 64) = W2 at *
  clear hi0 hz0 hz1 hz2
  go_enter Tryz.func159, Tryz.ntmps159
  go_wp2_with (at_builtin; refine Lib.wpList_append_run _ rfl _ _ _ _ rfl _ _ rfl rfl _ _ (hrz _) ?_)
  all_goals (go_ret; exact ⟨_, rfl, hfin.1, hfin.2⟩)
set_option maxRecDepth 100000 in
set_option maxHeartbeats 3200000 in
theorem concat_spec (g : Nat) (va vb : Value) (la lb : List (List (List CQ))) (w : World) (ho : Own w 50 g [va, vb]) (ha : NumSt w va la) (hb : NumSt w vb lb) (h1 : 0 < la.length ∧ la.length ≤ 2000) (h2 : 0 < lb.length ∧ lb.length ≤ 2000) :
    Calls Tryz.prog 102 #[.slice (some ⟨g, 0, none⟩) 2 2] w (Ret w fun w' v' => NumSt w' v' (la ++ lb)) := by
  obtain ⟨aa, ca, rfl, hca, hca2⟩ := ha.dims
  obtain ⟨ab, cb, rfl, hcb, hcb2⟩ := hb.dims
  obtain ⟨p, hp⟩ : ∃ p, la.length = p := ⟨_, rfl⟩
  obtain ⟨q, hq⟩ : ∃ q, lb.length = q := ⟨_, rfl⟩
  have HA := Lib.hid ha
  have HB := Lib.hid hb
  have HP := Lib.hid hp
  have HQ := Lib.hid hq
  rw [hp] at hca h1 ho HA
  rw [hq] at hcb h2 ho HB
  obtain ⟨h1, h1'⟩ := h1
  obtain ⟨h2, h2'⟩ := h2
  clear ha hb hp hq
  have ltg := ho.lt
  have c0 := ho.cell 0 _ rfl
  have c1 := ho.cell 1 _ rfl
  have HO := Lib.hid ho
  clear ho
  go_enter Tryz.func102, Tryz.ntmps102
  go_wp2_with fail
  have hw1 : IntKind.i64.wrap ((p : Int)) = (p : Int) := by rw [IntKind.wrap_i64]; omega
  have hw2 : IntKind.i64.wrap ((p : Int) + (q : Int)) = ((p + q : Nat) : Int) := by rw [IntKind.wrap_i64]; omega
  have hn1 : ¬ ((p : Int) < 0) := by omega
  have hn2 : ¬ (((p + q : Nat) : Int) < 0) := by omega
  have hpq : 0 < p + q ∧ p + q ≤ 100000 := by omega
  have HPQ : Hid (∃ t, t = p + q) := ⟨_, rfl⟩
  obtain ⟨t, ht⟩ := HPQ
  rw [← ht] at hw2 hn2 hpq
  have HTT := Lib.hid ht
  clear ht
  refine wp_loop_rounds 3 ?_
  rw [rounds_succ]
  go_wp2_with fail
  rw [rounds_succ]
  go_wp2_with fail
  rw [rounds_succ]
  go_wp2_with fail
  refine (grow_spec t w hpq.1 hpq.2).mono ?_
  rintro e W1 ⟨v1, rfl, hv1, hb1⟩
  have hr1 : RowOf NumsM 64 1 W1 w.heap.size v1 [] := ⟨[], rfl, hv1, fun i u x hu => by simp at hu⟩
  have hA1 := HA.out.below hb1 (Nat.le_refl _)
  have hB1 := HB.out.below hb1 (Nat.le_refl _)
  have hs1 := hb1.size
  clear c0 c1 hw1 hw2 hn1 hn2 hv1
  have HO1 := HO.out.below hb1 ltg
  have c0 := HO1.cell 0 _ rfl
  have c1 := HO1.cell 1 _ rfl
  have hzero : (0 : Nat) + p ≤ 1000000 := by omega
  go_wp2_with fail
  refine wp_loop_rounds 3 ?_
  rw [rounds_succ]
  go_wp2_with (at_builtin; (refine append_many W1 rfl (.tmp 31) (.tmp 32) 50 64 (.slice none 0 0) 1 24 rfl Tryz.underlying50 info_rows rfl (by omega) (by omega) w.heap.size _ 0 [] la numsM_stable (by decide) one_cellT rfl hr1 rfl _ p ca rfl hA1.1 h1 hzero hs1 ?_); intro g2 cap2 W2 hr2 hb2 _ hs2)
  have hbw2 : Below w.heap.size w W2 := hb1.trans hb2
  have hB2 := HB.out.below hbw2 (Nat.le_refl _)
  have HO2 := HO.out.below hbw2 ltg
  clear c0 c1 HO1 hA1 hB1 hr1
  have c0 := HO2.cell 0 _ rfl
  have c1 := HO2.cell 1 _ rfl
  have hzero2 : p + q ≤ 1000000 := by omega
  have hlen2 : la.length = p := HP.out
  rw [Nat.zero_add, List.nil_append] at hr2
  rw [rounds_succ]
  go_wp2_with (at_builtin; (refine append_many W2 rfl (.tmp 31) (.tmp 32) 50 64 (.slice none 0 0) 1 24 rfl Tryz.underlying50 info_rows rfl (by omega) (by omega) w.heap.size _ p la lb numsM_stable (by decide) one_cellT rfl hr2 hlen2 _ q cb rfl hB2.1 h2 hzero2 hs2 ?_); intro g3 cap3 W3 hr3 hb3 _ hs3)
  rw [rounds_succ]
  go_wp2_with fail
  go_ret
  exact ⟨_, rfl, hr3.slT, hbw2.trans hb3⟩
end Go.Proofs.YtfkogkcpndaoeaaGreat
namespace Go.Proofs.YtfkogkcpndaoeaaGreat
open Go.RowKit
def vwB (x : Wv) : Bool := vfB x.fr && decide (x.a.length = x.fr.length) && decide (x.b.length = x.fr.length) && squareB (x.a ++ x.b)
theorem vf_len {l : List CQ} (h : vfB l = true) : 0 < l.length ∧ l.length ≤ 1024 := by
  unfold vfB at h
  rw [Bool.and_eq_true] at h
  have h2 := h.2
  unfold inR at h2
  simp at h2
  omega
set_option maxRecDepth 100000 in
set_option maxHeartbeats 3200000 in
theorem validWaves_spec (v : Value) (x : Wv) (k : Nat) (w : World) (h : WvT w v x) (hs : ∀ y ∈ x.fr, Small k y) (hk : k ≤ 100000) :
    Calls Tryz.prog 49 #[v] w (Ret w fun _ v' => v' = .bool (vwB x)) := by
  obtain ⟨vf, va, vb, rfl, hf, ha, hb⟩ := h
  obtain ⟨af, cf, rfl, hcf, hcf2⟩ := hf.dims
  obtain ⟨aa, ca, rfl, hca, hca2⟩ := ha.dims
  obtain ⟨ab, cb, rfl, hcb, hcb2⟩ := hb.dims
  have HV := Lib.hid (fun w h => validFreqs_spec (.slice af x.fr.length cf) x.fr k w h hs hk)
  have HLEN := Lib.hid (vf_len (l := x.fr))
  have HC := Lib.hid (fun g w ho ha hb h1 h2 => concat_spec g (.slice aa x.a.length ca) (.slice ab x.b.length cb) x.a x.b w ho ha hb h1 h2)
  have HQ := Lib.hid (fun v w h => square_spec v (x.a ++ x.b) w h)
  unfold vwB
  clear hs
  generalize vfB x.fr = t at *
  generalize squareB (x.a ++ x.b) = s at *
  generalize x.fr.length = p at *
  have HP := Lib.hid (show x.a.length = x.a.length from rfl)
  cases t
  · go_enter Tryz.func49, Tryz.ntmps49
    go_upto_region 1 with (fail)
    obtain ⟨W, hW, o1, hB, hS⟩ := boxes1 w 52 [.slice af p cf, .slice aa x.a.length ca, .slice ab x.b.length cb]
    rw [← hW]
    clear hW
    have hf := hf.below hB (Nat.le_refl _)
    have fo1 := o1.free; have co10 := o1.cell 0 _ rfl; have co11 := o1.cell 1 _ rfl; have co12 := o1.cell 2 _ rfl
    go_wp2_with fail
    refine (HV.out W hf).mono ?_
    rintro e W1 ⟨_, rfl, rfl, hb1⟩
    have hB := hB.trans (hb1.mono hB.size)
    clear co10 co11 co12 fo1
    go_wp2_with fail
    go_ret
    exact ⟨_, rfl, rfl, hB⟩
  · obtain ⟨hp1, hp2⟩ := HLEN.out rfl
    by_cases hap : x.a.length = p
    · by_cases hbp : x.b.length = p
      · rw [decide_eq_true hap, decide_eq_true hbp]
        rw [hap] at HC
        rw [hbp] at HC
        rw [hap] at ha ⊢
        rw [hbp] at hb ⊢
        clear HLEN HP hap hbp hca hcb
        go_enter Tryz.func49, Tryz.ntmps49
        go_upto_region 1 with (fail)
        obtain ⟨W, hW, o1, hB, hS⟩ := boxes1 w 52 [.slice af p cf, .slice aa p ca, .slice ab p cb]
        rw [← hW]
        clear hW
        have hf := hf.below hB (Nat.le_refl _); have ha := ha.below hB (Nat.le_refl _); have hb := hb.below hB (Nat.le_refl _)
        have fo1 := o1.free; have co10 := o1.cell 0 _ rfl; have co11 := o1.cell 1 _ rfl; have co12 := o1.cell 2 _ rfl
        go_wp2_with fail
        refine (HV.out W hf).mono ?_
        rintro e W1 ⟨_, rfl, rfl, hb1⟩
        clear co10 co11 co12 fo1
        have hsW1 : W.heap.size ≤ W1.heap.size := hb1.size; have hB := hB.trans (hb1.mono hB.size); have o1 := o1.below hb1 o1.lt; have ha := ha.below hb1 (Nat.le_refl _); have hb := hb.below hb1 (Nat.le_refl _)
        have fo1 := o1.free; have co10 := o1.cell 0 _ rfl; have co11 := o1.cell 1 _ rfl; have co12 := o1.cell 2 _ rfl
        go_wp2_with fail
        obtain ⟨V, hV, o2, hBV, hSV⟩ := boxes1 W1 50 [.slice aa p ca, .slice ab p cb]
        rw [← hV]
        clear hV co10 co11 co12 fo1
        have hsV : W1.heap.size ≤ V.heap.size := hBV.size; have hB := hB.trans (hBV.mono hB.size); have ha := ha.below hBV (Nat.le_refl _); have hb := hb.below hBV (Nat.le_refl _)
        refine (HC.out _ V o2 ha hb ⟨hp1, by omega⟩ ⟨hp1, by omega⟩).mono ?_
        rintro e W2 ⟨u, rfl, hu, hb2⟩
        have hsW2 : V.heap.size ≤ W2.heap.size := hb2.size; have hB := hB.trans (hb2.mono hB.size)
        go_wp2_with fail
        refine (HQ.out _ W2 hu).mono ?_
        rintro e W3 ⟨_, rfl, rfl, hb3⟩
        have hB := hB.trans (hb3.mono hB.size)
        go_wp2_with fail
        go_ret
        exact ⟨_, rfl, rfl, hB⟩
      · rw [decide_eq_true hap, decide_eq_false hbp]
        obtain ⟨na, hna⟩ : ∃ n, x.a.length = n := ⟨_, rfl⟩
        obtain ⟨nb, hnb⟩ : ∃ n, x.b.length = n := ⟨_, rfl⟩
        rw [hna] at hap ⊢
        rw [hnb] at hbp ⊢
        subst hap
        have hne : ¬ ((nb : Int) = (na : Int)) := by omega
        clear HLEN HP HC HQ ha hb hna hnb hca hcb
        go_enter Tryz.func49, Tryz.ntmps49
        go_upto_region 1 with (fail)
        obtain ⟨W, hW, o1, hB, hS⟩ := boxes1 w 52 [.slice af na cf, .slice aa na ca, .slice ab nb cb]
        rw [← hW]
        clear hW
        have hf := hf.below hB (Nat.le_refl _)
        have fo1 := o1.free; have co10 := o1.cell 0 _ rfl; have co11 := o1.cell 1 _ rfl; have co12 := o1.cell 2 _ rfl
        go_wp2_with fail
        refine (HV.out W hf).mono ?_
        rintro e W1 ⟨_, rfl, rfl, hb1⟩
        clear co10 co11 co12 fo1
        have hsW1 : W.heap.size ≤ W1.heap.size := hb1.size; have hB := hB.trans (hb1.mono hB.size); have o1 := o1.below hb1 o1.lt
        have fo1 := o1.free; have co10 := o1.cell 0 _ rfl; have co11 := o1.cell 1 _ rfl; have co12 := o1.cell 2 _ rfl
        go_wp2_with fail
        go_ret
        exact ⟨_, rfl, rfl, hB⟩
    · rw [decide_eq_false hap]
      obtain ⟨na, hna⟩ : ∃ n, x.a.length = n := ⟨_, rfl⟩
      obtain ⟨nb, hnb⟩ : ∃ n, x.b.length = n := ⟨_, rfl⟩
      rw [hna] at hap ⊢
      rw [hnb]
      have hne : ¬ ((na : Int) = (p : Int)) := by omega
      clear HLEN HP HC HQ ha hb hna hnb hca hcb
      go_enter Tryz.func49, Tryz.ntmps49
      go_upto_region 1 with (fail)
      obtain ⟨W, hW, o1, hB, hS⟩ := boxes1 w 52 [.slice af p cf, .slice aa na ca, .slice ab nb cb]
      rw [← hW]
      clear hW
      have hf := hf.below hB (Nat.le_refl _)
      have fo1 := o1.free; have co10 := o1.cell 0 _ rfl; have co11 := o1.cell 1 _ rfl; have co12 := o1.cell 2 _ rfl
      go_wp2_with fail
      refine (HV.out W hf).mono ?_
      rintro e W1 ⟨_, rfl, rfl, hb1⟩
      clear co10 co11 co12 fo1
      have hsW1 : W.heap.size ≤ W1.heap.size := hb1.size; have hB := hB.trans (hb1.mono hB.size); have o1 := o1.below hb1 o1.lt
      have fo1 := o1.free; have co10 := o1.cell 0 _ rfl; have co11 := o1.cell 1 _ rfl; have co12 := o1.cell 2 _ rfl
      go_wp2_with fail
      go_ret
      exact ⟨_, rfl, rfl, hB⟩
end Go.Proofs.YtfkogkcpndaoeaaGreat
