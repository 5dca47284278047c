/- positive and validFreqs, of any numbers. Conditions: bits. -/
import Derived.Test.YtpnfdlnhmhekeaaGreatMKept
set_option linter.all false
namespace Go.Proofs.YtpnfdlnhmhekeaaGreat
open Go.RowKit
def posQ (x : CQ) : Bool := decide (x.im = 0) && decide (0 < qcmp x (cq 0 0 1))
theorem small_nought (k : Nat) : Small (k + 4) (cq 0 0 1) := small_mk (by omega) (Nat.two_pow_pos _) (Nat.two_pow_pos _) (Nat.one_lt_two_pow (by omega))
set_option maxRecDepth 100000 in
set_option maxHeartbeats 1600000 in
theorem positive_spec (v : Value) (x : CQ) (k : Nat) (w : World) (h : NumRep w v x) (hs : Small k x) (hk : k ≤ 100000) :
    Calls Tryz.prog 99 #[v] w (Ret w fun _ v' => v' = .bool (posQ x)) := by
  obtain ⟨s0, s2, a1, a3, a4, l1, c1, l3, c3, l4, c4, rfl⟩ := h.open
  have HRe := Lib.hid (fun v w h => real_spec v x w h)
  have HCm := Lib.hid (fun v u w h h' => ncmp_spec v u x (cq 0 0 1) (k + 4) w h h' (hs.mono (by omega)) (small_nought k) (by omega))
  unfold posQ
  generalize decide (x.im = 0) = t at *
  generalize qcmp x (cq 0 0 1) = z at *
  clear hs
  cases t
  · go_enter Tryz.func99, Tryz.ntmps99
    go_upto_region 1 with (fail)
    obtain ⟨W, hW, o1, hB, hS⟩ := boxes1 w 51 [.bool s0, .slice a1 l1 c1, .bool s2, .slice a3 l3 c3, .slice a4 l4 c4]
    rw [← hW]
    clear hW
    have h := h.below hB (Nat.le_refl _)
    have fo1 := o1.free; have co10 := o1.cell 0 _ rfl; have co11 := o1.cell 1 _ rfl; have co12 := o1.cell 2 _ rfl; have co13 := o1.cell 3 _ rfl; have co14 := o1.cell 4 _ rfl
    go_wp2_with fail
    refine (HRe.out _ W h).mono ?_
    rintro e W1 ⟨_, rfl, rfl, hb1⟩
    clear co10 co11 co12 co13 co14 fo1
    have hB := hB.trans (hb1.mono hB.size)
    go_wp2_with fail
    go_ret
    exact ⟨_, rfl, rfl, hB⟩
  · go_enter Tryz.func99, Tryz.ntmps99
    go_upto_region 1 with (fail)
    obtain ⟨W, hW, o1, hB, hS⟩ := boxes1 w 51 [.bool s0, .slice a1 l1 c1, .bool s2, .slice a3 l3 c3, .slice a4 l4 c4]
    rw [← hW]
    clear hW
    have h := h.below hB (Nat.le_refl _)
    have fo1 := o1.free; have co10 := o1.cell 0 _ rfl; have co11 := o1.cell 1 _ rfl; have co12 := o1.cell 2 _ rfl; have co13 := o1.cell 3 _ rfl; have co14 := o1.cell 4 _ rfl
    go_wp2_with fail
    refine (HRe.out _ W h).mono ?_
    rintro e W1 ⟨_, rfl, rfl, hb1⟩
    clear co10 co11 co12 co13 co14 fo1
    have hsW1 : W.heap.size ≤ W1.heap.size := hb1.size; have hB := hB.trans (hb1.mono hB.size); have o1 := o1.below hb1 o1.lt; have h := h.below hb1 (Nat.le_refl _)
    have fo1 := o1.free; have co10 := o1.cell 0 _ rfl; have co11 := o1.cell 1 _ rfl; have co12 := o1.cell 2 _ rfl; have co13 := o1.cell 3 _ rfl; have co14 := o1.cell 4 _ rfl
    go_wp2_with fail
    refine (HCm.out _ _ W1 h num_nil).mono ?_
    rintro e W2 ⟨_, rfl, rfl, hb2⟩
    have hB := hB.trans (hb2.mono hB.size)
    go_wp2_with fail
    go_ret
    exact ⟨_, rfl, by simp, hB⟩
def vfStep (l : List CQ) (i : Nat) : Bool := match l[i]? with
  | none => false
  | some x => posQ x && (decide (i = 0) || match l[i - 1]? with
    | none => false
    | some y => decide (0 < qcmp x y))
def vfB (l : List CQ) : Bool := (List.range l.length).all (vfStep l) && inR (l.length : Int) 1 1024
theorem vf_no {l : List CQ} {i : Nat} (hi : i < l.length) (h : vfStep l i = false) : vfB l = false := by
  unfold vfB
  rw [all_no (List.getElem?_range hi) h]
  rfl
theorem vf_next {l : List CQ} {i : Nat} (h : vfStep l i = true) (ha : (List.range i).all (vfStep l) = true) : (List.range (i + 1)).all (vfStep l) = true := by
  rw [List.range_succ, List.all_append, ha]
  simp [h]
theorem vfStep_pos {l : List CQ} {i : Nat} {x : CQ} (h : l[i]? = some x) (hp : posQ x = false) : vfStep l i = false := by unfold vfStep; rw [h]; simp [hp]
theorem vfStep_zero {l : List CQ} {x : CQ} (h : l[0]? = some x) (hp : posQ x = true) : vfStep l 0 = true := by unfold vfStep; rw [h]; simp [hp]
theorem vfStep_next {l : List CQ} {i : Nat} {x y : CQ} (h : l[i + 1]? = some x) (h2 : l[i]? = some y) (hp : posQ x = true) : vfStep l (i + 1) = decide (0 < qcmp x y) := by
  unfold vfStep
  rw [h]
  simp [hp, h2]
theorem NumSl.num {w : World} {a : Option Addr} {n c i : Nat} {l : List CQ} {x : CQ} (h : NumSl w (.slice a n c) l) (hi : l[i]? = some x) :
    ∃ (b o : Nat) (s0 s2 : Bool) (a1 a3 a4 : Option Addr) (l1 m1 l3 m3 l4 m4 : Nat), a = some ⟨b, o, none⟩ ∧ b < w.heap.size ∧ NumRep w (.agg #[.bool s0, .slice a1 l1 m1, .bool s2, .slice a3 l3 m3, .slice a4 l4 m4]) x ∧
      w.cell? ⟨b, o + i * 5, none⟩ = some (.bool s0) ∧ w.cell? ⟨b, o + i * 5 + 1, none⟩ = some (.slice a1 l1 m1) ∧ w.cell? ⟨b, o + i * 5 + 2, none⟩ = some (.bool s2) ∧ w.cell? ⟨b, o + i * 5 + 3, none⟩ = some (.slice a3 l3 m3) ∧ w.cell? ⟨b, o + i * 5 + 4, none⟩ = some (.slice a4 l4 m4) := by
  obtain ⟨b, o, u, e, hu, hR, hc⟩ := h.1.get hi
  have hR2 : NumRep w (.agg u.toArray) x := hR
  obtain ⟨s0, s2, a1, a3, a4, l1, m1, l3, m3, l4, m4, hx1⟩ := hR2.open
  have hv1 : u = [.bool s0, .slice a1 l1 m1, .bool s2, .slice a3 l3 m3, .slice a4 l4 m4] := by injection hx1 with h; exact List.toArray_inj h
  subst hv1
  exact ⟨b, o, s0, s2, a1, a3, a4, l1, m1, l3, m3, l4, m4, e, World.block_lt_of_cell? w _ (hc 0 _ rfl), hR2, hc 0 _ rfl, hc 1 _ rfl, hc 2 _ rfl, hc 3 _ rfl, hc 4 _ rfl⟩
set_option maxRecDepth 100000 in
set_option maxHeartbeats 3200000 in
theorem validFreqs_spec (v : Value) (l : List CQ) (k : Nat) (w : World) (h : NumSl w v l) (hs : ∀ x ∈ l, Small k x) (hk : k ≤ 100000) :
    Calls Tryz.prog 48 #[v] w (Ret w fun _ v' => v' = .bool (vfB l)) := by
  obtain ⟨n, hln⟩ : ∃ n, l.length = n := ⟨_, rfl⟩
  obtain ⟨a, c, rfl, hc, hc2, -⟩ := id h.1
  have HPo := Lib.hid (fun v x w h hx => positive_spec v x k w h (hs x hx) hk)
  have HCm := Lib.hid (fun v u x y w h h' hx hy => ncmp_spec v u x y k w h h' (hs x hx) (hs y hy) (by omega))
  have HL := Lib.hid h
  have HN := Lib.hid hln
  have HF := Lib.hid (fun i hi => vf_no (l := l) (i := i) hi)
  have HT := Lib.hid (show (List.range n).all (vfStep l) = true → vfB l = inR (n : Int) 1 1024 from fun h => by unfold vfB; rw [hln, h]; rfl)
  rw [hln] at hc ⊢
  rw [hln] at HL
  clear h hln hs
  generalize vfB l = r at *
  go_enter Tryz.func48, Tryz.ntmps48
  go_wp2_with fail
  go_loopw [7] (fun iv wr => ∃ i : Nat, i ≤ n ∧ iv = .int .i64 (i : Int) ∧ Below w.heap.size w wr ∧ Hid ((List.range i).all (vfStep l) = true)) (fun i _ => n - (intOf i).toNat)
  case atStart => exact ⟨0, by omega, rfl, Below.refl _ _, rfl⟩
  case round =>
    obtain ⟨i, hi, rfl, hB, hall⟩ := hrel
    by_cases hlt : i < n
    · obtain ⟨x, hx⟩ : ∃ x, l[i]? = some x := ⟨_, List.getElem?_eq_getElem (by have := HN.out; omega)⟩
      have HX := Lib.hid hx
      have HMX := Lib.hid (List.mem_of_getElem? hx)
      obtain ⟨b, o, s0, s2, a1, a3, a4, l1, m1, l3, m3, l4, m4, rfl, hbl, hrep, e0, e1, e2, e3, e4⟩ := (HL.out.below hB (Nat.le_refl _)).num hx
      clear hx
      cases hp : posQ x
      · have hr : r = false := HF.out i (by have := HN.out; omega) (vfStep_pos HX.out hp)
        subst hr
        have HP := Lib.hid hp
        clear hp
        go_upto_region 4 with (fail)
        obtain ⟨V, hV, o4, hBV, hSV⟩ := boxes1 wr 51 [.bool s0, .slice a1 l1 m1, .bool s2, .slice a3 l3 m3, .slice a4 l4 m4]
        rw [← hV]
        clear hV e0 e1 e2 e3 e4
        have hsV : wr.heap.size ≤ V.heap.size := hBV.size; have hB := hB.trans (hBV.mono hB.size); have hrep := hrep.below hBV (Nat.le_refl _)
        generalize wr.heap.size = g4 at *
        have fo4 := o4.free; have co40 := o4.cell 0 _ rfl; have co41 := o4.cell 1 _ rfl; have co42 := o4.cell 2 _ rfl; have co43 := o4.cell 3 _ rfl; have co44 := o4.cell 4 _ rfl
        refine wp_region_held (S := fun _ => True) (by kernel_rfl) ?_
        refine wpAnyH_ready (rs := [0]) (by kernel_rfl) (by simp) ?_; refine AllReadyH.cons (o := _) rfl (fun K hK => ?_) AllReadyH.nil; go_simp; refine hK.out _ _ trivial (fun _ => ?_); clear hK K
        refine wpAnyH_ready (rs := [1]) (by kernel_rfl) (by simp) ?_; refine AllReadyH.cons (o := _) rfl (fun K hK => ?_) AllReadyH.nil; go_simp; refine (HPo.out _ x V.drew hrep HMX.out).mono ?_; rw [HP.out]; rintro e V1 ⟨_, rfl, rfl, hb1⟩; have hB := hB.drew.trans (hb1.mono hB.size); refine hK.out _ _ trivial (fun _ => ?_); clear hK K
        refine wpAnyH_ready (rs := [2]) (by kernel_rfl) (by simp) ?_; refine AllReadyH.cons (o := _) rfl (fun K hK => ?_) AllReadyH.nil; go_simp; refine hK.out _ _ trivial (fun _ => ?_); clear hK K
        refine wpAnyH_ready (rs := [3]) (by kernel_rfl) (by simp) ?_; refine AllReadyH.cons (o := _) rfl (fun K hK => ?_) AllReadyH.nil; go_simp; refine hK.out _ _ trivial (fun _ => ?_); clear hK K
        refine wpAnyH_ready (rs := [4]) (by kernel_rfl) (by simp) ?_; refine AllReadyH.cons (o := _) rfl (fun K hK => ?_) AllReadyH.nil; go_simp; refine hK.out _ _ trivial (fun _ => ?_); clear hK K
        refine wpAnyH_ready (rs := [5]) (by kernel_rfl) (by simp) ?_; refine AllReadyH.cons (o := _) rfl (fun K hK => ?_) AllReadyH.nil; go_simp; refine hK.out _ _ trivial (fun _ => ?_); clear hK K
        refine wpAnyH_ready (rs := [6]) (by kernel_rfl) (by simp) ?_; refine AllReadyH.cons (o := _) rfl (fun K hK => ?_) AllReadyH.nil; go_simp; refine hK.out _ _ trivial (fun _ => ?_); clear hK K
        refine wpAnyH_take (i := 7) (oi := _) (v := undef) rfl (by kernel_rfl) (by kernel_rfl) (by kernel_rfl) (fun _ _ _ h => h) (Or.inr ⟨by rfl, rfl⟩) trivial ?_
        refine wpAnyH_take (i := 8) (oi := _) (v := undef) rfl (by kernel_rfl) (by kernel_rfl) (by kernel_rfl) (fun _ _ _ h => h) (Or.inr ⟨by rfl, rfl⟩) trivial ?_
        refine wpAnyH_ready (rs := [9]) (by kernel_rfl) (by simp) ?_; refine AllReadyH.cons (o := _) rfl (fun K hK => ?_) AllReadyH.nil; go_simp; refine hK.out _ _ trivial (fun _ => ?_); clear hK K
        refine wpAnyH_ready (rs := [10]) (by kernel_rfl) (by simp) ?_; refine AllReadyH.cons (o := _) rfl (fun K hK => ?_) AllReadyH.nil; go_simp; refine hK.out _ _ trivial (fun _ => ?_); clear hK K
        refine wpAnyH_ready (rs := [11]) (by kernel_rfl) (by simp) ?_; refine AllReadyH.cons (o := _) rfl (fun K hK => ?_) AllReadyH.nil; go_simp; refine hK.out _ _ trivial (fun _ => ?_); clear hK K
        refine wpAnyH_ready (rs := [12]) (by kernel_rfl) (by simp) ?_; refine AllReadyH.cons (o := _) rfl (fun K hK => ?_) AllReadyH.nil; go_simp; refine hK.out _ _ trivial (fun _ => ?_); clear hK K
        refine wpAnyH_ready (rs := [13]) (by kernel_rfl) (by simp) ?_; refine AllReadyH.cons (o := _) rfl (fun K hK => ?_) AllReadyH.nil; go_simp; refine hK.out _ _ trivial (fun _ => ?_); clear hK K
        refine wpAnyH_ready (rs := [14]) (by kernel_rfl) (by simp) ?_; refine AllReadyH.cons (o := _) rfl (fun K hK => ?_) AllReadyH.nil; go_simp; refine hK.out _ _ trivial (fun _ => ?_); clear hK K
        refine wpAnyH_ready (rs := [15]) (by kernel_rfl) (by simp) ?_; refine AllReadyH.cons (o := _) rfl (fun K hK => ?_) AllReadyH.nil; go_simp; refine hK.out _ _ trivial (fun _ => ?_); clear hK K
        refine wpAnyH_ready (rs := [16]) (by kernel_rfl) (by simp) ?_; refine AllReadyH.cons (o := _) rfl (fun K hK => ?_) AllReadyH.nil; go_simp; refine hK.out _ _ trivial (fun _ => ?_); clear hK K
        refine wpAnyH_done (by kernel_rfl) ?_ _
        go_wp2_with fail
        go_ret
        exact ⟨_, rfl, rfl, hB⟩
      · have HP := Lib.hid hp
        clear hp
        rcases Nat.eq_zero_or_pos i with rfl | hpos
        · have hnext := Lib.hid (vf_next (vfStep_zero HX.out HP.out) hall.out)
          simp only [Nat.zero_mul, Nat.add_zero] at e0 e1 e2 e3 e4
          go_upto_region 4 with (fail)
          obtain ⟨V, hV, o4, hBV, hSV⟩ := boxes1 wr 51 [.bool s0, .slice a1 l1 m1, .bool s2, .slice a3 l3 m3, .slice a4 l4 m4]
          rw [← hV]
          clear hV e0 e1 e2 e3 e4
          have hsV : wr.heap.size ≤ V.heap.size := hBV.size; have hB := hB.trans (hBV.mono hB.size); have hrep := hrep.below hBV (Nat.le_refl _)
          generalize wr.heap.size = g4 at *
          have fo4 := o4.free; have co40 := o4.cell 0 _ rfl; have co41 := o4.cell 1 _ rfl; have co42 := o4.cell 2 _ rfl; have co43 := o4.cell 3 _ rfl; have co44 := o4.cell 4 _ rfl
          refine wp_region_held (S := fun _ => True) (by kernel_rfl) ?_
          refine wpAnyH_ready (rs := [0]) (by kernel_rfl) (by simp) ?_; refine AllReadyH.cons (o := _) rfl (fun K hK => ?_) AllReadyH.nil; go_simp; refine hK.out _ _ trivial (fun _ => ?_); clear hK K
          refine wpAnyH_ready (rs := [1]) (by kernel_rfl) (by simp) ?_; refine AllReadyH.cons (o := _) rfl (fun K hK => ?_) AllReadyH.nil; go_simp; refine (HPo.out _ x V.drew hrep HMX.out).mono ?_; rw [HP.out]; rintro e V1 ⟨_, rfl, rfl, hb1⟩; have hB := hB.drew.trans (hb1.mono hB.size); refine hK.out _ _ trivial (fun _ => ?_); clear hK K
          refine wpAnyH_ready (rs := [2]) (by kernel_rfl) (by simp) ?_; refine AllReadyH.cons (o := _) rfl (fun K hK => ?_) AllReadyH.nil; go_simp; refine hK.out _ _ trivial (fun _ => ?_); clear hK K
          refine wpAnyH_ready (rs := [3]) (by kernel_rfl) (by simp) ?_; refine AllReadyH.cons (o := _) rfl (fun K hK => ?_) AllReadyH.nil; go_simp; refine hK.out _ _ trivial (fun _ => ?_); clear hK K
          refine wpAnyH_ready (rs := [4]) (by kernel_rfl) (by simp) ?_; refine AllReadyH.cons (o := _) rfl (fun K hK => ?_) AllReadyH.nil; go_simp; refine hK.out _ _ trivial (fun _ => ?_); clear hK K
          refine wpAnyH_ready (rs := [5]) (by kernel_rfl) (by simp) ?_; refine AllReadyH.cons (o := _) rfl (fun K hK => ?_) AllReadyH.nil; go_simp; refine hK.out _ _ trivial (fun _ => ?_); clear hK K
          refine wpAnyH_ready (rs := [6]) (by kernel_rfl) (by simp) ?_; refine AllReadyH.cons (o := _) rfl (fun K hK => ?_) AllReadyH.nil; go_simp; refine hK.out _ _ trivial (fun _ => ?_); clear hK K
          refine wpAnyH_take (i := 7) (oi := _) (v := undef) rfl (by kernel_rfl) (by kernel_rfl) (by kernel_rfl) (fun _ _ _ h => h) (Or.inr ⟨by rfl, rfl⟩) trivial ?_
          refine wpAnyH_take (i := 8) (oi := _) (v := undef) rfl (by kernel_rfl) (by kernel_rfl) (by kernel_rfl) (fun _ _ _ h => h) (Or.inr ⟨by rfl, rfl⟩) trivial ?_
          refine wpAnyH_ready (rs := [9]) (by kernel_rfl) (by simp) ?_; refine AllReadyH.cons (o := _) rfl (fun K hK => ?_) AllReadyH.nil; go_simp; refine hK.out _ _ trivial (fun _ => ?_); clear hK K
          refine wpAnyH_ready (rs := [10]) (by kernel_rfl) (by simp) ?_; refine AllReadyH.cons (o := _) rfl (fun K hK => ?_) AllReadyH.nil; go_simp; refine hK.out _ _ trivial (fun _ => ?_); clear hK K
          refine wpAnyH_ready (rs := [11]) (by kernel_rfl) (by simp) ?_; refine AllReadyH.cons (o := _) rfl (fun K hK => ?_) AllReadyH.nil; go_simp; refine hK.out _ _ trivial (fun _ => ?_); clear hK K
          refine wpAnyH_ready (rs := [12]) (by kernel_rfl) (by simp) ?_; refine AllReadyH.cons (o := _) rfl (fun K hK => ?_) AllReadyH.nil; go_simp; refine hK.out _ _ trivial (fun _ => ?_); clear hK K
          refine wpAnyH_ready (rs := [13]) (by kernel_rfl) (by simp) ?_; refine AllReadyH.cons (o := _) rfl (fun K hK => ?_) AllReadyH.nil; go_simp; refine hK.out _ _ trivial (fun _ => ?_); clear hK K
          refine wpAnyH_ready (rs := [14]) (by kernel_rfl) (by simp) ?_; refine AllReadyH.cons (o := _) rfl (fun K hK => ?_) AllReadyH.nil; go_simp; refine hK.out _ _ trivial (fun _ => ?_); clear hK K
          refine wpAnyH_ready (rs := [15]) (by kernel_rfl) (by simp) ?_; refine AllReadyH.cons (o := _) rfl (fun K hK => ?_) AllReadyH.nil; go_simp; refine hK.out _ _ trivial (fun _ => ?_); clear hK K
          refine wpAnyH_ready (rs := [16]) (by kernel_rfl) (by simp) ?_; refine AllReadyH.cons (o := _) rfl (fun K hK => ?_) AllReadyH.nil; go_simp; refine hK.out _ _ trivial (fun _ => ?_); clear hK K
          refine wpAnyH_done (by kernel_rfl) ?_ _
          go_wp2_with fail
          go_roundw
          case rel => exact ⟨1, by omega, by go_num, hB, hnext⟩
          case measure => simp [intOf]; omega
        · obtain ⟨j, hj⟩ : ∃ j, i = j + 1 := ⟨i - 1, by omega⟩
          obtain ⟨y, hy⟩ : ∃ y, l[j]? = some y := ⟨_, List.getElem?_eq_getElem (by have := HN.out; omega)⟩
          have HY := Lib.hid hy
          have HMY := Lib.hid (List.mem_of_getElem? hy)
          obtain ⟨b', o', t0, t2, d1, d3, d4, p1, q1, p3, q3, p4, q4, hab, -, hrep2, f0, f1, f2, f3, f4⟩ := (HL.out.below hB (Nat.le_refl _)).num hy
          injection hab with hab
          injection hab with hb1 ho1 _
          subst hb1 ho1
          have HZ : Hid (vfStep l i = decide (0 < qcmp x y)) := show _ = _ by
            have := vfStep_next (i := j) (hj ▸ HX.out) HY.out HP.out
            rwa [← hj] at this
          have hwj : IntKind.i64.wrap ((i : Int) - 1) = (j : Int) := by rw [IntKind.wrap_i64]; omega
          have hgt : (0 : Int) < (i : Int) := by omega
          have hjn : (j : Int) < (n : Int) := by omega
          have hj0 : (0 : Int) ≤ (j : Int) := by omega
          have hjn' : j < n := by omega
          clear hy hj
          go_upto_region 4 with (fail)
          obtain ⟨V, hV, o4, hBV, hSV⟩ := boxes1 wr 51 [.bool s0, .slice a1 l1 m1, .bool s2, .slice a3 l3 m3, .slice a4 l4 m4]
          rw [← hV]
          have hbw : b < wr.heap.size := World.block_lt_of_cell? wr _ e0
          replace f0 := (hBV.cell hbw).trans f0
          replace f1 := (hBV.cell hbw).trans f1
          replace f2 := (hBV.cell hbw).trans f2
          replace f3 := (hBV.cell hbw).trans f3
          replace f4 := (hBV.cell hbw).trans f4
          clear hV e0 e1 e2 e3 e4 hbw
          have hsV : wr.heap.size ≤ V.heap.size := hBV.size; have hB := hB.trans (hBV.mono hB.size); have hrep := hrep.below hBV (Nat.le_refl _); have hrep2 := hrep2.below hBV (Nat.le_refl _)
          generalize wr.heap.size = g4 at *
          have fo4 := o4.free; have co40 := o4.cell 0 _ rfl; have co41 := o4.cell 1 _ rfl; have co42 := o4.cell 2 _ rfl; have co43 := o4.cell 3 _ rfl; have co44 := o4.cell 4 _ rfl
          have lt4 := o4.lt
          have ltb : b < V.heap.size := World.block_lt_of_cell? V _ f0
          have hkV : Below V.heap.size V V.drew := (Below.refl _ _).drew
          have hr1 := hrep.below hkV (Nat.le_refl _)
          have hr2 := hrep2.below hkV (Nat.le_refl _)
          clear o4 fo4
          have Gco40 := Lib.hid co40; have Gco41 := Lib.hid co41; have Gco42 := Lib.hid co42; have Gco43 := Lib.hid co43; have Gco44 := Lib.hid co44; have Gf0 := Lib.hid f0; have Gf1 := Lib.hid f1; have Gf2 := Lib.hid f2; have Gf3 := Lib.hid f3; have Gf4 := Lib.hid f4
          have tok1 : True := trivial
          have tok2 : True := trivial
          go_region_held3 (fun w' => w'.cell? ⟨g4, 0, none⟩ = some (.bool s0) ∧ w'.cell? ⟨g4, 1, none⟩ = some (.slice a1 l1 m1) ∧ w'.cell? ⟨g4, 2, none⟩ = some (.bool s2) ∧ w'.cell? ⟨g4, 3, none⟩ = some (.slice a3 l3 m3) ∧ w'.cell? ⟨g4, 4, none⟩ = some (.slice a4 l4 m4) ∧ w'.cell? ⟨b, o + j * 5, none⟩ = some (.bool t0) ∧ w'.cell? ⟨b, o + j * 5 + 1, none⟩ = some (.slice d1 p1 q1) ∧ w'.cell? ⟨b, o + j * 5 + 2, none⟩ = some (.bool t2) ∧ w'.cell? ⟨b, o + j * 5 + 3, none⟩ = some (.slice d3 p3 q3) ∧ w'.cell? ⟨b, o + j * 5 + 4, none⟩ = some (.slice d4 p4 q4)) (first | (with_reducible exact ⟨co40, co41, co42, co43, co44, f0, f1, f2, f3, f4⟩) | (simp [go_sem, co40, co41, co42, co43, co44, f0, f1, f2, f3, f4, lt4, ltb]; done)) (first
            | (go_simp; go_at_call 99; have _t := tok1; (with_reducible refine (HPo.out _ x V.drew hr1 HMX.out).mono ?_); rw [HP.out]; rintro e V1 ⟨_, rfl, rfl, hb1⟩; have hbb1 : Below V.heap.size V V1 := hkV.trans hb1; have hr1 := hr1.below hb1 (Nat.le_refl _); have hr2 := hr2.below hb1 (Nat.le_refl _); have co40 := (hbb1.cell (World.block_lt_of_cell? V _ Gco40.out)).trans Gco40.out; have co41 := (hbb1.cell (World.block_lt_of_cell? V _ Gco41.out)).trans Gco41.out; have co42 := (hbb1.cell (World.block_lt_of_cell? V _ Gco42.out)).trans Gco42.out; have co43 := (hbb1.cell (World.block_lt_of_cell? V _ Gco43.out)).trans Gco43.out; have co44 := (hbb1.cell (World.block_lt_of_cell? V _ Gco44.out)).trans Gco44.out; have f0 := (hbb1.cell (World.block_lt_of_cell? V _ Gf0.out)).trans Gf0.out; have f1 := (hbb1.cell (World.block_lt_of_cell? V _ Gf1.out)).trans Gf1.out; have f2 := (hbb1.cell (World.block_lt_of_cell? V _ Gf2.out)).trans Gf2.out; have f3 := (hbb1.cell (World.block_lt_of_cell? V _ Gf3.out)).trans Gf3.out; have f4 := (hbb1.cell (World.block_lt_of_cell? V _ Gf4.out)).trans Gf4.out; have lt4 := World.block_lt_of_cell? V1 _ co40; have ltb := World.block_lt_of_cell? V1 _ f0; clear tok1 _t)
            | (go_simp; go_at_call 38; have _t := tok2; (with_reducible refine (HCm.out _ _ x y V1 hr1 hr2 HMX.out HMY.out).mono ?_); rintro e V2 ⟨_, rfl, rfl, hb2⟩; have hbb2 : Below V.heap.size V V2 := hbb1.trans (hb2.mono hbb1.size); have co40 := (hbb2.cell (World.block_lt_of_cell? V _ Gco40.out)).trans Gco40.out; have co41 := (hbb2.cell (World.block_lt_of_cell? V _ Gco41.out)).trans Gco41.out; have co42 := (hbb2.cell (World.block_lt_of_cell? V _ Gco42.out)).trans Gco42.out; have co43 := (hbb2.cell (World.block_lt_of_cell? V _ Gco43.out)).trans Gco43.out; have co44 := (hbb2.cell (World.block_lt_of_cell? V _ Gco44.out)).trans Gco44.out; have f0 := (hbb2.cell (World.block_lt_of_cell? V _ Gf0.out)).trans Gf0.out; have f1 := (hbb2.cell (World.block_lt_of_cell? V _ Gf1.out)).trans Gf1.out; have f2 := (hbb2.cell (World.block_lt_of_cell? V _ Gf2.out)).trans Gf2.out; have f3 := (hbb2.cell (World.block_lt_of_cell? V _ Gf3.out)).trans Gf3.out; have f4 := (hbb2.cell (World.block_lt_of_cell? V _ Gf4.out)).trans Gf4.out; have lt4 := World.block_lt_of_cell? V2 _ co40; have ltb := World.block_lt_of_cell? V2 _ f0; clear tok2 _t))
          have hB3 := hB.trans (hbb2.mono hB.size)
          generalize qcmp x y = z at *
          by_cases hz : 0 < z
          · have hnext := Lib.hid (vf_next (HZ.out.trans (decide_eq_true hz)) hall.out)
            have hz' : ¬ z ≤ 0 := by omega
            go_wp2_with fail
            go_roundw
            case rel => exact ⟨i + 1, by omega, by go_num, hB3, hnext⟩
            case measure => simp [intOf]; omega
          · have hr : r = false := HF.out i (by have := HN.out; omega) (HZ.out.trans (decide_eq_false hz))
            subst hr
            have hz' : z ≤ 0 := by omega
            go_wp2_with fail
            go_ret
            exact ⟨_, rfl, rfl, hB3⟩
    · obtain rfl : i = n := by omega
      have hr := HT.out hall.out
      subst hr
      go_wp2_with (refine (inRange_spec _ _ _ _).mono ?_; rintro e w' ⟨rfl, rfl⟩)
      go_ret
      exact ⟨_, rfl, rfl, hB⟩
end Go.Proofs.YtpnfdlnhmhekeaaGreat
