/- The reference's nearest complex64: Near64. Conditions: fewer than 2^30 bits. A frame's scale as a float64: exact. Conditions: the scale is a number above 0. -/
import Derived.Test.YtfkogkcpndaoeaaGreatMFloatR
import Derived.Test.YtfkogkcpndaoeaaGreatMRFloatC
import Derived.Test.YtfkogkcpndaoeaaGreatMRec
import Derived.Laws.ComplexArith
set_option linter.all false
namespace Go.Proofs.YtfkogkcpndaoeaaGreat
open Go.RowKit
def CW32 (x : CQ) (R I : Nat) : Prop := ∃ (a b : Int) (d : Nat), Low a b d ∧ x = cq a b d ∧ IsW32 a d R ∧ IsW32 b d I
theorem CW32.unique {x : CQ} {R I R' I' : Nat} (h : CW32 x R I) (h' : CW32 x R' I') : R = R' ∧ I = I' := by
  obtain ⟨a, b, d, h1, rfl, h3, h4⟩ := h
  obtain ⟨a', b', d', k1, e, k3, k4⟩ := h'
  obtain ⟨rfl, rfl, rfl⟩ := low_unique h1 k1 e
  exact ⟨h3.unique h1.1 k3, h4.unique h1.1 k4⟩
set_option maxRecDepth 100000 in
set_option maxHeartbeats 1600000 in
theorem near64_spec (v : Value) (x : CQ) (k : Nat) (w : World) (h : QRep w v x) (hs : Small k x) (hk : k ≤ 1073741824) :
    Calls Tryz.prog 43 #[v] w (Ret w fun _ v' => ∃ R I, v' = .complex .f32 R I ∧ CW32 x R I) := by
  obtain ⟨a, b, d, s1, s2, a1, a2, a3, l1, c1, l2, c2, l3, c3, H⟩ := h.all
  obtain ⟨rfl, wa, wb, -, -, nd, low, rfl, -, -, -, -⟩ := H
  obtain ⟨hs1, hs2, hs3⟩ := hs.low low
  have F1 := Lib.hid (fun v u w h h' => rnearest_spec v u a d k w h h' low.1 hs1 hs3 hk)
  have F2 := Lib.hid (fun v u w h h' => rnearest_spec v u b d k w h h' low.1 hs2 hs3 hk)
  have HL := Lib.hid low
  clear h hs hs1 hs2 hs3 low
  go_enter Tryz.func43, Tryz.ntmps43
  go_upto_region 1 with (fail)
  obtain ⟨W, hW, o1, hB, hS⟩ := boxes1 w 46 [.bool s1, .slice a1 l1 c1, .bool s2, .slice a2 l2 c2, .slice a3 l3 c3]
  rw [← hW]
  clear hW
  have wa := wa.below hB (Nat.le_refl _); have wb := wb.below hB (Nat.le_refl _); have nd := nd.below hB (Nat.le_refl _)
  have qo10 := o1.cell 0 _ rfl; have qo11 := o1.cell 1 _ rfl; have qo12 := o1.cell 2 _ rfl; have qo13 := o1.cell 3 _ rfl; have qo14 := o1.cell 4 _ rfl
  have o1 : Own W.drew _ _ _ := o1; have lto1 : _ < W.heap.size := o1.lt; have hB := hB.drew
  have wa := wa.below ((Below.refl W.heap.size W).drew) (Nat.le_refl _); have wb := wb.below ((Below.refl W.heap.size W).drew) (Nat.le_refl _); have nd := nd.below ((Below.refl W.heap.size W).drew) (Nat.le_refl _)
  have tok1 : True := trivial
  have tok2 : True := trivial
  go_region_held3 (fun w' => w'.cell? ⟨w.heap.size, 0, none⟩ = some (.bool s1) ∧ w'.cell? ⟨w.heap.size, 1, none⟩ = some (.slice a1 l1 c1) ∧ w'.cell? ⟨w.heap.size, 2, none⟩ = some (.bool s2) ∧ w'.cell? ⟨w.heap.size, 3, none⟩ = some (.slice a2 l2 c2) ∧ w'.cell? ⟨w.heap.size, 4, none⟩ = some (.slice a3 l3 c3)) (first | (with_reducible exact ⟨o1.cell 0 _ rfl, o1.cell 1 _ rfl, o1.cell 2 _ rfl, o1.cell 3 _ rfl, o1.cell 4 _ rfl⟩) | (simp [go_sem, qo10, qo11, qo12, qo13, qo14, lto1]; done))
    (first
      | (go_at_call 93; have _t := tok1; refine (F1.out _ _ _ wa nd).mono ?_; rintro e W1 ⟨_, rfl, ⟨A1, rfl, hA1⟩, hb1⟩; have hsW1 : W.heap.size ≤ W1.heap.size := hb1.size; have hB := hB.trans (hb1.mono hB.size); have o1 := o1.below hb1 o1.lt; have lto1 := o1.lt; have qo10 := o1.cell 0 _ rfl; have qo11 := o1.cell 1 _ rfl; have qo12 := o1.cell 2 _ rfl; have qo13 := o1.cell 3 _ rfl; have qo14 := o1.cell 4 _ rfl; have wa := wa.below hb1 (Nat.le_refl _); have wb := wb.below hb1 (Nat.le_refl _); have nd := nd.below hb1 (Nat.le_refl _); obtain ⟨R1, hR1, hc1⟩ := near_narrow hA1; clear tok1 _t)
      | (go_at_call 93; have _t := tok2; refine (F2.out _ _ _ wb nd).mono ?_; rintro e W2 ⟨_, rfl, ⟨A2, rfl, hA2⟩, hb2⟩; have hsW2 : W1.heap.size ≤ W2.heap.size := hb2.size; have hB := hB.trans (hb2.mono hB.size); have o1 := o1.below hb2 o1.lt; have lto1 := o1.lt; have qo10 := o1.cell 0 _ rfl; have qo11 := o1.cell 1 _ rfl; have qo12 := o1.cell 2 _ rfl; have qo13 := o1.cell 3 _ rfl; have qo14 := o1.cell 4 _ rfl; have wa := wa.below hb2 (Nat.le_refl _); have wb := wb.below hb2 (Nat.le_refl _); have nd := nd.below hb2 (Nat.le_refl _); obtain ⟨R2, hR2, hc2⟩ := near_narrow hA2; clear tok2 _t))
  go_wp2_with fail
  go_ret
  exact ⟨_, rfl, ⟨R1, R2, rfl, a, b, d, HL.out, rfl, hR1, hR2⟩, hB⟩
end Go.Proofs.YtfkogkcpndaoeaaGreat
namespace Go.Proofs.YtfkogkcpndaoeaaGreat
open Go.RowKit
theorem read_zero : Ieee.single.read 0 = .number false 0 (-149) := by decide
theorem read_top : Ieee.single.read 2139095039 = .number false 16777215 104 := by decide
theorem double_parts (K : Nat) (e : Int) (hK : 0 < K) (hK2 : K ≤ 16777216) (he : -149 ≤ e) (he2 : e ≤ 200) : ∃ p m, Ieee.double.nearest false K e = (p + 1) * 4503599627370496 + m ∧ m < 4503599627370496 ∧ p ≤ 2000 ∧ SameVal K e (4503599627370496 + m) ((p : Int) - 1074) := by
  obtain ⟨j, hj1, hj2⟩ : ∃ j : Nat, 2 ^ 52 ≤ K * 2 ^ j ∧ K * 2 ^ j < 2 ^ 53 := by
    have h2 : K.log2 ≤ 24 := by
      rcases Nat.lt_or_ge 24 K.log2 with h | h
      · have h3 : 2 ^ K.log2 ≤ K := Nat.log2_self_le (by omega)
        have : 2 ^ 25 ≤ 2 ^ K.log2 := Nat.pow_le_pow_right (by omega) h
        omega
      · exact h
    refine ⟨52 - K.log2, ?_, ?_⟩
    · calc 2 ^ 52 = 2 ^ (K.log2 + (52 - K.log2)) := by congr 1; omega
        _ = 2 ^ K.log2 * 2 ^ (52 - K.log2) := Nat.pow_add ..
        _ ≤ _ := Nat.mul_le_mul_right _ (Nat.log2_self_le (by omega))
    · calc K * 2 ^ (52 - K.log2) < 2 ^ (K.log2 + 1) * 2 ^ (52 - K.log2) := Nat.mul_lt_mul_of_pos_right Nat.lt_log2_self (Nat.two_pow_pos _)
        _ = 2 ^ (K.log2 + 1 + (52 - K.log2)) := (Nat.pow_add ..).symm
        _ = 2 ^ 53 := by congr 1; omega
  have hj53 : j < 53 := by
    rcases Nat.lt_or_ge j 53 with h | h
    · exact h
    · have h1 : 2 ^ 53 ≤ 2 ^ j := Nat.pow_le_pow_right (by omega) h
      have h2 : 1 * 2 ^ j ≤ K * 2 ^ j := Nat.mul_le_mul_right _ hK
      omega
  have hs : SameVal K e (K * 2 ^ j) (e - j) := ⟨j, 0, by simp, by omega⟩
  have hd := nearest_same Ieee.double false hs
  obtain ⟨x, hx⟩ : ∃ x, x = K * 2 ^ j := ⟨_, rfl⟩
  rw [← hx] at hj1 hj2 hs hd
  have hw := nearest_digits Ieee.double false (e - j) x (by rw [p53]; omega) (by rw [lp_double]; omega) (.inl (by rw [p52]; omega))
  obtain ⟨p, hp⟩ : ∃ p : Nat, (p : Int) = e - j + 1074 := ⟨(e - j + 1074).toNat, by omega⟩
  obtain ⟨m, hm⟩ : ∃ m, x = 4503599627370496 + m := ⟨x - 4503599627370496, by omega⟩
  have hg : e - j = (p : Int) - 1074 := by omega
  have hm2 : m < 4503599627370496 := by omega
  rw [hg] at hw hs hd
  rw [rung_mid hm hm2 (by omega), word_false] at hw
  rw [hm] at hs
  exact ⟨p, m, by rw [hd, hw], hm2, by omega, hs⟩
theorem parts_exp {p m : Nat} (hm : m < 4503599627370496) (hp : p ≤ 2000) : fexp ((p + 1) * 4503599627370496 + m) = p + 1 := by
  unfold fexp
  rw [show (p + 1) * 4503599627370496 + m = 4503599627370496 * (p + 1) + m by rw [Nat.mul_comm], Nat.mul_add_div (by omega), Nat.div_eq_of_lt hm, Nat.mod_eq_of_lt (by omega), Nat.add_zero]
theorem parts_lt {p m : Nat} (hm : m < 4503599627370496) (hp : p ≤ 2000) : (p + 1) * 4503599627370496 + m < 9223372036854775808 := by
  have h4 := Nat.mul_le_mul_right 4503599627370496 (show p + 1 ≤ 2001 by omega)
  omega
theorem parts_fq {p m : Nat} (hm : m < 4503599627370496) (hp : p ≤ 2000) : fq ((p + 1) * 4503599627370496 + m) = ((((4503599627370496 + m : Nat) : Int) * (2 ^ p : Nat) : Int) : Rat) / (((2 ^ 1074 : Nat) : Int) : Rat) := by
  have h1 := parts_exp hm hp
  have h2 := parts_lt hm hp
  have h3 : ((p + 1) * 4503599627370496 + m) % 4503599627370496 = m := by
    rw [show (p + 1) * 4503599627370496 + m = 4503599627370496 * (p + 1) + m by rw [Nat.mul_comm], Nat.mul_add_mod, Nat.mod_eq_of_lt hm]
  generalize (p + 1) * 4503599627370496 + m = S at *
  have h4 : fneg S = false := by unfold fneg; rw [Nat.div_eq_of_lt h2]; rfl
  have h5 : fman S = 4503599627370496 + m := by unfold fman; rw [h1, if_neg (by omega), h3, Nat.add_comm]
  have h6 : fup S = p := by unfold fup; rw [h1]; omega
  unfold fq fz
  rw [h4, h5, h6]
  rfl
theorem parts_read {p m : Nat} (hm : m < 4503599627370496) (hp : p ≤ 2000) : Ieee.double.read ((p + 1) * 4503599627370496 + m) = .number false (4503599627370496 + m) ((p : Int) - 1074) := by
  have h := read_word Ieee.double false ((p : Int) - 1074) (4503599627370496 + m) (by rw [p53]; omega) (by rw [lp_double]; omega) (.inl (by rw [p52]; omega)) (by
    rw [lp_double, bin_double, inf_double, show ((p : Int) - 1074 - -1074).toNat = p by omega]
    have h4 := Nat.mul_le_mul_right 4503599627370496 hp
    omega)
  rw [rung_mid rfl hm (by omega), word_false] at h
  exact h
theorem ord_le {a b : Int} (h : a ≤ b) : (some (compare a b) == some Ordering.gt) = false := by
  have : compare a b ≠ .gt := by rw [ne_eq, Int.compare_eq_gt]; omega
  cases hc : compare a b <;> simp_all
theorem parts_fin {p m : Nat} (hm : m < 4503599627370496) (hp : p ≤ 2000) : Fin ((p + 1) * 4503599627370496 + m) := by
  have h2 := parts_lt hm hp
  have hr := parts_read hm hp
  generalize (p + 1) * 4503599627370496 + m = S at *
  have hmax : Ieee.double.read 9218868437227405311 = .number false 9007199254740991 971 := by kernel_rfl
  refine ⟨by omega, ⟨S, ?_, ?_⟩, ?_⟩
  · rw [show (9223372036854775808 : Int) = ((9223372036854775808 : Nat) : Int) from rfl, u64_andNot_nat S 9223372036854775808 (by omega) (by omega), show 18446744073709551615 - 9223372036854775808 = 2 ^ 63 - 1 from rfl, Nat.and_two_pow_sub_one_eq_mod, Nat.mod_eq_of_lt (by omega)]
  · show ((Ieee.double.read S).order (Ieee.double.read 9218868437227405311) == some .gt) = false
    rw [hr, hmax]
    unfold Ieee.Datum.order
    dsimp only
    refine ord_le ?_
    rw [show min ((p : Int) - 1074) 971 = (p : Int) - 1074 by omega]
    unfold Ieee.signed
    simp only [Bool.false_eq_true, if_false, Int.sub_self, Int.toNat_zero, Nat.shiftLeft_zero]
    rw [Nat.shiftLeft_eq]
    have h3 := Nat.mul_le_mul_left 9007199254740991 (Nat.two_pow_pos ((971 : Int) - ((p : Int) - 1074)).toNat)
    generalize 2 ^ ((971 : Int) - ((p : Int) - 1074)).toNat = t at *
    omega
  · show ((Ieee.double.read S).order (Ieee.double.read S) == some .eq) = true
    rw [hr]
    unfold Ieee.Datum.order
    dsimp only
    rw [beq_iff_eq, Option.some.injEq, Int.compare_eq_eq]
theorem widens1 {s S : Nat} (h : floatToFloatBits .f32 s .f64 = some S) : Widens1 s S := fun w => run_convert_float_float w _ _ .f32 .f64 s S (by rw [Tryz.underlying31]; rfl) Tryz.underlying169 h
theorem widens2 {s S : Nat} (h : floatToFloatBits .f32 s .f64 = some S) : Widens s 0 S 0 := fun w => run_convert_complex w _ _ .f32 .f64 s 0 S 0 (by rw [Tryz.underlying105]; rfl) Tryz.underlying186 (by
  unfold cConvBits
  rw [h, show floatToFloatBits .f32 0 .f64 = some 0 by decide]
  rfl)
theorem SameVal.times {x y u v : Nat} {e f g : Int} (h : SameVal x e y f) (k : Nat) (i : Int) : SameVal (x * k) (e + i) (y * k) (f + i) := by
  obtain ⟨a, b, h1, h2⟩ := h
  refine ⟨a, b, ?_, by omega⟩
  rw [Nat.mul_right_comm, h1, Nat.mul_right_comm]
def mulW (x : Int) (s : Nat) : Nat := (Ieee.single.mul (floatOfInt .f32 x) s).getD 0
theorem mul_zero {s mag : Nat} {place : Int} (hr : Ieee.single.read s = .number false mag place) : Ieee.single.mul (floatOfInt .f32 0) s = some 0 := by
  unfold Ieee.Format.mul
  rw [hr, show floatOfInt .f32 0 = 0 by decide, read_zero]
  simp only [Ieee.Datum.product, Option.map_some, Ieee.Format.write, Nat.zero_mul]
  rfl
end Go.Proofs.YtfkogkcpndaoeaaGreat
