/- The reference's nearest complex64: Near64. Conditions: fewer than 2^30 bits. A frame's scale as a float64: exact. Conditions: the scale is a number above 0. -/
import Derived.Test.YtohnlmfmpflbpaaGreatMFloatR
import Derived.Test.YtohnlmfmpflbpaaGreatMRFloatC
import Derived.Test.YtohnlmfmpflbpaaGreatMRec
import Derived.Laws.ComplexArith
set_option linter.unusedSimpArgs false
set_option linter.unusedVariables false
set_option linter.all false
namespace Go.Proofs.YtohnlmfmpflbpaaGreat
open Go.RowKit

/-- The words nearest to the parts of a number. -/
def CW32 (x : CQ) (R I : Nat) : Prop := ∃ (a b : Int) (d : Nat), Low a b d ∧ x = cq a b d ∧ IsW32 a d R ∧ IsW32 b d I
theorem CW32.unique {x : CQ} {R I R' I' : Nat} (h : CW32 x R I) (h' : CW32 x R' I') : R = R' ∧ I = I' := by
  obtain ⟨a, b, d, h1, rfl, h3, h4⟩ := h
  obtain ⟨a', b', d', k1, e, k3, k4⟩ := h'
  obtain ⟨rfl, rfl, rfl⟩ := low_unique h1 k1 e
  exact ⟨h3.unique h1.1 k3, h4.unique h1.1 k4⟩

set_option maxRecDepth 100000 in
set_option maxHeartbeats 1600000 in
theorem near64_spec (v : Value) (x : CQ) (k : Nat) (w : World) (h : QRep w v x) (hs : Small k x) (hk : k ≤ 1073741824) :
    Calls Tryz.prog 45 #[v] w (Ret w fun _ v' => ∃ R I, v' = .complex .f32 R I ∧ CW32 x R I) := by
  obtain ⟨a, b, d, s1, s2, a1, a2, a3, l1, c1, l2, c2, l3, c3, H⟩ := h.all
  obtain ⟨rfl, wa, wb, -, -, nd, low, rfl, -, -, -, -⟩ := H
  obtain ⟨hs1, hs2, hs3⟩ := hs.low low
  have F1 := Lib.hid (fun v u w h h' => rnearest_spec v u a d k w h h' low.1 hs1 hs3 hk)
  have F2 := Lib.hid (fun v u w h h' => rnearest_spec v u b d k w h h' low.1 hs2 hs3 hk)
  have HL := Lib.hid low
  clear h hs hs1 hs2 hs3 low
  go_enter Tryz.func45, Tryz.ntmps45
  go_upto_region 1 with (fail)
  obtain ⟨W, hW, o1, hB, hS⟩ := boxes1 w 105 [.bool s1, .slice a1 l1 c1, .bool s2, .slice a2 l2 c2, .slice a3 l3 c3]
  rw [← hW]
  clear hW
  have wa := wa.below hB (Nat.le_refl _); have wb := wb.below hB (Nat.le_refl _); have nd := nd.below hB (Nat.le_refl _)
  have qo10 := o1.cell 0 _ rfl; have qo11 := o1.cell 1 _ rfl; have qo12 := o1.cell 2 _ rfl; have qo13 := o1.cell 3 _ rfl; have qo14 := o1.cell 4 _ rfl
  have o1 : Own W.drew _ _ _ := o1; have lto1 : _ < W.heap.size := o1.lt; have hB := hB.drew
  have wa := wa.below ((Below.refl W.heap.size W).drew) (Nat.le_refl _); have wb := wb.below ((Below.refl W.heap.size W).drew) (Nat.le_refl _); have nd := nd.below ((Below.refl W.heap.size W).drew) (Nat.le_refl _)
  have tok1 : True := trivial
  have tok2 : True := trivial
  go_region_held3 (fun w' => w'.cell? ⟨w.heap.size, 0, none⟩ = some (.bool s1) ∧ w'.cell? ⟨w.heap.size, 1, none⟩ = some (.slice a1 l1 c1) ∧ w'.cell? ⟨w.heap.size, 2, none⟩ = some (.bool s2) ∧ w'.cell? ⟨w.heap.size, 3, none⟩ = some (.slice a2 l2 c2) ∧ w'.cell? ⟨w.heap.size, 4, none⟩ = some (.slice a3 l3 c3)) (first | (with_reducible exact ⟨o1.cell 0 _ rfl, o1.cell 1 _ rfl, o1.cell 2 _ rfl, o1.cell 3 _ rfl, o1.cell 4 _ rfl⟩) | (simp [go_sem, qo10, qo11, qo12, qo13, qo14, lto1]; done))
    (first
      | (go_at_call 71; have _t := tok1; refine (F1.out _ _ _ wa nd).mono ?_; rintro e W1 ⟨_, rfl, ⟨A1, rfl, hA1⟩, hb1⟩; have hsW1 : W.heap.size ≤ W1.heap.size := hb1.size; have hB := hB.trans (hb1.mono hB.size); have o1 := o1.below hb1 o1.lt; have lto1 := o1.lt; have qo10 := o1.cell 0 _ rfl; have qo11 := o1.cell 1 _ rfl; have qo12 := o1.cell 2 _ rfl; have qo13 := o1.cell 3 _ rfl; have qo14 := o1.cell 4 _ rfl; have wa := wa.below hb1 (Nat.le_refl _); have wb := wb.below hb1 (Nat.le_refl _); have nd := nd.below hb1 (Nat.le_refl _); obtain ⟨R1, hR1, hc1⟩ := near_narrow hA1; clear tok1 _t)
      | (go_at_call 71; have _t := tok2; refine (F2.out _ _ _ wb nd).mono ?_; rintro e W2 ⟨_, rfl, ⟨A2, rfl, hA2⟩, hb2⟩; have hsW2 : W1.heap.size ≤ W2.heap.size := hb2.size; have hB := hB.trans (hb2.mono hB.size); have o1 := o1.below hb2 o1.lt; have lto1 := o1.lt; have qo10 := o1.cell 0 _ rfl; have qo11 := o1.cell 1 _ rfl; have qo12 := o1.cell 2 _ rfl; have qo13 := o1.cell 3 _ rfl; have qo14 := o1.cell 4 _ rfl; have wa := wa.below hb2 (Nat.le_refl _); have wb := wb.below hb2 (Nat.le_refl _); have nd := nd.below hb2 (Nat.le_refl _); obtain ⟨R2, hR2, hc2⟩ := near_narrow hA2; clear tok2 _t))
  go_wp2_with fail
  go_ret
  exact ⟨_, rfl, ⟨R1, R2, rfl, a, b, d, HL.out, rfl, hR1, hR2⟩, hB⟩
end Go.Proofs.YtohnlmfmpflbpaaGreat

namespace Go.Proofs.YtohnlmfmpflbpaaGreat
open Go.RowKit

theorem read_zero : Ieee.single.read 0 = .number false 0 (-149) := by decide
theorem read_top : Ieee.single.read 2139095039 = .number false 16777215 104 := by decide

/-- What a scale reads as. -/
theorem scale_read {s : Nat} (h : scaleOK s = true) : ∃ mag place, Ieee.single.read s = .number false mag place ∧ 0 < mag ∧ mag < 16777216 ∧ -149 ≤ place ∧ place ≤ 110 := by
  unfold scaleOK at h
  rw [Bool.and_eq_true] at h
  obtain ⟨h1, h2⟩ := h
  have o1 : FloatKind.f32.format.order s 0 = (Ieee.single.read s).order (.number false 0 (-149)) := by rw [← read_zero]; rfl
  have o2 : FloatKind.f32.format.order s 2139095039 = (Ieee.single.read s).order (.number false 16777215 104) := by rw [← read_top]; rfl
  rw [o1] at h1
  rw [o2] at h2
  clear o1 o2
  have hr : Ieee.single.read s = (if s % Ieee.single.signWeight < Ieee.single.binade then .number (s / Ieee.single.signWeight % 2 == 1) (s % Ieee.single.signWeight) Ieee.single.leastPlace else if s % Ieee.single.signWeight < Ieee.single.infRung then .number (s / Ieee.single.signWeight % 2 == 1) (Ieee.single.binade + s % Ieee.single.signWeight % Ieee.single.binade) (Ieee.single.leastPlace + (s % Ieee.single.signWeight / Ieee.single.binade - 1 : Nat)) else if s % Ieee.single.signWeight = Ieee.single.infRung then .infinity (s / Ieee.single.signWeight % 2 == 1) else .nan (s / Ieee.single.signWeight % 2 == 1) (s % Ieee.single.signWeight - Ieee.single.infRung)) := rfl
  rw [lp_single, bin_single, inf_single] at hr
  generalize s % Ieee.single.signWeight = r at *
  generalize (s / Ieee.single.signWeight % 2 == 1) = neg at *
  rw [hr] at h1 h2 ⊢
  clear hr
  have key : ∀ (m : Nat) (e : Int), ((Ieee.Datum.number neg m e).order (.number false 0 (-149)) == some .gt) = true → neg = false ∧ 0 < m := by
    intro m e h
    unfold Ieee.Datum.order at h
    simp only [beq_iff_eq, Option.some.injEq] at h
    rw [Int.compare_eq_gt] at h
    unfold Ieee.signed at h
    simp only [Bool.false_eq_true, if_false, Nat.zero_shiftLeft] at h
    cases neg with
    | true =>
      simp only [if_true] at h
      generalize m <<< _ = t at h
      omega
    | false =>
      refine ⟨rfl, ?_⟩
      rcases Nat.eq_zero_or_pos m with h0 | h0
      · subst h0; simp at h
      · exact h0
  by_cases c1 : r < 8388608
  · rw [if_pos c1] at h1 ⊢
    obtain ⟨rfl, h0⟩ := key _ _ h1
    exact ⟨_, _, rfl, h0, by omega, by omega, by omega⟩
  · rw [if_neg c1] at h1 h2 ⊢
    by_cases c2 : r < 2139095040
    · rw [if_pos c2] at h1 ⊢
      obtain ⟨rfl, h0⟩ := key _ _ h1
      exact ⟨_, _, rfl, h0, by omega, by omega, by omega⟩
    · rw [if_neg c2] at h1 h2 ⊢
      exfalso
      by_cases c3 : r = 2139095040
      · rw [if_pos c3] at h1 h2
        cases neg with
        | true => revert h1; decide
        | false => revert h2; decide
      · rw [if_neg c3] at h1
        simp [Ieee.Datum.order] at h1

/-- The float64 of a float32's digits. -/
theorem double_parts (K : Nat) (e : Int) (hK : 0 < K) (hK2 : K ≤ 16777216) (he : -149 ≤ e) (he2 : e ≤ 200) : ∃ p m, Ieee.double.nearest false K e = (p + 1) * 4503599627370496 + m ∧ m < 4503599627370496 ∧ p ≤ 2000 ∧ SameVal K e (4503599627370496 + m) ((p : Int) - 1074) := by
  obtain ⟨j, hj1, hj2⟩ : ∃ j : Nat, 2 ^ 52 ≤ K * 2 ^ j ∧ K * 2 ^ j < 2 ^ 53 := by
    have h2 : K.log2 ≤ 24 := by
      rcases Nat.lt_or_ge 24 K.log2 with h | h
      · have h3 : 2 ^ K.log2 ≤ K := Nat.log2_self_le (by omega)
        have : 2 ^ 25 ≤ 2 ^ K.log2 := Nat.pow_le_pow_right (by omega) h
        omega
      · exact h
    refine ⟨52 - K.log2, ?_, ?_⟩
    · calc 2 ^ 52 = 2 ^ (K.log2 + (52 - K.log2)) := by congr 1; omega
        _ = 2 ^ K.log2 * 2 ^ (52 - K.log2) := Nat.pow_add ..
        _ ≤ _ := Nat.mul_le_mul_right _ (Nat.log2_self_le (by omega))
    · calc K * 2 ^ (52 - K.log2) < 2 ^ (K.log2 + 1) * 2 ^ (52 - K.log2) := Nat.mul_lt_mul_of_pos_right Nat.lt_log2_self (Nat.two_pow_pos _)
        _ = 2 ^ (K.log2 + 1 + (52 - K.log2)) := (Nat.pow_add ..).symm
        _ = 2 ^ 53 := by congr 1; omega
  have hj53 : j < 53 := by
    rcases Nat.lt_or_ge j 53 with h | h
    · exact h
    · have h1 : 2 ^ 53 ≤ 2 ^ j := Nat.pow_le_pow_right (by omega) h
      have h2 : 1 * 2 ^ j ≤ K * 2 ^ j := Nat.mul_le_mul_right _ hK
      omega
  have hs : SameVal K e (K * 2 ^ j) (e - j) := ⟨j, 0, by simp, by omega⟩
  have hd := nearest_same Ieee.double false hs
  obtain ⟨x, hx⟩ : ∃ x, x = K * 2 ^ j := ⟨_, rfl⟩
  rw [← hx] at hj1 hj2 hs hd
  have hw := nearest_digits Ieee.double false (e - j) x (by rw [p53]; omega) (by rw [lp_double]; omega) (.inl (by rw [p52]; omega))
  obtain ⟨p, hp⟩ : ∃ p : Nat, (p : Int) = e - j + 1074 := ⟨(e - j + 1074).toNat, by omega⟩
  obtain ⟨m, hm⟩ : ∃ m, x = 4503599627370496 + m := ⟨x - 4503599627370496, by omega⟩
  have hg : e - j = (p : Int) - 1074 := by omega
  have hm2 : m < 4503599627370496 := by omega
  rw [hg] at hw hs hd
  rw [rung_mid hm hm2 (by omega), word_false] at hw
  rw [hm] at hs
  exact ⟨p, m, by rw [hd, hw], hm2, by omega, hs⟩

theorem parts_exp {p m : Nat} (hm : m < 4503599627370496) (hp : p ≤ 2000) : fexp ((p + 1) * 4503599627370496 + m) = p + 1 := by
  unfold fexp
  rw [show (p + 1) * 4503599627370496 + m = 4503599627370496 * (p + 1) + m by rw [Nat.mul_comm], Nat.mul_add_div (by omega), Nat.div_eq_of_lt hm, Nat.mod_eq_of_lt (by omega), Nat.add_zero]
theorem parts_lt {p m : Nat} (hm : m < 4503599627370496) (hp : p ≤ 2000) : (p + 1) * 4503599627370496 + m < 9223372036854775808 := by
  have h4 := Nat.mul_le_mul_right 4503599627370496 (show p + 1 ≤ 2001 by omega)
  omega
theorem parts_fq {p m : Nat} (hm : m < 4503599627370496) (hp : p ≤ 2000) : fq ((p + 1) * 4503599627370496 + m) = ((((4503599627370496 + m : Nat) : Int) * (2 ^ p : Nat) : Int) : Rat) / (((2 ^ 1074 : Nat) : Int) : Rat) := by
  have h1 := parts_exp hm hp
  have h2 := parts_lt hm hp
  have h3 : ((p + 1) * 4503599627370496 + m) % 4503599627370496 = m := by
    rw [show (p + 1) * 4503599627370496 + m = 4503599627370496 * (p + 1) + m by rw [Nat.mul_comm], Nat.mul_add_mod, Nat.mod_eq_of_lt hm]
  generalize (p + 1) * 4503599627370496 + m = S at *
  have h4 : fneg S = false := by unfold fneg; rw [Nat.div_eq_of_lt h2]; rfl
  have h5 : fman S = 4503599627370496 + m := by unfold fman; rw [h1, if_neg (by omega), h3, Nat.add_comm]
  have h6 : fup S = p := by unfold fup; rw [h1]; omega
  unfold fq fz
  rw [h4, h5, h6]
  rfl

/-- A finite float64 that is no less than 0. -/
theorem parts_read {p m : Nat} (hm : m < 4503599627370496) (hp : p ≤ 2000) : Ieee.double.read ((p + 1) * 4503599627370496 + m) = .number false (4503599627370496 + m) ((p : Int) - 1074) := by
  have h := read_word Ieee.double false ((p : Int) - 1074) (4503599627370496 + m) (by rw [p53]; omega) (by rw [lp_double]; omega) (.inl (by rw [p52]; omega)) (by
    rw [lp_double, bin_double, inf_double, show ((p : Int) - 1074 - -1074).toNat = p by omega]
    have h4 := Nat.mul_le_mul_right 4503599627370496 hp
    omega)
  rw [rung_mid rfl hm (by omega), word_false] at h
  exact h

theorem ord_le {a b : Int} (h : a ≤ b) : (some (compare a b) == some Ordering.gt) = false := by
  have : compare a b ≠ .gt := by rw [ne_eq, Int.compare_eq_gt]; omega
  cases hc : compare a b <;> simp_all

theorem parts_fin {p m : Nat} (hm : m < 4503599627370496) (hp : p ≤ 2000) : Fin ((p + 1) * 4503599627370496 + m) := by
  have h2 := parts_lt hm hp
  have hr := parts_read hm hp
  generalize (p + 1) * 4503599627370496 + m = S at *
  have hmax : Ieee.double.read 9218868437227405311 = .number false 9007199254740991 971 := by kernel_rfl
  refine ⟨by omega, ⟨S, ?_, ?_⟩, ?_⟩
  · rw [show (9223372036854775808 : Int) = ((9223372036854775808 : Nat) : Int) from rfl, u64_andNot_nat S 9223372036854775808 (by omega) (by omega), show 18446744073709551615 - 9223372036854775808 = 2 ^ 63 - 1 from rfl, Nat.and_two_pow_sub_one_eq_mod, Nat.mod_eq_of_lt (by omega)]
  · show ((Ieee.double.read S).order (Ieee.double.read 9218868437227405311) == some .gt) = false
    rw [hr, hmax]
    unfold Ieee.Datum.order
    dsimp only
    refine ord_le ?_
    rw [show min ((p : Int) - 1074) 971 = (p : Int) - 1074 by omega]
    unfold Ieee.signed
    simp only [Bool.false_eq_true, if_false, Int.sub_self, Int.toNat_zero, Nat.shiftLeft_zero]
    rw [Nat.shiftLeft_eq]
    have h3 := Nat.mul_le_mul_left 9007199254740991 (Nat.two_pow_pos ((971 : Int) - ((p : Int) - 1074)).toNat)
    generalize 2 ^ ((971 : Int) - ((p : Int) - 1074)).toNat = t at *
    omega
  · show ((Ieee.double.read S).order (Ieee.double.read S) == some .eq) = true
    rw [hr]
    unfold Ieee.Datum.order
    dsimp only
    rw [beq_iff_eq, Option.some.injEq, Int.compare_eq_eq]

/-- A scale widens to a finite float64 of the same value. -/
theorem scale_widens {s : Nat} (h : scaleOK s = true) : ∃ (S mag M p : Nat) (place : Int), Ieee.single.read s = .number false mag place ∧ 0 < mag ∧ -149 ≤ place ∧ SameVal mag place M ((p : Int) - 1074) ∧ 0 < M ∧ floatToFloatBits .f32 s .f64 = some S ∧ Fin S ∧ fexp S ≠ 2047 ∧ fq S = (((M : Int) * (2 ^ p : Nat) : Int) : Rat) / (((2 ^ 1074 : Nat) : Int) : Rat) := by
  obtain ⟨mag, place, hr, h1, h2, h3, h4⟩ := scale_read h
  obtain ⟨p, m, hn, hm, hp, hs⟩ := double_parts mag place h1 (by omega) h3 (by omega)
  refine ⟨_, mag, 4503599627370496 + m, p, place, hr, h1, h3, hs, by omega, ?_, parts_fin hm hp, by rw [parts_exp hm hp]; omega, parts_fq hm hp⟩
  unfold floatToFloatBits
  rw [if_neg (by decide), show FloatKind.f32.decode s = .number false mag place from hr]
  have h5 : FloatKind.f64.encode (.number false mag place) = (p + 1) * 4503599627370496 + m := hn
  simp only [h5]
  rw [show FloatKind.f64.decode ((p + 1) * 4503599627370496 + m) = .number false (4503599627370496 + m) ((p : Int) - 1074) from parts_read hm hp]
  rfl

theorem widens1 {s S : Nat} (h : floatToFloatBits .f32 s .f64 = some S) : Widens1 s S := fun w => run_convert_float_float w _ _ .f32 .f64 s S (by rw [Tryz.underlying23]; rfl) Tryz.underlying145 h
theorem widens2 {s S : Nat} (h : floatToFloatBits .f32 s .f64 = some S) : Widens s 0 S 0 := fun w => run_convert_complex w _ _ .f32 .f64 s 0 S 0 (by rw [Tryz.underlying49]; rfl) Tryz.underlying138 (by
  unfold cConvBits
  rw [h, show floatToFloatBits .f32 0 .f64 = some 0 by decide]
  rfl)

/-- The word of a small whole number as a float32. -/
theorem single_int (neg : Bool) (K : Nat) (hK : 0 < K) (hK2 : K ≤ 32768) : ∃ x g, Ieee.single.read (Ieee.single.nearest neg K 0) = .number neg x g ∧ SameVal K 0 x g := by
  obtain ⟨j, hj1, hj2⟩ : ∃ j : Nat, 2 ^ 23 ≤ K * 2 ^ j ∧ K * 2 ^ j < 2 ^ 24 := by
    have h2 : K.log2 ≤ 15 := by
      rcases Nat.lt_or_ge 15 K.log2 with h | h
      · have h3 : 2 ^ K.log2 ≤ K := Nat.log2_self_le (by omega)
        have : 2 ^ 16 ≤ 2 ^ K.log2 := Nat.pow_le_pow_right (by omega) h
        omega
      · exact h
    refine ⟨23 - K.log2, ?_, ?_⟩
    · calc 2 ^ 23 = 2 ^ (K.log2 + (23 - K.log2)) := by congr 1; omega
        _ = 2 ^ K.log2 * 2 ^ (23 - K.log2) := Nat.pow_add ..
        _ ≤ _ := Nat.mul_le_mul_right _ (Nat.log2_self_le (by omega))
    · calc K * 2 ^ (23 - K.log2) < 2 ^ (K.log2 + 1) * 2 ^ (23 - K.log2) := Nat.mul_lt_mul_of_pos_right Nat.lt_log2_self (Nat.two_pow_pos _)
        _ = 2 ^ (K.log2 + 1 + (23 - K.log2)) := (Nat.pow_add ..).symm
        _ = 2 ^ 24 := by congr 1; omega
  have hj53 : j < 24 := by
    rcases Nat.lt_or_ge j 24 with h | h
    · exact h
    · have h1 : 2 ^ 24 ≤ 2 ^ j := Nat.pow_le_pow_right (by omega) h
      have h2 : 1 * 2 ^ j ≤ K * 2 ^ j := Nat.mul_le_mul_right _ hK
      omega
  have hs : SameVal K 0 (K * 2 ^ j) (0 - j) := ⟨j, 0, by simp, by omega⟩
  have hd := nearest_same Ieee.single neg hs
  obtain ⟨x, hx⟩ : ∃ x, x = K * 2 ^ j := ⟨_, rfl⟩
  rw [← hx] at hj1 hj2 hs hd
  have hw := nearest_digits Ieee.single neg (0 - j) x (by rw [p24]; omega) (by rw [lp_single]; omega) (.inl (by rw [p23]; omega))
  refine ⟨x, 0 - j, ?_, hs⟩
  rw [hd, hw]
  exact read_word Ieee.single neg (0 - j) x (by rw [p24]; omega) (by rw [lp_single]; omega) (.inl (by rw [p23]; omega)) (by rw [lp_single, bin_single, inf_single]; omega)

theorem SameVal.times {x y u v : Nat} {e f g : Int} (h : SameVal x e y f) (k : Nat) (i : Int) : SameVal (x * k) (e + i) (y * k) (f + i) := by
  obtain ⟨a, b, h1, h2⟩ := h
  refine ⟨a, b, ?_, by omega⟩
  rw [Nat.mul_right_comm, h1, Nat.mul_right_comm]

/-- A sample times a scale. -/
def mulW (x : Int) (s : Nat) : Nat := (Ieee.single.mul (floatOfInt .f32 x) s).getD 0
theorem mul_zero {s mag : Nat} {place : Int} (hr : Ieee.single.read s = .number false mag place) : Ieee.single.mul (floatOfInt .f32 0) s = some 0 := by
  unfold Ieee.Format.mul
  rw [hr, show floatOfInt .f32 0 = 0 by decide, read_zero]
  simp only [Ieee.Datum.product, Option.map_some, Ieee.Format.write, Nat.zero_mul]
  rfl
theorem mul_some {x : Int} {s mag : Nat} {place : Int} (hr : Ieee.single.read s = .number false mag place) (hx : x ≠ 0) (h1 : -32768 ≤ x) (h2 : x ≤ 32767) : Ieee.single.mul (floatOfInt .f32 x) s = some (Ieee.single.nearest (decide (x < 0)) (x.natAbs * mag) place) := by
  obtain ⟨y, g, h3, h4⟩ := single_int (decide (x < 0)) x.natAbs (by omega) (by omega)
  unfold Ieee.Format.mul
  rw [hr, show floatOfInt .f32 x = Ieee.single.nearest (decide (x < 0)) x.natAbs 0 from rfl, h3]
  simp only [Ieee.Datum.product, Option.map_some, Ieee.Format.write, Bool.xor_false]
  congr 1
  have h5 := (h4.times (u := 0) (v := 0) (g := 0) mag place)
  rw [Int.zero_add] at h5
  exact (nearest_same Ieee.single _ h5).symm
theorem mulW_eq {x : Int} {s : Nat} (h : scaleOK s = true) (h1 : -32768 ≤ x) (h2 : x ≤ 32767) : Ieee.single.mul (floatOfInt .f32 x) s = some (mulW x s) := by
  obtain ⟨mag, place, hr, _⟩ := scale_read h
  unfold mulW
  by_cases hx : x = 0
  · subst hx; rw [mul_zero hr]; rfl
  · rw [mul_some hr hx h1 h2]; rfl

/-- What is no less than the least float does not round to 0. -/
theorem rounds_pos {a d K N : Nat} {e place : Int} (hd : 0 < d) (ha : 0 < a) (h : RoundsTo Ieee.single a d e K) (hv : IsVal N place a d) (hN : 0 < N) (hp : -149 ≤ place) : K ≠ 0 := by
  rintro rfl
  obtain ⟨P, Q, x, y, hQ, h1, h2, h3, h4, h5, h6⟩ := h
  obtain ⟨u, v, h7, h8⟩ := hv
  have hPQ : P / Q = 0 := Nat.le_zero.1 (Nat.le_trans rn_ge (Nat.le_of_eq h6.symm))
  have he : e = -149 := by
    rcases h5 with h5 | h5
    · rw [hPQ, p23] at h5; omega
    · rw [h5, lp_single]
  have hlt : P < Q := by
    rcases Nat.lt_or_ge P Q with h | h
    · exact h
    · have := Nat.div_pos h hQ; omega
  have h9 : d * 2 ^ u ≤ a * 2 ^ v := by
    rw [← h7, Nat.mul_assoc]
    exact Nat.le_mul_of_pos_left _ hN
  have h10 : a * (Q * 2 ^ (y + u)) ≤ a * (P * 2 ^ (v + x)) := by
    calc a * (Q * 2 ^ (y + u)) = (a * Q * 2 ^ y) * 2 ^ u := by rw [Nat.pow_add]; ac_rfl
      _ = P * d * 2 ^ x * 2 ^ u := by rw [h1]
      _ = (P * 2 ^ x) * (d * 2 ^ u) := by ac_rfl
      _ ≤ (P * 2 ^ x) * (a * 2 ^ v) := Nat.mul_le_mul_left _ h9
      _ = a * (P * 2 ^ (v + x)) := by rw [Nat.pow_add]; ac_rfl
  have h11 := Nat.le_of_mul_le_mul_left h10 ha
  have h12a : v + x ≤ y + u := by clear h10 h11 h9 h7 h1; omega
  have h12 : P * 2 ^ (v + x) ≤ P * 2 ^ (y + u) := Nat.mul_le_mul_left _ (Nat.pow_le_pow_right (by omega) h12a)
  have h13 := Nat.le_of_mul_le_mul_right (Nat.le_trans h11 h12) (Nat.two_pow_pos _)
  omega

theorem mulW_is {x a : Int} {s mag d R : Nat} {place : Int} (hr : Ieee.single.read s = .number false mag place) (hmag : 0 < mag) (hp : -149 ≤ place) (h1 : -32768 ≤ x) (h2 : x ≤ 32767) (hd : 0 < d) (hs0 : a = 0 ↔ x = 0) (hs1 : a < 0 ↔ x < 0) (hv : IsVal (x.natAbs * mag) place a.natAbs d) (hR : IsW32 a d R) : R = mulW x s := by
  unfold mulW
  rcases hR with ⟨ha, rfl⟩ | ⟨ha, e, K, hK, rfl⟩
  · rw [hs0.1 ha, mul_zero hr]; rfl
  · have hx : x ≠ 0 := fun h => ha (hs0.2 h)
    rw [mul_some hr hx h1 h2]
    have hN : 0 < x.natAbs * mag := Nat.mul_pos (by omega) hmag
    have h3 := rounds_pos hd (by omega) hK hv hN hp
    rw [Option.getD_some, nearest_of hd hN hv hK]
    unfold w32
    rw [if_neg h3]
    congr 1
    exact decide_eq_decide.2 hs1

theorem sign_of {a x : Int} {A D : Nat} (hA : 0 < A) (hD : 0 < D) (h : a * A = x * D) : (a = 0 ↔ x = 0) ∧ (a < 0 ↔ x < 0) := by
  have hA' : (0 : Int) < A := by omega
  have hD' : (0 : Int) < D := by omega
  have k1 : x = 0 → a = 0 := fun e => by
    rw [e, Int.zero_mul] at h
    rcases Int.mul_eq_zero.1 h with h | h <;> omega
  have k2 : a = 0 → x = 0 := fun e => by
    rw [e, Int.zero_mul] at h
    rcases Int.mul_eq_zero.1 h.symm with h | h <;> omega
  have k3 : x < 0 → a < 0 := fun e => by
    have h3 := Int.mul_neg_of_neg_of_pos e hD'
    rw [← h] at h3
    rcases Int.lt_or_le a 0 with h4 | h4
    · exact h4
    · have := Int.mul_nonneg h4 (Int.le_of_lt hA'); omega
  have k4 : a < 0 → x < 0 := fun e => by
    have h3 := Int.mul_neg_of_neg_of_pos e hA'
    rw [h] at h3
    rcases Int.lt_or_le x 0 with h4 | h4
    · exact h4
    · have := Int.mul_nonneg h4 (Int.le_of_lt hD'); omega
  exact ⟨⟨k2, k1⟩, ⟨k4, k3⟩⟩

/-- One part of a wave. -/
theorem wave_part {x a : Int} {s mag M p d R T n : Nat} {place : Int} (hn : n = 1074) (hT : T = 2 ^ n) (hr : Ieee.single.read s = .number false mag place) (hmag : 0 < mag) (hM : 0 < M) (hp : -149 ≤ place) (hs : SameVal mag place M ((p : Int) - 1074)) (h1 : -32768 ≤ x) (h2 : x ≤ 32767) (hd : 0 < d)
    (he : a * T = x * ((M * 2 ^ p * d : Nat) : Int)) (hR : IsW32 a d R) : R = mulW x s := by
  obtain ⟨k1, k2⟩ := sign_of (by rw [hT]; exact Nat.two_pow_pos _) (Nat.mul_pos (Nat.mul_pos hM (Nat.two_pow_pos _)) hd) he
  refine mulW_is hr hmag hp h1 h2 hd k1 k2 ?_ hR
  have he2 := congrArg Int.natAbs he
  rw [Int.natAbs_mul, Int.natAbs_mul, Int.natAbs_natCast, Int.natAbs_natCast] at he2
  have hv : IsVal (x.natAbs * M) ((p : Int) - 1074) a.natAbs d := ⟨p, n, by rw [← hT, he2]; ac_rfl, by omega⟩
  have hs2 := (hs.times (u := 0) (v := 0) (g := 0) x.natAbs 0).symm
  rw [Int.add_zero, Int.add_zero, Nat.mul_comm M, Nat.mul_comm mag] at hs2
  exact hs2.isVal hv

/-- A wave's float32s are the products. -/
theorem wave_words {x1 x2 : Int} {s S mag M p R I : Nat} {place : Int} (hr : Ieee.single.read s = .number false mag place) (hmag : 0 < mag) (hM : 0 < M) (hp : -149 ≤ place) (hs : SameVal mag place M ((p : Int) - 1074)) (hS : fq S = (((M : Int) * (2 ^ p : Nat) : Int) : Rat) / (((2 ^ 1074 : Nat) : Int) : Rat))
    (h1 : -32768 ≤ x1 ∧ x1 ≤ 32767) (h2 : -32768 ≤ x2 ∧ x2 ≤ 32767) (h : CW32 (CQ.mul ⟨fq S, 0⟩ (cq x1 x2 1)) R I) : R = mulW x1 s ∧ I = mulW x2 s := by
  obtain ⟨a, b, d, hl, hx, hR, hI⟩ := h
  obtain ⟨n, hn⟩ : ∃ n : Nat, n = 1074 := ⟨_, rfl⟩
  obtain ⟨T, hT⟩ : ∃ T : Nat, T = 2 ^ n := ⟨_, rfl⟩
  have hTp : 0 < T := by rw [hT]; exact Nat.two_pow_pos _
  rw [← hn, ← hT] at hS
  have key : CQ.mul ⟨fq S, 0⟩ (cq x1 x2 1) = cq (x1 * ((M * 2 ^ p : Nat) : Int)) (x2 * ((M * 2 ^ p : Nat) : Int)) T := by
    have hT0 := rat_ne hTp
    rw [hS]
    unfold CQ.mul cq
    refine CQ.ext ?_ ?_ <;> simp only [Rat.intCast_mul, Int.natCast_mul, Int.natCast_one, Rat.intCast_one, Rat.zero_mul] <;> generalize ((M : Int) : Rat) = m' at * <;> generalize (((2 ^ p : Nat) : Int) : Rat) = q' at * <;> grind
  rw [key] at hx
  obtain ⟨e1, e2⟩ := (cq_eq hTp hl.1).1 hx
  exact ⟨wave_part hn hT hr hmag hM hp hs h1.1 h1.2 hl.1 (by rw [← e1, Int.mul_assoc, ← Int.natCast_mul]) hR, wave_part hn hT hr hmag hM hp hs h2.1 h2.2 hl.1 (by rw [← e2, Int.mul_assoc, ← Int.natCast_mul]) hI⟩
end Go.Proofs.YtohnlmfmpflbpaaGreat
