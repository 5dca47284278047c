/- A whole number times a power of two as a float of 64 bits, plain. Conditions: none. math.Ldexp of a small whole number. Conditions: at most 2^24, the exponent between -149 and 104. A float32 by its bits as a limit: whether it is finite and no less than 0, and what it widens to. Conditions: none. -/
import Derived.Test.YtfkogkcpndaoeaaGreatMRFloatA
import Derived.Test.YtfkogkcpndaoeaaGreatMRNear
import Derived.Laws.NewFold
set_option linter.all false
namespace Go.Proofs.YtfkogkcpndaoeaaGreat
open Go.RowKit
theorem ld_parts {M : Nat} (h0 : 0 < M) (h1 : M ≤ 16777216) : ∃ p m : Nat, floatOfInt .f64 (M : Int) = (p + 1) * 4503599627370496 + m ∧ m < 4503599627370496 ∧ 1022 ≤ p ∧ p ≤ 1046 ∧ ∀ (e : Int) (q : Nat), -149 ≤ e → e ≤ 104 → (q : Int) = p + e → Ieee.double.nearest false M e = (q + 1) * 4503599627370496 + m := by
  have hL : M.log2 ≤ 24 := by
    rcases Nat.lt_or_ge 24 M.log2 with h | h
    · have h2 : 2 ^ 25 ≤ 2 ^ M.log2 := Nat.pow_le_pow_right (by omega) h
      have h3 : 2 ^ M.log2 ≤ M := Nat.log2_self_le (by omega)
      omega
    · exact h
  obtain ⟨j, hj⟩ : ∃ j : Nat, j = 52 - M.log2 := ⟨_, rfl⟩
  have a1 : 2 ^ 52 ≤ M * 2 ^ j := by
    calc 2 ^ 52 = 2 ^ (M.log2 + j) := by congr 1; omega
      _ = 2 ^ M.log2 * 2 ^ j := Nat.pow_add ..
      _ ≤ _ := Nat.mul_le_mul_right _ (Nat.log2_self_le (by omega))
  have a2 : M * 2 ^ j < 2 ^ 53 := by
    calc M * 2 ^ j < 2 ^ (M.log2 + 1) * 2 ^ j := Nat.mul_lt_mul_of_pos_right Nat.lt_log2_self (Nat.two_pow_pos _)
      _ = 2 ^ (M.log2 + 1 + j) := (Nat.pow_add ..).symm
      _ = 2 ^ 53 := by congr 1; omega
  obtain ⟨m, hm⟩ : ∃ m, M * 2 ^ j = 4503599627370496 + m := ⟨M * 2 ^ j - 4503599627370496, by omega⟩
  have hm2 : m < 4503599627370496 := by omega
  have key : ∀ (e : Int) (q : Nat), -149 ≤ e → e ≤ 104 → (q : Int) = ((1074 - j : Nat) : Int) + e → Ieee.double.nearest false M e = (q + 1) * 4503599627370496 + m := by
    intro e q he1 he2 hq
    have hg : e - j = (q : Int) - 1074 := by omega
    rw [float_end h0 hm.symm hg.symm (by omega) (by omega) (.inl (by omega)), rung_mid rfl hm2 (by omega)]
  refine ⟨1074 - j, m, ?_, hm2, by omega, by omega, key⟩
  rw [← key 0 (1074 - j) (by omega) (by omega) (by omega)]
  show Ieee.double.nearest (decide ((M : Int) < 0)) (M : Int).natAbs 0 = _
  rw [show decide ((M : Int) < 0) = false by simp, Int.natAbs_natCast]
theorem order_read {a b : Nat} {x y : Nat} {e f : Int} (ha : Ieee.double.read a = .number false x e) (hb : Ieee.double.read b = .number false y f) : FloatKind.f64.format.order a b = some (compare ((x * 2 ^ (e - min e f).toNat : Nat) : Int) ((y * 2 ^ (f - min e f).toNat : Nat) : Int)) := by
  show (Ieee.double.read a).order (Ieee.double.read b) = _
  rw [ha, hb]
  unfold Ieee.Datum.order Ieee.signed
  simp only [Bool.false_eq_true, if_false, Nat.shiftLeft_eq]
theorem read_nought : Ieee.double.read 0 = .number false 0 (-1074) := by kernel_rfl
theorem read_least : Ieee.double.read 4503599627370496 = .number false 4503599627370496 (-1074) := by kernel_rfl
theorem read_unit : Ieee.double.read 4607182418800017408 = .number false 4503599627370496 (-52) := by kernel_rfl
theorem ord_ne {a b : Int} (h : a ≠ b) : (some (compare a b) == some Ordering.eq) = false := by
  have : compare a b ≠ .eq := by rw [ne_eq, Int.compare_eq_eq]; exact h
  cases hc : compare a b <;> simp_all
theorem ord_ge {a b : Int} (h : b ≤ a) : (some (compare a b) == some Ordering.lt) = false := by
  have : compare a b ≠ .lt := by rw [ne_eq, Int.compare_eq_lt]; omega
  cases hc : compare a b <;> simp_all
structure LdF (S p m : Nat) : Prop where
  lt : S < 9223372036854775808
  abs : bits .andNot .u64 (S : Int) 9223372036854775808 = (S : Int)
  ne0 : (FloatKind.f64.format.order S 0 == some .eq) = false
  top : (FloatKind.f64.format.order S 9218868437227405311 == some .gt) = false
  eq : (FloatKind.f64.format.order S S == some .eq) = true
  least : (FloatKind.f64.format.order S 4503599627370496 == some .lt) = false
  exp : S / 4503599627370496 = p + 1
  man : bits .andNot .u64 (S : Int) 9218868437227405312 = (m : Int)
theorem ldF {p m : Nat} (hm : m < 4503599627370496) (hp : p ≤ 2000) : LdF ((p + 1) * 4503599627370496 + m) p m := by
  have h2 := parts_lt hm hp
  have hr := parts_read hm hp
  have hF := parts_fin hm hp
  have he : ((p + 1) * 4503599627370496 + m) / 4503599627370496 = p + 1 := by
    rw [show (p + 1) * 4503599627370496 + m = 4503599627370496 * (p + 1) + m by rw [Nat.mul_comm], Nat.mul_add_div (by omega), Nat.div_eq_of_lt hm, Nat.add_zero]
  obtain ⟨c, hc, htop⟩ := hF.rd
  have hcS : bits .andNot .u64 (((p + 1) * 4503599627370496 + m : Nat) : Int) 9223372036854775808 = (((p + 1) * 4503599627370496 + m : Nat) : Int) := by
    rw [show (9223372036854775808 : Int) = ((9223372036854775808 : Nat) : Int) from rfl, u64_andNot_nat _ 9223372036854775808 (by omega) (by omega), show 18446744073709551615 - 9223372036854775808 = 2 ^ 63 - 1 from rfl, Nat.and_two_pow_sub_one_eq_mod, Nat.mod_eq_of_lt (by omega)]
  have hcc : c = (p + 1) * 4503599627370496 + m := by
    have := hc.symm.trans hcS
    omega
  refine ⟨h2, hcS, ?_, by rw [← hcc]; exact htop, hF.eq, ?_, he, ?_⟩
  · rw [order_read hr read_nought]
    refine ord_ne ?_
    have := Nat.mul_pos (show 0 < 4503599627370496 + m by omega) (Nat.two_pow_pos ((p : Int) - 1074 - min ((p : Int) - 1074) (-1074)).toNat)
    rw [Nat.zero_mul]
    omega
  · rw [order_read hr read_least]
    refine ord_ge ?_
    rw [show min ((p : Int) - 1074) (-1074) = -1074 by omega, show ((-1074 : Int) - -1074).toNat = 0 by omega, Nat.pow_zero, Nat.mul_one]
    have := Nat.mul_le_mul (show 4503599627370496 ≤ 4503599627370496 + m by omega) (Nat.two_pow_pos ((p : Int) - 1074 - -1074).toNat)
    omega
  · generalize hS : (p + 1) * 4503599627370496 + m = S at *
    rw [show (9218868437227405312 : Int) = ((9218868437227405312 : Nat) : Int) from rfl, u64_andNot_nat _ 9218868437227405312 (by omega) (by omega)]
    have e1 : S &&& (18446744073709551615 - 9218868437227405312) = m := by
      calc S &&& (18446744073709551615 - 9218868437227405312) = (S &&& (2 ^ 63 - 1)) &&& (18446744073709551615 - 9218868437227405312) := by rw [Nat.and_two_pow_sub_one_eq_mod, Nat.mod_eq_of_lt (by omega)]
        _ = S &&& ((2 ^ 63 - 1) &&& (18446744073709551615 - 9218868437227405312)) := Nat.and_assoc ..
        _ = S &&& (2 ^ 52 - 1) := by rw [show (2 ^ 63 - 1) &&& (18446744073709551615 - 9218868437227405312) = 2 ^ 52 - 1 by decide]
        _ = S % 2 ^ 52 := Nat.and_two_pow_sub_one_eq_mod ..
        _ = m := by rw [← hS, show (p + 1) * 4503599627370496 + m = 2 ^ 52 * (p + 1) + m by rw [Nat.mul_comm], Nat.mul_add_mod, Nat.mod_eq_of_lt hm]
    rw [e1]
theorem ld_one {p m : Nat} (hm : m < 4503599627370496) (hp : p ≤ 2000) : floatBits .mul .f64 4607182418800017408 ((p + 1) * 4503599627370496 + m) = some ((p + 1) * 4503599627370496 + m) := by
  show ((Ieee.double.read 4607182418800017408).product (Ieee.double.read ((p + 1) * 4503599627370496 + m))).map Ieee.double.write = _
  rw [read_unit, parts_read hm hp]
  show some (Ieee.double.nearest (false ^^ false) (4503599627370496 * (4503599627370496 + m)) (-52 + ((p : Int) - 1074))) = _
  have hs : SameVal (4503599627370496 * (4503599627370496 + m)) (-52 + ((p : Int) - 1074)) (4503599627370496 + m) ((p : Int) - 1074) := ⟨0, 52, by rw [Nat.pow_zero, Nat.mul_one, Nat.mul_comm], by omega⟩
  have h3 := nearest_digits Ieee.double false ((p : Int) - 1074) (4503599627370496 + m) (by rw [p53]; omega) (by rw [lp_double]; omega) (.inl (by rw [p52]; omega))
  rw [show (false ^^ false) = false from rfl, nearest_same Ieee.double false hs, h3, word_false, rung_mid rfl hm (by omega)]
theorem or_fields {q m : Nat} (hm : m < 4503599627370496) (hq : q ≤ 2045) : bits .or .u64 (m : Int) (((q : Int) + 1) * 4503599627370496) = (((q + 1) * 4503599627370496 + m : Nat) : Int) := by
  have h4 := Nat.mul_le_mul_right 4503599627370496 (show q + 1 ≤ 2046 by omega)
  have e := Nat.two_pow_add_eq_or_of_lt (i := 52) (b := m) (by simpa using hm) (q + 1)
  rw [show ((q : Int) + 1) * 4503599627370496 = ((2 ^ 52 * (q + 1) : Nat) : Int) by rw [Int.natCast_mul, Int.mul_comm]; rfl, u64_or_nat _ _ (by omega) (by omega), Nat.or_comm, ← e, Nat.mul_comm]
end Go.Proofs.YtfkogkcpndaoeaaGreat
namespace Go.Proofs.YtfkogkcpndaoeaaGreat
open Go.RowKit
theorem abs_spec (S : Nat) (w : World) (h : bits .andNot .u64 (S : Int) 9223372036854775808 = (S : Int)) :
    Calls Tryz.prog 202 #[.float .f64 S] w (fun e w' => e = .returned (.float .f64 S) ∧ w = w') := by
  have hrun := run_fb64
  have hrun2 := run_ff64
  go_enter Tryz.func202, Tryz.ntmps202
  go_wp2
  go_ret
  exact ⟨rfl, rfl⟩
theorem isinf_spec (S : Nat) (w : World) (h : bits .andNot .u64 (S : Int) 9223372036854775808 = (S : Int)) (ht : (FloatKind.f64.format.order S 9218868437227405311 == some .gt) = false) :
    Calls Tryz.prog 191 #[.float .f64 S, .int .i64 0] w (fun e w' => e = .returned (.bool false) ∧ w = w') := by
  go_enter Tryz.func191, Tryz.ntmps191
  go_wp2_with fail
  refine (abs_spec S w h).mono ?_
  rintro e w1 ⟨rfl, rfl⟩
  go_wp2_with fail
  go_ret
  exact ⟨rfl, rfl⟩
theorem isnan_spec (S : Nat) (w : World) (ht : (FloatKind.f64.format.order S S == some .eq) = true) :
    Calls Tryz.prog 190 #[.float .f64 S] w (fun e w' => e = .returned (.bool false) ∧ w = w') := by
  have h1' : (FloatKind.f64.format.order S S != some .eq) = false := by rw [bne, ht]; rfl
  go_enter Tryz.func190, Tryz.ntmps190
  go_wp2_with fail
  go_ret
  exact ⟨rfl, rfl⟩
theorem normalize_spec (S : Nat) (w : World) (h : bits .andNot .u64 (S : Int) 9223372036854775808 = (S : Int)) (ht : (FloatKind.f64.format.order S 4503599627370496 == some .lt) = false) :
    Calls Tryz.prog 206 #[.float .f64 S] w (fun e w' => e = .returned (.tuple #[.float .f64 S, .int .i64 0]) ∧ w = w') := by
  go_enter Tryz.func206, Tryz.ntmps206
  go_wp2_with fail
  refine (abs_spec S w h).mono ?_
  rintro e w1 ⟨rfl, rfl⟩
  go_wp2_with fail
  go_ret2
  exact ⟨rfl, rfl⟩
theorem i64_and_small (a b : Nat) (ha : a < 4294967296) (hb : b < 4294967296) : bits .and .i64 (a : Int) (b : Int) = ((a &&& b : Nat) : Int) := by
  have hx : a &&& b ≤ a := Nat.and_le_left
  show IntKind.i64.wrap ((BitVec.ofInt 64 (a : Int) &&& BitVec.ofInt 64 (b : Int)).toNat : Int) = _
  rw [BitVec.toNat_and, ofInt_u64 a (by omega), ofInt_u64 b (by omega)]
  exact IntWalk.i64_in _ (by omega)
set_option maxRecDepth 100000 in
set_option maxHeartbeats 1600000 in
theorem ldin_spec (p m q : Nat) (e : Int) (w : World) (hm : m < 4503599627370496) (hp : p ≤ 2000) (hq : (q : Int) = p + e) (hq2 : q ≤ 2000) (he : -2000 ≤ e) (he2 : e ≤ 2000) :
    Calls Tryz.prog 201 #[.float .f64 ((p + 1) * 4503599627370496 + m), .int .i64 e] w (fun x w' => x = .returned (.float .f64 ((q + 1) * 4503599627370496 + m)) ∧ w = w') := by
  have hF := ldF hm hp
  have hor := or_fields hm (show q ≤ 2045 by omega)
  have hone := ld_one hm hq2
  have hrlt := parts_lt hm hq2
  obtain ⟨S, hS⟩ : ∃ S, S = (p + 1) * 4503599627370496 + m := ⟨_, rfl⟩
  obtain ⟨R, hR⟩ : ∃ R, R = (q + 1) * 4503599627370496 + m := ⟨_, rfl⟩
  rw [← hS] at hF ⊢
  rw [← hR] at hor hone hrlt ⊢
  clear hS hR
  obtain ⟨hlt, habs, hne0, htop, heq, hleast, hexp, hman⟩ := hF
  obtain ⟨p1, hp1⟩ : ∃ p1, p1 = p + 1 := ⟨_, rfl⟩
  obtain ⟨q1, hq1⟩ : ∃ q1, q1 = q + 1 := ⟨_, rfl⟩
  have hsh : (S : Int) / 4503599627370496 = (p1 : Int) := by rw [hp1, ← hexp]; omega
  have hand : bits .and .i64 (p1 : Int) 2047 = (p1 : Int) := by
    have e1 : bits .and .i64 (p1 : Int) ((2047 : Nat) : Int) = ((p1 &&& 2047 : Nat) : Int) := i64_and_small p1 2047 (by omega) (by omega)
    have e2 : p1 &&& 2047 = p1 := by
      have := Nat.and_two_pow_sub_one_eq_mod p1 11
      rw [show 2 ^ 11 - 1 = 2047 from rfl, Nat.mod_eq_of_lt (by omega)] at this
      exact this
    rw [e2] at e1
    exact e1
  rw [show ((q : Int) + 1) = (q1 : Int) by omega] at hor
  obtain ⟨d, hd⟩ : ∃ d : Int, d = e + ((p1 : Int) - 1023) := ⟨_, rfl⟩
  have hd1 : d + 1023 = (q1 : Int) := by omega
  have hd3 : -1022 ≤ d := by omega
  have hd4 : d ≤ 1023 := by omega
  have hmul : ∀ w, (binOp .mul 169 (.float .f64 4607182418800017408) (.float .f64 R)).run Tryz.prog w = .ok (.float .f64 R) w := fun w => run_float_arith w .mul _ .f64 _ _ _ hone
  have hrun := run_fb64
  have hrun2 := run_ff64
  have HQ := Lib.hid hq
  have HD := Lib.hid hd
  clear hone hq hexp hd hp1 hq1
  go_enter Tryz.func201, Tryz.ntmps201
  go_wp2_with fail
  refine (isinf_spec S w habs htop).mono ?_
  rintro e1 w1 ⟨rfl, rfl⟩
  go_wp2_with fail
  refine (isnan_spec S w heq).mono ?_
  rintro e1 w1 ⟨rfl, rfl⟩
  go_wp2_with fail
  refine (normalize_spec S w habs hleast).mono ?_
  rintro e1 w1 ⟨rfl, rfl⟩
  go_upto_region 9 with (fail)
  rw [← HD.out]
  clear HQ
  go_wp2_with fail
  go_ret
  exact ⟨rfl, rfl⟩
set_option maxRecDepth 100000 in
set_option maxHeartbeats 400000 in
theorem ldexp_spec (M : Nat) (e : Int) (w : World) (h0 : 0 < M) (h1 : M ≤ 16777216) (he1 : -149 ≤ e) (he2 : e ≤ 104) :
    Calls Tryz.prog 181 #[.float .f64 (floatOfInt .f64 (M : Int)), .int .i64 e] w (fun x w' => x = .returned (.float .f64 (Ieee.double.nearest false M e)) ∧ w = w') := by
  obtain ⟨p, m, hF, hm, hp1, hp2, hK⟩ := ld_parts h0 h1
  obtain ⟨q, hq⟩ : ∃ q : Nat, (q : Int) = p + e := ⟨(p + e).toNat, by omega⟩
  have HX : ∃ S R, floatOfInt .f64 (M : Int) = S ∧ Ieee.double.nearest false M e = R ∧ ∀ w, Calls Tryz.prog 201 #[.float .f64 S, .int .i64 e] w (fun x w' => x = .returned (.float .f64 R) ∧ w = w') :=
    ⟨_, _, hF, hK e q he1 he2 hq, fun w => ldin_spec p m q e w hm (by omega) hq (by omega) (by omega) (by omega)⟩
  obtain ⟨S, R, hS, hR, hC⟩ := HX
  rw [hS, hR]
  have HC := Lib.hid hC
  clear hS hR hC
  clear hF hK hq
  go_enter Tryz.func181, Tryz.ntmps181
  go_wp2_with fail
  refine (HC.out w).mono ?_
  rintro x w1 ⟨rfl, rfl⟩
  go_wp2_with fail
  go_ret
  exact ⟨rfl, rfl⟩
set_option maxRecDepth 100000 in
set_option maxHeartbeats 400000 in
theorem ldexp_nought (e : Int) (w : World) :
    Calls Tryz.prog 181 #[.float .f64 0, .int .i64 e] w (fun x w' => x = .returned (.float .f64 0) ∧ w = w') := by
  have ho : (FloatKind.f64.format.order 0 0 == some .eq) = true := by kernel_rfl
  have HC : Hid (∀ w, Calls Tryz.prog 201 #[.float .f64 0, .int .i64 e] w (fun x w' => x = .returned (.float .f64 0) ∧ w = w')) := by
    intro w
    go_enter Tryz.func201, Tryz.ntmps201
    go_wp2_with fail
    go_ret
    exact ⟨rfl, rfl⟩
  go_enter Tryz.func181, Tryz.ntmps181
  go_wp2_with fail
  refine (HC.out w).mono ?_
  rintro x w1 ⟨rfl, rfl⟩
  go_wp2_with fail
  go_ret
  exact ⟨rfl, rfl⟩
theorem float_of_nought : floatOfInt .f64 0 = 0 := by kernel_rfl
end Go.Proofs.YtfkogkcpndaoeaaGreat
namespace Go.Proofs.YtfkogkcpndaoeaaGreat
open Go.RowKit
def limB (s : Nat) : Bool := (FloatKind.f32.format.order s 0 == some .gt || FloatKind.f32.format.order s 0 == some .eq) && !(FloatKind.f32.format.order s 2139095039 == some .gt)
theorem lim_read (s : Nat) : (∃ neg mag place, Ieee.single.read s = .number neg mag place ∧ mag < 16777216 ∧ -149 ≤ place ∧ place ≤ 104) ∨ (∃ neg, Ieee.single.read s = .infinity neg) ∨ (∃ neg t, Ieee.single.read s = .nan neg t) := by
  have hr : Ieee.single.read s = (if s % Ieee.single.signWeight < Ieee.single.binade then .number (s / Ieee.single.signWeight % 2 == 1) (s % Ieee.single.signWeight) Ieee.single.leastPlace else if s % Ieee.single.signWeight < Ieee.single.infRung then .number (s / Ieee.single.signWeight % 2 == 1) (Ieee.single.binade + s % Ieee.single.signWeight % Ieee.single.binade) (Ieee.single.leastPlace + (s % Ieee.single.signWeight / Ieee.single.binade - 1 : Nat)) else if s % Ieee.single.signWeight = Ieee.single.infRung then .infinity (s / Ieee.single.signWeight % 2 == 1) else .nan (s / Ieee.single.signWeight % 2 == 1) (s % Ieee.single.signWeight - Ieee.single.infRung)) := rfl
  rw [lp_single, bin_single, inf_single] at hr
  generalize s % Ieee.single.signWeight = r at *
  generalize (s / Ieee.single.signWeight % 2 == 1) = neg at *
  by_cases c1 : r < 8388608
  · rw [if_pos c1] at hr
    exact .inl ⟨_, _, _, hr, by omega, by omega, by omega⟩
  · rw [if_neg c1] at hr
    by_cases c2 : r < 2139095040
    · rw [if_pos c2] at hr
      exact .inl ⟨_, _, _, hr, by omega, by omega, by omega⟩
    · rw [if_neg c2] at hr
      by_cases c3 : r = 2139095040
      · rw [if_pos c3] at hr
        exact .inr (.inl ⟨_, hr⟩)
      · rw [if_neg c3] at hr
        exact .inr (.inr ⟨_, _, hr⟩)
theorem lim_orders (s : Nat) : limB s = (((Ieee.single.read s).order (.number false 0 (-149)) == some .gt || (Ieee.single.read s).order (.number false 0 (-149)) == some .eq) && !((Ieee.single.read s).order (.number false 16777215 104) == some .gt)) := by
  have o1 : FloatKind.f32.format.order s 0 = (Ieee.single.read s).order (.number false 0 (-149)) := by rw [← read_zero]; rfl
  have o2 : FloatKind.f32.format.order s 2139095039 = (Ieee.single.read s).order (.number false 16777215 104) := by rw [← read_top]; rfl
  unfold limB
  rw [o1, o2]
theorem ord_gt {a b : Int} (h : b < a) : (some (compare a b) == some Ordering.gt) = true := by
  rw [beq_iff_eq, Option.some.injEq, Int.compare_eq_gt]; exact h
theorem lim_number {s : Nat} {neg : Bool} {mag : Nat} {place : Int} (h : Ieee.single.read s = .number neg mag place) (hm : mag < 16777216) (hp : -149 ≤ place) (hp2 : place ≤ 104) : limB s = !(neg && decide (0 < mag)) := by
  rw [lim_orders, h]
  have top : ((Ieee.Datum.number neg mag place).order (.number false 16777215 104) == some .gt) = false := by
    unfold Ieee.Datum.order
    dsimp only
    refine ord_le ?_
    unfold Ieee.signed
    simp only [Bool.false_eq_true, if_false, Nat.shiftLeft_eq, show min place 104 = place by omega, Int.sub_self, Int.toNat_zero, Nat.pow_zero, Nat.mul_one]
    have h3 := Nat.mul_le_mul_left 16777215 (Nat.two_pow_pos ((104 : Int) - place).toNat)
    generalize 2 ^ ((104 : Int) - place).toNat = t at *
    split <;> omega
  rw [top, Bool.not_false, Bool.and_true]
  unfold Ieee.Datum.order
  dsimp only
  unfold Ieee.signed
  simp only [Bool.false_eq_true, if_false, Nat.shiftLeft_eq, Nat.zero_mul]
  have hpos := Nat.two_pow_pos (place - min place (-149)).toNat
  generalize 2 ^ (place - min place (-149)).toNat = t at *
  rcases Nat.eq_zero_or_pos mag with h0 | h0
  · subst h0
    rw [Nat.zero_mul]
    cases neg <;> simp
  · have hmt : 0 < mag * t := Nat.mul_pos h0 hpos
    generalize mag * t = u at *
    cases neg
    · simp only [Bool.false_eq_true, if_false]
      rw [ord_gt (by omega)]
      simp
    · simp only [if_true]
      rw [ord_le (by omega), ord_ne (by omega)]
      simp [h0]
theorem lim_inf {s : Nat} {neg : Bool} (h : Ieee.single.read s = .infinity neg) : limB s = false := by
  rw [lim_orders, h]
  cases neg <;> rfl
theorem lim_nan {s : Nat} {neg : Bool} {t : Nat} (h : Ieee.single.read s = .nan neg t) : limB s = false := by
  rw [lim_orders, h]
  rfl
theorem fq_neg {T : Nat} (h : T < 9223372036854775808) : fq (9223372036854775808 + T) = -fq T ∧ fexp (9223372036854775808 + T) = fexp T := by
  have e1 : fexp (9223372036854775808 + T) = fexp T := by unfold fexp; omega
  have e2 : fman (9223372036854775808 + T) = fman T := by unfold fman; rw [e1]; split <;> omega
  have e3 : fneg (9223372036854775808 + T) = true := by unfold fneg; rw [decide_eq_true_iff]; omega
  have e4 : fneg T = false := by unfold fneg; rw [decide_eq_false_iff_not]; omega
  refine ⟨?_, e1⟩
  unfold fq fz fup
  rw [e1, e2, e3, e4]
  have a1 : sgn true (fman T) = -(fman T : Int) := rfl
  have a2 : sgn false (fman T) = (fman T : Int) := rfl
  rw [a1, a2, Int.neg_mul, Rat.intCast_neg, Rat.div_def, Rat.div_def, Rat.neg_mul]
theorem fq_nought : fq 0 = 0 := by
  unfold fq
  rw [show fz 0 = 0 by decide, Int.zero_mul, Rat.div_def]
  exact Rat.zero_mul _
theorem ratio_pos {n : Int} {d : Nat} (h : 0 < n) (hd : 0 < d) : (0 : Rat) < (n : Rat) / ((d : Int) : Rat) := by
  rw [Rat.div_def]
  exact Rat.mul_pos (by have : ((0 : Int) : Rat) < (n : Rat) := Rat.intCast_lt_intCast.2 h; simpa using this) (Rat.inv_pos.2 (rat_pos hd))
theorem parts_pos {p m : Nat} (hm : m < 4503599627370496) (hp : p ≤ 2000) : 0 < fq ((p + 1) * 4503599627370496 + m) := by
  rw [parts_fq hm hp]
  exact ratio_pos (Int.mul_pos (by omega) (by have := Nat.two_pow_pos p; omega)) (Nat.two_pow_pos 1074)
theorem fin_neg0 : Fin 9223372036854775808 := ⟨by decide, ⟨0, by kernel_rfl, by kernel_rfl⟩, by kernel_rfl⟩
theorem fin_0 : Fin 0 := ⟨by decide, ⟨0, by kernel_rfl, by kernel_rfl⟩, by kernel_rfl⟩
theorem parts_read_neg {p m : Nat} (hm : m < 4503599627370496) (hp : p ≤ 2000) : Ieee.double.read (9223372036854775808 + ((p + 1) * 4503599627370496 + m)) = .number true (4503599627370496 + m) ((p : Int) - 1074) := by
  have hsw : Ieee.double.signWeight = 9223372036854775808 := by kernel_rfl
  have h := read_word Ieee.double true ((p : Int) - 1074) (4503599627370496 + m) (by rw [p53]; omega) (by rw [lp_double]; omega) (.inl (by rw [p52]; omega)) (by
    rw [lp_double, bin_double, inf_double, show ((p : Int) - 1074 - -1074).toNat = p by omega]
    have h4 := Nat.mul_le_mul_right 4503599627370496 hp
    omega)
  rw [rung_mid rfl hm (by omega), word_true, hsw] at h
  exact h
theorem lim_widens {s : Nat} {neg : Bool} {mag : Nat} {place : Int} (h : Ieee.single.read s = .number neg mag place) (hm : mag < 16777216) (hp : -149 ≤ place) (hp2 : place ≤ 104) :
    ∃ S, floatToFloatBits .f32 s .f64 = some S ∧ S < 18446744073709551616 ∧ fexp S ≠ 2047 ∧ (limB s = true → Fin S ∧ 0 ≤ fq S) ∧ (limB s = false → fq S < 0) := by
  have hl := lim_number h hm hp hp2
  have hw : ∀ S : Nat, Ieee.double.nearest neg mag place = S → (∃ n m e, Ieee.double.read S = .number n m e) → floatToFloatBits .f32 s .f64 = some S := by
    intro S hS ⟨n, m, e, hr⟩
    unfold floatToFloatBits
    rw [if_neg (by decide), show FloatKind.f32.decode s = .number neg mag place from h]
    have h5 : FloatKind.f64.encode (.number neg mag place) = S := hS
    simp only [h5]
    rw [show FloatKind.f64.decode S = .number n m e from hr]
    rfl
  rcases Nat.eq_zero_or_pos mag with h0 | h0
  · subst h0
    have hl2 : limB s = true := by rw [hl]; simp
    cases neg
    · refine ⟨0, hw 0 (by unfold Ieee.Format.nearest; simp [Ieee.Format.word]) ⟨_, _, _, read_nought⟩, by omega, by decide, fun _ => ⟨fin_0, by rw [fq_nought]; exact Rat.le_refl⟩, fun e => by rw [hl2] at e; cases e⟩
    · refine ⟨9223372036854775808, hw _ (by unfold Ieee.Format.nearest; rw [if_pos rfl, word_true]; kernel_rfl) ⟨true, 0, -1074, by kernel_rfl⟩, by omega, by decide, fun _ => ⟨fin_neg0, ?_⟩, fun e => by rw [hl2] at e; cases e⟩
      have := (fq_neg (T := 0) (by omega)).1
      rw [fq_nought] at this
      rw [show (9223372036854775808 : Nat) = 9223372036854775808 + 0 from rfl, this]
      simp
  · obtain ⟨p, m, hn, hm2, hp3, hs⟩ := double_parts mag place h0 (by omega) hp (by omega)
    have hlt := parts_lt hm2 hp3
    have he := parts_exp hm2 hp3
    have hpos := parts_pos hm2 hp3
    cases neg
    · refine ⟨_, hw _ hn ⟨_, _, _, parts_read hm2 hp3⟩, by omega, by rw [he]; omega, fun _ => ⟨parts_fin hm2 hp3, Rat.le_of_lt hpos⟩, fun e => by rw [hl] at e; simp at e⟩
    · have hl2 : limB s = false := by rw [hl]; simp [h0]
      have hsw : Ieee.double.signWeight = 9223372036854775808 := by kernel_rfl
      obtain ⟨q1, q2⟩ := fq_neg hlt
      refine ⟨9223372036854775808 + ((p + 1) * 4503599627370496 + m), hw _ (by rw [double_neg _ _ h0, hn, hsw]) ⟨true, 4503599627370496 + m, (p : Int) - 1074, ?_⟩, by omega, by rw [q2, he]; omega, (fun e => by rw [hl2] at e; cases e), fun _ => ?_⟩
      · exact parts_read_neg hm2 hp3
      · rw [q1]
        generalize fq ((p + 1) * 4503599627370496 + m) = z at *
        have := Rat.neg_lt_neg hpos
        simpa using this
theorem nan_parts (T : Nat) : T % 2 * 2 ^ 63 + 0x7ff0000000000000 + 1 + T / 2 % (2 ^ 52 - 1) < 18446744073709551616 ∧ fexp (T % 2 * 2 ^ 63 + 0x7ff0000000000000 + 1 + T / 2 % (2 ^ 52 - 1)) = 2047 := by
  have h1 : T / 2 % (2 ^ 52 - 1) < 2 ^ 52 - 1 := Nat.mod_lt _ (by omega)
  generalize T / 2 % (2 ^ 52 - 1) = x at *
  unfold fexp
  rcases Nat.mod_two_eq_zero_or_one T with h | h
  · rw [h]; omega
  · rw [h]; omega
theorem lim_out {s : Nat} (h : (∃ neg, Ieee.single.read s = .infinity neg) ∨ (∃ neg t, Ieee.single.read s = .nan neg t)) (w : World) :
    ∃ S w', (convert 31 169 (.float .f32 s)).run Tryz.prog w = .ok (.float .f64 S) w' ∧ S < 18446744073709551616 ∧ fexp S = 2047 ∧ (w' = w ∨ w' = w.drew) := by
  rcases h with ⟨neg, h⟩ | ⟨neg, t, h⟩
  · refine ⟨Ieee.double.word neg Ieee.double.infRung, w, run_convert_float_float w _ _ .f32 .f64 s _ (by rw [Tryz.underlying31]; rfl) Tryz.underlying169 ?_, by cases neg <;> decide, by cases neg <;> decide, .inl rfl⟩
    unfold floatToFloatBits
    rw [if_neg (by decide), show FloatKind.f32.decode s = .infinity neg from h]
    rfl
  · have hq : (Question.nanConv .f64 s).forced = false := rfl
    refine ⟨(Question.nanConv .f64 s).cut (w.tape w.drawn (Question.nanConv .f64 s)), w.drew, ?_, ?_, ?_, .inr rfl⟩
    · obtain ⟨u, hu⟩ : ∃ u, Tryz.prog.underlying 31 = some u := ⟨_, Tryz.underlying31⟩
      have he : FloatKind.f32.decode s = .nan neg t := h
      cases u <;> simp [convert, run_underlying hu, run_underlying Tryz.underlying169, Conv.floatToFloat, he, hq]
    · have hk := nan_parts (w.tape w.drawn (Question.nanConv .f64 s))
      exact hk.1
    · have hk := nan_parts (w.tape w.drawn (Question.nanConv .f64 s))
      exact hk.2
end Go.Proofs.YtfkogkcpndaoeaaGreat
