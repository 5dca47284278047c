/- The reference's nearest floats: NatBit, float, split. Conditions: fewer than 2^30 bits. -/
import Derived.Test.YtohnlmfmpflbpaaGreatMF32
import Derived.Test.YtohnlmfmpflbpaaGreatMRFloatA
set_option linter.unusedSimpArgs false
set_option linter.unusedVariables false
set_option linter.all false
namespace Go.Proofs.YtohnlmfmpflbpaaGreat
open Go.RowKit

theorem nval_even {xs : List Nat} {x : Nat} (h : xs[0]? = some x) : nval xs % 2 = x % 2 := by
  have := drop_step h
  rw [List.drop_zero] at this
  omega

set_option maxHeartbeats 400000 in
theorem rbit0_spec (v : Value) (n : Nat) (w : World) (h : NatRep w v n) :
    Calls Tryz.prog 111 #[v, .int .i64 0] w (RetQ w fun v' => v' = .int .u32 ((n % 2 : Nat) : Int)) := by
  obtain ⟨xs, h1, h2, rfl⟩ := h
  obtain ⟨a, lx, cx, rfl, Hlx, hlcx, hmx, hX, wX⟩ := h1.any
  by_cases hx0 : lx = 0
  · subst hx0
    have e : xs = [] := List.eq_nil_of_length_eq_zero Hlx.out
    go_enter Tryz.func111, Tryz.ntmps111
    go_wp2
    go_ret
    subst e
    exact ⟨_, rfl, by simp [nval], rfl⟩
  · have hl0 : 0 < lx := by omega
    obtain ⟨x, hx⟩ := get_lt Hlx (i := 0) hl0
    obtain ⟨b, o, rfl, hc⟩ := hX.at hx
    rw [Nat.add_zero] at hc
    have hxb := wX _ (List.mem_of_getElem? hx)
    have He := Lib.hid (nval_even hx)
    have hand : bits .and .u32 (x : Int) 1 = ((x % 2 : Nat) : Int) := by
      rw [show (1 : Int) = ((1 : Nat) : Int) from rfl, u32_and_nat _ _ hxb (by omega), Nat.and_one_is_mod]
    obtain ⟨r, hr⟩ : ∃ r, r = x % 2 := ⟨_, rfl⟩
    rw [← hr] at hand
    have Hr := Lib.hid hr
    have hlx : ¬ ((lx : Int) ≤ 0) := by omega
    clear hx hr
    go_enter Tryz.func111, Tryz.ntmps111
    go_wp2
    go_ret
    exact ⟨_, rfl, int_of (by have := He.out; have := Hr.out; omega), rfl⟩

/-- The word of infinity. -/
def infW : Nat := 9218868437227405312
theorem run_ffinf (w : World) : (callFunc 146 #[.int .u64 9218868437227405312]).run Tryz.prog w = .ok (.value (.float .f64 infW)) w := run_ff64 infW w

set_option maxRecDepth 100000 in
set_option maxHeartbeats 400000 in
theorem inf_spec (w : World) : Calls Tryz.prog 115 #[.int .i64 1] w (fun e w' => e = .returned (.float .f64 infW) ∧ w = w') := by
  have hrun := run_ffinf
  go_enter Tryz.func115, Tryz.ntmps115
  go_wp2_with fail
  go_ret
  exact ⟨rfl, rfl⟩

theorem rung_over {g : Int} {x : Nat} (h1 : 4503599627370496 ≤ x) (h2 : 2046 < g + 1075) : rung Ieee.double g x = infW := by
  unfold rung
  rw [lp_double, bin_double, inf_double]
  refine Nat.min_eq_right ?_
  have h3 : 2046 ≤ (g - -1074).toNat := by omega
  have h4 := Nat.mul_le_mul_right 4503599627370496 h3
  refine Nat.le_trans ?_ (Nat.add_le_add h4 h1)
  exact Nat.le_of_ble_eq_true rfl
theorem rung_low {x : Nat} (h : x < 4503599627370496) : rung Ieee.double (-1074) x = x := by
  unfold rung
  rw [lp_double, bin_double, inf_double, show ((-1074 : Int) - -1074).toNat = 0 from rfl, Nat.zero_mul, Nat.zero_add]
  exact Nat.min_eq_left (by omega)
theorem rung_mid {p m x : Nat} (hx : x = 4503599627370496 + m) (hm : m < 4503599627370496) (hp : p ≤ 2045) : rung Ieee.double ((p : Int) - 1074) x = (p + 1) * 4503599627370496 + m := by
  unfold rung
  rw [lp_double, bin_double, inf_double, show ((p : Int) - 1074 - -1074).toNat = p by omega, hx, Nat.add_mul, Nat.one_mul, Nat.add_assoc]
  refine Nat.min_eq_left ?_
  exact Nat.le_trans (Nat.add_le_add (Nat.mul_le_mul_right 4503599627370496 hp) (Nat.add_le_add_left (Nat.le_of_lt hm) 4503599627370496)) (Nat.le_of_ble_eq_true rfl)
theorem or_mid {p m : Nat} (hm : m < 4503599627370496) (hp : p ≤ 2045) : bits .or .u64 (((p : Int) + 1) * 4503599627370496) (m : Int) = (((p + 1) * 4503599627370496 + m : Nat) : Int) := by
  have h4 := Nat.mul_le_mul_right 4503599627370496 (show p + 1 ≤ 2046 by omega)
  have e := Nat.two_pow_add_eq_or_of_lt (i := 52) (b := m) (by simpa using hm) (p + 1)
  rw [show ((p : Int) + 1) * 4503599627370496 = ((2 ^ 52 * (p + 1) : Nat) : Int) by rw [Int.natCast_mul, Int.mul_comm]; rfl, u64_or_nat _ _ (by omega) (by omega), ← e, Nat.mul_comm]

/-- What 'float' leaves of its digits. -/
theorem float_end {n x : Nat} {e g : Int} {j : Nat} (hn : 0 < n) (hx : x = n * 2 ^ j) (hg : g = e - j) (hlt : x < 9007199254740992) (hlow : -1074 ≤ g) (hc : 4503599627370496 ≤ x ∨ g = -1074) : Ieee.double.nearest false n e = rung Ieee.double g x := by
  have hs : SameVal n e x g := ⟨j, 0, by rw [hx]; simp, by omega⟩
  rw [nearest_same Ieee.double false hs, nearest_digits Ieee.double false g x (by rw [p53]; omega) (by rw [lp_double]; omega) (by rw [lp_double, p52]; exact hc), word_false]

set_option maxRecDepth 100000 in
set_option maxHeartbeats 1600000 in
theorem float_spec (v : Value) (n : Nat) (e : Int) (w : World) (h : NatRep w v n) (hn : 0 < n) (hn2 : n < 9007199254740992) (he : -1074 ≤ e) (he2 : e ≤ 100000) :
    Calls Tryz.prog 116 #[v, .int .i64 e] w (fun x w' => x = .returned (.float .f64 (Ieee.double.nearest false n e)) ∧ Below w.heap.size w w') := by
  obtain ⟨xs, h1, h2, rfl⟩ := h
  obtain ⟨a, lx, cx, rfl, Hlx, hlcx, hmx, hX, wX⟩ := h1.any
  have hrun := run_ff64
  have hl0 : lx ≠ 0 := fun h0 => by
    have h3 := Hlx.out
    rw [h0] at h3
    rw [List.eq_nil_of_length_eq_zero h3] at hn
    simp [nval] at hn
  have hl2 : lx ≤ 2 := by
    have h3 := len_of_lt h2 (k := 53) (by omega)
    rw [Hlx.out] at h3
    omega
  have hl1 : ((lx : Int) == 0) = false := by simp; omega
  obtain ⟨N, hN⟩ : ∃ N, N = nval xs := ⟨_, rfl⟩
  rw [← hN] at hn hn2 ⊢
  have HN := Lib.hid hN
  clear hN
  go_enter Tryz.func116, Tryz.ntmps116
  go_wp2
  go_loop [5, 6] (fun xv iv => ∃ k y : Nat, k ≤ lx ∧ iv = .int .i64 ((k : Int) - 1) ∧ xv = .int .u64 (y : Int) ∧ y < 9007199254740992 ∧ Hid (y = nval (xs.drop k))) (fun _ iv => (intOf iv + 1).toNat)
  case atStart => exact ⟨lx, 0, Nat.le_refl _, rfl, rfl, by omega, show _ = _ by rw [List.drop_of_length_le (by rw [Hlx.out]; omega)]; rfl⟩
  case round =>
    obtain ⟨k, y, hk, rfl, rfl, hyb, Hy⟩ := hrel
    by_cases hk0 : k = 0
    · subst hk0
      obtain rfl : y = N := by rw [Hy.out, List.drop_zero, HN.out]
      clear Hy
      go_wp2
      go_loop [1, 5] (fun ev xv => ∃ (j x : Nat) (g : Int), ev = .int .i64 g ∧ xv = .int .u64 (x : Int) ∧ x < 9007199254740992 ∧ Hid (x = y * 2 ^ j) ∧ g = e - j ∧ -1074 ≤ g) (fun ev _ => (intOf ev + 1074).toNat)
      case atStart => exact ⟨0, y, e, rfl, rfl, hyb, show _ = _ by simp, by omega, he⟩
      case round =>
        obtain ⟨j, x, g, rfl, rfl, hxb, Hx, hg, hlow⟩ := hrel
        have Hg := Lib.hid hg
        have hg2 : g ≤ 100000 := by omega
        clear hg
        by_cases hx52 : x < 4503599627370496
        · by_cases hge : -1074 < g
          · have d1 : decide ((x : Int) < 4503599627370496) = true := by simp; omega
            have d2 : decide ((-1074 : Int) < g) = true := by simp; omega
            have hx2 : x * 2 < 9007199254740992 := by omega
            clear hx52
            go_wp2
            go_round
            case rel => exact ⟨j + 1, x * 2, g - 1, rfl, int_of (by omega), by omega, show _ = _ by rw [Hx.out, Nat.pow_succ]; ac_rfl, by have := Hg.out; omega, by omega⟩
            case measure => simp [intOf]; omega
          · obtain rfl : g = -1074 := by omega
            have hfin := Lib.hid (float_end hn Hx.out Hg.out hxb (by omega) (.inr rfl))
            have hru := rung_low hx52
            have d1 : decide ((x : Int) < 4503599627370496) = true := by simp; omega
            clear hx52
            have Hru := Lib.hid hru
            clear hru
            go_wp2
            go_ret
            refine ⟨?_, Below.refl _ _⟩
            rw [hfin.out, Hru.out]
            rfl
        · have hfin := Lib.hid (float_end hn Hx.out Hg.out hxb hlow (.inl (by omega)))
          by_cases hbig : 2046 < g + 1075
          · have hru := rung_over (x := x) (g := g) (by omega) hbig
            have d1 : decide ((x : Int) < 4503599627370496) = false := by simp; omega
            have d2 : decide (2046 < g + 1075) = true := by simp; omega
            clear hx52 hbig
            have Hru := Lib.hid hru
            clear hru
            go_wp2_with fail
            refine (inf_spec _).mono ?_
            rintro e w' ⟨rfl, rfl⟩
            go_wp2_with fail
            go_ret
            refine ⟨?_, Below.refl _ _⟩
            rw [hfin.out, Hru.out]
            rfl
          · obtain ⟨p, hp⟩ : ∃ p : Nat, g = (p : Int) - 1074 := ⟨(g + 1074).toNat, by omega⟩
            obtain ⟨m, hm⟩ : ∃ m : Nat, x = 4503599627370496 + m := ⟨x - 4503599627370496, by omega⟩
            have hmb : m < 4503599627370496 := by omega
            have hand : bits .and .u64 (x : Int) 4503599627370495 = (m : Int) := by rw [and_man x (by omega), hm, Nat.add_mod_left, Nat.mod_eq_of_lt hmb]
            have hpb : p ≤ 2045 := by omega
            have hru := rung_mid hm hmb hpb
            rw [← hp] at hru
            have hor := or_mid hmb hpb
            have d1 : decide ((x : Int) < 4503599627370496) = false := by simp; omega
            obtain ⟨r, hr⟩ : ∃ r : Nat, r = (p + 1) * 4503599627370496 + m := ⟨_, rfl⟩
            rw [← hr] at hor hru
            have hrr : r < 18446744073709551616 := by have := Nat.mul_le_mul_right 4503599627370496 (show p + 1 ≤ 2046 by omega); omega
            have Hru := Lib.hid hru
            have eg : g + 1075 = (p : Int) + 1 := by omega
            have d2 : decide ((2046 : Int) < (p : Int) + 1) = false := by simp; omega
            have Hp := Lib.hid hp
            clear hru hm hr hp hx52 hbig
            go_wp2_with fail
            go_ret
            refine ⟨?_, Below.refl _ _⟩
            rw [hfin.out, Hru.out]
            rfl
    · obtain ⟨m, rfl⟩ : ∃ m, k = m + 1 := ⟨k - 1, by omega⟩
      obtain ⟨z, hz⟩ := get_lt Hlx (i := m) (by omega)
      obtain ⟨bz, oz, rfl, hcz⟩ := hX.at hz
      have hzb := wX _ (List.mem_of_getElem? hz)
      have hst := drop_step hz
      have hdl : nval (xs.drop m) ≤ nval xs := by
        have := nval_split hz
        have h3 := nval_drop wX m
        rw [← h3]
        exact Nat.div_le_self _ _
      rw [← Hy.out] at hst
      have hy32 : y < 4294967296 := by have := HN.out; omega
      have hor := or_high y z hy32 hzb
      have ei : (((m + 1 : Nat) : Int) - 1) = (m : Int) := by omega
      rw [ei]
      obtain ⟨V, hV⟩ : ∃ V, V = nval (xs.drop m) := ⟨_, rfl⟩
      rw [← hV] at hst hdl
      have hVi : (y : Int) * 4294967296 + (z : Int) = (V : Int) := by omega
      rw [hVi] at hor
      have hVb : V < 9007199254740992 := by have := HN.out; omega
      have HV := Lib.hid hV
      clear hz hst hdl hV hVi
      go_wp2
      go_round
      case rel => exact ⟨m, V, by omega, rfl, rfl, hVb, HV.out⟩
      case measure => simp [intOf]
end Go.Proofs.YtohnlmfmpflbpaaGreat
