/- Plain facts on the check sum: the reference's way (a bit at a time at the top) is the same; a changed byte changes it. Conditions: none. -/
import Derived.Test.YtohnlmfmpflbpaaGreatMSum
set_option linter.unusedSimpArgs false
set_option linter.unusedVariables false
set_option linter.all false
namespace Go.Proofs.YtohnlmfmpflbpaaGreat

/-- One step of the reference: the bit i enters at the top. -/
def refBit (r i : Nat) : Nat := if r / 32768 % 2 ≠ i then (2 * r % 65536) ^^^ 4129 else 2 * r % 65536

theorem xor_top {r y : Nat} : (r ^^^ y) / 32768 % 2 = (r / 32768 % 2 + y / 32768 % 2) % 2 := by
  have h1 : (r ^^^ y).testBit 15 = (r.testBit 15 != y.testBit 15) := by rw [Nat.testBit_xor]
  simp only [Nat.testBit_eq_decide_div_mod_eq] at h1
  have e : (2 : Nat) ^ 15 = 32768 := rfl
  rw [e] at h1
  have a1 : r / 32768 % 2 < 2 := Nat.mod_lt _ (by omega)
  have a2 : y / 32768 % 2 < 2 := Nat.mod_lt _ (by omega)
  have a3 : (r ^^^ y) / 32768 % 2 < 2 := Nat.mod_lt _ (by omega)
  generalize (r ^^^ y) / 32768 % 2 = A at *
  generalize r / 32768 % 2 = B at *
  generalize y / 32768 % 2 = C at *
  rcases (show A = 0 ∨ A = 1 by omega) with rfl | rfl <;> rcases (show B = 0 ∨ B = 1 by omega) with rfl | rfl <;> rcases (show C = 0 ∨ C = 1 by omega) with rfl | rfl <;> simp at h1 ⊢

theorem double_xor {r y : Nat} : 2 * (r ^^^ y) % 65536 = (2 * r % 65536) ^^^ (2 * y % 65536) := by
  apply Nat.eq_of_testBit_eq
  intro i
  have e : (65536 : Nat) = 2 ^ 16 := rfl
  rw [Nat.testBit_xor, e, Nat.testBit_mod_two_pow, Nat.testBit_mod_two_pow, Nat.testBit_mod_two_pow]
  by_cases h : i < 16
  · simp only [h, decide_true, Bool.true_and]
    cases i with
    | zero => simp [Nat.testBit_zero]
    | succ i =>
      rw [Nat.mul_comm 2, Nat.mul_comm 2, Nat.mul_comm 2]
      simp [Nat.testBit_succ, Nat.testBit_xor]
  · simp [h]

theorem crcBit_top {r : Nat} (hr : r < 65536) : crcBit r = if r / 32768 % 2 = 1 then (2 * r % 65536) ^^^ 4129 else 2 * r % 65536 := by
  unfold crcBit
  by_cases h : 32768 ≤ r
  · rw [if_pos h, if_pos (by omega)]
  · rw [if_neg h, if_neg (by omega)]

theorem crc_ref_step {r y : Nat} (hr : r < 65536) (hy : y < 65536) : crcBit (r ^^^ y) = refBit r (y / 32768 % 2) ^^^ (2 * y % 65536) := by
  have hlt : r ^^^ y < 65536 := Nat.xor_lt_two_pow (n := 16) hr hy
  rw [crcBit_top hlt, xor_top, double_xor]
  unfold refBit
  have a1 : r / 32768 % 2 < 2 := Nat.mod_lt _ (by omega)
  have a2 : y / 32768 % 2 < 2 := Nat.mod_lt _ (by omega)
  by_cases h : r / 32768 % 2 ≠ y / 32768 % 2
  · rw [if_pos h, if_pos (by omega), Nat.xor_assoc, Nat.xor_assoc, Nat.xor_comm (2 * y % 65536)]
  · rw [if_neg h, if_neg (by omega)]

/-- The reference's steps for the byte x: its bits from the highest on. -/
def refSteps (x : Nat) : Nat → Nat → Nat
  | 0, r => r
  | j + 1, r => refBit (refSteps x j r) (x / 2 ^ (7 - j) % 2)

theorem refBit_lt (r i : Nat) : refBit r i < 65536 := by
  unfold refBit
  split
  · exact Nat.xor_lt_two_pow (n := 16) (Nat.mod_lt _ (by omega)) (by omega)
  · exact Nat.mod_lt _ (by omega)
theorem refSteps_lt {x : Nat} : ∀ {j r : Nat}, r < 65536 → refSteps x j r < 65536
  | 0, _, h => h
  | _ + 1, _, _ => refBit_lt _ _

theorem steps_eq {x r : Nat} (hx : x < 256) (hr : r < 65536) : ∀ j, j ≤ 8 → crcBits j (r ^^^ (x * 256)) = refSteps x j r ^^^ (x * 256 * 2 ^ j % 65536)
  | 0, _ => by
    show r ^^^ (x * 256) = r ^^^ (x * 256 * 1 % 65536)
    rw [Nat.mul_one, Nat.mod_eq_of_lt (by omega)]
  | j + 1, h => by
    rw [crcBits_succ, steps_eq hx hr j (by omega), crc_ref_step (refSteps_lt hr) (Nat.mod_lt _ (by omega))]
    have e1 : x * 256 * 2 ^ j % 65536 / 32768 % 2 = x / 2 ^ (7 - j) % 2 := by
      rcases (show j = 0 ∨ j = 1 ∨ j = 2 ∨ j = 3 ∨ j = 4 ∨ j = 5 ∨ j = 6 ∨ j = 7 by omega) with rfl | rfl | rfl | rfl | rfl | rfl | rfl | rfl <;> simp <;> omega
    have e2 : 2 * (x * 256 * 2 ^ j % 65536) % 65536 = x * 256 * 2 ^ (j + 1) % 65536 := by
      have h2 : x * 256 * 2 ^ (j + 1) = 2 * (x * 256 * 2 ^ j) := by rw [Nat.pow_succ, ← Nat.mul_assoc, Nat.mul_comm]
      rw [h2]
      generalize x * 256 * 2 ^ j = z
      omega
    rw [e1, e2]
    rfl
theorem byte_eq {x : UInt8} {r : Nat} (hr : r < 65536) : crcByte r x = refSteps x.toNat 8 r := by
  unfold crcByte
  rw [steps_eq x.toNat_lt hr 8 (Nat.le_refl _)]
  have : x.toNat * 256 * 2 ^ 8 % 65536 = 0 := by omega
  rw [this, Nat.xor_zero]

theorem xor_back {a b c : Nat} (h : a ^^^ c = b ^^^ c) : a = b := by
  have := congrArg (· ^^^ c) h
  simpa [Nat.xor_assoc, Nat.xor_self, Nat.xor_zero] using this
theorem xor_odd (z : Nat) : (2 * z ^^^ 4129) % 2 = 1 := by
  have h : (2 * z ^^^ 4129).testBit 0 = true := by rw [Nat.testBit_xor]; simp [Nat.testBit_zero]
  simpa [Nat.testBit_zero] using h
theorem crcBit_inj {r q : Nat} (hr : r < 65536) (hq : q < 65536) (h : crcBit r = crcBit q) : r = q := by
  have e1 : 2 * r % 65536 = 2 * (r % 32768) := by omega
  have e2 : 2 * q % 65536 = 2 * (q % 32768) := by omega
  have o1 := xor_odd (r % 32768)
  have o2 := xor_odd (q % 32768)
  unfold crcBit at h
  rw [e1, e2] at h
  by_cases c1 : 32768 ≤ r <;> by_cases c2 : 32768 ≤ q
  · rw [if_pos c1, if_pos c2] at h
    have := xor_back h
    omega
  · rw [if_pos c1, if_neg c2] at h
    omega
  · rw [if_neg c1, if_pos c2] at h
    omega
  · rw [if_neg c1, if_neg c2] at h
    omega
theorem crcBits_inj : ∀ (n : Nat) {r q : Nat}, r < 65536 → q < 65536 → crcBits n r = crcBits n q → r = q
  | 0, _, _, _, _, h => h
  | n + 1, _, _, hr, hq, h => crcBit_inj hr hq (crcBits_inj n crcBit_lt crcBit_lt h)
theorem byte_arg_lt {r : Nat} {x : UInt8} (hr : r < 65536) : r ^^^ (x.toNat * 256) < 65536 := Nat.xor_lt_two_pow (n := 16) hr (by have := x.toNat_lt; show x.toNat * 256 < 65536; omega)
/-- The check sum keeps states apart, and tells two bytes apart. -/
theorem crcByte_inj {r q : Nat} {x : UInt8} (hr : r < 65536) (hq : q < 65536) (h : crcByte r x = crcByte q x) : r = q := xor_back (crcBits_inj 8 (byte_arg_lt hr) (byte_arg_lt hq) h)
theorem crcByte_ne {r : Nat} {x y : UInt8} (hr : r < 65536) (h : crcByte r x = crcByte r y) : x = y := by
  have h1 := crcBits_inj 8 (byte_arg_lt hr) (byte_arg_lt hr) h
  rw [Nat.xor_comm r, Nat.xor_comm r] at h1
  have h2 := xor_back h1
  have : x.toNat = y.toNat := by omega
  exact UInt8.toNat_inj.1 this
theorem crcFold_inj : ∀ (l : List UInt8) (r q : Nat), r < 65536 → q < 65536 → List.foldl crcByte r l = List.foldl crcByte q l → r = q
  | [], r, q, _, _, h => h
  | x :: t, r, q, hr, hq, h => by
    rw [List.foldl_cons, List.foldl_cons] at h
    have h1 := crcByte_lt (r := r) (x := x) hr
    have h2 := crcByte_lt (r := q) (x := x) hq
    have h3 := crcFold_inj t (crcByte r x) (crcByte q x) h1 h2 h
    exact crcByte_inj hr hq h3
theorem fold_changed {s : Nat} (hs : s < 65536) {u v : List UInt8} {x y : UInt8} (h : (u ++ x :: v).foldl crcByte s = (u ++ y :: v).foldl crcByte s) : x = y := by
  rw [List.foldl_append, List.foldl_append, List.foldl_cons, List.foldl_cons] at h
  have hu := crc_fold u s hs
  generalize u.foldl crcByte s = r at *
  have h1 := crcByte_lt (r := r) (x := x) hu
  have h2 := crcByte_lt (r := r) (x := y) hu
  have h3 := crcFold_inj v (crcByte r x) (crcByte r y) h1 h2 h
  exact crcByte_ne hu h3
/-- One changed byte changes the check sum. -/
theorem crc_changed {u v : List UInt8} {x y : UInt8} (h : crc (u ++ x :: v) = crc (u ++ y :: v)) : x = y := by
  unfold crc at h
  generalize hs : 65535 = s at h
  exact fold_changed (by omega) h
end Go.Proofs.YtohnlmfmpflbpaaGreat
