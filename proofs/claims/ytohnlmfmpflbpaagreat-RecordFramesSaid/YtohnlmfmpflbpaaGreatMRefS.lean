/- The reference's check sum is the program's. Conditions: none. -/
import Derived.Test.YtohnlmfmpflbpaaGreatMCrc
set_option linter.unusedSimpArgs false
set_option linter.unusedVariables false
set_option linter.all false
namespace Go.Proofs.YtohnlmfmpflbpaaGreat
open Go.RowKit

theorem i64_and_nat (a b : Nat) (ha : a < 4294967296) (hb : b < 4294967296) : bits .and .i64 (a : Int) (b : Int) = ((a &&& b : Nat) : Int) := by
  have hx : a &&& b ≤ a := Nat.and_le_left
  show IntKind.i64.wrap ((BitVec.ofInt 64 (a : Int) &&& BitVec.ofInt 64 (b : Int)).toNat : Int) = _
  rw [BitVec.toNat_and, ofInt_u64 a (by omega), ofInt_u64 b (by omega)]
  exact IntWalk.i64_in _ (by omega)
theorem i64_xor_nat (a b : Nat) (ha : a < 65536) (hb : b < 65536) : bits .xor .i64 (a : Int) (b : Int) = ((a ^^^ b : Nat) : Int) := by
  have hx : a ^^^ b < 2 ^ 16 := Nat.xor_lt_two_pow (by omega) (by omega)
  show IntKind.i64.wrap ((BitVec.ofInt 64 (a : Int) ^^^ BitVec.ofInt 64 (b : Int)).toNat : Int) = _
  rw [BitVec.toNat_xor, ofInt_u64 a (by omega), ofInt_u64 b (by omega)]
  exact IntWalk.i64_in _ (by omega)
theorem and_one64 {a : Nat} (h : a < 4294967296) : bits .and .i64 (a : Int) 1 = ((a % 2 : Nat) : Int) := by
  have := i64_and_nat a 1 (by omega) (by omega)
  rw [Nat.and_one_is_mod] at this
  exact this
theorem and_low64 {a : Nat} (h : a < 4294967296) : bits .and .i64 (a : Int) 65535 = ((a % 65536 : Nat) : Int) := by
  have := i64_and_nat a 65535 (by omega) (by omega)
  rw [show (65535 : Nat) = 2 ^ 16 - 1 from rfl, Nat.and_two_pow_sub_one_eq_mod] at this
  exact this
/-- What one step of the reference computes. -/
theorem ref_step {q x j : Nat} (hq : q < 65536) (hx : x < 256) : ∃ A B M : Nat, bits .and .i64 ((q : Int) / 32768) 1 = (A : Int) ∧ bits .and .i64 ((x : Int) / 2 ^ (7 - j)) 1 = (B : Int) ∧ bits .and .i64 ((q : Int) * 2) 65535 = (M : Int) ∧ M < 65536 ∧
    bits .xor .i64 (M : Int) 4129 = ((M ^^^ 4129 : Nat) : Int) ∧ refBit q (x / 2 ^ (7 - j) % 2) = (if A = B then M else M ^^^ 4129) := by
  have hd : x / 2 ^ (7 - j) < 4294967296 := Nat.lt_of_le_of_lt (Nat.div_le_self _ _) (by omega)
  refine ⟨q / 32768 % 2, x / 2 ^ (7 - j) % 2, 2 * q % 65536, ?_, ?_, ?_, by omega, i64_xor_nat (2 * q % 65536) 4129 (by omega) (by omega), ?_⟩
  · exact and_one64 (a := q / 32768) (by omega)
  · have e : ((x : Int) / 2 ^ (7 - j)) = ((x / 2 ^ (7 - j) : Nat) : Int) := by rw [Int.natCast_ediv, Int.natCast_pow]; rfl
    rw [e]
    exact and_one64 hd
  · rw [show (q : Int) * 2 = ((2 * q : Nat) : Int) by omega]
    exact and_low64 (by omega)
  · unfold refBit
    by_cases h : q / 32768 % 2 = x / 2 ^ (7 - j) % 2
    · rw [if_neg (fun hn => hn h), if_pos h]
    · rw [if_pos h, if_neg h]

set_option maxRecDepth 100000 in
set_option maxHeartbeats 800000 in
theorem refSum_spec (a : Option Addr) (l : List UInt8) (n cap : Nat) (w : World) (hA : BytesA w a l) (Hn : Hid (l.length = n)) (hcap : n ≤ cap) (hmax : cap ≤ 9223372036854775807) :
    Calls Tryz.prog 33 #[.slice a n cap] w (fun e w' => e = .returned (.int .u16 (crc l : Nat)) ∧ w = w') := by
  go_enter Tryz.func33, Tryz.ntmps33
  go_wp2_with fail
  go_loop [3, 4] (fun rv iv => ∃ (k r : Nat), k ≤ n ∧ iv = .int .i64 (k : Int) ∧ rv = .int .i64 (r : Int) ∧ r < 65536 ∧ Hid (r = crc (l.take k))) (fun _ i => n - (intOf i).toNat)
  case atStart => exact ⟨0, 65535, Nat.zero_le _, rfl, rfl, by omega, by show _ = _; rw [List.take_zero]; rfl⟩
  case round =>
    obtain ⟨k, r, hk, rfl, rfl, hr, He⟩ := hrel
    by_cases hlt : k < n
    · obtain ⟨x, hx⟩ : ∃ x, l[k]? = some x := ⟨_, List.getElem?_eq_getElem (by have := Hn.out; omega)⟩
      obtain ⟨b, o, rfl, hc⟩ := hA.at hx
      have hx8 := x.toNat_lt
      have Hx := Lib.hid hx
      have hbyte : Hid (refSteps x.toNat 8 r = crcByte r x) := (byte_eq hr).symm
      clear hx
      go_wp2_with fail
      go_loop [3, 5] (fun rv iv => ∃ (j q : Nat), j ≤ 8 ∧ iv = .int .i64 (7 - (j : Int)) ∧ rv = .int .i64 (q : Int) ∧ q < 65536 ∧ Hid (q = refSteps x.toNat j r)) (fun _ i => (intOf i + 1).toNat)
      case atStart => exact ⟨0, r, Nat.zero_le _, rfl, rfl, hr, rfl⟩
      case round =>
        obtain ⟨j, q, hj, rfl, rfl, hq, Hq⟩ := hrel
        by_cases hj8 : j < 8
        · have i1 : (0 : Int) ≤ 7 - (j : Int) := by omega
          obtain ⟨A, B, M, e1, e2, e3, hM, e4, hst⟩ := ref_step (j := j) hq hx8
          have hsu : refSteps x.toNat (j + 1) r = refBit (refSteps x.toNat j r) (x.toNat / 2 ^ (7 - j) % 2) := rfl
          rw [← Hq.out, hst] at hsu
          have hx2 : M ^^^ 4129 < 65536 := Nat.xor_lt_two_pow (n := 16) hM (by omega)
          generalize M ^^^ 4129 = X at *
          clear hst
          by_cases hab : A = B
          · rw [if_pos hab] at hsu
            subst hab
            have HS := Lib.hid hsu
            clear hsu
            go_wp2_with fail
            go_round
            case rel => exact ⟨j + 1, M, by omega, by go_num, rfl, hM, HS.out.symm⟩
            case measure => simp [intOf]; omega
          · rw [if_neg hab] at hsu
            have hab' : ((A : Int) != (B : Int)) = true := by simp; omega
            have HS := Lib.hid hsu
            clear hsu
            go_wp2_with fail
            go_round
            case rel => exact ⟨j + 1, X, by omega, by go_num, rfl, hx2, HS.out.symm⟩
            case measure => simp [intOf]; omega
        · obtain rfl : j = 8 := by omega
          have hlt3 := crcByte_lt (r := r) (x := x) hr
          have HB : Hid (q = crcByte r x) := by show _ = _; rw [Hq.out, ← hbyte.out]
          clear hbyte
          go_wp2_with fail
          go_round
          case rel => exact ⟨k + 1, q, by omega, by go_num, rfl, hq, by show _ = _; rw [take_snoc Hx.out, crc_snoc, HB.out, He.out]⟩
          case measure => simp [intOf]; omega
    · obtain rfl : k = n := by omega
      have hfin : r = crc l := by rw [He.out, List.take_of_length_le (by rw [Hn.out]; omega)]
      have HF := Lib.hid hfin
      clear hfin
      go_wp2_with fail
      go_ret
      exact ⟨by rw [← HF.out]; rfl, rfl⟩
end Go.Proofs.YtohnlmfmpflbpaaGreat
