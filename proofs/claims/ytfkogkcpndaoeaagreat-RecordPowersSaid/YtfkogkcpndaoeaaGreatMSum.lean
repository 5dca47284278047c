/- The check sum of bytes. Conditions: none. -/
import Derived.Test.YtfkogkcpndaoeaaGreatMDec
set_option linter.all false
namespace Go.Proofs.YtfkogkcpndaoeaaGreat
open Go.RowKit
def crcBit (r : Nat) : Nat := if 32768 ≤ r then (2 * r % 65536) ^^^ 4129 else 2 * r % 65536
def crcBits : Nat → Nat → Nat
  | 0, r => r
  | n + 1, r => crcBits n (crcBit r)
def crcByte (r : Nat) (x : UInt8) : Nat := crcBits 8 (r ^^^ (x.toNat * 256))
def crc (l : List UInt8) : Nat := l.foldl crcByte 65535
theorem crcBit_lt {r : Nat} : crcBit r < 65536 := by
  unfold crcBit
  split
  · exact Nat.xor_lt_two_pow (n := 16) (Nat.mod_lt _ (by omega)) (by omega)
  · exact Nat.mod_lt _ (by omega)
theorem crcBits_lt : ∀ (n r : Nat), r < 65536 → crcBits n r < 65536
  | 0, _, h => h
  | n + 1, _, _ => crcBits_lt n _ crcBit_lt
theorem crcByte_lt {r : Nat} {x : UInt8} (h : r < 65536) : crcByte r x < 65536 :=
  crcBits_lt 8 (r ^^^ (x.toNat * 256)) (Nat.xor_lt_two_pow (n := 16) h (by have := x.toNat_lt; show x.toNat * 256 < 65536; omega))
theorem crc_snoc (l : List UInt8) (x : UInt8) : crc (l ++ [x]) = crcByte (crc l) x := by simp [crc]
theorem crc_fold (l : List UInt8) : ∀ r, r < 65536 → l.foldl crcByte r < 65536 := by
  induction l with
  | nil => intro r h; exact h
  | cons x t ih => intro r h; rw [List.foldl_cons]; exact ih _ (crcByte_lt h)
theorem crc_lt (l : List UInt8) : crc l < 65536 := by
  unfold crc
  exact crc_fold l 65535 (by omega)
theorem crcBits_succ : ∀ (n r : Nat), crcBits (n + 1) r = crcBit (crcBits n r)
  | 0, _ => rfl
  | n + 1, r => crcBits_succ n (crcBit r)
def BytesA (w : World) (a : Option Addr) (l : List UInt8) : Prop :=
  ∀ (i : Nat) (x : UInt8), l[i]? = some x → ∃ b o, a = some ⟨b, o, none⟩ ∧ w.cell? ⟨b, o + i, none⟩ = some (.int .u8 ((x.toNat : Nat) : Int))
theorem BytesA.at {w : World} {a : Option Addr} {l : List UInt8} (h : BytesA w a l) {i : Nat} {x : UInt8} (hx : l[i]? = some x) :
    ∃ b o, a = some ⟨b, o, none⟩ ∧ w.cell? ⟨b, o + i, none⟩ = some (.int .u8 ((x.toNat : Nat) : Int)) := h i x hx
theorem take_snoc {l : List UInt8} {k : Nat} {x : UInt8} (h : l[k]? = some x) : l.take (k + 1) = l.take k ++ [x] := by
  rw [List.take_add_one, h]; rfl
theorem and_top (r : Nat) (h : r < 65536) : r &&& 32768 = if 32768 ≤ r then 32768 else 0 := by
  have tb : r.testBit 15 = decide (32768 ≤ r) := by
    rw [Nat.testBit_eq_decide_div_mod_eq]
    show decide (r / 32768 % 2 = 1) = _
    rw [decide_eq_decide]; omega
  apply Nat.eq_of_testBit_eq
  intro i
  rw [Nat.testBit_and, show (32768 : Nat) = 2 ^ 15 from rfl, Nat.testBit_two_pow]
  by_cases hi : 15 = i
  · subst hi
    rw [tb]
    by_cases hr : 2 ^ 15 ≤ r
    · rw [if_pos hr, Nat.testBit_two_pow]; simp; omega
    · rw [if_neg hr]; simp; omega
  · simp only [hi, decide_false, Bool.and_false]
    split
    · rw [Nat.testBit_two_pow]; simp [hi]
    · simp
set_option maxHeartbeats 800000 in
theorem sum_spec (a : Option Addr) (l : List UInt8) (n cap : Nat) (w : World) (hA : BytesA w a l) (Hn : Hid (l.length = n)) (hcap : n ≤ cap) (hmax : cap ≤ 9223372036854775807) :
    Calls Tryz.prog 35 #[.slice a n cap] w (fun e w' => e = .returned (.int .u16 (crc l : Nat)) ∧ w = w') := by
  go_enter Tryz.func35, Tryz.ntmps35
  go_wp2_with fail
  go_loop [3, 9] (fun rv iv => ∃ (k r : Nat), k ≤ n ∧ iv = .int .i64 (k : Int) ∧ rv = .int .u16 (r : Int) ∧ r < 65536 ∧ Hid (r = crc (l.take k))) (fun _ i => n - (intOf i).toNat)
  case atStart => exact ⟨0, 65535, Nat.zero_le _, rfl, rfl, by omega, by show _ = _; rw [List.take_zero]; rfl⟩
  case round =>
    obtain ⟨k, r, hk, rfl, rfl, hr, He⟩ := hrel
    by_cases hlt : k < n
    · obtain ⟨x, hx⟩ : ∃ x, l[k]? = some x := ⟨_, List.getElem?_eq_getElem (by have := Hn.out; omega)⟩
      obtain ⟨b, o, rfl, hc⟩ := hA.at hx
      have hx8 := x.toNat_lt
      have Hx := Lib.hid hx
      have hxor := u16_xor_nat r (x.toNat * 256) hr (by omega)
      have hcast : ((x.toNat * 256 : Nat) : Int) = (x.toNat : Int) * 256 := by omega
      rw [hcast] at hxor
      have hs0 : r ^^^ (x.toNat * 256) < 65536 := Nat.xor_lt_two_pow (n := 16) hr (by show x.toNat * 256 < 65536; omega)
      have hbyte : Hid (crcBits 8 (r ^^^ (x.toNat * 256)) = crcByte r x) := rfl
      generalize r ^^^ (x.toNat * 256) = s0 at *
      clear hx hcast
      go_wp2_with fail
      go_loop [3, 18] (fun rv iv => ∃ (j q : Nat), j ≤ 8 ∧ iv = .int .i64 (j : Int) ∧ rv = .int .u16 (q : Int) ∧ q < 65536 ∧ Hid (q = crcBits j s0)) (fun _ i => 8 - (intOf i).toNat)
      case atStart => exact ⟨0, s0, Nat.zero_le _, rfl, rfl, hs0, rfl⟩
      case round =>
        obtain ⟨j, q, hj, rfl, rfl, hq, Hq⟩ := hrel
        by_cases hj8 : j < 8
        · obtain ⟨m, hm⟩ : ∃ m, m = 2 * q % 65536 := ⟨_, rfl⟩
          have hm1 : m < 65536 := by omega
          have hw : IntKind.u16.wrap ((q : Int) * 2) = (m : Int) := by rw [show IntKind.u16.wrap ((q : Int) * 2) = ((q : Int) * 2) % 65536 from by simp [IntKind.wrap, IntKind.bits, IntKind.signed]]; omega
          have hsucc := crcBits_succ j s0
          by_cases ht : 32768 ≤ q
          · have hand : bits .and .u16 (q : Int) 32768 = 32768 := by
              have h := u16_and_nat q 32768 hq (by omega)
              rw [and_top q hq, if_pos ht] at h
              exact h
            have hr' : crcBit q = m ^^^ 4129 := by unfold crcBit; rw [if_pos ht, hm]
            have hlt2 : crcBit q < 65536 := crcBit_lt
            have hx2 : bits .xor .u16 (m : Int) 4129 = (crcBit q : Nat) := by rw [hr']; exact u16_xor_nat m 4129 hm1 (by omega)
            have HS : Hid (crcBit q = crcBits (j + 1) s0) := by show _ = _; rw [hsucc, ← Hq.out]
            generalize crcBit q = q2 at *
            clear hsucc hr' ht hm
            go_wp2_with fail
            go_round
            case rel => exact ⟨j + 1, q2, by omega, by go_num, rfl, hlt2, HS.out⟩
            case measure => simp [intOf]; omega
          · have hand : bits .and .u16 (q : Int) 32768 = 0 := by
              have h := u16_and_nat q 32768 hq (by omega)
              rw [and_top q hq, if_neg ht] at h
              exact h
            have hr' : crcBit q = m := by unfold crcBit; rw [if_neg ht, hm]
            have HS : Hid (m = crcBits (j + 1) s0) := by show _ = _; rw [hsucc, ← Hq.out, hr']
            clear hsucc hr' ht hm
            go_wp2_with fail
            go_round
            case rel => exact ⟨j + 1, m, by omega, by go_num, rfl, hm1, HS.out⟩
            case measure => simp [intOf]; omega
        · obtain rfl : j = 8 := by omega
          have hlt3 := crcByte_lt (r := r) (x := x) hr
          have HB : Hid (q = crcByte r x) := by show _ = _; rw [Hq.out, ← hbyte.out]
          clear hbyte
          go_wp2_with fail
          go_round
          case rel => exact ⟨k + 1, q, by omega, by go_num, rfl, hq, by show _ = _; rw [take_snoc Hx.out, crc_snoc, HB.out, He.out]⟩
          case measure => simp [intOf]; omega
    · obtain rfl : k = n := by omega
      have hfin : r = crc l := by rw [He.out, List.take_of_length_le (by rw [Hn.out]; omega)]
      have HF := Lib.hid hfin
      clear hfin
      go_wp2_with fail
      go_ret
      exact ⟨by rw [← HF.out]; rfl, rfl⟩
end Go.Proofs.YtfkogkcpndaoeaaGreat
