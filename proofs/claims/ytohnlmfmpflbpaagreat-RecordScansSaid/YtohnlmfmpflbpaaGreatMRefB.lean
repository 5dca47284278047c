/- The reference's read and signed. Conditions: at most four bytes. -/
import Derived.Test.YtohnlmfmpflbpaaGreatMDecA
set_option linter.unusedSimpArgs false
set_option linter.unusedVariables false
set_option linter.all false
namespace Go.Proofs.YtohnlmfmpflbpaaGreat
open Go.RowKit

/-- The number that bytes mean. -/
def beVal (l : List UInt8) : Nat := l.foldl (fun n x => 256 * n + x.toNat) 0
theorem beVal_snoc (l : List UInt8) (x : UInt8) : beVal (l ++ [x]) = 256 * beVal l + x.toNat := by simp [beVal]
theorem beFold_lt : ∀ (l : List UInt8) (acc k : Nat), acc < 256 ^ k → l.foldl (fun n x => 256 * n + x.toNat) acc < 256 ^ (k + l.length)
  | [], acc, k, h => by simpa using h
  | x :: t, acc, k, h => by
    have hx := x.toNat_lt
    have := beFold_lt t (256 * acc + x.toNat) (k + 1) (by rw [Nat.pow_succ]; omega)
    rw [List.foldl_cons, List.length_cons]
    rw [show k + (t.length + 1) = k + 1 + t.length by omega]
    exact this
theorem beVal_lt (l : List UInt8) : beVal l < 256 ^ l.length := by
  have := beFold_lt l 0 0 (by simp)
  rw [Nat.zero_add] at this
  exact this

set_option maxRecDepth 100000 in
set_option maxHeartbeats 800000 in
theorem read_spec (a : Option Addr) (l : List UInt8) (n cap : Nat) (w : World) (hA : BytesA w a l) (Hn : Hid (l.length = n)) (hn : n ≤ 4) (hcap : n ≤ cap) (hmax : cap ≤ 9223372036854775807) :
    Calls Tryz.prog 72 #[.slice a n cap] w (fun e w' => e = .returned (.int .i64 (beVal l : Int)) ∧ w = w') := by
  go_enter Tryz.func72, Tryz.ntmps72
  go_wp2_with fail
  go_loop [3, 4] (fun v iv => ∃ (k r : Nat), k ≤ n ∧ iv = .int .i64 (k : Int) ∧ v = .int .i64 (r : Int) ∧ Hid (r = beVal (l.take k))) (fun _ i => n - (intOf i).toNat)
  case atStart => exact ⟨0, 0, Nat.zero_le _, rfl, rfl, by show _ = _; rw [List.take_zero]; rfl⟩
  case round =>
    obtain ⟨k, r, hk, rfl, rfl, He⟩ := hrel
    by_cases hlt : k < n
    · obtain ⟨x, hx⟩ : ∃ x, l[k]? = some x := ⟨_, List.getElem?_eq_getElem (by have := Hn.out; omega)⟩
      obtain ⟨b, o, rfl, hc⟩ := hA.at hx
      have hx8 := x.toNat_lt
      have hr : r < 16777216 := by
        have h1 := beVal_lt (l.take k)
        rw [← He.out, List.length_take] at h1
        have : 256 ^ min k l.length ≤ 256 ^ 3 := Nat.pow_le_pow_right (by omega) (by omega)
        omega
      have hor := or64 r x.toNat (by omega) hx8
      have hnx : Hid (256 * r + x.toNat = beVal (l.take (k + 1))) := by show _ = _; rw [take_snoc hx, beVal_snoc, He.out]
      clear hx
      generalize hq : 256 * r + x.toNat = q at *
      clear hq
      go_wp2_with fail
      go_round
      case rel => exact ⟨k + 1, q, by omega, by go_num, rfl, hnx.out⟩
      case measure => simp [intOf]; omega
    · obtain rfl : k = n := by omega
      have hfin : r = beVal l := by rw [He.out, List.take_of_length_le (by rw [Hn.out]; omega)]
      have HF := Lib.hid hfin
      clear hfin
      go_wp2_with fail
      go_ret
      exact ⟨by rw [← HF.out]; rfl, rfl⟩

theorem beVal_two {l : List UInt8} (h : 2 ≤ l.length) : beVal (l.take 2) = wordAt l 0 := by
  obtain ⟨x, t, rfl⟩ : ∃ x t, l = x :: t := by
    cases l with
    | nil => simp at h
    | cons x t => exact ⟨x, t, rfl⟩
  obtain ⟨y, t, rfl⟩ : ∃ y u, t = y :: u := by
    cases t with
    | nil => simp at h
    | cons y u => exact ⟨y, u, rfl⟩
  simp [beVal, wordAt, byteAt]

theorem i16_in {z : Int} (h1 : -32768 ≤ z) (h2 : z ≤ 32767) : IntKind.i16.wrap z = z := by
  rw [show IntKind.i16.wrap z = (z + 32768) % 65536 - 32768 from by simp [IntKind.wrap, IntKind.bits, IntKind.signed, Int.bmod_def]; try (split <;> omega)]
  omega

set_option maxRecDepth 100000 in
set_option maxHeartbeats 800000 in
theorem signed_spec (a : Option Addr) (l : List UInt8) (n cap : Nat) (w : World) (hA : BytesA w a l) (Hn : Hid (l.length = n)) (hn : 2 ≤ n) (hcap : n ≤ cap) (hmax : cap ≤ 9223372036854775807) :
    Calls Tryz.prog 74 #[.slice a n cap] w (fun e w' => e = .returned (.int .i16 (s16 (wordAt l 0))) ∧ w = w') := by
  obtain ⟨b, o, rfl, -⟩ := hA.cell (i := 0) (by rw [Hn.out]; omega)
  have hrd := read_spec (some ⟨b, o, none⟩) (l.take 2) 2 cap w (hA.take 2) (show _ = _ by rw [List.length_take, Hn.out]; omega) (by omega) (by omega) hmax
  rw [beVal_two (by rw [Hn.out]; exact hn)] at hrd
  have HR := Lib.hid hrd
  have hx := wordAt_lt l 0
  have hs := s16_wrap hx
  have hd : Hid (s16 (wordAt l 0) = if wordAt l 0 < 32768 then (wordAt l 0 : Int) else (wordAt l 0 : Int) - 65536) := rfl
  clear hrd
  generalize wordAt l 0 = x at *
  have Hs := Lib.hid hs
  clear hs
  by_cases h : x < 32768
  · rw [if_pos h] at hd
    have hdec : decide ((32768 : Int) ≤ (x : Int)) = false := by simp; omega
    clear h
    go_enter Tryz.func74, Tryz.ntmps74
    go_wp2_with fail
    refine HR.out.mono ?_
    rintro e w' ⟨rfl, rfl⟩
    clear hA
    go_wp2
    go_ret
    exact ⟨by rw [← Hs.out]; rfl, rfl⟩
  · rw [if_neg h] at hd
    have hdec : decide ((32768 : Int) ≤ (x : Int)) = true := by simp; omega
    clear h
    go_enter Tryz.func74, Tryz.ntmps74
    go_wp2_with fail
    refine HR.out.mono ?_
    rintro e w' ⟨rfl, rfl⟩
    clear hA
    go_wp2
    go_ret
    have hin : IntKind.i16.wrap ((x : Int) - 65536) = (x : Int) - 65536 := i16_in (by have := hdec; simp at this; omega) (by omega)
    exact ⟨by rw [hd.out]; exact congrArg (fun z => Ending.returned (.int .i16 z)) hin, rfl⟩
end Go.Proofs.YtohnlmfmpflbpaaGreat
