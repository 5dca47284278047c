/- The reference's nats: trim, NatOf, NatCmp. Conditions: a small number is below 2^64. -/
import Derived.Test.YtohnlmfmpflbpaaGreatMNatG
set_option linter.unusedSimpArgs false
set_option linter.unusedVariables false
set_option linter.all false
namespace Go.Proofs.YtohnlmfmpflbpaaGreat
open Go.RowKit

set_option maxHeartbeats 400000 in
/-- trim cuts the zeros at the end off: the value is known, the world stays. -/
theorem rtrim_eq (a : Option Addr) (len cap : Nat) (xs : List Nat) (w : World) (Hlen : Hid (xs.length = len)) (hcap : len ≤ cap) (hmax : cap ≤ 9223372036854775807) (hA : UsA w a xs) :
    Calls Tryz.prog 143 #[.slice a len cap] w (fun e w' => e = .returned (.slice a (tl xs) cap) ∧ w' = w) := by
  go_enter Tryz.func143, Tryz.ntmps143
  go_wp2
  go_loop [3] (fun n => ∃ k : Nat, k ≤ len ∧ n = .int .i64 k ∧ tl (xs.take k) = tl xs) (fun n => (intOf n).toNat)
  case atStart => exact ⟨len, Nat.le_refl _, rfl, by rw [← Hlen.out, List.take_length]⟩
  case round =>
    obtain ⟨k, hk, rfl, hv⟩ := hrel
    have Hv := Lib.hid hv
    clear hv
    by_cases hk0 : k = 0
    · subst hk0
      have e : tl xs = 0 := by rw [← Hv.out]; rfl
      rw [e]
      go_wp2
      go_ret
      cases a <;> exact ⟨rfl, rfl⟩
    · obtain ⟨m, rfl⟩ : ∃ m, k = m + 1 := ⟨k - 1, by omega⟩
      obtain ⟨x, hx⟩ := get_lt Hlen (i := m) (by omega)
      obtain ⟨b, o, rfl, hc⟩ := hA.at hx
      have Hx := Lib.hid hx
      clear hx
      by_cases hx0 : x = 0
      · subst hx0
        go_wp2
        go_round
        case rel => exact ⟨m, by omega, rfl, by rw [← tl_zero Hx.out]; exact Hv.out⟩
        case measure => simp [intOf]
      · have hx1 : ((x : Int) == 0) = false := by simpa using hx0
        have e : tl xs = m + 1 := by rw [← Hv.out, tl_word Hx.out hx0]
        rw [e]
        go_wp2
        go_ret
        exact ⟨rfl, rfl⟩

theorem rtrim_rep {a : Option Addr} {len cap : Nat} {xs : List Nat} {w : World} (h : Us w (.slice a len cap) xs) : NatRep w (.slice a (tl xs) cap) (nval xs) := by
  obtain ⟨h1, h2⟩ := nval_tl xs
  have hle := tl_le xs
  refine ⟨xs.take (tl xs), ?_, h2, h1⟩
  rcases h.cases with ⟨e, rfl⟩ | ⟨b, o, len, cap, e, hlen, hcap, hmax, hcell⟩
  · injection e with e1 e2 e3
    subst e1 e3
    exact Us.nil
  · injection e with e1 e2 e3
    subst e1 e2 e3
    exact us_take (fun h0 => h.typed _ _ _ _ rfl (by omega)) hle (by omega) hmax h.words hcell

theorem rtrim_spec (v : Value) (xs : List Nat) (w : World) (h : Us w v xs) :
    Calls Tryz.prog 143 #[v] w (RetQ w fun v' => NatRep w v' (nval xs)) := by
  have h0 := h
  obtain ⟨a, len, cap, rfl, Hlen, hcap, hmax, hA, _⟩ := h.any
  refine (rtrim_eq a len cap xs w Hlen hcap hmax hA).mono ?_
  rintro e w' ⟨he, hw⟩
  exact ⟨_, he, rtrim_rep h0, hw.symm⟩

set_option maxHeartbeats 400000 in
theorem rnatOf_spec (n : Nat) (w : World) (hn : n < 18446744073709551616) :
    Calls Tryz.prog 137 #[.int .u64 (n : Int)] w (Ret w fun w' v' => NatRep w' v' n) := by
  have hx0 : (0 : Int) ≤ n := by omega
  have hx1 : (n : Int) < 18446744073709551616 := by omega
  go_enter Tryz.func137, Tryz.ntmps137
  go_wp2_with fail
  refine (rtrim_spec _ [n % 4294967296, n / 4294967296] _ ?_).mono ?_
  · refine (ownU_new w _ [n % 4294967296, n / 4294967296] (by simp [u32]) ?_).us (by simp) rfl
    intro d hd
    simp at hd
    omega
  · rintro e w' ⟨v', rfl, hv, rfl⟩
    go_wp2_with fail
    go_ret
    refine ⟨v', rfl, ?_, (Below.refl _ _).alloc (Nat.le_refl _) _⟩
    have e : nval [n % 4294967296, n / 4294967296] = n := by simp [nval]; omega
    show NatRep _ v' n
    rw [e] at hv
    exact hv

set_option maxHeartbeats 400000 in
theorem rcmp_spec (v u : Value) (n m : Nat) (w : World) (h : NatRep w v n) (h' : NatRep w u m) :
    Calls Tryz.prog 141 #[v, u] w (Ret w fun _ v' => v' = .int .i64 (cmpZ n m)) := by
  obtain ⟨xs, h1, h2, rfl⟩ := h
  obtain ⟨ys, k1, k2, rfl⟩ := h'
  obtain ⟨a, lx, cx, rfl, Hlx, hlcx, hmx, hX, wX⟩ := h1.any
  obtain ⟨b, ly, cy, rfl, Hly, hlcy, hmy, hY, wY⟩ := k1.any
  by_cases hll : lx = ly
  · subst hll
    have e1 : ((lx : Int) != lx) = false := by simp
    go_enter Tryz.func141, Tryz.ntmps141
    go_wp2
    go_loopw [5] (fun i wr => ∃ (k : Nat), k ≤ lx ∧ i = .int .i64 ((k : Int) - 1) ∧ xs.drop k = ys.drop k ∧ Below w.heap.size w wr) (fun i _ => (intOf i + 1).toNat)
    case atStart => exact ⟨lx, Nat.le_refl _, rfl, by rw [List.drop_of_length_le (by rw [Hlx.out]; omega), List.drop_of_length_le (by rw [Hly.out]; omega)], Below.refl _ _⟩
    case round =>
      obtain ⟨k, hk, rfl, hdr, hb⟩ := hrel
      have Hdr := Lib.hid hdr
      clear hdr
      by_cases hk0 : k = 0
      · subst hk0
        go_wp2
        go_ret
        have e : nval xs = nval ys := congrArg nval Hdr.out
        exact ⟨_, rfl, int_of (cmpZ_eq e), hb⟩
      · obtain ⟨m, rfl⟩ : ∃ m, k = m + 1 := ⟨k - 1, by omega⟩
        obtain ⟨x, hx⟩ := get_lt Hlx (i := m) (by omega)
        obtain ⟨y, hy⟩ := get_lt Hly (i := m) (by omega)
        obtain ⟨bx, ox, rfl, hcx⟩ := (hX.below hb (Nat.le_refl _)).at hx
        obtain ⟨by', oy, rfl, hcy⟩ := (hY.below hb (Nat.le_refl _)).at hy
        have Hx := Lib.hid hx
        have Hy := Lib.hid hy
        clear hx hy
        have ei : (((m + 1 : Nat) : Int) - 1) = (m : Int) := by omega
        rw [ei]
        by_cases heq : x = y
        · subst heq
          have e2 : ((x : Int) != x) = false := by simp
          go_wp2
          go_quiet (fail)
          go_wp2
          go_roundw
          case rel => exact ⟨m, by omega, rfl, drop_eq Hx.out Hy.out Hdr.out, below_drewN hb _⟩
          case measure => simp [intOf]
        · have e2 : ((x : Int) != y) = true := by simp; omega
          by_cases hlt : x < y
          · go_wp2
            go_quiet (fail)
            go_wp2
            go_quiet (fail)
            go_wp2
            go_ret
            have := nval_lt_at wX Hx.out Hy.out Hdr.out hlt
            exact ⟨_, rfl, int_of (cmpZ_lt this), below_drewN (below_drewN hb _) _⟩
          · go_wp2
            go_quiet (fail)
            go_wp2
            go_quiet (fail)
            go_wp2
            go_ret
            have hlt : y < x := by omega
            have := nval_lt_at wY Hy.out Hx.out Hdr.out.symm hlt
            exact ⟨_, rfl, int_of (cmpZ_gt this), below_drewN (below_drewN hb _) _⟩
  · have e1 : ((lx : Int) != ly) = true := by simp; omega
    by_cases hlt : lx < ly
    · go_enter Tryz.func141, Tryz.ntmps141
      go_wp2
      go_ret
      have := len_lt wX k2 (by rw [Hlx.out, Hly.out]; exact hlt)
      exact ⟨_, rfl, int_of (cmpZ_lt this), Below.refl _ _⟩
    · go_enter Tryz.func141, Tryz.ntmps141
      go_wp2
      go_ret
      have := len_lt wY h2 (by rw [Hlx.out, Hly.out]; omega)
      exact ⟨_, rfl, int_of (cmpZ_gt this), Below.refl _ _⟩
end Go.Proofs.YtohnlmfmpflbpaaGreat
