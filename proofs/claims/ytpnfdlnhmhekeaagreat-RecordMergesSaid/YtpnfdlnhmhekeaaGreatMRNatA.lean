/- The reference's nats: trim, NatOf, NatCmp. Conditions: a small number is below 2^64. The reference's nats: sums, differences, products. Conditions: fewer than 2^44 bits. -/
import Derived.Test.YtpnfdlnhmhekeaaGreatMNatG
set_option linter.unusedSimpArgs false
set_option linter.unusedVariables false
set_option linter.all false
namespace Go.Proofs.YtpnfdlnhmhekeaaGreat
open Go.RowKit

set_option maxHeartbeats 400000 in
/-- trim cuts the zeros at the end off: the value is known, the world stays. -/
theorem rtrim_eq (a : Option Addr) (len cap : Nat) (xs : List Nat) (w : World) (Hlen : Hid (xs.length = len)) (hcap : len ≤ cap) (hmax : cap ≤ 9223372036854775807) (hA : UsA w a xs) :
    Calls Tryz.prog 154 #[.slice a len cap] w (fun e w' => e = .returned (.slice a (tl xs) cap) ∧ w' = w) := by
  go_enter Tryz.func154, Tryz.ntmps154
  go_wp2
  go_loop [3] (fun n => ∃ k : Nat, k ≤ len ∧ n = .int .i64 k ∧ tl (xs.take k) = tl xs) (fun n => (intOf n).toNat)
  case atStart => exact ⟨len, Nat.le_refl _, rfl, by rw [← Hlen.out, List.take_length]⟩
  case round =>
    obtain ⟨k, hk, rfl, hv⟩ := hrel
    have Hv := Lib.hid hv
    clear hv
    by_cases hk0 : k = 0
    · subst hk0
      have e : tl xs = 0 := by rw [← Hv.out]; rfl
      rw [e]
      go_wp2
      go_ret
      cases a <;> exact ⟨rfl, rfl⟩
    · obtain ⟨m, rfl⟩ : ∃ m, k = m + 1 := ⟨k - 1, by omega⟩
      obtain ⟨x, hx⟩ := get_lt Hlen (i := m) (by omega)
      obtain ⟨b, o, rfl, hc⟩ := hA.at hx
      have Hx := Lib.hid hx
      clear hx
      by_cases hx0 : x = 0
      · subst hx0
        go_wp2
        go_round
        case rel => exact ⟨m, by omega, rfl, by rw [← tl_zero Hx.out]; exact Hv.out⟩
        case measure => simp [intOf]
      · have hx1 : ((x : Int) == 0) = false := by simpa using hx0
        have e : tl xs = m + 1 := by rw [← Hv.out, tl_word Hx.out hx0]
        rw [e]
        go_wp2
        go_ret
        exact ⟨rfl, rfl⟩

theorem rtrim_rep {a : Option Addr} {len cap : Nat} {xs : List Nat} {w : World} (h : Us w (.slice a len cap) xs) : NatRep w (.slice a (tl xs) cap) (nval xs) := by
  obtain ⟨h1, h2⟩ := nval_tl xs
  have hle := tl_le xs
  refine ⟨xs.take (tl xs), ?_, h2, h1⟩
  rcases h.cases with ⟨e, rfl⟩ | ⟨b, o, len, cap, e, hlen, hcap, hmax, hcell⟩
  · injection e with e1 e2 e3
    subst e1 e3
    exact Us.nil
  · injection e with e1 e2 e3
    subst e1 e2 e3
    exact us_take (fun h0 => h.typed _ _ _ _ rfl (by omega)) hle (by omega) hmax h.words hcell

theorem rtrim_spec (v : Value) (xs : List Nat) (w : World) (h : Us w v xs) :
    Calls Tryz.prog 154 #[v] w (RetQ w fun v' => NatRep w v' (nval xs)) := by
  have h0 := h
  obtain ⟨a, len, cap, rfl, Hlen, hcap, hmax, hA, _⟩ := h.any
  refine (rtrim_eq a len cap xs w Hlen hcap hmax hA).mono ?_
  rintro e w' ⟨he, hw⟩
  exact ⟨_, he, rtrim_rep h0, hw.symm⟩

set_option maxHeartbeats 400000 in
theorem rnatOf_spec (n : Nat) (w : World) (hn : n < 18446744073709551616) :
    Calls Tryz.prog 131 #[.int .u64 (n : Int)] w (Ret w fun w' v' => NatRep w' v' n) := by
  have hx0 : (0 : Int) ≤ n := by omega
  have hx1 : (n : Int) < 18446744073709551616 := by omega
  go_enter Tryz.func131, Tryz.ntmps131
  go_wp2_with fail
  refine (rtrim_spec _ [n % 4294967296, n / 4294967296] _ ?_).mono ?_
  · refine (ownU_new w _ [n % 4294967296, n / 4294967296] (by simp [u32]) ?_).us (by simp) rfl
    intro d hd
    simp at hd
    omega
  · rintro e w' ⟨v', rfl, hv, rfl⟩
    go_wp2_with fail
    go_ret
    refine ⟨v', rfl, ?_, (Below.refl _ _).alloc (Nat.le_refl _) _⟩
    have e : nval [n % 4294967296, n / 4294967296] = n := by simp [nval]; omega
    show NatRep _ v' n
    rw [e] at hv
    exact hv

set_option maxHeartbeats 400000 in
theorem rcmp_spec (v u : Value) (n m : Nat) (w : World) (h : NatRep w v n) (h' : NatRep w u m) :
    Calls Tryz.prog 89 #[v, u] w (Ret w fun _ v' => v' = .int .i64 (cmpZ n m)) := by
  obtain ⟨xs, h1, h2, rfl⟩ := h
  obtain ⟨ys, k1, k2, rfl⟩ := h'
  obtain ⟨a, lx, cx, rfl, Hlx, hlcx, hmx, hX, wX⟩ := h1.any
  obtain ⟨b, ly, cy, rfl, Hly, hlcy, hmy, hY, wY⟩ := k1.any
  by_cases hll : lx = ly
  · subst hll
    have e1 : ((lx : Int) != lx) = false := by simp
    go_enter Tryz.func89, Tryz.ntmps89
    go_wp2
    go_loopw [5] (fun i wr => ∃ (k : Nat), k ≤ lx ∧ i = .int .i64 ((k : Int) - 1) ∧ xs.drop k = ys.drop k ∧ Below w.heap.size w wr) (fun i _ => (intOf i + 1).toNat)
    case atStart => exact ⟨lx, Nat.le_refl _, rfl, by rw [List.drop_of_length_le (by rw [Hlx.out]; omega), List.drop_of_length_le (by rw [Hly.out]; omega)], Below.refl _ _⟩
    case round =>
      obtain ⟨k, hk, rfl, hdr, hb⟩ := hrel
      have Hdr := Lib.hid hdr
      clear hdr
      by_cases hk0 : k = 0
      · subst hk0
        go_wp2
        go_ret
        have e : nval xs = nval ys := congrArg nval Hdr.out
        exact ⟨_, rfl, int_of (cmpZ_eq e), hb⟩
      · obtain ⟨m, rfl⟩ : ∃ m, k = m + 1 := ⟨k - 1, by omega⟩
        obtain ⟨x, hx⟩ := get_lt Hlx (i := m) (by omega)
        obtain ⟨y, hy⟩ := get_lt Hly (i := m) (by omega)
        obtain ⟨bx, ox, rfl, hcx⟩ := (hX.below hb (Nat.le_refl _)).at hx
        obtain ⟨by', oy, rfl, hcy⟩ := (hY.below hb (Nat.le_refl _)).at hy
        have Hx := Lib.hid hx
        have Hy := Lib.hid hy
        clear hx hy
        have ei : (((m + 1 : Nat) : Int) - 1) = (m : Int) := by omega
        rw [ei]
        by_cases heq : x = y
        · subst heq
          have e2 : ((x : Int) != x) = false := by simp
          go_wp2
          go_quiet (fail)
          go_wp2
          go_roundw
          case rel => exact ⟨m, by omega, rfl, drop_eq Hx.out Hy.out Hdr.out, below_drewN hb _⟩
          case measure => simp [intOf]
        · have e2 : ((x : Int) != y) = true := by simp; omega
          by_cases hlt : x < y
          · go_wp2
            go_quiet (fail)
            go_wp2
            go_quiet (fail)
            go_wp2
            go_ret
            have := nval_lt_at wX Hx.out Hy.out Hdr.out hlt
            exact ⟨_, rfl, int_of (cmpZ_lt this), below_drewN (below_drewN hb _) _⟩
          · go_wp2
            go_quiet (fail)
            go_wp2
            go_quiet (fail)
            go_wp2
            go_ret
            have hlt : y < x := by omega
            have := nval_lt_at wY Hy.out Hx.out Hdr.out.symm hlt
            exact ⟨_, rfl, int_of (cmpZ_gt this), below_drewN (below_drewN hb _) _⟩
  · have e1 : ((lx : Int) != ly) = true := by simp; omega
    by_cases hlt : lx < ly
    · go_enter Tryz.func89, Tryz.ntmps89
      go_wp2
      go_ret
      have := len_lt wX k2 (by rw [Hlx.out, Hly.out]; exact hlt)
      exact ⟨_, rfl, int_of (cmpZ_lt this), Below.refl _ _⟩
    · go_enter Tryz.func89, Tryz.ntmps89
      go_wp2
      go_ret
      have := len_lt wY h2 (by rw [Hlx.out, Hly.out]; omega)
      exact ⟨_, rfl, int_of (cmpZ_gt this), Below.refl _ _⟩
end Go.Proofs.YtpnfdlnhmhekeaaGreat

namespace Go.Proofs.YtpnfdlnhmhekeaaGreat
open Go.RowKit

set_option maxHeartbeats 1600000 in
theorem radd_spec (v u : Value) (n m k : Nat) (w : World) (h : NatRep w v n) (h' : NatRep w u m) (hn : n < 2 ^ k) (hm : m < 2 ^ k) (hk : k ≤ 17592186044416) :
    Calls Tryz.prog 166 #[v, u] w (Ret w fun w' v' => NatRep w' v' (n + m)) := by
  obtain ⟨xs0, h1, h2, rfl⟩ := h
  obtain ⟨ys0, k1, k2, rfl⟩ := h'
  obtain ⟨a0, lx0, cx0, rfl, Hlx0, hlcx0, hmx0, hX0, wX0⟩ := h1.any
  obtain ⟨b0, ly0, cy0, rfl, Hly0, hlcy0, hmy0, hY0, wY0⟩ := k1.any
  have sx0 := len_small Hlx0 h2 hn hk
  have sy0 := len_small Hly0 k2 hm hk
  clear hn hm
  go_enter Tryz.func166, Tryz.ntmps166
  go_upto_if 13 with (fail)
  go_cut [0, 1] (fun s0 s1 wx => ∃ (xs ys : List Nat) (a b : Option Addr) (lx cx ly cy : Nat), s0 = .slice a lx cx ∧ s1 = .slice b ly cy ∧ Hid (xs.length = lx) ∧ Hid (ys.length = ly) ∧ ly ≤ lx ∧ lx ≤ cx ∧ cx ≤ 9223372036854775807 ∧ ly ≤ cy ∧ cy ≤ 9223372036854775807 ∧ lx ≤ 549755813889 ∧
      UsA w a xs ∧ UsA w b ys ∧ Words xs ∧ Words ys ∧ Hid (nval xs + nval ys = nval xs0 + nval ys0) ∧ wx = w)
  case first =>
    by_cases hlt : lx0 < ly0
    · go_wp2
      go_meet
      exact ⟨ys0, xs0, b0, a0, ly0, cy0, lx0, cx0, rfl, rfl, Hly0, Hlx0, by omega, hlcy0, hmy0, hlcx0, hmx0, sy0, hY0, hX0, wY0, wX0, Nat.add_comm _ _, rfl⟩
    · go_wp2
      go_meet
      exact ⟨xs0, ys0, a0, b0, lx0, cx0, ly0, cy0, rfl, rfl, Hlx0, Hly0, by omega, hlcx0, hmx0, hlcy0, hmy0, sx0, hX0, hY0, wX0, wY0, rfl, rfl⟩
  case rest =>
    obtain ⟨xs, ys, a, b, lx, cx, ly, cy, rfl, rfl, Hlx, Hly, hll, hlcx, hmx, hlcy, hmy, sx, hX, hY, wX, wY, Hsum, rfl⟩ := hcut
    clear hX0 hY0 wX0 wY0 h1 k1 h2 k2 Hlx0 Hly0 sx0 sy0 hlcx0 hlcy0 hmx0 hmy0
    go_wp2_with (at_make; refine make_u32 _ rfl _ _ rfl Tryz.underlying46 _ (lx + 1) rfl (by omega) (by omega) ?_; intro w1 ho1 hb1 hs1)
    go_loopw [6, 7] (fun cv iv wr => ∃ (k c : Nat) (zs : List Nat), k ≤ lx ∧ iv = .int .i64 (k : Int) ∧ cv = .int .u64 (c : Int) ∧ c ≤ 1 ∧ OwnU wr wc.heap.size zs ∧ Hid (zs.length = lx + 1) ∧
        Hid (nval (zs.take k) + 4294967296 ^ k * c = nval (xs.take k) + nval (ys.take k)) ∧ Below wc.heap.size wc wr) (fun _ i _ => lx - (intOf i).toNat)
    case atStart => exact ⟨0, 0, _, Nat.zero_le _, rfl, rfl, by omega, ho1, List.length_replicate .., rfl, hb1⟩
    case round =>
      obtain ⟨k, c, zs, hkl, rfl, rfl, hc1, ho, Hzl, Hinv, hb⟩ := hrel
      by_cases hk : k < lx
      · obtain ⟨x, hx⟩ := get_lt Hlx hk
        obtain ⟨bx, ox, rfl, hcx⟩ := (hX.below hb (Nat.le_refl _)).at hx
        have hxb := wX _ (List.mem_of_getElem? hx)
        obtain ⟨z, hz⟩ := get_lt Hzl (i := k) (by omega)
        have hcz := ho.cell k z hz
        have hfz := ho.free k
        have Hx := Lib.hid hx
        have Hz := Lib.hid hz
        clear hx hz
        by_cases hky : k < ly
        · obtain ⟨y, hy⟩ := get_lt Hly hky
          have hyb := wY _ (List.mem_of_getElem? hy)
          have hys : Hid (nval (ys.take (k + 1)) = nval (ys.take k) + 4294967296 ^ k * y) := take_step hy
          obtain ⟨b', o', rfl, hcy⟩ := (hY.below hb (Nat.le_refl _)).at hy
          clear hy
          go_wp2
          go_roundw
          case rel =>
            have he : (x + c + y) % 4294967296 + 4294967296 * ((x + c + y) / 4294967296) = x + y + c := by rw [Nat.mod_add_div]; omega
            exact ⟨k + 1, (x + c + y) / 4294967296, zs.set k ((x + c + y) % 4294967296), by omega, by go_num, int_of (by simp), by omega, ho.set' k _ _ (by simp) (Nat.mod_lt _ (by omega)), (by rw [List.length_set]; exact Hzl.out), (show _ = _ by rw [set_step _ (by rw [Hzl.out]; omega), take_step Hx.out, hys.out]; exact add_step Hinv.out he (Nat.pow_succ ..)), hb.setCell (Nat.le_refl _) _⟩
          case measure => simp [intOf]; omega
        · have hys : Hid (nval (ys.take (k + 1)) = nval (ys.take k) + 4294967296 ^ k * 0) := take_over (by rw [Hly.out]; omega)
          go_wp2
          go_roundw
          case rel =>
            have he : (x + c) % 4294967296 + 4294967296 * ((x + c) / 4294967296) = x + 0 + c := by rw [Nat.mod_add_div]; omega
            exact ⟨k + 1, (x + c) / 4294967296, zs.set k ((x + c) % 4294967296), by omega, by go_num, int_of (by simp), by omega, ho.set' k _ _ (by simp) (Nat.mod_lt _ (by omega)), (by rw [List.length_set]; exact Hzl.out), (show _ = _ by rw [set_step _ (by rw [Hzl.out]; omega), take_step Hx.out, hys.out]; exact add_step Hinv.out he (Nat.pow_succ ..)), hb.setCell (Nat.le_refl _) _⟩
          case measure => simp [intOf]; omega
      · obtain rfl : k = lx := by omega
        obtain ⟨z, hz⟩ := get_lt Hzl (i := k) (by omega)
        have hcz := ho.cell k z hz
        have hfz := ho.free k
        have Hz := Lib.hid hz
        clear hz
        have hcm : (c : Int) % 4294967296 = c := by omega
        go_wp2_with fail
        refine (rtrim_spec _ (zs.set k c) _ ((ho.set k c (by omega)).us (by rw [List.length_set, Hzl.out]; omega) (by rw [List.length_set, Hzl.out]))).mono ?_
        rintro e w' ⟨v, rfl, hv, rfl⟩
        go_wp2_with fail
        go_ret
        refine ⟨v, rfl, ?_, hb.setCell (Nat.le_refl _) _⟩
        have e1 : nval (zs.set k c) = nval xs0 + nval ys0 := by
          rw [← nval_full (n := k + 1) (by rw [List.length_set, Hzl.out]), set_step c (by rw [Hzl.out]; omega), Hinv.out, nval_full Hlx.out, List.take_of_length_le (by rw [Hly.out]; omega), Hsum.out]
        show NatRep _ v (nval xs0 + nval ys0)
        rw [← e1]
        exact hv

theorem rsub_one {z b : Nat} (hz : z < 4294967296) (hb : b ≤ 1) :
    ∃ t s d : Nat, IntKind.u64.wrap ((z : Int) - b) = t ∧ (t : Int) % 4294967296 = s ∧ (t : Int) / 9223372036854775808 = d ∧ t < 18446744073709551616 ∧ s < 4294967296 ∧ d ≤ 1 ∧ s + 0 + b = z + 4294967296 * d := by
  refine ⟨(18446744073709551616 + z - b) % 18446744073709551616, (18446744073709551616 + z - b) % 4294967296, if z < b then 1 else 0, ?_, ?_, ?_, ?_, ?_, ?_, ?_⟩
  · rw [show IntKind.u64.wrap ((z : Int) - b) = ((z : Int) - b) % 18446744073709551616 from by simp [IntKind.wrap, IntKind.bits, IntKind.signed]]; omega
  · omega
  · split <;> omega
  · omega
  · omega
  · split <;> omega
  · split <;> omega
theorem rsub_two {z lo b : Nat} (hz : z < 4294967296) (hlo : lo < 4294967296) (hb : b ≤ 1) :
    ∃ t1 t s d : Nat, IntKind.u64.wrap ((z : Int) - b) = t1 ∧ IntKind.u64.wrap ((t1 : Int) - lo) = t ∧ (t : Int) % 4294967296 = s ∧ (t : Int) / 9223372036854775808 = d ∧ t < 18446744073709551616 ∧ s < 4294967296 ∧ d ≤ 1 ∧ s + lo + b = z + 4294967296 * d := by
  refine ⟨(18446744073709551616 + z - b) % 18446744073709551616, (18446744073709551616 + z - lo - b) % 18446744073709551616, (18446744073709551616 + z - lo - b) % 4294967296, if z < lo + b then 1 else 0, ?_, ?_, ?_, ?_, ?_, ?_, ?_, ?_⟩
  · rw [show IntKind.u64.wrap ((z : Int) - b) = ((z : Int) - b) % 18446744073709551616 from by simp [IntKind.wrap, IntKind.bits, IntKind.signed]]; omega
  · rw [show IntKind.u64.wrap ((((18446744073709551616 + z - b) % 18446744073709551616 : Nat) : Int) - lo) = ((((18446744073709551616 + z - b) % 18446744073709551616 : Nat) : Int) - lo) % 18446744073709551616 from by simp [IntKind.wrap, IntKind.bits, IntKind.signed]]; omega
  · omega
  · split <;> omega
  · omega
  · omega
  · split <;> omega
  · split <;> omega

set_option maxHeartbeats 1600000 in
theorem rsub_spec (v u : Value) (n m k : Nat) (w : World) (h : NatRep w v n) (h' : NatRep w u m) (hn : n < 2 ^ k) (hmn : m ≤ n) (hk : k ≤ 17592186044416) :
    Calls Tryz.prog 167 #[v, u] w (Ret w fun w' v' => NatRep w' v' (n - m)) := by
  obtain ⟨xs, h1, h2, rfl⟩ := h
  obtain ⟨ys, k1, k2, rfl⟩ := h'
  obtain ⟨a, lx, cx, rfl, Hlx, hlcx, hmx, hX, wX⟩ := h1.any
  obtain ⟨b, ly, cy, rfl, Hly, hlcy, hmy, hY, wY⟩ := k1.any
  have sx := len_small Hlx h2 hn hk
  have hll : ly ≤ lx := by
    rcases Nat.lt_or_ge lx ly with hlt | hge
    · have := len_lt wX k2 (by rw [Hlx.out, Hly.out]; exact hlt)
      omega
    · exact hge
  have Hmn := Lib.hid hmn
  clear hn hmn
  go_enter Tryz.func167, Tryz.ntmps167
  go_wp2_with (at_make; refine make_u32 _ rfl _ _ rfl Tryz.underlying46 _ lx rfl (by omega) (by omega) ?_; intro w1 ho1 hb1 hs1)
  go_loopw [6, 7] (fun cv iv wr => ∃ (k c : Nat) (zs : List Nat), k ≤ lx ∧ iv = .int .i64 (k : Int) ∧ cv = .int .u64 (c : Int) ∧ c ≤ 1 ∧ OwnU wr w.heap.size zs ∧ Hid (zs.length = lx) ∧
      Hid (nval (zs.take k) + nval (ys.take k) = nval (xs.take k) + 4294967296 ^ k * c) ∧ Below w.heap.size w wr) (fun _ i _ => lx - (intOf i).toNat)
  case atStart => exact ⟨0, 0, _, Nat.zero_le _, rfl, rfl, by omega, ho1, List.length_replicate .., rfl, hb1⟩
  case round =>
    obtain ⟨k, c, zs, hkl, rfl, rfl, hc1, ho, Hzl, Hinv, hb⟩ := hrel
    by_cases hk : k < lx
    · obtain ⟨x, hx⟩ := get_lt Hlx hk
      obtain ⟨bx, ox, rfl, hcx⟩ := (hX.below hb (Nat.le_refl _)).at hx
      have hxb := wX _ (List.mem_of_getElem? hx)
      obtain ⟨z, hz⟩ := get_lt Hzl hk
      have hcz := ho.cell k z hz
      have hfz := ho.free k
      have Hx := Lib.hid hx
      have Hz := Lib.hid hz
      clear hx hz
      by_cases hky : k < ly
      · obtain ⟨y, hy⟩ := get_lt Hly hky
        have hyb := wY _ (List.mem_of_getElem? hy)
        have hys : Hid (nval (ys.take (k + 1)) = nval (ys.take k) + 4294967296 ^ k * y) := take_step hy
        obtain ⟨b', o', rfl, hcy⟩ := (hY.below hb (Nat.le_refl _)).at hy
        clear hy
        obtain ⟨t1, t, s, d, f1, f2, f3, f4, ht, hs, hd, hsum⟩ := rsub_two hxb hyb hc1
        have Hsum := Lib.hid hsum
        clear hsum
        go_wp2
        go_roundw
        case rel => exact ⟨k + 1, d, zs.set k s, by omega, by go_num, rfl, hd, ho.set k s hs, (by rw [List.length_set]; exact Hzl.out), (show _ = _ by rw [set_step s (by rw [Hzl.out]; omega), take_step Hx.out, hys.out]; exact sub_step Hinv.out Hsum.out (Nat.pow_succ ..)), hb.setCell (Nat.le_refl _) _⟩
        case measure => simp [intOf]; omega
      · have hys : Hid (nval (ys.take (k + 1)) = nval (ys.take k) + 4294967296 ^ k * 0) := take_over (by rw [Hly.out]; omega)
        obtain ⟨t1, s, d, f1, f3, f4, ht, hs, hd, hsum⟩ := rsub_one hxb hc1
        have Hsum := Lib.hid hsum
        clear hsum
        go_wp2
        go_roundw
        case rel => exact ⟨k + 1, d, zs.set k s, by omega, by go_num, rfl, hd, ho.set k s hs, (by rw [List.length_set]; exact Hzl.out), (show _ = _ by rw [set_step s (by rw [Hzl.out]; omega), take_step Hx.out, hys.out]; exact sub_step Hinv.out Hsum.out (Nat.pow_succ ..)), hb.setCell (Nat.le_refl _) _⟩
        case measure => simp [intOf]; omega
    · obtain rfl : k = lx := by omega
      go_wp2_with fail
      refine (rtrim_spec _ zs _ (ho.us (by rw [Hzl.out]; omega) Hzl.out.symm)).mono ?_
      rintro e w' ⟨v, rfl, hv, rfl⟩
      go_wp2_with fail
      go_ret
      refine ⟨v, rfl, ?_, hb⟩
      have e1 : nval zs = nval xs - nval ys := by
        have e2 := Hinv.out
        rw [nval_full Hzl.out, nval_full Hlx.out, List.take_of_length_le (by rw [Hly.out]; omega)] at e2
        have e3 := nval_lt ho.2
        rw [Hzl.out] at e3
        have e4 := Hmn.out
        have : c = 0 := by
          rcases Nat.eq_zero_or_pos c with h0 | h0
          · exact h0
          · obtain rfl : c = 1 := by omega
            omega
        subst this
        omega
      show NatRep _ v (nval xs - nval ys)
      rw [← e1]
      exact hv

set_option maxHeartbeats 1600000 in
theorem rmul_spec (v u : Value) (n m k : Nat) (w : World) (h : NatRep w v n) (h' : NatRep w u m) (hn : n < 2 ^ k) (hm : m < 2 ^ k) (hk : k ≤ 17592186044416) :
    Calls Tryz.prog 153 #[v, u] w (Ret w fun w' v' => NatRep w' v' (n * m)) := by
  obtain ⟨xs, h1, h2, rfl⟩ := h
  obtain ⟨ys, k1, k2, rfl⟩ := h'
  obtain ⟨a, lx, cx, rfl, Hlx, hlcx, hmx, hX, wX⟩ := h1.any
  obtain ⟨b, ly, cy, rfl, Hly, hlcy, hmy, hY, wY⟩ := k1.any
  have sx := len_small Hlx h2 hn hk
  have sy := len_small Hly k2 hm hk
  clear hn hm
  go_enter Tryz.func153, Tryz.ntmps153
  go_wp2_with (at_make; refine make_u32 _ rfl _ _ rfl Tryz.underlying46 _ (lx + ly) rfl (by omega) (by omega) ?_; intro w1 ho1 hb1 hs1)
  go_loopw [6] (fun iv wr => ∃ (k : Nat) (zs : List Nat), k ≤ lx ∧ iv = .int .i64 (k : Int) ∧ OwnU wr w.heap.size zs ∧ Hid (zs.length = lx + ly) ∧
      Hid (nval (zs.take (k + ly)) = nval (xs.take k) * nval ys) ∧ Below w.heap.size w wr) (fun i _ => lx - (intOf i).toNat)
  case atStart => exact ⟨0, _, Nat.zero_le _, rfl, ho1, List.length_replicate .., show _ = _ by rw [List.take_replicate, nval_zeros]; simp [nval], hb1⟩
  case round =>
    obtain ⟨k, zs, hkl, rfl, ho, Hzl, Hinv, hb⟩ := hrel
    obtain ⟨wo, rfl⟩ : ∃ wo : World, wo = wr := ⟨_, rfl⟩
    by_cases hk : k < lx
    · obtain ⟨x, hx⟩ := get_lt Hlx hk
      have hxb := wX _ (List.mem_of_getElem? hx)
      obtain ⟨bx, ox, rfl, -⟩ := (hX.below hb (Nat.le_refl _)).at hx
      have Hx := Lib.hid hx
      clear hx
      go_wp2
      go_loopw [7, 8] (fun cv jv wr => ∃ (j c : Nat) (zs : List Nat), j ≤ ly ∧ jv = .int .i64 (j : Int) ∧ cv = .int .u64 (c : Int) ∧ c < 4294967296 ∧ OwnU wr w.heap.size zs ∧ Hid (zs.length = lx + ly) ∧
          Hid (nval (zs.take (k + ly)) + 4294967296 ^ (k + j) * c = nval (xs.take k) * nval ys + 4294967296 ^ k * (x * nval (ys.take j))) ∧ Below w.heap.size w wr) (fun _ j _ => ly - (intOf j).toNat)
      case atStart => exact ⟨0, 0, zs, Nat.zero_le _, rfl, rfl, by omega, ho, Hzl, show _ = _ by rw [Hinv.out]; simp [nval], hb⟩
      case round =>
        clear ho Hzl Hinv hb
        obtain ⟨j, c, zs, hjl, rfl, rfl, hc1, ho, Hzl, Hinv, hb⟩ := hrel
        by_cases hj : j < ly
        · obtain ⟨y, hy⟩ := get_lt Hly hj
          obtain ⟨by', oy, rfl, hcy⟩ := (hY.below hb (Nat.le_refl _)).at hy
          have hyb := wY _ (List.mem_of_getElem? hy)
          have hcx := (hX.below hb (Nat.le_refl _)).cell Hx.out
          obtain ⟨z, hz⟩ := get_lt Hzl (i := k + j) (by omega)
          have hcz := ho.cell (k + j) z hz
          have hfz := ho.free (k + j)
          have hzb := ho.2 _ (List.mem_of_getElem? hz)
          have Hy := Lib.hid hy
          have Hz := Lib.hid hz
          clear hy hz
          obtain ⟨hp0, hp1⟩ := mul_bound hxb hyb
          go_wp2
          go_quiet (fail)
          have hcz := ho.cell (k + j) z Hz.out
          have hfz := ho.free (k + j)
          go_wp2
          go_roundw
          case rel =>
            have hpn := mul_lt hxb hyb
            have hq : (x * y + z + c) / 4294967296 < 4294967296 := Nat.div_lt_of_lt_mul (by omega)
            have hr : (x * y + z + c) % 4294967296 < 4294967296 := Nat.mod_lt _ (by omega)
            have he : (x * y + z + c) % 4294967296 + 4294967296 * ((x * y + z + c) / 4294967296) = c + (x * y + z) := by rw [Nat.mod_add_div]; omega
            refine ⟨j + 1, (x * y + z + c) / 4294967296, zs.set (k + j) ((x * y + z + c) % 4294967296), by omega, by go_num, int_of (by simp), hq, OwnU.set' (w := wr.drewN _) ho _ _ _ (by simp) hr, (by rw [List.length_set]; exact Hzl.out), ?_, (below_drewN hb _).setCell (Nat.le_refl _) _⟩
            show _ = _
            rw [take_step Hy.out]
            exact mul_step Hinv.out (set_total _ Hz.out (by omega) (by rw [Hzl.out]; omega)) he (Nat.pow_add ..) (by rw [← Nat.add_assoc, Nat.pow_succ])
          case measure => simp [intOf]; omega
        · obtain rfl : j = ly := by omega
          obtain ⟨z, hz⟩ := get_lt Hzl (i := k + j) (by omega)
          have hcz := ho.cell (k + j) z hz
          have hfz := ho.free (k + j)
          have Hz := Lib.hid hz
          clear hz
          have hcm : (c : Int) % 4294967296 = c := by omega
          go_wp2
          go_roundw
          case rel =>
            refine ⟨k + 1, zs.set (k + j) c, by omega, by go_num, ho.set' _ _ _ (by omega) hc1, (by rw [List.length_set]; exact Hzl.out), ?_, hb.setCell (Nat.le_refl _) _⟩
            show _ = _
            rw [show k + 1 + j = k + j + 1 from by omega, set_step c (by rw [Hzl.out]; omega), take_step Hx.out]
            have e := Hinv.out
            rw [nval_full Hly.out] at e
            exact mul_row e
          case measure => simp [intOf]; omega
    · obtain rfl : k = lx := by omega
      go_wp2_with fail
      refine (rtrim_spec _ zs _ (ho.us (by rw [Hzl.out]; omega) Hzl.out.symm)).mono ?_
      rintro e w' ⟨v, rfl, hv, rfl⟩
      go_wp2_with fail
      go_ret
      refine ⟨v, rfl, ?_, hb⟩
      have e1 : nval zs = nval xs * nval ys := by
        have e2 := Hinv.out
        rw [nval_full Hzl.out, nval_full Hlx.out] at e2
        exact e2
      show NatRep _ v (nval xs * nval ys)
      rw [← e1]
      exact hv
end Go.Proofs.YtpnfdlnhmhekeaaGreat
