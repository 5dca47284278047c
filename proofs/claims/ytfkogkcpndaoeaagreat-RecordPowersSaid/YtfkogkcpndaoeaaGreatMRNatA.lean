/- The reference's nats: trim, NatOf, NatCmp. Conditions: a small number is below 2^64. The reference's nats: sums, differences, products. Conditions: fewer than 2^44 bits. The reference's nats: shifts, bits, the division by a digit. Conditions: fewer than 2^44 bits. -/
import Derived.Test.YtfkogkcpndaoeaaGreatMNatG
set_option linter.all false
namespace Go.Proofs.YtfkogkcpndaoeaaGreat
open Go.RowKit
set_option maxHeartbeats 400000 in
theorem rtrim_eq (a : Option Addr) (len cap : Nat) (xs : List Nat) (w : World) (Hlen : Hid (xs.length = len)) (hcap : len ≤ cap) (hmax : cap ≤ 9223372036854775807) (hA : UsA w a xs) :
    Calls Tryz.prog 186 #[.slice a len cap] w (fun e w' => e = .returned (.slice a (tl xs) cap) ∧ w' = w) := by
  go_enter Tryz.func186, Tryz.ntmps186
  go_wp2
  go_loop [3] (fun n => ∃ k : Nat, k ≤ len ∧ n = .int .i64 k ∧ tl (xs.take k) = tl xs) (fun n => (intOf n).toNat)
  case atStart => exact ⟨len, Nat.le_refl _, rfl, by rw [← Hlen.out, List.take_length]⟩
  case round =>
    obtain ⟨k, hk, rfl, hv⟩ := hrel
    have Hv := Lib.hid hv
    clear hv
    by_cases hk0 : k = 0
    · subst hk0
      have e : tl xs = 0 := by rw [← Hv.out]; rfl
      rw [e]
      go_wp2
      go_ret
      cases a <;> exact ⟨rfl, rfl⟩
    · obtain ⟨m, rfl⟩ : ∃ m, k = m + 1 := ⟨k - 1, by omega⟩
      obtain ⟨x, hx⟩ := get_lt Hlen (i := m) (by omega)
      obtain ⟨b, o, rfl, hc⟩ := hA.at hx
      have Hx := Lib.hid hx
      clear hx
      by_cases hx0 : x = 0
      · subst hx0
        go_wp2
        go_round
        case rel => exact ⟨m, by omega, rfl, by rw [← tl_zero Hx.out]; exact Hv.out⟩
        case measure => simp [intOf]
      · have hx1 : ((x : Int) == 0) = false := by simpa using hx0
        have e : tl xs = m + 1 := by rw [← Hv.out, tl_word Hx.out hx0]
        rw [e]
        go_wp2
        go_ret
        exact ⟨rfl, rfl⟩
theorem rtrim_rep {a : Option Addr} {len cap : Nat} {xs : List Nat} {w : World} (h : Us w (.slice a len cap) xs) : NatRep w (.slice a (tl xs) cap) (nval xs) := by
  obtain ⟨h1, h2⟩ := nval_tl xs
  have hle := tl_le xs
  refine ⟨xs.take (tl xs), ?_, h2, h1⟩
  rcases h.cases with ⟨e, rfl⟩ | ⟨b, o, len, cap, e, hlen, hcap, hmax, hcell⟩
  · injection e with e1 e2 e3
    subst e1 e3
    exact Us.nil
  · injection e with e1 e2 e3
    subst e1 e2 e3
    exact us_take (fun h0 => h.typed _ _ _ _ rfl (by omega)) hle (by omega) hmax h.words hcell
theorem rtrim_spec (v : Value) (xs : List Nat) (w : World) (h : Us w v xs) :
    Calls Tryz.prog 186 #[v] w (RetQ w fun v' => NatRep w v' (nval xs)) := by
  have h0 := h
  obtain ⟨a, len, cap, rfl, Hlen, hcap, hmax, hA, _⟩ := h.any
  refine (rtrim_eq a len cap xs w Hlen hcap hmax hA).mono ?_
  rintro e w' ⟨he, hw⟩
  exact ⟨_, he, rtrim_rep h0, hw.symm⟩
set_option maxHeartbeats 400000 in
theorem rnatOf_spec (n : Nat) (w : World) (hn : n < 18446744073709551616) :
    Calls Tryz.prog 155 #[.int .u64 (n : Int)] w (Ret w fun w' v' => NatRep w' v' n) := by
  have hx0 : (0 : Int) ≤ n := by omega
  have hx1 : (n : Int) < 18446744073709551616 := by omega
  go_enter Tryz.func155, Tryz.ntmps155
  go_wp2_with fail
  refine (rtrim_spec _ [n % 4294967296, n / 4294967296] _ ?_).mono ?_
  · refine (ownU_new w _ [n % 4294967296, n / 4294967296] (by simp [u32]) ?_).us (by simp) rfl
    intro d hd
    simp at hd
    omega
  · rintro e w' ⟨v', rfl, hv, rfl⟩
    go_wp2_with fail
    go_ret
    refine ⟨v', rfl, ?_, (Below.refl _ _).alloc (Nat.le_refl _) _⟩
    have e : nval [n % 4294967296, n / 4294967296] = n := by simp [nval]; omega
    show NatRep _ v' n
    rw [e] at hv
    exact hv
set_option maxHeartbeats 400000 in
theorem rcmp_spec (v u : Value) (n m : Nat) (w : World) (h : NatRep w v n) (h' : NatRep w u m) :
    Calls Tryz.prog 188 #[v, u] w (Ret w fun _ v' => v' = .int .i64 (cmpZ n m)) := by
  obtain ⟨xs, h1, h2, rfl⟩ := h
  obtain ⟨ys, k1, k2, rfl⟩ := h'
  obtain ⟨a, lx, cx, rfl, Hlx, hlcx, hmx, hX, wX⟩ := h1.any
  obtain ⟨b, ly, cy, rfl, Hly, hlcy, hmy, hY, wY⟩ := k1.any
  by_cases hll : lx = ly
  · subst hll
    have e1 : ((lx : Int) != lx) = false := by simp
    go_enter Tryz.func188, Tryz.ntmps188
    go_wp2
    go_loopw [5] (fun i wr => ∃ (k : Nat), k ≤ lx ∧ i = .int .i64 ((k : Int) - 1) ∧ xs.drop k = ys.drop k ∧ Below w.heap.size w wr) (fun i _ => (intOf i + 1).toNat)
    case atStart => exact ⟨lx, Nat.le_refl _, rfl, by rw [List.drop_of_length_le (by rw [Hlx.out]; omega), List.drop_of_length_le (by rw [Hly.out]; omega)], Below.refl _ _⟩
    case round =>
      obtain ⟨k, hk, rfl, hdr, hb⟩ := hrel
      have Hdr := Lib.hid hdr
      clear hdr
      by_cases hk0 : k = 0
      · subst hk0
        go_wp2
        go_ret
        have e : nval xs = nval ys := congrArg nval Hdr.out
        exact ⟨_, rfl, int_of (cmpZ_eq e), hb⟩
      · obtain ⟨m, rfl⟩ : ∃ m, k = m + 1 := ⟨k - 1, by omega⟩
        obtain ⟨x, hx⟩ := get_lt Hlx (i := m) (by omega)
        obtain ⟨y, hy⟩ := get_lt Hly (i := m) (by omega)
        obtain ⟨bx, ox, rfl, hcx⟩ := (hX.below hb (Nat.le_refl _)).at hx
        obtain ⟨by', oy, rfl, hcy⟩ := (hY.below hb (Nat.le_refl _)).at hy
        have Hx := Lib.hid hx
        have Hy := Lib.hid hy
        clear hx hy
        have ei : (((m + 1 : Nat) : Int) - 1) = (m : Int) := by omega
        rw [ei]
        by_cases heq : x = y
        · subst heq
          have e2 : ((x : Int) != x) = false := by simp
          go_wp2
          go_quiet (fail)
          go_wp2
          go_roundw
          case rel => exact ⟨m, by omega, rfl, drop_eq Hx.out Hy.out Hdr.out, below_drewN hb _⟩
          case measure => simp [intOf]
        · have e2 : ((x : Int) != y) = true := by simp; omega
          by_cases hlt : x < y
          · go_wp2
            go_quiet (fail)
            go_wp2
            go_quiet (fail)
            go_wp2
            go_ret
            have := nval_lt_at wX Hx.out Hy.out Hdr.out hlt
            exact ⟨_, rfl, int_of (cmpZ_lt this), below_drewN (below_drewN hb _) _⟩
          · go_wp2
            go_quiet (fail)
            go_wp2
            go_quiet (fail)
            go_wp2
            go_ret
            have hlt : y < x := by omega
            have := nval_lt_at wY Hy.out Hx.out Hdr.out.symm hlt
            exact ⟨_, rfl, int_of (cmpZ_gt this), below_drewN (below_drewN hb _) _⟩
  · have e1 : ((lx : Int) != ly) = true := by simp; omega
    by_cases hlt : lx < ly
    · go_enter Tryz.func188, Tryz.ntmps188
      go_wp2
      go_ret
      have := len_lt wX k2 (by rw [Hlx.out, Hly.out]; exact hlt)
      exact ⟨_, rfl, int_of (cmpZ_lt this), Below.refl _ _⟩
    · go_enter Tryz.func188, Tryz.ntmps188
      go_wp2
      go_ret
      have := len_lt wY h2 (by rw [Hlx.out, Hly.out]; omega)
      exact ⟨_, rfl, int_of (cmpZ_gt this), Below.refl _ _⟩
end Go.Proofs.YtfkogkcpndaoeaaGreat
namespace Go.Proofs.YtfkogkcpndaoeaaGreat
open Go.RowKit
set_option maxHeartbeats 1600000 in
theorem radd_spec (v u : Value) (n m k : Nat) (w : World) (h : NatRep w v n) (h' : NatRep w u m) (hn : n < 2 ^ k) (hm : m < 2 ^ k) (hk : k ≤ 17592186044416) :
    Calls Tryz.prog 147 #[v, u] w (Ret w fun w' v' => NatRep w' v' (n + m)) := by
  obtain ⟨xs0, h1, h2, rfl⟩ := h
  obtain ⟨ys0, k1, k2, rfl⟩ := h'
  obtain ⟨a0, lx0, cx0, rfl, Hlx0, hlcx0, hmx0, hX0, wX0⟩ := h1.any
  obtain ⟨b0, ly0, cy0, rfl, Hly0, hlcy0, hmy0, hY0, wY0⟩ := k1.any
  have sx0 := len_small Hlx0 h2 hn hk
  have sy0 := len_small Hly0 k2 hm hk
  clear hn hm
  go_enter Tryz.func147, Tryz.ntmps147
  go_upto_if 13 with (fail)
  go_cut [0, 1] (fun s0 s1 wx => ∃ (xs ys : List Nat) (a b : Option Addr) (lx cx ly cy : Nat), s0 = .slice a lx cx ∧ s1 = .slice b ly cy ∧ Hid (xs.length = lx) ∧ Hid (ys.length = ly) ∧ ly ≤ lx ∧ lx ≤ cx ∧ cx ≤ 9223372036854775807 ∧ ly ≤ cy ∧ cy ≤ 9223372036854775807 ∧ lx ≤ 549755813889 ∧
      UsA w a xs ∧ UsA w b ys ∧ Words xs ∧ Words ys ∧ Hid (nval xs + nval ys = nval xs0 + nval ys0) ∧ wx = w)
  case first =>
    by_cases hlt : lx0 < ly0
    · go_wp2
      go_meet
      exact ⟨ys0, xs0, b0, a0, ly0, cy0, lx0, cx0, rfl, rfl, Hly0, Hlx0, by omega, hlcy0, hmy0, hlcx0, hmx0, sy0, hY0, hX0, wY0, wX0, Nat.add_comm _ _, rfl⟩
    · go_wp2
      go_meet
      exact ⟨xs0, ys0, a0, b0, lx0, cx0, ly0, cy0, rfl, rfl, Hlx0, Hly0, by omega, hlcx0, hmx0, hlcy0, hmy0, sx0, hX0, hY0, wX0, wY0, rfl, rfl⟩
  case rest =>
    obtain ⟨xs, ys, a, b, lx, cx, ly, cy, rfl, rfl, Hlx, Hly, hll, hlcx, hmx, hlcy, hmy, sx, hX, hY, wX, wY, Hsum, rfl⟩ := hcut
    clear hX0 hY0 wX0 wY0 h1 k1 h2 k2 Hlx0 Hly0 sx0 sy0 hlcx0 hlcy0 hmx0 hmy0
    go_wp2_with (at_make; refine make_u32 _ rfl _ _ rfl Tryz.underlying35 _ (lx + 1) rfl (by omega) (by omega) ?_; intro w1 ho1 hb1 hs1)
    go_loopw [6, 7] (fun cv iv wr => ∃ (k c : Nat) (zs : List Nat), k ≤ lx ∧ iv = .int .i64 (k : Int) ∧ cv = .int .u64 (c : Int) ∧ c ≤ 1 ∧ OwnU wr wc.heap.size zs ∧ Hid (zs.length = lx + 1) ∧
        Hid (nval (zs.take k) + 4294967296 ^ k * c = nval (xs.take k) + nval (ys.take k)) ∧ Below wc.heap.size wc wr) (fun _ i _ => lx - (intOf i).toNat)
    case atStart => exact ⟨0, 0, _, Nat.zero_le _, rfl, rfl, by omega, ho1, List.length_replicate .., rfl, hb1⟩
    case round =>
      obtain ⟨k, c, zs, hkl, rfl, rfl, hc1, ho, Hzl, Hinv, hb⟩ := hrel
      by_cases hk : k < lx
      · obtain ⟨x, hx⟩ := get_lt Hlx hk
        obtain ⟨bx, ox, rfl, hcx⟩ := (hX.below hb (Nat.le_refl _)).at hx
        have hxb := wX _ (List.mem_of_getElem? hx)
        obtain ⟨z, hz⟩ := get_lt Hzl (i := k) (by omega)
        have hcz := ho.cell k z hz
        have hfz := ho.free k
        have Hx := Lib.hid hx
        have Hz := Lib.hid hz
        clear hx hz
        by_cases hky : k < ly
        · obtain ⟨y, hy⟩ := get_lt Hly hky
          have hyb := wY _ (List.mem_of_getElem? hy)
          have hys : Hid (nval (ys.take (k + 1)) = nval (ys.take k) + 4294967296 ^ k * y) := take_step hy
          obtain ⟨b', o', rfl, hcy⟩ := (hY.below hb (Nat.le_refl _)).at hy
          clear hy
          go_wp2
          go_roundw
          case rel =>
            have he : (x + c + y) % 4294967296 + 4294967296 * ((x + c + y) / 4294967296) = x + y + c := by rw [Nat.mod_add_div]; omega
            exact ⟨k + 1, (x + c + y) / 4294967296, zs.set k ((x + c + y) % 4294967296), by omega, by go_num, int_of (by simp), by omega, ho.set' k _ _ (by simp) (Nat.mod_lt _ (by omega)), (by rw [List.length_set]; exact Hzl.out), (show _ = _ by rw [set_step _ (by rw [Hzl.out]; omega), take_step Hx.out, hys.out]; exact add_step Hinv.out he (Nat.pow_succ ..)), hb.setCell (Nat.le_refl _) _⟩
          case measure => simp [intOf]; omega
        · have hys : Hid (nval (ys.take (k + 1)) = nval (ys.take k) + 4294967296 ^ k * 0) := take_over (by rw [Hly.out]; omega)
          go_wp2
          go_roundw
          case rel =>
            have he : (x + c) % 4294967296 + 4294967296 * ((x + c) / 4294967296) = x + 0 + c := by rw [Nat.mod_add_div]; omega
            exact ⟨k + 1, (x + c) / 4294967296, zs.set k ((x + c) % 4294967296), by omega, by go_num, int_of (by simp), by omega, ho.set' k _ _ (by simp) (Nat.mod_lt _ (by omega)), (by rw [List.length_set]; exact Hzl.out), (show _ = _ by rw [set_step _ (by rw [Hzl.out]; omega), take_step Hx.out, hys.out]; exact add_step Hinv.out he (Nat.pow_succ ..)), hb.setCell (Nat.le_refl _) _⟩
          case measure => simp [intOf]; omega
      · obtain rfl : k = lx := by omega
        obtain ⟨z, hz⟩ := get_lt Hzl (i := k) (by omega)
        have hcz := ho.cell k z hz
        have hfz := ho.free k
        have Hz := Lib.hid hz
        clear hz
        have hcm : (c : Int) % 4294967296 = c := by omega
        go_wp2_with fail
        refine (rtrim_spec _ (zs.set k c) _ ((ho.set k c (by omega)).us (by rw [List.length_set, Hzl.out]; omega) (by rw [List.length_set, Hzl.out]))).mono ?_
        rintro e w' ⟨v, rfl, hv, rfl⟩
        go_wp2_with fail
        go_ret
        refine ⟨v, rfl, ?_, hb.setCell (Nat.le_refl _) _⟩
        have e1 : nval (zs.set k c) = nval xs0 + nval ys0 := by
          rw [← nval_full (n := k + 1) (by rw [List.length_set, Hzl.out]), set_step c (by rw [Hzl.out]; omega), Hinv.out, nval_full Hlx.out, List.take_of_length_le (by rw [Hly.out]; omega), Hsum.out]
        show NatRep _ v (nval xs0 + nval ys0)
        rw [← e1]
        exact hv
theorem rsub_one {z b : Nat} (hz : z < 4294967296) (hb : b ≤ 1) :
    ∃ t s d : Nat, IntKind.u64.wrap ((z : Int) - b) = t ∧ (t : Int) % 4294967296 = s ∧ (t : Int) / 9223372036854775808 = d ∧ t < 18446744073709551616 ∧ s < 4294967296 ∧ d ≤ 1 ∧ s + 0 + b = z + 4294967296 * d := by
  refine ⟨(18446744073709551616 + z - b) % 18446744073709551616, (18446744073709551616 + z - b) % 4294967296, if z < b then 1 else 0, ?_, ?_, ?_, ?_, ?_, ?_, ?_⟩
  · rw [show IntKind.u64.wrap ((z : Int) - b) = ((z : Int) - b) % 18446744073709551616 from by simp [IntKind.wrap, IntKind.bits, IntKind.signed]]; omega
  · omega
  · split <;> omega
  · omega
  · omega
  · split <;> omega
  · split <;> omega
theorem rsub_two {z lo b : Nat} (hz : z < 4294967296) (hlo : lo < 4294967296) (hb : b ≤ 1) :
    ∃ t1 t s d : Nat, IntKind.u64.wrap ((z : Int) - b) = t1 ∧ IntKind.u64.wrap ((t1 : Int) - lo) = t ∧ (t : Int) % 4294967296 = s ∧ (t : Int) / 9223372036854775808 = d ∧ t < 18446744073709551616 ∧ s < 4294967296 ∧ d ≤ 1 ∧ s + lo + b = z + 4294967296 * d := by
  refine ⟨(18446744073709551616 + z - b) % 18446744073709551616, (18446744073709551616 + z - lo - b) % 18446744073709551616, (18446744073709551616 + z - lo - b) % 4294967296, if z < lo + b then 1 else 0, ?_, ?_, ?_, ?_, ?_, ?_, ?_, ?_⟩
  · rw [show IntKind.u64.wrap ((z : Int) - b) = ((z : Int) - b) % 18446744073709551616 from by simp [IntKind.wrap, IntKind.bits, IntKind.signed]]; omega
  · rw [show IntKind.u64.wrap ((((18446744073709551616 + z - b) % 18446744073709551616 : Nat) : Int) - lo) = ((((18446744073709551616 + z - b) % 18446744073709551616 : Nat) : Int) - lo) % 18446744073709551616 from by simp [IntKind.wrap, IntKind.bits, IntKind.signed]]; omega
  · omega
  · split <;> omega
  · omega
  · omega
  · split <;> omega
  · split <;> omega
set_option maxHeartbeats 1600000 in
theorem rsub_spec (v u : Value) (n m k : Nat) (w : World) (h : NatRep w v n) (h' : NatRep w u m) (hn : n < 2 ^ k) (hmn : m ≤ n) (hk : k ≤ 17592186044416) :
    Calls Tryz.prog 194 #[v, u] w (Ret w fun w' v' => NatRep w' v' (n - m)) := by
  obtain ⟨xs, h1, h2, rfl⟩ := h
  obtain ⟨ys, k1, k2, rfl⟩ := h'
  obtain ⟨a, lx, cx, rfl, Hlx, hlcx, hmx, hX, wX⟩ := h1.any
  obtain ⟨b, ly, cy, rfl, Hly, hlcy, hmy, hY, wY⟩ := k1.any
  have sx := len_small Hlx h2 hn hk
  have hll : ly ≤ lx := by
    rcases Nat.lt_or_ge lx ly with hlt | hge
    · have := len_lt wX k2 (by rw [Hlx.out, Hly.out]; exact hlt)
      omega
    · exact hge
  have Hmn := Lib.hid hmn
  clear hn hmn
  go_enter Tryz.func194, Tryz.ntmps194
  go_wp2_with (at_make; refine make_u32 _ rfl _ _ rfl Tryz.underlying35 _ lx rfl (by omega) (by omega) ?_; intro w1 ho1 hb1 hs1)
  go_loopw [6, 7] (fun cv iv wr => ∃ (k c : Nat) (zs : List Nat), k ≤ lx ∧ iv = .int .i64 (k : Int) ∧ cv = .int .u64 (c : Int) ∧ c ≤ 1 ∧ OwnU wr w.heap.size zs ∧ Hid (zs.length = lx) ∧
      Hid (nval (zs.take k) + nval (ys.take k) = nval (xs.take k) + 4294967296 ^ k * c) ∧ Below w.heap.size w wr) (fun _ i _ => lx - (intOf i).toNat)
  case atStart => exact ⟨0, 0, _, Nat.zero_le _, rfl, rfl, by omega, ho1, List.length_replicate .., rfl, hb1⟩
  case round =>
    obtain ⟨k, c, zs, hkl, rfl, rfl, hc1, ho, Hzl, Hinv, hb⟩ := hrel
    by_cases hk : k < lx
    · obtain ⟨x, hx⟩ := get_lt Hlx hk
      obtain ⟨bx, ox, rfl, hcx⟩ := (hX.below hb (Nat.le_refl _)).at hx
      have hxb := wX _ (List.mem_of_getElem? hx)
      obtain ⟨z, hz⟩ := get_lt Hzl hk
      have hcz := ho.cell k z hz
      have hfz := ho.free k
      have Hx := Lib.hid hx
      have Hz := Lib.hid hz
      clear hx hz
      by_cases hky : k < ly
      · obtain ⟨y, hy⟩ := get_lt Hly hky
        have hyb := wY _ (List.mem_of_getElem? hy)
        have hys : Hid (nval (ys.take (k + 1)) = nval (ys.take k) + 4294967296 ^ k * y) := take_step hy
        obtain ⟨b', o', rfl, hcy⟩ := (hY.below hb (Nat.le_refl _)).at hy
        clear hy
        obtain ⟨t1, t, s, d, f1, f2, f3, f4, ht, hs, hd, hsum⟩ := rsub_two hxb hyb hc1
        have Hsum := Lib.hid hsum
        clear hsum
        go_wp2
        go_roundw
        case rel => exact ⟨k + 1, d, zs.set k s, by omega, by go_num, rfl, hd, ho.set k s hs, (by rw [List.length_set]; exact Hzl.out), (show _ = _ by rw [set_step s (by rw [Hzl.out]; omega), take_step Hx.out, hys.out]; exact sub_step Hinv.out Hsum.out (Nat.pow_succ ..)), hb.setCell (Nat.le_refl _) _⟩
        case measure => simp [intOf]; omega
      · have hys : Hid (nval (ys.take (k + 1)) = nval (ys.take k) + 4294967296 ^ k * 0) := take_over (by rw [Hly.out]; omega)
        obtain ⟨t1, s, d, f1, f3, f4, ht, hs, hd, hsum⟩ := rsub_one hxb hc1
        have Hsum := Lib.hid hsum
        clear hsum
        go_wp2
        go_roundw
        case rel => exact ⟨k + 1, d, zs.set k s, by omega, by go_num, rfl, hd, ho.set k s hs, (by rw [List.length_set]; exact Hzl.out), (show _ = _ by rw [set_step s (by rw [Hzl.out]; omega), take_step Hx.out, hys.out]; exact sub_step Hinv.out Hsum.out (Nat.pow_succ ..)), hb.setCell (Nat.le_refl _) _⟩
        case measure => simp [intOf]; omega
    · obtain rfl : k = lx := by omega
      go_wp2_with fail
      refine (rtrim_spec _ zs _ (ho.us (by rw [Hzl.out]; omega) Hzl.out.symm)).mono ?_
      rintro e w' ⟨v, rfl, hv, rfl⟩
      go_wp2_with fail
      go_ret
      refine ⟨v, rfl, ?_, hb⟩
      have e1 : nval zs = nval xs - nval ys := by
        have e2 := Hinv.out
        rw [nval_full Hzl.out, nval_full Hlx.out, List.take_of_length_le (by rw [Hly.out]; omega)] at e2
        have e3 := nval_lt ho.2
        rw [Hzl.out] at e3
        have e4 := Hmn.out
        have : c = 0 := by
          rcases Nat.eq_zero_or_pos c with h0 | h0
          · exact h0
          · obtain rfl : c = 1 := by omega
            omega
        subst this
        omega
      show NatRep _ v (nval xs - nval ys)
      rw [← e1]
      exact hv
set_option maxHeartbeats 1600000 in
theorem rmul_spec (v u : Value) (n m k : Nat) (w : World) (h : NatRep w v n) (h' : NatRep w u m) (hn : n < 2 ^ k) (hm : m < 2 ^ k) (hk : k ≤ 17592186044416) :
    Calls Tryz.prog 154 #[v, u] w (Ret w fun w' v' => NatRep w' v' (n * m)) := by
  obtain ⟨xs, h1, h2, rfl⟩ := h
  obtain ⟨ys, k1, k2, rfl⟩ := h'
  obtain ⟨a, lx, cx, rfl, Hlx, hlcx, hmx, hX, wX⟩ := h1.any
  obtain ⟨b, ly, cy, rfl, Hly, hlcy, hmy, hY, wY⟩ := k1.any
  have sx := len_small Hlx h2 hn hk
  have sy := len_small Hly k2 hm hk
  clear hn hm
  go_enter Tryz.func154, Tryz.ntmps154
  go_wp2_with (at_make; refine make_u32 _ rfl _ _ rfl Tryz.underlying35 _ (lx + ly) rfl (by omega) (by omega) ?_; intro w1 ho1 hb1 hs1)
  go_loopw [6] (fun iv wr => ∃ (k : Nat) (zs : List Nat), k ≤ lx ∧ iv = .int .i64 (k : Int) ∧ OwnU wr w.heap.size zs ∧ Hid (zs.length = lx + ly) ∧
      Hid (nval (zs.take (k + ly)) = nval (xs.take k) * nval ys) ∧ Below w.heap.size w wr) (fun i _ => lx - (intOf i).toNat)
  case atStart => exact ⟨0, _, Nat.zero_le _, rfl, ho1, List.length_replicate .., show _ = _ by rw [List.take_replicate, nval_zeros]; simp [nval], hb1⟩
  case round =>
    obtain ⟨k, zs, hkl, rfl, ho, Hzl, Hinv, hb⟩ := hrel
    obtain ⟨wo, rfl⟩ : ∃ wo : World, wo = wr := ⟨_, rfl⟩
    by_cases hk : k < lx
    · obtain ⟨x, hx⟩ := get_lt Hlx hk
      have hxb := wX _ (List.mem_of_getElem? hx)
      obtain ⟨bx, ox, rfl, -⟩ := (hX.below hb (Nat.le_refl _)).at hx
      have Hx := Lib.hid hx
      clear hx
      go_wp2
      go_loopw [7, 8] (fun cv jv wr => ∃ (j c : Nat) (zs : List Nat), j ≤ ly ∧ jv = .int .i64 (j : Int) ∧ cv = .int .u64 (c : Int) ∧ c < 4294967296 ∧ OwnU wr w.heap.size zs ∧ Hid (zs.length = lx + ly) ∧
          Hid (nval (zs.take (k + ly)) + 4294967296 ^ (k + j) * c = nval (xs.take k) * nval ys + 4294967296 ^ k * (x * nval (ys.take j))) ∧ Below w.heap.size w wr) (fun _ j _ => ly - (intOf j).toNat)
      case atStart => exact ⟨0, 0, zs, Nat.zero_le _, rfl, rfl, by omega, ho, Hzl, show _ = _ by rw [Hinv.out]; simp [nval], hb⟩
      case round =>
        clear ho Hzl Hinv hb
        obtain ⟨j, c, zs, hjl, rfl, rfl, hc1, ho, Hzl, Hinv, hb⟩ := hrel
        by_cases hj : j < ly
        · obtain ⟨y, hy⟩ := get_lt Hly hj
          obtain ⟨by', oy, rfl, hcy⟩ := (hY.below hb (Nat.le_refl _)).at hy
          have hyb := wY _ (List.mem_of_getElem? hy)
          have hcx := (hX.below hb (Nat.le_refl _)).cell Hx.out
          obtain ⟨z, hz⟩ := get_lt Hzl (i := k + j) (by omega)
          have hcz := ho.cell (k + j) z hz
          have hfz := ho.free (k + j)
          have hzb := ho.2 _ (List.mem_of_getElem? hz)
          have Hy := Lib.hid hy
          have Hz := Lib.hid hz
          clear hy hz
          obtain ⟨hp0, hp1⟩ := mul_bound hxb hyb
          go_wp2
          go_quiet (fail)
          have hcz := ho.cell (k + j) z Hz.out
          have hfz := ho.free (k + j)
          go_wp2
          go_roundw
          case rel =>
            have hpn := mul_lt hxb hyb
            have hq : (x * y + z + c) / 4294967296 < 4294967296 := Nat.div_lt_of_lt_mul (by omega)
            have hr : (x * y + z + c) % 4294967296 < 4294967296 := Nat.mod_lt _ (by omega)
            have he : (x * y + z + c) % 4294967296 + 4294967296 * ((x * y + z + c) / 4294967296) = c + (x * y + z) := by rw [Nat.mod_add_div]; omega
            refine ⟨j + 1, (x * y + z + c) / 4294967296, zs.set (k + j) ((x * y + z + c) % 4294967296), by omega, by go_num, int_of (by simp), hq, OwnU.set' (w := wr.drewN _) ho _ _ _ (by simp) hr, (by rw [List.length_set]; exact Hzl.out), ?_, (below_drewN hb _).setCell (Nat.le_refl _) _⟩
            show _ = _
            rw [take_step Hy.out]
            exact mul_step Hinv.out (set_total _ Hz.out (by omega) (by rw [Hzl.out]; omega)) he (Nat.pow_add ..) (by rw [← Nat.add_assoc, Nat.pow_succ])
          case measure => simp [intOf]; omega
        · obtain rfl : j = ly := by omega
          obtain ⟨z, hz⟩ := get_lt Hzl (i := k + j) (by omega)
          have hcz := ho.cell (k + j) z hz
          have hfz := ho.free (k + j)
          have Hz := Lib.hid hz
          clear hz
          have hcm : (c : Int) % 4294967296 = c := by omega
          go_wp2
          go_roundw
          case rel =>
            refine ⟨k + 1, zs.set (k + j) c, by omega, by go_num, ho.set' _ _ _ (by omega) hc1, (by rw [List.length_set]; exact Hzl.out), ?_, hb.setCell (Nat.le_refl _) _⟩
            show _ = _
            rw [show k + 1 + j = k + j + 1 from by omega, set_step c (by rw [Hzl.out]; omega), take_step Hx.out]
            have e := Hinv.out
            rw [nval_full Hly.out] at e
            exact mul_row e
          case measure => simp [intOf]; omega
    · obtain rfl : k = lx := by omega
      go_wp2_with fail
      refine (rtrim_spec _ zs _ (ho.us (by rw [Hzl.out]; omega) Hzl.out.symm)).mono ?_
      rintro e w' ⟨v, rfl, hv, rfl⟩
      go_wp2_with fail
      go_ret
      refine ⟨v, rfl, ?_, hb⟩
      have e1 : nval zs = nval xs * nval ys := by
        have e2 := Hinv.out
        rw [nval_full Hzl.out, nval_full Hlx.out] at e2
        exact e2
      show NatRep _ v (nval xs * nval ys)
      rw [← e1]
      exact hv
end Go.Proofs.YtfkogkcpndaoeaaGreat
namespace Go.Proofs.YtfkogkcpndaoeaaGreat
open Go.RowKit
def BitsOf (n bl : Nat) : Prop := n < 2 ^ bl ∧ (bl = 0 ∨ 2 ^ (bl - 1) ≤ n)
theorem bits_top {xs : List Nat} {p d k : Nat} (w : Words xs) (hl : xs.length = p + 1) (hd : xs[p]? = some d) (h1 : d < 2 ^ k) (h2 : k = 0 ∨ 2 ^ (k - 1) ≤ d) (hd0 : 0 < d) : BitsOf (nval xs) (32 * p + k) := by
  have hs := nval_split hd
  rw [List.drop_of_length_le (by omega)] at hs
  simp only [nval, Nat.mul_zero, Nat.add_zero] at hs
  have ht := nval_lt (w.take p)
  rw [List.length_take, Nat.min_eq_left (by omega)] at ht
  have hk : k ≠ 0 := fun h => by rw [h] at h1; simp at h1; omega
  have e : ∀ j, 2 ^ (32 * p + j) = 4294967296 ^ p * 2 ^ j := fun j => by rw [Nat.pow_add, Nat.pow_mul]
  constructor
  · rw [e, hs]
    have h3 : 4294967296 ^ p * (d + 1) ≤ 4294967296 ^ p * 2 ^ k := Nat.mul_le_mul_left _ h1
    rw [Nat.mul_add, Nat.mul_one] at h3
    omega
  · right
    rw [show 32 * p + k - 1 = 32 * p + (k - 1) by omega, e, hs]
    have h3 : 4294967296 ^ p * 2 ^ (k - 1) ≤ 4294967296 ^ p * d := Nat.mul_le_mul_left _ (by omega)
    omega
theorem half_step (d k : Nat) : d / 2 ^ k / 2 = d / 2 ^ (k + 1) := by rw [Nat.div_div_eq_div_mul, Nat.pow_succ]
set_option maxHeartbeats 400000 in
theorem rbits_spec (v : Value) (n k : Nat) (w : World) (h : NatRep w v n) (hn : n < 2 ^ k) (hk : k ≤ 17592186044416) :
    Calls Tryz.prog 148 #[v] w (RetQ w fun v' => ∃ bl : Nat, v' = .int .i64 (bl : Int) ∧ BitsOf n bl) := by
  obtain ⟨xs, h1, h2, rfl⟩ := h
  obtain ⟨a, lx, cx, rfl, Hlx, hlcx, hmx, hX, wX⟩ := h1.any
  have sx := len_small Hlx h2 hn hk
  clear hn
  by_cases hx0 : lx = 0
  · subst hx0
    have e : xs = [] := List.eq_nil_of_length_eq_zero Hlx.out
    go_enter Tryz.func148, Tryz.ntmps148
    go_wp2
    go_ret
    subst e
    exact ⟨_, rfl, ⟨0, rfl, by simp [BitsOf, nval]⟩, rfl⟩
  have ex : ((lx : Int) == 0) = false := by simp; omega
  obtain ⟨p, rfl⟩ : ∃ p, lx = p + 1 := ⟨lx - 1, by omega⟩
  have ep : (((p + 1 : Nat) : Int) - 1) = (p : Int) := by omega
  obtain ⟨d, hd⟩ := get_lt Hlx (i := p) (by omega)
  obtain ⟨b, o, rfl, hcd⟩ := hX.at hd
  have hdb := wX _ (List.mem_of_getElem? hd)
  have hd0 : 0 < d := by
    rcases Nat.eq_zero_or_pos d with h0 | h0
    · exfalso
      apply h2
      rw [List.getLast?_eq_getElem?, Hlx.out, Nat.add_sub_cancel, hd, h0]
    · exact h0
  have Hd := Lib.hid hd
  have Hep := Lib.hid ep
  clear hd
  go_enter Tryz.func148, Tryz.ntmps148
  go_wp2
  clear ep hcd
  go_loop [3, 4] (fun nv xv => ∃ k y : Nat, nv = .int .i64 (k : Int) ∧ xv = .int .u32 (y : Int) ∧ k ≤ 32 ∧ y < 4294967296 ∧ Hid (y = d / 2 ^ k) ∧ Hid (k = 0 ∨ 2 ^ (k - 1) ≤ d)) (fun _ xv => (intOf xv).toNat)
  case atStart => exact ⟨0, d, rfl, rfl, by omega, hdb, show _ = _ by simp, show _ ∨ _ from .inl rfl⟩
  case round =>
    obtain ⟨k, y, rfl, rfl, hk32, hyb, Hy, Hk⟩ := hrel
    by_cases hy0 : y = 0
    · subst hy0
      have hlt : d < 2 ^ k := by
        have := Hy.out
        rcases Nat.lt_or_ge d (2 ^ k) with h | h
        · exact h
        · have := Nat.div_pos h (Nat.two_pow_pos k); omega
      have hfin := Lib.hid (bits_top wX Hlx.out Hd.out hlt Hk.out hd0)
      have ep := Hep.out
      clear hlt
      go_wp2
      go_ret
      exact ⟨_, rfl, ⟨_, int_of (by omega), hfin.out⟩, rfl⟩
    · have hge : 2 ^ k ≤ d := by
        have := Hy.out
        rcases Nat.lt_or_ge d (2 ^ k) with h | h
        · rw [Nat.div_eq_of_lt h] at this; omega
        · exact h
      have hk31 : k < 32 := by
        rcases Nat.lt_or_ge k 32 with h | h
        · exact h
        · have : 2 ^ 32 ≤ 2 ^ k := Nat.pow_le_pow_right (by omega) h
          omega
      have Hge := Lib.hid hge
      clear hge
      go_wp2
      go_round
      case rel => exact ⟨k + 1, y / 2, by go_num, int_of (by omega), by omega, by omega, show _ = _ by rw [Hy.out, half_step], show _ ∨ _ from .inr Hge.out⟩
      case measure => simp [intOf]; omega
set_option maxHeartbeats 1600000 in
theorem rshl_spec (v : Value) (n s k : Nat) (w : World) (h : NatRep w v n) (hn : n < 2 ^ k) (hk : k ≤ 17592186044416) (hs : s ≤ 17592186044416) :
    Calls Tryz.prog 185 #[v, .int .i64 (s : Int)] w (Ret w fun w' v' => NatRep w' v' (n * 2 ^ s)) := by
  have hh := h
  obtain ⟨xs, h1, h2, rfl⟩ := h
  obtain ⟨a, lx, cx, rfl, Hlx, hlcx, hmx, hX, wX⟩ := h1.any
  have sx := len_small Hlx h2 hn hk
  clear hn
  by_cases hx0 : lx = 0
  · subst hx0
    have e : xs = [] := List.eq_nil_of_length_eq_zero Hlx.out
    go_enter Tryz.func185, Tryz.ntmps185
    go_wp2
    go_ret
    subst e
    exact ⟨_, rfl, ⟨[], Us.nil, Norm.nil, by simp [nval]⟩, Below.refl _ _⟩
  have ex : ((lx : Int) == 0) = false := by simp; omega
  clear hh
  obtain ⟨q, hq⟩ : ∃ q, q = s / 32 := ⟨_, rfl⟩
  obtain ⟨r, hr⟩ : ∃ r, r = s % 32 := ⟨_, rfl⟩
  have eq : (s : Int) / 32 = q := by omega
  have er : (s : Int) % 32 = r := by omega
  have hq1 : q ≤ 549755813889 := by omega
  have hr1 : r ≤ 31 := by omega
  have Hs : Hid (s = 32 * q + r) := show _ = _ by omega
  clear hq hr
  go_enter Tryz.func185, Tryz.ntmps185
  go_wp2_with (at_make; refine make_u32 _ rfl _ _ rfl Tryz.underlying35 _ (lx + q + 1) rfl (by omega) (by omega) ?_; intro w1 ho1 hb1 hs1)
  go_loopw [6] (fun iv wr => ∃ (k : Nat) (zs : List Nat), k ≤ lx ∧ iv = .int .i64 (k : Int) ∧ OwnU wr w.heap.size zs ∧ Hid (zs.length = lx + q + 1) ∧
      Hid (nval (zs.take (k + q + 1)) = nval (xs.take k) * 2 ^ s ∧ ∀ z, zs[k + q]? = some z → z < 2 ^ r) ∧ Below w.heap.size w wr) (fun i _ => lx - (intOf i).toNat)
  case atStart =>
    refine ⟨0, _, Nat.zero_le _, rfl, ho1, List.length_replicate .., show _ ∧ _ from ⟨?_, ?_⟩, hb1⟩
    · rw [List.take_replicate, nval_zeros]; simp [nval]
    · intro z hz
      rw [List.getElem?_replicate] at hz
      split at hz
      · obtain rfl := Option.some.inj hz
        exact Nat.pow_pos (by omega)
      · cases hz
  case round =>
    obtain ⟨k, zs, hkl, rfl, ho, Hzl, Hinv, hb⟩ := hrel
    by_cases hk : k < lx
    · obtain ⟨x, hx⟩ := get_lt Hlx hk
      obtain ⟨bx, ox, rfl, hcx⟩ := (hX.below hb (Nat.le_refl _)).at hx
      have hxb := wX _ (List.mem_of_getElem? hx)
      obtain ⟨z, hz⟩ := get_lt Hzl (i := k + q) (by omega)
      obtain ⟨y, hy⟩ := get_lt Hzl (i := k + q + 1) (by omega)
      have hcz := ho.cell (k + q) z hz
      have hfz := ho.free (k + q)
      have hcy := ho.cell (k + q + 1) y hy
      have hfy := ho.free (k + q + 1)
      have hzr := Hinv.out.2 z hz
      have hzb := ho.2 _ (List.mem_of_getElem? hz)
      have Hz := Lib.hid hz
      have Hx := Lib.hid hx
      have Hy := Lib.hid hy
      clear hx hz hy
      obtain ⟨hV1, hV2⟩ := shl_bound hxb hr1
      have hor := or_low (x := x) hr1 hzr
      obtain ⟨V, hV⟩ : ∃ V, V = x * 2 ^ r := ⟨_, rfl⟩
      rw [← hV] at hV1 hV2 hor
      have hpow : (2 : Int) ^ r = ((2 ^ r : Nat) : Int) := by simp
      have hw : IntKind.u64.wrap ((x : Int) * 2 ^ r) = V := by
        rw [hpow, ← Int.natCast_mul, ← hV]
        exact IntWalk.u64_in _ (by omega)
      have hlow : (V : Int) % 4294967296 = ((V % 4294967296 : Nat) : Int) := by simp
      have hor2 : bits .or .u32 (z : Int) ((V : Int) % 4294967296) = (z + V % 4294967296 : Nat) := by
        rw [hlow, u32_or_nat _ _ hzb (by omega), hor]
      have hsum : z + V % 4294967296 < 4294967296 := by
        rw [← hor]
        exact Nat.or_lt_two_pow (n := 32) hzb (by omega)
      have hVr : 2 ^ r ≤ 2 ^ 31 := Nat.pow_le_pow_right (by omega) hr1
      have HV := Lib.hid hV
      have Hvr := Lib.hid hVr
      have Hv2 := Lib.hid hV2
      have Hzr := Lib.hid hzr
      have Hsum := Lib.hid hsum
      clear hV hlow hor hVr hpow hV2 hzr hsum
      go_wp2
      go_roundw
      case rel =>
        refine ⟨k + 1, (zs.set (k + q) (z + V % 4294967296)).set (k + q + 1) (V / 4294967296), by omega, by go_num, ?_, (by rw [List.length_set, List.length_set]; exact Hzl.out), show _ ∧ _ from ⟨?_, ?_⟩, (hb.setCell (Nat.le_refl _) _).setCell (Nat.le_refl _) _⟩
        · refine (ho.set' _ _ _ (by simp) Hsum.out).set' _ _ _ ?_ (by have := Hv2.out; have := Hvr.out; omega)
          have := Hv2.out
          have := Hvr.out
          omega
        · have hl1 : (zs.set (k + q) (z + V % 4294967296)).length = lx + q + 1 := by rw [List.length_set]; exact Hzl.out
          have e1 := Hinv.out.1
          rw [take_step Hz.out] at e1
          rw [show k + 1 + q + 1 = k + q + 1 + 1 from by omega, set_step _ (by rw [hl1]; omega), set_step _ (by rw [Hzl.out]; omega), take_step Hx.out]
          exact shl_step e1 (Nat.mod_add_div _ _) HV.out (by rw [Hs.out, pow_split]) (Nat.pow_add ..) (by rw [Nat.pow_succ])
        · intro z' hz'
          rw [show k + 1 + q = k + q + 1 from by omega, List.getElem?_set_self (by rw [List.length_set, Hzl.out]; omega)] at hz'
          obtain rfl := Option.some.inj hz'
          exact Hv2.out
      case measure => simp [intOf]; omega
    · obtain rfl : k = lx := by omega
      go_wp2_with fail
      refine (rtrim_spec _ zs _ (ho.us (by rw [Hzl.out]; omega) Hzl.out.symm)).mono ?_
      rintro e w' ⟨v, rfl, hv, rfl⟩
      go_wp2_with fail
      go_ret
      refine ⟨v, rfl, ?_, hb⟩
      have e1 : nval zs = nval xs * 2 ^ s := by
        have e2 := Hinv.out.1
        rw [nval_full Hzl.out, nval_full Hlx.out] at e2
        exact e2
      show NatRep _ v (nval xs * 2 ^ s)
      rw [← e1]
      exact hv
set_option maxHeartbeats 1600000 in
theorem rshr_spec (v : Value) (n s k : Nat) (w : World) (h : NatRep w v n) (hn : n < 2 ^ k) (hk : k ≤ 17592186044416) (hs : s ≤ 17592186044416) :
    Calls Tryz.prog 149 #[v, .int .i64 (s : Int)] w (Ret w fun w' v' => NatRep w' v' (n / 2 ^ s)) := by
  obtain ⟨xs, h1, h2, rfl⟩ := h
  obtain ⟨a, lx, cx, rfl, Hlx, hlcx, hmx, hX, wX⟩ := h1.any
  have sx := len_small Hlx h2 hn hk
  clear hn
  obtain ⟨q, hq⟩ : ∃ q, q = s / 32 := ⟨_, rfl⟩
  obtain ⟨r, hr⟩ : ∃ r, r = s % 32 := ⟨_, rfl⟩
  have eq : (s : Int) / 32 = q := by omega
  have er : (s : Int) % 32 = r := by omega
  have hq1 : q ≤ 549755813889 := by omega
  have hr1 : r ≤ 31 := by omega
  have Hs : Hid (s = 32 * q + r) := show _ = _ by omega
  have Htot : Hid (nval xs / 2 ^ s = nval (xs.drop q) / 2 ^ r) := show _ = _ by rw [Hs.out, shr_total wX]
  clear hq hr
  by_cases hql : lx ≤ q
  · have e : xs.drop q = [] := List.drop_of_length_le (by rw [Hlx.out]; exact hql)
    go_enter Tryz.func149, Tryz.ntmps149
    go_wp2
    go_ret
    exact ⟨_, rfl, ⟨[], Us.nil, Norm.nil, by rw [Htot.out, e]; simp [nval]⟩, Below.refl _ _⟩
  obtain ⟨ln, hln⟩ : ∃ ln, lx = q + ln := ⟨lx - q, by omega⟩
  have eln : (lx : Int) - q = ln := by omega
  have Hln := Lib.hid hln
  have hln1 : ln ≤ 549755813889 := by omega
  have hln2 : q + ln ≤ lx := by omega
  clear hln
  go_enter Tryz.func149, Tryz.ntmps149
  go_wp2_with (at_make; refine make_u32 _ rfl _ _ rfl Tryz.underlying35 _ ln rfl (by omega) (by omega) ?_; intro w1 ho1 hb1 hs1)
  go_loopw [6] (fun iv wr => ∃ (k : Nat) (zs : List Nat), k ≤ ln ∧ iv = .int .i64 (k : Int) ∧ OwnU wr w.heap.size zs ∧ Hid (zs.length = ln) ∧
      Hid (nval (zs.take k) = nval (xs.drop q) / 2 ^ r % 4294967296 ^ k) ∧ Below w.heap.size w wr) (fun i _ => ln - (intOf i).toNat)
  case atStart => exact ⟨0, _, Nat.zero_le _, rfl, ho1, List.length_replicate .., show _ = _ by simp [nval, Nat.mod_one], hb1⟩
  case round =>
    obtain ⟨k, zs, hkl, rfl, ho, Hzl, Hinv, hb⟩ := hrel
    by_cases hk : k < ln
    · obtain ⟨x, hx⟩ := get_lt Hlx (i := k + q) (by omega)
      obtain ⟨bx, ox, rfl, hcx⟩ := (hX.below hb (Nat.le_refl _)).at hx
      have hX' := hX.below hb (Nat.le_refl _)
      have hxb := wX _ (List.mem_of_getElem? hx)
      obtain ⟨z, hz⟩ := get_lt Hzl (i := k) (by omega)
      have hcz := ho.cell k z hz
      have hfz := ho.free k
      have Hz := Lib.hid hz
      clear hz
      have e1 := nval_drop (wX.drop q) k
      rw [List.drop_drop, Nat.add_comm, drop_step hx] at e1
      by_cases hk1 : k + q + 1 < lx
      · obtain ⟨y, hy⟩ := get_lt Hlx hk1
        have hcy := hX'.cell hy
        have hyb := wX _ (List.mem_of_getElem? hy)
        rw [drop_step hy] at e1
        have e2 := shr_digit (a := x + 4294967296 * y) (M := nval (xs.drop (k + q + 1 + 1))) hr1 (by rw [e1]; grind)
        have hor := or_high' y x hyb hxb
        obtain ⟨V, hV⟩ : ∃ V, V = x + 4294967296 * y := ⟨_, rfl⟩
        rw [← hV] at e2 hor
        have hV1 : V < 18446744073709551616 := by omega
        have E2 := Lib.hid e2
        clear hV e1 e2 hx hy
        go_wp2
        go_roundw
        case rel =>
          refine ⟨k + 1, zs.set k (V / 2 ^ r % 4294967296), by omega, by go_num, ho.set' _ _ _ (by simp) (Nat.mod_lt _ (by omega)), (by rw [List.length_set]; exact Hzl.out), show _ = _ from ?_, hb.setCell (Nat.le_refl _) _⟩
          rw [set_step _ (by rw [Hzl.out]; exact hk), mod_step, Hinv.out, E2.out]
        case measure => simp [intOf]; omega
      · rw [List.drop_of_length_le (i := k + q + 1) (l := xs) (by rw [Hlx.out]; omega)] at e1
        have e2 := shr_digit (a := x) (M := 0) hr1 (by rw [e1]; simp [nval])
        have E2 := Lib.hid e2
        clear e1 e2 hx
        go_wp2
        go_roundw
        case rel =>
          refine ⟨k + 1, zs.set k (x / 2 ^ r % 4294967296), by omega, by go_num, ho.set' _ _ _ (by simp) (Nat.mod_lt _ (by omega)), (by rw [List.length_set]; exact Hzl.out), show _ = _ from ?_, hb.setCell (Nat.le_refl _) _⟩
          rw [set_step _ (by rw [Hzl.out]; exact hk), mod_step, Hinv.out, E2.out]
        case measure => simp [intOf]; omega
    · obtain rfl : k = ln := by omega
      go_wp2_with fail
      refine (rtrim_spec _ zs _ (ho.us (by rw [Hzl.out]; omega) Hzl.out.symm)).mono ?_
      rintro e w' ⟨v, rfl, hv, rfl⟩
      go_wp2_with fail
      go_ret
      refine ⟨v, rfl, ?_, hb⟩
      have e1 : nval zs = nval xs / 2 ^ s := by
        have e2 := Hinv.out
        rw [nval_full Hzl.out] at e2
        have e3 := nval_lt (wX.drop q)
        rw [List.length_drop, Hlx.out, show lx - q = k from by have := Hln.out; omega] at e3
        rw [e2, Htot.out]
        exact Nat.mod_eq_of_lt (Nat.lt_of_le_of_lt (Nat.div_le_self _ _) e3)
      show NatRep _ v (nval xs / 2 ^ s)
      rw [← e1]
      exact hv
theorem digit_lt {r y x : Nat} (h : r < y) (hx : x < 4294967296) : r * 4294967296 + x < y * 4294967296 := by
  have : (r + 1) * 4294967296 ≤ y * 4294967296 := Nat.mul_le_mul_right _ h
  omega
set_option maxHeartbeats 1600000 in
theorem rdigit_spec (v : Value) (n y k : Nat) (w : World) (h : NatRep w v n) (hy0 : 0 < y) (hyb : y < 4294967296) (hn : n < 2 ^ k) (hk : k ≤ 17592186044416) :
    Calls Tryz.prog 189 #[v, .int .u32 (y : Int)] w (Ret w fun w' v' => ∃ u : Value, v' = .tuple #[u, .int .u32 ((n % y : Nat) : Int)] ∧ NatRep w' u (n / y)) := by
  obtain ⟨xs, h1, h2, rfl⟩ := h
  obtain ⟨a, lx, cx, rfl, Hlx, hlcx, hmx, hX, wX⟩ := h1.any
  have sx := len_small Hlx h2 hn hk
  clear hn
  go_enter Tryz.func189, Tryz.ntmps189
  go_wp2_with (at_make; refine make_u32 _ rfl _ _ rfl Tryz.underlying35 _ lx rfl (by omega) (by omega) ?_; intro w1 ho1 hb1 hs1)
  go_loopw [7, 8] (fun rv iv wr => ∃ (k r : Nat) (zs : List Nat), k ≤ lx ∧ iv = .int .i64 ((k : Int) - 1) ∧ rv = .int .u64 (r : Int) ∧ r < y ∧ OwnU wr w.heap.size zs ∧ Hid (zs.length = lx) ∧
      Hid (nval (zs.drop k) * y + r = nval (xs.drop k)) ∧ Below w.heap.size w wr) (fun _ i _ => (intOf i + 1).toNat)
  case atStart => exact ⟨lx, 0, _, Nat.le_refl _, rfl, rfl, hy0, ho1, List.length_replicate .., show _ = _ by rw [List.drop_of_length_le (by simp), List.drop_of_length_le (by rw [Hlx.out]; omega)]; simp [nval], hb1⟩
  case round =>
    obtain ⟨k, r, zs, hkl, rfl, rfl, hry, ho, Hzl, Hinv, hb⟩ := hrel
    by_cases hk0 : k = 0
    · subst hk0
      go_wp2_with fail
      refine (rtrim_spec _ zs _ (ho.us (by rw [Hzl.out]; omega) Hzl.out.symm)).mono ?_
      rintro e w' ⟨v, rfl, hv, rfl⟩
      go_wp2_with fail
      go_ret2
      have e1 := Hinv.out
      rw [List.drop_zero, List.drop_zero] at e1
      have e2 : nval xs / y = nval zs := by
        rw [← e1, Nat.mul_comm, Nat.mul_add_div hy0, Nat.div_eq_of_lt hry, Nat.add_zero]
      have e3 : nval xs % y = r := by
        rw [← e1, Nat.mul_comm, Nat.mul_add_mod, Nat.mod_eq_of_lt hry]
      refine ⟨_, rfl, ⟨v, ?_, ?_⟩, hb⟩
      · rw [e3]; rfl
      · show NatRep _ v (nval xs / y)
        rw [e2]; exact hv
    · obtain ⟨m, rfl⟩ : ∃ m, k = m + 1 := ⟨k - 1, by omega⟩
      have ei : (((m + 1 : Nat) : Int) - 1) = (m : Int) := by omega
      rw [ei]
      obtain ⟨x, hx⟩ := get_lt Hlx (i := m) (by omega)
      obtain ⟨bx, ox, rfl, hcx⟩ := (hX.below hb (Nat.le_refl _)).at hx
      have hxb := wX _ (List.mem_of_getElem? hx)
      obtain ⟨z, hz⟩ := get_lt Hzl (i := m) (by omega)
      have Hz := Lib.hid hz
      have Hx := Lib.hid hx
      clear hx hz
      have hor := or_high r x (by omega) hxb
      have hV1 : r * 4294967296 + x < 18446744073709551616 := by omega
      obtain ⟨V, hV⟩ : ∃ V, V = r * 4294967296 + x := ⟨_, rfl⟩
      have hVi : (r : Int) * 4294967296 + (x : Int) = (V : Int) := by rw [hV]; omega
      rw [hVi] at hor
      rw [← hV] at hV1
      clear hVi
      have hq : V / y < 4294967296 := Nat.div_lt_of_lt_mul (by rw [hV]; exact digit_lt hry hxb)
      have hr' : V % y < y := Nat.mod_lt _ hy0
      have hyz : ((y : Int) == 0) = false := by simp; omega
      have hcz := ho.cell m z Hz.out
      have hfz := ho.free m
      have HV := Lib.hid hV
      have Hq := Lib.hid hq
      have eq1 : (V : Int) / (y : Int) = ((V / y : Nat) : Int) := by simp
      have eq2 : (V : Int) % (y : Int) = ((V % y : Nat) : Int) := by simp
      obtain ⟨q, hqq⟩ : ∃ q, q = V / y := ⟨_, rfl⟩
      obtain ⟨r', hrr⟩ : ∃ r', r' = V % y := ⟨_, rfl⟩
      rw [← hqq] at eq1 hq
      rw [← hrr] at eq2 hr'
      have Hqq := Lib.hid hqq
      have Hrr := Lib.hid hrr
      have hqm : (q : Int) % 4294967296 = q := by omega
      clear hV hqq hrr Hq
      go_wp2
      go_roundw
      case rel =>
        refine ⟨m, r', zs.set m q, by omega, rfl, int_of eq2, hr', ho.set m q hq, (by rw [List.length_set]; exact Hzl.out), show _ = _ from ?_, hb.setCell (Nat.le_refl _) _⟩
        rw [drop_set q (by rw [Hzl.out]; omega), drop_step Hx.out]
        refine div_step Hinv.out ?_
        rw [Hqq.out, Hrr.out, Nat.div_add_mod' , HV.out]
        omega
      case measure => simp [intOf]
end Go.Proofs.YtfkogkcpndaoeaaGreat
