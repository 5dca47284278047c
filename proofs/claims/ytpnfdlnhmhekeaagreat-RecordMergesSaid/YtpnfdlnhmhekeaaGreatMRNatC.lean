/- The reference's nats: shifts, bits, the division by a digit. Conditions: fewer than 2^44 bits. -/
import Derived.Test.YtpnfdlnhmhekeaaGreatMRNatA
set_option linter.unusedSimpArgs false
set_option linter.unusedVariables false
set_option linter.all false
namespace Go.Proofs.YtpnfdlnhmhekeaaGreat
open Go.RowKit

/-- bl is the number of bits of n. -/
def BitsOf (n bl : Nat) : Prop := n < 2 ^ bl ∧ (bl = 0 ∨ 2 ^ (bl - 1) ≤ n)

theorem bits_top {xs : List Nat} {p d k : Nat} (w : Words xs) (hl : xs.length = p + 1) (hd : xs[p]? = some d) (h1 : d < 2 ^ k) (h2 : k = 0 ∨ 2 ^ (k - 1) ≤ d) (hd0 : 0 < d) : BitsOf (nval xs) (32 * p + k) := by
  have hs := nval_split hd
  rw [List.drop_of_length_le (by omega)] at hs
  simp only [nval, Nat.mul_zero, Nat.add_zero] at hs
  have ht := nval_lt (w.take p)
  rw [List.length_take, Nat.min_eq_left (by omega)] at ht
  have hk : k ≠ 0 := fun h => by rw [h] at h1; simp at h1; omega
  have e : ∀ j, 2 ^ (32 * p + j) = 4294967296 ^ p * 2 ^ j := fun j => by rw [Nat.pow_add, Nat.pow_mul]
  constructor
  · rw [e, hs]
    have h3 : 4294967296 ^ p * (d + 1) ≤ 4294967296 ^ p * 2 ^ k := Nat.mul_le_mul_left _ h1
    rw [Nat.mul_add, Nat.mul_one] at h3
    omega
  · right
    rw [show 32 * p + k - 1 = 32 * p + (k - 1) by omega, e, hs]
    have h3 : 4294967296 ^ p * 2 ^ (k - 1) ≤ 4294967296 ^ p * d := Nat.mul_le_mul_left _ (by omega)
    omega

theorem half_step (d k : Nat) : d / 2 ^ k / 2 = d / 2 ^ (k + 1) := by rw [Nat.div_div_eq_div_mul, Nat.pow_succ]

set_option maxHeartbeats 400000 in
theorem rbits_spec (v : Value) (n k : Nat) (w : World) (h : NatRep w v n) (hn : n < 2 ^ k) (hk : k ≤ 17592186044416) :
    Calls Tryz.prog 156 #[v] w (RetQ w fun v' => ∃ bl : Nat, v' = .int .i64 (bl : Int) ∧ BitsOf n bl) := by
  obtain ⟨xs, h1, h2, rfl⟩ := h
  obtain ⟨a, lx, cx, rfl, Hlx, hlcx, hmx, hX, wX⟩ := h1.any
  have sx := len_small Hlx h2 hn hk
  clear hn
  by_cases hx0 : lx = 0
  · subst hx0
    have e : xs = [] := List.eq_nil_of_length_eq_zero Hlx.out
    go_enter Tryz.func156, Tryz.ntmps156
    go_wp2
    go_ret
    subst e
    exact ⟨_, rfl, ⟨0, rfl, by simp [BitsOf, nval]⟩, rfl⟩
  have ex : ((lx : Int) == 0) = false := by simp; omega
  obtain ⟨p, rfl⟩ : ∃ p, lx = p + 1 := ⟨lx - 1, by omega⟩
  have ep : (((p + 1 : Nat) : Int) - 1) = (p : Int) := by omega
  obtain ⟨d, hd⟩ := get_lt Hlx (i := p) (by omega)
  obtain ⟨b, o, rfl, hcd⟩ := hX.at hd
  have hdb := wX _ (List.mem_of_getElem? hd)
  have hd0 : 0 < d := by
    rcases Nat.eq_zero_or_pos d with h0 | h0
    · exfalso
      apply h2
      rw [List.getLast?_eq_getElem?, Hlx.out, Nat.add_sub_cancel, hd, h0]
    · exact h0
  have Hd := Lib.hid hd
  have Hep := Lib.hid ep
  clear hd
  go_enter Tryz.func156, Tryz.ntmps156
  go_wp2
  clear ep hcd
  go_loop [3, 4] (fun nv xv => ∃ k y : Nat, nv = .int .i64 (k : Int) ∧ xv = .int .u32 (y : Int) ∧ k ≤ 32 ∧ y < 4294967296 ∧ Hid (y = d / 2 ^ k) ∧ Hid (k = 0 ∨ 2 ^ (k - 1) ≤ d)) (fun _ xv => (intOf xv).toNat)
  case atStart => exact ⟨0, d, rfl, rfl, by omega, hdb, show _ = _ by simp, show _ ∨ _ from .inl rfl⟩
  case round =>
    obtain ⟨k, y, rfl, rfl, hk32, hyb, Hy, Hk⟩ := hrel
    by_cases hy0 : y = 0
    · subst hy0
      have hlt : d < 2 ^ k := by
        have := Hy.out
        rcases Nat.lt_or_ge d (2 ^ k) with h | h
        · exact h
        · have := Nat.div_pos h (Nat.two_pow_pos k); omega
      have hfin := Lib.hid (bits_top wX Hlx.out Hd.out hlt Hk.out hd0)
      have ep := Hep.out
      clear hlt
      go_wp2
      go_ret
      exact ⟨_, rfl, ⟨_, int_of (by omega), hfin.out⟩, rfl⟩
    · have hge : 2 ^ k ≤ d := by
        have := Hy.out
        rcases Nat.lt_or_ge d (2 ^ k) with h | h
        · rw [Nat.div_eq_of_lt h] at this; omega
        · exact h
      have hk31 : k < 32 := by
        rcases Nat.lt_or_ge k 32 with h | h
        · exact h
        · have : 2 ^ 32 ≤ 2 ^ k := Nat.pow_le_pow_right (by omega) h
          omega
      have Hge := Lib.hid hge
      clear hge
      go_wp2
      go_round
      case rel => exact ⟨k + 1, y / 2, by go_num, int_of (by omega), by omega, by omega, show _ = _ by rw [Hy.out, half_step], show _ ∨ _ from .inr Hge.out⟩
      case measure => simp [intOf]; omega

set_option maxHeartbeats 1600000 in
theorem rshl_spec (v : Value) (n s k : Nat) (w : World) (h : NatRep w v n) (hn : n < 2 ^ k) (hk : k ≤ 17592186044416) (hs : s ≤ 17592186044416) :
    Calls Tryz.prog 157 #[v, .int .i64 (s : Int)] w (Ret w fun w' v' => NatRep w' v' (n * 2 ^ s)) := by
  have hh := h
  obtain ⟨xs, h1, h2, rfl⟩ := h
  obtain ⟨a, lx, cx, rfl, Hlx, hlcx, hmx, hX, wX⟩ := h1.any
  have sx := len_small Hlx h2 hn hk
  clear hn
  by_cases hx0 : lx = 0
  · subst hx0
    have e : xs = [] := List.eq_nil_of_length_eq_zero Hlx.out
    go_enter Tryz.func157, Tryz.ntmps157
    go_wp2
    go_ret
    subst e
    exact ⟨_, rfl, ⟨[], Us.nil, Norm.nil, by simp [nval]⟩, Below.refl _ _⟩
  have ex : ((lx : Int) == 0) = false := by simp; omega
  clear hh
  obtain ⟨q, hq⟩ : ∃ q, q = s / 32 := ⟨_, rfl⟩
  obtain ⟨r, hr⟩ : ∃ r, r = s % 32 := ⟨_, rfl⟩
  have eq : (s : Int) / 32 = q := by omega
  have er : (s : Int) % 32 = r := by omega
  have hq1 : q ≤ 549755813889 := by omega
  have hr1 : r ≤ 31 := by omega
  have Hs : Hid (s = 32 * q + r) := show _ = _ by omega
  clear hq hr
  go_enter Tryz.func157, Tryz.ntmps157
  go_wp2_with (at_make; refine make_u32 _ rfl _ _ rfl Tryz.underlying46 _ (lx + q + 1) rfl (by omega) (by omega) ?_; intro w1 ho1 hb1 hs1)
  go_loopw [6] (fun iv wr => ∃ (k : Nat) (zs : List Nat), k ≤ lx ∧ iv = .int .i64 (k : Int) ∧ OwnU wr w.heap.size zs ∧ Hid (zs.length = lx + q + 1) ∧
      Hid (nval (zs.take (k + q + 1)) = nval (xs.take k) * 2 ^ s ∧ ∀ z, zs[k + q]? = some z → z < 2 ^ r) ∧ Below w.heap.size w wr) (fun i _ => lx - (intOf i).toNat)
  case atStart =>
    refine ⟨0, _, Nat.zero_le _, rfl, ho1, List.length_replicate .., show _ ∧ _ from ⟨?_, ?_⟩, hb1⟩
    · rw [List.take_replicate, nval_zeros]; simp [nval]
    · intro z hz
      rw [List.getElem?_replicate] at hz
      split at hz
      · obtain rfl := Option.some.inj hz
        exact Nat.pow_pos (by omega)
      · cases hz
  case round =>
    obtain ⟨k, zs, hkl, rfl, ho, Hzl, Hinv, hb⟩ := hrel
    by_cases hk : k < lx
    · obtain ⟨x, hx⟩ := get_lt Hlx hk
      obtain ⟨bx, ox, rfl, hcx⟩ := (hX.below hb (Nat.le_refl _)).at hx
      have hxb := wX _ (List.mem_of_getElem? hx)
      obtain ⟨z, hz⟩ := get_lt Hzl (i := k + q) (by omega)
      obtain ⟨y, hy⟩ := get_lt Hzl (i := k + q + 1) (by omega)
      have hcz := ho.cell (k + q) z hz
      have hfz := ho.free (k + q)
      have hcy := ho.cell (k + q + 1) y hy
      have hfy := ho.free (k + q + 1)
      have hzr := Hinv.out.2 z hz
      have hzb := ho.2 _ (List.mem_of_getElem? hz)
      have Hz := Lib.hid hz
      have Hx := Lib.hid hx
      have Hy := Lib.hid hy
      clear hx hz hy
      obtain ⟨hV1, hV2⟩ := shl_bound hxb hr1
      have hor := or_low (x := x) hr1 hzr
      obtain ⟨V, hV⟩ : ∃ V, V = x * 2 ^ r := ⟨_, rfl⟩
      rw [← hV] at hV1 hV2 hor
      have hpow : (2 : Int) ^ r = ((2 ^ r : Nat) : Int) := by simp
      have hw : IntKind.u64.wrap ((x : Int) * 2 ^ r) = V := by
        rw [hpow, ← Int.natCast_mul, ← hV]
        exact IntWalk.u64_in _ (by omega)
      have hlow : (V : Int) % 4294967296 = ((V % 4294967296 : Nat) : Int) := by simp
      have hor2 : bits .or .u32 (z : Int) ((V : Int) % 4294967296) = (z + V % 4294967296 : Nat) := by
        rw [hlow, u32_or_nat _ _ hzb (by omega), hor]
      have hsum : z + V % 4294967296 < 4294967296 := by
        rw [← hor]
        exact Nat.or_lt_two_pow (n := 32) hzb (by omega)
      have hVr : 2 ^ r ≤ 2 ^ 31 := Nat.pow_le_pow_right (by omega) hr1
      have HV := Lib.hid hV
      have Hvr := Lib.hid hVr
      have Hv2 := Lib.hid hV2
      have Hzr := Lib.hid hzr
      have Hsum := Lib.hid hsum
      clear hV hlow hor hVr hpow hV2 hzr hsum
      go_wp2
      go_roundw
      case rel =>
        refine ⟨k + 1, (zs.set (k + q) (z + V % 4294967296)).set (k + q + 1) (V / 4294967296), by omega, by go_num, ?_, (by rw [List.length_set, List.length_set]; exact Hzl.out), show _ ∧ _ from ⟨?_, ?_⟩, (hb.setCell (Nat.le_refl _) _).setCell (Nat.le_refl _) _⟩
        · refine (ho.set' _ _ _ (by simp) Hsum.out).set' _ _ _ ?_ (by have := Hv2.out; have := Hvr.out; omega)
          have := Hv2.out
          have := Hvr.out
          omega
        · have hl1 : (zs.set (k + q) (z + V % 4294967296)).length = lx + q + 1 := by rw [List.length_set]; exact Hzl.out
          have e1 := Hinv.out.1
          rw [take_step Hz.out] at e1
          rw [show k + 1 + q + 1 = k + q + 1 + 1 from by omega, set_step _ (by rw [hl1]; omega), set_step _ (by rw [Hzl.out]; omega), take_step Hx.out]
          exact shl_step e1 (Nat.mod_add_div _ _) HV.out (by rw [Hs.out, pow_split]) (Nat.pow_add ..) (by rw [Nat.pow_succ])
        · intro z' hz'
          rw [show k + 1 + q = k + q + 1 from by omega, List.getElem?_set_self (by rw [List.length_set, Hzl.out]; omega)] at hz'
          obtain rfl := Option.some.inj hz'
          exact Hv2.out
      case measure => simp [intOf]; omega
    · obtain rfl : k = lx := by omega
      go_wp2_with fail
      refine (rtrim_spec _ zs _ (ho.us (by rw [Hzl.out]; omega) Hzl.out.symm)).mono ?_
      rintro e w' ⟨v, rfl, hv, rfl⟩
      go_wp2_with fail
      go_ret
      refine ⟨v, rfl, ?_, hb⟩
      have e1 : nval zs = nval xs * 2 ^ s := by
        have e2 := Hinv.out.1
        rw [nval_full Hzl.out, nval_full Hlx.out] at e2
        exact e2
      show NatRep _ v (nval xs * 2 ^ s)
      rw [← e1]
      exact hv

set_option maxHeartbeats 1600000 in
theorem rshr_spec (v : Value) (n s k : Nat) (w : World) (h : NatRep w v n) (hn : n < 2 ^ k) (hk : k ≤ 17592186044416) (hs : s ≤ 17592186044416) :
    Calls Tryz.prog 158 #[v, .int .i64 (s : Int)] w (Ret w fun w' v' => NatRep w' v' (n / 2 ^ s)) := by
  obtain ⟨xs, h1, h2, rfl⟩ := h
  obtain ⟨a, lx, cx, rfl, Hlx, hlcx, hmx, hX, wX⟩ := h1.any
  have sx := len_small Hlx h2 hn hk
  clear hn
  obtain ⟨q, hq⟩ : ∃ q, q = s / 32 := ⟨_, rfl⟩
  obtain ⟨r, hr⟩ : ∃ r, r = s % 32 := ⟨_, rfl⟩
  have eq : (s : Int) / 32 = q := by omega
  have er : (s : Int) % 32 = r := by omega
  have hq1 : q ≤ 549755813889 := by omega
  have hr1 : r ≤ 31 := by omega
  have Hs : Hid (s = 32 * q + r) := show _ = _ by omega
  have Htot : Hid (nval xs / 2 ^ s = nval (xs.drop q) / 2 ^ r) := show _ = _ by rw [Hs.out, shr_total wX]
  clear hq hr
  by_cases hql : lx ≤ q
  · have e : xs.drop q = [] := List.drop_of_length_le (by rw [Hlx.out]; exact hql)
    go_enter Tryz.func158, Tryz.ntmps158
    go_wp2
    go_ret
    exact ⟨_, rfl, ⟨[], Us.nil, Norm.nil, by rw [Htot.out, e]; simp [nval]⟩, Below.refl _ _⟩
  obtain ⟨ln, hln⟩ : ∃ ln, lx = q + ln := ⟨lx - q, by omega⟩
  have eln : (lx : Int) - q = ln := by omega
  have Hln := Lib.hid hln
  have hln1 : ln ≤ 549755813889 := by omega
  have hln2 : q + ln ≤ lx := by omega
  clear hln
  go_enter Tryz.func158, Tryz.ntmps158
  go_wp2_with (at_make; refine make_u32 _ rfl _ _ rfl Tryz.underlying46 _ ln rfl (by omega) (by omega) ?_; intro w1 ho1 hb1 hs1)
  go_loopw [6] (fun iv wr => ∃ (k : Nat) (zs : List Nat), k ≤ ln ∧ iv = .int .i64 (k : Int) ∧ OwnU wr w.heap.size zs ∧ Hid (zs.length = ln) ∧
      Hid (nval (zs.take k) = nval (xs.drop q) / 2 ^ r % 4294967296 ^ k) ∧ Below w.heap.size w wr) (fun i _ => ln - (intOf i).toNat)
  case atStart => exact ⟨0, _, Nat.zero_le _, rfl, ho1, List.length_replicate .., show _ = _ by simp [nval, Nat.mod_one], hb1⟩
  case round =>
    obtain ⟨k, zs, hkl, rfl, ho, Hzl, Hinv, hb⟩ := hrel
    by_cases hk : k < ln
    · obtain ⟨x, hx⟩ := get_lt Hlx (i := k + q) (by omega)
      obtain ⟨bx, ox, rfl, hcx⟩ := (hX.below hb (Nat.le_refl _)).at hx
      have hX' := hX.below hb (Nat.le_refl _)
      have hxb := wX _ (List.mem_of_getElem? hx)
      obtain ⟨z, hz⟩ := get_lt Hzl (i := k) (by omega)
      have hcz := ho.cell k z hz
      have hfz := ho.free k
      have Hz := Lib.hid hz
      clear hz
      have e1 := nval_drop (wX.drop q) k
      rw [List.drop_drop, Nat.add_comm, drop_step hx] at e1
      by_cases hk1 : k + q + 1 < lx
      · obtain ⟨y, hy⟩ := get_lt Hlx hk1
        have hcy := hX'.cell hy
        have hyb := wX _ (List.mem_of_getElem? hy)
        rw [drop_step hy] at e1
        have e2 := shr_digit (a := x + 4294967296 * y) (M := nval (xs.drop (k + q + 1 + 1))) hr1 (by rw [e1]; grind)
        have hor := or_high' y x hyb hxb
        obtain ⟨V, hV⟩ : ∃ V, V = x + 4294967296 * y := ⟨_, rfl⟩
        rw [← hV] at e2 hor
        have hV1 : V < 18446744073709551616 := by omega
        have E2 := Lib.hid e2
        clear hV e1 e2 hx hy
        go_wp2
        go_roundw
        case rel =>
          refine ⟨k + 1, zs.set k (V / 2 ^ r % 4294967296), by omega, by go_num, ho.set' _ _ _ (by simp) (Nat.mod_lt _ (by omega)), (by rw [List.length_set]; exact Hzl.out), show _ = _ from ?_, hb.setCell (Nat.le_refl _) _⟩
          rw [set_step _ (by rw [Hzl.out]; exact hk), mod_step, Hinv.out, E2.out]
        case measure => simp [intOf]; omega
      · rw [List.drop_of_length_le (i := k + q + 1) (l := xs) (by rw [Hlx.out]; omega)] at e1
        have e2 := shr_digit (a := x) (M := 0) hr1 (by rw [e1]; simp [nval])
        have E2 := Lib.hid e2
        clear e1 e2 hx
        go_wp2
        go_roundw
        case rel =>
          refine ⟨k + 1, zs.set k (x / 2 ^ r % 4294967296), by omega, by go_num, ho.set' _ _ _ (by simp) (Nat.mod_lt _ (by omega)), (by rw [List.length_set]; exact Hzl.out), show _ = _ from ?_, hb.setCell (Nat.le_refl _) _⟩
          rw [set_step _ (by rw [Hzl.out]; exact hk), mod_step, Hinv.out, E2.out]
        case measure => simp [intOf]; omega
    · obtain rfl : k = ln := by omega
      go_wp2_with fail
      refine (rtrim_spec _ zs _ (ho.us (by rw [Hzl.out]; omega) Hzl.out.symm)).mono ?_
      rintro e w' ⟨v, rfl, hv, rfl⟩
      go_wp2_with fail
      go_ret
      refine ⟨v, rfl, ?_, hb⟩
      have e1 : nval zs = nval xs / 2 ^ s := by
        have e2 := Hinv.out
        rw [nval_full Hzl.out] at e2
        have e3 := nval_lt (wX.drop q)
        rw [List.length_drop, Hlx.out, show lx - q = k from by have := Hln.out; omega] at e3
        rw [e2, Htot.out]
        exact Nat.mod_eq_of_lt (Nat.lt_of_le_of_lt (Nat.div_le_self _ _) e3)
      show NatRep _ v (nval xs / 2 ^ s)
      rw [← e1]
      exact hv


theorem digit_lt {r y x : Nat} (h : r < y) (hx : x < 4294967296) : r * 4294967296 + x < y * 4294967296 := by
  have : (r + 1) * 4294967296 ≤ y * 4294967296 := Nat.mul_le_mul_right _ h
  omega
set_option maxHeartbeats 1600000 in
theorem rdigit_spec (v : Value) (n y k : Nat) (w : World) (h : NatRep w v n) (hy0 : 0 < y) (hyb : y < 4294967296) (hn : n < 2 ^ k) (hk : k ≤ 17592186044416) :
    Calls Tryz.prog 155 #[v, .int .u32 (y : Int)] w (Ret w fun w' v' => ∃ u : Value, v' = .tuple #[u, .int .u32 ((n % y : Nat) : Int)] ∧ NatRep w' u (n / y)) := by
  obtain ⟨xs, h1, h2, rfl⟩ := h
  obtain ⟨a, lx, cx, rfl, Hlx, hlcx, hmx, hX, wX⟩ := h1.any
  have sx := len_small Hlx h2 hn hk
  clear hn
  go_enter Tryz.func155, Tryz.ntmps155
  go_wp2_with (at_make; refine make_u32 _ rfl _ _ rfl Tryz.underlying46 _ lx rfl (by omega) (by omega) ?_; intro w1 ho1 hb1 hs1)
  go_loopw [7, 8] (fun rv iv wr => ∃ (k r : Nat) (zs : List Nat), k ≤ lx ∧ iv = .int .i64 ((k : Int) - 1) ∧ rv = .int .u64 (r : Int) ∧ r < y ∧ OwnU wr w.heap.size zs ∧ Hid (zs.length = lx) ∧
      Hid (nval (zs.drop k) * y + r = nval (xs.drop k)) ∧ Below w.heap.size w wr) (fun _ i _ => (intOf i + 1).toNat)
  case atStart => exact ⟨lx, 0, _, Nat.le_refl _, rfl, rfl, hy0, ho1, List.length_replicate .., show _ = _ by rw [List.drop_of_length_le (by simp), List.drop_of_length_le (by rw [Hlx.out]; omega)]; simp [nval], hb1⟩
  case round =>
    obtain ⟨k, r, zs, hkl, rfl, rfl, hry, ho, Hzl, Hinv, hb⟩ := hrel
    by_cases hk0 : k = 0
    · subst hk0
      go_wp2_with fail
      refine (rtrim_spec _ zs _ (ho.us (by rw [Hzl.out]; omega) Hzl.out.symm)).mono ?_
      rintro e w' ⟨v, rfl, hv, rfl⟩
      go_wp2_with fail
      go_ret2
      have e1 := Hinv.out
      rw [List.drop_zero, List.drop_zero] at e1
      have e2 : nval xs / y = nval zs := by
        rw [← e1, Nat.mul_comm, Nat.mul_add_div hy0, Nat.div_eq_of_lt hry, Nat.add_zero]
      have e3 : nval xs % y = r := by
        rw [← e1, Nat.mul_comm, Nat.mul_add_mod, Nat.mod_eq_of_lt hry]
      refine ⟨_, rfl, ⟨v, ?_, ?_⟩, hb⟩
      · rw [e3]; rfl
      · show NatRep _ v (nval xs / y)
        rw [e2]; exact hv
    · obtain ⟨m, rfl⟩ : ∃ m, k = m + 1 := ⟨k - 1, by omega⟩
      have ei : (((m + 1 : Nat) : Int) - 1) = (m : Int) := by omega
      rw [ei]
      obtain ⟨x, hx⟩ := get_lt Hlx (i := m) (by omega)
      obtain ⟨bx, ox, rfl, hcx⟩ := (hX.below hb (Nat.le_refl _)).at hx
      have hxb := wX _ (List.mem_of_getElem? hx)
      obtain ⟨z, hz⟩ := get_lt Hzl (i := m) (by omega)
      have Hz := Lib.hid hz
      have Hx := Lib.hid hx
      clear hx hz
      have hor := or_high r x (by omega) hxb
      have hV1 : r * 4294967296 + x < 18446744073709551616 := by omega
      obtain ⟨V, hV⟩ : ∃ V, V = r * 4294967296 + x := ⟨_, rfl⟩
      have hVi : (r : Int) * 4294967296 + (x : Int) = (V : Int) := by rw [hV]; omega
      rw [hVi] at hor
      rw [← hV] at hV1
      clear hVi
      have hq : V / y < 4294967296 := Nat.div_lt_of_lt_mul (by rw [hV]; exact digit_lt hry hxb)
      have hr' : V % y < y := Nat.mod_lt _ hy0
      have hyz : ((y : Int) == 0) = false := by simp; omega
      have hcz := ho.cell m z Hz.out
      have hfz := ho.free m
      have HV := Lib.hid hV
      have Hq := Lib.hid hq
      have eq1 : (V : Int) / (y : Int) = ((V / y : Nat) : Int) := by simp
      have eq2 : (V : Int) % (y : Int) = ((V % y : Nat) : Int) := by simp
      obtain ⟨q, hqq⟩ : ∃ q, q = V / y := ⟨_, rfl⟩
      obtain ⟨r', hrr⟩ : ∃ r', r' = V % y := ⟨_, rfl⟩
      rw [← hqq] at eq1 hq
      rw [← hrr] at eq2 hr'
      have Hqq := Lib.hid hqq
      have Hrr := Lib.hid hrr
      have hqm : (q : Int) % 4294967296 = q := by omega
      clear hV hqq hrr Hq
      go_wp2
      go_roundw
      case rel =>
        refine ⟨m, r', zs.set m q, by omega, rfl, int_of eq2, hr', ho.set m q hq, (by rw [List.length_set]; exact Hzl.out), show _ = _ from ?_, hb.setCell (Nat.le_refl _) _⟩
        rw [drop_set q (by rw [Hzl.out]; omega), drop_step Hx.out]
        refine div_step Hinv.out ?_
        rw [Hqq.out, Hrr.out, Nat.div_add_mod' , HV.out]
        omega
      case measure => simp [intOf]
end Go.Proofs.YtpnfdlnhmhekeaaGreat
