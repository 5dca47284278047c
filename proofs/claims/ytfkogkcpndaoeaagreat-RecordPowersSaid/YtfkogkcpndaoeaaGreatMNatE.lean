/- Shifts of nats. Conditions: fewer than 2^44 bits. A multiple of a nat is taken from a row of words in place. Conditions: the rows lie apart; fewer than 2^40 words. -/
import Derived.Test.YtfkogkcpndaoeaaGreatMNatA
set_option linter.all false
namespace Go.Proofs.YtfkogkcpndaoeaaGreat
open Go.RowKit
set_option maxHeartbeats 1600000 in
theorem shl_spec (v : Value) (n s k : Nat) (w : World) (h : NatRep w v n) (hn : n < 2 ^ k) (hk : k ≤ 17592186044416) (hs : s ≤ 17592186044416) :
    Calls Tryz.prog 162 #[v, .int .i64 (s : Int)] w (Ret w fun w' v' => NatRep w' v' (n * 2 ^ s)) := by
  have hh := h
  obtain ⟨xs, h1, h2, rfl⟩ := h
  obtain ⟨a, lx, cx, rfl, Hlx, hlcx, hmx, hX, wX⟩ := h1.any
  have sx := len_small Hlx h2 hn hk
  clear hn
  by_cases hx0 : lx = 0
  · subst hx0
    have e : xs = [] := List.eq_nil_of_length_eq_zero Hlx.out
    go_enter Tryz.func162, Tryz.ntmps162
    go_wp2
    go_ret
    subst e
    exact ⟨_, rfl, by simpa [nval] using hh, Below.refl _ _⟩
  have ex : ((lx : Int) == 0) = false := by simp; omega
  by_cases hs0 : s = 0
  · subst hs0
    go_enter Tryz.func162, Tryz.ntmps162
    go_wp2
    go_ret
    exact ⟨_, rfl, by simpa [nval] using hh, Below.refl _ _⟩
  have es : ((s : Int) == 0) = false := by simp; omega
  clear hh
  obtain ⟨q, hq⟩ : ∃ q, q = s / 32 := ⟨_, rfl⟩
  obtain ⟨r, hr⟩ : ∃ r, r = s % 32 := ⟨_, rfl⟩
  have eq : (s : Int) / 32 = q := by omega
  have er : (s : Int) % 32 = r := by omega
  have hq1 : q ≤ 549755813889 := by omega
  have hr1 : r ≤ 31 := by omega
  have Hs : Hid (s = 32 * q + r) := show _ = _ by omega
  clear hq hr
  go_enter Tryz.func162, Tryz.ntmps162
  go_wp2_with (at_make; refine make_u32 _ rfl _ _ rfl Tryz.underlying36 _ (lx + q + 1) rfl (by omega) (by omega) ?_; intro w1 ho1 hb1 hs1)
  go_loopw [32] (fun iv wr => ∃ (k : Nat) (zs : List Nat), k ≤ lx ∧ iv = .int .i64 (k : Int) ∧ OwnU wr w.heap.size zs ∧ Hid (zs.length = lx + q + 1) ∧
      Hid (nval (zs.take (k + q + 1)) = nval (xs.take k) * 2 ^ s ∧ ∀ z, zs[k + q]? = some z → z < 2 ^ r) ∧ Below w.heap.size w wr) (fun i _ => lx - (intOf i).toNat)
  case atStart =>
    refine ⟨0, _, Nat.zero_le _, rfl, ho1, List.length_replicate .., show _ ∧ _ from ⟨?_, ?_⟩, hb1⟩
    · rw [List.take_replicate, nval_zeros]; simp [nval]
    · intro z hz
      rw [List.getElem?_replicate] at hz
      split at hz
      · obtain rfl := Option.some.inj hz
        exact Nat.pow_pos (by omega)
      · cases hz
  case round =>
    obtain ⟨k, zs, hkl, rfl, ho, Hzl, Hinv, hb⟩ := hrel
    by_cases hk : k < lx
    · obtain ⟨x, hx⟩ := get_lt Hlx hk
      obtain ⟨bx, ox, rfl, hcx⟩ := (hX.below hb (Nat.le_refl _)).at hx
      have hxb := wX _ (List.mem_of_getElem? hx)
      obtain ⟨z, hz⟩ := get_lt Hzl (i := k + q) (by omega)
      obtain ⟨y, hy⟩ := get_lt Hzl (i := k + q + 1) (by omega)
      have hcz := ho.cell (k + q) z hz
      have hfz := ho.free (k + q)
      have hcy := ho.cell (k + q + 1) y hy
      have hfy := ho.free (k + q + 1)
      have hzr := Hinv.out.2 z hz
      have hzb := ho.2 _ (List.mem_of_getElem? hz)
      have Hz := Lib.hid hz
      have Hx := Lib.hid hx
      have Hy := Lib.hid hy
      clear hx hz hy
      obtain ⟨hV1, hV2⟩ := shl_bound hxb hr1
      have hor := or_low (x := x) hr1 hzr
      obtain ⟨V, hV⟩ : ∃ V, V = x * 2 ^ r := ⟨_, rfl⟩
      rw [← hV] at hV1 hV2 hor
      have hpow : (2 : Int) ^ r = ((2 ^ r : Nat) : Int) := by simp
      have hw : IntKind.u64.wrap ((x : Int) * 2 ^ r) = V := by
        rw [hpow, ← Int.natCast_mul, ← hV]
        exact IntWalk.u64_in _ (by omega)
      have hlow : (V : Int) % 4294967296 = ((V % 4294967296 : Nat) : Int) := by simp
      have hor2 : bits .or .u32 (z : Int) ((V : Int) % 4294967296) = (z + V % 4294967296 : Nat) := by
        rw [hlow, u32_or_nat _ _ hzb (by omega), hor]
      have hsum : z + V % 4294967296 < 4294967296 := by
        rw [← hor]
        exact Nat.or_lt_two_pow (n := 32) hzb (by omega)
      have hVr : 2 ^ r ≤ 2 ^ 31 := Nat.pow_le_pow_right (by omega) hr1
      have HV := Lib.hid hV
      have Hvr := Lib.hid hVr
      have Hv2 := Lib.hid hV2
      have Hzr := Lib.hid hzr
      have Hsum := Lib.hid hsum
      clear hV hlow hor hVr hpow hV2 hzr hsum
      go_wp2
      go_roundw
      case rel =>
        refine ⟨k + 1, (zs.set (k + q) (z + V % 4294967296)).set (k + q + 1) (V / 4294967296), by omega, by go_num, ?_, (by rw [List.length_set, List.length_set]; exact Hzl.out), show _ ∧ _ from ⟨?_, ?_⟩, (hb.setCell (Nat.le_refl _) _).setCell (Nat.le_refl _) _⟩
        · refine (ho.set' _ _ _ (by simp) Hsum.out).set' _ _ _ ?_ (by have := Hv2.out; have := Hvr.out; omega)
          have := Hv2.out
          have := Hvr.out
          omega
        · have hl1 : (zs.set (k + q) (z + V % 4294967296)).length = lx + q + 1 := by rw [List.length_set]; exact Hzl.out
          have e1 := Hinv.out.1
          rw [take_step Hz.out] at e1
          rw [show k + 1 + q + 1 = k + q + 1 + 1 from by omega, set_step _ (by rw [hl1]; omega), set_step _ (by rw [Hzl.out]; omega), take_step Hx.out]
          exact shl_step e1 (Nat.mod_add_div _ _) HV.out (by rw [Hs.out, pow_split]) (Nat.pow_add ..) (by rw [Nat.pow_succ])
        · intro z' hz'
          rw [show k + 1 + q = k + q + 1 from by omega, List.getElem?_set_self (by rw [List.length_set, Hzl.out]; omega)] at hz'
          obtain rfl := Option.some.inj hz'
          exact Hv2.out
      case measure => simp [intOf]; omega
    · obtain rfl : k = lx := by omega
      go_wp2_with fail
      refine (trim_spec _ zs _ (ho.us (by rw [Hzl.out]; omega) Hzl.out.symm)).mono ?_
      rintro e w' ⟨v, rfl, hv, rfl⟩
      go_wp2_with fail
      go_ret
      refine ⟨v, rfl, ?_, hb⟩
      have e1 : nval zs = nval xs * 2 ^ s := by
        have e2 := Hinv.out.1
        rw [nval_full Hzl.out, nval_full Hlx.out] at e2
        exact e2
      show NatRep _ v (nval xs * 2 ^ s)
      rw [← e1]
      exact hv
set_option maxHeartbeats 1600000 in
theorem shr_spec (v : Value) (n s k : Nat) (w : World) (h : NatRep w v n) (hn : n < 2 ^ k) (hk : k ≤ 17592186044416) (hs : s ≤ 17592186044416) :
    Calls Tryz.prog 184 #[v, .int .i64 (s : Int)] w (Ret w fun w' v' => NatRep w' v' (n / 2 ^ s)) := by
  obtain ⟨xs, h1, h2, rfl⟩ := h
  obtain ⟨a, lx, cx, rfl, Hlx, hlcx, hmx, hX, wX⟩ := h1.any
  have sx := len_small Hlx h2 hn hk
  clear hn
  obtain ⟨q, hq⟩ : ∃ q, q = s / 32 := ⟨_, rfl⟩
  obtain ⟨r, hr⟩ : ∃ r, r = s % 32 := ⟨_, rfl⟩
  have eq : (s : Int) / 32 = q := by omega
  have er : (s : Int) % 32 = r := by omega
  have hq1 : q ≤ 549755813889 := by omega
  have hr1 : r ≤ 31 := by omega
  have Hs : Hid (s = 32 * q + r) := show _ = _ by omega
  have Htot : Hid (nval xs / 2 ^ s = nval (xs.drop q) / 2 ^ r) := show _ = _ by rw [Hs.out, shr_total wX]
  clear hq hr
  by_cases hql : lx ≤ q
  · have e : xs.drop q = [] := List.drop_of_length_le (by rw [Hlx.out]; exact hql)
    go_enter Tryz.func184, Tryz.ntmps184
    go_wp2
    go_ret
    exact ⟨_, rfl, ⟨[], Us.nil, Norm.nil, by rw [Htot.out, e]; simp [nval]⟩, Below.refl _ _⟩
  obtain ⟨ln, hln⟩ : ∃ ln, lx = q + ln := ⟨lx - q, by omega⟩
  have eln : (lx : Int) - q = ln := by omega
  have Hln := Lib.hid hln
  have hln1 : ln ≤ 549755813889 := by omega
  have hln2 : q + ln ≤ lx := by omega
  clear hln
  go_enter Tryz.func184, Tryz.ntmps184
  go_wp2_with (at_make; refine make_u32 _ rfl _ _ rfl Tryz.underlying36 _ ln rfl (by omega) (by omega) ?_; intro w1 ho1 hb1 hs1)
  go_loopw [26] (fun iv wr => ∃ (k : Nat) (zs : List Nat), k ≤ ln ∧ iv = .int .i64 (k : Int) ∧ OwnU wr w.heap.size zs ∧ Hid (zs.length = ln) ∧
      Hid (nval (zs.take k) = nval (xs.drop q) / 2 ^ r % 4294967296 ^ k) ∧ Below w.heap.size w wr) (fun i _ => ln - (intOf i).toNat)
  case atStart => exact ⟨0, _, Nat.zero_le _, rfl, ho1, List.length_replicate .., show _ = _ by simp [nval, Nat.mod_one], hb1⟩
  case round =>
    obtain ⟨k, zs, hkl, rfl, ho, Hzl, Hinv, hb⟩ := hrel
    by_cases hk : k < ln
    · obtain ⟨x, hx⟩ := get_lt Hlx (i := k + q) (by omega)
      obtain ⟨bx, ox, rfl, hcx⟩ := (hX.below hb (Nat.le_refl _)).at hx
      have hX' := hX.below hb (Nat.le_refl _)
      have hxb := wX _ (List.mem_of_getElem? hx)
      obtain ⟨z, hz⟩ := get_lt Hzl (i := k) (by omega)
      have hcz := ho.cell k z hz
      have hfz := ho.free k
      have Hz := Lib.hid hz
      clear hz
      have e1 := nval_drop (wX.drop q) k
      rw [List.drop_drop, Nat.add_comm, drop_step hx] at e1
      by_cases hk1 : k + q + 1 < lx
      · obtain ⟨y, hy⟩ := get_lt Hlx hk1
        have hcy := hX'.cell hy
        have hyb := wX _ (List.mem_of_getElem? hy)
        rw [drop_step hy] at e1
        have e2 := shr_digit (a := x + 4294967296 * y) (M := nval (xs.drop (k + q + 1 + 1))) hr1 (by rw [e1]; grind)
        have hor := or_high' y x hyb hxb
        obtain ⟨V, hV⟩ : ∃ V, V = x + 4294967296 * y := ⟨_, rfl⟩
        rw [← hV] at e2 hor
        have hV1 : V < 18446744073709551616 := by omega
        have E2 := Lib.hid e2
        clear hV e1 e2 hx hy
        go_wp2
        go_roundw
        case rel =>
          refine ⟨k + 1, zs.set k (V / 2 ^ r % 4294967296), by omega, by go_num, ho.set' _ _ _ (by simp) (Nat.mod_lt _ (by omega)), (by rw [List.length_set]; exact Hzl.out), show _ = _ from ?_, hb.setCell (Nat.le_refl _) _⟩
          rw [set_step _ (by rw [Hzl.out]; exact hk), mod_step, Hinv.out, E2.out]
        case measure => simp [intOf]; omega
      · rw [List.drop_of_length_le (i := k + q + 1) (l := xs) (by rw [Hlx.out]; omega)] at e1
        have e2 := shr_digit (a := x) (M := 0) hr1 (by rw [e1]; simp [nval])
        have E2 := Lib.hid e2
        clear e1 e2 hx
        go_wp2
        go_roundw
        case rel =>
          refine ⟨k + 1, zs.set k (x / 2 ^ r % 4294967296), by omega, by go_num, ho.set' _ _ _ (by simp) (Nat.mod_lt _ (by omega)), (by rw [List.length_set]; exact Hzl.out), show _ = _ from ?_, hb.setCell (Nat.le_refl _) _⟩
          rw [set_step _ (by rw [Hzl.out]; exact hk), mod_step, Hinv.out, E2.out]
        case measure => simp [intOf]; omega
    · obtain rfl : k = ln := by omega
      go_wp2_with fail
      refine (trim_spec _ zs _ (ho.us (by rw [Hzl.out]; omega) Hzl.out.symm)).mono ?_
      rintro e w' ⟨v, rfl, hv, rfl⟩
      go_wp2_with fail
      go_ret
      refine ⟨v, rfl, ?_, hb⟩
      have e1 : nval zs = nval xs / 2 ^ s := by
        have e2 := Hinv.out
        rw [nval_full Hzl.out] at e2
        have e3 := nval_lt (wX.drop q)
        rw [List.length_drop, Hlx.out, show lx - q = k from by have := Hln.out; omega] at e3
        rw [e2, Htot.out]
        exact Nat.mod_eq_of_lt (Nat.lt_of_le_of_lt (Nat.div_le_self _ _) e3)
      show NatRep _ v (nval xs / 2 ^ s)
      rw [← e1]
      exact hv
set_option maxHeartbeats 1600000 in
theorem short_spec (v : Value) (n y k : Nat) (w : World) (h : NatRep w v n) (hy0 : 0 < y) (hyb : y < 4294967296) (hn : n < 2 ^ k) (hk : k ≤ 17592186044416) :
    Calls Tryz.prog 172 #[v, .int .u32 (y : Int)] w (Ret w fun w' v' => ∃ u : Value, v' = .tuple #[u, .int .u32 ((n % y : Nat) : Int)] ∧ NatRep w' u (n / y)) := by
  obtain ⟨xs, h1, h2, rfl⟩ := h
  obtain ⟨a, lx, cx, rfl, Hlx, hlcx, hmx, hX, wX⟩ := h1.any
  have sx := len_small Hlx h2 hn hk
  clear hn
  go_enter Tryz.func172, Tryz.ntmps172
  go_wp2_with (at_make; refine make_u32 _ rfl _ _ rfl Tryz.underlying36 _ lx rfl (by omega) (by omega) ?_; intro w1 ho1 hb1 hs1)
  go_loopw [7, 8] (fun rv iv wr => ∃ (k r : Nat) (zs : List Nat), k ≤ lx ∧ iv = .int .i64 ((k : Int) - 1) ∧ rv = .int .u32 (r : Int) ∧ r < y ∧ OwnU wr w.heap.size zs ∧ Hid (zs.length = lx) ∧
      Hid (nval (zs.drop k) * y + r = nval (xs.drop k)) ∧ Below w.heap.size w wr) (fun _ i _ => (intOf i + 1).toNat)
  case atStart => exact ⟨lx, 0, _, Nat.le_refl _, rfl, rfl, hy0, ho1, List.length_replicate .., show _ = _ by rw [List.drop_of_length_le (by simp), List.drop_of_length_le (by rw [Hlx.out]; omega)]; simp [nval], hb1⟩
  case round =>
    obtain ⟨k, r, zs, hkl, rfl, rfl, hry, ho, Hzl, Hinv, hb⟩ := hrel
    by_cases hk0 : k = 0
    · subst hk0
      go_wp2_with fail
      refine (trim_spec _ zs _ (ho.us (by rw [Hzl.out]; omega) Hzl.out.symm)).mono ?_
      rintro e w' ⟨v, rfl, hv, rfl⟩
      go_wp2_with fail
      go_ret2
      have e1 := Hinv.out
      rw [List.drop_zero, List.drop_zero] at e1
      have e2 : nval xs / y = nval zs := by
        rw [← e1, Nat.mul_comm, Nat.mul_add_div hy0, Nat.div_eq_of_lt hry, Nat.add_zero]
      have e3 : nval xs % y = r := by
        rw [← e1, Nat.mul_comm, Nat.mul_add_mod, Nat.mod_eq_of_lt hry]
      refine ⟨_, rfl, ⟨v, ?_, ?_⟩, hb⟩
      · rw [e3]; rfl
      · show NatRep _ v (nval xs / y)
        rw [e2]; exact hv
    · obtain ⟨m, rfl⟩ : ∃ m, k = m + 1 := ⟨k - 1, by omega⟩
      have ei : (((m + 1 : Nat) : Int) - 1) = (m : Int) := by omega
      rw [ei]
      obtain ⟨x, hx⟩ := get_lt Hlx (i := m) (by omega)
      obtain ⟨bx, ox, rfl, hcx⟩ := (hX.below hb (Nat.le_refl _)).at hx
      have hxb := wX _ (List.mem_of_getElem? hx)
      obtain ⟨z, hz⟩ := get_lt Hzl (i := m) (by omega)
      have Hz := Lib.hid hz
      have Hx := Lib.hid hx
      clear hx hz
      go_wp2_with fail
      refine (div32_any r x y _ hry hxb hyb).mono ?_
      rintro e w2 ⟨_, rfl, ⟨q, r', rfl, hqb, hr', Hq⟩, hb2⟩
      have ho2 := ho.below hb2 ho.lt
      have hcz := ho2.cell m z Hz.out
      have hfz := ho2.free m
      have hbb := hb.trans (hb2.mono hb.size)
      go_wp2_with fail
      go_roundw
      case rel =>
        refine ⟨m, r', zs.set m q, by omega, rfl, rfl, hr', ho2.set m q hqb, (by rw [List.length_set]; exact Hzl.out), show _ = _ from ?_, hbb.setCell (Nat.le_refl _) _⟩
        rw [drop_set q (by rw [Hzl.out]; omega), drop_step Hx.out]
        exact div_step Hinv.out Hq.out
      case measure => simp [intOf]
end Go.Proofs.YtfkogkcpndaoeaaGreat
namespace Go.Proofs.YtfkogkcpndaoeaaGreat
open Go.RowKit
def TakeP (w : World) (g : Nat) (us vs : List Nat) (q j : Nat) (e : Ending) (w' : World) : Prop :=
  ∃ (us' : List Nat) (b' : Nat) (bb : Bool), e = .returned (.bool bb) ∧ (bb = true ↔ b' = 1) ∧ OwnU w' g us' ∧ us'.length = us.length ∧ b' ≤ 1 ∧
    nval us' + 4294967296 ^ j * (q * nval vs) = nval us + 4294967296 ^ (j + vs.length + 1) * b' ∧ us'.drop (j + vs.length + 1) = us.drop (j + vs.length + 1) ∧ w.grownBy w' (some g)
theorem sub_two {z lo b : Nat} (hz : z < 4294967296) (hlo : lo < 4294967296) (hb : b ≤ 1) :
    ∃ t1 t s d : Nat, IntKind.u64.wrap ((z : Int) - lo) = t1 ∧ IntKind.u64.wrap ((t1 : Int) - b) = t ∧ (t : Int) % 4294967296 = s ∧ (t : Int) / 9223372036854775808 = d ∧ t < 18446744073709551616 ∧ s < 4294967296 ∧ d ≤ 1 ∧ s + lo + b = z + 4294967296 * d := by
  refine ⟨(18446744073709551616 + z - lo) % 18446744073709551616, (18446744073709551616 + z - lo - b) % 18446744073709551616, (18446744073709551616 + z - lo - b) % 4294967296, if z < lo + b then 1 else 0, ?_, ?_, ?_, ?_, ?_, ?_, ?_, ?_⟩
  · rw [show IntKind.u64.wrap ((z : Int) - lo) = ((z : Int) - lo) % 18446744073709551616 from by simp [IntKind.wrap, IntKind.bits, IntKind.signed]]; omega
  · rw [show IntKind.u64.wrap ((((18446744073709551616 + z - lo) % 18446744073709551616 : Nat) : Int) - b) = ((((18446744073709551616 + z - lo) % 18446744073709551616 : Nat) : Int) - b) % 18446744073709551616 from by simp [IntKind.wrap, IntKind.bits, IntKind.signed]]; omega
  · omega
  · split <;> omega
  · omega
  · omega
  · split <;> omega
  · split <;> omega
set_option maxHeartbeats 1600000 in
theorem take_spec (w : World) (g lu : Nat) (us vs : List Nat) (b : Option Addr) (lv cv q j : Nat) (ho : OwnU w g us) (Hlu : Hid (us.length = lu)) (hlu : lu ≤ 1099511627776) (hV : UsA w b vs)
    (hne : ∀ b' o, b = some ⟨b', o, none⟩ → b' ≠ g) (Hlv : Hid (vs.length = lv)) (wV : Words vs) (hcv : cv ≤ 9223372036854775807) (hlcv : lv ≤ cv) (hq : q < 4294967296) (hj : j + lv < lu) :
    Calls Tryz.prog 183 #[.slice (some ⟨g, 0, none⟩) lu lu, .slice b lv cv, .int .u64 (q : Int), .int .i64 (j : Int)] w (TakeP w g us vs q j) := by
  have Hne := Lib.hid hne
  clear hne
  have hq0 : (0 : Int) ≤ q := by omega
  go_enter Tryz.func183, Tryz.ntmps183
  go_wp2
  go_loopw [9, 10, 18] (fun cv bv iv wr => ∃ (i c d : Nat) (zs : List Nat), i ≤ lv ∧ iv = .int .i64 (i : Int) ∧ cv = .int .u64 (c : Int) ∧ bv = .int .u64 (d : Int) ∧ c < 4294967296 ∧ d ≤ 1 ∧ OwnU wr g zs ∧ Hid (zs.length = lu) ∧
      Hid (nval zs + 4294967296 ^ j * (q * nval (vs.take i)) = nval us + 4294967296 ^ (j + i) * (c + d) ∧ zs.drop (j + lv + 1) = us.drop (j + lv + 1)) ∧ w.grownBy wr (some g)) (fun _ _ i _ => lv - (intOf i).toNat)
  case atStart => exact ⟨0, 0, 0, us, Nat.zero_le _, rfl, rfl, rfl, by omega, by omega, ho, Hlu, show _ ∧ _ from ⟨by simp [nval], rfl⟩, grown_refl _ _⟩
  case round =>
    clear ho
    obtain ⟨i, c, d, zs, hil, rfl, rfl, rfl, hc, hd, ho, Hzl, Hinv, hg⟩ := hrel
    by_cases hi : i < lv
    · obtain ⟨x, hx⟩ := get_lt Hlv hi
      obtain ⟨bx, ox, rfl, hcx⟩ := (hV.grown hg Hne.out).at hx
      have hxb := wV _ (List.mem_of_getElem? hx)
      obtain ⟨z, hz⟩ := get_lt Hzl (i := i + j) (by omega)
      have hcz := ho.cell (i + j) z hz
      have hfz := ho.free (i + j)
      have hzb := ho.2 _ (List.mem_of_getElem? hz)
      have Hz := Lib.hid hz
      have Hx := Lib.hid hx
      clear hx hz
      obtain ⟨hp0, hp1⟩ := mul_bound hq hxb
      have hpn := mul_lt hq hxb
      have hlo : (q * x + c) % 4294967296 < 4294967296 := Nat.mod_lt _ (by omega)
      have hhi : (q * x + c) / 4294967296 < 4294967296 := Nat.div_lt_of_lt_mul (by omega)
      have hlh := Nat.mod_add_div (q * x + c) 4294967296
      have e1 : ((q : Int) * x + c) % 4294967296 = ((q * x + c) % 4294967296 : Nat) := by simp
      have e2 : ((q : Int) * x + c) / 4294967296 = ((q * x + c) / 4294967296 : Nat) := by simp
      generalize (q * x + c) % 4294967296 = lo at *
      generalize (q * x + c) / 4294967296 = hi' at *
      obtain ⟨t1, t, s, d', f1, f2, f3, f4, ht, hs, hd', hsum⟩ := sub_two hzb hlo hd
      have Hlh := Lib.hid hlh
      have Hsum := Lib.hid hsum
      clear hlh hsum hpn
      go_wp2
      go_roundw
      case rel =>
        refine ⟨i + 1, hi', d', zs.set (i + j) s, by omega, by go_num, rfl, rfl, hhi, hd', ho.set (i + j) s hs, (by rw [List.length_set]; exact Hzl.out), show _ ∧ _ from ⟨?_, ?_⟩, grown_set hg _ _⟩
        · rw [take_step Hx.out]
          have hw := set_whole s Hz.out
          rw [Nat.add_comm i j] at hw ⊢
          exact take_round Hinv.out.1 hw Hlh.out Hsum.out (Nat.pow_add ..) (Nat.pow_succ ..)
        · rw [List.drop_set_of_lt (by omega)]
          exact Hinv.out.2
      case measure => simp [intOf]; omega
    · obtain rfl : i = lv := by omega
      obtain ⟨z, hz⟩ := get_lt Hzl (i := j + i) (by omega)
      have hcz := ho.cell (j + i) z hz
      have hfz := ho.free (j + i)
      have hzb := ho.2 _ (List.mem_of_getElem? hz)
      have Hz := Lib.hid hz
      clear hz
      obtain ⟨t1, t, s, d', f1, f2, f3, f4, ht, hs, hd', hsum⟩ := sub_two hzb hc hd
      have Hsum := Lib.hid hsum
      clear hsum
      go_wp2
      go_ret
      refine ⟨zs.set (j + i) s, d', _, rfl, ?_, ho.set (j + i) s hs, by rw [List.length_set, Hzl.out, Hlu.out], hd', ?_, ?_, grown_set hg _ _⟩
      · simp
        omega
      · have h1 := Hinv.out.1
        rw [nval_full Hlv.out] at h1
        rw [Hlv.out]
        exact take_last h1 (set_whole s Hz.out) Hsum.out (Nat.pow_succ ..)
      · rw [Hlv.out, List.drop_set_of_lt (by omega)]
        exact Hinv.out.2
end Go.Proofs.YtfkogkcpndaoeaaGreat
