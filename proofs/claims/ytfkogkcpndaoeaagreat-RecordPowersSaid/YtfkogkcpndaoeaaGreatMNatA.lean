/- The first functions on nats: trim, natOf, one, cmp. Conditions: none. natOf, one, cmp. Conditions: a small number is below 2^64. The functions of math/bits that the program calls: Add32, Sub32, Div32. Conditions: a carry is 0 or 1; a divisor is greater than the high word. Sums and differences of nats. Conditions: fewer than 2^44 bits. Products of nats. Conditions: fewer than 2^44 bits. -/
import Derived.Test.YtfkogkcpndaoeaaGreatMBase
import Derived.Deep.DeepCutAuto
set_option linter.all false
namespace Go.Proofs.YtfkogkcpndaoeaaGreat
open Go.RowKit
theorem norm_take {xs : List Nat} {m x : Nat} (h : xs[m]? = some x) (hx : x ≠ 0) : Norm (xs.take (m + 1)) := by
  have : m < xs.length := (List.getElem?_eq_some_iff.1 h).1
  unfold Norm
  rw [List.getLast?_eq_getElem?, List.length_take, Nat.min_eq_left (by omega)]
  simp [h, hx]
theorem us_take {w : World} {b o k cap : Nat} {xs : List Nat} (hT : k ≠ 0 → TyB w b 28) (hk : k ≤ xs.length) (hcap : k ≤ cap) (h3 : cap ≤ 9223372036854775807) (hw : Words xs)
    (h4 : ∀ i x, xs[i]? = some x → w.cell? ⟨b, o + i, none⟩ = some (.int .u32 (x : Nat))) : Us w (.slice (some ⟨b, o, none⟩) k cap) (xs.take k) := by
  refine Us.mk hT (by simp; omega) hcap h3 (hw.take k) fun i x hx => ?_
  rw [List.getElem?_take] at hx
  split at hx
  · exact h4 i x hx
  · cases hx
def tl (xs : List Nat) : Nat := (xs.reverse.dropWhile (· == 0)).length
theorem tl_zero {xs : List Nat} {m : Nat} (h : xs[m]? = some 0) : tl (xs.take (m + 1)) = tl (xs.take m) := by
  unfold tl
  rw [List.take_add_one, h]
  simp
theorem tl_word {xs : List Nat} {m x : Nat} (h : xs[m]? = some x) (hx : x ≠ 0) : tl (xs.take (m + 1)) = m + 1 := by
  have := (List.getElem?_eq_some_iff.1 h).1
  unfold tl
  rw [List.take_add_one, h]
  have e : (x == 0) = false := by simpa using hx
  simp [e]
  omega
theorem tl_le (xs : List Nat) : tl xs ≤ xs.length := by
  unfold tl
  have := (List.dropWhile_sublist (fun x : Nat => x == 0) (l := xs.reverse)).length_le
  simpa using this
theorem nval_tl (xs : List Nat) : nval (xs.take (tl xs)) = nval xs ∧ Norm (xs.take (tl xs)) := by
  suffices h : ∀ n, n ≤ xs.length → nval (xs.take (tl (xs.take n))) = nval (xs.take n) ∧ Norm (xs.take (tl (xs.take n))) by
    have := h xs.length (Nat.le_refl _)
    rwa [List.take_length] at this
  intro n
  induction n with
  | zero => intro _; simp [tl, Norm, nval]
  | succ m ih =>
    intro hm
    have hx : xs[m]? = some xs[m] := List.getElem?_eq_getElem (by omega)
    by_cases h0 : xs[m] = 0
    · rw [h0] at hx
      rw [tl_zero hx, nval_take_zero hx]
      exact ih (by omega)
    · rw [tl_word hx h0]
      exact ⟨rfl, norm_take hx h0⟩
set_option maxHeartbeats 400000 in
theorem trim_eq (a : Option Addr) (len cap : Nat) (xs : List Nat) (w : World) (Hlen : Hid (xs.length = len)) (hcap : len ≤ cap) (hmax : cap ≤ 9223372036854775807) (hA : UsA w a xs) :
    Calls Tryz.prog 174 #[.slice a len cap] w (fun e w' => e = .returned (.slice a (tl xs) (tl xs)) ∧ w' = w) := by
  go_enter Tryz.func174, Tryz.ntmps174
  go_wp2
  go_loop [3] (fun n => ∃ k : Nat, k ≤ len ∧ n = .int .i64 k ∧ tl (xs.take k) = tl xs) (fun n => (intOf n).toNat)
  case atStart => exact ⟨len, Nat.le_refl _, rfl, by rw [← Hlen.out, List.take_length]⟩
  case round =>
    obtain ⟨k, hk, rfl, hv⟩ := hrel
    have Hv := Lib.hid hv
    clear hv
    by_cases hk0 : k = 0
    · subst hk0
      have e : tl xs = 0 := by rw [← Hv.out]; rfl
      rw [e]
      go_wp2
      go_ret
      cases a <;> exact ⟨rfl, rfl⟩
    · obtain ⟨m, rfl⟩ : ∃ m, k = m + 1 := ⟨k - 1, by omega⟩
      obtain ⟨x, hx⟩ := get_lt Hlen (i := m) (by omega)
      obtain ⟨b, o, rfl, hc⟩ := hA.at hx
      have Hx := Lib.hid hx
      clear hx
      by_cases hx0 : x = 0
      · subst hx0
        go_wp2
        go_round
        case rel => exact ⟨m, by omega, rfl, by rw [← tl_zero Hx.out]; exact Hv.out⟩
        case measure => simp [intOf]
      · have hx1 : ((x : Int) == 0) = false := by simpa using hx0
        have e : tl xs = m + 1 := by rw [← Hv.out, tl_word Hx.out hx0]
        rw [e]
        go_wp2
        go_ret
        exact ⟨rfl, rfl⟩
theorem trim_rep {a : Option Addr} {len cap : Nat} {xs : List Nat} {w : World} (h : Us w (.slice a len cap) xs) : NatRep w (.slice a (tl xs) (tl xs)) (nval xs) := by
  obtain ⟨h1, h2⟩ := nval_tl xs
  have hle := tl_le xs
  refine ⟨xs.take (tl xs), ?_, h2, h1⟩
  rcases h.cases with ⟨e, rfl⟩ | ⟨b, o, len, cap, e, hlen, hcap, hmax, hcell⟩
  · injection e with e1 e2 e3
    subst e1
    exact Us.nil
  · injection e with e1 e2 e3
    subst e1 e2 e3
    exact us_take (fun h0 => h.typed _ _ _ _ rfl (by omega)) hle (Nat.le_refl _) (by omega) h.words hcell
theorem trim_spec (v : Value) (xs : List Nat) (w : World) (h : Us w v xs) :
    Calls Tryz.prog 174 #[v] w (RetQ w fun v' => NatRep w v' (nval xs)) := by
  have h0 := h
  obtain ⟨a, len, cap, rfl, Hlen, hcap, hmax, hA, _⟩ := h.any
  refine (trim_eq a len cap xs w Hlen hcap hmax hA).mono ?_
  rintro e w' ⟨he, hw⟩
  exact ⟨_, he, trim_rep h0, hw.symm⟩
end Go.Proofs.YtfkogkcpndaoeaaGreat
namespace Go.Proofs.YtfkogkcpndaoeaaGreat
open Go.RowKit
set_option maxHeartbeats 400000 in
theorem natOf_spec (n : Nat) (w : World) (hn : n < 18446744073709551616) :
    Calls Tryz.prog 130 #[.int .u64 (n : Int)] w (Ret w fun w' v' => NatRep w' v' n) := by
  have hx0 : (0 : Int) ≤ n := by omega
  have hx1 : (n : Int) < 18446744073709551616 := by omega
  go_enter Tryz.func130, Tryz.ntmps130
  go_wp2_with fail
  refine (trim_spec _ [n % 4294967296, n / 4294967296] _ ?_).mono ?_
  · refine (ownU_new w _ [n % 4294967296, n / 4294967296] (by simp [u32]) ?_).us (by simp) rfl
    intro d hd
    simp at hd
    omega
  · rintro e w' ⟨v', rfl, hv, rfl⟩
    go_wp2_with fail
    go_ret
    refine ⟨v', rfl, ?_, (Below.refl _ _).alloc (Nat.le_refl _) _⟩
    have e : nval [n % 4294967296, n / 4294967296] = n := by simp [nval]; omega
    show NatRep _ v' n
    rw [e] at hv
    exact hv
set_option maxHeartbeats 400000 in
theorem one_spec (v : Value) (n : Nat) (w : World) (h : NatRep w v n) :
    Calls Tryz.prog 142 #[v] w (RetQ w fun v' => v' = .bool (decide (n = 1))) := by
  obtain ⟨xs, h1, h2, rfl⟩ := h
  have hW := h1.words
  rcases h1.cases with ⟨rfl, rfl⟩ | ⟨b, o, len, cap, rfl, hlen, hcap, hmax, hcell⟩
  · go_enter Tryz.func142, Tryz.ntmps142
    go_wp2
    go_ret
    exact ⟨_, rfl, rfl, rfl⟩
  · by_cases hl1 : len = 1
    · subst hl1
      obtain ⟨x, rfl⟩ : ∃ x, xs = [x] := List.length_eq_one_iff.1 hlen
      have hc := hcell 0 x rfl
      rw [Nat.add_zero] at hc
      go_enter Tryz.func142, Tryz.ntmps142
      go_wp2
      go_ret
      exact ⟨_, rfl, bool_of (by simp [nval]; omega), rfl⟩
    · have h3 : ((len : Int) == 1) = false := by simp; omega
      have hne : nval xs ≠ 1 := fun e => hl1 (by
        have := norm_inj hW (ys := [1]) (by simp [Words]) h2 (by simp [Norm]) (by simpa [nval] using e)
        rw [← hlen, this]; rfl)
      go_enter Tryz.func142, Tryz.ntmps142
      go_wp2
      go_ret
      exact ⟨_, rfl, by simp [hne], rfl⟩
set_option maxHeartbeats 400000 in
theorem cmp_spec (v u : Value) (n m : Nat) (w : World) (h : NatRep w v n) (h' : NatRep w u m) :
    Calls Tryz.prog 116 #[v, u] w (Ret w fun _ v' => v' = .int .i64 (cmpZ n m)) := by
  obtain ⟨xs, h1, h2, rfl⟩ := h
  obtain ⟨ys, k1, k2, rfl⟩ := h'
  obtain ⟨a, lx, cx, rfl, Hlx, hlcx, hmx, hX, wX⟩ := h1.any
  obtain ⟨b, ly, cy, rfl, Hly, hlcy, hmy, hY, wY⟩ := k1.any
  by_cases hll : lx = ly
  · subst hll
    have e1 : ((lx : Int) != lx) = false := by simp
    go_enter Tryz.func116, Tryz.ntmps116
    go_wp2
    go_loopw [5] (fun i wr => ∃ (k : Nat), k ≤ lx ∧ i = .int .i64 ((k : Int) - 1) ∧ xs.drop k = ys.drop k ∧ Below w.heap.size w wr) (fun i _ => (intOf i + 1).toNat)
    case atStart => exact ⟨lx, Nat.le_refl _, rfl, by rw [List.drop_of_length_le (by rw [Hlx.out]; omega), List.drop_of_length_le (by rw [Hly.out]; omega)], Below.refl _ _⟩
    case round =>
      obtain ⟨k, hk, rfl, hdr, hb⟩ := hrel
      have Hdr := Lib.hid hdr
      clear hdr
      by_cases hk0 : k = 0
      · subst hk0
        go_wp2
        go_ret
        have e : nval xs = nval ys := congrArg nval Hdr.out
        exact ⟨_, rfl, int_of (cmpZ_eq e), hb⟩
      · obtain ⟨m, rfl⟩ : ∃ m, k = m + 1 := ⟨k - 1, by omega⟩
        obtain ⟨x, hx⟩ := get_lt Hlx (i := m) (by omega)
        obtain ⟨y, hy⟩ := get_lt Hly (i := m) (by omega)
        obtain ⟨bx, ox, rfl, hcx⟩ := (hX.below hb (Nat.le_refl _)).at hx
        obtain ⟨by', oy, rfl, hcy⟩ := (hY.below hb (Nat.le_refl _)).at hy
        have Hx := Lib.hid hx
        have Hy := Lib.hid hy
        clear hx hy
        have ei : (((m + 1 : Nat) : Int) - 1) = (m : Int) := by omega
        rw [ei]
        go_wp2
        go_quiet (fail)
        go_wp2
        · go_ret
          have hlt : x < y := by omega
          have := nval_lt_at wX Hx.out Hy.out Hdr.out hlt
          exact ⟨_, rfl, int_of (cmpZ_lt this), below_drewN hb _⟩
        · go_quiet (fail)
          go_wp2
          · go_ret
            have hlt : y < x := by omega
            have := nval_lt_at wY Hy.out Hx.out Hdr.out.symm hlt
            exact ⟨_, rfl, int_of (cmpZ_gt this), below_drewN (below_drewN hb _) _⟩
          · have heq : x = y := by omega
            go_roundw
            case rel => exact ⟨m, by omega, rfl, drop_eq Hx.out (heq ▸ Hy.out) Hdr.out, below_drewN hb _⟩
            case measure => simp [intOf]
  · have e1 : ((lx : Int) != ly) = true := by simp; omega
    by_cases hlt : lx < ly
    · go_enter Tryz.func116, Tryz.ntmps116
      go_wp2
      go_ret
      have := len_lt wX k2 (by rw [Hlx.out, Hly.out]; exact hlt)
      exact ⟨_, rfl, int_of (cmpZ_lt this), Below.refl _ _⟩
    · go_enter Tryz.func116, Tryz.ntmps116
      go_wp2
      go_ret
      have := len_lt wY h2 (by rw [Hlx.out, Hly.out]; omega)
      exact ⟨_, rfl, int_of (cmpZ_gt this), Below.refl _ _⟩
end Go.Proofs.YtfkogkcpndaoeaaGreat
namespace Go.Proofs.YtfkogkcpndaoeaaGreat
open Go.RowKit
def n32 (x : Nat) : Nat := 4294967295 - x
theorem xor_ones {x : Nat} (h : x < 4294967296) : 4294967295 ^^^ x = n32 x := by
  apply Nat.eq_of_testBit_eq
  intro i
  have h1 := Nat.testBit_two_pow_sub_succ (n := 32) h i
  have h2 : (2 ^ 32 - (x + 1)) = n32 x := by unfold n32; omega
  rw [h2] at h1
  have h3 := Nat.testBit_two_pow_sub_one 32 i
  rw [h1, Nat.testBit_xor, show (4294967295 : Nat) = 2 ^ 32 - 1 from rfl, h3]
  by_cases hi : i < 32
  · simp [hi]
  · have hl2 : 2 ^ 32 ≤ 2 ^ i := Nat.pow_le_pow_right (by omega) (by omega)
    have : x.testBit i = false := Nat.testBit_lt_two_pow (Nat.lt_of_lt_of_le h hl2)
    simp [hi, this]
theorem tup2 {k j : IntKind} {a b a' b' : Int} (h1 : a = a') (h2 : b = b') : Value.tuple #[.int k a, .int j b] = .tuple #[.int k a', .int j b'] := by rw [h1, h2]
set_option maxHeartbeats 400000 in
theorem add32_spec (x y c : Nat) (w : World) (hx : x < 4294967296) (hy : y < 4294967296) (hc : c < 4294967296) :
    Calls Tryz.prog 197 #[.int .u32 (x : Int), .int .u32 (y : Int), .int .u32 (c : Int)] w
      (RetQ w fun v => v = .tuple #[.int .u32 ((x + y + c) % 4294967296 : Nat), .int .u32 ((x + y + c) / 4294967296 : Nat)]) := by
  have hx0 : (0 : Int) ≤ x := by omega
  have hx1 : (x : Int) < 4294967296 := by omega
  go_enter Tryz.func197, Tryz.ntmps197
  go_wp2
  go_ret2
  exact ⟨_, rfl, tup2 (by omega) (by omega), rfl⟩
theorem tb31 {a : Nat} (h : a < 4294967296) : a.testBit 31 = decide (2147483648 ≤ a) := by
  rw [Nat.testBit_eq_decide_div_mod_eq]
  show decide (a / 2147483648 % 2 = 1) = _
  rw [decide_eq_decide]
  omega
theorem top31 {a : Nat} (h : a < 4294967296) : a / 2147483648 = (a.testBit 31).toNat := by
  rw [tb31 h]
  by_cases h' : 2147483648 ≤ a <;> simp [h'] <;> omega
theorem sub_borrow {x y c d : Nat} (hx : x < 4294967296) (hy : y < 4294967296) (hc : c ≤ 1) (hd : d = (4294967296 + x - y - c) % 4294967296) :
    ((n32 x &&& y) ||| (n32 (x ^^^ y) &&& d)) / 2147483648 = if x < y + c then 1 else 0 := by
  have hxy : x ^^^ y < 4294967296 := Nat.xor_lt_two_pow (n := 32) hx hy
  have hdl : d < 4294967296 := by omega
  have hn1 : n32 x < 4294967296 := by unfold n32; omega
  have hn2 : n32 (x ^^^ y) < 4294967296 := by unfold n32; omega
  have ha : (n32 x &&& y) < 4294967296 := Nat.and_lt_two_pow (n := 32) _ hy
  have hb : (n32 (x ^^^ y) &&& d) < 4294967296 := Nat.and_lt_two_pow (n := 32) _ hdl
  rw [top31 (Nat.or_lt_two_pow (n := 32) ha hb)]
  have e1 : (n32 x).testBit 31 = !(x.testBit 31) := by
    rw [tb31 hn1, tb31 hx]; unfold n32; by_cases h : 2147483648 ≤ x <;> simp [h] <;> omega
  have e2 : (n32 (x ^^^ y)).testBit 31 = !((x ^^^ y).testBit 31) := by
    rw [tb31 hn2, tb31 hxy]; unfold n32; by_cases h : 2147483648 ≤ x ^^^ y <;> simp [h] <;> omega
  rw [Nat.testBit_or, Nat.testBit_and, Nat.testBit_and, e1, e2, Nat.testBit_xor, tb31 hx, tb31 hy, tb31 hdl]
  by_cases h1 : 2147483648 ≤ x <;> by_cases h2 : 2147483648 ≤ y <;> by_cases h3 : x < y + c <;> simp [h1, h2, h3] <;> omega
set_option maxHeartbeats 400000 in
theorem sub32_spec (x y c : Nat) (w : World) (hx : x < 4294967296) (hy : y < 4294967296) (hc : c ≤ 1) :
    Calls Tryz.prog 198 #[.int .u32 (x : Int), .int .u32 (y : Int), .int .u32 (c : Int)] w
      (RetQ w fun v => v = .tuple #[.int .u32 ((4294967296 + x - y - c) % 4294967296 : Nat), .int .u32 (if x < y + c then 1 else 0 : Nat)]) := by
  obtain ⟨d, hd⟩ : ∃ d : Nat, d = (4294967296 + x - y - c) % 4294967296 := ⟨_, rfl⟩
  have hfin := sub_borrow hx hy hc hd
  rw [← hd, ← hfin]
  have hxy : x ^^^ y < 4294967296 := Nat.xor_lt_two_pow (n := 32) hx hy
  have hdl : d < 4294967296 := by omega
  have hn1 : n32 x < 4294967296 := by unfold n32; omega
  have hn2 : n32 (x ^^^ y) < 4294967296 := by unfold n32; omega
  have ha : (n32 x &&& y) < 4294967296 := Nat.and_lt_two_pow (n := 32) _ hy
  have hb : (n32 (x ^^^ y) &&& d) < 4294967296 := Nat.and_lt_two_pow (n := 32) _ hdl
  obtain ⟨m, hm⟩ : ∃ m : Int, m = 4294967295 := ⟨_, rfl⟩
  have hmx : (if IntKind.u32.signed = true then (-1 : Int) else IntKind.u32.max) = m := by rw [hm]; rfl
  have h1 : bits .xor .u32 m x = (n32 x : Nat) := by
    rw [hm, show (4294967295 : Int) = ((4294967295 : Nat) : Int) from rfl, u32_xor_nat _ _ (by omega) hx, xor_ones hx]
  have h3 : bits .xor .u32 x y = (x ^^^ y : Nat) := u32_xor_nat _ _ hx hy
  have h4 : bits .xor .u32 m (x ^^^ y : Nat) = (n32 (x ^^^ y) : Nat) := by
    rw [hm, show (4294967295 : Int) = ((4294967295 : Nat) : Int) from rfl, u32_xor_nat _ _ (by omega) hxy, xor_ones hxy]
  obtain ⟨nx, hnx⟩ : ∃ nx : Nat, nx = n32 x := ⟨_, rfl⟩
  obtain ⟨xy, hxye⟩ : ∃ xy : Nat, xy = n32 (x ^^^ y) := ⟨_, rfl⟩
  rw [← hnx] at h1 hn1 ha ⊢
  rw [← hxye] at h4 hn2 hb ⊢
  have h5 : bits .and .u32 nx y = (nx &&& y : Nat) := u32_and_nat _ _ hn1 hy
  obtain ⟨d1, hd1⟩ : ∃ d1 : Nat, d1 = (4294967296 + x - y) % 4294967296 := ⟨_, rfl⟩
  have h6 : IntKind.u32.wrap ((x : Int) - y) = d1 := by rw [IntKind.wrap_u32]; omega
  have h7 : IntKind.u32.wrap ((d1 : Int) - c) = d := by rw [IntKind.wrap_u32]; omega
  have h8 : bits .and .u32 xy d = (xy &&& d : Nat) := u32_and_nat _ _ hn2 hdl
  have h9 : bits .or .u32 (nx &&& y : Nat) (xy &&& d : Nat) = ((nx &&& y) ||| (xy &&& d) : Nat) := u32_or_nat _ _ ha hb
  have hx0 : (0 : Int) ≤ x := by omega
  have hx1 : (x : Int) < 4294967296 := by omega
  clear hnx hxye hd hd1 hfin hm
  go_enter Tryz.func198, Tryz.ntmps198
  go_wp2
  go_ret2
  exact ⟨_, rfl, tup2 rfl (by simp), rfl⟩
theorem or_high (h l : Nat) (hh : h < 4294967296) (hl : l < 4294967296) : bits .or .u64 ((h : Int) * 4294967296) (l : Int) = (h : Int) * 4294967296 + l := by
  have e := Nat.two_pow_add_eq_or_of_lt (i := 32) hl h
  rw [show ((h : Int) * 4294967296) = ((2 ^ 32 * h : Nat) : Int) from by omega, u64_or_nat _ _ (by omega) (by omega), ← e]
  omega
theorem or_high' (h l : Nat) (hh : h < 4294967296) (hl : l < 4294967296) : bits .or .u64 (l : Int) ((h : Int) * 4294967296) = ((l + 4294967296 * h : Nat) : Int) := by
  have e := Nat.two_pow_add_eq_or_of_lt (i := 32) hl h
  rw [show ((h : Int) * 4294967296) = ((2 ^ 32 * h : Nat) : Int) from by omega, u64_or_nat _ _ (by omega) (by omega), Nat.or_comm, ← e]
  omega
theorem div32_q (h l y : Nat) (hh : h < y) (hl : l < 4294967296) : ((h : Int) * 4294967296 + l) / y % 4294967296 = ((4294967296 * h + l) / y : Nat) := by
  have q : (4294967296 * h + l) / y < 4294967296 := Nat.div_lt_of_lt_mul (by omega)
  have e : ((h : Int) * 4294967296 + l) / y = ((4294967296 * h + l) / y : Nat) := by
    rw [show ((h : Int) * 4294967296 + l) = ((4294967296 * h + l : Nat) : Int) from by omega]; exact (Int.natCast_ediv _ _).symm
  rw [e]
  generalize (4294967296 * h + l) / y = q' at q
  omega
theorem div32_r (h l y : Nat) (hh : h < y) (hy : y < 4294967296) : ((h : Int) * 4294967296 + l) % y % 4294967296 = ((4294967296 * h + l) % y : Nat) := by
  have q : (4294967296 * h + l) % y < y := Nat.mod_lt _ (by omega)
  have e : ((h : Int) * 4294967296 + l) % y = ((4294967296 * h + l) % y : Nat) := by
    rw [show ((h : Int) * 4294967296 + l) = ((4294967296 * h + l : Nat) : Int) from by omega]; exact (Int.natCast_emod _ _).symm
  rw [e]
  generalize (4294967296 * h + l) % y = q' at q
  omega
set_option maxHeartbeats 400000 in
theorem div32_spec (h l y : Nat) (w : World) (hh : h < y) (hl : l < 4294967296) (hy : y < 4294967296) :
    Calls Tryz.prog 196 #[.int .u32 (h : Int), .int .u32 (l : Int), .int .u32 (y : Int)] w
      (Ret w fun _ v => v = .tuple #[.int .u32 ((4294967296 * h + l) / y : Nat), .int .u32 ((4294967296 * h + l) % y : Nat)]) := by
  have e1 : ((y : Int) == 0) = false := by simp; omega
  have e2 : ((y : Int) != 0) = true := by simp; omega
  have e3 : ¬ ((y : Int) ≤ h) := by omega
  go_enter Tryz.func196, Tryz.ntmps196
  have hor := or_high h l (by omega) hl
  have hx0 : (0 : Int) ≤ (h : Int) * 4294967296 + l := by omega
  have hx1 : (h : Int) * 4294967296 + l < 18446744073709551616 := by omega
  have hy1 : (1 : Int) ≤ y := by omega
  go_wp2
  go_quiet (fail)
  go_wp2
  go_ret2
  exact ⟨_, rfl, tup2 (div32_q h l y hh hl) (div32_r h l y hh hy), below_drewN (Below.refl _ _) _⟩
theorem add32_any (x y c : Nat) (w : World) (hx : x < 4294967296) (hy : y < 4294967296) (hc : c ≤ 1) :
    Calls Tryz.prog 197 #[.int .u32 (x : Int), .int .u32 (y : Int), .int .u32 (c : Int)] w
      (RetQ w fun v => ∃ s d : Nat, v = .tuple #[.int .u32 (s : Int), .int .u32 (d : Int)] ∧ s < 4294967296 ∧ d ≤ 1 ∧ Hid (s + 4294967296 * d = x + y + c)) := by
  refine (add32_spec x y c w hx hy (by omega)).mono ?_
  rintro e w' ⟨v, he, hv, hw⟩
  exact ⟨v, he, ⟨_, _, hv, by omega, by omega, show _ = _ by omega⟩, hw⟩
theorem sub32_any (x y c : Nat) (w : World) (hx : x < 4294967296) (hy : y < 4294967296) (hc : c ≤ 1) :
    Calls Tryz.prog 198 #[.int .u32 (x : Int), .int .u32 (y : Int), .int .u32 (c : Int)] w
      (RetQ w fun v => ∃ s d : Nat, v = .tuple #[.int .u32 (s : Int), .int .u32 (d : Int)] ∧ s < 4294967296 ∧ d ≤ 1 ∧ Hid (s + y + c = x + 4294967296 * d)) := by
  refine (sub32_spec x y c w hx hy hc).mono ?_
  rintro e w' ⟨v, he, hv, hw⟩
  refine ⟨v, he, ⟨_, _, hv, by omega, ?_, show _ = _ from ?_⟩, hw⟩
  · split <;> omega
  · split <;> omega
theorem div32_any (h l y : Nat) (w : World) (hh : h < y) (hl : l < 4294967296) (hy : y < 4294967296) :
    Calls Tryz.prog 196 #[.int .u32 (h : Int), .int .u32 (l : Int), .int .u32 (y : Int)] w
      (Ret w fun _ v => ∃ q r : Nat, v = .tuple #[.int .u32 (q : Int), .int .u32 (r : Int)] ∧ q < 4294967296 ∧ r < y ∧ Hid (q * y + r = 4294967296 * h + l)) := by
  refine (div32_spec h l y w hh hl hy).mono ?_
  rintro e w' ⟨v, he, hv, hw⟩
  refine ⟨v, he, ⟨_, _, hv, Nat.div_lt_of_lt_mul (by omega), Nat.mod_lt _ (by omega), show _ = _ from ?_⟩, hw⟩
  rw [Nat.mul_comm]; exact Nat.div_add_mod _ _
end Go.Proofs.YtfkogkcpndaoeaaGreat
namespace Go.Proofs.YtfkogkcpndaoeaaGreat
open Go.RowKit
theorem len_small {xs : List Nat} {len k : Nat} (hl : Hid (xs.length = len)) (hn : Norm xs) (h : nval xs < 2 ^ k) (hk : k ≤ 17592186044416) : len ≤ 549755813889 := by
  have := len_of_lt hn h
  rw [hl.out] at this
  omega
set_option maxHeartbeats 1600000 in
theorem add_spec (v u : Value) (n m k : Nat) (w : World) (h : NatRep w v n) (h' : NatRep w u m) (hn : n < 2 ^ k) (hm : m < 2 ^ k) (hk : k ≤ 17592186044416) :
    Calls Tryz.prog 178 #[v, u] w (Ret w fun w' v' => NatRep w' v' (n + m)) := by
  obtain ⟨xs0, h1, h2, rfl⟩ := h
  obtain ⟨ys0, k1, k2, rfl⟩ := h'
  obtain ⟨a0, lx0, cx0, rfl, Hlx0, hlcx0, hmx0, hX0, wX0⟩ := h1.any
  obtain ⟨b0, ly0, cy0, rfl, Hly0, hlcy0, hmy0, hY0, wY0⟩ := k1.any
  have sx0 := len_small Hlx0 h2 hn hk
  have sy0 := len_small Hly0 k2 hm hk
  clear hn hm
  go_enter Tryz.func178, Tryz.ntmps178
  go_upto_if 13 with (fail)
  go_cut [0, 1] (fun s0 s1 wx => ∃ (xs ys : List Nat) (a b : Option Addr) (lx cx ly cy : Nat), s0 = .slice a lx cx ∧ s1 = .slice b ly cy ∧ Hid (xs.length = lx) ∧ Hid (ys.length = ly) ∧ ly ≤ lx ∧ lx ≤ cx ∧ cx ≤ 9223372036854775807 ∧ ly ≤ cy ∧ cy ≤ 9223372036854775807 ∧ lx ≤ 549755813889 ∧
      UsA w a xs ∧ UsA w b ys ∧ Words xs ∧ Words ys ∧ Hid (nval xs + nval ys = nval xs0 + nval ys0) ∧ wx = w)
  case first =>
    by_cases hlt : lx0 < ly0
    · go_wp2
      go_meet
      exact ⟨ys0, xs0, b0, a0, ly0, cy0, lx0, cx0, rfl, rfl, Hly0, Hlx0, by omega, hlcy0, hmy0, hlcx0, hmx0, sy0, hY0, hX0, wY0, wX0, Nat.add_comm _ _, rfl⟩
    · go_wp2
      go_meet
      exact ⟨xs0, ys0, a0, b0, lx0, cx0, ly0, cy0, rfl, rfl, Hlx0, Hly0, by omega, hlcx0, hmx0, hlcy0, hmy0, sx0, hX0, hY0, wX0, wY0, rfl, rfl⟩
  case rest =>
    obtain ⟨xs, ys, a, b, lx, cx, ly, cy, rfl, rfl, Hlx, Hly, hll, hlcx, hmx, hlcy, hmy, sx, hX, hY, wX, wY, Hsum, rfl⟩ := hcut
    clear hX0 hY0 wX0 wY0 h1 k1 h2 k2 Hlx0 Hly0 sx0 sy0 hlcx0 hlcy0 hmx0 hmy0
    go_wp2_with (at_make; refine make_u32 _ rfl _ _ rfl Tryz.underlying36 _ (lx + 1) rfl (by omega) (by omega) ?_; intro w1 ho1 hb1 hs1)
    go_loopw [6, 22] (fun cv iv wr => ∃ (k c : Nat) (zs : List Nat), k ≤ lx ∧ iv = .int .i64 (k : Int) ∧ cv = .int .u32 (c : Int) ∧ c ≤ 1 ∧ OwnU wr wc.heap.size zs ∧ Hid (zs.length = lx + 1) ∧
        Hid (nval (zs.take k) + 4294967296 ^ k * c = nval (xs.take k) + nval (ys.take k)) ∧ Below wc.heap.size wc wr) (fun _ i _ => lx - (intOf i).toNat)
    case atStart => exact ⟨0, 0, _, Nat.zero_le _, rfl, rfl, by omega, ho1, List.length_replicate .., rfl, hb1⟩
    case round =>
      obtain ⟨k, c, zs, hkl, rfl, rfl, hc1, ho, Hzl, Hinv, hb⟩ := hrel
      by_cases hk : k < lx
      · obtain ⟨x, hx⟩ := get_lt Hlx hk
        obtain ⟨bx, ox, rfl, hcx⟩ := (hX.below hb (Nat.le_refl _)).at hx
        have hxb := wX _ (List.mem_of_getElem? hx)
        obtain ⟨z, hz⟩ := get_lt Hzl (i := k) (by omega)
        have hcz := ho.cell k z hz
        have hfz := ho.free k
        have Hx := Lib.hid hx
        have Hz := Lib.hid hz
        clear hx hz
        obtain ⟨y, hyb, hys, hyc⟩ : ∃ y : Nat, y < 4294967296 ∧ Hid (nval (ys.take (k + 1)) = nval (ys.take k) + 4294967296 ^ k * y) ∧ (k < ly ∧ (∃ b' o', b = some ⟨b', o', none⟩ ∧ wr.cell? ⟨b', o' + k, none⟩ = some (.int .u32 (y : Nat))) ∨ ¬ k < ly ∧ y = 0) := by
          by_cases hky : k < ly
          · obtain ⟨y, hy⟩ := get_lt Hly hky
            exact ⟨y, wY _ (List.mem_of_getElem? hy), take_step hy, .inl ⟨hky, (hY.below hb (Nat.le_refl _)).at hy⟩⟩
          · exact ⟨0, by omega, take_over (by rw [Hly.out]; omega), .inr ⟨hky, rfl⟩⟩
        rcases hyc with ⟨hky, b', o', rfl, hcy⟩ | ⟨hky, rfl⟩
        · go_wp2_with fail
          refine (add32_any x y c _ hxb hyb hc1).mono ?_
          rintro e w' ⟨_, rfl, ⟨s, d, rfl, hs, hd, Hsd⟩, rfl⟩
          go_wp2_with fail
          go_roundw
          case rel => exact ⟨k + 1, d, zs.set k s, by omega, by go_num, rfl, hd, ho.set k s hs, (by rw [List.length_set]; exact Hzl.out), (show _ = _ by rw [set_step s (by rw [Hzl.out]; omega), take_step Hx.out, hys.out]; exact add_step Hinv.out Hsd.out (Nat.pow_succ ..)), hb.setCell (Nat.le_refl _) _⟩
          case measure => simp [intOf]; omega
        · go_wp2_with fail
          refine (add32_any x 0 c _ hxb hyb hc1).mono ?_
          rintro e w' ⟨_, rfl, ⟨s, d, rfl, hs, hd, Hsd⟩, rfl⟩
          go_wp2_with fail
          go_roundw
          case rel => exact ⟨k + 1, d, zs.set k s, by omega, by go_num, rfl, hd, ho.set k s hs, (by rw [List.length_set]; exact Hzl.out), (show _ = _ by rw [set_step s (by rw [Hzl.out]; omega), take_step Hx.out, hys.out]; exact add_step Hinv.out Hsd.out (Nat.pow_succ ..)), hb.setCell (Nat.le_refl _) _⟩
          case measure => simp [intOf]; omega
      · obtain rfl : k = lx := by omega
        obtain ⟨z, hz⟩ := get_lt Hzl (i := k) (by omega)
        have hcz := ho.cell k z hz
        have hfz := ho.free k
        have Hz := Lib.hid hz
        clear hz
        go_wp2_with fail
        refine (trim_spec _ (zs.set k c) _ ((ho.set k c (by omega)).us (by rw [List.length_set, Hzl.out]; omega) (by rw [List.length_set, Hzl.out]))).mono ?_
        rintro e w' ⟨v, rfl, hv, rfl⟩
        go_wp2_with fail
        go_ret
        refine ⟨v, rfl, ?_, hb.setCell (Nat.le_refl _) _⟩
        have e1 : nval (zs.set k c) = nval xs0 + nval ys0 := by
          rw [← nval_full (n := k + 1) (by rw [List.length_set, Hzl.out]), set_step c (by rw [Hzl.out]; omega), Hinv.out, nval_full Hlx.out, List.take_of_length_le (by rw [Hly.out]; omega), Hsum.out]
        show NatRep _ v (nval xs0 + nval ys0)
        rw [← e1]
        exact hv
set_option maxHeartbeats 1600000 in
theorem sub_spec (v u : Value) (n m k : Nat) (w : World) (h : NatRep w v n) (h' : NatRep w u m) (hn : n < 2 ^ k) (hmn : m ≤ n) (hk : k ≤ 17592186044416) :
    Calls Tryz.prog 179 #[v, u] w (Ret w fun w' v' => NatRep w' v' (n - m)) := by
  obtain ⟨xs, h1, h2, rfl⟩ := h
  obtain ⟨ys, k1, k2, rfl⟩ := h'
  obtain ⟨a, lx, cx, rfl, Hlx, hlcx, hmx, hX, wX⟩ := h1.any
  obtain ⟨b, ly, cy, rfl, Hly, hlcy, hmy, hY, wY⟩ := k1.any
  have sx := len_small Hlx h2 hn hk
  have hll : ly ≤ lx := by
    rcases Nat.lt_or_ge lx ly with hlt | hge
    · have := len_lt wX k2 (by rw [Hlx.out, Hly.out]; exact hlt)
      omega
    · exact hge
  have Hmn := Lib.hid hmn
  clear hn hmn
  go_enter Tryz.func179, Tryz.ntmps179
  go_wp2_with (at_make; refine make_u32 _ rfl _ _ rfl Tryz.underlying36 _ lx rfl (by omega) (by omega) ?_; intro w1 ho1 hb1 hs1)
  go_loopw [6, 14] (fun cv iv wr => ∃ (k c : Nat) (zs : List Nat), k ≤ lx ∧ iv = .int .i64 (k : Int) ∧ cv = .int .u32 (c : Int) ∧ c ≤ 1 ∧ OwnU wr w.heap.size zs ∧ Hid (zs.length = lx) ∧
      Hid (nval (zs.take k) + nval (ys.take k) = nval (xs.take k) + 4294967296 ^ k * c) ∧ Below w.heap.size w wr) (fun _ i _ => lx - (intOf i).toNat)
  case atStart => exact ⟨0, 0, _, Nat.zero_le _, rfl, rfl, by omega, ho1, List.length_replicate .., rfl, hb1⟩
  case round =>
    obtain ⟨k, c, zs, hkl, rfl, rfl, hc1, ho, Hzl, Hinv, hb⟩ := hrel
    by_cases hk : k < lx
    · obtain ⟨x, hx⟩ := get_lt Hlx hk
      obtain ⟨bx, ox, rfl, hcx⟩ := (hX.below hb (Nat.le_refl _)).at hx
      have hxb := wX _ (List.mem_of_getElem? hx)
      obtain ⟨z, hz⟩ := get_lt Hzl hk
      have hcz := ho.cell k z hz
      have hfz := ho.free k
      have Hx := Lib.hid hx
      have Hz := Lib.hid hz
      clear hx hz
      obtain ⟨y, hyb, hys, hyc⟩ : ∃ y : Nat, y < 4294967296 ∧ Hid (nval (ys.take (k + 1)) = nval (ys.take k) + 4294967296 ^ k * y) ∧ (k < ly ∧ (∃ b' o', b = some ⟨b', o', none⟩ ∧ wr.cell? ⟨b', o' + k, none⟩ = some (.int .u32 (y : Nat))) ∨ ¬ k < ly ∧ y = 0) := by
        by_cases hky : k < ly
        · obtain ⟨y, hy⟩ := get_lt Hly hky
          exact ⟨y, wY _ (List.mem_of_getElem? hy), take_step hy, .inl ⟨hky, (hY.below hb (Nat.le_refl _)).at hy⟩⟩
        · exact ⟨0, by omega, take_over (by rw [Hly.out]; omega), .inr ⟨hky, rfl⟩⟩
      rcases hyc with ⟨hky, b', o', rfl, hcy⟩ | ⟨hky, rfl⟩
      · go_wp2_with fail
        refine (sub32_any x y c _ hxb hyb hc1).mono ?_
        rintro e w' ⟨_, rfl, ⟨s, d, rfl, hs, hd, Hsd⟩, rfl⟩
        go_wp2_with fail
        go_roundw
        case rel => exact ⟨k + 1, d, zs.set k s, by omega, by go_num, rfl, hd, ho.set k s hs, (by rw [List.length_set]; exact Hzl.out), (show _ = _ by rw [set_step s (by rw [Hzl.out]; omega), take_step Hx.out, hys.out]; exact sub_step Hinv.out Hsd.out (Nat.pow_succ ..)), hb.setCell (Nat.le_refl _) _⟩
        case measure => simp [intOf]; omega
      · go_wp2_with fail
        refine (sub32_any x 0 c _ hxb hyb hc1).mono ?_
        rintro e w' ⟨_, rfl, ⟨s, d, rfl, hs, hd, Hsd⟩, rfl⟩
        go_wp2_with fail
        go_roundw
        case rel => exact ⟨k + 1, d, zs.set k s, by omega, by go_num, rfl, hd, ho.set k s hs, (by rw [List.length_set]; exact Hzl.out), (show _ = _ by rw [set_step s (by rw [Hzl.out]; omega), take_step Hx.out, hys.out]; exact sub_step Hinv.out Hsd.out (Nat.pow_succ ..)), hb.setCell (Nat.le_refl _) _⟩
        case measure => simp [intOf]; omega
    · obtain rfl : k = lx := by omega
      go_wp2_with fail
      refine (trim_spec _ zs _ (ho.us (by rw [Hzl.out]; omega) Hzl.out.symm)).mono ?_
      rintro e w' ⟨v, rfl, hv, rfl⟩
      go_wp2_with fail
      go_ret
      refine ⟨v, rfl, ?_, hb⟩
      have e1 : nval zs = nval xs - nval ys := by
        have e2 := Hinv.out
        rw [nval_full Hzl.out, nval_full Hlx.out, List.take_of_length_le (by rw [Hly.out]; omega)] at e2
        have e3 := nval_lt ho.2
        rw [Hzl.out] at e3
        have e4 := Hmn.out
        have : c = 0 := by
          rcases Nat.eq_zero_or_pos c with h0 | h0
          · exact h0
          · obtain rfl : c = 1 := by omega
            omega
        subst this
        omega
      show NatRep _ v (nval xs - nval ys)
      rw [← e1]
      exact hv
end Go.Proofs.YtfkogkcpndaoeaaGreat
namespace Go.Proofs.YtfkogkcpndaoeaaGreat
open Go.RowKit
theorem mul_bound {x y : Nat} (hx : x < 4294967296) (hy : y < 4294967296) : (0 : Int) ≤ (x : Int) * y ∧ (x : Int) * y ≤ 18446744065119617025 := by
  have h : x * y ≤ 4294967295 * 4294967295 := Nat.mul_le_mul (by omega) (by omega)
  have e : (x : Int) * y = ((x * y : Nat) : Int) := rfl
  rw [e]
  omega
set_option maxHeartbeats 1600000 in
theorem mul_spec (v u : Value) (n m k : Nat) (w : World) (h : NatRep w v n) (h' : NatRep w u m) (hn : n < 2 ^ k) (hm : m < 2 ^ k) (hk : k ≤ 17592186044416) :
    Calls Tryz.prog 138 #[v, u] w (Ret w fun w' v' => NatRep w' v' (n * m)) := by
  obtain ⟨xs, h1, h2, rfl⟩ := h
  obtain ⟨ys, k1, k2, rfl⟩ := h'
  obtain ⟨a, lx, cx, rfl, Hlx, hlcx, hmx, hX, wX⟩ := h1.any
  obtain ⟨b, ly, cy, rfl, Hly, hlcy, hmy, hY, wY⟩ := k1.any
  have sx := len_small Hlx h2 hn hk
  have sy := len_small Hly k2 hm hk
  clear hn hm
  by_cases hx0 : lx = 0
  · subst hx0
    have e : xs = [] := List.eq_nil_of_length_eq_zero Hlx.out
    go_enter Tryz.func138, Tryz.ntmps138
    go_wp2
    go_ret
    exact ⟨_, rfl, ⟨[], Us.nil, Norm.nil, by rw [e]; simp [nval]⟩, Below.refl _ _⟩
  by_cases hy0 : ly = 0
  · subst hy0
    have e : ys = [] := List.eq_nil_of_length_eq_zero Hly.out
    have ex : ((lx : Int) == 0) = false := by simp; omega
    go_enter Tryz.func138, Tryz.ntmps138
    go_wp2
    go_ret
    exact ⟨_, rfl, ⟨[], Us.nil, Norm.nil, by rw [e]; simp [nval]⟩, Below.refl _ _⟩
  have ex : ((lx : Int) == 0) = false := by simp; omega
  have ey : ((ly : Int) == 0) = false := by simp; omega
  go_enter Tryz.func138, Tryz.ntmps138
  go_wp2_with (at_make; refine make_u32 _ rfl _ _ rfl Tryz.underlying36 _ (lx + ly) rfl (by omega) (by omega) ?_; intro w1 ho1 hb1 hs1)
  go_loopw [27] (fun iv wr => ∃ (k : Nat) (zs : List Nat), k ≤ lx ∧ iv = .int .i64 (k : Int) ∧ OwnU wr w.heap.size zs ∧ Hid (zs.length = lx + ly) ∧
      Hid (nval (zs.take (k + ly)) = nval (xs.take k) * nval ys) ∧ Below w.heap.size w wr) (fun i _ => lx - (intOf i).toNat)
  case atStart => exact ⟨0, _, Nat.zero_le _, rfl, ho1, List.length_replicate .., show _ = _ by rw [List.take_replicate, nval_zeros]; simp [nval], hb1⟩
  case round =>
    obtain ⟨k, zs, hkl, rfl, ho, Hzl, Hinv, hb⟩ := hrel
    obtain ⟨wo, rfl⟩ : ∃ wo : World, wo = wr := ⟨_, rfl⟩
    by_cases hk : k < lx
    · obtain ⟨x, hx⟩ := get_lt Hlx hk
      obtain ⟨bx, ox, rfl, hcx⟩ := (hX.below hb (Nat.le_refl _)).at hx
      have hxb := wX _ (List.mem_of_getElem? hx)
      have Hx := Lib.hid hx
      clear hx
      go_wp2
      go_loopw [8, 34] (fun cv jv wr => ∃ (j c : Nat) (zs : List Nat), j ≤ ly ∧ jv = .int .i64 (j : Int) ∧ cv = .int .u64 (c : Int) ∧ c < 4294967296 ∧ OwnU wr w.heap.size zs ∧ Hid (zs.length = lx + ly) ∧
          Hid (nval (zs.take (k + ly)) + 4294967296 ^ (k + j) * c = nval (xs.take k) * nval ys + 4294967296 ^ k * (x * nval (ys.take j))) ∧ Below w.heap.size w wr) (fun _ j _ => ly - (intOf j).toNat)
      case atStart => exact ⟨0, 0, zs, Nat.zero_le _, rfl, rfl, by omega, ho, Hzl, show _ = _ by rw [Hinv.out]; simp [nval], hb⟩
      case round =>
        clear ho Hzl Hinv hb hcx
        obtain ⟨j, c, zs, hjl, rfl, rfl, hc1, ho, Hzl, Hinv, hb⟩ := hrel
        by_cases hj : j < ly
        · obtain ⟨y, hy⟩ := get_lt Hly hj
          obtain ⟨by', oy, rfl, hcy⟩ := (hY.below hb (Nat.le_refl _)).at hy
          have hyb := wY _ (List.mem_of_getElem? hy)
          obtain ⟨z, hz⟩ := get_lt Hzl (i := k + j) (by omega)
          have hcz := ho.cell (k + j) z hz
          have hfz := ho.free (k + j)
          have hzb := ho.2 _ (List.mem_of_getElem? hz)
          have Hy := Lib.hid hy
          have Hz := Lib.hid hz
          clear hy hz
          obtain ⟨hp0, hp1⟩ := mul_bound hxb hyb
          go_wp2
          go_roundw
          case rel =>
            have hpn := mul_lt hxb hyb
            have hq : (c + (x * y + z)) / 4294967296 < 4294967296 := Nat.div_lt_of_lt_mul (by omega)
            have hr : (c + (x * y + z)) % 4294967296 < 4294967296 := Nat.mod_lt _ (by omega)
            have he : (c + (x * y + z)) % 4294967296 + 4294967296 * ((c + (x * y + z)) / 4294967296) = c + (x * y + z) := Nat.mod_add_div _ _
            refine ⟨j + 1, (c + (x * y + z)) / 4294967296, zs.set (k + j) ((c + (x * y + z)) % 4294967296), by omega, by go_num, int_of (by simp), hq, ho.set' _ _ _ (by simp) hr, (by rw [List.length_set]; exact Hzl.out), ?_, hb.setCell (Nat.le_refl _) _⟩
            show _ = _
            rw [take_step Hy.out]
            exact mul_step Hinv.out (set_total _ Hz.out (by omega) (by rw [Hzl.out]; omega)) he (Nat.pow_add ..) (by rw [← Nat.add_assoc, Nat.pow_succ])
          case measure => simp [intOf]; omega
        · obtain rfl : j = ly := by omega
          obtain ⟨z, hz⟩ := get_lt Hzl (i := k + j) (by omega)
          have hcz := ho.cell (k + j) z hz
          have hfz := ho.free (k + j)
          have Hz := Lib.hid hz
          clear hz
          go_wp2
          go_roundw
          case rel =>
            refine ⟨k + 1, zs.set (k + j) c, by omega, by go_num, ho.set' _ _ _ (by omega) hc1, (by rw [List.length_set]; exact Hzl.out), ?_, hb.setCell (Nat.le_refl _) _⟩
            show _ = _
            rw [show k + 1 + j = k + j + 1 from by omega, set_step c (by rw [Hzl.out]; omega), take_step Hx.out]
            have e := Hinv.out
            rw [nval_full Hly.out] at e
            exact mul_row e
          case measure => simp [intOf]; omega
    · obtain rfl : k = lx := by omega
      go_wp2_with fail
      refine (trim_spec _ zs _ (ho.us (by rw [Hzl.out]; omega) Hzl.out.symm)).mono ?_
      rintro e w' ⟨v, rfl, hv, rfl⟩
      go_wp2_with fail
      go_ret
      refine ⟨v, rfl, ?_, hb⟩
      have e1 : nval zs = nval xs * nval ys := by
        have e2 := Hinv.out
        rw [nval_full Hzl.out, nval_full Hlx.out] at e2
        exact e2
      show NatRep _ v (nval xs * nval ys)
      rw [← e1]
      exact hv
end Go.Proofs.YtfkogkcpndaoeaaGreat
