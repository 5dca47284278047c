/- The program's nats: the number of bits. Conditions: fewer than 2^44 bits. What num's form.round computes at the format of 32 bits: the nearest float of a fraction. Conditions: none. form.round at the format of 32 bits, to the nearest. Conditions: fewer than 2^30 bits. The program's nearest complex64 of a number: signed, Near64. Conditions: fewer than 2^30 bits. -/
import Derived.Test.YtfkogkcpndaoeaaGreatMF32
import Derived.Test.YtfkogkcpndaoeaaGreatMLd
import Derived.Test.YtfkogkcpndaoeaaGreatMRNatA
import Derived.Test.YtfkogkcpndaoeaaGreatMRNear
import Derived.Test.YtfkogkcpndaoeaaGreatShelf
import Derived.Lib.ItoaNum
set_option linter.all false
namespace Go.Proofs.YtfkogkcpndaoeaaGreat
open Go.RowKit
theorem bitLen_word {d : Nat} (h0 : 0 < d) (h : d < 4294967296) : d < 2 ^ Lib.bitLen d ∧ (Lib.bitLen d = 0 ∨ 2 ^ (Lib.bitLen d - 1) ≤ d) ∧ Lib.bitLen d ≤ 32 := by
  obtain ⟨h1, h2, h3⟩ := Lib.bitLenAux_bounds 64 d (by omega) (by omega)
  exact ⟨h3, .inr h2, Lib.bitLen_le d 32 (by omega) (by omega)⟩
set_option maxRecDepth 100000 in
set_option maxHeartbeats 400000 in
theorem nlen_spec (v : Value) (n k : Nat) (w : World) (h : NatRep w v n) (hn : n < 2 ^ k) (hk : k ≤ 17592186044416) :
    Calls Tryz.prog 180 #[v] w (RetQ w fun v' => ∃ bl : Nat, v' = .int .i64 (bl : Int) ∧ BitsOf n bl) := by
  obtain ⟨xs, h1, h2, rfl⟩ := h
  obtain ⟨a, lx, cx, rfl, Hlx, hlcx, hmx, hX, wX⟩ := h1.any
  have sx := len_small Hlx h2 hn hk
  clear hn
  by_cases hx0 : lx = 0
  · subst hx0
    have e : xs = [] := List.eq_nil_of_length_eq_zero Hlx.out
    go_enter Tryz.func180, Tryz.ntmps180
    go_wp2
    go_ret
    subst e
    exact ⟨_, rfl, ⟨0, rfl, by simp [BitsOf, nval]⟩, rfl⟩
  have ex : ((lx : Int) == 0) = false := by simp; omega
  obtain ⟨p, rfl⟩ : ∃ p, lx = p + 1 := ⟨lx - 1, by omega⟩
  have ep : (((p + 1 : Nat) : Int) - 1) = (p : Int) := by omega
  obtain ⟨d, hd⟩ := get_lt Hlx (i := p) (by omega)
  obtain ⟨b, o, rfl, hcd⟩ := hX.at hd
  have hdb := wX _ (List.mem_of_getElem? hd)
  have hd0 : 0 < d := by
    rcases Nat.eq_zero_or_pos d with h0 | h0
    · exfalso
      apply h2
      rw [List.getLast?_eq_getElem?, Hlx.out, Nat.add_sub_cancel, hd, h0]
    · exact h0
  obtain ⟨g1, g2, g3⟩ := bitLen_word hd0 hdb
  have HF := Lib.hid (bits_top wX Hlx.out hd g1 g2 hd0)
  have Hep := Lib.hid ep
  clear hd g1 g2 h1
  go_enter Tryz.func180, Tryz.ntmps180
  go_wp2_with fail
  refine (Tryz.bits_Len32 (d : Int) w (by omega) (by omega)).mono ?_
  rintro e w' ⟨rfl, rfl⟩
  rw [Int.toNat_natCast]
  generalize Lib.bitLen d = bl at *
  go_wp2_with fail
  go_ret
  exact ⟨_, rfl, ⟨_, int_of (by omega), HF.out⟩, rfl⟩
end Go.Proofs.YtfkogkcpndaoeaaGreat
namespace Go.Proofs.YtfkogkcpndaoeaaGreat
theorem pow_le_of {a b : Nat} (h : a ≤ b) : (2 : Nat) ^ a ≤ 2 ^ b := Nat.pow_le_pow_right (by omega) h
theorem round_to {n d : Nat} (hd : 0 < d) {e last : Int} (h1 : d * 2 ^ e.toNat ≤ n * 2 ^ (-e).toNat) (h2 : n * 2 ^ (-e).toNat < 2 * (d * 2 ^ e.toNat)) (hl : last = max (e - 23) (-149)) :
    RoundsTo Ieee.single n d last (rn (n * 2 ^ (-last).toNat) (d * 2 ^ last.toNat)) := by
  have hQ : 0 < d * 2 ^ last.toNat := Nat.mul_pos hd (Nat.two_pow_pos _)
  refine ⟨n * 2 ^ (-last).toNat, d * 2 ^ last.toNat, last.toNat, (-last).toNat, hQ, by ac_rfl, by omega, ?_, by rw [lp_single]; omega, ?_, rfl⟩
  · rw [p24, Nat.div_lt_iff_lt_mul hQ]
    -- n 2^(-last) < 2^24 d 2^last
    have h3 : n * 2 ^ (-e).toNat * 2 ^ ((-last).toNat + e.toNat) < 2 * (d * 2 ^ e.toNat) * 2 ^ ((-last).toNat + e.toNat) := Nat.mul_lt_mul_of_pos_right h2 (Nat.two_pow_pos _)
    have h4 : (2 : Nat) ^ (e.toNat + (-last).toNat + e.toNat + 1) ≤ 2 ^ (24 + last.toNat + (-e).toNat + e.toNat) := pow_le_of (by omega)
    have h5 : (n * 2 ^ (-last).toNat) * (2 ^ (-e).toNat * 2 ^ e.toNat) < (16777216 * (d * 2 ^ last.toNat)) * (2 ^ (-e).toNat * 2 ^ e.toNat) := by
      calc (n * 2 ^ (-last).toNat) * (2 ^ (-e).toNat * 2 ^ e.toNat) = n * 2 ^ (-e).toNat * 2 ^ ((-last).toNat + e.toNat) := by rw [pow_add_eq]; ac_rfl
        _ < 2 * (d * 2 ^ e.toNat) * 2 ^ ((-last).toNat + e.toNat) := h3
        _ = d * 2 ^ (e.toNat + (-last).toNat + e.toNat + 1) := by rw [pow_add_eq, pow_add_eq, pow_add_eq, pow_add_eq, Nat.pow_one]; ac_rfl
        _ ≤ d * 2 ^ (24 + last.toNat + (-e).toNat + e.toNat) := Nat.mul_le_mul_left _ h4
        _ = (16777216 * (d * 2 ^ last.toNat)) * (2 ^ (-e).toNat * 2 ^ e.toNat) := by rw [pow_add_eq, pow_add_eq, pow_add_eq, show (16777216 : Nat) = 2 ^ 24 by decide]; ac_rfl
    exact Nat.lt_of_mul_lt_mul_right h5
  · by_cases hc : e - 23 ≤ -149
    · right; rw [lp_single]; omega
    · left
      have he : last = e - 23 := by omega
      rw [p23, Nat.le_div_iff_mul_le hQ]
      have h4 : (2 : Nat) ^ (23 + last.toNat + (-e).toNat + e.toNat) = 2 ^ (e.toNat + (-last).toNat + e.toNat) := by congr 1; omega
      have h5 : (8388608 * (d * 2 ^ last.toNat)) * (2 ^ (-e).toNat * 2 ^ e.toNat) ≤ (n * 2 ^ (-last).toNat) * (2 ^ (-e).toNat * 2 ^ e.toNat) := by
        calc (8388608 * (d * 2 ^ last.toNat)) * (2 ^ (-e).toNat * 2 ^ e.toNat) = d * 2 ^ (23 + last.toNat + (-e).toNat + e.toNat) := by rw [pow_add_eq, pow_add_eq, pow_add_eq, show (8388608 : Nat) = 2 ^ 23 by decide]; ac_rfl
          _ = d * 2 ^ (e.toNat + (-last).toNat + e.toNat) := by rw [h4]
          _ = (d * 2 ^ e.toNat) * 2 ^ ((-last).toNat + e.toNat) := by rw [pow_add_eq, pow_add_eq, pow_add_eq]; ac_rfl
          _ ≤ n * 2 ^ (-e).toNat * 2 ^ ((-last).toNat + e.toNat) := Nat.mul_le_mul_right _ h1
          _ = (n * 2 ^ (-last).toNat) * (2 ^ (-e).toNat * 2 ^ e.toNat) := by rw [pow_add_eq]; ac_rfl
      exact Nat.le_of_mul_le_mul_right h5 (Nat.mul_pos (Nat.two_pow_pos _) (Nat.two_pow_pos _))
theorem round_exp {n d bn bd : Nat} {e0 : Int} (hn1 : 2 ^ (bn - 1) ≤ n) (hn2 : n < 2 ^ bn) (hd1 : 2 ^ (bd - 1) ≤ d) (hd2 : d < 2 ^ bd) (hbn : 0 < bn) (hbd : 0 < bd) (he : e0 = (bn : Int) - bd) :
    (n * 2 ^ (-e0).toNat < d * 2 ^ e0.toNat → d * 2 ^ (e0 - 1).toNat ≤ n * 2 ^ (-(e0 - 1)).toNat ∧ n * 2 ^ (-(e0 - 1)).toNat < 2 * (d * 2 ^ (e0 - 1).toNat)) ∧
    (¬ n * 2 ^ (-e0).toNat < d * 2 ^ e0.toNat → d * 2 ^ e0.toNat ≤ n * 2 ^ (-e0).toNat ∧ n * 2 ^ (-e0).toNat < 2 * (d * 2 ^ e0.toNat)) := by
  constructor
  · intro h
    constructor
    · have h1 : d * 2 ^ (e0 - 1).toNat ≤ 2 ^ bd * 2 ^ (e0 - 1).toNat := Nat.mul_le_mul_right _ (Nat.le_of_lt hd2)
      have h2 : 2 ^ (bn - 1) * 2 ^ (-(e0 - 1)).toNat ≤ n * 2 ^ (-(e0 - 1)).toNat := Nat.mul_le_mul_right _ hn1
      have h3 : (2 : Nat) ^ bd * 2 ^ (e0 - 1).toNat = 2 ^ (bn - 1) * 2 ^ (-(e0 - 1)).toNat := by rw [← pow_add_eq, ← pow_add_eq]; congr 1; omega
      omega
    · by_cases h1 : 1 ≤ e0
      · have e1 : (-(e0 - 1)).toNat = (-e0).toNat := by omega
        have e2 : (2 : Nat) ^ e0.toNat = 2 * 2 ^ (e0 - 1).toNat := by rw [show e0.toNat = (e0 - 1).toNat + 1 by omega, Nat.pow_succ]; omega
        rw [e1]
        rw [e2] at h
        calc n * 2 ^ (-e0).toNat < d * (2 * 2 ^ (e0 - 1).toNat) := h
          _ = _ := by ac_rfl
      · have e1 : (2 : Nat) ^ (-(e0 - 1)).toNat = 2 * 2 ^ (-e0).toNat := by rw [show (-(e0 - 1)).toNat = (-e0).toNat + 1 by omega, Nat.pow_succ]; omega
        have e2 : (e0 - 1).toNat = e0.toNat := by omega
        rw [e1, e2]
        calc n * (2 * 2 ^ (-e0).toNat) = 2 * (n * 2 ^ (-e0).toNat) := by ac_rfl
          _ < _ := by omega
  · intro h
    refine ⟨by omega, ?_⟩
    have h1 : n * 2 ^ (-e0).toNat < 2 ^ bn * 2 ^ (-e0).toNat := Nat.mul_lt_mul_of_pos_right hn2 (Nat.two_pow_pos _)
    have h2 : 2 ^ (bd - 1) * 2 ^ e0.toNat ≤ d * 2 ^ e0.toNat := Nat.mul_le_mul_right _ hd1
    have h3 : (2 : Nat) ^ bn * 2 ^ (-e0).toNat = 2 * (2 ^ (bd - 1) * 2 ^ e0.toNat) := by
      rw [← pow_add_eq, ← pow_add_eq, Nat.mul_comm, ← Nat.pow_succ]; congr 1; omega
    omega
end Go.Proofs.YtfkogkcpndaoeaaGreat
namespace Go.Proofs.YtfkogkcpndaoeaaGreat
open Go.RowKit
theorem cmpZ_facts (n m : Nat) : (cmpZ n m < 0 ↔ n < m) ∧ (cmpZ n m = 0 ↔ n = m) ∧ (0 < cmpZ n m ↔ m < n) := by
  unfold cmpZ
  refine ⟨?_, ?_, ?_⟩ <;> (repeat' split) <;> omega
def Near1 (n d W : Nat) : Prop := (n = 0 ∧ W = 0) ∨ (n ≠ 0 ∧ ∃ e K, RoundsTo Ieee.single n d e K ∧ W = w64 false e K)
def ExpOf (n d : Nat) (e : Int) : Prop := d * 2 ^ e.toNat ≤ n * 2 ^ (-e).toNat ∧ n * 2 ^ (-e).toNat < 2 * (d * 2 ^ e.toNat)
theorem near_big {n d : Nat} (hd : 0 < d) (hn : n ≠ 0) {e : Int} (h : ExpOf n d e) (he : 127 < e) : Near1 n d infW := by
  have hr := round_to hd h.1 h.2 (last := e - 23) (by omega)
  have hb := hr.bounds
  rw [p23, lp_single] at hb
  refine .inr ⟨hn, _, _, hr, ?_⟩
  unfold w64
  rw [if_neg (by omega), if_neg (by omega), word_false]
  rfl
theorem near_end {n d K : Nat} (hn : n ≠ 0) {last : Int} (h : RoundsTo Ieee.single n d last K) (h2 : last ≤ 104) :
    (K = 16777216 ∧ last = 104 → Near1 n d infW) ∧ (¬ (K = 16777216 ∧ last = 104) → K = 0 → Near1 n d 0) ∧ (¬ (K = 16777216 ∧ last = 104) → 0 < K → Near1 n d (Ieee.double.nearest false K last)) := by
  have hb := h.bounds
  rw [p24, lp_single, p23] at hb
  refine ⟨fun hc => .inr ⟨hn, _, _, h, ?_⟩, fun hc h0 => .inr ⟨hn, _, _, h, ?_⟩, fun hc h0 => .inr ⟨hn, _, _, h, ?_⟩⟩
  · unfold w64
    rw [if_neg (by omega), if_neg (by omega), word_false]
    rfl
  · unfold w64
    rw [if_pos h0]
  · unfold w64
    rw [if_neg (by omega), if_pos (by omega)]
set_option maxRecDepth 100000 in
set_option maxHeartbeats 3200000 in
theorem nround_spec (v u : Value) (n d k : Nat) (w : World) (h : NatRep w v n) (h' : NatRep w u d) (hd : 0 < d) (hn : n < 2 ^ k) (hdk : d < 2 ^ k) (hk : k ≤ 1073741824) :
    Calls Tryz.prog 139 #[.agg #[.int .i64 24, .int .i64 (-149), .int .i64 127], v, u, .int .i64 2] w (Ret w fun _ v' => ∃ W, v' = .float .f64 W ∧ Near1 n d W) := by
  obtain ⟨a1, l1, c1, rfl, hl1, _, _⟩ := h.any
  obtain ⟨a2, l2, c2, rfl, _, _, _⟩ := h'.any
  by_cases hn0 : n = 0
  · obtain rfl : l1 = 0 := hl1.2 hn0
    have HF : Hid (Near1 n d 0) := show Near1 _ _ _ from .inl ⟨hn0, rfl⟩
    clear hl1 hn0
    go_enter Tryz.func139, Tryz.ntmps139
    go_upto_region 1 with (fail)
    obtain ⟨W, hW, o1, hB, hS⟩ := boxes1 w 171 [.int .i64 24, .int .i64 (-149), .int .i64 127]
    rw [← hW]
    clear hW
    go_wp2_with fail
    go_ret
    exact ⟨_, rfl, ⟨0, rfl, HF.out⟩, hB⟩
  · have hl0 : ((l1 : Int) == 0) = false := by
      have : l1 ≠ 0 := fun e => hn0 (hl1.1 e)
      simp; omega
    have HN0 := Lib.hid hn0
    have hnp : 0 < n := by omega
    have HN := Lib.hid hn
    have HD := Lib.hid hdk
    clear hl1 hn0 hn hdk
    go_enter Tryz.func139, Tryz.ntmps139
    go_upto_region 1 with (fail)
    obtain ⟨W, hW, o1, hB, hS⟩ := boxes1 w 171 [.int .i64 24, .int .i64 (-149), .int .i64 127]
    rw [← hW]
    clear hW
    have h := h.below hB (Nat.le_refl _); have h' := h'.below hB (Nat.le_refl _)
    go_wp2_with fail
    refine (nlen_spec _ n k W h HN.out (by omega)).mono ?_
    rintro e1 w1 ⟨_, rfl, ⟨bn, rfl, hbn⟩, rfl⟩
    go_wp2_with fail
    refine (nlen_spec _ d k W h' HD.out (by omega)).mono ?_
    rintro e1 w1 ⟨_, rfl, ⟨bd, rfl, hbd⟩, rfl⟩
    have hbnk := bits_small hbn HN.out
    have hbdk := bits_small hbd HD.out
    have hbn0 := bits_pos hbn hnp
    have hbd0 := bits_pos hbd hd
    obtain ⟨e0, he0⟩ : ∃ e0 : Int, e0 = (bn : Int) - bd := ⟨_, rfl⟩
    have hr := round_exp (n := n) (d := d) (e0 := e0) (by rcases hbn.2 with h | h; (omega); (exact h)) hbn.1 (by rcases hbd.2 with h | h; (omega); (exact h)) hbd.1 hbn0 hbd0 he0
    have HR1 : Hid (n * 2 ^ (-e0).toNat < d * 2 ^ e0.toNat → ExpOf n d (e0 - 1)) := hr.1
    have HR2 : Hid (¬ n * 2 ^ (-e0).toNat < d * 2 ^ e0.toNat → ExpOf n d e0) := hr.2
    have he01 : e0 ≤ 1073741824 := by omega
    have he02 : -1073741824 ≤ e0 := by omega
    have HE0 := Lib.hid he0
    clear hr hbn hbd hbn0 hbd0 he0
    go_upto_region 4 with (fail)
    rw [← HE0.out]
    clear HE0 hbnk hbdk
    obtain ⟨s1, hs1⟩ : ∃ s1 : Nat, s1 = (-e0).toNat := ⟨_, rfl⟩
    obtain ⟨s2, hs2⟩ : ∃ s2 : Nat, s2 = e0.toNat := ⟨_, rfl⟩
    have hm1 : max (-e0) 0 = (s1 : Int) := by omega
    have hm2 : max e0 0 = (s2 : Int) := by omega
    rw [← hs1, ← hs2] at HR1 HR2
    have hs1b : s1 ≤ 1073741824 := by omega
    have hs2b : s2 ≤ 1073741824 := by omega
    clear hs1 hs2
    go_wp2_with fail
    refine (shl_spec _ n s1 k W h HN.out (by omega) (by omega)).mono ?_
    rintro e1 W1 ⟨v1, rfl, hv1, hb1⟩
    have hsW1 : W.heap.size ≤ W1.heap.size := hb1.size; have hB := hB.trans (hb1.mono hB.size); have o1 := o1.below hb1 o1.lt; have h := h.below hb1 (Nat.le_refl _); have h' := h'.below hb1 (Nat.le_refl _)
    go_wp2_with fail
    refine (shl_spec _ d s2 k W1 h' HD.out (by omega) (by omega)).mono ?_
    rintro e1 W2 ⟨v2, rfl, hv2, hb2⟩
    have hsW2 : W1.heap.size ≤ W2.heap.size := hb2.size; have hB := hB.trans (hb2.mono hB.size); have o1 := o1.below hb2 o1.lt; have h := h.below hb2 (Nat.le_refl _); have h' := h'.below hb2 (Nat.le_refl _); have hv1 := hv1.below hb2 (Nat.le_refl _)
    go_wp2_with fail
    refine (cmp_spec _ _ (n * 2 ^ s1) (d * 2 ^ s2) W2 hv1 hv2).mono ?_
    rintro e1 W3 ⟨_, rfl, rfl, hb3⟩
    have hsW3 : W2.heap.size ≤ W3.heap.size := hb3.size; have hB := hB.trans (hb3.mono hB.size); have o1 := o1.below hb3 o1.lt; have h := h.below hb3 (Nat.le_refl _); have h' := h'.below hb3 (Nat.le_refl _)
    obtain ⟨f1, -, -⟩ := cmpZ_facts (n * 2 ^ s1) (d * 2 ^ s2)
    generalize cmpZ (n * 2 ^ s1) (d * 2 ^ s2) = cc at *
    have HC1 : Hid (cc < 0 → ExpOf n d (e0 - 1)) := fun hc => HR1.out (f1.1 hc)
    have HC2 : Hid (0 ≤ cc → ExpOf n d e0) := fun hc => HR2.out (fun hh => by have := f1.2 hh; omega)
    clear HR1 HR2 f1 hv1 hv2 hm1 hm2 hs1b hs2b
    go_upto_if 36 with (fail)
    go_cut [9] (fun s wx => ∃ e : Int, s = .int .i64 e ∧ Hid (ExpOf n d e) ∧ e0 - 1 ≤ e ∧ e ≤ e0 ∧ wx = W3)
    case first =>
      by_cases hc : cc < 0
      · have HE := Lib.hid (HC1.out hc)
        clear HC1 HC2
        go_wp2_with fail
        go_meet
        exact ⟨_, int_of (by omega), HE.out, by omega, by omega, rfl⟩
      · have HE := Lib.hid (HC2.out (show 0 ≤ cc by omega))
        clear HC1 HC2
        go_wp2_with fail
        go_meet
        exact ⟨_, rfl, HE.out, by omega, by omega, rfl⟩
    case rest =>
      obtain ⟨e, rfl, HE, he1, he2, rfl⟩ := hcut
      obtain ⟨W4, rfl⟩ : ∃ W4 : World, W4 = wc := ⟨_, rfl⟩
      clear HC1 HC2
      have fo1 := o1.free; have co10 := o1.cell 0 _ rfl; have co11 := o1.cell 1 _ rfl; have co12 := o1.cell 2 _ rfl
      by_cases hbig : 127 < e
      · have HF := Lib.hid (near_big hd HN0.out HE.out hbig)
        go_wp2_with fail
        refine (inf_spec W4).mono ?_
        rintro e' w5 ⟨rfl, rfl⟩
        go_wp2_with fail
        go_ret
        exact ⟨_, rfl, ⟨infW, rfl, HF.out⟩, hB⟩
      · obtain ⟨last, hlast⟩ : ∃ last, last = max (e - 23) (-149) := ⟨_, rfl⟩
        have hm3 : max (e - 24 + 1) (-149) = last := by omega
        have HRT := Lib.hid (round_to hd HE.out.1 HE.out.2 hlast)
        have hla : -149 ≤ last := by omega
        have hlb : last ≤ 104 := by omega
        obtain ⟨t1, ht1⟩ : ∃ t1 : Nat, t1 = (-last).toNat := ⟨_, rfl⟩
        obtain ⟨t2, ht2⟩ : ∃ t2 : Nat, t2 = last.toNat := ⟨_, rfl⟩
        have hm4 : max (-last) 0 = (t1 : Int) := by omega
        have hm5 : max last 0 = (t2 : Int) := by omega
        rw [← ht1, ← ht2] at HRT
        have ht1b : t1 ≤ 149 := by omega
        have ht2b : t2 ≤ 104 := by omega
        clear ht1 ht2 hlast HE
        obtain ⟨P, hP⟩ : ∃ P, P = n * 2 ^ t1 := ⟨_, rfl⟩
        obtain ⟨Q, hQ⟩ : ∃ Q, Q = d * 2 ^ t2 := ⟨_, rfl⟩
        have hQ0 : 0 < Q := by rw [hQ]; exact Nat.mul_pos hd (Nat.two_pow_pos _)
        have HPk : Hid (P < 2 ^ (k + 200)) := show _ < _ by rw [hP]; exact mul_pow_lt HN.out (by omega)
        have HQk : Hid (Q < 2 ^ (k + 200)) := show _ < _ by rw [hQ]; exact mul_pow_lt HD.out (by omega)
        rw [← hP, ← hQ] at HRT
        have HP := Lib.hid hP
        have HQ := Lib.hid hQ
        have hK24 := HRT.out.bounds.1
        rw [p24] at hK24
        have hq24 : P / Q ≤ 16777216 := Nat.le_trans rn_ge hK24
        obtain ⟨Z, hZ⟩ : ∃ Z, Z = P / Q := ⟨_, rfl⟩
        obtain ⟨R, hR⟩ : ∃ R, R = P % Q := ⟨_, rfl⟩
        have hRQ : R < Q := by rw [hR]; exact Nat.mod_lt _ hQ0
        have HRk : Hid (R < 2 ^ (k + 200)) := show _ < _ from Nat.lt_trans hRQ HQk.out
        rw [← hZ] at hq24
        have HZ := Lib.hid hZ
        have HR := Lib.hid hR
        clear hP hQ hZ hR hK24 hRQ
        go_wp2_with fail
        refine (shl_spec _ d t2 k W4 h' HD.out (by omega) (by omega)).mono ?_
        rintro e' W5 ⟨vq, rfl, hvq, hb5⟩
        rw [← HQ.out] at hvq
        obtain ⟨aQ, lQ, cQ, rfl, _, _, _⟩ := hvq.any
        clear co10 co11 co12 fo1
        have hsW5 : W4.heap.size ≤ W5.heap.size := hb5.size; have hB := hB.trans (hb5.mono hB.size); have o1 := o1.below hb5 o1.lt; have h := h.below hb5 (Nat.le_refl _)
        go_wp2_with fail
        refine (shl_spec _ n t1 k W5 h HN.out (by omega) (by omega)).mono ?_
        rintro e' W6 ⟨vp, rfl, hvp, hb6⟩
        rw [← HP.out] at hvp
        have hsW6 : W5.heap.size ≤ W6.heap.size := hb6.size; have hB := hB.trans (hb6.mono hB.size); have o1 := o1.below hb6 o1.lt; have hvq := hvq.below hb6 (Nat.le_refl _)
        go_wp2_with fail
        refine (div_spec _ _ P Q (k + 200) W6 hvp hvq hQ0 HPk.out (by omega)).mono ?_
        rintro e' W7 ⟨_, rfl, ⟨q, r, rfl, hq, hr⟩, hb7⟩
        rw [← HZ.out] at hq
        rw [← HR.out] at hr
        have hsW7 : W6.heap.size ≤ W7.heap.size := hb7.size; have hB := hB.trans (hb7.mono hB.size); have o1 := o1.below hb7 o1.lt; have hvq := hvq.below hb7 (Nat.le_refl _)
        clear hvp h h'
        obtain ⟨ar, lr, cr, rfl, _, _, _⟩ := hr.any
        obtain ⟨xs, x1, x2, hx3⟩ := hq
        obtain ⟨aq, lq, cq, rfl, Hlq, hlcq, hmq, hX, wX⟩ := x1.any
        have hlq : lq ≤ 1 := by
          have h3 := len_of_lt x2 (k := 25) (by omega)
          rw [Hlq.out] at h3
          omega
        have HX0 : Hid (lq = 0 → Z = 0) := fun h0 => by
          rw [← hx3, List.eq_nil_of_length_eq_zero (l := xs) (by rw [Hlq.out, h0])]; rfl
        have HX1 : Hid (lq = 1 → ∃ b o, aq = some ⟨b, o, none⟩ ∧ W7.cell? ⟨b, o, none⟩ = some (.int .u32 (Z : Int))) := fun h1 => by
          obtain ⟨x, hx⟩ := get_lt Hlq (i := 0) (by omega)
          obtain ⟨b, o, rfl, hc⟩ := hX.at hx
          have hxs : xs = [x] := by
            match xs, Hlq.out, hx with
            | [y], _, hx => simp at hx; rw [hx]
            | [], h2, _ => simp at h2; omega
            | _ :: _ :: _, h2, _ => simp at h2; omega
          have hzx : Z = x := by rw [← hx3, hxs]; simp [nval]
          exact ⟨b, o, rfl, by rw [hzx]; simpa using hc⟩
        clear hX wX x1 x2 hx3 Hlq
        have hor : bits .or .u64 0 (Z : Int) = (Z : Int) := by
          have := u64_or_nat 0 Z (by omega) (by omega)
          rwa [Nat.zero_or] at this
        obtain ⟨u, hu⟩ : ∃ u, u = (decide (Q < 2 * R) || (decide (Q = 2 * R) && decide (Z % 2 = 1))) := ⟨_, rfl⟩
        obtain ⟨K, hK⟩ : ∃ K, K = rn P Q := ⟨_, rfl⟩
        have hKu : K = Z + u.toNat := by rw [hK, hu, HZ.out, HR.out]; rfl
        have HRT2 : Hid (RoundsTo Ieee.single n d last K) := show RoundsTo _ _ _ _ _ by rw [hK]; exact HRT.out
        have hK24 : K ≤ 16777216 := by have := HRT2.out.bounds.1; rwa [p24] at this
        have HU := Lib.hid hu
        have HKU := Lib.hid hKu
        clear HRT hK hu hKu HPk HQk HP HQ HZ HR
        go_wp2_with fail
        go_loop [14, 82] (fun mv iv => ∃ i y : Nat, mv = .int .u64 (y : Int) ∧ iv = .int .i64 (i : Int) ∧ i ≤ lq ∧ Hid (i = 0 → y = 0) ∧ Hid (i = 1 → y = Z)) (fun _ iv => ((lq : Int) - intOf iv).toNat)
        case atStart => exact ⟨0, 0, rfl, rfl, by omega, fun _ => rfl, fun h => by omega⟩
        case round =>
          obtain ⟨i, y, rfl, rfl, hi, H0, H1⟩ := hrel
          by_cases hlt : i < lq
          · obtain rfl : i = 0 := by omega
            obtain rfl : lq = 1 := by omega
            obtain rfl := H0.out rfl
            obtain ⟨b, o, rfl, hc⟩ := HX1.out rfl
            go_wp2
            go_round
            case rel => exact ⟨1, Z, rfl, rfl, by omega, fun h => by omega, fun _ => rfl⟩
            case measure => simp [intOf]
          · obtain rfl : i = lq := by omega
            have hy : y = Z := by
              rcases Nat.eq_zero_or_pos i with h0 | h0
              · rw [H0.out h0, HX0.out h0]
              · exact H1.out (by omega)
            subst hy
            clear H0 H1 HX0 HX1 hor
            go_wp2_with fail
            have hRb : R < 2 ^ (k + 200) := HRk.out
            refine (shl_spec _ R 1 (k + 200) W7 hr hRb (by omega) (by omega)).mono ?_
            rintro e' W8 ⟨v8, rfl, hv8, hb8⟩
            rw [Nat.pow_one] at hv8
            have hsW8 : W7.heap.size ≤ W8.heap.size := hb8.size; have hB := hB.trans (hb8.mono hB.size); have o1 := o1.below hb8 o1.lt; have hvq := hvq.below hb8 (Nat.le_refl _)
            go_wp2_with fail
            refine (cmp_spec _ _ (R * 2) Q W8 hv8 hvq).mono ?_
            rintro e1 W9 ⟨_, rfl, rfl, hb9⟩
            have hsW9 : W8.heap.size ≤ W9.heap.size := hb9.size; have hB := hB.trans (hb9.mono hB.size); have o1 := o1.below hb9 o1.lt
            obtain ⟨f1, f2, f3⟩ := cmpZ_facts (R * 2) Q
            generalize cmpZ (R * 2) Q = cc2 at *
            have HV : Hid (u = (decide (0 < cc2) || (decide (cc2 = 0) && decide (y % 2 = 1)))) := show _ = _ by
              rw [HU.out]
              congr 1
              · rw [decide_eq_decide, f3]; omega
              · congr 1; rw [decide_eq_decide, f2]; omega
            clear f1 f2 f3 hv8 hvq hr hRb HRk HU hq24
            have hy1 : y < 18446744073709551615 := by have := HKU.out; omega
            have hy2 : ((y : Int) % 2 == 1) = decide (y % 2 = 1) := by rw [Bool.eq_iff_iff, beq_iff_eq, decide_eq_true_iff]; omega
            obtain ⟨od, hod⟩ : ∃ od, od = decide (y % 2 = 1) := ⟨_, rfl⟩
            rw [← hod] at HV hy2
            clear hod
            go_upto_region 20 with (fail)
            go_cut [122] (fun s wx => s = .bool u ∧ wx = W9)
            case first =>
              rcases Int.lt_trichotomy cc2 0 with hc | hc | hc
              · obtain rfl : u = false := by rw [HV.out, decide_eq_false (by omega), decide_eq_false (by omega)]; rfl
                have d1 : (cc2 == 0) = false := by simp; omega
                have d0 : decide (0 < cc2) = false := by simp; omega
                clear HV
                go_wp2_with fail
                go_meet
                exact ⟨rfl, rfl⟩
              · subst hc
                cases od
                · obtain rfl : u = false := by rw [HV.out]; rfl
                  clear HV
                  go_wp2_with fail
                  go_meet
                  exact ⟨rfl, rfl⟩
                · obtain rfl : u = true := by rw [HV.out]; rfl
                  clear HV
                  go_wp2_with fail
                  go_meet
                  exact ⟨rfl, rfl⟩
              · obtain rfl : u = true := by rw [HV.out, decide_eq_true hc]; rfl
                clear HV
                go_wp2_with fail
                go_meet
                exact ⟨rfl, rfl⟩
            case rest =>
              obtain ⟨rfl, rfl⟩ := hcut
              obtain ⟨WA, rfl⟩ : ∃ W : World, W = wc := ⟨_, rfl⟩
              clear HV hy2
              go_upto_if 122 with (fail)
              go_cut [14] (fun s wx => s = .int .u64 (K : Int) ∧ wx = WA)
              case first =>
                cases u
                · have hk : y = K := by have := HKU.out; simp at this; omega
                  go_wp2_with fail
                  go_meet
                  exact ⟨int_of (by omega), rfl⟩
                · have hk : y + 1 = K := by have := HKU.out; simp at this; omega
                  have Hk := Lib.hid hk
                  clear hk
                  go_wp2_with fail
                  go_meet
                  exact ⟨int_of (by have := Hk.out; omega), rfl⟩
              case rest =>
                obtain ⟨rfl, rfl⟩ := hcut
                obtain ⟨WB, rfl⟩ : ∃ W : World, W = wc := ⟨_, rfl⟩
                obtain ⟨N1, N2, N3⟩ := near_end HN0.out HRT2.out hlb
                have HN1 := Lib.hid N1
                have HN2 := Lib.hid N2
                have HN3 := Lib.hid N3
                clear HKU N1 N2 N3 hy1
                have fo1 := o1.free; have co10 := o1.cell 0 _ rfl; have co11 := o1.cell 1 _ rfl; have co12 := o1.cell 2 _ rfl
                by_cases hc1 : K = 16777216 ∧ last = 104
                · have HF := Lib.hid (HN1.out hc1)
                  obtain ⟨rfl, rfl⟩ := hc1
                  clear HN1 HN2 HN3
                  go_wp2_with fail
                  refine (inf_spec WB).mono ?_
                  rintro e' w5 ⟨rfl, rfl⟩
                  go_wp2_with fail
                  go_ret
                  exact ⟨_, rfl, ⟨infW, rfl, HF.out⟩, hB⟩
                · go_upto_region 22 with (fail)
                  go_cut [139] (fun s wx => s = .bool false ∧ wx = WB)
                  case first =>
                    by_cases hc2 : K = 16777216
                    · have hc3 : last ≠ 104 := fun hh => hc1 ⟨hc2, hh⟩
                      have d1 : (last == 104) = false := by simp; exact hc3
                      subst hc2
                      clear hc1 hc3
                      go_wp2_with fail
                      go_meet
                      exact ⟨rfl, rfl⟩
                    · have d1 : ((K : Int) == 16777216) = false := by simp; omega
                      clear hc1 hc2
                      go_wp2_with fail
                      go_meet
                      exact ⟨rfl, rfl⟩
                  case rest =>
                    obtain ⟨rfl, rfl⟩ := hcut
                    obtain ⟨WC, rfl⟩ : ∃ W : World, W = wc := ⟨_, rfl⟩
                    clear co10 co11 co12 fo1
                    rcases Nat.eq_zero_or_pos K with hK0 | hK0
                    · have HF := Lib.hid (HN2.out hc1 hK0)
                      subst hK0
                      have HFL := Lib.hid float_of_nought
                      clear HN1 HN2 HN3 hc1
                      go_wp2_with fail
                      rw [HFL.out]
                      refine (ldexp_nought last WC).mono ?_
                      rintro e' w5 ⟨rfl, rfl⟩
                      go_wp2_with fail
                      go_ret
                      exact ⟨_, rfl, ⟨_, rfl, HF.out⟩, hB⟩
                    · have HF := Lib.hid (HN3.out hc1 hK0)
                      clear HN1 HN2 HN3 hc1
                      go_wp2_with fail
                      refine (ldexp_spec K last WC hK0 hK24 hla hlb).mono ?_
                      rintro e' w5 ⟨rfl, rfl⟩
                      go_wp2_with fail
                      go_ret
                      exact ⟨_, rfl, ⟨_, rfl, HF.out⟩, hB⟩
end Go.Proofs.YtfkogkcpndaoeaaGreat
namespace Go.Proofs.YtfkogkcpndaoeaaGreat
open Go.RowKit
theorem single_spec (w : World) : Calls Tryz.prog 88 #[] w (Ret w fun _ v' => v' = .agg #[.int .i64 24, .int .i64 (-149), .int .i64 127]) := by
  go_enter Tryz.func88, Tryz.ntmps88
  go_upto_region 1 with (fail)
  obtain ⟨W, hW, o1, hB, hS⟩ := boxes1 w 171 [.int .i64 0, .int .i64 0, .int .i64 0]
  rw [← hW]
  clear hW
  have fo1 := o1.free; have co10 := o1.cell 0 _ rfl; have co11 := o1.cell 1 _ rfl; have co12 := o1.cell 2 _ rfl
  go_wp2_with fail
  exact bodyPost_ret (by simp [results, Tryz.results88, go_sem, co10, co11, co12]) rfl ⟨_, rfl, rfl, ((hB.setCell (Nat.le_refl _) _).setCell (Nat.le_refl _) _).setCell (Nat.le_refl _) _⟩
theorem order_nz {e : Int} {K : Nat} (h0 : 0 < K) (h : K ≤ 16777216) (h1 : -149 ≤ e) : (FloatKind.f64.format.order (w64 false e K) 0 == some .eq) = false := by
  unfold w64
  rw [if_neg (by omega)]
  split
  · rename_i hf
    obtain ⟨p, m, hn, hm, hp, hs⟩ := double_parts K e h0 h h1 (by omega)
    rw [hn]
    exact (ldF hm hp).ne0
  · rw [word_false]
    kernel_rfl
set_option maxRecDepth 100000 in
set_option maxHeartbeats 1600000 in
theorem nsigned_spec (v u : Value) (z : Int) (d k : Nat) (w : World) (h : WholeRep w v z) (h' : NatRep w u d) (hd : 0 < d) (hz : z.natAbs < 2 ^ k) (hdk : d < 2 ^ k) (hk : k ≤ 1073741824) :
    Calls Tryz.prog 89 #[.agg #[.int .i64 24, .int .i64 (-149), .int .i64 127], v, u, .int .i64 2] w (Ret w fun _ v' => ∃ W, v' = .float .f64 W ∧ Near32 z d W) := by
  obtain ⟨s1, a1, l1, c1, rfl, hl1, hs1⟩ := h.open
  obtain ⟨hsz, na⟩ := h.sign
  have HR := Lib.hid (fun v u w h h' => nround_spec v u z.natAbs d k w h h' hd hz hdk hk)
  clear h hz hdk
  cases s1
  · have hz0 : 0 ≤ z := by have := of_decide_eq_false hsz.symm; omega
    have HZ : Hid (∀ W, Near1 z.natAbs d W → Near32 z d W) := by
      intro W hW
      rcases hW with ⟨h1, rfl⟩ | ⟨h1, e, K, hr, rfl⟩
      · exact .inl ⟨by omega, rfl⟩
      · exact .inr ⟨by omega, e, K, hr, by rw [← hsz]⟩
    clear hsz hs1 hl1 hz0
    go_enter Tryz.func89, Tryz.ntmps89
    go_upto_region 1 with (fail)
    obtain ⟨W, hW, o1, o2, hB, hS⟩ := boxes2 w 171 38 [.int .i64 24, .int .i64 (-149), .int .i64 127] [.bool false, .slice a1 l1 c1]
    rw [← hW]
    clear hW
    have na := na.below hB (Nat.le_refl _); have h' := h'.below hB (Nat.le_refl _)
    have fo1 := o1.free; have co10 := o1.cell 0 _ rfl; have co11 := o1.cell 1 _ rfl; have co12 := o1.cell 2 _ rfl; have fo2 := o2.free; have co20 := o2.cell 0 _ rfl; have co21 := o2.cell 1 _ rfl
    go_wp2_with fail
    refine (HR.out _ _ W na h').mono ?_
    rintro e W1 ⟨_, rfl, ⟨X, rfl, hX⟩, hb1⟩
    go_wp2_with fail
    go_ret
    exact ⟨_, rfl, ⟨X, rfl, HZ.out _ hX⟩, hB.trans (hb1.mono hB.size)⟩
  · have hz0 : z < 0 := of_decide_eq_true hsz.symm
    have HS : Hid (decide (z < 0) = true) := show _ = _ from decide_eq_true hz0
    have HZ0 : Hid (z ≠ 0) := show _ ≠ _ by omega
    clear hsz hs1 hl1
    go_enter Tryz.func89, Tryz.ntmps89
    go_upto_region 1 with (fail)
    obtain ⟨W, hW, o1, o2, hB, hS⟩ := boxes2 w 171 38 [.int .i64 24, .int .i64 (-149), .int .i64 127] [.bool true, .slice a1 l1 c1]
    rw [← hW]
    clear hW
    have na := na.below hB (Nat.le_refl _); have h' := h'.below hB (Nat.le_refl _)
    have fo1 := o1.free; have co10 := o1.cell 0 _ rfl; have co11 := o1.cell 1 _ rfl; have co12 := o1.cell 2 _ rfl; have fo2 := o2.free; have co20 := o2.cell 0 _ rfl; have co21 := o2.cell 1 _ rfl
    go_wp2_with fail
    refine (HR.out _ _ W na h').mono ?_
    rintro e W1 ⟨_, rfl, ⟨X, rfl, hX⟩, hb1⟩
    clear co10 co11 co12 fo1 co20 co21 fo2 o1 o2
    have hB := hB.trans (hb1.mono hB.size)
    rcases hX with ⟨h1, -⟩ | ⟨h1, e, K, hr, hXe⟩
    · exact absurd (Int.natAbs_eq_zero.1 h1) HZ0.out
    · have hbd := hr.bounds
      rw [p24, lp_single] at hbd
      have HRR := Lib.hid hr
      by_cases hK : K = 0
      · have hX0 : X = 0 := by rw [hXe]; unfold w64; rw [if_pos hK]
        have HF : Hid (Near32 z d 0) := show Near32 _ _ _ from .inr ⟨HZ0.out, e, K, hr, by unfold w64; rw [if_pos hK]⟩
        have ho : (FloatKind.f64.format.order 0 0 != some .eq) = false := by kernel_rfl
        subst hX0
        clear hXe hr hbd hK
        go_wp2_with fail
        go_ret
        exact ⟨_, rfl, ⟨_, rfl, HF.out⟩, hB⟩
      · have hneg := neg_w64 (e := e) (K := K) (by omega)
        have ho := order_nz (e := e) (K := K) (by omega) hbd.1 hbd.2.1
        rw [← hXe] at hneg ho
        have ho2 : (FloatKind.f64.format.order X 0 != some .eq) = true := by rw [bne, ho]; rfl
        have HF : Hid (Near32 z d (Op.negFloat .f64 X)) := show Near32 _ _ _ from .inr ⟨HZ0.out, e, K, hr, by rw [hneg, HS.out]⟩
        have hn := run_negf
        clear hXe hr hbd hK hneg ho
        go_wp2_with fail
        go_ret
        exact ⟨_, rfl, ⟨_, rfl, HF.out⟩, hB⟩
set_option maxRecDepth 100000 in
set_option maxHeartbeats 1600000 in
theorem nnear64_spec (v : Value) (x : CQ) (k : Nat) (w : World) (h : NumRep w v x) (hs : Small k x) (hk : k ≤ 1073741824) :
    Calls Tryz.prog 40 #[v] w (Ret w fun _ v' => ∃ R I, v' = .complex .f32 R I ∧ CW32 x R I) := by
  obtain ⟨a, b, d, s1, s2, a1, a2, a3, l1, c1, l2, c2, l3, c3, rfl, wa, wb, tri, low, rfl, -, -, -, -⟩ := h.all
  obtain ⟨hs1, hs2, hs3⟩ := hs.low low
  have F1 := Lib.hid (fun v u w h h' => nsigned_spec v u a d k w h h' low.1 hs1 hs3 hk)
  have F2 := Lib.hid (fun v u w h h' => nsigned_spec v u b d k w h h' low.1 hs2 hs3 hk)
  have HL := Lib.hid low
  clear h hs hs1 hs2 hs3 low
  go_enter Tryz.func40, Tryz.ntmps40
  go_upto_region 1 with (fail)
  obtain ⟨W, hW, o1, hB, hS⟩ := boxes1 w 40 [.bool s1, .slice a1 l1 c1, .bool s2, .slice a2 l2 c2, .slice a3 l3 c3]
  rw [← hW]
  clear hW
  have wa := wa.below hB (Nat.le_refl _); have wb := wb.below hB (Nat.le_refl _); have tri := tri.below hB (Nat.le_refl _)
  have qo10 := o1.cell 0 _ rfl; have qo11 := o1.cell 1 _ rfl; have qo12 := o1.cell 2 _ rfl; have qo13 := o1.cell 3 _ rfl; have qo14 := o1.cell 4 _ rfl
  have o1 : Own W.drew _ _ _ := o1; have lto1 : _ < W.heap.size := o1.lt; have hB := hB.drew
  have wa := wa.below ((Below.refl W.heap.size W).drew) (Nat.le_refl _); have wb := wb.below ((Below.refl W.heap.size W).drew) (Nat.le_refl _); have tri := tri.below ((Below.refl W.heap.size W).drew) (Nat.le_refl _)
  have tok1 : True := trivial
  have tok2 : True := trivial
  have tok3 : True := trivial
  have tok4 : True := trivial
  have tok5 : True := trivial
  have tok6 : True := trivial
  go_region_held3 (fun w' => w'.cell? ⟨w.heap.size, 0, none⟩ = some (.bool s1) ∧ w'.cell? ⟨w.heap.size, 1, none⟩ = some (.slice a1 l1 c1) ∧ w'.cell? ⟨w.heap.size, 2, none⟩ = some (.bool s2) ∧ w'.cell? ⟨w.heap.size, 3, none⟩ = some (.slice a2 l2 c2) ∧ w'.cell? ⟨w.heap.size, 4, none⟩ = some (.slice a3 l3 c3)) (first | (with_reducible exact ⟨o1.cell 0 _ rfl, o1.cell 1 _ rfl, o1.cell 2 _ rfl, o1.cell 3 _ rfl, o1.cell 4 _ rfl⟩) | (simp [go_sem, qo10, qo11, qo12, qo13, qo14, lto1]; done))
    (first
      | (go_at_call 88; have _t := tok1; refine (single_spec _).mono ?_; rintro e W1 ⟨_, rfl, rfl, hb1⟩; have hsW1 : W.heap.size ≤ W1.heap.size := hb1.size; have hB := hB.trans (hb1.mono hB.size); have o1 := o1.below hb1 o1.lt; have lto1 := o1.lt; have qo10 := o1.cell 0 _ rfl; have qo11 := o1.cell 1 _ rfl; have qo12 := o1.cell 2 _ rfl; have qo13 := o1.cell 3 _ rfl; have qo14 := o1.cell 4 _ rfl; have wa := wa.below hb1 (Nat.le_refl _); have wb := wb.below hb1 (Nat.le_refl _); have tri := tri.below hb1 (Nat.le_refl _); clear tok1 _t)
      | (go_at_call 75; have _t := tok2; refine (den_spec _ a b d _ tri).mono ?_; rintro e W2 ⟨d1, rfl, hd1, hb2⟩; have hsW2 : W1.heap.size ≤ W2.heap.size := hb2.size; have hB := hB.trans (hb2.mono hB.size); have o1 := o1.below hb2 o1.lt; have lto1 := o1.lt; have qo10 := o1.cell 0 _ rfl; have qo11 := o1.cell 1 _ rfl; have qo12 := o1.cell 2 _ rfl; have qo13 := o1.cell 3 _ rfl; have qo14 := o1.cell 4 _ rfl; have wa := wa.below hb2 (Nat.le_refl _); have wb := wb.below hb2 (Nat.le_refl _); have tri := tri.below hb2 (Nat.le_refl _); clear tok2 _t)
      | (go_at_call 89; have _t := tok3; refine (F1.out _ _ _ wa hd1).mono ?_; rintro e W3 ⟨_, rfl, ⟨A1, rfl, hA1⟩, hb3⟩; have hsW3 : W2.heap.size ≤ W3.heap.size := hb3.size; have hB := hB.trans (hb3.mono hB.size); have o1 := o1.below hb3 o1.lt; have lto1 := o1.lt; have qo10 := o1.cell 0 _ rfl; have qo11 := o1.cell 1 _ rfl; have qo12 := o1.cell 2 _ rfl; have qo13 := o1.cell 3 _ rfl; have qo14 := o1.cell 4 _ rfl; have wa := wa.below hb3 (Nat.le_refl _); have wb := wb.below hb3 (Nat.le_refl _); have tri := tri.below hb3 (Nat.le_refl _); have hd1 := hd1.below hb3 (Nat.le_refl _); obtain ⟨R1, hR1, hc1⟩ := near_narrow hA1; clear tok3 _t)
      | (go_at_call 88; have _t := tok4; refine (single_spec _).mono ?_; rintro e W4 ⟨_, rfl, rfl, hb4⟩; have hsW4 : W3.heap.size ≤ W4.heap.size := hb4.size; have hB := hB.trans (hb4.mono hB.size); have o1 := o1.below hb4 o1.lt; have lto1 := o1.lt; have qo10 := o1.cell 0 _ rfl; have qo11 := o1.cell 1 _ rfl; have qo12 := o1.cell 2 _ rfl; have qo13 := o1.cell 3 _ rfl; have qo14 := o1.cell 4 _ rfl; have wa := wa.below hb4 (Nat.le_refl _); have wb := wb.below hb4 (Nat.le_refl _); have tri := tri.below hb4 (Nat.le_refl _); have hd1 := hd1.below hb4 (Nat.le_refl _); clear tok4 _t)
      | (go_at_call 75; have _t := tok5; refine (den_spec _ a b d _ tri).mono ?_; rintro e W5 ⟨d2, rfl, hd2, hb5⟩; have hsW5 : W4.heap.size ≤ W5.heap.size := hb5.size; have hB := hB.trans (hb5.mono hB.size); have o1 := o1.below hb5 o1.lt; have lto1 := o1.lt; have qo10 := o1.cell 0 _ rfl; have qo11 := o1.cell 1 _ rfl; have qo12 := o1.cell 2 _ rfl; have qo13 := o1.cell 3 _ rfl; have qo14 := o1.cell 4 _ rfl; have wa := wa.below hb5 (Nat.le_refl _); have wb := wb.below hb5 (Nat.le_refl _); have tri := tri.below hb5 (Nat.le_refl _); have hd1 := hd1.below hb5 (Nat.le_refl _); clear tok5 _t)
      | (go_at_call 89; have _t := tok6; refine (F2.out _ _ _ wb hd2).mono ?_; rintro e W6 ⟨_, rfl, ⟨A2, rfl, hA2⟩, hb6⟩; have hsW6 : W5.heap.size ≤ W6.heap.size := hb6.size; have hB := hB.trans (hb6.mono hB.size); have o1 := o1.below hb6 o1.lt; have lto1 := o1.lt; have qo10 := o1.cell 0 _ rfl; have qo11 := o1.cell 1 _ rfl; have qo12 := o1.cell 2 _ rfl; have qo13 := o1.cell 3 _ rfl; have qo14 := o1.cell 4 _ rfl; have wa := wa.below hb6 (Nat.le_refl _); have wb := wb.below hb6 (Nat.le_refl _); have tri := tri.below hb6 (Nat.le_refl _); have hd1 := hd1.below hb6 (Nat.le_refl _); have hd2 := hd2.below hb6 (Nat.le_refl _); obtain ⟨R2, hR2, hc2⟩ := near_narrow hA2; clear tok6 _t))
  go_wp2_with fail
  go_ret
  exact ⟨_, rfl, ⟨R1, R2, rfl, a, b, d, HL.out, rfl, hR1, hR2⟩, hB⟩
end Go.Proofs.YtfkogkcpndaoeaaGreat
