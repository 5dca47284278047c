/- The reference's quotient of two nats to a number of digits: split. Conditions: fewer than 2^30 bits. The reference's nearest floats of 32 bits: nearest, Near64. Conditions: fewer than 2^30 bits. -/
import Derived.Test.YtfkogkcpndaoeaaGreatMRFloatA
set_option linter.all false
namespace Go.Proofs.YtfkogkcpndaoeaaGreat
open Go.RowKit
theorem SplitI.last01 {A D q last : Nat} {e : Int} {more : Bool} (h : SplitI A D e q last more) : last = 0 ∨ last = 1 := by
  obtain ⟨P, Q, x, y, hQ, h1, h2, h3, h4, h5⟩ := h
  rw [h4]
  split
  · exact .inr rfl
  · exact .inl rfl
theorem bits_lt {n bl width : Nat} (h : BitsOf n bl) (hb : bl ≤ width) : n < 2 ^ width := Nat.lt_of_lt_of_le h.1 (Nat.pow_le_pow_right (by omega) hb)
theorem bits_ge {n bl width : Nat} (h : BitsOf n bl) (hb : width < bl) : 2 ^ width ≤ n := by
  rcases h.2 with h0 | h0
  · omega
  · exact Nat.le_trans (Nat.pow_le_pow_right (by omega) (by omega)) h0
theorem half_ge {g width : Nat} (h : 2 ^ width ≤ g) (hw : 0 < width) : 2 ^ (width - 1) ≤ g / 2 := by
  obtain ⟨v, rfl⟩ : ∃ v, width = v + 1 := ⟨width - 1, by omega⟩
  rw [Nat.pow_succ] at h
  rw [Nat.add_sub_cancel]
  omega
theorem half_m {g j M : Nat} (h : g * 2 ^ j ≤ M) : g / 2 * 2 ^ (j + 1) ≤ M := by
  refine Nat.le_trans ?_ h
  rw [Nat.pow_succ, Nat.mul_comm (2 ^ j) 2, ← Nat.mul_assoc]
  exact Nat.mul_le_mul_right _ (Nat.div_mul_le_self g 2)
theorem j_small {g j M K : Nat} (hg : 0 < g) (h : g * 2 ^ j ≤ M) (hM : M < 2 ^ K) : j < K := by
  have h1 : 1 * 2 ^ j ≤ g * 2 ^ j := Nat.mul_le_mul_right _ hg
  rw [Nat.one_mul] at h1
  exact (Nat.pow_lt_pow_iff_right (by omega : 1 < 2)).1 (Nat.lt_of_le_of_lt (Nat.le_trans h1 h) hM)
def SplitR (A D width : Nat) (low : Int) (w : World) (v : Value) : Prop :=
  ∃ (u : Value) (e : Int) (q last : Nat) (more : Bool), v = .tuple #[u, .int .i64 e, .int .u32 (last : Int), .bool more] ∧ NatRep w u q ∧ SplitI A D e q last more ∧ q < 2 ^ width ∧ low ≤ e ∧ (2 ^ (width - 1) ≤ q ∨ e = low) ∧ e ≤ 5000000000
theorem mul_pow_lt {n k s K : Nat} (h : n < 2 ^ k) (hK : k + s ≤ K) : n * 2 ^ s < 2 ^ K :=
  Nat.lt_of_lt_of_le (Nat.mul_lt_mul_of_pos_right h (Nat.two_pow_pos s)) (by rw [← Nat.pow_add]; exact Nat.pow_le_pow_right (by omega) hK)
theorem bits_small {n bl k : Nat} (h : BitsOf n bl) (hn : n < 2 ^ k) : bl ≤ k := by
  rcases h.2 with h0 | h0
  · omega
  · have := (Nat.pow_lt_pow_iff_right (by omega : 1 < 2)).1 (Nat.lt_of_le_of_lt h0 hn)
    omega
theorem bits_pos {n bl : Nat} (h : BitsOf n bl) (hn : 0 < n) : 0 < bl := by
  rcases Nat.eq_zero_or_pos bl with h0 | h0
  · have := h.1
    rw [h0] at this
    simp at this
    omega
  · exact h0
set_option maxRecDepth 100000 in
set_option maxHeartbeats 1600000 in
theorem rsplit_spec (va vd : Value) (A D width k : Nat) (low : Int) (w : World) (hA : NatRep w va A) (hD : NatRep w vd D) (hA0 : 0 < A) (hD0 : 0 < D) (hAk : A < 2 ^ k) (hDk : D < 2 ^ k) (hk : k ≤ 1073741824) (hw1 : 1 ≤ width) (hw2 : width ≤ 64) (hl1 : -2000 ≤ low) (hl2 : low ≤ 0) :
    Calls Tryz.prog 145 #[va, vd, .int .i64 (width : Int), .int .i64 low] w (Ret w (SplitR A D width low)) := by
  obtain ⟨a1, l1, c1, rfl, _, _, _⟩ := hA.any
  obtain ⟨a2, l2, c2, rfl, _, _, _⟩ := hD.any
  have HAk := Lib.hid hAk
  have HDk := Lib.hid hDk
  clear hAk hDk
  go_enter Tryz.func145, Tryz.ntmps145
  go_wp2_with fail
  refine (rbits_spec _ A k w hA HAk.out (by omega)).mono ?_
  rintro e w1 ⟨_, rfl, ⟨ba, rfl, hba⟩, rfl⟩
  go_wp2_with fail
  refine (rbits_spec _ D k w hD HDk.out (by omega)).mono ?_
  rintro e w1 ⟨_, rfl, ⟨bd, rfl, hbd⟩, rfl⟩
  have hbak := bits_small hba HAk.out
  have hbdk := bits_small hbd HDk.out
  have hba0 := bits_pos hba hA0
  obtain ⟨e0, he0⟩ : ∃ e0 : Int, e0 = max ((ba : Int) - bd - width - 1) (low - 1) := ⟨_, rfl⟩
  have HBA : Hid (2 ^ (ba - 1) ≤ A) := show _ ≤ _ by rcases hba.2 with h | h; (omega); (exact h)
  have HBD := Lib.hid hbd.1
  have he01 : e0 ≤ 1073741824 := by omega
  have he02 : -2001 ≤ e0 := by omega
  have HE := Lib.hid he0
  clear hba hbd
  go_upto_if 27 with (fail)
  go_cut [9] (fun s wx => s = .int .i64 e0 ∧ wx = w)
  case first =>
    by_cases hlt : (ba : Int) - bd - width - 1 < low - 1
    · have he : e0 = low - 1 := by omega
      have He := Lib.hid he
      clear he0 he
      go_wp2_with fail
      go_meet
      exact ⟨int_of He.out.symm, rfl⟩
    · have he : e0 = (ba : Int) - bd - width - 1 := by omega
      have He := Lib.hid he
      clear he0 he
      go_wp2_with fail
      go_meet
      exact ⟨int_of He.out.symm, rfl⟩
  case rest =>
    obtain ⟨rfl, rfl⟩ := hcut
    obtain ⟨W0, rfl⟩ : ∃ W0 : World, W0 = wc := ⟨_, rfl⟩
    obtain ⟨P, hP⟩ : ∃ P, P = A * 2 ^ (-e0).toNat := ⟨_, rfl⟩
    obtain ⟨Q, hQ⟩ : ∃ Q, Q = D * 2 ^ e0.toNat := ⟨_, rfl⟩
    have hQ0 : 0 < Q := by rw [hQ]; exact Nat.mul_pos hD0 (Nat.two_pow_pos _)
    obtain ⟨K, hK⟩ : ∃ K, K = 2 * k + 2100 := ⟨_, rfl⟩
    have hKb : K ≤ 3000000000 := by omega
    have HPk : Hid (P < 2 ^ K) := show _ < _ by rw [hP]; exact mul_pow_lt HAk.out (by omega)
    have HQk : Hid (Q < 2 ^ K) := show _ < _ by rw [hQ]; exact mul_pow_lt HDk.out (by omega)
    have HSt := Lib.hid (split_start (width := width) (low := low) (by omega) HBA.out hba0 HBD.out he0 P Q hP hQ hD0)
    have HPQ : Hid (P * D * 2 ^ e0.toNat = A * Q * 2 ^ (-e0).toNat) := show _ = _ by rw [hP, hQ]; ac_rfl
    have HP := Lib.hid hP
    have HQ := Lib.hid hQ
    clear hP hQ he0 hK
    go_upto_if 31 with (fail)
    go_cut [13, 14] (fun s13 s14 wx => ∃ q r : Value, s13 = q ∧ s14 = r ∧ NatRep wx q (P / Q) ∧ NatRep wx r (P % Q) ∧ Below W0.heap.size W0 wx)
    case first =>
      by_cases h0 : 0 ≤ e0
      · obtain ⟨s, hs⟩ : ∃ s : Nat, e0 = (s : Int) := ⟨e0.toNat, by omega⟩
        have eQ : Q = D * 2 ^ s := by rw [HQ.out, hs]; simp
        have eP : P = A := by rw [HP.out, hs]; simp
        subst hs
        have hs2 : s ≤ 1073741824 := by omega
        have EQ := Lib.hid eQ
        have EP := Lib.hid eP
        clear eQ eP
        go_wp2_with fail
        refine (rshl_spec _ D s k W0 hD HDk.out (by omega) (by omega)).mono ?_
        rintro e w2 ⟨vq, rfl, hvq, hb2⟩
        rw [← EQ.out] at hvq
        have hA2 := hA.below hb2 (Nat.le_refl _)
        rw [← EP.out] at hA2
        go_wp2_with fail
        refine (rdiv_spec _ _ P Q K w2 hA2 hvq hQ0 HPk.out (by omega)).mono ?_
        rintro e w3 ⟨_, rfl, ⟨q, r, rfl, hq, hr⟩, hb3⟩
        go_wp2_with fail
        go_meet
        exact ⟨q, r, rfl, rfl, hq, hr, hb2.trans (hb3.mono hb2.size)⟩
      · obtain ⟨s, hs⟩ : ∃ s : Nat, -e0 = (s : Int) := ⟨(-e0).toNat, by omega⟩
        have eQ : Q = D := by rw [HQ.out, show e0.toNat = 0 by omega]; simp
        have eP : P = A * 2 ^ s := by rw [HP.out, hs]; simp
        have hs2 : s ≤ 2001 := by omega
        have EQ := Lib.hid eQ
        have EP := Lib.hid eP
        clear eQ eP
        go_wp2_with fail
        refine (rshl_spec _ A s k W0 hA HAk.out (by omega) (by omega)).mono ?_
        rintro e w2 ⟨vq, rfl, hvq, hb2⟩
        rw [← EP.out] at hvq
        have hD2 := hD.below hb2 (Nat.le_refl _)
        rw [← EQ.out] at hD2
        go_wp2_with fail
        refine (rdiv_spec _ _ P Q K w2 hvq hD2 hQ0 HPk.out (by omega)).mono ?_
        rintro e w3 ⟨_, rfl, ⟨q, r, rfl, hq, hr⟩, hb3⟩
        go_wp2_with fail
        go_meet
        exact ⟨q, r, rfl, rfl, hq, hr, hb2.trans (hb3.mono hb2.size)⟩
    case rest =>
      obtain ⟨vq, vr, rfl, rfl, hq, hr, hb⟩ := hcut
      obtain ⟨ar, lr, cr, rfl, hlr, _, _⟩ := hr.any
      obtain ⟨mb, hmb⟩ : ∃ mb, mb = decide (P % Q ≠ 0) := ⟨_, rfl⟩
      have HMB : Hid (decide (0 < lr) = mb) := show _ = _ by
        rw [hmb, decide_eq_decide]
        constructor
        · intro h h2
          have := hlr.2 h2
          omega
        · intro h
          have : lr ≠ 0 := fun h2 => h (hlr.1 h2)
          omega
      have hI0 := split_first hQ0 HPQ.out (show ((e0.toNat : Nat) : Int) - ((-e0).toNat : Nat) = e0 by omega)
      rw [← hmb] at hI0
      have hM : P / Q / 2 < 2 ^ K := Nat.lt_of_le_of_lt (Nat.le_trans (Nat.div_le_self _ _) (Nat.div_le_self _ _)) HPk.out
      have hQK : P / Q < 2 ^ K := Nat.lt_of_le_of_lt (Nat.div_le_self _ _) HPk.out
      obtain ⟨hst1, hst2⟩ := HSt.out
      obtain ⟨Z, hZ⟩ : ∃ Z, Z = P / Q := ⟨_, rfl⟩
      rw [← hZ] at hq hI0 hM hQK hst1
      have HI0 := Lib.hid hI0
      have HM := Lib.hid hM
      have HQK := Lib.hid hQK
      have HST1 := Lib.hid hst1
      clear hI0 hM hQK hst1 hmb hlr hr hZ HPQ HPk HQk HSt HP HQ HBA HBD HE hA hD HAk HDk
      go_wp2_with fail
      refine (rbit0_spec _ Z wc hq).mono ?_
      rintro e w3 ⟨_, rfl, rfl, rfl⟩
      go_wp2_with fail
      refine (rshr_spec _ Z 1 K wc hq HQK.out (by omega) (by omega)).mono ?_
      rintro e w3 ⟨v1, rfl, hv1, hb3⟩
      rw [Nat.pow_one] at hv1
      have hb4 := hb.trans (hb3.mono hb.size)
      obtain ⟨l0, hl0⟩ : ∃ l0, l0 = Z % 2 := ⟨_, rfl⟩
      obtain ⟨M, hMM⟩ : ∃ M, M = Z / 2 := ⟨_, rfl⟩
      have HI1 : Hid (SplitI A D (e0 + 1) M l0 mb) := show SplitI _ _ _ _ _ _ by rw [hMM, hl0]; exact HI0.out
      rw [← hMM] at hv1
      have HL0 := Lib.hid hl0
      have HM1 : Hid (M < 2 ^ K) := show _ < _ by rw [hMM]; exact HM.out
      have HS1 : Hid (2 ^ (width - 1) ≤ M ∨ e0 + 1 = low) := show _ ∨ _ by rw [hMM]; exact HST1.out
      clear HI0 HM HST1 hl0 hMM hq hb hb3 HQK
      go_wp2_with fail
      go_loopg [9, 10, 11, 13] M (fun g s9 s10 s11 s13 wr => ∃ (e : Int) (last : Nat) (more : Bool) (j : Nat), s9 = .int .i64 e ∧ s10 = .int .u32 (last : Int) ∧ s11 = .bool more ∧ NatRep wr s13 g ∧ e = e0 + 1 + j ∧ j ≤ K ∧ low ≤ e ∧ Hid (SplitI A D e g last more) ∧ Hid (2 ^ (width - 1) ≤ g ∨ e = low) ∧ Hid (g * 2 ^ j ≤ M) ∧ Below W0.heap.size W0 wr)
      case atStart => exact ⟨e0 + 1, l0, mb, 0, rfl, int_of (by have := HL0.out; omega), congrArg Value.bool HMB.out, hv1, by omega, by omega, hst2, HI1, HS1, show _ ≤ _ by simp, hb4⟩
      case round =>
        clear HI1 HS1 hv1 hb4
        obtain ⟨g, rfl⟩ : ∃ g : Nat, g = gk := ⟨_, rfl⟩
        obtain ⟨e, last, more, j, rfl, rfl, rfl, hg, he, hj, hlow, HI, HW, HJ, hb⟩ := hrel
        have Hee := Lib.hid he
        have heb : e ≤ 5000000000 := by omega
        clear he
        have hgM : g ≤ M := by
          have h1 := Nat.mul_le_mul_left g (Nat.two_pow_pos j)
          have h2 := HJ.out
          omega
        have HGK : Hid (g < 2 ^ K) := show _ < _ from Nat.lt_of_le_of_lt hgM HM1.out
        go_wp2_with fail
        refine (rbits_spec _ g K wr hg HGK.out (by omega)).mono ?_
        rintro e' w4 ⟨_, rfl, ⟨bl, rfl, hbl⟩, rfl⟩
        by_cases hc : width < bl
        · have hge := bits_ge hbl hc
          have hg0 : 0 < g := Nat.lt_of_lt_of_le (Nat.two_pow_pos width) hge
          have hjK := j_small hg0 HJ.out HM1.out
          have HN := Lib.hid (split_next HI.out)
          have HW2 := Lib.hid (half_ge hge (by omega))
          have HJ2 := Lib.hid (half_m HJ.out)
          have hg2 : g / 2 < g := by omega
          have hbit := HI.out.last01
          clear hbl hge
          rcases hbit with rfl | rfl
          · have hor : (more || decide (0 = 1)) = more := by simp
            have HN2 : Hid (SplitI A D (e + 1) (g / 2) (g % 2) more) := show SplitI _ _ _ _ _ _ by have := HN.out; rwa [hor] at this
            clear hor HN
            cases more
            all_goals
              go_wp2_with fail
              refine (rbit0_spec _ g wr hg).mono ?_
              rintro e' w5 ⟨_, rfl, rfl, rfl⟩
              go_wp2_with fail
              refine (rshr_spec _ g 1 K wr hg HGK.out (by omega) (by omega)).mono ?_
              rintro e' w5 ⟨v5, rfl, hv5, hb5⟩
              rw [Nat.pow_one] at hv5
              go_wp2_with fail
              go_roundg (g / 2)
              case measure => exact hg2
              case rel => exact ⟨e + 1, g % 2, _, j + 1, rfl, int_of (by omega), rfl, hv5, by have := Hee.out; omega, by omega, by omega, HN2, show _ ∨ _ from .inl HW2.out, HJ2, hb.trans (hb5.mono hb.size)⟩
          · have hor : (more || decide (1 = 1)) = true := by simp
            have HN2 : Hid (SplitI A D (e + 1) (g / 2) (g % 2) true) := show SplitI _ _ _ _ _ _ by have := HN.out; rwa [hor] at this
            clear hor HN
            cases more
            all_goals
              go_wp2_with fail
              refine (rbit0_spec _ g wr hg).mono ?_
              rintro e' w5 ⟨_, rfl, rfl, rfl⟩
              go_wp2_with fail
              refine (rshr_spec _ g 1 K wr hg HGK.out (by omega) (by omega)).mono ?_
              rintro e' w5 ⟨v5, rfl, hv5, hb5⟩
              rw [Nat.pow_one] at hv5
              go_wp2_with fail
              go_roundg (g / 2)
              case measure => exact hg2
              case rel => exact ⟨e + 1, g % 2, true, j + 1, rfl, int_of (by omega), rfl, hv5, by have := Hee.out; omega, by omega, by omega, HN2, show _ ∨ _ from .inl HW2.out, HJ2, hb.trans (hb5.mono hb.size)⟩
        · have hlt := Lib.hid (bits_lt hbl (show bl ≤ width by omega))
          have hc2 : ¬ ((width : Int) < (bl : Int)) := by omega
          clear hbl hc
          go_wp2_with fail
          exact bodyPost_ret (by simp [results, Tryz.results145, go_sem]) rfl ⟨_, rfl, ⟨_, e, g, last, more, rfl, hg, HI.out, hlt.out, hlow, HW.out, heb⟩, hb⟩
end Go.Proofs.YtfkogkcpndaoeaaGreat
namespace Go.Proofs.YtfkogkcpndaoeaaGreat
open Go.RowKit
theorem xor_high {b n : Nat} (h : b < 2 ^ n) : b ^^^ 2 ^ n = 2 ^ n + b := by
  apply Nat.eq_of_testBit_eq
  intro i
  rw [Nat.testBit_xor, Nat.testBit_two_pow]
  rcases Nat.lt_trichotomy i n with h1 | h1 | h1
  · rw [Nat.testBit_two_pow_add_gt h1]
    have : decide (n = i) = false := by simp; omega
    rw [this]; simp
  · subst h1
    rw [Nat.testBit_two_pow_add_eq, Nat.testBit_lt_two_pow h]
    simp
  · have h2 : b < 2 ^ i := Nat.lt_trans h (Nat.pow_lt_pow_right (by omega) h1)
    have h3 : 2 ^ n + b < 2 ^ i := by
      have h4 : 2 ^ (n + 1) ≤ 2 ^ i := Nat.pow_le_pow_right (by omega) h1
      rw [Nat.pow_succ] at h4
      omega
    rw [Nat.testBit_lt_two_pow h2, Nat.testBit_lt_two_pow h3]
    simp
    omega
theorem nearest_half {K : Nat} {e : Int} (hK : 0 < K) : Ieee.double.nearest false K e < 2 ^ 63 := by
  obtain ⟨e', K', hr, hn⟩ := nearest_rounds Ieee.double false K e hK
  rw [hn, word_false]
  unfold rung
  rw [inf_double]
  exact Nat.lt_of_le_of_lt (Nat.min_le_right _ _) (Nat.le_of_ble_eq_true (n := 9218868437227405312 + 1) rfl)
theorem neg_w64 {e : Int} {K : Nat} (hK : 0 < K) : Op.negFloat .f64 (w64 false e K) = w64 true e K := by
  have hsw : Ieee.double.signWeight = 2 ^ 63 := rfl
  have h0 : ¬ K = 0 := by omega
  unfold w64 Op.negFloat
  simp only [if_neg h0]
  show _ ^^^ 2 ^ 63 = _
  split
  · rw [xor_high (nearest_half hK), double_neg e K hK, hsw]
  · rw [word_false, word_true, hsw]
    exact xor_high (Nat.le_of_ble_eq_true (n := 9218868437227405312 + 1) rfl)
theorem run_negf (b : Nat) (w : World) : (Op.unary .neg (.float .f64 b)).run Tryz.prog w = .ok (.float .f64 (Op.negFloat .f64 b)) w := by simp [Op.unary]
def Norm24 (K : Nat) (e : Int) (m : Nat) (g : Int) : Prop := (m = K ∧ g = e ∧ K < 16777216) ∨ (K = 16777216 ∧ m = 8388608 ∧ g = e + 1)
theorem Norm24.same {K m : Nat} {e g : Int} (h : Norm24 K e m g) : SameVal m g K e := by
  rcases h with ⟨rfl, rfl, _⟩ | ⟨rfl, rfl, rfl⟩
  · exact SameVal.refl _ _
  · exact ⟨1, 0, rfl, by omega⟩
theorem Norm24.fin {K m bl : Nat} {e g : Int} (h : Norm24 K e m g) (hm : 0 < m) (hb : BitsOf m bl) (he : -149 ≤ e) (hc : 8388608 ≤ K ∨ e = -149) : (bl : Int) + g ≤ 128 ↔ (e + 149).toNat * 8388608 + K < 2139095040 := by
  obtain ⟨h1, h2⟩ := hb
  have key : ∀ m : Nat, 8388608 ≤ m → m < 16777216 → m < 2 ^ bl → (bl = 0 ∨ 2 ^ (bl - 1) ≤ m) → bl = 24 := fun m k1 k2 h1 h2 => by
    have a1 : 23 < bl := (Nat.pow_lt_pow_iff_right (by omega : 1 < 2)).1 (Nat.lt_of_le_of_lt (show 2 ^ 23 ≤ m by omega) h1)
    have a2 : 2 ^ (bl - 1) ≤ m := by rcases h2 with h | h; (omega); (exact h)
    have a3 : bl - 1 < 24 := (Nat.pow_lt_pow_iff_right (by omega : 1 < 2)).1 (Nat.lt_of_le_of_lt a2 (show m < 2 ^ 24 by omega))
    omega
  rcases h with ⟨rfl, rfl, hlt⟩ | ⟨rfl, rfl, rfl⟩
  · by_cases hge : 8388608 ≤ m
    · have := key m hge hlt h1 h2
      subst this
      omega
    · obtain rfl : g = -149 := by omega
      have a2 : bl ≤ 24 := by
        rcases Nat.lt_or_ge 24 bl with h | h
        · have a2 : 2 ^ (bl - 1) ≤ m := by rcases h2 with h | h; (omega); (exact h)
          have : 2 ^ 24 ≤ 2 ^ (bl - 1) := Nat.pow_le_pow_right (by omega) (by omega)
          omega
        · exact h
      omega
  · have := key 8388608 (by omega) (by omega) h1 h2
    subst this
    omega
theorem near_digits {A D q last : Nat} {e : Int} {more : Bool} (h : SplitI A D e q last more) (h1 : q < 2 ^ 24) (h2 : -149 ≤ e) (h3 : 2 ^ (24 - 1) ≤ q ∨ e = -149) (r : Bool) (hr : r = (decide (last = 1) && (more || decide (q % 2 = 1)))) :
    RoundsTo Ieee.single A D e (q + r.toNat) := by
  have := split_round h Ieee.single (by rw [p24]; omega) (by rw [lp_single]; exact h2) (by rw [lp_single, p23]; omega)
  have e1 : (if last = 1 ∧ (more = true ∨ q % 2 = 1) then 1 else 0) = r.toNat := by
    rw [hr]
    by_cases hl : last = 1
    · by_cases hm : more = true
      · rw [if_pos ⟨hl, .inl hm⟩]; simp [hl, hm]
      · by_cases hq : q % 2 = 1
        · rw [if_pos ⟨hl, .inr hq⟩]; simp [hl, hq]
        · rw [if_neg (by rintro ⟨_, h | h⟩; (exact hm h); (exact hq h))]; simp [hl, hm, hq]
    · rw [if_neg (fun h => hl h.1)]; simp [hl]
  rw [e1] at this
  exact this
def Near32 (z : Int) (d W : Nat) : Prop := (z = 0 ∧ W = 0) ∨ (z ≠ 0 ∧ ∃ e K, RoundsTo Ieee.single z.natAbs d e K ∧ W = w64 (decide (z < 0)) e K)
set_option maxRecDepth 100000 in
set_option maxHeartbeats 1600000 in
theorem rnearest_spec (v u : Value) (z : Int) (d k : Nat) (w : World) (h : WholeRep w v z) (h' : NatRep w u d) (hd : 0 < d) (hz : z.natAbs < 2 ^ k) (hdk : d < 2 ^ k) (hk : k ≤ 1073741824) :
    Calls Tryz.prog 93 #[v, u, .int .i64 24, .int .i64 (-149), .int .i64 128] w (Ret w fun _ v' => ∃ W, v' = .float .f64 W ∧ Near32 z d W) := by
  obtain ⟨s1, a1, l1, c1, rfl, hl1, hs1⟩ := h.open
  obtain ⟨hsz, na⟩ := h.sign
  obtain ⟨a3, l3, c3, rfl, _, _, _⟩ := h'.any
  by_cases hz0 : z = 0
  · obtain rfl : l1 = 0 := hl1.2 hz0
    have HF : Hid (Near32 z d 0) := show Near32 _ _ _ from .inl ⟨hz0, rfl⟩
    clear hz0 hl1 hsz hs1
    go_enter Tryz.func93, Tryz.ntmps93
    go_upto_region 1 with (fail)
    obtain ⟨W, hW, o1, hB, hS⟩ := boxes1 w 44 [.bool s1, .slice a1 0 c1]
    rw [← hW]
    clear hW
    have fo1 := o1.free; have co10 := o1.cell 0 _ rfl; have co11 := o1.cell 1 _ rfl
    go_wp2_with fail
    go_ret
    exact ⟨_, rfl, ⟨0, rfl, HF.out⟩, hB⟩
  · have hl0 : ((l1 : Int) == 0) = false := by
      have : l1 ≠ 0 := fun e => hz0 (hl1.1 e)
      simp; omega
    have HZ := Lib.hid hz
    have HD := Lib.hid hdk
    have HSZ := Lib.hid hsz
    have hz1 : 0 < z.natAbs := by omega
    have HZ0 := Lib.hid hz0
    clear hz hdk hsz hs1 hl1 hz0
    go_enter Tryz.func93, Tryz.ntmps93
    go_upto_region 1 with (fail)
    obtain ⟨W, hW, o1, hB, hS⟩ := boxes1 w 44 [.bool s1, .slice a1 l1 c1]
    rw [← hW]
    clear hW
    have k1 := na.below hB (Nat.le_refl _)
    have k3 := h'.below hB (Nat.le_refl _)
    clear h h' na
    have fo1 := o1.free; have co10 := o1.cell 0 _ rfl; have co11 := o1.cell 1 _ rfl
    go_wp2_with fail
    refine (rsplit_spec _ _ z.natAbs d 24 k (-149) W k1 k3 hz1 hd HZ.out HD.out (by omega) (by omega) (by omega) (by omega) (by omega)).mono ?_
    rintro e W1 ⟨_, rfl, ⟨vq, e, q, last, more, rfl, hq, hI, hq24, hlow, hc, heb⟩, hb1⟩
    obtain ⟨aq, lq, cq', rfl, _, _, _⟩ := hq.any
    have h01 := hI.last01
    obtain ⟨r, hr⟩ : ∃ r, r = (decide (last = 1) && (more || decide (q % 2 = 1))) := ⟨_, rfl⟩
    have HR := Lib.hid (near_digits hI hq24 hlow hc r hr)
    have HQ := Lib.hid hq24
    have HC := Lib.hid hc
    have Hr := Lib.hid hr
    clear co10 co11 fo1 hI hq24 hc k1 k3 hr
    have hsW1 : W.heap.size ≤ W1.heap.size := hb1.size; have hB := hB.trans (hb1.mono hB.size); have o1 := o1.below hb1 o1.lt
    go_upto_region 4 with (fail)
    go_cut [40] (fun s wx => s = .bool r ∧ wx = W1)
    case first =>
      rcases h01 with rfl | rfl
      · obtain rfl : r = false := by rw [Hr.out]; simp
        go_wp2_with fail
        go_meet
        exact ⟨rfl, rfl⟩
      · cases more
        · have hr2 : ((((q % 2 : Nat) : Int)) == 1) = r := by rw [Hr.out, Bool.eq_iff_iff]; simp; omega
          have Hr2 := Lib.hid hr2
          clear hr2
          go_wp2_with fail
          refine (rbit0_spec _ q W1 hq).mono ?_
          rintro e' w5 ⟨_, rfl, rfl, rfl⟩
          obtain ⟨q2, hq2⟩ : ∃ q2, q2 = q % 2 := ⟨_, rfl⟩
          have hr3 := Hr2.out
          rw [← hq2] at hr3 ⊢
          clear hq2
          go_wp2_with fail
          go_meet
          exact ⟨rfl, rfl⟩
        · obtain rfl : r = true := by rw [Hr.out]; simp
          go_wp2_with fail
          go_meet
          exact ⟨rfl, rfl⟩
    case rest =>
      obtain ⟨rfl, rfl⟩ := hcut
      obtain ⟨W2, rfl⟩ : ∃ W2 : World, W2 = wc := ⟨_, rfl⟩
      obtain ⟨K, hK⟩ : ∃ K, K = q + r.toNat := ⟨_, rfl⟩
      have HRK : Hid (RoundsTo Ieee.single z.natAbs d e K) := show RoundsTo _ _ _ _ _ by rw [hK]; exact HR.out
      have hKb : K ≤ 16777216 := by have := HQ.out; have := Bool.toNat_le r; omega
      have hKc : 8388608 ≤ K ∨ e = -149 := by have := HC.out; omega
      have HKE := Lib.hid hK
      have hq3 : q < 2 ^ 25 := by have := HQ.out; omega
      clear hK h01
      go_upto_if 40 with (fail)
      go_cut [11, 12] (fun s11 s12 wx => ∃ (m : Nat) (g : Int), NatRep wx s11 m ∧ s12 = .int .i64 g ∧ Norm24 K e m g ∧ Below W2.heap.size W2 wx)
      case first =>
        cases r
        · obtain rfl : K = q := by have := HKE.out; simpa using this
          have hN : Hid (Norm24 K e K e) := show Norm24 _ _ _ _ from .inl ⟨rfl, rfl, by have := HQ.out; omega⟩
          go_wp2_with fail
          go_meet
          exact ⟨K, e, hq, rfl, hN.out, Below.refl _ _⟩
        · obtain rfl : K = q + 1 := by have := HKE.out; simpa using this
          obtain ⟨V, hV, oN, hBV, hSV⟩ := boxes1 W2 28 [.int .u32 1]
          go_wp2_with fail
          rw [← hV]
          clear hV
          refine (radd_spec _ _ q 1 25 V (hq.below hBV (Nat.le_refl _)) (nat_own oN) hq3 (by omega) (by omega)).mono ?_
          rintro e' w5 ⟨v5, rfl, hv5, hb5⟩
          have hb5 := hBV.trans (hb5.mono hBV.size)
          obtain ⟨K, hKq⟩ : ∃ K, K = q + 1 := ⟨_, rfl⟩
          rw [← hKq] at hv5 hKb
          have HKq := Lib.hid hKq
          have hK25 : K < 2 ^ 25 := by omega
          clear hKq hq3
          go_wp2_with fail
          refine (rbits_spec _ K 25 w5 hv5 hK25 (by omega)).mono ?_
          rintro e' w6 ⟨_, rfl, ⟨bl, rfl, hbl⟩, rfl⟩
          by_cases hc : 24 < bl
          · have hge := bits_ge hbl hc
            have hK24 : K = 16777216 := by omega
            have hN : Hid (Norm24 (q + 1) e 8388608 (e + 1)) := show Norm24 _ _ _ _ from .inr ⟨by rw [← HKq.out]; exact hK24, rfl, rfl⟩
            have h2 : Hid (K / 2 ^ 1 = 8388608) := show _ = _ by rw [hK24]
            have hK26 : K < 2 ^ 26 := by omega
            clear hK24 hbl hge
            go_wp2_with fail
            refine (rshr_spec _ K 1 26 w5 hv5 hK26 (by omega) (by omega)).mono ?_
            rintro e' w7 ⟨v7, rfl, hv7, hb7⟩
            rw [h2.out] at hv7
            go_wp2_with fail
            go_meet
            exact ⟨8388608, e + 1, hv7, rfl, hN.out, hb5.trans (hb7.mono hb5.size)⟩
          · have hlt := bits_lt hbl (show bl ≤ 24 by omega)
            have hN : Hid (Norm24 (q + 1) e K e) := show Norm24 _ _ _ _ from .inl ⟨HKq.out, rfl, by rw [← HKq.out]; omega⟩
            have hc2 : ¬ ((24 : Int) < (bl : Int)) := by omega
            clear hbl hc hlt
            go_wp2_with fail
            go_meet
            exact ⟨K, e, hv5, rfl, hN.out, hb5⟩
      case rest =>
        obtain ⟨m, g, hm, rfl, hN, hbm⟩ := hcut
        obtain ⟨am, lm, cm, em, hlm, _, _⟩ := hm.any
        subst em
        have hB := hB.trans (hbm.mono hB.size)
        have o1 := o1.below hbm o1.lt
        clear hq HR HQ HC Hr HKE hq3
        obtain ⟨W4, rfl⟩ : ∃ W4 : World, W4 = wc := ⟨_, rfl⟩
        have hKm : K = 0 ↔ m = 0 := by rcases hN with ⟨rfl, _, _⟩ | ⟨rfl, rfl, _⟩ <;> omega
        have hgb : -149 ≤ g ∧ g ≤ 5000000001 := by rcases hN with ⟨_, rfl, _⟩ | ⟨_, _, rfl⟩ <;> omega
        have hm24 : m < 16777216 := by rcases hN with ⟨rfl, _, h⟩ | ⟨_, rfl, _⟩ <;> omega
        obtain ⟨hg1, hg2⟩ := hgb
        have hfin : ∀ s, Hid (s = w64 (decide (z < 0)) e K → Near32 z d s) := fun s h => .inr ⟨HZ0.out, e, K, HRK.out, h⟩
        by_cases hm0 : m = 0
        · obtain rfl : lm = 0 := hlm.2 hm0
          have hK0 : K = 0 := hKm.2 hm0
          have HF := Lib.hid ((hfin 0).out (by unfold w64; rw [if_pos hK0]))
          clear hfin hm0 hK0 hKm hN hlm
          go_wp2_with fail
          go_ret
          exact ⟨_, rfl, ⟨0, rfl, HF.out⟩, hB⟩
        · have hlm0 : ((lm : Int) == 0) = false := by
            have : lm ≠ 0 := fun h => hm0 (hlm.1 h)
            simp; omega
          have hmp : 0 < m := by omega
          have hKp : 0 < K := by rcases Nat.eq_zero_or_pos K with h | h; (exact absurd (hKm.1 h) hm0); (exact h)
          have hm25 : m < 2 ^ 24 := by omega
          clear hlm hm0 hKm
          go_wp2_with fail
          refine (inf_spec W4).mono ?_
          rintro e' w5 ⟨rfl, rfl⟩
          go_wp2_with fail
          refine (rbits_spec _ m 24 W4 hm hm25 (by omega)).mono ?_
          rintro e' w5 ⟨_, rfl, ⟨bm, rfl, hbm2⟩, rfl⟩
          have hff := hN.fin hmp hbm2 hlow hKc
          have hbm3 := bits_small hbm2 hm25
          have hsame := nearest_same Ieee.double false hN.same
          have hzd : Hid (s1 = decide (z < 0)) := HSZ
          have HN64 := Lib.hid (neg_w64 (e := e) hKp)
          have HW : Hid (w64 false e K = if (e + 149).toNat * 8388608 + K < 2139095040 then Ieee.double.nearest false m g else infW) := show _ = _ by
            rw [hsame]
            unfold w64
            rw [if_neg (by omega)]
            rfl
          clear hbm2 hsame
          by_cases hc : (bm : Int) + g ≤ 128
          · have hW2 : Hid (Ieee.double.nearest false m g = w64 false e K) := show _ = _ by rw [HW.out, if_pos (hff.1 hc)]
            have hmdb : m < 9007199254740992 := by omega
            clear hff
            go_wp2_with fail
            refine (float_spec _ m g W4 hm hmp hmdb (by omega) (by omega)).mono ?_
            rintro e' w5 ⟨rfl, hb5⟩
            have hB := hB.trans (hb5.mono hB.size)
            have o1 := o1.below hb5 o1.lt
            rw [hW2.out]
            obtain ⟨f64, hf64⟩ : ∃ f64, f64 = w64 false e K := ⟨_, rfl⟩
            rw [← hf64]
            have HNEG : Hid (Op.negFloat .f64 f64 = w64 true e K) := show _ = _ by rw [hf64]; exact HN64.out
            have Hf := Lib.hid hf64
            clear hf64 HN64 hW2 HW
            have hneg := run_negf
            have fo1 := o1.free; have co10 := o1.cell 0 _ rfl; have co11 := o1.cell 1 _ rfl
            cases s1
            · have HF := Lib.hid ((hfin f64).out (by rw [← hzd.out]; exact Hf.out))
              clear hfin hneg
              go_wp2_with fail
              go_ret
              exact ⟨_, rfl, ⟨f64, rfl, HF.out⟩, hB⟩
            · have HF := Lib.hid ((hfin (Op.negFloat .f64 f64)).out (by rw [← hzd.out]; exact HNEG.out))
              clear hfin
              go_wp2_with fail
              go_ret
              exact ⟨_, rfl, ⟨_, rfl, HF.out⟩, hB⟩
          · have hW2 : Hid (infW = w64 false e K) := show _ = _ by rw [HW.out, if_neg (fun h => hc (hff.2 h))]
            obtain ⟨f64, hf64⟩ : ∃ f64, f64 = infW := ⟨_, rfl⟩
            rw [← hf64]
            have HNEG : Hid (Op.negFloat .f64 f64 = w64 true e K) := show _ = _ by rw [hf64, hW2.out]; exact HN64.out
            have Hf : Hid (f64 = w64 false e K) := show _ = _ by rw [hf64, hW2.out]
            clear hf64 HN64 hW2 HW hff
            have hneg := run_negf
            have fo1 := o1.free; have co10 := o1.cell 0 _ rfl; have co11 := o1.cell 1 _ rfl
            cases s1
            · have HF := Lib.hid ((hfin f64).out (by rw [← hzd.out]; exact Hf.out))
              clear hfin hneg
              go_wp2_with fail
              go_ret
              exact ⟨_, rfl, ⟨f64, rfl, HF.out⟩, hB⟩
            · have HF := Lib.hid ((hfin (Op.negFloat .f64 f64)).out (by rw [← hzd.out]; exact HNEG.out))
              clear hfin
              go_wp2_with fail
              go_ret
              exact ⟨_, rfl, ⟨_, rfl, HF.out⟩, hB⟩
def IsW32 (z : Int) (d W : Nat) : Prop := (z = 0 ∧ W = 0) ∨ (z ≠ 0 ∧ ∃ e K, RoundsTo Ieee.single z.natAbs d e K ∧ W = w32 (decide (z < 0)) e K)
theorem IsW32.unique {z : Int} {d W V : Nat} (hd : 0 < d) (h : IsW32 z d W) (h' : IsW32 z d V) : W = V := by
  rcases h with ⟨h1, rfl⟩ | ⟨h1, e, K, hr, rfl⟩
  · rcases h' with ⟨_, rfl⟩ | ⟨h2, _⟩
    · rfl
    · exact absurd h1 h2
  · rcases h' with ⟨h2, _⟩ | ⟨_, e', K', hr', rfl⟩
    · exact absurd h2 h1
    · obtain ⟨rfl, rfl⟩ := hr.unique hd hr'
      rfl
theorem near_narrow {z : Int} {d W : Nat} (h : Near32 z d W) : ∃ V, IsW32 z d V ∧ ∀ w, (convert 169 31 (.float .f64 W)).run Tryz.prog w = .ok (.float .f32 V) w := by
  rcases h with ⟨hz, rfl⟩ | ⟨hz, e, K, hr, rfl⟩
  · exact ⟨0, .inl ⟨hz, rfl⟩, fun w => run_convert_float_float w _ _ .f64 .f32 0 0 (by rw [Tryz.underlying169]; rfl) Tryz.underlying31 (by decide)⟩
  · obtain ⟨h1, h2, h3⟩ := hr.bounds
    rw [p24] at h1
    rw [lp_single] at h2
    rw [lp_single, p23] at h3
    exact ⟨_, .inr ⟨hz, e, K, hr, rfl⟩, fun w => run_convert_float_float w _ _ .f64 .f32 _ _ (by rw [Tryz.underlying169]; rfl) Tryz.underlying31 (w64_narrow _ e K h1 h2 h3)⟩
end Go.Proofs.YtfkogkcpndaoeaaGreat
