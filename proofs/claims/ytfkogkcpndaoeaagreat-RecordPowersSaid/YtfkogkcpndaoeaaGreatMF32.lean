/- Floats as numbers that are rounded: what Ieee's nearest gives, of any fraction. Conditions: none. Floats as numbers that are rounded: the quotient, its next bit and what is left; words read back. Conditions: none. Floats as numbers that are rounded: of numbers alike, and from 64 bits to 32. Conditions: none. -/
import Ieee.Arith
import Derived.Laws.FloatArith
set_option linter.all false
namespace Go.Proofs.YtfkogkcpndaoeaaGreat
def rn (P Q : Nat) : Nat := P / Q + (decide (Q < 2 * (P % Q)) || (decide (Q = 2 * (P % Q)) && decide (P / Q % 2 = 1))).toNat
theorem rn_scale {P Q k : Nat} (hk : 0 < k) : rn (P * k) (Q * k) = rn P Q := by
  unfold rn
  rw [Nat.mul_div_mul_right _ _ hk, Nat.mul_mod_mul_right]
  congr 2
  have e1 : decide (Q * k < 2 * (P % Q * k)) = decide (Q < 2 * (P % Q)) := by
    rw [decide_eq_decide, ← Nat.mul_assoc, Nat.mul_lt_mul_right hk]
  have e2 : decide (Q * k = 2 * (P % Q * k)) = decide (Q = 2 * (P % Q)) := by
    rw [decide_eq_decide, ← Nat.mul_assoc]
    exact ⟨fun h => Nat.eq_of_mul_eq_mul_right hk h, fun h => congrArg (· * k) h⟩
  rw [e1, e2]
theorem rn_same {P Q P' Q' : Nat} (hQ : 0 < Q) (hQ' : 0 < Q') (h : P * Q' = P' * Q) : rn P Q = rn P' Q' := by
  rw [← rn_scale (P := P) (Q := Q) hQ', ← rn_scale (P := P') (Q := Q') hQ, h, Nat.mul_comm Q Q']
theorem div_same {P Q P' Q' : Nat} (hQ : 0 < Q) (hQ' : 0 < Q') (h : P * Q' = P' * Q) : P / Q = P' / Q' := by
  rw [← Nat.mul_div_mul_right P Q hQ', ← Nat.mul_div_mul_right P' Q' hQ, h, Nat.mul_comm Q Q']
theorem rn_le {P Q : Nat} : rn P Q ≤ P / Q + 1 := by
  unfold rn
  have := Bool.toNat_le (decide (Q < 2 * (P % Q)) || (decide (Q = 2 * (P % Q)) && decide (P / Q % 2 = 1)))
  omega
theorem rn_ge {P Q : Nat} : P / Q ≤ rn P Q := Nat.le_add_right _ _
theorem rn_one {P : Nat} : rn P 1 = P := by
  unfold rn
  simp [Nat.mod_one]
theorem cut_rn (neg : Bool) (n drop : Nat) : Ieee.Toward.even.cut neg n drop = rn n (2 ^ drop) := by
  have hlog : n < 2 ^ (n.log2 + 1) := Nat.lt_log2_self
  unfold Ieee.Toward.cut rn
  simp only [Nat.shiftLeft_eq, Nat.one_mul]
  rcases Nat.le_total drop (n.log2 + 2) with h | h
  · rw [Nat.min_eq_left h]
    have hbe : ∀ a b : Nat, (a == b) = decide (a = b) := fun a b => by rw [Bool.eq_iff_iff]; simp
    rw [hbe, hbe]
  · rw [Nat.min_eq_right h]
    have h2 : n < 2 ^ (n.log2 + 2) := Nat.lt_of_lt_of_le hlog (Nat.pow_le_pow_right (by omega) (by omega))
    have h3 : n < 2 ^ drop := Nat.lt_of_lt_of_le h2 (Nat.pow_le_pow_right (by omega) h)
    have h4 : 2 * n < 2 ^ (n.log2 + 2) := by rw [show n.log2 + 2 = (n.log2 + 1) + 1 by omega, Nat.pow_succ]; omega
    have h5 : 2 * n < 2 ^ drop := Nat.lt_of_lt_of_le h4 (Nat.pow_le_pow_right (by omega) h)
    rw [Nat.div_eq_of_lt h2, Nat.mod_eq_of_lt h2, Nat.div_eq_of_lt h3, Nat.mod_eq_of_lt h3]
    have a1 : decide (2 ^ (n.log2 + 2) < 2 * n) = false := by simp; omega
    have a2 : decide (2 ^ drop < 2 * n) = false := by simp; omega
    rw [a1, a2]
    simp
def RoundsTo (f : Ieee.Format) (A D : Nat) (e : Int) (K : Nat) : Prop :=
  ∃ P Q x y : Nat, 0 < Q ∧ P * D * 2 ^ x = A * Q * 2 ^ y ∧ (x : Int) - y = e ∧ P / Q < 2 ^ (f.fractionBits + 1) ∧ f.leastPlace ≤ e ∧ (2 ^ f.fractionBits ≤ P / Q ∨ e = f.leastPlace) ∧ K = rn P Q
theorem pow_add_eq (a b : Nat) : (2 : Nat) ^ (a + b) = 2 ^ a * 2 ^ b := Nat.pow_add ..
theorem same_place {A D P Q P' Q' x y x' y' : Nat} (hD : 0 < D) (h : P * D * 2 ^ x = A * Q * 2 ^ y) (h' : P' * D * 2 ^ x' = A * Q' * 2 ^ y') (he : (x : Int) - y = (x' : Int) - y') : P * Q' = P' * Q := by
  have hp : 2 ^ (x + y') = 2 ^ (x' + y) := by congr 1; omega
  have h1 : (P * Q') * (D * 2 ^ (x + y')) = (P' * Q) * (D * 2 ^ (x' + y)) := by
    rw [pow_add_eq, pow_add_eq]
    calc (P * Q') * (D * (2 ^ x * 2 ^ y')) = (P * D * 2 ^ x) * (Q' * 2 ^ y') := by ac_rfl
      _ = (A * Q * 2 ^ y) * (Q' * 2 ^ y') := by rw [h]
      _ = (A * Q' * 2 ^ y') * (Q * 2 ^ y) := by ac_rfl
      _ = (P' * D * 2 ^ x') * (Q * 2 ^ y) := by rw [h']
      _ = _ := by ac_rfl
  rw [hp] at h1
  exact Nat.eq_of_mul_eq_mul_right (Nat.mul_pos hD (Nat.two_pow_pos _)) h1
theorem place_up {A D P Q P' Q' x y x' y' d : Nat} (hD : 0 < D) (hQ : 0 < Q) (hQ' : 0 < Q') (h : P * D * 2 ^ x = A * Q * 2 ^ y) (h' : P' * D * 2 ^ x' = A * Q' * 2 ^ y') (he : (x' : Int) - y' = (x : Int) - y + d) : P' / Q' = P / Q / 2 ^ d := by
  rw [Nat.div_div_eq_div_mul]
  refine (div_same (Nat.mul_pos hQ (Nat.two_pow_pos d)) hQ' ?_).symm
  refine same_place (x := x + d) (y := y) (x' := x') (y' := y') hD ?_ h' (by omega)
  rw [pow_add_eq, ← Nat.mul_assoc, h]
  ac_rfl
theorem RoundsTo.unique {f : Ieee.Format} {A D K K' : Nat} {e e' : Int} (hD : 0 < D) (h : RoundsTo f A D e K) (h' : RoundsTo f A D e' K') : e = e' ∧ K = K' := by
  obtain ⟨P, Q, x, y, hQ, h1, he, h2, h3, h4, rfl⟩ := h
  obtain ⟨P', Q', x', y', hQ', h1', he', h2', h3', h4', rfl⟩ := h'
  have key : e = e' := by
    rcases Int.lt_trichotomy e e' with hlt | heq | hgt
    · exfalso
      obtain ⟨d, hd⟩ : ∃ d : Nat, e' = e + d ∧ 1 ≤ d := ⟨(e' - e).toNat, by omega, by omega⟩
      have hu := place_up (d := d) hD hQ hQ' h1 h1' (by omega)
      have hp : 2 ^ 1 ≤ 2 ^ d := Nat.pow_le_pow_right (by omega) hd.2
      have hq : P / Q / 2 ^ d ≤ P / Q / 2 := Nat.div_le_div_left (by simpa using hp) (by omega)
      rw [Nat.pow_succ] at h2
      rcases h4' with h5 | h5
      · rw [hu] at h5
        omega
      · omega
    · exact heq
    · exfalso
      obtain ⟨d, hd⟩ : ∃ d : Nat, e = e' + d ∧ 1 ≤ d := ⟨(e - e').toNat, by omega, by omega⟩
      have hu := place_up (d := d) hD hQ' hQ h1' h1 (by omega)
      have hp : 2 ^ 1 ≤ 2 ^ d := Nat.pow_le_pow_right (by omega) hd.2
      have hq : P' / Q' / 2 ^ d ≤ P' / Q' / 2 := Nat.div_le_div_left (by simpa using hp) (by omega)
      rw [Nat.pow_succ] at h2'
      rcases h4 with h5 | h5
      · rw [hu] at h5
        omega
      · omega
  refine ⟨key, rn_same hQ hQ' (same_place hD h1 h1' (by omega))⟩
def rung (f : Ieee.Format) (e : Int) (K : Nat) : Nat := min ((e - f.leastPlace).toNat * f.binade + K) f.infRung
theorem nearest_rounds (f : Ieee.Format) (neg : Bool) (mag : Nat) (place : Int) (h : 0 < mag) : ∃ e K, RoundsTo f (mag * 2 ^ place.toNat) (2 ^ (-place).toNat) e K ∧ f.nearest neg mag place = f.word neg (rung f e K) := by
  obtain ⟨last, hl⟩ : ∃ last, last = max (place + mag.log2 - f.fractionBits) f.leastPlace := ⟨_, rfl⟩
  refine ⟨last, rn (mag * 2 ^ (place - last).toNat) (2 ^ (last - place).toNat), ⟨mag * 2 ^ (place - last).toNat, 2 ^ (last - place).toNat, (last - place).toNat + place.toNat, (place - last).toNat + (-place).toNat, Nat.two_pow_pos _, ?_, ?_, ?_, ?_, ?_, rfl⟩, ?_⟩
  · rw [pow_add_eq, pow_add_eq]; ac_rfl
  · omega
  · have h1 : mag < 2 ^ (mag.log2 + 1) := Nat.lt_log2_self
    rw [Nat.div_lt_iff_lt_mul (Nat.two_pow_pos _), ← pow_add_eq]
    refine Nat.lt_of_lt_of_le (Nat.mul_lt_mul_of_pos_right h1 (Nat.two_pow_pos _)) ?_
    rw [← pow_add_eq]
    exact Nat.pow_le_pow_right (by omega) (by omega)
  · omega
  · by_cases hc : place + mag.log2 - f.fractionBits ≤ f.leastPlace
    · right; omega
    · left
      have h1 : 2 ^ mag.log2 ≤ mag := Nat.log2_self_le (by omega)
      rw [Nat.le_div_iff_mul_le (Nat.two_pow_pos _), ← pow_add_eq]
      refine Nat.le_trans ?_ (Nat.mul_le_mul_right _ h1)
      rw [← pow_add_eq]
      exact Nat.pow_le_pow_right (by omega) (by omega)
  · unfold Ieee.Format.nearest rung
    rw [if_neg (by omega)]
    simp only [← hl, cut_rn, Nat.shiftLeft_eq]
theorem nearest_digits (f : Ieee.Format) (neg : Bool) (e : Int) (K : Nat) (hK : K ≤ 2 ^ (f.fractionBits + 1)) (he : f.leastPlace ≤ e) (hc : 2 ^ f.fractionBits ≤ K ∨ e = f.leastPlace) : f.nearest neg K e = f.word neg (rung f e K) := by
  have hb : f.binade = 2 ^ f.fractionBits := rfl
  rcases Nat.eq_zero_or_pos K with h0 | h0
  · subst h0
    have h1 := Nat.two_pow_pos f.fractionBits
    obtain rfl : e = f.leastPlace := by rcases hc with h | h <;> omega
    unfold Ieee.Format.nearest rung
    simp
  · obtain ⟨e', K', hr, hn⟩ := nearest_rounds f neg K e h0
    rw [hn]
    rcases Nat.lt_or_ge K (2 ^ (f.fractionBits + 1)) with hlt | hge
    · have hme : RoundsTo f (K * 2 ^ e.toNat) (2 ^ (-e).toNat) e K := ⟨K, 1, e.toNat, (-e).toNat, by omega, by ac_rfl, by omega, by simpa using hlt, he, by simpa using hc, rn_one.symm⟩
      obtain ⟨rfl, rfl⟩ := hr.unique (Nat.two_pow_pos _) hme
      rfl
    · obtain rfl : K = 2 ^ (f.fractionBits + 1) := by omega
      have hd : 2 ^ (f.fractionBits + 1) / 2 = 2 ^ f.fractionBits := by rw [Nat.pow_succ]; omega
      have hme : RoundsTo f (2 ^ (f.fractionBits + 1) * 2 ^ e.toNat) (2 ^ (-e).toNat) (e + 1) (2 ^ f.fractionBits) := by
        refine ⟨2 ^ f.fractionBits, 1, e.toNat + 1, (-e).toNat, by omega, ?_, by omega, ?_, by omega, .inl (by simp), rn_one.symm⟩
        · rw [Nat.pow_succ, Nat.pow_succ]; ac_rfl
        · rw [Nat.div_one]; exact Nat.pow_lt_pow_right (by omega) (by omega)
      obtain ⟨rfl, rfl⟩ := hr.unique (Nat.two_pow_pos _) hme
      congr 1
      unfold rung
      rw [hb]
      congr 1
      rw [show (e + 1 - f.leastPlace).toNat = (e - f.leastPlace).toNat + 1 by omega, Nat.add_mul, Nat.pow_succ]
      omega
theorem RoundsTo.bounds {f : Ieee.Format} {A D K : Nat} {e : Int} (h : RoundsTo f A D e K) : K ≤ 2 ^ (f.fractionBits + 1) ∧ f.leastPlace ≤ e ∧ (2 ^ f.fractionBits ≤ K ∨ e = f.leastPlace) := by
  obtain ⟨P, Q, x, y, hQ, h1, he, h2, h3, h4, rfl⟩ := h
  have := rn_le (P := P) (Q := Q)
  have := rn_ge (P := P) (Q := Q)
  refine ⟨by omega, h3, ?_⟩
  rcases h4 with h | h
  · left; omega
  · exact .inr h
def IsVal (mag : Nat) (place : Int) (A D : Nat) : Prop := ∃ x y : Nat, mag * D * 2 ^ x = A * 2 ^ y ∧ (y : Int) - x = -place
theorem isVal_self (mag : Nat) (place : Int) : IsVal mag place (mag * 2 ^ place.toNat) (2 ^ (-place).toNat) := ⟨place.toNat, (-place).toNat, by ac_rfl, by omega⟩
theorem nearest_of {f : Ieee.Format} {neg : Bool} {mag : Nat} {place : Int} {A D K : Nat} {e : Int} (hD : 0 < D) (hm : 0 < mag) (hv : IsVal mag place A D) (h : RoundsTo f A D e K) : f.nearest neg mag place = f.word neg (rung f e K) := by
  obtain ⟨e', K', hr, hn⟩ := nearest_rounds f neg mag place hm
  obtain ⟨x, y, hv1, hv2⟩ := hv
  have h2 : RoundsTo f (mag * 2 ^ place.toNat) (2 ^ (-place).toNat) e K := by
    obtain ⟨P, Q, a, b, hQ, h1, he, h2, h3, h4, rfl⟩ := h
    refine ⟨P, Q, a + y + place.toNat, b + x + (-place).toNat, hQ, ?_, by omega, h2, h3, h4, rfl⟩
    have k1 : (P * 2 ^ (y + a)) * D = (mag * Q * 2 ^ (x + b)) * D := by
      rw [pow_add_eq, pow_add_eq]
      calc P * (2 ^ y * 2 ^ a) * D = (P * D * 2 ^ a) * 2 ^ y := by ac_rfl
        _ = (A * 2 ^ y) * (Q * 2 ^ b) := by rw [h1]; ac_rfl
        _ = (mag * D * 2 ^ x) * (Q * 2 ^ b) := by rw [hv1]
        _ = _ := by ac_rfl
    have k2 := Nat.eq_of_mul_eq_mul_right hD k1
    rw [show a + y + place.toNat = (y + a) + place.toNat by omega, show b + x + (-place).toNat = (x + b) + (-place).toNat by omega, pow_add_eq (y + a), pow_add_eq (x + b)]
    calc P * 2 ^ (-place).toNat * (2 ^ (y + a) * 2 ^ place.toNat) = (P * 2 ^ (y + a)) * (2 ^ (-place).toNat * 2 ^ place.toNat) := by ac_rfl
      _ = (mag * Q * 2 ^ (x + b)) * (2 ^ (-place).toNat * 2 ^ place.toNat) := by rw [k2]
      _ = _ := by ac_rfl
  obtain ⟨rfl, rfl⟩ := hr.unique (Nat.two_pow_pos _) h2
  exact hn
end Go.Proofs.YtfkogkcpndaoeaaGreat
namespace Go.Proofs.YtfkogkcpndaoeaaGreat
def SplitI (A D : Nat) (e : Int) (q last : Nat) (more : Bool) : Prop :=
  ∃ P Q x y : Nat, 0 < Q ∧ P * D * 2 ^ x = A * Q * 2 ^ y ∧ (x : Int) - y = e ∧ q = P / Q ∧ last = (if Q ≤ 2 * (P % Q) then 1 else 0) ∧ more = decide (2 * (P % Q) ≠ last * Q)
theorem mod_two_mul (P Q : Nat) : P % (Q * 2) = P % Q + Q * (P / Q % 2) := Nat.mod_mul
theorem split_first {A D P Q x y : Nat} {e : Int} (hQ : 0 < Q) (h1 : P * D * 2 ^ x = A * Q * 2 ^ y) (h2 : (x : Int) - y = e) : SplitI A D (e + 1) (P / Q / 2) (P / Q % 2) (decide (P % Q ≠ 0)) := by
  have hr := Nat.mod_lt P hQ
  refine ⟨P, Q * 2, x + 1, y, by omega, ?_, by omega, by rw [Nat.div_div_eq_div_mul], ?_, ?_⟩
  · rw [Nat.pow_succ, ← Nat.mul_assoc, h1]; ac_rfl
  · rw [mod_two_mul]
    rcases Nat.mod_two_eq_zero_or_one (P / Q) with h | h
    · rw [h, if_neg (by omega)]
    · rw [h, if_pos (by omega)]
  · rw [mod_two_mul, decide_eq_decide]
    rcases Nat.mod_two_eq_zero_or_one (P / Q) with h | h
    · rw [h]; omega
    · rw [h]; omega
theorem split_next {A D q last : Nat} {e : Int} {more : Bool} (h : SplitI A D e q last more) : SplitI A D (e + 1) (q / 2) (q % 2) (more || decide (last = 1)) := by
  obtain ⟨P, Q, x, y, hQ, h1, h2, rfl, rfl, rfl⟩ := h
  have h := split_first hQ h1 h2
  have e1 : (decide (2 * (P % Q) ≠ (if Q ≤ 2 * (P % Q) then 1 else 0) * Q) || decide ((if Q ≤ 2 * (P % Q) then 1 else 0) = 1)) = decide (P % Q ≠ 0) := by
    rw [Bool.eq_iff_iff]
    by_cases hc : Q ≤ 2 * (P % Q)
    · simp only [if_pos hc]
      simp
      omega
    · simp only [if_neg hc]
      simp
      omega
  rw [e1]
  exact h
theorem split_round {A D q last : Nat} {e : Int} {more : Bool} (h : SplitI A D e q last more) (f : Ieee.Format) (h1 : q < 2 ^ (f.fractionBits + 1)) (h2 : f.leastPlace ≤ e) (h3 : 2 ^ f.fractionBits ≤ q ∨ e = f.leastPlace) :
    RoundsTo f A D e (q + (if last = 1 ∧ (more = true ∨ q % 2 = 1) then 1 else 0)) := by
  obtain ⟨P, Q, x, y, hQ, k1, k2, rfl, rfl, rfl⟩ := h
  refine ⟨P, Q, x, y, hQ, k1, k2, h1, h2, h3, ?_⟩
  unfold rn
  congr 1
  by_cases hc : Q ≤ 2 * (P % Q)
  · simp only [if_pos hc]
    by_cases hl : Q < 2 * (P % Q)
    · rw [if_pos ⟨by simp, .inl (by simp; omega)⟩]
      simp [hl]
    · have he : Q = 2 * (P % Q) := by omega
      by_cases ho : P / Q % 2 = 1
      · rw [if_pos ⟨by simp, .inr ho⟩]
        have d1 : decide (Q = 2 * (P % Q)) = true := decide_eq_true he
        rw [d1]; simp [ho]
      · rw [if_neg (by rintro ⟨_, h | h⟩; (simp at h; omega); exact ho h)]
        simp [ho, hl]
  · simp only [if_neg hc]
    have a1 : decide (Q < 2 * (P % Q)) = false := by simp; omega
    have a2 : decide (Q = 2 * (P % Q)) = false := by simp; omega
    rw [a1, a2]
    simp
theorem split_start {A D ba bd width : Nat} {low e : Int} (hw : 0 < width) (hA : 2 ^ (ba - 1) ≤ A) (hba : 0 < ba) (hD : D < 2 ^ bd) (he : e = max ((ba : Int) - bd - width - 1) (low - 1)) (P Q : Nat) (hP : P = A * 2 ^ (-e).toNat) (hQ : Q = D * 2 ^ e.toNat) (hD0 : 0 < D) :
    (2 ^ (width - 1) ≤ P / Q / 2 ∨ e + 1 = low) ∧ low ≤ e + 1 := by
  refine ⟨?_, by omega⟩
  by_cases hc : (ba : Int) - bd - width - 1 ≤ low - 1
  · right; omega
  · left
    have hee : e = (ba : Int) - bd - width - 1 := by omega
    have hQ0 : 0 < Q := by rw [hQ]; exact Nat.mul_pos hD0 (Nat.two_pow_pos _)
    have h2w : 2 ^ (width - 1) * 2 ≤ 2 ^ (width - 1 + 1) := by rw [Nat.pow_succ]; omega
    have key : 2 ^ (width - 1 + 1) * Q ≤ P := by
      rw [show width - 1 + 1 = width by omega, hP, hQ]
      have k1 : 2 ^ width * (D * 2 ^ e.toNat) ≤ 2 ^ width * (2 ^ bd * 2 ^ e.toNat) := Nat.mul_le_mul_left _ (Nat.mul_le_mul_right _ (by omega))
      have k2 : 2 ^ (ba - 1) * 2 ^ (-e).toNat ≤ A * 2 ^ (-e).toNat := Nat.mul_le_mul_right _ hA
      refine Nat.le_trans k1 (Nat.le_trans (Nat.le_of_eq ?_) k2)
      rw [← Nat.pow_add, ← Nat.pow_add, ← Nat.pow_add]
      congr 1
      omega
    rw [Nat.div_div_eq_div_mul, Nat.le_div_iff_mul_le (by omega)]
    refine Nat.le_trans ?_ key
    calc 2 ^ (width - 1) * (Q * 2) = (2 ^ (width - 1) * 2) * Q := by ac_rfl
      _ ≤ _ := Nat.mul_le_mul_right _ h2w
theorem read_word (f : Ieee.Format) (neg : Bool) (e : Int) (K : Nat) (hK : K < 2 ^ (f.fractionBits + 1)) (he : f.leastPlace ≤ e) (hc : 2 ^ f.fractionBits ≤ K ∨ e = f.leastPlace) (hr : (e - f.leastPlace).toNat * f.binade + K < f.infRung) :
    f.read (f.word neg (rung f e K)) = .number neg K e := by
  have hB : f.binade = 2 ^ f.fractionBits := rfl
  have hsw : f.infRung < f.signWeight := by
    show (2 ^ f.exponentBits - 1) * 2 ^ f.fractionBits < 2 ^ (f.exponentBits + f.fractionBits)
    rw [Nat.pow_add]
    refine Nat.mul_lt_mul_of_pos_right ?_ (Nat.two_pow_pos _)
    have := Nat.two_pow_pos f.exponentBits
    omega
  have hru : rung f e K = (e - f.leastPlace).toNat * f.binade + K := by unfold rung; omega
  rw [hru]
  obtain ⟨r, hrr⟩ : ∃ r, r = (e - f.leastPlace).toNat * f.binade + K := ⟨_, rfl⟩
  rw [← hrr] at hr ⊢
  have hrs : r < f.signWeight := by omega
  have hneg : (f.word neg r / f.signWeight % 2 == 1) = neg := by
    cases neg
    · show (r / f.signWeight % 2 == 1) = false
      rw [Nat.div_eq_of_lt hrs]; rfl
    · show ((f.signWeight + r) / f.signWeight % 2 == 1) = true
      rw [Nat.add_div_left _ (by omega), Nat.div_eq_of_lt hrs]; rfl
  have hmod : f.word neg r % f.signWeight = r := by
    cases neg
    · exact Nat.mod_eq_of_lt hrs
    · show (f.signWeight + r) % f.signWeight = r
      rw [Nat.add_mod_left]; exact Nat.mod_eq_of_lt hrs
  unfold Ieee.Format.read
  simp only [hneg, hmod]
  have hB0 : 0 < f.binade := Nat.two_pow_pos _
  rcases Nat.lt_or_ge K f.binade with hlt | hge
  · obtain rfl : e = f.leastPlace := by
      rcases hc with h | h
      · rw [hB] at hlt; omega
      · exact h
    have hrK : r = K := by rw [hrr]; simp
    rw [hrK, if_pos hlt]
  · obtain ⟨k, rfl⟩ : ∃ k, K = f.binade + k := ⟨K - f.binade, by omega⟩
    have hk : k < f.binade := by rw [Nat.pow_succ, ← hB] at hK; omega
    have hre : r = k + f.binade * ((e - f.leastPlace).toNat + 1) := by rw [hrr, Nat.mul_add, Nat.mul_one, Nat.mul_comm]; omega
    have hge2 : f.binade ≤ r := by omega
    rw [if_neg (by omega), if_pos hr]
    rw [hre, Nat.add_mul_mod_self_left, Nat.mod_eq_of_lt hk, Nat.add_mul_div_left _ _ hB0, Nat.div_eq_of_lt hk]
    congr 1
    omega
theorem rung_carry (f : Ieee.Format) (e : Int) (he : f.leastPlace ≤ e) : rung f e (2 ^ (f.fractionBits + 1)) = rung f (e + 1) (2 ^ f.fractionBits) := by
  unfold rung
  rw [show f.binade = 2 ^ f.fractionBits from rfl, show (e + 1 - f.leastPlace).toNat = (e - f.leastPlace).toNat + 1 by omega, Nat.add_mul, Nat.pow_succ]
  congr 1
  omega
end Go.Proofs.YtfkogkcpndaoeaaGreat
namespace Go.Proofs.YtfkogkcpndaoeaaGreat
def SameVal (x : Nat) (e : Int) (y : Nat) (f : Int) : Prop := ∃ a b : Nat, x * 2 ^ a = y * 2 ^ b ∧ e - a = f - b
theorem SameVal.pos {x y : Nat} {e f : Int} (h : SameVal x e y f) (hx : 0 < x) : 0 < y := by
  obtain ⟨a, b, h1, h2⟩ := h
  rcases Nat.eq_zero_or_pos y with h0 | h0
  · subst h0
    have := Nat.mul_pos hx (Nat.two_pow_pos a)
    omega
  · exact h0
theorem SameVal.symm {x y : Nat} {e f : Int} (h : SameVal x e y f) : SameVal y f x e := by
  obtain ⟨a, b, h1, h2⟩ := h
  exact ⟨b, a, h1.symm, h2.symm⟩
theorem SameVal.refl (x : Nat) (e : Int) : SameVal x e x e := ⟨0, 0, rfl, rfl⟩
theorem SameVal.isVal {x y A D : Nat} {e f : Int} (h : SameVal x e y f) (hv : IsVal x e A D) : IsVal y f A D := by
  obtain ⟨a, b, h1, h2⟩ := h
  obtain ⟨u, v, k1, k2⟩ := hv
  refine ⟨u + b, v + a, ?_, by omega⟩
  calc y * D * 2 ^ (u + b) = (y * 2 ^ b) * (D * 2 ^ u) := by rw [Nat.pow_add]; ac_rfl
    _ = (x * 2 ^ a) * (D * 2 ^ u) := by rw [h1]
    _ = (x * D * 2 ^ u) * 2 ^ a := by ac_rfl
    _ = A * 2 ^ v * 2 ^ a := by rw [k1]
    _ = A * 2 ^ (v + a) := by rw [Nat.pow_add]; ac_rfl
theorem nearest_same (f : Ieee.Format) (neg : Bool) {x y : Nat} {e g : Int} (h : SameVal x e y g) : f.nearest neg x e = f.nearest neg y g := by
  rcases Nat.eq_zero_or_pos x with h0 | h0
  · subst h0
    obtain ⟨a, b, h1, h2⟩ := h
    have hy : y = 0 := by
      rcases Nat.eq_zero_or_pos y with h | h
      · exact h
      · have := Nat.mul_pos h (Nat.two_pow_pos b); omega
    subst hy
    unfold Ieee.Format.nearest
    simp
  · have hy := h.pos h0
    obtain ⟨e', K, hr, hn⟩ := nearest_rounds f neg x e h0
    rw [hn, nearest_of (Nat.two_pow_pos _) hy (h.isVal (isVal_self x e)) hr]
theorem lp_single : Ieee.single.leastPlace = -149 := by decide
theorem lp_double : Ieee.double.leastPlace = -1074 := by decide
theorem bin_single : Ieee.single.binade = 8388608 := by decide
theorem bin_double : Ieee.double.binade = 4503599627370496 := by decide
theorem inf_single : Ieee.single.infRung = 2139095040 := by decide
theorem p23 : 2 ^ Ieee.single.fractionBits = 8388608 := by decide
theorem p24 : 2 ^ (Ieee.single.fractionBits + 1) = 16777216 := by decide
theorem p52 : 2 ^ Ieee.double.fractionBits = 4503599627370496 := by decide
theorem p53 : 2 ^ (Ieee.double.fractionBits + 1) = 9007199254740992 := by decide
theorem word_true (f : Ieee.Format) (r : Nat) : f.word true r = f.signWeight + r := by unfold Ieee.Format.word; rw [if_pos rfl]
theorem word_false (f : Ieee.Format) (r : Nat) : f.word false r = r := by unfold Ieee.Format.word; rw [if_neg (by simp)]
theorem inf_double : Ieee.double.infRung = 9218868437227405312 := by decide
theorem double_read (neg : Bool) (K : Nat) (e : Int) (hK : 0 < K) (hK2 : K ≤ 16777216) (he : -149 ≤ e) (he2 : e ≤ 200) : ∃ x g, Ieee.double.read (Ieee.double.nearest neg K e) = .number neg x g ∧ SameVal K e x g ∧ Ieee.double.nearest neg K e < 18446744073709551616 := by
  obtain ⟨e', K', hr, hn⟩ := nearest_rounds Ieee.double neg K e hK
  obtain ⟨j, hj1, hj2⟩ : ∃ j : Nat, 2 ^ 52 ≤ K * 2 ^ j ∧ K * 2 ^ j < 2 ^ 53 := by
    refine ⟨52 - K.log2, ?_, ?_⟩
    · have h1 : 2 ^ K.log2 ≤ K := Nat.log2_self_le (by omega)
      have h2 : K.log2 ≤ 24 := by
        rcases Nat.lt_or_ge 24 K.log2 with h | h
        · have : 2 ^ 25 ≤ 2 ^ K.log2 := Nat.pow_le_pow_right (by omega) h
          omega
        · exact h
      calc 2 ^ 52 = 2 ^ (K.log2 + (52 - K.log2)) := by congr 1; omega
        _ = 2 ^ K.log2 * 2 ^ (52 - K.log2) := Nat.pow_add ..
        _ ≤ _ := Nat.mul_le_mul_right _ h1
    · have h1 : K < 2 ^ (K.log2 + 1) := Nat.lt_log2_self
      have h2 : K.log2 ≤ 24 := by
        rcases Nat.lt_or_ge 24 K.log2 with h | h
        · have h3 : 2 ^ K.log2 ≤ K := Nat.log2_self_le (by omega)
          have : 2 ^ 25 ≤ 2 ^ K.log2 := Nat.pow_le_pow_right (by omega) h
          omega
        · exact h
      calc K * 2 ^ (52 - K.log2) < 2 ^ (K.log2 + 1) * 2 ^ (52 - K.log2) := Nat.mul_lt_mul_of_pos_right h1 (Nat.two_pow_pos _)
        _ = 2 ^ (K.log2 + 1 + (52 - K.log2)) := (Nat.pow_add ..).symm
        _ = 2 ^ 53 := by congr 1; omega
  have hj53 : j < 53 := by
    rcases Nat.lt_or_ge j 53 with h | h
    · exact h
    · have h1 : 2 ^ 53 ≤ 2 ^ j := Nat.pow_le_pow_right (by omega) h
      have h2 : 1 * 2 ^ j ≤ K * 2 ^ j := Nat.mul_le_mul_right _ hK
      omega
  have hs : SameVal K e (K * 2 ^ j) (e - j) := ⟨j, 0, by simp, by omega⟩
  have hd := nearest_same Ieee.double neg hs
  obtain ⟨x, hx⟩ : ∃ x, x = K * 2 ^ j := ⟨_, rfl⟩
  rw [← hx] at hj1 hj2 hs hd
  have hw := nearest_digits Ieee.double neg (e - j) x (by rw [p53]; omega) (by rw [lp_double]; omega) (.inl (by rw [p52]; omega))
  have hru : ((e - j) - Ieee.double.leastPlace).toNat * Ieee.double.binade + x < Ieee.double.infRung := by
    rw [lp_double, bin_double, inf_double]
    omega
  refine ⟨x, e - j, ?_, hs, ?_⟩
  · rw [hd, hw]
    exact read_word Ieee.double neg (e - j) x (by rw [p53]; omega) (by rw [lp_double]; omega) (.inl (by rw [p52]; omega)) hru
  · exact Ieee.Format.nearest_lt Ieee.double neg K e
def w32 (neg : Bool) (e : Int) (K : Nat) : Nat := if K = 0 then 0 else Ieee.single.word neg (rung Ieee.single e K)
def w64 (neg : Bool) (e : Int) (K : Nat) : Nat := if K = 0 then 0 else if (e + 149).toNat * 8388608 + K < 2139095040 then Ieee.double.nearest neg K e else Ieee.double.word neg 9218868437227405312
theorem w64_narrow (neg : Bool) (e : Int) (K : Nat) (hK2 : K ≤ 16777216) (he : -149 ≤ e) (hc : 8388608 ≤ K ∨ e = -149) : floatToFloatBits .f64 (w64 neg e K) .f32 = some (w32 neg e K) := by
  unfold w64 w32
  by_cases h0 : K = 0
  · rw [if_pos h0, if_pos h0]
    decide
  · rw [if_neg h0, if_neg h0]
    have hw := nearest_digits Ieee.single neg e K (by rw [p24]; omega) (by rw [lp_single]; omega) (by rw [lp_single, p23]; exact hc)
    by_cases hf : (e + 149).toNat * 8388608 + K < 2139095040
    · rw [if_pos hf]
      obtain ⟨x, g, hr, hs, -⟩ := double_read neg K e (by omega) hK2 he (by omega)
      unfold floatToFloatBits
      rw [if_neg (by decide), show FloatKind.f64.decode (Ieee.double.nearest neg K e) = .number neg x g from hr]
      have h1 : FloatKind.f32.encode (.number neg x g) = Ieee.single.word neg (rung Ieee.single e K) := by
        show Ieee.single.nearest neg x g = _
        rw [← nearest_same Ieee.single neg hs, hw]
      simp only [h1]
      have h2 : ∃ y p, Ieee.single.read (Ieee.single.word neg (rung Ieee.single e K)) = .number neg y p := by
        rcases Nat.lt_or_ge K 16777216 with hlt | hge
        · exact ⟨_, _, read_word Ieee.single neg e K (by rw [p24]; exact hlt) (by rw [lp_single]; omega) (by rw [lp_single, p23]; exact hc) (by rw [lp_single, bin_single, inf_single, show (e - -149).toNat = (e + 149).toNat by omega]; exact hf)⟩
        · obtain rfl : K = 16777216 := by omega
          have hcr := rung_carry Ieee.single e (by rw [lp_single]; omega)
          rw [p24] at hcr
          rw [hcr]
          exact ⟨_, _, read_word Ieee.single neg (e + 1) (2 ^ Ieee.single.fractionBits) (by rw [p23, p24]; omega) (by rw [lp_single]; omega) (.inl (Nat.le_refl _)) (by rw [lp_single, bin_single, inf_single, p23, show (e + 1 - -149).toNat = (e + 149).toNat + 1 by omega]; omega)⟩
      obtain ⟨y, p, hy⟩ := h2
      rw [show FloatKind.f32.decode (Ieee.single.word neg (rung Ieee.single e K)) = .number neg y p from hy]
      rfl
    · rw [if_neg hf]
      have h1 : rung Ieee.single e K = 2139095040 := by
        unfold rung
        rw [lp_single, bin_single, inf_single]
        omega
      rw [h1]
      cases neg <;> decide
theorem double_neg (e : Int) (K : Nat) (hK : 0 < K) : Ieee.double.nearest true K e = Ieee.double.signWeight + Ieee.double.nearest false K e := by
  obtain ⟨e', K', hr, hn⟩ := nearest_rounds Ieee.double true K e hK
  have hn2 := nearest_of (f := Ieee.double) (neg := false) (Nat.two_pow_pos _) hK (isVal_self K e) hr
  rw [hn, hn2, word_true, word_false]
end Go.Proofs.YtfkogkcpndaoeaaGreat
