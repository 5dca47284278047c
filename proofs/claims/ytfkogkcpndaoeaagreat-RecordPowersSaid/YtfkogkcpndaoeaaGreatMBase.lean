/- Plain facts on numbers in words of 32 bits. Conditions: none. What it means that a slice reads as a list, or as a natural number in words of 32 bits. Conditions: none. -/
import Derived.Test.YtfkogkcpndaoeaaGreatProg
import Derived.WalkKit
import Derived.WalkLawsBesides
import Derived.WalkSpells
import Derived.Lib.Hide
import Derived.Laws.IdiomCopy
import Derived.Laws.CopyOwn
import Derived.BigQuiet
import Derived.Deep.QuietTactic
import Derived.ProofKit
set_option linter.all false
namespace Go.Proofs.YtfkogkcpndaoeaaGreat
def nval : List Nat → Nat
  | [] => 0
  | d :: r => d + 4294967296 * nval r
def Words (xs : List Nat) : Prop := ∀ d ∈ xs, d < 4294967296
def Norm (xs : List Nat) : Prop := xs.getLast? ≠ some 0
theorem nval_append (xs ys : List Nat) : nval (xs ++ ys) = nval xs + 4294967296 ^ xs.length * nval ys := by
  induction xs with
  | nil => simp [nval]
  | cons d r ih => simp only [List.cons_append, nval, ih, List.length_cons, Nat.pow_succ]; grind
theorem nval_zeros (n : Nat) : nval (List.replicate n 0) = 0 := by
  induction n with
  | zero => rfl
  | succ n ih => simp [List.replicate_succ, nval, ih]
theorem nval_lt {xs : List Nat} (h : Words xs) : nval xs < 4294967296 ^ xs.length := by
  induction xs with
  | nil => simp [nval]
  | cons d r ih =>
    have h1 := h d (by simp)
    have h2 := ih (fun x hx => h x (by simp [hx]))
    simp only [nval, List.length_cons, Nat.pow_succ]
    omega
theorem nval_take_zero {xs : List Nat} {n : Nat} (h : xs[n]? = some 0) : nval (xs.take (n + 1)) = nval (xs.take n) := by
  rw [List.take_add_one, h, nval_append]; simp [nval]
theorem Words.take {xs : List Nat} (h : Words xs) (n : Nat) : Words (xs.take n) := fun d hd => h d (List.mem_of_mem_take hd)
theorem Words.drop {xs : List Nat} (h : Words xs) (n : Nat) : Words (xs.drop n) := fun d hd => h d (List.mem_of_mem_drop hd)
theorem Words.get {xs : List Nat} (h : Words xs) (i : Nat) (hi : i < xs.length) : xs[i] < 4294967296 := h _ (List.getElem_mem hi)
theorem Words.set {xs : List Nat} (h : Words xs) {x : Nat} (hx : x < 4294967296) (i : Nat) : Words (xs.set i x) := fun d hd => by
  rcases List.mem_or_eq_of_mem_set hd with h' | rfl
  · exact h d h'
  · exact hx
theorem words_replicate (n : Nat) : Words (List.replicate n 0) := fun d hd => by rw [(List.mem_replicate.1 hd).2]; omega
theorem nval_split {xs : List Nat} {i x : Nat} (h : xs[i]? = some x) : nval xs = nval (xs.take i) + 4294967296 ^ i * (x + 4294967296 * nval (xs.drop (i + 1))) := by
  obtain ⟨hi, rfl⟩ := List.getElem?_eq_some_iff.1 h
  conv => lhs; rw [← List.take_append_drop i xs]
  rw [nval_append, List.length_take, Nat.min_eq_left (by omega), List.drop_eq_getElem_cons hi]
  rfl
theorem nval_ge {xs : List Nat} (h : Norm xs) {k : Nat} (hk : k < xs.length) : 4294967296 ^ k ≤ nval xs := by
  have hl : xs[xs.length - 1]? = some xs[xs.length - 1] := List.getElem?_eq_getElem (by omega)
  have h0 : xs[xs.length - 1] ≠ 0 := by
    intro e
    apply h
    rw [List.getLast?_eq_getElem?, hl, e]
  rw [nval_split hl]
  have h1 : 4294967296 ^ k ≤ 4294967296 ^ (xs.length - 1) := Nat.pow_le_pow_right (by omega) (by omega)
  have h2 : 4294967296 ^ (xs.length - 1) * 1 ≤ 4294967296 ^ (xs.length - 1) * (xs[xs.length - 1] + 4294967296 * nval (xs.drop (xs.length - 1 + 1))) :=
    Nat.mul_le_mul_left _ (by omega)
  omega
theorem nval_zero {xs : List Nat} (h : Norm xs) (h0 : nval xs = 0) : xs = [] := by
  cases xs with
  | nil => rfl
  | cons d r => have := nval_ge h (k := 0) (by simp); simp at this; omega
theorem Norm.nil : Norm [] := by simp [Norm]
theorem len_lt {xs ys : List Nat} (hx : Words xs) (hy : Norm ys) (h : xs.length < ys.length) : nval xs < nval ys := by
  have h1 := nval_lt hx
  have h2 := nval_ge hy h
  omega
theorem nval_inj {xs ys : List Nat} (hx : Words xs) (hy : Words ys) (hl : xs.length = ys.length) (h : nval xs = nval ys) : xs = ys := by
  induction xs generalizing ys with
  | nil => exact (List.eq_nil_of_length_eq_zero (by simpa using hl.symm)).symm
  | cons d r ih =>
    cases ys with
    | nil => simp at hl
    | cons e s =>
      have h1 := hx d (by simp)
      have h2 := hy e (by simp)
      simp only [nval] at h
      have h3 : d = e := by omega
      have h4 : nval r = nval s := by omega
      rw [h3, ih (fun x hx' => hx x (by simp [hx'])) (fun x hx' => hy x (by simp [hx'])) (by simpa using hl) h4]
theorem norm_inj {xs ys : List Nat} (hx : Words xs) (hy : Words ys) (nx : Norm xs) (ny : Norm ys) (h : nval xs = nval ys) : xs = ys := by
  refine nval_inj hx hy ?_ h
  rcases Nat.lt_trichotomy xs.length ys.length with h1 | h1 | h1
  · have := len_lt hx ny h1; omega
  · exact h1
  · have := len_lt hy nx h1; omega
theorem nval_lt_at {xs ys : List Nat} (hx : Words xs) {i x y : Nat} (h1 : xs[i]? = some x) (h2 : ys[i]? = some y) (he : xs.drop (i + 1) = ys.drop (i + 1)) (hlt : x < y) : nval xs < nval ys := by
  rw [nval_split h1, nval_split h2, he]
  have a1 := nval_lt (hx.take i)
  have hi := (List.getElem?_eq_some_iff.1 h1).1
  rw [List.length_take, Nat.min_eq_left (by omega)] at a1
  have a2 : 4294967296 ^ i * (x + 1 + 4294967296 * nval (ys.drop (i + 1))) ≤ 4294967296 ^ i * (y + 4294967296 * nval (ys.drop (i + 1))) := Nat.mul_le_mul_left _ (by omega)
  have a3 : 4294967296 ^ i * (x + 1 + 4294967296 * nval (ys.drop (i + 1))) = 4294967296 ^ i * (x + 4294967296 * nval (ys.drop (i + 1))) + 4294967296 ^ i := by grind
  omega
theorem drop_eq {xs ys : List Nat} {i x : Nat} (h1 : xs[i]? = some x) (h2 : ys[i]? = some x) (he : xs.drop (i + 1) = ys.drop (i + 1)) : xs.drop i = ys.drop i := by
  obtain ⟨a, rfl⟩ := List.getElem?_eq_some_iff.1 h1
  obtain ⟨b, hb⟩ := List.getElem?_eq_some_iff.1 h2
  rw [List.drop_eq_getElem_cons a, List.drop_eq_getElem_cons b, he, hb]
theorem take_step {xs : List Nat} {k x : Nat} (h : xs[k]? = some x) : nval (xs.take (k + 1)) = nval (xs.take k) + 4294967296 ^ k * x := by
  have hk := (List.getElem?_eq_some_iff.1 h).1
  rw [List.take_add_one, h, nval_append, List.length_take, Nat.min_eq_left (by omega)]; simp [nval]
theorem take_over {xs : List Nat} {k : Nat} (h : xs.length ≤ k) : nval (xs.take (k + 1)) = nval (xs.take k) + 4294967296 ^ k * 0 := by
  rw [List.take_of_length_le (by omega), List.take_of_length_le h]; omega
theorem set_step {zs : List Nat} {k : Nat} (x : Nat) (h : k < zs.length) : nval ((zs.set k x).take (k + 1)) = nval (zs.take k) + 4294967296 ^ k * x := by
  rw [take_step (x := x) (by simp [h]), List.take_set_of_le (Nat.le_refl _)]
theorem nval_full {xs : List Nat} {n : Nat} (h : xs.length = n) : nval (xs.take n) = nval xs := by rw [List.take_of_length_le (by omega)]
theorem len_of_lt {xs : List Nat} (hn : Norm xs) {k : Nat} (h : nval xs < 2 ^ k) : 32 * xs.length ≤ k + 32 := by
  rcases Nat.eq_zero_or_pos xs.length with h0 | h0
  · omega
  · have h1 := nval_ge hn (k := xs.length - 1) (by omega)
    have h2 : (4294967296 : Nat) ^ (xs.length - 1) = 2 ^ (32 * (xs.length - 1)) := by rw [Nat.pow_mul]
    rw [h2] at h1
    have h3 := (Nat.pow_lt_pow_iff_right (a := 2) (by omega)).1 (Nat.lt_of_le_of_lt h1 h)
    omega
theorem add_step {a b c x y s c' A B P : Nat} (h : A + P * c = a + b) (hs : s + 4294967296 * c' = x + y + c) (hP : B = P * 4294967296) : A + P * s + B * c' = a + P * x + (b + P * y) := by
  subst hP; grind
theorem sub_step {a b c x y s c' A B P : Nat} (h : A + b = a + P * c) (hs : s + y + c = x + 4294967296 * c') (hP : B = P * 4294967296) : (A + P * s) + (b + P * y) = a + P * x + B * c' := by
  subst hP; grind
theorem set_total {zs : List Nat} {i n z : Nat} (s : Nat) (h : zs[i]? = some z) (hin : i < n) (hn : n ≤ zs.length) : nval ((zs.set i s).take n) + 4294967296 ^ i * z = nval (zs.take n) + 4294967296 ^ i * s := by
  have h1 : (zs.take n)[i]? = some z := by rw [List.getElem?_take, if_pos hin]; exact h
  have h2 : ((zs.set i s).take n)[i]? = some s := by rw [List.getElem?_take, if_pos hin, List.getElem?_set_self (by omega)]
  rw [nval_split h1, nval_split h2]
  have e1 : ((zs.set i s).take n).take i = (zs.take n).take i := by
    rw [List.take_take, List.take_take, Nat.min_eq_left (by omega), List.take_set_of_le (Nat.le_refl _)]
  have e2 : ((zs.set i s).take n).drop (i + 1) = (zs.take n).drop (i + 1) := by
    rw [List.drop_take, List.drop_take, List.drop_set_of_lt (by omega)]
  rw [e1, e2]
  grind
theorem mul_step {T T' X Y a y z c s d Pk Pj Pkj Q V : Nat} (h : T + Pkj * c = X * Y + Pk * (a * V)) (ht : T' + Pkj * z = T + Pkj * s) (hs : s + 4294967296 * d = c + (a * y + z)) (hP : Pkj = Pk * Pj) (hQ : Q = Pkj * 4294967296) :
    T' + Q * d = X * Y + Pk * (a * (V + Pj * y)) := by
  subst hP hQ
  have h1 : Pk * Pj * (s + 4294967296 * d) = Pk * Pj * (c + (a * y + z)) := by rw [hs]
  grind
theorem mul_row {T X Y a c P Q : Nat} (h : T + Q * c = X * Y + P * (a * Y)) : T + Q * c = (X + P * a) * Y := by grind
theorem mul_lt {x y : Nat} (hx : x < 4294967296) (hy : y < 4294967296) : x * y ≤ 18446744065119617025 :=
  Nat.mul_le_mul (show x ≤ 4294967295 by omega) (show y ≤ 4294967295 by omega)
theorem or_low {x r z : Nat} (hr : r ≤ 31) (hz : z < 2 ^ r) : z ||| (x * 2 ^ r % 4294967296) = z + x * 2 ^ r % 4294967296 := by
  have e : x * 2 ^ r % 4294967296 = 2 ^ r * (x % 2 ^ (32 - r)) := by
    rw [show (4294967296 : Nat) = 2 ^ r * 2 ^ (32 - r) from by rw [← Nat.pow_add, show r + (32 - r) = 32 from by omega], Nat.mul_comm x, Nat.mul_mod_mul_left]
  rw [e, Nat.or_comm, ← Nat.two_pow_add_eq_or_of_lt hz, Nat.add_comm]
theorem shl_bound {x r : Nat} (hx : x < 4294967296) (hr : r ≤ 31) : x * 2 ^ r < 9223372036854775808 ∧ x * 2 ^ r / 4294967296 < 2 ^ r := by
  have h1 : 2 ^ r ≤ 2 ^ 31 := Nat.pow_le_pow_right (by omega) hr
  have h2 : x * 2 ^ r ≤ x * 2 ^ 31 := Nat.mul_le_mul_left _ h1
  have h3 : 0 < 2 ^ r := Nat.pow_pos (by omega)
  refine ⟨by omega, Nat.div_lt_of_lt_mul ?_⟩
  exact Nat.mul_lt_mul_of_pos_right hx h3
theorem pow_split (q r : Nat) : 2 ^ (32 * q + r) = 4294967296 ^ q * 2 ^ r := by
  rw [Nat.pow_add, Nat.pow_mul]
theorem shl_step {T T0 z V L H X x Ps Pr Pk Pkq Pq : Nat} (h : T0 + Pkq * z = X * Ps) (hv : L + 4294967296 * H = V) (hV : V = x * Pr) (hs : Ps = Pq * Pr) (hP : Pkq = Pk * Pq) (hT : T = T0 + Pkq * (z + L) + (Pkq * 4294967296) * H) :
    T = (X + Pk * x) * Ps := by
  subst hT hV hs hP
  have h2 : Pk * Pq * (L + 4294967296 * H) = Pk * Pq * (x * Pr) := by rw [hv]
  grind
theorem nval_drop {xs : List Nat} (h : Words xs) (k : Nat) : nval xs / 4294967296 ^ k = nval (xs.drop k) := by
  have hp : 0 < 4294967296 ^ k := Nat.pow_pos (by omega)
  rcases Nat.lt_or_ge xs.length k with hk | hk
  · rw [List.drop_of_length_le (by omega)]
    have h1 := nval_lt h
    have h2 : 4294967296 ^ xs.length ≤ 4294967296 ^ k := Nat.pow_le_pow_right (by omega) (by omega)
    exact Nat.div_eq_of_lt (by omega)
  · conv => lhs; rw [← List.take_append_drop k xs]
    rw [nval_append, List.length_take, Nat.min_eq_left hk, Nat.add_mul_div_left _ _ hp]
    have h1 := nval_lt (h.take k)
    rw [List.length_take, Nat.min_eq_left hk] at h1
    rw [Nat.div_eq_of_lt h1, Nat.zero_add]
theorem shr_digit {N k a M r : Nat} (hr : r ≤ 31) (h : N / 4294967296 ^ k = a + 4294967296 * 4294967296 * M) : N / 2 ^ r / 4294967296 ^ k % 4294967296 = a / 2 ^ r % 4294967296 := by
  have hp : 0 < 2 ^ r := Nat.pow_pos (by omega)
  rw [Nat.div_div_eq_div_mul, Nat.mul_comm, ← Nat.div_div_eq_div_mul, h]
  have e : 4294967296 * 4294967296 * M = 2 ^ r * (4294967296 * (2 ^ (32 - r) * M)) := by
    have : (4294967296 : Nat) = 2 ^ r * 2 ^ (32 - r) := by rw [← Nat.pow_add, show r + (32 - r) = 32 from by omega]
    grind
  rw [e, Nat.add_mul_div_left _ _ hp, Nat.add_mul_mod_self_left]
theorem mod_step (N k : Nat) : N % 4294967296 ^ (k + 1) = N % 4294967296 ^ k + 4294967296 ^ k * (N / 4294967296 ^ k % 4294967296) := by
  rw [Nat.pow_succ, Nat.mod_mul]
theorem shr_total {xs : List Nat} (h : Words xs) (q r : Nat) : nval xs / 2 ^ (32 * q + r) = nval (xs.drop q) / 2 ^ r := by
  rw [pow_split, ← Nat.div_div_eq_div_mul, nval_drop h]
theorem div_step {Z X R R' x y q Bk : Nat} (h : Z * y + R = X) (hq : q * y + R' = Bk * R + x) : (q + Bk * Z) * y + R' = x + Bk * X := by
  subst h
  have : Bk * (Z * y + R) = Bk * Z * y + Bk * R := by grind
  grind
theorem drop_step {xs : List Nat} {k x : Nat} (h : xs[k]? = some x) : nval (xs.drop k) = x + 4294967296 * nval (xs.drop (k + 1)) := by
  obtain ⟨hi, rfl⟩ := List.getElem?_eq_some_iff.1 h
  rw [List.drop_eq_getElem_cons hi]; rfl
theorem drop_set {zs : List Nat} {k : Nat} (x : Nat) (h : k < zs.length) : nval ((zs.set k x).drop k) = x + 4294967296 * nval (zs.drop (k + 1)) := by
  rw [drop_step (x := x) (List.getElem?_set_self h), List.drop_set_of_lt (by omega)]
theorem set_whole {zs : List Nat} {i z : Nat} (s : Nat) (h : zs[i]? = some z) : nval (zs.set i s) + 4294967296 ^ i * z = nval zs + 4294967296 ^ i * s := by
  have hi := (List.getElem?_eq_some_iff.1 h).1
  have := set_total (n := zs.length) s h hi (Nat.le_refl _)
  rwa [List.take_of_length_le (by simp), List.take_of_length_le (by simp)] at this
theorem take_round {N N' N0 Pj Pi Pji q V x z lo hi b b' c s Q : Nat} (h : N + Pj * (q * V) = N0 + Pji * (c + b)) (hN : N' + Pji * z = N + Pji * s) (hp : lo + 4294967296 * hi = q * x + c) (hs : s + lo + b = z + 4294967296 * b') (hP : Pji = Pj * Pi) (hQ : Q = Pji * 4294967296) :
    N' + Pj * (q * (V + Pi * x)) = N0 + Q * (hi + b') := by
  subst hP hQ
  have e1 : Pj * Pi * (lo + 4294967296 * hi) = Pj * Pi * (q * x + c) := by rw [hp]
  have e2 : Pj * Pi * (s + lo + b) = Pj * Pi * (z + 4294967296 * b') := by rw [hs]
  grind
theorem take_last {N N' N0 Pj Pji q V z b b' c s Q : Nat} (h : N + Pj * (q * V) = N0 + Pji * (c + b)) (hN : N' + Pji * z = N + Pji * s) (hs : s + c + b = z + 4294967296 * b') (hQ : Q = Pji * 4294967296) :
    N' + Pj * (q * V) = N0 + Q * b' := by
  subst hQ
  have e2 : Pji * (s + c + b) = Pji * (z + 4294967296 * b') := by rw [hs]
  grind
theorem back_round {N N' N0 Pj Pi Pji V x z c c' s Q : Nat} (h : N + Pji * c = N0 + Pj * V) (hN : N' + Pji * z = N + Pji * s) (hs : s + 4294967296 * c' = c + (z + x)) (hP : Pji = Pj * Pi) (hQ : Q = Pji * 4294967296) :
    N' + Q * c' = N0 + Pj * (V + Pi * x) := by
  subst hP hQ
  have e1 : Pj * Pi * (s + 4294967296 * c') = Pj * Pi * (c + (z + x)) := by rw [hs]
  grind
theorem back_last {N N' N0 Pj Pji V z c o s Q : Nat} (h : N + Pji * c = N0 + Pj * V) (hN : N' + Pji * z = N + Pji * s) (hs : s + 4294967296 * o = z + c) (hQ : Q = Pji * 4294967296) :
    N' + Q * o = N0 + Pj * V := by
  subst hQ
  have e1 : Pji * (s + 4294967296 * o) = Pji * (z + c) := by rw [hs]
  grind
/-! The digit of a long division (Knuth's D): W the divisor, N the rest, D the weight of the third word. -/
theorem knuth_start {v1 v0 top u0 N W D g r : Nat} (hV : (v1 * 4294967296 + v0) * D ≤ W) (hU : N < (top * 4294967296 + u0 + 1) * D) (hu0 : u0 < 4294967296) (hg : g * v1 + r = top) (hr : r < v1) : N < (g + 1) * W := by
  have h1 : (g + 1) * ((v1 * 4294967296 + v0) * D) ≤ (g + 1) * W := Nat.mul_le_mul_left _ hV
  have h2 : (top + 1) * 4294967296 ≤ (g + 1) * (v1 * 4294967296 + v0) := by
    have : top + 1 ≤ (g + 1) * v1 := by rw [Nat.add_mul]; omega
    have h3 : (top + 1) * 4294967296 ≤ (g + 1) * v1 * 4294967296 := Nat.mul_le_mul_right _ this
    have h4 : (g + 1) * (v1 * 4294967296 + v0) = (g + 1) * (v1 * 4294967296) + (g + 1) * v0 := Nat.mul_add ..
    have h5 : (g + 1) * (v1 * 4294967296) = (g + 1) * v1 * 4294967296 := by rw [Nat.mul_assoc]
    omega
  have h3 : (top * 4294967296 + u0 + 1) * D ≤ (g + 1) * (v1 * 4294967296 + v0) * D := Nat.mul_le_mul_right _ (by omega)
  have h4 : (g + 1) * (v1 * 4294967296 + v0) * D = (g + 1) * ((v1 * 4294967296 + v0) * D) := Nat.mul_assoc ..
  omega
theorem knuth_down {v1 v0 top u0 N W D g r : Nat} (hV : (v1 * 4294967296 + v0) * D ≤ W) (hU : N < (top * 4294967296 + u0 + 1) * D) (hg : g * v1 + r = top) (hN : N < 4294967296 * W) (ht : 4294967296 ≤ g ∨ r * 4294967296 + u0 < g * v0) : N < g * W := by
  rcases ht with ht | ht
  · have h1 : 4294967296 * W ≤ g * W := Nat.mul_le_mul_right W ht
    omega
  · have h1 : g * ((v1 * 4294967296 + v0) * D) ≤ g * W := Nat.mul_le_mul_left _ hV
    have h2 : top * 4294967296 + u0 + 1 ≤ g * (v1 * 4294967296 + v0) := by
      have a : g * (v1 * 4294967296 + v0) = g * (v1 * 4294967296) + g * v0 := Nat.mul_add ..
      have b : (g * v1 + r) * 4294967296 = g * (v1 * 4294967296) + r * 4294967296 := by rw [Nat.add_mul, Nat.mul_assoc]
      rw [hg] at b
      omega
    have h3 : (top * 4294967296 + u0 + 1) * D ≤ g * (v1 * 4294967296 + v0) * D := Nat.mul_le_mul_right _ h2
    have h4 : g * (v1 * 4294967296 + v0) * D = g * ((v1 * 4294967296 + v0) * D) := Nat.mul_assoc ..
    omega
theorem knuth_end {v1 v0 top u0 N W D g r : Nat} (hV' : W < (v1 * 4294967296 + v0 + 1) * D) (hU' : (top * 4294967296 + u0) * D ≤ N) (hg : (g + 1) * v1 + r = top) (hgb : g + 1 < 4294967296) (hv1 : 2147483648 ≤ v1) (hv0 : v0 < 4294967296)
    (ht : 4294967296 ≤ r ∨ (g + 1) * v0 ≤ r * 4294967296 + u0) : g * W ≤ N := by
  have hGV : (g + 1) * (v1 * 4294967296 + v0) ≤ top * 4294967296 + u0 := by
    have a : (g + 1) * (v1 * 4294967296 + v0) = (g + 1) * (v1 * 4294967296) + (g + 1) * v0 := Nat.mul_add ..
    have b : ((g + 1) * v1 + r) * 4294967296 = (g + 1) * (v1 * 4294967296) + r * 4294967296 := by rw [Nat.add_mul, Nat.mul_assoc]
    rw [hg] at b
    rcases ht with ht | ht
    · have h1 : (g + 1) * v0 ≤ 4294967295 * 4294967295 := Nat.mul_le_mul (by omega) (by omega)
      have h2 : 4294967296 * 4294967296 ≤ r * 4294967296 := Nat.mul_le_mul_right _ ht
      omega
    · omega
  have h1 : g * W ≤ g * ((v1 * 4294967296 + v0 + 1) * D) := Nat.mul_le_mul_left _ (by omega)
  have h2 : g * (v1 * 4294967296 + v0 + 1) ≤ top * 4294967296 + u0 := by
    have e : (g + 1) * (v1 * 4294967296 + v0) = g * (v1 * 4294967296 + v0) + (v1 * 4294967296 + v0) := by rw [Nat.add_mul, Nat.one_mul]
    rw [Nat.mul_add]
    omega
  have h3 : g * (v1 * 4294967296 + v0 + 1) * D ≤ (top * 4294967296 + u0) * D := Nat.mul_le_mul_right _ h2
  have h4 : g * (v1 * 4294967296 + v0 + 1) * D = g * ((v1 * 4294967296 + v0 + 1) * D) := Nat.mul_assoc ..
  omega
theorem knuth_small {v1 top g r u r' : Nat} (hg : g * v1 + r = top) (htop : top = u * 4294967296 + r') (hr' : r' < 4294967296) (hu : u ≤ v1) (hr : 4294967296 ≤ r) : g < 4294967296 := by
  rcases Nat.lt_or_ge g 4294967296 with h | h
  · exact h
  · have h1 : 4294967296 * v1 ≤ g * v1 := Nat.mul_le_mul_right _ h
    omega
structure KC (v1 v0 top z0 N W D z2 z1 : Nat) : Prop where
  vlo : (v1 * 4294967296 + v0) * D ≤ W
  vhi : W < (v1 * 4294967296 + v0 + 1) * D
  ulo : (top * 4294967296 + z0) * D ≤ N
  uhi : N < (top * 4294967296 + z0 + 1) * D
  small : N < 4294967296 * W
  v0b : v0 < 4294967296
  v1b : v1 < 4294967296
  v1g : 2147483648 ≤ v1
  z0b : z0 < 4294967296
  z1b : z1 < 4294967296
  z2l : z2 ≤ v1
  tope : top = z2 * 4294967296 + z1
structure KN (v1 top N W g r : Nat) : Prop where
  e : g * v1 + r = top
  hi : N < (g + 1) * W
  rb : r < 4294967296
  gb : g < 8589934592
structure KO (N W g : Nat) : Prop where
  gb : g < 4294967296
  hi : N < (g + 1) * W
  lo : g * W ≤ N + W
theorem KC.start {v1 v0 top z0 N W D z2 z1 g r : Nat} (c : KC v1 v0 top z0 N W D z2 z1) (hg : g * v1 + r = top) (hr : r < v1) : KN v1 top N W g r := by
  refine ⟨hg, knuth_start c.vlo c.uhi c.z0b hg hr, by have := c.v1b; omega, ?_⟩
  rcases Nat.lt_or_ge g 8589934592 with h | h
  · exact h
  · have h1 := Nat.mul_le_mul h c.v1g
    have := c.tope; have := c.z2l; have := c.z1b; have := c.v1b
    omega
theorem KC.down {v1 v0 top z0 N W D z2 z1 g r : Nat} (c : KC v1 v0 top z0 N W D z2 z1) (h : KN v1 top N W g r) (ht : 4294967296 ≤ g ∨ r * 4294967296 + z0 < g * v0) :
    1 ≤ g ∧ (r + v1 < 4294967296 → KN v1 top N W (g - 1) (r + v1)) ∧ (4294967296 ≤ r + v1 → KO N W (g - 1)) := by
  have h1 : 1 ≤ g := by
    rcases Nat.eq_zero_or_pos g with h0 | h0
    · subst h0; simp at ht
    · exact h0
  obtain ⟨g', rfl⟩ : ∃ g', g = g' + 1 := ⟨g - 1, by omega⟩
  have hd := knuth_down c.vlo c.uhi h.e c.small ht
  have he : g' * v1 + (r + v1) = top := by have := h.e; rw [Nat.add_mul] at this; omega
  refine ⟨h1, fun hr => ⟨he, hd, hr, by have := h.gb; omega⟩, fun hr => ?_⟩
  have hgb : g' < 4294967296 := knuth_small he c.tope c.z1b c.z2l hr
  refine ⟨hgb, hd, ?_⟩
  rw [Nat.add_sub_cancel]
  rcases Nat.eq_zero_or_pos g' with h0 | h0
  · subst h0; omega
  · obtain ⟨k, rfl⟩ : ∃ k, g' = k + 1 := ⟨g' - 1, by omega⟩
    have := knuth_end c.vhi c.ulo he hgb c.v1g c.v0b (.inl hr)
    rw [Nat.add_mul]; omega
theorem KC.stop {v1 v0 top z0 N W D z2 z1 g r : Nat} (c : KC v1 v0 top z0 N W D z2 z1) (h : KN v1 top N W g r) (hg : g < 4294967296) (ht : g * v0 ≤ r * 4294967296 + z0) : KO N W g := by
  refine ⟨hg, h.hi, ?_⟩
  rcases Nat.eq_zero_or_pos g with h0 | h0
  · subst h0; omega
  · obtain ⟨k, rfl⟩ : ∃ k, g = k + 1 := ⟨g - 1, by omega⟩
    have := knuth_end c.vhi c.ulo h.e hg c.v1g c.v0b (.inr ht)
    rw [Nat.add_mul]; omega
theorem div_bounds {N D q : Nat} (hD : 0 < D) (h : N / D = q) : q * D ≤ N ∧ N < (q + 1) * D := by
  subst h
  refine ⟨Nat.div_mul_le_self N D, ?_⟩
  have := Nat.lt_mul_div_succ N hD
  rw [Nat.mul_comm] at this
  exact this
theorem top2 {xs : List Nat} (w : Words xs) {p : Nat} (hp : p + 1 < xs.length) (hlt : nval xs < 4294967296 ^ (p + 2)) :
    ∃ a b, xs[p + 1]? = some a ∧ xs[p]? = some b ∧ a < 4294967296 ∧ b < 4294967296 ∧ (a * 4294967296 + b) * 4294967296 ^ p ≤ nval xs ∧ nval xs < (a * 4294967296 + b + 1) * 4294967296 ^ p := by
  have h1 : xs[p + 1]? = some xs[p + 1] := List.getElem?_eq_getElem hp
  have h2 : xs[p]? = some xs[p] := List.getElem?_eq_getElem (by omega)
  have e := nval_drop w p
  have z := nval_drop w (p + 2)
  rw [Nat.div_eq_of_lt hlt] at z
  rw [drop_step h2, drop_step h1, ← z] at e
  have hb := div_bounds (Nat.pow_pos (by omega)) e
  refine ⟨_, _, h1, h2, w.get _ _, w.get _ _, ?_, ?_⟩
  · have : xs[p + 1] * 4294967296 + xs[p] = xs[p] + 4294967296 * (xs[p + 1] + 4294967296 * 0) := by omega
    rw [this]; exact hb.1
  · have : xs[p + 1] * 4294967296 + xs[p] + 1 = xs[p] + 4294967296 * (xs[p + 1] + 4294967296 * 0) + 1 := by omega
    rw [this]; exact hb.2
theorem top3 {xs : List Nat} (w : Words xs) {p : Nat} (hp : p + 2 < xs.length) (hlt : nval xs < 4294967296 ^ (p + 3)) :
    ∃ a b c, xs[p + 2]? = some a ∧ xs[p + 1]? = some b ∧ xs[p]? = some c ∧ a < 4294967296 ∧ b < 4294967296 ∧ c < 4294967296 ∧
      ((a * 4294967296 + b) * 4294967296 + c) * 4294967296 ^ p ≤ nval xs ∧ nval xs < ((a * 4294967296 + b) * 4294967296 + c + 1) * 4294967296 ^ p := by
  have h0 : xs[p + 2]? = some xs[p + 2] := List.getElem?_eq_getElem hp
  have h1 : xs[p + 1]? = some xs[p + 1] := List.getElem?_eq_getElem (by omega)
  have h2 : xs[p]? = some xs[p] := List.getElem?_eq_getElem (by omega)
  have e := nval_drop w p
  have z := nval_drop w (p + 3)
  rw [Nat.div_eq_of_lt hlt] at z
  rw [drop_step h2, drop_step h1, drop_step h0, ← z] at e
  have hb := div_bounds (Nat.pow_pos (by omega)) e
  refine ⟨_, _, _, h0, h1, h2, w.get _ _, w.get _ _, w.get _ _, ?_, ?_⟩
  · have : (xs[p + 2] * 4294967296 + xs[p + 1]) * 4294967296 + xs[p] = xs[p] + 4294967296 * (xs[p + 1] + 4294967296 * (xs[p + 2] + 4294967296 * 0)) := by omega
    rw [this]; exact hb.1
  · have : (xs[p + 2] * 4294967296 + xs[p + 1]) * 4294967296 + xs[p] + 1 = xs[p] + 4294967296 * (xs[p + 1] + 4294967296 * (xs[p + 2] + 4294967296 * 0)) + 1 := by omega
    rw [this]; exact hb.2
theorem shift_up {ys : List Nat} {p d bl s : Nat} (hl : ys.length = p + 1) (w : Words ys) (hd : ys[p]? = some d) (hb0 : 1 ≤ bl) (hb1 : 2 ^ (bl - 1) ≤ d) (hb2 : d < 2 ^ bl) (hbl : bl ≤ 32) (hs : s = 32 - bl) :
    2147483648 * 4294967296 ^ p ≤ nval ys * 2 ^ s ∧ nval ys * 2 ^ s < 4294967296 ^ (p + 1) := by
  have e := take_step hd
  rw [nval_full hl] at e
  have h1 := nval_lt (w.take p)
  rw [List.length_take, Nat.min_eq_left (by omega)] at h1
  have p1 : (2 : Nat) ^ (bl - 1) * 2 ^ s = 2147483648 := by rw [← Nat.pow_add, show bl - 1 + s = 31 from by omega]
  have p2 : (2 : Nat) ^ bl * 2 ^ s = 4294967296 := by rw [← Nat.pow_add, show bl + s = 32 from by omega]
  have p3 : 0 < 2 ^ s := Nat.pow_pos (by omega)
  constructor
  · have a1 : 2 ^ (bl - 1) * 2 ^ s ≤ d * 2 ^ s := Nat.mul_le_mul_right _ hb1
    rw [p1] at a1
    have a2 : 2147483648 * 4294967296 ^ p ≤ d * 2 ^ s * 4294967296 ^ p := Nat.mul_le_mul_right _ a1
    have a3 : 4294967296 ^ p * d * 2 ^ s ≤ nval ys * 2 ^ s := Nat.mul_le_mul_right _ (by omega)
    have a4 : d * 2 ^ s * 4294967296 ^ p = 4294967296 ^ p * d * 2 ^ s := by grind
    omega
  · have a1 : nval ys < 4294967296 ^ p * (d + 1) := by rw [Nat.mul_add]; omega
    have a2 : 4294967296 ^ p * (d + 1) ≤ 4294967296 ^ p * 2 ^ bl := Nat.mul_le_mul_left _ hb2
    have a3 : nval ys * 2 ^ s < 4294967296 ^ p * 2 ^ bl * 2 ^ s := Nat.mul_lt_mul_of_pos_right (by omega) p3
    rw [Nat.mul_assoc, p2, ← Nat.pow_succ] at a3
    exact a3
theorem len_of_between {vs : List Nat} {p : Nat} (w : Words vs) (hn : Norm vs) (h1 : 2147483648 * 4294967296 ^ p ≤ nval vs) (h2 : nval vs < 4294967296 ^ (p + 1)) : vs.length = p + 1 := by
  have a := nval_lt w
  have hp : 0 < 4294967296 ^ p := Nat.pow_pos (by omega)
  rcases Nat.lt_trichotomy vs.length (p + 1) with h | h | h
  · have : 4294967296 ^ vs.length ≤ 4294967296 ^ p := Nat.pow_le_pow_right (by omega) (by omega)
    omega
  · exact h
  · have := nval_ge hn h
    omega
theorem first_ge {v1 v0 V D : Nat} (h1 : 2147483648 * 4294967296 * D ≤ V) (h2 : V < (v1 * 4294967296 + v0 + 1) * D) (h0 : v0 < 4294967296) : 2147483648 ≤ v1 := by
  rcases Nat.lt_or_ge v1 2147483648 with h | h
  · have : (v1 * 4294967296 + v0 + 1) * D ≤ 2147483648 * 4294967296 * D := Nat.mul_le_mul_right _ (by omega)
    omega
  · exact h
theorem first_le {v1 v0 z2 z1 z0 N W D : Nat} (h1 : ((z2 * 4294967296 + z1) * 4294967296 + z0) * D ≤ N) (h2 : W < (v1 * 4294967296 + v0 + 1) * D) (h3 : N < 4294967296 * W) (h0 : v0 < 4294967296) : z2 ≤ v1 := by
  rcases Nat.lt_or_ge v1 z2 with h | h
  · have a1 : 4294967296 * W ≤ 4294967296 * ((v1 * 4294967296 + v0 + 1) * D) := Nat.mul_le_mul_left 4294967296 (by omega)
    have a2 : 4294967296 * (v1 * 4294967296 + v0 + 1) * D ≤ ((z2 * 4294967296 + z1) * 4294967296 + z0) * D := Nat.mul_le_mul_right _ (by omega)
    rw [Nat.mul_assoc] at a2
    omega
  · exact h
theorem KC.make {us vs : List Nat} {v1 v0 top z0 z2 z1 n2 j : Nat} (hlo : (v1 * 4294967296 + v0) * 4294967296 ^ n2 ≤ nval vs) (hhi : nval vs < (v1 * 4294967296 + v0 + 1) * 4294967296 ^ n2)
    (hN : nval us < nval vs * 4294967296 ^ (j + 1)) (hNlo : ((z2 * 4294967296 + z1) * 4294967296 + z0) * 4294967296 ^ (j + n2) ≤ nval us) (hNhi : nval us < ((z2 * 4294967296 + z1) * 4294967296 + z0 + 1) * 4294967296 ^ (j + n2))
    (hv0b : v0 < 4294967296) (hv1b : v1 < 4294967296) (hv1g : 2147483648 ≤ v1) (hz0b : z0 < 4294967296) (hz1b : z1 < 4294967296) (ht : top = z2 * 4294967296 + z1) :
    KC v1 v0 top z0 (nval us) (nval vs * 4294967296 ^ j) (4294967296 ^ (j + n2)) z2 z1 := by
  have hD : (4294967296 : Nat) ^ (j + n2) = 4294967296 ^ n2 * 4294967296 ^ j := by rw [Nat.add_comm, Nat.pow_add]
  have hbj : 0 < (4294967296 : Nat) ^ j := Nat.pow_pos (by omega)
  rw [Nat.pow_succ] at hN
  generalize (4294967296 : Nat) ^ j = Bj at *
  generalize (4294967296 : Nat) ^ n2 = Bn at *
  have a1 : (v1 * 4294967296 + v0) * 4294967296 ^ (j + n2) ≤ nval vs * Bj := by rw [hD, ← Nat.mul_assoc]; exact Nat.mul_le_mul_right _ hlo
  have a2 : nval vs * Bj < (v1 * 4294967296 + v0 + 1) * 4294967296 ^ (j + n2) := by rw [hD, ← Nat.mul_assoc]; exact Nat.mul_lt_mul_of_pos_right hhi hbj
  have a3 : nval us < 4294967296 * (nval vs * Bj) := by
    have e : nval vs * (Bj * 4294967296) = 4294967296 * (nval vs * Bj) := by rw [← Nat.mul_assoc, Nat.mul_comm]
    rw [← e]; exact hN
  exact ⟨a1, a2, by rw [ht]; exact hNlo, by rw [ht]; exact hNhi, a3, hv0b, hv1b, hv1g, hz0b, hz1b, first_le hNlo a2 a3 hv0b, ht⟩
theorem mul_swap (p g V : Nat) : p * (g * V) = g * (V * p) := by grind
theorem low_of_drop {us zs : List Nat} {p : Nat} (wu : Words us) (wz : Words zs) (h : zs.drop p = us.drop p) (hlt : nval us < 4294967296 ^ p) : nval zs < 4294967296 ^ p := by
  have hp : 0 < (4294967296 : Nat) ^ p := Nat.pow_pos (by omega)
  have a := nval_drop wu p
  have b := nval_drop wz p
  rw [h, ← a, Nat.div_eq_of_lt hlt] at b
  rcases Nat.lt_or_ge (nval zs) (4294967296 ^ p) with h' | h'
  · exact h'
  · have := Nat.div_pos h' hp; omega
theorem div_back {N N1 N2 W P g o : Nat} (h1 : N1 + g * W = N + P) (h2 : N1 < P) (h3 : g * W ≤ N + W) (h4 : N2 + P * o = N1 + W) (h5 : N2 < P) (ho : o ≤ 1) : 1 ≤ g ∧ N2 + (g - 1) * W = N ∧ N2 < W := by
  have hg : 1 ≤ g := by
    rcases Nat.eq_zero_or_pos g with h0 | h0
    · subst h0; omega
    · exact h0
  obtain ⟨k, rfl⟩ : ∃ k, g = k + 1 := ⟨g - 1, by omega⟩
  rw [Nat.add_mul, Nat.one_mul] at h1 h3
  rw [Nat.add_sub_cancel]
  generalize k * W = A at *
  have : o = 0 ∨ o = 1 := by omega
  rcases this with rfl | rfl <;> omega
theorem div_keep {N N1 W g : Nat} (h1 : N1 + g * W = N) (h2 : N < (g + 1) * W) : N1 < W := by
  rw [Nat.add_mul] at h2; omega
theorem div_digit {qs : List Nat} {j g Q V N N1 X : Nat} (hj : j < qs.length) (hQ : Q = nval (qs.drop (j + 1))) (h : Q * (V * 4294967296 ^ (j + 1)) + N = X) (h1 : N1 + g * (V * 4294967296 ^ j) = N) :
    nval ((qs.set j g).drop j) * (V * 4294967296 ^ j) + N1 = X := by
  rw [drop_set g hj, ← hQ, ← h, ← h1, Nat.pow_succ]
  generalize (4294967296 : Nat) ^ j = Bj
  grind
theorem back_pos {N1 g W N P : Nat} (h1 : N1 + g * W = N + P * 1) (h2 : N1 < P) : ∃ k, g = k + 1 := by
  cases g with
  | zero => simp at h1; omega
  | succ k => exact ⟨k, rfl⟩
theorem div_fix {us us' zs vs : List Nat} {j lv k W z c s o : Nat} (hlow' : nval us' < 4294967296 ^ (j + lv + 1)) (h1 : nval us' + (k + 1) * W = nval us + 4294967296 ^ (j + lv + 1) * 1) (h3 : (k + 1) * W ≤ nval us + W)
    (hW : W = nval vs * 4294967296 ^ j) (h4 : nval zs + 4294967296 ^ (j + lv) * c = nval us' + 4294967296 ^ j * nval vs) (hz : zs[j + lv]? = some z) (hs : s + 4294967296 * o = z + c) (ho : o ≤ 1) (hl : nval (zs.set (j + lv) s) < 4294967296 ^ (j + lv + 1)) :
    nval (zs.set (j + lv) s) + k * W = nval us ∧ nval (zs.set (j + lv) s) < W := by
  have hb := back_last h4 (set_whole s hz) hs (Nat.pow_succ (n := 4294967296) (m := j + lv))
  rw [Nat.mul_comm _ (nval vs), ← hW] at hb
  rw [Nat.mul_one] at h1
  have := div_back h1 hlow' h3 hb hl ho
  exact ⟨this.2.1, this.2.2⟩
theorem shifted_len {xs ws : List Nat} {s lx : Nat} (wX : Words xs) (hl : xs.length = lx) (hn : Norm ws) (h : nval ws = nval xs * 2 ^ s) (hs : s ≤ 31) : ws.length ≤ lx + 1 ∧ nval ws < 4294967296 ^ lx * 2147483648 := by
  have h1 := nval_lt wX
  rw [hl] at h1
  have h2 : (2 : Nat) ^ s ≤ 2147483648 := Nat.pow_le_pow_right (n := 2) (by omega) hs
  have h3 : nval xs * 2 ^ s ≤ nval xs * 2147483648 := Nat.mul_le_mul_left _ h2
  refine ⟨?_, by omega⟩
  rcases Nat.lt_or_ge (lx + 1) ws.length with h' | h'
  · have h4 := nval_ge hn h'
    rw [Nat.pow_succ] at h4
    omega
  · exact h'
theorem nval_pad (ws : List Nat) (n k : Nat) : nval (ws ++ (List.replicate n 0).drop k) = nval ws := by
  rw [nval_append, List.drop_replicate, nval_zeros]; simp
theorem div_final {X Y Q R V s : Nat} (hY : 0 < Y) (hV : V = Y * 2 ^ s) (h : Q * V + R = X * 2 ^ s) (hR : R < V) : Q = X / Y ∧ R / 2 ^ s = X % Y := by
  have hp : 0 < 2 ^ s := Nat.pow_pos (by omega)
  have hVp : 0 < V := by rw [hV]; exact Nat.mul_pos hY hp
  have h1 : X * 2 ^ s / V = Q := by rw [← h, Nat.mul_comm, Nat.mul_add_div hVp, Nat.div_eq_of_lt hR, Nat.add_zero]
  have h2 : X * 2 ^ s % V = R := by rw [← h, Nat.mul_comm, Nat.mul_add_mod, Nat.mod_eq_of_lt hR]
  rw [hV, Nat.mul_div_mul_right _ _ hp] at h1
  rw [hV, Nat.mul_mod_mul_right] at h2
  refine ⟨h1.symm, ?_⟩
  rw [← h2, Nat.mul_div_cancel _ hp]
theorem take_low {us : List Nat} {n : Nat} (w : Words us) (h : nval us < 4294967296 ^ n) : nval (us.take n) = nval us := by
  have e := nval_drop w n
  rw [Nat.div_eq_of_lt h] at e
  rcases Nat.lt_or_ge us.length n with h' | h'
  · rw [List.take_of_length_le (by omega)]
  · conv => rhs; rw [← List.take_append_drop n us]
    rw [nval_append, ← e]; simp
def cmpZ (n m : Nat) : Int := if n < m then -1 else if m < n then 1 else 0
theorem cmpZ_lt {n m : Nat} (h : n < m) : (-1 : Int) = cmpZ n m := by unfold cmpZ; rw [if_pos h]
theorem cmpZ_gt {n m : Nat} (h : m < n) : (1 : Int) = cmpZ n m := by unfold cmpZ; rw [if_neg (by omega), if_pos h]
theorem cmpZ_eq {n m : Nat} (h : n = m) : (0 : Int) = cmpZ n m := by unfold cmpZ; rw [if_neg (by omega), if_neg (by omega)]
end Go.Proofs.YtfkogkcpndaoeaaGreat
namespace Go.Proofs.YtfkogkcpndaoeaaGreat
open Go.RowKit
theorem below_drewN {B : Nat} {a w : World} (h : Below B a w) (n : Nat) : Below B a (w.drewN n) := ⟨h.os, h.tape, h.output, h.size, h.block⟩
theorem ext_step {W X V : World} (h : Below W.heap.size W X) (hb : Below X.heap.size X V) : Below W.heap.size W V := h.trans (hb.mono h.size)
def u32 (d : Nat) : Value := .int .u32 (d : Int)
def Sl (w : World) (v : Value) (xs : List Value) : Prop :=
  (v = .slice none 0 0 ∧ xs = []) ∨
  ∃ b o cap, v = .slice (some ⟨b, o, none⟩) xs.length cap ∧ xs.length ≤ cap ∧ cap ≤ maxLen ∧ ∀ i (h : i < xs.length), w.cell? ⟨b, o + i, none⟩ = some xs[i]
theorem Sl.below {B : Nat} {w w' : World} {v : Value} {xs : List Value} (h : Sl w v xs) (hb : Below B w w') (hB : w.heap.size ≤ B) : Sl w' v xs := by
  rcases h with h | ⟨b, o, cap, h1, h2, h3, h4⟩
  · exact .inl h
  · refine .inr ⟨b, o, cap, h1, h2, h3, fun i hi => ?_⟩
    have hc := h4 i hi
    rw [hb.cell (Nat.lt_of_lt_of_le (World.block_lt_of_cell? w _ hc) hB)]
    exact hc
def TyB (w : World) (b : Nat) (T : TypeId) : Prop := ∃ (cs : Array Value) (fr : Nat × Nat), w.heap[b]? = some (.cells cs T fr)
def Typed (w : World) (v : Value) (T : TypeId) : Prop := ∀ b o l c, v = .slice (some ⟨b, o, none⟩) l c → l ≠ 0 → TyB w b T
def Us (w : World) (v : Value) (xs : List Nat) : Prop := Sl w v (xs.map u32) ∧ Words xs ∧ Typed w v 28
def NatRep (w : World) (v : Value) (n : Nat) : Prop := ∃ xs, Us w v xs ∧ Norm xs ∧ nval xs = n
theorem TyB.lt {w : World} {b : Nat} {T : TypeId} (h : TyB w b T) : b < w.heap.size := by
  obtain ⟨cs, fr, h⟩ := h
  exact (Array.getElem?_eq_some_iff.1 h).1
theorem TyB.of {w w' : World} {b : Nat} {T : TypeId} (h : TyB w b T) (e : w'.heap[b]? = w.heap[b]?) : TyB w' b T := by
  obtain ⟨cs, fr, h⟩ := h
  exact ⟨cs, fr, e.trans h⟩
theorem Us.below {B : Nat} {w w' : World} {v : Value} {xs : List Nat} (h : Us w v xs) (hb : Below B w w') (hB : w.heap.size ≤ B) : Us w' v xs :=
  ⟨h.1.below hb hB, h.2.1, fun b o l c e hl => (h.2.2 b o l c e hl).of (hb.block b (Nat.lt_of_lt_of_le (h.2.2 b o l c e hl).lt hB))⟩
theorem NatRep.below {B : Nat} {w w' : World} {v : Value} {n : Nat} (h : NatRep w v n) (hb : Below B w w') (hB : w.heap.size ≤ B) : NatRep w' v n := by
  obtain ⟨xs, h1, h2⟩ := h
  exact ⟨xs, h1.below hb hB, h2⟩
def Ret (w : World) (R : World → Value → Prop) (e : Ending) (w' : World) : Prop := ∃ v, e = .returned v ∧ R w' v ∧ Below w.heap.size w w'
def RetQ (w : World) (R : Value → Prop) (e : Ending) (w' : World) : Prop := ∃ v, e = .returned v ∧ R v ∧ w = w'
theorem Us.cases {w : World} {v : Value} {xs : List Nat} (h : Us w v xs) :
    (v = .slice none 0 0 ∧ xs = []) ∨ ∃ b o len cap, v = .slice (some ⟨b, o, none⟩) len cap ∧ xs.length = len ∧ len ≤ cap ∧ cap ≤ 9223372036854775807 ∧
      ∀ i x, xs[i]? = some x → w.cell? ⟨b, o + i, none⟩ = some (.int .u32 (x : Nat)) := by
  rcases h.1 with ⟨h1, h2⟩ | ⟨b, o, cap, h1, h2, h3, h4⟩
  · exact .inl ⟨h1, by simpa using h2⟩
  · refine .inr ⟨b, o, xs.length, cap, by simpa using h1, rfl, by simpa using h2, by unfold maxLen at h3; exact h3, fun i x hx => ?_⟩
    obtain ⟨hi, rfl⟩ := List.getElem?_eq_some_iff.1 hx
    have := h4 i (by simpa using hi)
    simpa [u32] using this
theorem Us.typed {w : World} {v : Value} {xs : List Nat} (h : Us w v xs) : Typed w v 28 := h.2.2
theorem Us.words {w : World} {v : Value} {xs : List Nat} (h : Us w v xs) : Words xs := h.2.1
theorem Us.mk {w : World} {b o cap n : Nat} {xs : List Nat} (hT : n ≠ 0 → TyB w b 28) (hn : n = xs.length) (h2 : n ≤ cap) (h3 : cap ≤ 9223372036854775807) (hw : Words xs)
    (h4 : ∀ i x, xs[i]? = some x → w.cell? ⟨b, o + i, none⟩ = some (.int .u32 (x : Nat))) : Us w (.slice (some ⟨b, o, none⟩) n cap) xs := by
  subst hn
  refine ⟨.inr ⟨b, o, cap, by simp, by simpa using h2, by unfold maxLen; exact h3, fun i hi => ?_⟩, hw, fun b' o' l' c' e hl => ?_⟩
  · simp only [List.getElem_map]
    exact h4 i _ (List.getElem?_eq_getElem (by simpa using hi))
  · injection e with e1 e2 e3
    have e4 : b = b' := by simpa using congrArg (fun x : Option Addr => x.map Addr.block) e1
    rw [← e4]
    exact hT (by omega)
theorem Us.nil {w : World} : Us w (.slice none 0 0) [] := ⟨.inl ⟨rfl, rfl⟩, by simp [Words], fun b o l c e => by cases e⟩
def Own (w : World) (E : TypeId) (g : Nat) (cs : List Value) : Prop := w.heap[g]? = some (.cells cs.toArray E (0, 0))
section
variable {w w' : World} {E : TypeId} {g : Nat} {cs : List Value}
theorem Own.cell (h : Own w E g cs) (i : Nat) (v : Value) (hi : cs[i]? = some v) : w.cell? ⟨g, i, none⟩ = some v := by
  unfold Own at h
  simp only [World.cell?, h]
  simpa using hi
theorem Own.free (h : Own w E g cs) (i : Nat) : w.frozen? ⟨g, i, none⟩ = false := frozen_of_row w g i _ E h
theorem Own.set (h : Own w E g cs) (i : Nat) (v : Value) : Own (w.setCell ⟨g, i, none⟩ v) E g (cs.set i v) := by
  unfold Own at *
  simp only [World.setCell, Array.getElem?_modify, h]
  simp
theorem Own.lt (h : Own w E g cs) : g < w.heap.size := (Array.getElem?_eq_some_iff.1 h).1
theorem Own.below {B : Nat} (h : Own w E g cs) (hb : Below B w w') (hB : g < B) : Own w' E g cs := by
  unfold Own at *
  rw [hb.block g hB]; exact h
theorem Own.other (h : Own w E g cs) {a : Addr} (ha : a.block ≠ g) (v : Value) : Own (w.setCell a v) E g cs := by
  unfold Own at *
  rw [Below.heap_setCell _ _ _ _ (Ne.symm ha)]; exact h
theorem Own.alloc (h : Own w E g cs) (o : Obj) : Own (w.alloc o) E g cs := by
  have := h.lt
  unfold Own at *
  rw [Below.heap_alloc _ _ _ this]; exact h
end
theorem own_new (w : World) (E : TypeId) (cs : List Value) : Own (w.alloc (.cells cs.toArray E)) E w.heap.size cs := by
  unfold Own
  show (w.heap.push _)[w.heap.size]? = _
  simp
theorem own_at (w : World) (E : TypeId) (cs : List Value) {g : Nat} (hg : g = w.heap.size) : Own (w.alloc (.cells cs.toArray E)) E g cs := hg ▸ own_new w E cs
theorem own_behind {w V : World} {E : TypeId} {cs : List Value} (hb : Below (w.alloc (.cells cs.toArray E)).heap.size (w.alloc (.cells cs.toArray E)) V) : Own V E w.heap.size cs := (own_new w E cs).below hb (own_new w E cs).lt
theorem own_behindD {w V : World} {E : TypeId} {cs : List Value} (hb : Below (w.alloc (.cells cs.toArray E)).drew.heap.size (w.alloc (.cells cs.toArray E)).drew V) : Own V E w.heap.size cs :=
  Own.below (w := (w.alloc (.cells cs.toArray E)).drew) (own_new w E cs) hb (own_new w E cs).lt
theorem boxes1 (w : World) (T1 : TypeId) (c1 : List Value) : ∃ W, W = w.alloc (.cells c1.toArray T1) ∧ Own W T1 w.heap.size c1 ∧ Below w.heap.size w W ∧ w.heap.size + 1 ≤ W.heap.size :=
  ⟨_, rfl, own_at _ _ _ rfl, (Below.refl _ _).alloc (Nat.le_refl _) _, by simp⟩
theorem boxes2 (w : World) (T1 T2 : TypeId) (c1 c2 : List Value) : ∃ W, W = (w.alloc (.cells c1.toArray T1)).alloc (.cells c2.toArray T2) ∧ Own W T1 w.heap.size c1 ∧ Own W T2 (w.heap.size + 1) c2 ∧ Below w.heap.size w W ∧ w.heap.size + 2 ≤ W.heap.size :=
  ⟨_, rfl, (own_at _ _ _ rfl).alloc _, own_at _ _ _ (by simp), ((Below.refl _ _).alloc (Nat.le_refl _) _).alloc (by simp) _, by simp⟩
theorem boxes3 (w : World) (T1 T2 T3 : TypeId) (c1 c2 c3 : List Value) : ∃ W, W = ((w.alloc (.cells c1.toArray T1)).alloc (.cells c2.toArray T2)).alloc (.cells c3.toArray T3) ∧ Own W T1 w.heap.size c1 ∧ Own W T2 (w.heap.size + 1) c2 ∧ Own W T3 (w.heap.size + 1 + 1) c3 ∧ Below w.heap.size w W ∧ w.heap.size + 3 ≤ W.heap.size :=
  ⟨_, rfl, ((own_at _ _ _ rfl).alloc _).alloc _, (own_at _ _ _ (by simp)).alloc _, own_at _ _ _ (by simp), (((Below.refl _ _).alloc (Nat.le_refl _) _).alloc (by simp) _).alloc (by simp; omega) _, by simp⟩
theorem boxes4 (w : World) (T1 T2 T3 T4 : TypeId) (c1 c2 c3 c4 : List Value) : ∃ W, W = (((w.alloc (.cells c1.toArray T1)).alloc (.cells c2.toArray T2)).alloc (.cells c3.toArray T3)).alloc (.cells c4.toArray T4) ∧ Own W T1 w.heap.size c1 ∧ Own W T2 (w.heap.size + 1) c2 ∧ Own W T3 (w.heap.size + 1 + 1) c3 ∧ Own W T4 (w.heap.size + 1 + 1 + 1) c4 ∧ Below w.heap.size w W ∧ w.heap.size + 4 ≤ W.heap.size :=
  ⟨_, rfl, (((own_at _ _ _ rfl).alloc _).alloc _).alloc _, ((own_at _ _ _ (by simp)).alloc _).alloc _, (own_at _ _ _ (by simp)).alloc _, own_at _ _ _ (by simp), ((((Below.refl _ _).alloc (Nat.le_refl _) _).alloc (by simp) _).alloc (by simp; omega) _).alloc (by simp; omega) _, by simp⟩
def OwnU (w : World) (g : Nat) (xs : List Nat) : Prop := Own w 28 g (xs.map u32) ∧ Words xs
section
variable {w w' : World} {g : Nat} {xs : List Nat}
theorem OwnU.cell (h : OwnU w g xs) (i x : Nat) (hi : xs[i]? = some x) : w.cell? ⟨g, i, none⟩ = some (.int .u32 (x : Int)) := h.1.cell i _ (by simp [hi, u32])
theorem OwnU.free (h : OwnU w g xs) (i : Nat) : w.frozen? ⟨g, i, none⟩ = false := h.1.free i
theorem OwnU.set (h : OwnU w g xs) (i x : Nat) (hx : x < 4294967296) : OwnU (w.setCell ⟨g, i, none⟩ (.int .u32 (x : Int))) g (xs.set i x) :=
  ⟨by have := h.1.set i (u32 x); rw [← List.map_set] at this; exact this, h.2.set hx i⟩
theorem OwnU.set' (h : OwnU w g xs) (i s : Nat) (v : Int) (hv : v = (s : Int)) (hx : s < 4294967296) : OwnU (w.setCell ⟨g, i, none⟩ (.int .u32 v)) g (xs.set i s) := by
  subst hv
  exact h.set i s hx
theorem ownU_new (w : World) (cs : Array Value) (xs : List Nat) (hc : cs = (xs.map u32).toArray) (h : Words xs) : OwnU (w.alloc (.cells cs 28)) w.heap.size xs := by
  subst hc
  exact ⟨own_new _ _ _, h⟩
theorem OwnU.lt (h : OwnU w g xs) : g < w.heap.size := h.1.lt
theorem OwnU.below {B : Nat} (h : OwnU w g xs) (hb : Below B w w') (hB : g < B) : OwnU w' g xs := ⟨h.1.below hb hB, h.2⟩
theorem OwnU.us (h : OwnU w g xs) (hl : xs.length ≤ 9223372036854775807) {n : Nat} (hn : n = xs.length) : Us w (.slice (some ⟨g, 0, none⟩) n n) xs :=
  Us.mk (fun _ => ⟨_, _, h.1⟩) hn (Nat.le_refl _) (by omega) h.2 fun i x hx => by rw [Nat.zero_add]; exact h.cell i x hx
end
def UsA (w : World) (a : Option Addr) (xs : List Nat) : Prop :=
  ∀ (i x : Nat), xs[i]? = some x → ∃ b o, a = some ⟨b, o, none⟩ ∧ w.cell? ⟨b, o + i, none⟩ = some (.int .u32 (x : Nat))
theorem UsA.at {w : World} {a : Option Addr} {xs : List Nat} (h : UsA w a xs) {i x : Nat} (hx : xs[i]? = some x) :
    ∃ b o, a = some ⟨b, o, none⟩ ∧ w.cell? ⟨b, o + i, none⟩ = some (.int .u32 (x : Nat)) := h i x hx
theorem UsA.cell {w : World} {b o : Nat} {xs : List Nat} (h : UsA w (some ⟨b, o, none⟩) xs) {i x : Nat} (hx : xs[i]? = some x) : w.cell? ⟨b, o + i, none⟩ = some (.int .u32 (x : Nat)) := by
  obtain ⟨b', o', e, hc⟩ := h i x hx
  simp only [Option.some.injEq, Addr.mk.injEq, and_true] at e
  obtain ⟨rfl, rfl⟩ := e
  exact hc
theorem UsA.below {B : Nat} {w w' : World} {a : Option Addr} {xs : List Nat} (h : UsA w a xs) (hb : Below B w w') (hB : w.heap.size ≤ B) : UsA w' a xs := fun i x hx => by
  obtain ⟨b, o, e, hc⟩ := h i x hx
  refine ⟨b, o, e, ?_⟩
  rw [hb.cell (Nat.lt_of_lt_of_le (World.block_lt_of_cell? w _ hc) hB)]
  exact hc
theorem UsA.grown {w w' : World} {g : Nat} {a : Option Addr} {xs : List Nat} (h : UsA w a xs) (hg : w.grownBy w' (some g)) (hne : ∀ b o, a = some ⟨b, o, none⟩ → b ≠ g) : UsA w' a xs := fun i x hx => by
  obtain ⟨b, o, e, hc⟩ := h i x hx
  exact ⟨b, o, e, hg.cell hc (fun h => hne b o e (Option.some.inj h))⟩
theorem grown_set {a w : World} {g : Nat} (h : a.grownBy w (some g)) (i : Nat) (u : Value) : a.grownBy (w.setCell ⟨g, i, none⟩ u) (some g) :=
  ⟨h.os, h.tape, h.output, by simpa [World.setCell] using h.size, fun k hk hne => (Below.heap_setCell _ _ _ _ (fun e => hne (by rw [e]))).trans (h.block k hk hne)⟩
theorem grown_refl (w : World) (row : Option Nat) : w.grownBy w row := World.grownBy.refl w row
theorem grown_trans {a b c : World} {row : Option Nat} (h : a.grownBy b row) (k : b.grownBy c row) : a.grownBy c row :=
  ⟨k.os.trans h.os, k.tape.trans h.tape, k.output.trans h.output, Nat.le_trans h.size k.size, fun i hi hne => (k.block i (Nat.lt_of_lt_of_le hi h.size) hne).trans (h.block i hi hne)⟩
theorem grown_drewN {a w : World} {row : Option Nat} (h : a.grownBy w row) (n : Nat) : a.grownBy (w.drewN n) row := ⟨h.os, h.tape, h.output, h.size, h.block⟩
theorem OwnU.grown {w w' : World} {g g' : Nat} {xs : List Nat} (h : OwnU w g xs) (hg : w.grownBy w' (some g')) (hne : g ≠ g') : OwnU w' g xs :=
  ⟨by have h1 := h.1; unfold Own at *; rw [hg.block g h.lt (fun e => hne (Option.some.inj e))]; exact h1, h.2⟩
def noU : Value → Bool
  | .int .u32 _ => false
  | _ => true
theorem Us.keep {w w' : World} {row : Option Nat} {v : Value} {xs : List Nat} (h : Us w v xs) (hg : w.grownBy w' row) (hne : ∀ b o l c, v = .slice (some ⟨b, o, none⟩) l c → l ≠ 0 → some b ≠ row) : Us w' v xs := by
  have ht := h.typed
  rcases h.cases with ⟨rfl, rfl⟩ | ⟨b, o, len, cap, rfl, hlen, hcap, hmax, hcell⟩
  · exact Us.nil
  · refine Us.mk (fun h0 => (ht b o len cap rfl h0).of (hg.block b (ht b o len cap rfl h0).lt (hne b o len cap rfl h0))) hlen.symm hcap hmax h.words fun i x hx => ?_
    have hi : i < xs.length := (List.getElem?_eq_some_iff.1 hx).1
    exact hg.cell (hcell i x hx) (hne b o len cap rfl (by omega))
theorem Us.grown {w w' : World} {g : Nat} {E : TypeId} {cs : List Value} {v : Value} {xs : List Nat} (h : Us w v xs) (hg : w.grownBy w' (some g)) (ho : Own w E g cs) (hn : cs.all noU = true) : Us w' v xs := by
  refine h.keep hg fun b o l c e hl => ?_
  rcases h.cases with ⟨rfl, rfl⟩ | ⟨b', o', len, cap, rfl, hlen, hcap, hmax, hcell⟩
  · cases e
  · injection e with e1 e2 e3
    subst e2
    have e4 : b' = b := by simpa using congrArg (fun x : Option Addr => x.map Addr.block) e1
    subst e4
    intro e5
    have e6 : b' = g := Option.some.inj e5
    subst e6
    have hx : xs[0]? = some xs[0] := List.getElem?_eq_getElem (by omega)
    have hc := hcell 0 _ hx
    have hi : o' + 0 < cs.length := by
      have := ho
      unfold Own at this
      simp only [World.cell?, this] at hc
      rcases Nat.lt_or_ge (o' + 0) cs.length with h | h
      · exact h
      · rw [Nat.add_zero] at h hc
        simp [h] at hc
    have h2 := ho.cell (o' + 0) _ (List.getElem?_eq_getElem hi)
    rw [hc] at h2
    have h3 := (List.all_eq_true.1 hn) _ (List.getElem_mem hi)
    rw [← Option.some.inj h2] at h3
    simp [noU] at h3
theorem Us.row {w w' : World} {base size n : Nat} {E : TypeId} {s : Value} {cs : List Value} {v : Value} {xs : List Nat} (h : Us w v xs) (hr : w.ownsRow base E size s n cs) (hE : E ≠ 28) (hg : w.grownBy w' s.ownBlock) : Us w' v xs := by
  refine h.keep hg fun b o l c e hl => ?_
  obtain ⟨cs', fr, hb⟩ := h.typed b o l c e hl
  obtain ⟨_, h2⟩ := hr
  rcases h2 with ⟨rfl, _⟩ | ⟨g, cap, cur, rfl, _, hgc, _⟩
  · simp [Value.ownBlock]
  · intro e5
    have e6 : b = g := Option.some.inj e5
    subst e6
    rw [hb] at hgc
    simp only [Option.some.injEq, Obj.cells.injEq] at hgc
    exact hE hgc.2.1.symm
theorem NatRep.row {w w' : World} {base size n k : Nat} {E : TypeId} {s : Value} {cs : List Value} {v : Value} (h : NatRep w v k) (hr : w.ownsRow base E size s n cs) (hE : E ≠ 28) (hg : w.grownBy w' s.ownBlock) : NatRep w' v k := by
  obtain ⟨xs, h1, h2⟩ := h
  exact ⟨xs, h1.row hr hE hg, h2⟩
theorem NatRep.grown {w w' : World} {g : Nat} {E : TypeId} {cs : List Value} {v : Value} {n : Nat} (h : NatRep w v n) (hg : w.grownBy w' (some g)) (ho : Own w E g cs) (hn : cs.all noU = true) : NatRep w' v n := by
  obtain ⟨xs, h1, h2⟩ := h
  exact ⟨xs, h1.grown hg ho hn, h2⟩
theorem NatRep.put {w : World} {g : Nat} {E : TypeId} {cs : List Value} {v : Value} {n : Nat} (h : NatRep w v n) (ho : Own w E g cs) (hn : cs.all noU = true) (i : Nat) (u : Value) : NatRep (w.setCell ⟨g, i, none⟩ u) v n :=
  h.grown (grown_set (grown_refl w (some g)) i u) ho hn
theorem Us.any {w : World} {v : Value} {xs : List Nat} (h : Us w v xs) :
    ∃ (a : Option Addr) (len cap : Nat), v = .slice a len cap ∧ Hid (xs.length = len) ∧ len ≤ cap ∧ cap ≤ 9223372036854775807 ∧ UsA w a xs ∧ Words xs := by
  rcases h.cases with ⟨rfl, rfl⟩ | ⟨b, o, len, cap, rfl, hlen, hcap, hmax, hcell⟩
  · exact ⟨none, 0, 0, rfl, rfl, Nat.le_refl _, by omega, fun i x hx => by simp at hx, h.words⟩
  · exact ⟨_, len, cap, rfl, hlen, hcap, hmax, fun i x hx => ⟨b, o, rfl, hcell i x hx⟩, h.words⟩
theorem get_lt {xs : List Nat} {len i : Nat} (h : Hid (xs.length = len)) (hi : i < len) : ∃ x, xs[i]? = some x := ⟨_, List.getElem?_eq_getElem (by have := h.out; omega)⟩
theorem int_of {k : IntKind} {a b : Int} (h : a = b) : Value.int k a = .int k b := by rw [h]
theorem bool_of {b : Bool} {p : Prop} [Decidable p] (h : b = true ↔ p) : Value.bool b = .bool (decide p) := by
  congr 1
  rw [Bool.eq_iff_iff, h]; simp
theorem info24 : (Tryz.prog.info? 28).map (fun i => (i.zero, i.size, i.bytes)) = some (some (.int .u32 0), 1, 4) := by kernel_rfl
theorem make_u32 (w : World) {ops : Array Oper} {rest : List Oper} {o : Oper} {a : Act} {Q : Exit → Act → World → Prop}
    (hg : o.guard = none) (l : Operand) (t : TypeId) (hop : o.op = Op.makeSlice t l l) (h1 : Tryz.prog.underlying t = some (.slice 28))
    (L : Int) (n : Nat) (hl : a.eval l = .int .i64 L) (hL : L = (n : Int)) (b2 : n ≤ 35184372088832)
    (hK : ∀ w', OwnU w' w.heap.size (List.replicate n 0) → Below w.heap.size w w' → w'.heap.size = w.heap.size + 1 →
      wpList Tryz.prog ops Q rest (a.put o.dst (.slice (some ⟨w.heap.size, 0, none⟩) n n)) w') :
    wpList Tryz.prog ops Q (o :: rest) a w := by
  obtain ⟨i0, hi0, hz0, hz1, hz2⟩ := info_parts info24
  refine wpList_plain hg fun K hK' => ?_
  have hr := run_make (P := Tryz.prog) w t _ i0 _ h1 hi0 hz0 .i64 .i64 L L (by omega) (Int.le_refl _) (by rw [hz2]; omega) (by omega)
  unfold Oper.wp
  subst hL
  simp only [Int.toNat_natCast, hz1, Nat.mul_one] at hr
  simp [execOp, hop, hl, hr, Result.andThen]
  refine hK' _ _ (hK _ ⟨?_, words_replicate n⟩ ((Below.refl _ _).alloc (Nat.le_refl _) _) (by simp))
  unfold Own
  show (w.heap.push _)[w.heap.size]? = _
  simp only [Array.getElem?_push_size, Option.some.injEq, Obj.cells.injEq, and_true]
  apply Array.ext'
  simp only [madeCells, Array.toList_map, Array.toList_range]
  apply List.ext_getElem
  · simp
  · intro i h1 h2
    simp [u32, Value.cells, Nat.mod_one]
theorem copy_u32 (w : World) {ops : Array Oper} {rest : List Oper} {o : Oper} {a : Act} {Q : Exit → Act → World → Prop}
    (hgd : o.guard = none) (d s : Operand) (dT sT : TypeId) (hop : o.op = .call { callee := .builtin .copy, args := #[d, s], argTypes := #[dT, sT] }) (hu : Tryz.prog.underlying dT = some (.slice 28))
    (g n ls cs : Nat) (ap : Option Addr) (us ws : List Nat) (hd : a.eval d = .slice (some ⟨g, 0, none⟩) n n) (hs : a.eval s = .slice ap ls cs) (ho : OwnU w g us) (hn : us.length = n) (hl : ws.length = ls)
    (hA : UsA w ap ws) (wW : Words ws) (hle : ls ≤ n)
    (hK : ∀ w', OwnU w' g (ws ++ us.drop ls) → w.grownBy w' (some g) → wpList Tryz.prog ops Q rest (a.put o.dst (goInt ls)) w') :
    wpList Tryz.prog ops Q (o :: rest) a w := by
  have hsz : (Tryz.prog.info? 28).map (·.size) = some 1 := by kernel_rfl
  have hg : w.heap[g]? = some (.cells (us.map u32).toArray 28 (0, 0)) := ho.1
  refine wpList_plain hgd fun K hK' => ?_
  rcases Nat.eq_zero_or_pos ls with h0 | h0
  · subst h0
    obtain rfl : ws = [] := List.eq_nil_of_length_eq_zero hl
    have hr := run_copy_none (P := Tryz.prog) w dT sT o.type _ (some ⟨g, 0, none⟩) ap n n 0 cs hu hsz (by simp)
    unfold Oper.wp
    simp [execOp, hop, resolve, invoke, builtin, hd, hs, hr, Result.andThen]
    exact hK' _ _ (hK w (by simpa using ho) (grown_refl _ _))
  · obtain ⟨x, hx⟩ : ∃ x, ws[0]? = some x := ⟨_, List.getElem?_eq_getElem (by omega)⟩
    obtain ⟨b, o', rfl, _⟩ := hA.at hx
    have hr := run_copy_row (P := Tryz.prog) w dT sT o.type _ g 0 n n ⟨b, o', none⟩ ls cs (us.map u32).toArray _ (ws.map u32) hu hsz hg (by rw [List.length_map, hl]; exact (Nat.min_eq_left hle).symm) (fun j v hj => by
      rw [Addr.add_lit]
      simp only [List.getElem?_map, Option.map_eq_some_iff] at hj
      obtain ⟨y, hy, rfl⟩ := hj
      exact hA.cell hy) (by simp; omega) (fun v hv => by
      obtain ⟨y, _, rfl⟩ := List.mem_map.1 hv
      rfl)
    unfold Oper.wp
    have hlen : (List.map u32 ws).length = ls := by simp [hl]
    rw [hlen] at hr
    simp [execOp, hop, resolve, invoke, builtin, hd, hs, hr, Result.andThen]
    refine hK' _ _ (hK _ ⟨?_, ?_⟩ ?_)
    · have := setRow_heap w g _ ((List.map u32 ws).toArray ++ (List.map u32 (us.drop ls)).toArray) _ _ hg
      unfold Own
      simpa using this
    · intro e he
      rcases List.mem_append.1 he with h | h
      · exact wW e h
      · exact (ho.2.drop _) e h
    · exact ⟨rfl, rfl, rfl, by simp [World.setRow], fun k hk hne => setRow_other w g k _ (fun e => hne (by rw [e]))⟩
end Go.Proofs.YtfkogkcpndaoeaaGreat
