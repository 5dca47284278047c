/- Plain facts on the check sum: the reference's way (a bit at a time at the top) is the same; a changed byte changes it. Conditions: none. Decode of what Encode writes, plain: the frame comes back, a proper beginning is torn, a changed byte is an error. Conditions: the frame is valid. -/
import Derived.Test.YtohnlmfmpflbpaaGreatMDecR
import Derived.Test.YtohnlmfmpflbpaaGreatMEnc
import Derived.Test.YtohnlmfmpflbpaaGreatMSum
set_option linter.unusedSimpArgs false
set_option linter.unusedVariables false
set_option linter.all false
namespace Go.Proofs.YtohnlmfmpflbpaaGreat

/-- One step of the reference: the bit i enters at the top. -/
def refBit (r i : Nat) : Nat := if r / 32768 % 2 ≠ i then (2 * r % 65536) ^^^ 4129 else 2 * r % 65536

theorem xor_top {r y : Nat} : (r ^^^ y) / 32768 % 2 = (r / 32768 % 2 + y / 32768 % 2) % 2 := by
  have h1 : (r ^^^ y).testBit 15 = (r.testBit 15 != y.testBit 15) := by rw [Nat.testBit_xor]
  simp only [Nat.testBit_eq_decide_div_mod_eq] at h1
  have e : (2 : Nat) ^ 15 = 32768 := rfl
  rw [e] at h1
  have a1 : r / 32768 % 2 < 2 := Nat.mod_lt _ (by omega)
  have a2 : y / 32768 % 2 < 2 := Nat.mod_lt _ (by omega)
  have a3 : (r ^^^ y) / 32768 % 2 < 2 := Nat.mod_lt _ (by omega)
  generalize (r ^^^ y) / 32768 % 2 = A at *
  generalize r / 32768 % 2 = B at *
  generalize y / 32768 % 2 = C at *
  rcases (show A = 0 ∨ A = 1 by omega) with rfl | rfl <;> rcases (show B = 0 ∨ B = 1 by omega) with rfl | rfl <;> rcases (show C = 0 ∨ C = 1 by omega) with rfl | rfl <;> simp at h1 ⊢

theorem double_xor {r y : Nat} : 2 * (r ^^^ y) % 65536 = (2 * r % 65536) ^^^ (2 * y % 65536) := by
  apply Nat.eq_of_testBit_eq
  intro i
  have e : (65536 : Nat) = 2 ^ 16 := rfl
  rw [Nat.testBit_xor, e, Nat.testBit_mod_two_pow, Nat.testBit_mod_two_pow, Nat.testBit_mod_two_pow]
  by_cases h : i < 16
  · simp only [h, decide_true, Bool.true_and]
    cases i with
    | zero => simp [Nat.testBit_zero]
    | succ i =>
      rw [Nat.mul_comm 2, Nat.mul_comm 2, Nat.mul_comm 2]
      simp [Nat.testBit_succ, Nat.testBit_xor]
  · simp [h]

theorem crcBit_top {r : Nat} (hr : r < 65536) : crcBit r = if r / 32768 % 2 = 1 then (2 * r % 65536) ^^^ 4129 else 2 * r % 65536 := by
  unfold crcBit
  by_cases h : 32768 ≤ r
  · rw [if_pos h, if_pos (by omega)]
  · rw [if_neg h, if_neg (by omega)]

theorem crc_ref_step {r y : Nat} (hr : r < 65536) (hy : y < 65536) : crcBit (r ^^^ y) = refBit r (y / 32768 % 2) ^^^ (2 * y % 65536) := by
  have hlt : r ^^^ y < 65536 := Nat.xor_lt_two_pow (n := 16) hr hy
  rw [crcBit_top hlt, xor_top, double_xor]
  unfold refBit
  have a1 : r / 32768 % 2 < 2 := Nat.mod_lt _ (by omega)
  have a2 : y / 32768 % 2 < 2 := Nat.mod_lt _ (by omega)
  by_cases h : r / 32768 % 2 ≠ y / 32768 % 2
  · rw [if_pos h, if_pos (by omega), Nat.xor_assoc, Nat.xor_assoc, Nat.xor_comm (2 * y % 65536)]
  · rw [if_neg h, if_neg (by omega)]

/-- The reference's steps for the byte x: its bits from the highest on. -/
def refSteps (x : Nat) : Nat → Nat → Nat
  | 0, r => r
  | j + 1, r => refBit (refSteps x j r) (x / 2 ^ (7 - j) % 2)

theorem refBit_lt (r i : Nat) : refBit r i < 65536 := by
  unfold refBit
  split
  · exact Nat.xor_lt_two_pow (n := 16) (Nat.mod_lt _ (by omega)) (by omega)
  · exact Nat.mod_lt _ (by omega)
theorem refSteps_lt {x : Nat} : ∀ {j r : Nat}, r < 65536 → refSteps x j r < 65536
  | 0, _, h => h
  | _ + 1, _, _ => refBit_lt _ _

theorem steps_eq {x r : Nat} (hx : x < 256) (hr : r < 65536) : ∀ j, j ≤ 8 → crcBits j (r ^^^ (x * 256)) = refSteps x j r ^^^ (x * 256 * 2 ^ j % 65536)
  | 0, _ => by
    show r ^^^ (x * 256) = r ^^^ (x * 256 * 1 % 65536)
    rw [Nat.mul_one, Nat.mod_eq_of_lt (by omega)]
  | j + 1, h => by
    rw [crcBits_succ, steps_eq hx hr j (by omega), crc_ref_step (refSteps_lt hr) (Nat.mod_lt _ (by omega))]
    have e1 : x * 256 * 2 ^ j % 65536 / 32768 % 2 = x / 2 ^ (7 - j) % 2 := by
      rcases (show j = 0 ∨ j = 1 ∨ j = 2 ∨ j = 3 ∨ j = 4 ∨ j = 5 ∨ j = 6 ∨ j = 7 by omega) with rfl | rfl | rfl | rfl | rfl | rfl | rfl | rfl <;> simp <;> omega
    have e2 : 2 * (x * 256 * 2 ^ j % 65536) % 65536 = x * 256 * 2 ^ (j + 1) % 65536 := by
      have h2 : x * 256 * 2 ^ (j + 1) = 2 * (x * 256 * 2 ^ j) := by rw [Nat.pow_succ, ← Nat.mul_assoc, Nat.mul_comm]
      rw [h2]
      generalize x * 256 * 2 ^ j = z
      omega
    rw [e1, e2]
    rfl
theorem byte_eq {x : UInt8} {r : Nat} (hr : r < 65536) : crcByte r x = refSteps x.toNat 8 r := by
  unfold crcByte
  rw [steps_eq x.toNat_lt hr 8 (Nat.le_refl _)]
  have : x.toNat * 256 * 2 ^ 8 % 65536 = 0 := by omega
  rw [this, Nat.xor_zero]

theorem xor_back {a b c : Nat} (h : a ^^^ c = b ^^^ c) : a = b := by
  have := congrArg (· ^^^ c) h
  simpa [Nat.xor_assoc, Nat.xor_self, Nat.xor_zero] using this
theorem xor_odd (z : Nat) : (2 * z ^^^ 4129) % 2 = 1 := by
  have h : (2 * z ^^^ 4129).testBit 0 = true := by rw [Nat.testBit_xor]; simp [Nat.testBit_zero]
  simpa [Nat.testBit_zero] using h
theorem crcBit_inj {r q : Nat} (hr : r < 65536) (hq : q < 65536) (h : crcBit r = crcBit q) : r = q := by
  have e1 : 2 * r % 65536 = 2 * (r % 32768) := by omega
  have e2 : 2 * q % 65536 = 2 * (q % 32768) := by omega
  have o1 := xor_odd (r % 32768)
  have o2 := xor_odd (q % 32768)
  unfold crcBit at h
  rw [e1, e2] at h
  by_cases c1 : 32768 ≤ r <;> by_cases c2 : 32768 ≤ q
  · rw [if_pos c1, if_pos c2] at h
    have := xor_back h
    omega
  · rw [if_pos c1, if_neg c2] at h
    omega
  · rw [if_neg c1, if_pos c2] at h
    omega
  · rw [if_neg c1, if_neg c2] at h
    omega
theorem crcBits_inj : ∀ (n : Nat) {r q : Nat}, r < 65536 → q < 65536 → crcBits n r = crcBits n q → r = q
  | 0, _, _, _, _, h => h
  | n + 1, _, _, hr, hq, h => crcBit_inj hr hq (crcBits_inj n crcBit_lt crcBit_lt h)
theorem byte_arg_lt {r : Nat} {x : UInt8} (hr : r < 65536) : r ^^^ (x.toNat * 256) < 65536 := Nat.xor_lt_two_pow (n := 16) hr (by have := x.toNat_lt; show x.toNat * 256 < 65536; omega)
/-- The check sum keeps states apart, and tells two bytes apart. -/
theorem crcByte_inj {r q : Nat} {x : UInt8} (hr : r < 65536) (hq : q < 65536) (h : crcByte r x = crcByte q x) : r = q := xor_back (crcBits_inj 8 (byte_arg_lt hr) (byte_arg_lt hq) h)
theorem crcByte_ne {r : Nat} {x y : UInt8} (hr : r < 65536) (h : crcByte r x = crcByte r y) : x = y := by
  have h1 := crcBits_inj 8 (byte_arg_lt hr) (byte_arg_lt hr) h
  rw [Nat.xor_comm r, Nat.xor_comm r] at h1
  have h2 := xor_back h1
  have : x.toNat = y.toNat := by omega
  exact UInt8.toNat_inj.1 this
theorem crcFold_inj : ∀ (l : List UInt8) (r q : Nat), r < 65536 → q < 65536 → List.foldl crcByte r l = List.foldl crcByte q l → r = q
  | [], r, q, _, _, h => h
  | x :: t, r, q, hr, hq, h => by
    rw [List.foldl_cons, List.foldl_cons] at h
    have h1 := crcByte_lt (r := r) (x := x) hr
    have h2 := crcByte_lt (r := q) (x := x) hq
    have h3 := crcFold_inj t (crcByte r x) (crcByte q x) h1 h2 h
    exact crcByte_inj hr hq h3
theorem fold_changed {s : Nat} (hs : s < 65536) {u v : List UInt8} {x y : UInt8} (h : (u ++ x :: v).foldl crcByte s = (u ++ y :: v).foldl crcByte s) : x = y := by
  rw [List.foldl_append, List.foldl_append, List.foldl_cons, List.foldl_cons] at h
  have hu := crc_fold u s hs
  generalize u.foldl crcByte s = r at *
  have h1 := crcByte_lt (r := r) (x := x) hu
  have h2 := crcByte_lt (r := r) (x := y) hu
  have h3 := crcFold_inj v (crcByte r x) (crcByte r y) h1 h2 h
  exact crcByte_ne hu h3
/-- One changed byte changes the check sum. -/
theorem crc_changed {u v : List UInt8} {x y : UInt8} (h : crc (u ++ x :: v) = crc (u ++ y :: v)) : x = y := by
  unfold crc at h
  generalize hs : 65535 = s at h
  exact fold_changed (by omega) h
end Go.Proofs.YtohnlmfmpflbpaaGreat

namespace Go.Proofs.YtohnlmfmpflbpaaGreat

theorem byteAt_left {a b : List UInt8} {i : Nat} (h : i < a.length) : byteAt (a ++ b) i = byteAt a i := by
  unfold byteAt; rw [List.getD_eq_getElem?_getD, List.getD_eq_getElem?_getD, List.getElem?_append_left h]
theorem byteAt_right {a b : List UInt8} {i : Nat} : byteAt (a ++ b) (a.length + i) = byteAt b i := by
  unfold byteAt; rw [List.getD_eq_getElem?_getD, List.getD_eq_getElem?_getD, List.getElem?_append_right (by omega), Nat.add_sub_cancel_left]
theorem wordAt_left {a b : List UInt8} {i : Nat} (h : i + 1 < a.length) : wordAt (a ++ b) i = wordAt a i := by
  unfold wordAt; rw [byteAt_left (by omega), byteAt_left h]
theorem wordAt_right {a b : List UInt8} {i : Nat} : wordAt (a ++ b) (a.length + i) = wordAt b i := by
  unfold wordAt; rw [byteAt_right, Nat.add_assoc, byteAt_right]
theorem wordAt_be16 {x : Nat} {b : List UInt8} (h : x < 65536) : wordAt (be16 x ++ b) 0 = x := by
  simp [wordAt, byteAt, be16]; omega
theorem byteAt_take {l : List UInt8} {i k : Nat} (h : i < k) : byteAt (l.take k) i = byteAt l i := by
  unfold byteAt; rw [List.getD_eq_getElem?_getD, List.getD_eq_getElem?_getD, List.getElem?_take_of_lt h]

theorem encAt_eq (m : Int) (p : Pr) : encAt (m, p) = be16 (u16n m) ++ (be16 (u16n p.a0) ++ (be16 (u16n p.a1) ++ (be16 (u16n p.b0) ++ (be16 (u16n p.b1) ++ [])))) := by
  simp [encAt, be16s, Pr.list]
theorem encAt_0 (m : Int) (p : Pr) : wordAt (encAt (m, p)) 0 = u16n m := by rw [encAt_eq, wordAt_be16 (u16n_lt m)]
theorem encAt_2 (m : Int) (p : Pr) : wordAt (encAt (m, p)) 2 = u16n p.a0 := by
  have h := u16n_lt p.a0
  generalize hu : u16n p.a0 = u at *
  simp [encAt_eq, wordAt, byteAt, be16, hu]; omega
theorem encAt_4 (m : Int) (p : Pr) : wordAt (encAt (m, p)) 4 = u16n p.a1 := by
  have h := u16n_lt p.a1
  generalize hu : u16n p.a1 = u at *
  simp [encAt_eq, wordAt, byteAt, be16, hu]; omega
theorem encAt_6 (m : Int) (p : Pr) : wordAt (encAt (m, p)) 6 = u16n p.b0 := by
  have h := u16n_lt p.b0
  generalize hu : u16n p.b0 = u at *
  simp [encAt_eq, wordAt, byteAt, be16, hu]; omega
theorem encAt_8 (m : Int) (p : Pr) : wordAt (encAt (m, p)) 8 = u16n p.b1 := by
  have h := u16n_lt p.b1
  generalize hu : u16n p.b1 = u at *
  simp [encAt_eq, wordAt, byteAt, be16, hu]; omega

theorem s16_u16 {x : Int} (h : I16 x) : s16 (u16n x) = x := by
  unfold I16 at h; unfold s16 u16n; split <;> omega

theorem encPairs_at {l : List (Int × Pr)} {k : Nat} {x : Int × Pr} (h : l[k]? = some x) : encPairs l = encPairs (l.take k) ++ (encAt x ++ encPairs (l.drop (k + 1))) := by
  have hk := (List.getElem?_eq_some_iff.1 h).1
  have hx := (List.getElem?_eq_some_iff.1 h).2
  have e : l = l.take k ++ (x :: l.drop (k + 1)) := by
    have := List.take_append_drop k l
    rw [List.drop_eq_getElem_cons hk, hx] at this
    exact this.symm
  conv => lhs; rw [e]
  simp [encPairs]

theorem pair_word {l : List (Int × Pr)} {k j : Nat} {x : Int × Pr} (r : List UInt8) (h : l[k]? = some x) (hj : j + 1 < 10) : wordAt (encPairs l ++ r) (10 * k + j) = wordAt (encAt x) j := by
  have hk := (List.getElem?_eq_some_iff.1 h).1
  have hl : (encPairs (l.take k)).length = 10 * k := by rw [encPairs_length, List.length_take]; omega
  rw [encPairs_at h, List.append_assoc, List.append_assoc, ← hl, wordAt_right, wordAt_left (by rw [encAt_length]; exact hj)]

/-- The bytes ahead of the ports, and the others. -/
theorem enc_split (f : Fr) (more : List UInt8) : enc f ++ more = encHead f ++ (encPairs (f.mates.zip f.pairs) ++ (be16 (crc (encBody f)) ++ more)) := by
  unfold enc encBody; simp only [List.append_assoc]
theorem enc_split2 (f : Fr) (more : List UInt8) : enc f ++ more = encBody f ++ (be16 (crc (encBody f)) ++ more) := by
  unfold enc; simp only [List.append_assoc]

theorem zip_length {f : Fr} (h : f.valid = true) : (f.mates.zip f.pairs).length = f.pairs.length := by
  have := (Fr.valid_iff.1 h).2.1
  rw [List.length_zip]; omega
theorem encBody_length {f : Fr} (h : f.valid = true) : (encBody f).length = 16 + 10 * f.pairs.length := by
  unfold encBody; rw [List.length_append, encHead_length, encPairs_length, zip_length h]
theorem enc_length {f : Fr} (h : f.valid = true) : (enc f).length = 18 + 10 * f.pairs.length := by
  unfold enc; rw [List.length_append, encBody_length h, be16_length]; omega

theorem head_byte (f : Fr) (more : List UInt8) {i : Nat} (h : i < 16) : byteAt (enc f ++ more) i = byteAt (encHead f) i := by
  rw [enc_split, byteAt_left (by rw [encHead_length]; exact h)]
theorem head_word (f : Fr) (more : List UInt8) {i : Nat} (h : i + 1 < 16) : wordAt (enc f ++ more) i = wordAt (encHead f) i := by
  rw [enc_split, wordAt_left (by rw [encHead_length]; exact h)]
theorem tail_word (f : Fr) (more : List UInt8) {k j : Nat} {x : Int × Pr} (h : (f.mates.zip f.pairs)[k]? = some x) (hj : j + 1 < 10) : wordAt (enc f ++ more) (16 + (10 * k + j)) = wordAt (encAt x) j := by
  rw [enc_split, show (16 : Nat) = (encHead f).length from rfl, wordAt_right, pair_word _ h hj]

theorem head_0 (f : Fr) (more : List UInt8) : byteAt (enc f ++ more) 0 = 87 := by rw [head_byte f more (by omega)]; rfl
theorem head_1 (f : Fr) (more : List UInt8) : byteAt (enc f ++ more) 1 = 86 := by rw [head_byte f more (by omega)]; rfl
theorem head_2 {f : Fr} (h : f.valid = true) (more : List UInt8) : byteAt (enc f ++ more) 2 = f.pairs.length := by
  have := (Fr.valid_iff.1 h).1
  rw [head_byte f more (by omega)]; simp [byteAt, encHead]; omega
theorem head_3 {f : Fr} (h : f.valid = true) (more : List UInt8) : (byteAt (enc f ++ more) 3 : Int) = f.source := by
  have h1 := (Fr.valid_iff.1 h).1
  have := (Fr.valid_iff.1 h).2.2.2.1
  rw [head_byte f more (by omega)]; simp [byteAt, encHead]; omega
theorem head_4 {f : Fr} (hok : f.ok) (more : List UInt8) : longAt (enc f ++ more) 4 = f.seq := by
  have := hok.seq
  unfold longAt
  rw [head_word f more (by omega), head_word f more (by omega)]; simp [wordAt, byteAt, encHead, be32, be16]; omega
theorem head_8 {f : Fr} (h : f.valid = true) (more : List UInt8) : (wordAt (enc f ++ more) 8 : Int) = f.point := by
  have := (Fr.valid_iff.1 h).2.2.1
  rw [head_word f more (by omega)]; simp [wordAt, byteAt, encHead, be32, be16]; omega
theorem head_10 {f : Fr} (h : f.valid = true) (more : List UInt8) : (byteAt (enc f ++ more) 10 : Int) = f.turn := by
  have := (Fr.valid_iff.1 h).2.2.2.2.1
  rw [head_byte f more (by omega)]; simp [byteAt, encHead, be32, be16]; omega
theorem head_11 (f : Fr) (more : List UInt8) : byteAt (enc f ++ more) 11 = 0 := by rw [head_byte f more (by omega)]; simp [byteAt, encHead, be32, be16]
theorem head_12 {f : Fr} (hok : f.ok) (more : List UInt8) : longAt (enc f ++ more) 12 = f.scale := by
  have := hok.scale
  unfold longAt
  rw [head_word f more (by omega), head_word f more (by omega)]; simp [wordAt, byteAt, encHead, be32, be16]; omega

/-- The frame comes back. -/
theorem decFr_enc {f : Fr} (h : f.valid = true) (hok : f.ok) (more : List UInt8) : decFr (enc f ++ more) = f := by
  have hl := (Fr.valid_iff.1 h).2.1
  have hm := (Fr.valid_iff.1 h).2.2.2.2.2.2
  have e1 : (List.range f.pairs.length).map (fun i => (wordAt (enc f ++ more) (16 + 10 * i) : Int)) = f.mates := by
    refine List.ext_getElem? fun k => ?_
    rcases Nat.lt_or_ge k f.pairs.length with hk | hk
    · rw [List.getElem?_map, List.getElem?_range hk, Option.map_some]
      have g1 : f.mates[k]? = some (f.mates[k]'(by omega)) := List.getElem?_eq_getElem (by omega)
      have g2 : f.pairs[k]? = some (f.pairs[k]'hk) := List.getElem?_eq_getElem hk
      have g3 : (f.mates.zip f.pairs)[k]? = some (f.mates[k]'(by omega), f.pairs[k]'hk) := List.getElem?_zip_eq_some.2 ⟨g1, g2⟩
      have hb := badMates_at hm g1
      rw [g1, show 16 + 10 * k = 16 + (10 * k + 0) from rfl, tail_word f more g3 (by omega), encAt_0]
      congr 1
      unfold u16n; omega
    · rw [List.getElem?_eq_none (by rw [List.length_map, List.length_range]; exact hk), List.getElem?_eq_none (by omega)]
  have e2 : (List.range f.pairs.length).map (fun i => prAt (enc f ++ more) (16 + 10 * i)) = f.pairs := by
    refine List.ext_getElem? fun k => ?_
    rcases Nat.lt_or_ge k f.pairs.length with hk | hk
    · rw [List.getElem?_map, List.getElem?_range hk, Option.map_some]
      have g1 : f.mates[k]? = some (f.mates[k]'(by omega)) := List.getElem?_eq_getElem (by omega)
      have g2 : f.pairs[k]? = some (f.pairs[k]'hk) := List.getElem?_eq_getElem hk
      have g3 : (f.mates.zip f.pairs)[k]? = some (f.mates[k]'(by omega), f.pairs[k]'hk) := List.getElem?_zip_eq_some.2 ⟨g1, g2⟩
      obtain ⟨o0, o1, o2, o3⟩ := hok.pairs _ (List.mem_of_getElem? g2)
      rw [g2]
      unfold prAt
      rw [Nat.add_assoc, tail_word f more g3 (by omega), Nat.add_assoc, tail_word f more g3 (by omega), Nat.add_assoc, tail_word f more g3 (by omega), Nat.add_assoc, tail_word f more g3 (by omega), encAt_2, encAt_4, encAt_6, encAt_8, s16_u16 o0, s16_u16 o1, s16_u16 o2, s16_u16 o3]
    · rw [List.getElem?_eq_none (by rw [List.length_map, List.length_range]; exact hk), List.getElem?_eq_none (by omega)]
  unfold decFr
  rw [head_2 h, e1, e2, head_3 h, head_4 hok, head_8 h, head_10 h, head_12 hok]

theorem head_len {f : Fr} (h : f.valid = true) (more : List UInt8) : headLen (enc f ++ more) = (enc f).length := by
  unfold headLen; rw [head_2 h, enc_length h]
theorem form_ok {l : List UInt8} (h0 : byteAt l 0 = 87) (h1 : byteAt l 1 = 86) (h2 : 1 ≤ byteAt l 2 ∧ byteAt l 2 ≤ 8) : formErr l = false := by
  unfold formErr; rw [decide_eq_false_iff_not]; omega
theorem headErr_enc {f : Fr} (h : f.valid = true) (more : List UInt8) : headErr (enc f ++ more) = 0 := by
  have hn := (Fr.valid_iff.1 h).1
  have h2 := head_2 h more
  unfold headErr
  rw [if_neg (by rw [form_ok (head_0 f more) (head_1 f more) (by omega)]; decide), if_neg]
  rw [head_len h, List.length_append, enc_length h]; omega

theorem decErr_enc {f : Fr} (h : f.valid = true) (hok : f.ok) (more : List UInt8) : decErr (enc f ++ more) = 0 := by
  have hb := encBody_length h
  have hN : headLen (enc f ++ more) - 2 = (encBody f).length := by rw [head_len h, enc_length h, hb]; omega
  unfold decErr
  rw [if_neg (by rw [headErr_enc h]; decide), hN, decFr_enc h hok, head_11, if_neg, if_neg (by rw [h]; simp)]
  rw [enc_split2, List.take_left, show (encBody f).length = (encBody f).length + 0 from rfl, wordAt_right, wordAt_be16 (crc_lt _)]
  simp

/-- A proper beginning is torn. -/
theorem torn_enc {f : Fr} (h : f.valid = true) {k : Nat} (hk : k < (enc f).length) : decErr ((enc f).take k) = 30 := by
  have hn := (Fr.valid_iff.1 h).1
  have hl : ((enc f).take k).length = k := by rw [List.length_take]; omega
  have b0 : 0 < k → byteAt ((enc f).take k) 0 = 87 := fun hk0 => by rw [byteAt_take hk0, ← List.append_nil (enc f), head_0]
  have b1 : 1 < k → byteAt ((enc f).take k) 1 = 86 := fun hk0 => by rw [byteAt_take hk0, ← List.append_nil (enc f), head_1]
  have b2 : 2 < k → byteAt ((enc f).take k) 2 = f.pairs.length := fun hk0 => by rw [byteAt_take hk0, ← List.append_nil (enc f), head_2 h]
  have e : headErr ((enc f).take k) = 30 := by
    unfold headErr
    rw [if_neg, if_pos]
    · rw [hl]
      rcases Nat.lt_or_ge k 3 with h3 | h3
      · exact .inl h3
      · right; unfold headLen; rw [b2 (by omega)]; rw [enc_length h] at hk; exact hk
    · unfold formErr; rw [hl]; simp only [decide_eq_true_eq]
      rintro (h1 | h1 | h1)
      · exact h1.2 (b0 h1.1)
      · exact h1.2 (b1 h1.1)
      · have := b2 h1.1; omega
  unfold decErr
  rw [if_pos (by rw [e]; decide), e]

theorem byteAt_set_ne {l : List UInt8} {i j : Nat} {y : UInt8} (h : i ≠ j) : byteAt (l.set i y) j = byteAt l j := by
  unfold byteAt; rw [List.getD_eq_getElem?_getD, List.getD_eq_getElem?_getD, List.getElem?_set_ne h]
theorem byteAt_set {l : List UInt8} {i : Nat} {y : UInt8} (h : i < l.length) : byteAt (l.set i y) i = y.toNat := by
  unfold byteAt; rw [List.getD_eq_getElem?_getD, List.getElem?_set_self h]; rfl

/-- A changed byte is an error, other than the number of ports. -/
theorem changed_enc {f : Fr} (h : f.valid = true) (hok : f.ok) {i : Nat} {x y : UInt8} (hx : (enc f)[i]? = some x) (hne : x ≠ y) (hi2 : i ≠ 2) : decErr ((enc f).set i y) ≠ 0 := by
  have hil := (List.getElem?_eq_some_iff.1 hx).1
  have hn := (Fr.valid_iff.1 h).1
  have hL := enc_length h
  have hxv : x.toNat = byteAt (enc f) i := byteAt_get hx
  have hyv := byteAt_set (y := y) hil
  have hxy : x.toNat ≠ y.toNat := fun e => hne (UInt8.toNat_inj.1 e)
  have hsl : ((enc f).set i y).length = (enc f).length := List.length_set
  have e0 := head_0 f []
  have e1 := head_1 f []
  have e2 := head_2 h []
  have ez := decErr_enc h hok []
  have eN := head_len h []
  have eh := headErr_enc h []
  rw [List.append_nil] at e0 e1 e2 ez eN eh
  have hform : i < 3 → headErr ((enc f).set i y) = 2 := fun hi => by
    have : formErr ((enc f).set i y) = true := by
      unfold formErr
      rw [decide_eq_true_eq, hsl]
      rcases (show i = 0 ∨ i = 1 by omega) with rfl | rfl
      · left; exact ⟨hil, by rw [hyv]; omega⟩
      · right; left; exact ⟨hil, by rw [hyv]; omega⟩
    unfold headErr
    rw [if_pos this]
  rcases Nat.lt_or_ge i 3 with hi | hi
  · have := hform hi
    unfold decErr
    rw [if_pos (by rw [this]; decide), this]
    decide
  · have s2 : byteAt ((enc f).set i y) 2 = byteAt (enc f) 2 := byteAt_set_ne (by omega)
    have sN : headLen ((enc f).set i y) = headLen (enc f) := by unfold headLen; rw [s2]
    have hcrc : crc ((enc f).take (headLen (enc f) - 2)) = wordAt (enc f) (headLen (enc f) - 2) := by
      unfold decErr at ez
      rw [if_neg (by omega)] at ez
      by_cases hc : crc ((enc f).take (headLen (enc f) - 2)) = wordAt (enc f) (headLen (enc f) - 2)
      · exact hc
      · rw [if_pos hc] at ez; cases ez
    have hcrc' : crc (((enc f).set i y).take (headLen (enc f) - 2)) ≠ wordAt ((enc f).set i y) (headLen (enc f) - 2) := by
      rcases Nat.lt_or_ge i (headLen (enc f) - 2) with hlt | hge
      · have w1 : wordAt ((enc f).set i y) (headLen (enc f) - 2) = wordAt (enc f) (headLen (enc f) - 2) := by unfold wordAt; rw [byteAt_set_ne (by omega), byteAt_set_ne (by omega)]
        rw [w1, ← hcrc]
        intro hc
        refine hne (crc_changed (u := (enc f).take i) (v := ((enc f).take (headLen (enc f) - 2)).drop (i + 1)) (x := x) (y := y) ?_)
        have hlen : ((enc f).take (headLen (enc f) - 2)).length = headLen (enc f) - 2 := by rw [List.length_take]; omega
        have g : ((enc f).take (headLen (enc f) - 2))[i]? = some x := by rw [List.getElem?_take_of_lt hlt, hx]
        have d1 : (enc f).take (headLen (enc f) - 2) = (enc f).take i ++ x :: ((enc f).take (headLen (enc f) - 2)).drop (i + 1) := by
          have t := List.take_append_drop i ((enc f).take (headLen (enc f) - 2))
          rw [List.drop_eq_getElem_cons (by omega), (List.getElem?_eq_some_iff.1 g).2, List.take_take, Nat.min_eq_left (by omega)] at t
          exact t.symm
        have d2 : ((enc f).set i y).take (headLen (enc f) - 2) = (enc f).take i ++ y :: ((enc f).take (headLen (enc f) - 2)).drop (i + 1) := by
          rw [List.take_set]
          have hl : ((enc f).take i).length = i := by rw [List.length_take]; omega
          conv => lhs; rw [d1]
          rw [List.set_append_right _ _ (by omega), hl, Nat.sub_self, List.set_cons_zero]
        rw [← d1, ← d2, hc]
      · have t1 : ((enc f).set i y).take (headLen (enc f) - 2) = (enc f).take (headLen (enc f) - 2) := by
          rw [List.take_set, List.set_eq_of_length_le (by rw [List.length_take]; omega)]
        rw [t1, hcrc]
        unfold wordAt
        rcases (show i = headLen (enc f) - 2 ∨ i = headLen (enc f) - 2 + 1 by omega) with e | e
        · rw [← e, byteAt_set_ne (j := i + 1) (by omega), hyv]
          omega
        · rw [← e, byteAt_set_ne (j := headLen (enc f) - 2) (by omega), hyv]
          omega
    unfold decErr
    rw [sN]
    split
    · assumption
    · first | (rw [if_pos hcrc']; decide) | decide
end Go.Proofs.YtohnlmfmpflbpaaGreat
