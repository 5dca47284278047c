/- Decimal digits of natural numbers, and lists that are turned round in place. Conditions: none. slices.Reverse of bytes, digits, part, Text. Conditions: fewer than 2^20 bits. -/
import Derived.Test.YtohnlmfmpflbpaaGreatMNumD
import Derived.RegionTactic
import Derived.BigRegion
set_option linter.unusedSimpArgs false
set_option linter.unusedVariables false
set_option linter.all false
namespace Go.Proofs.YtohnlmfmpflbpaaGreat

/-- The byte of a digit. -/
def digit (d : Nat) : UInt8 := UInt8.ofNat (48 + d % 10)

def decF : Nat → Nat → List UInt8
  | 0, _ => []
  | f + 1, n => if n = 0 then [] else digit n :: decF f (n / 10)

/-- The decimal digits, the lowest one first; none for 0. -/
def decRev (n : Nat) : List UInt8 := decF n n

theorem decF_eq : ∀ (f g n : Nat), n ≤ f → n ≤ g → decF f n = decF g n
  | 0, 0, _, _, _ => rfl
  | 0, g + 1, n, h, _ => by
    obtain rfl : n = 0 := by omega
    simp [decF]
  | f + 1, 0, n, _, h => by
    obtain rfl : n = 0 := by omega
    simp [decF]
  | f + 1, g + 1, n, h1, h2 => by
    by_cases h : n = 0
    · simp [decF, h]
    · simp only [decF, h, if_false]
      rw [decF_eq f g (n / 10) (by omega) (by omega)]

theorem decRev_zero : decRev 0 = [] := rfl
theorem decRev_step {n : Nat} (h : 0 < n) : decRev n = digit n :: decRev (n / 10) := by
  obtain ⟨m, rfl⟩ : ∃ m, n = m + 1 := ⟨n - 1, by omega⟩
  show decF (m + 1) (m + 1) = _
  simp only [decF, Nat.add_one_ne_zero, if_false]
  rw [decF_eq m ((m + 1) / 10) _ (by omega) (Nat.le_refl _)]
  rfl

/-- The decimal text. -/
def dec (n : Nat) : List UInt8 := if n = 0 then [48] else (decRev n).reverse

theorem decRev_length : ∀ (k n : Nat), n < 2 ^ k → (decRev n).length ≤ k
  | 0, n, h => by
    obtain rfl : n = 0 := by simpa using h
    simp [decRev_zero]
  | k + 1, n, h => by
    by_cases h0 : n = 0
    · subst h0; simp [decRev_zero]
    · rw [decRev_step (by omega), List.length_cons]
      have := decRev_length k (n / 10) (by rw [Nat.pow_succ] at h; omega)
      omega

/-- The digit of a number that is put together from a lower part and a higher one. -/
theorem dec_low {r q p : Nat} : (r + q * (10 * p)) % 10 = r % 10 ∧ (r + q * (10 * p)) / 10 = r / 10 + q * p := by
  have e : r + q * (10 * p) = r + 10 * (q * p) := by rw [Nat.mul_left_comm]
  rw [e]
  exact ⟨Nat.add_mul_mod_self_left _ _ _, Nat.add_mul_div_left _ _ (by omega)⟩

theorem digit_low {r q p : Nat} : digit (r + q * (10 * p)) = digit r := by
  unfold digit; rw [dec_low.1]

theorem dec_round {l D : List UInt8} {r q p : Nat} (h : l ++ decRev (r + q * 10 ^ (p + 1)) = D) (hy : 0 < r + q * 10 ^ (p + 1)) : (l ++ [digit r]) ++ decRev (r / 10 + q * 10 ^ p) = D := by
  rw [decRev_step hy, Nat.pow_succ, Nat.mul_comm (10 ^ p) 10, digit_low, dec_low.2] at h
  rw [← h]
  simp

theorem digit_val (r : Nat) : (48 : Int) + (r : Int) % 10 = (((digit r).toNat : Nat) : Int) := by
  unfold digit
  have : (UInt8.ofNat (48 + r % 10)).toNat = 48 + r % 10 := by simp; omega
  rw [this]; omega

/-- A list of which i elements at each end have been exchanged. -/
def turned {α : Type} [Inhabited α] (l : List α) (i : Nat) : List α := (List.range l.length).map fun j => if j < i ∨ l.length ≤ j + i then l[l.length - 1 - j]! else l[j]!

theorem turned_length {α : Type} [Inhabited α] (l : List α) (i : Nat) : (turned l i).length = l.length := by simp [turned]
theorem turned_get {α : Type} [Inhabited α] (l : List α) (i j : Nat) (h : j < l.length) : (turned l i)[j]? = some (if j < i ∨ l.length ≤ j + i then l[l.length - 1 - j]! else l[j]!) := by
  simp [turned, h]
theorem turned_zero {α : Type} [Inhabited α] (l : List α) : turned l 0 = l := by
  apply List.ext_getElem?
  intro j
  rcases Nat.lt_or_ge j l.length with h | h
  · rw [turned_get l 0 j h, if_neg (by omega), List.getElem?_eq_getElem h]
    simp [h]
  · rw [List.getElem?_eq_none (by simpa [turned_length] using h), List.getElem?_eq_none h]
theorem turned_end {α : Type} [Inhabited α] (l : List α) (i : Nat) (h : l.length ≤ 2 * i + 1) : turned l i = l.reverse := by
  apply List.ext_getElem?
  intro j
  rcases Nat.lt_or_ge j l.length with hj | hj
  · rw [turned_get l i j hj, List.getElem?_reverse hj, List.getElem?_eq_getElem (by omega)]
    by_cases hc : j < i ∨ l.length ≤ j + i
    · rw [if_pos hc, getElem!_pos l _ (by omega)]
    · rw [if_neg hc]
      have e : l.length - 1 - j = j := by omega
      simp [e, hj]
  · rw [List.getElem?_eq_none (by simpa [turned_length] using hj), List.getElem?_eq_none (by simpa using hj)]
theorem turned_step {α : Type} [Inhabited α] (l : List α) (i : Nat) (h : 2 * i + 1 < l.length) : ((turned l i).set i l[l.length - 1 - i]!).set (l.length - 1 - i) l[i]! = turned l (i + 1) := by
  apply List.ext_getElem?
  intro j
  rcases Nat.lt_or_ge j l.length with hj | hj
  · rw [turned_get l (i + 1) j hj, List.getElem?_set, List.getElem?_set, List.length_set, turned_length, turned_get l i j hj]
    by_cases h1 : l.length - 1 - i = j
    · subst h1
      rw [if_pos rfl, if_pos (by omega), if_pos (by omega)]
      congr 2; omega
    · rw [if_neg h1]
      by_cases h2 : i = j
      · subst h2
        rw [if_pos rfl, if_pos (by omega), if_pos (by omega)]
      · rw [if_neg h2]
        congr 1
        by_cases hc : j < i ∨ l.length ≤ j + i
        · rw [if_pos hc, if_pos (by omega)]
        · rw [if_neg hc, if_neg (by omega)]
  · rw [List.getElem?_eq_none (by simp [turned_length]; omega), List.getElem?_eq_none (by simp [turned_length]; omega)]
end Go.Proofs.YtohnlmfmpflbpaaGreat

namespace Go.Proofs.YtohnlmfmpflbpaaGreat
open Go.RowKit

theorem grown_drew {a w : World} {row : Option Nat} (h : a.grownBy w row) : a.grownBy w.drew row := ⟨h.os, h.tape, h.output, h.size, h.block⟩

/-- A byte. -/
def byteV (b : UInt8) : Value := .int .u8 ((b.toNat : Nat) : Int)

set_option maxRecDepth 100000 in
set_option maxHeartbeats 800000 in
theorem reverse_spec (l : List UInt8) (sp : List Value) (g n cap : Nat) (w : World) (ho : Own w 5 g (l.map byteV ++ sp)) (Hn : Hid (l.length = n)) (hn : n ≤ 4611686018427387904) :
    Calls Tryz.prog 121 #[.slice (some ⟨g, 0, none⟩) n cap] w (fun e w' => e = .returned (.tuple #[]) ∧ Own w' 5 g (l.reverse.map byteV ++ sp) ∧ w.grownBy w' (some g)) := by
  go_enter Tryz.func121, Tryz.ntmps121
  go_wp2_with fail
  go_loopw [2, 3] (fun iv jv wr => ∃ i : Nat, 2 * i ≤ n + 1 ∧ iv = .int .i64 (i : Int) ∧ jv = .int .i64 ((n : Int) - 1 - i) ∧ Own wr 5 g ((turned l i).map byteV ++ sp) ∧ w.grownBy wr (some g)) (fun _ j _ => (intOf j + 1).toNat)
  case atStart => exact ⟨0, by omega, rfl, by simp, by rw [turned_zero]; exact ho, grown_refl _ _⟩
  case round =>
    clear ho
    obtain ⟨i, hi, rfl, rfl, ho, hg⟩ := hrel
    by_cases hlt : 2 * i + 1 < n
    · have e1 : (n : Int) - 1 - i = ((n - 1 - i : Nat) : Int) := by omega
      rw [e1]
      have hj : n - 1 - i < n := by omega
      generalize hjj : n - 1 - i = j at *
      have Hj := Lib.hid hjj
      clear hjj e1
      have hij : i < j := by have := Hj.out; omega
      obtain ⟨x, hx⟩ : ∃ x, x = l[i]! := ⟨_, rfl⟩
      obtain ⟨y, hy⟩ : ∃ y, y = l[l.length - 1 - i]! := ⟨_, rfl⟩
      have ei : (turned l i)[i]? = some x := by rw [turned_get l i i (by have := Hn.out; omega), if_neg (by have := Hn.out; omega), hx]
      have ej : (turned l i)[j]? = some y := by rw [turned_get l i j (by have := Hn.out; omega), if_neg (by have := Hn.out; have := Hj.out; omega), hy]; congr 2; have := Hn.out; have := Hj.out; omega
      have hci := ho.cell i (byteV x) (by rw [List.getElem?_append_left (by rw [List.length_map, turned_length]; have := Hn.out; omega), List.getElem?_map, ei]; rfl)
      have hcj := ho.cell j (byteV y) (by rw [List.getElem?_append_left (by rw [List.length_map, turned_length]; have := Hn.out; omega), List.getElem?_map, ej]; rfl)
      have hfi := ho.free i
      have hfj := ho.free j
      have Hx := Lib.hid hx
      have Hy := Lib.hid hy
      unfold byteV at hci hcj
      clear hx hy ei ej
      go_wp2_with fail
      go_region
      go_wp2_with fail
      go_roundw
      case rel =>
        have hst := turned_step l i (by have := Hn.out; omega)
        rw [← Hx.out, ← Hy.out, show l.length - 1 - i = j from by have := Hn.out; have := Hj.out; omega] at hst
        refine ⟨i + 1, by omega, by go_num, int_of (by have := Hj.out; omega), ?_, grown_drew (grown_set (grown_set hg _ _) _ _)⟩
        have h2 := (ho.set i (byteV y)).set j (byteV x)
        rw [List.set_append_left _ _ (by rw [List.length_map, turned_length]; have := Hn.out; omega), ← List.map_set, List.set_append_left _ _ (by rw [List.length_map, List.length_set, turned_length]; have := Hn.out; omega), ← List.map_set, hst] at h2
        exact h2
      case measure => simp [intOf]
    · have hfin := turned_end l i (by have := Hn.out; omega)
      rw [hfin] at ho
      have hge : ¬ ((i : Int) < (n : Int) - 1 - i) := by omega
      clear hfin
      go_wp2_with fail
      go_end0
      exact ⟨rfl, by rw [List.map_reverse] at *; exact ho, hg⟩

theorem info_u8 : (Tryz.prog.info? 5).map (fun i => (i.zero, i.size, i.bytes)) = some (some (.int .u8 0), 1, 1) := by kernel_rfl

/-- `v` is a slice of bytes of the call's own that holds l (it may have room). -/
def OwnB (w : World) (base : Nat) (v : Value) (l : List UInt8) : Prop := w.ownsRow base 5 1 v l.length (l.map byteV)

theorem grown_of_below {w w' : World} (hb : Below w.heap.size w w') (row : Option Nat) : w.grownBy w' row := ⟨hb.os, hb.tape, hb.output, hb.size, fun k hk _ => hb.block k hk⟩

theorem OwnB.below {w w' : World} {base : Nat} {v : Value} {l : List UInt8} (h : OwnB w base v l) (hb : Below w.heap.size w w') : OwnB w' base v l :=
  World.ownsRow.kept h (grown_of_below hb none) (by cases v.ownBlock <;> simp)

theorem OwnB.shape {w : World} {base : Nat} {v : Value} {l : List UInt8} (h : OwnB w base v l) : ∃ (a : Option Addr) (cap : Nat), v = .slice a l.length cap ∧ l.length ≤ cap ∧ cap ≤ 9223372036854775807 := by
  obtain ⟨_, h2⟩ := h
  rcases h2 with ⟨rfl, h⟩ | ⟨g, cap, cur, rfl, _, _, h3, h4, _⟩
  · exact ⟨none, 0, by rw [h], by omega, by omega⟩
  · exact ⟨_, cap, rfl, h3, by unfold maxLen at h4; exact h4⟩

/-- append(out, b): one byte. -/
theorem append_byte (W : World) {ops : Array Oper} {rest : List Oper} {o : Oper} {a : Act} {Q : Exit → Act → World → Prop} (hgd : o.guard = none) (s x : Operand) (t : TypeId)
    (ho : o.op = .call { callee := .builtin .append, args := #[s, x], argTypes := #[t, t] }) (ht : Tryz.prog.underlying t = some (.slice 5)) (base : Nat) (v : Value) (l : List UInt8) (b : UInt8) (z : Int)
    (hz : z = ((b.toNat : Nat) : Int)) (hs : a.eval s = v) (hx : a.eval x = .slice (some ⟨W.heap.size, 0, none⟩) 1 1) (hO : OwnB W base v l) (hl : l.length < 1099511627776) (hbase : base ≤ W.heap.size)
    (K : ∀ v' w', OwnB w' base v' (l ++ [b]) → W.grownBy w' v.ownBlock → wpList Tryz.prog ops Q rest (a.put o.dst v') w') :
    wpList Tryz.prog ops Q (o :: rest) a (W.alloc (.cells #[.int .u8 z] 5)) := by
  obtain ⟨i0, hi, hz0, hz1, hz2⟩ := info_parts info_u8
  refine wpList_append_own _ hgd s x t ho base 5 i0 (.int .u8 0) 1 1 ht hi hz0 hz1 hz2 rfl (by decide) v l.length (l.map byteV) hs (World.ownsRow.alloc hO _) ⟨W.heap.size, 0, none⟩ 1 1 [.int .u8 z] hx rfl ?_ ?_ (by unfold maxLen; omega) (by omega) (by simp; omega) ?_
  · intro j u hj
    have hj0 : j = 0 := by
      rcases Nat.eq_zero_or_pos j with h | h
      · exact h
      · rw [List.getElem?_eq_none (by simp; omega)] at hj; cases hj
    subst hj0
    simp only [List.getElem?_cons_zero, Option.some.injEq] at hj
    subst hj
    exact (own_new W 5 [.int .u8 z]).cell 0 _ rfl
  · intro u hu
    simp only [List.mem_singleton] at hu
    subst hu
    rfl
  · intro v' w' h1 h2 _
    refine K v' w' ?_ (grown_trans (World.grownBy_alloc W _ _) h2)
    unfold OwnB
    rw [List.length_append, List.map_append]
    have e : [byteV b] = [.int .u8 z] := by unfold byteV; rw [hz]
    show World.ownsRow _ _ _ _ _ (l.length + 1) (l.map byteV ++ [byteV b])
    rw [e]
    exact h1

set_option maxRecDepth 100000 in
set_option maxHeartbeats 1600000 in
theorem digits_spec (v : Value) (n k : Nat) (w : World) (h : NatRep w v n) (hn : n < 2 ^ k) (hk : k ≤ 1048576) :
    Calls Tryz.prog 80 #[v] w (Ret w fun _ v' => v' = .string ⟨(dec n).toArray⟩) := by
  obtain ⟨a, len, cap, rfl, hlen, hcap, hmax⟩ := h.any
  by_cases h0 : n = 0
  · obtain rfl : len = 0 := hlen.2 h0
    subst h0
    clear hlen
    go_enter Tryz.func80, Tryz.ntmps80
    go_wp2
    go_ret
    exact ⟨_, rfl, rfl, Below.refl _ _⟩
  have hl0 : ((len : Int) == 0) = false := by
    have : len ≠ 0 := fun e => h0 (hlen.1 e)
    simp; omega
  have hd : Hid (dec n = (decRev n).reverse) := show _ = _ by unfold dec; rw [if_neg h0]
  have hdl := decRev_length k n hn
  have Hdl := Lib.hid hdl
  have Hn := Lib.hid hn
  have H0 := Lib.hid h0
  obtain ⟨i0, hi, hz0, hz1, hz2⟩ := info_parts info_u8
  clear hdl hn h0 hlen
  go_enter Tryz.func80, Tryz.ntmps80
  go_wp2_with fail
  go_loopg [0, 3] n (fun g s0 s3 wr => ∃ l : List UInt8, NatRep wr s0 g ∧ OwnB wr w.heap.size s3 l ∧ Hid (l ++ decRev g = decRev n) ∧ Hid (g ≤ n) ∧ Below w.heap.size w wr)
  case atStart => exact ⟨[], h, World.ownsRow_nil _ _ _ _, rfl, Nat.le_refl n, Below.refl _ _⟩
  case round =>
    obtain ⟨gx, rfl⟩ : ∃ gx : Nat, gx = gk := ⟨_, rfl⟩
    obtain ⟨l, r1, ow, He, Hg, hb⟩ := hrel
    obtain ⟨a', len', cap', rfl, hlen', hcap', hmax'⟩ := r1.any
    by_cases hg0 : gx = 0
    · obtain rfl : len' = 0 := hlen'.2 hg0
      subst hg0
      clear hlen'
      have hl : l = decRev n := by have h := He.out; rw [decRev_zero, List.append_nil] at h; exact h
      have hlk : l.length ≤ k := by rw [hl]; exact Hdl.out
      have hne : l ≠ [] := fun e => by
        rw [hl, decRev_step (Nat.pos_of_ne_zero H0.out)] at e
        cases e
      obtain ⟨_, hrow⟩ := ow
      rcases hrow with ⟨_, hz⟩ | ⟨g, cap3, cur, rfl, hbg, hgc, hlc, hmc, hsz, htk⟩
      · exact absurd (List.eq_nil_of_length_eq_zero hz) hne
      · rw [Nat.mul_one] at htk
        have ho : Own wr 5 g (l.map byteV ++ cur.toList.drop l.length) := by
          unfold Own
          rw [hgc, ← htk, List.take_append_drop]
        have HL := Lib.hid hl
        obtain ⟨ln, hln⟩ : ∃ ln, ln = l.length := ⟨_, rfl⟩
        have Hln : Hid (l.length = ln) := hln.symm
        rw [← hln] at hlk hlc ho ⊢
        unfold maxLen at hmc
        clear hl hne hgc hsz htk hln
        go_wp2_with fail
        refine (reverse_spec l _ g ln cap3 wr ho Hln (by omega)).mono ?_
        rintro e w3 ⟨rfl, ho3, hg3⟩
        have hB3 := hb.grown hg3 hb.size (fun j hj => by obtain rfl := Option.some.inj hj; exact hbg)
        have hcv := run_convert_bytes_arg (P := Tryz.prog) w3 31 5 Tryz.underlying31 Tryz.underlying5 g 0 ln cap3 (l.reverse.map fun b => ((b.toNat : Nat) : Int)) (by simp [Hln.out]) (fun i hi => by
          have hil : i < l.reverse.length := by rw [List.length_reverse, Hln.out]; exact hi
          rw [Nat.zero_add]
          refine ho3.cell i _ ?_
          rw [List.getElem?_append_left (by simpa using hil), List.getElem?_map, List.getElem?_eq_getElem hil]
          rw [List.getD_eq_getElem?_getD, List.getElem?_map, List.getElem?_eq_getElem hil]
          rfl) 9 Tryz.underlying9
        have hstr : strOfNums (l.reverse.map fun b => ((b.toNat : Nat) : Int)) = ⟨l.reverse.toArray⟩ := by
          have h := strOfNums_data (l.reverse.map fun b => ((b.toNat : Nat) : Int))
          rw [List.map_map] at h
          have e : ((fun n : Int => UInt8.ofNat n.toNat) ∘ fun b : UInt8 => ((b.toNat : Nat) : Int)) = id := by funext b; simp
          rw [e, List.map_id] at h
          cases hs : strOfNums (l.reverse.map fun b => ((b.toNat : Nat) : Int)) with
          | mk d =>
            rw [hs] at h
            have h2 : d.toList = l.reverse := h
            rw [← h2, Array.toArray_toList]
        rw [hstr] at hcv
        have hres : l.reverse = dec n := by rw [hd.out, HL.out]
        generalize l.reverse = lr at *
        have HR := Lib.hid hres
        clear hstr hres
        go_wp2_with fail
        go_ret
        exact ⟨_, rfl, congrArg (fun z : List UInt8 => Value.string ⟨z.toArray⟩) HR.out, hB3⟩
    · have hl1 : 0 < len' := by
        rcases Nat.eq_zero_or_pos len' with h | h
        · exact absurd (hlen'.1 h) hg0
        · exact h
      clear hlen'
      go_wp2_with fail
      refine (short_spec _ gx 1000000000 k wr r1 (by omega) (by omega) (Nat.lt_of_le_of_lt Hg.out Hn.out) (by omega)).mono ?_
      rintro e w2 ⟨_, rfl, ⟨q, rfl, hq⟩, hb2⟩
      have ow2 := ow.below hb2
      have hb := hb.trans (hb2.mono hb.size)
      obtain ⟨q', hq'⟩ : ∃ q', q' = gx / 1000000000 := ⟨_, rfl⟩
      obtain ⟨r0, hr0⟩ : ∃ r0, r0 = gx % 1000000000 := ⟨_, rfl⟩
      rw [← hq'] at hq
      rw [← hr0]
      have hr1 : r0 < 1000000000 := by omega
      have hqs : q' < gx := by omega
      have He2 : Hid (l ++ decRev (r0 + q' * 10 ^ 9) = decRev n) := show _ = _ by rw [show r0 + q' * 10 ^ 9 = gx from by omega]; exact He.out
      obtain ⟨aq, lq, cq', rfl, hlq, hcq, hmq⟩ := hq.any
      clear hq' hr0 ow r1 He
      go_wp2_with fail
      obtain ⟨wo, rfl⟩ : ∃ wo : World, wo = w2 := ⟨_, rfl⟩
      go_loopg [3, 4, 5] 9 (fun m s3 s4 s5 wi => ∃ (kk r : Nat) (l : List UInt8), kk + m = 9 ∧ s4 = .int .u32 (r : Int) ∧ s5 = .int .i64 (kk : Int) ∧ r < 10 ^ m ∧ OwnB wi w.heap.size s3 l ∧ Hid (l ++ decRev (r + q' * 10 ^ m) = decRev n) ∧ NatRep wi (.slice aq lq cq') q' ∧ Below w.heap.size w wi)
      case atStart => exact ⟨0, r0, l, rfl, rfl, rfl, by omega, ow2, He2, hq, hb⟩
      case round =>
        clear ow2 He2 hq hb
        obtain ⟨kk, r, l', hkm, rfl, rfl, hr, ow, He, hq, hb⟩ := hrel
        have hback : (gk = 0 ∨ lq = 0 ∧ r = 0) → Hid (l' ++ decRev q' = decRev n) := fun hc => by
          have h := He.out
          show _ = _
          rcases hc with rfl | ⟨h1, h2⟩
          · obtain rfl : r = 0 := by simpa using hr
            simpa using h
          · have hq0 : q' = 0 := hlq.1 h1
            rw [hq0] at h ⊢
            rw [h2] at h
            simpa using h
        have HBk := Lib.hid hback
        have Hlq := Lib.hid hlq
        clear hback hlq
        by_cases hm : gk = 0
        · obtain rfl : kk = 9 := by omega
          have He3 := HBk.out (.inl hm)
          clear hm
          go_wp2_with fail
          go_roundg q'
          case measure => exact hqs
          case rel => exact ⟨l', hq, ow, He3, show _ ≤ _ from Nat.le_trans (Nat.le_of_lt hqs) Hg.out, hb⟩
        · obtain ⟨p, rfl⟩ : ∃ p, gk = p + 1 := ⟨gk - 1, by omega⟩
          have hk9 : decide ((kk : Int) < 9) = true := by simp; omega
          by_cases hy : lq = 0 ∧ r = 0
          · have He3 := HBk.out (.inr hy)
            obtain ⟨rfl, rfl⟩ := hy
            go_wp2_with fail
            go_roundg q'
            case measure => exact hqs
            case rel => exact ⟨l', hq, ow, He3, show _ ≤ _ from Nat.le_trans (Nat.le_of_lt hqs) Hg.out, hb⟩
          · have hyp : 0 < r + q' * 10 ^ (p + 1) := by
              rcases Nat.eq_zero_or_pos r with h | h
              · have : lq ≠ 0 := fun e => hy ⟨e, h⟩
                have hq0 : 0 < q' := Nat.pos_of_ne_zero fun e => this (Hlq.out.2 e)
                have := Nat.mul_pos hq0 (Nat.pow_pos (n := p + 1) (show 0 < 10 by omega))
                omega
              · omega
            have He3 := Lib.hid (dec_round He.out hyp)
            have hll : l'.length < 1099511627776 := by
              have h := congrArg List.length He.out
              rw [List.length_append] at h
              have := Hdl.out
              omega
            have hrp : r / 10 < 10 ^ p := by rw [Nat.pow_succ] at hr; omega
            have Hrp := Lib.hid hrp
            have Hr := Lib.hid hr
            have hr32 : r < 4294967296 := by
              have h1 : 10 ^ (p + 1) ≤ 10 ^ 9 := Nat.pow_le_pow_right (by omega) (by omega)
              omega
            have hcase : (lq = 0 ∧ 0 < r) ∨ 0 < lq := by omega
            have hbs := hb.size
            clear hyp hy hrp hr
            rcases hcase with ⟨rfl, hr0⟩ | hlq0
            all_goals
              go_wp2_with (at_builtin; go_must (refine append_byte wr rfl (.tmp 30) (.tmp 35) _ rfl Tryz.underlying31 w.heap.size _ l' (digit r) _ (digit_val r) rfl rfl ow hll hbs ?_); intro v3 w3 ow3 hg3)
              go_roundg p
              case measure => omega
              case rel => exact ⟨kk + 1, r / 10, l' ++ [digit r], by omega, int_of (by omega), by go_num, Hrp.out, ow3, He3.out, NatRep.row hq ow (by decide) hg3, hb.grown hg3 hbs (fun j hj => (World.ownsRow.lt ow _ hj).1)⟩
end Go.Proofs.YtohnlmfmpflbpaaGreat
