/- Decimal digits of natural numbers, and lists that are turned round in place. Conditions: none. slices.Reverse of bytes, digits, part, Text. Conditions: fewer than 2^20 bits. The text of numbers: part, Text. Conditions: fewer than 2^20 bits. -/
import Derived.Test.YtfkogkcpndaoeaaGreatMNumD
import Derived.RegionTactic
import Derived.BigRegion
set_option linter.all false
namespace Go.Proofs.YtfkogkcpndaoeaaGreat
def digit (d : Nat) : UInt8 := UInt8.ofNat (48 + d % 10)
def decF : Nat → Nat → List UInt8
  | 0, _ => []
  | f + 1, n => if n = 0 then [] else digit n :: decF f (n / 10)
def decRev (n : Nat) : List UInt8 := decF n n
theorem decF_eq : ∀ (f g n : Nat), n ≤ f → n ≤ g → decF f n = decF g n
  | 0, 0, _, _, _ => rfl
  | 0, g + 1, n, h, _ => by
    obtain rfl : n = 0 := by omega
    simp [decF]
  | f + 1, 0, n, _, h => by
    obtain rfl : n = 0 := by omega
    simp [decF]
  | f + 1, g + 1, n, h1, h2 => by
    by_cases h : n = 0
    · simp [decF, h]
    · simp only [decF, h, if_false]
      rw [decF_eq f g (n / 10) (by omega) (by omega)]
theorem decRev_zero : decRev 0 = [] := rfl
theorem decRev_step {n : Nat} (h : 0 < n) : decRev n = digit n :: decRev (n / 10) := by
  obtain ⟨m, rfl⟩ : ∃ m, n = m + 1 := ⟨n - 1, by omega⟩
  show decF (m + 1) (m + 1) = _
  simp only [decF, Nat.add_one_ne_zero, if_false]
  rw [decF_eq m ((m + 1) / 10) _ (by omega) (Nat.le_refl _)]
  rfl
def dec (n : Nat) : List UInt8 := if n = 0 then [48] else (decRev n).reverse
theorem decRev_length : ∀ (k n : Nat), n < 2 ^ k → (decRev n).length ≤ k
  | 0, n, h => by
    obtain rfl : n = 0 := by simpa using h
    simp [decRev_zero]
  | k + 1, n, h => by
    by_cases h0 : n = 0
    · subst h0; simp [decRev_zero]
    · rw [decRev_step (by omega), List.length_cons]
      have := decRev_length k (n / 10) (by rw [Nat.pow_succ] at h; omega)
      omega
theorem dec_low {r q p : Nat} : (r + q * (10 * p)) % 10 = r % 10 ∧ (r + q * (10 * p)) / 10 = r / 10 + q * p := by
  have e : r + q * (10 * p) = r + 10 * (q * p) := by rw [Nat.mul_left_comm]
  rw [e]
  exact ⟨Nat.add_mul_mod_self_left _ _ _, Nat.add_mul_div_left _ _ (by omega)⟩
theorem digit_low {r q p : Nat} : digit (r + q * (10 * p)) = digit r := by
  unfold digit; rw [dec_low.1]
theorem dec_round {l D : List UInt8} {r q p : Nat} (h : l ++ decRev (r + q * 10 ^ (p + 1)) = D) (hy : 0 < r + q * 10 ^ (p + 1)) : (l ++ [digit r]) ++ decRev (r / 10 + q * 10 ^ p) = D := by
  rw [decRev_step hy, Nat.pow_succ, Nat.mul_comm (10 ^ p) 10, digit_low, dec_low.2] at h
  rw [← h]
  simp
theorem digit_val (r : Nat) : (48 : Int) + (r : Int) % 10 = (((digit r).toNat : Nat) : Int) := by
  unfold digit
  have : (UInt8.ofNat (48 + r % 10)).toNat = 48 + r % 10 := by simp; omega
  rw [this]; omega
def turned {α : Type} [Inhabited α] (l : List α) (i : Nat) : List α := (List.range l.length).map fun j => if j < i ∨ l.length ≤ j + i then l[l.length - 1 - j]! else l[j]!
theorem turned_length {α : Type} [Inhabited α] (l : List α) (i : Nat) : (turned l i).length = l.length := by simp [turned]
theorem turned_get {α : Type} [Inhabited α] (l : List α) (i j : Nat) (h : j < l.length) : (turned l i)[j]? = some (if j < i ∨ l.length ≤ j + i then l[l.length - 1 - j]! else l[j]!) := by
  simp [turned, h]
theorem turned_zero {α : Type} [Inhabited α] (l : List α) : turned l 0 = l := by
  apply List.ext_getElem?
  intro j
  rcases Nat.lt_or_ge j l.length with h | h
  · rw [turned_get l 0 j h, if_neg (by omega), List.getElem?_eq_getElem h]
    simp [h]
  · rw [List.getElem?_eq_none (by simpa [turned_length] using h), List.getElem?_eq_none h]
theorem turned_end {α : Type} [Inhabited α] (l : List α) (i : Nat) (h : l.length ≤ 2 * i + 1) : turned l i = l.reverse := by
  apply List.ext_getElem?
  intro j
  rcases Nat.lt_or_ge j l.length with hj | hj
  · rw [turned_get l i j hj, List.getElem?_reverse hj, List.getElem?_eq_getElem (by omega)]
    by_cases hc : j < i ∨ l.length ≤ j + i
    · rw [if_pos hc, getElem!_pos l _ (by omega)]
    · rw [if_neg hc]
      have e : l.length - 1 - j = j := by omega
      simp [e, hj]
  · rw [List.getElem?_eq_none (by simpa [turned_length] using hj), List.getElem?_eq_none (by simpa using hj)]
theorem turned_step {α : Type} [Inhabited α] (l : List α) (i : Nat) (h : 2 * i + 1 < l.length) : ((turned l i).set i l[l.length - 1 - i]!).set (l.length - 1 - i) l[i]! = turned l (i + 1) := by
  apply List.ext_getElem?
  intro j
  rcases Nat.lt_or_ge j l.length with hj | hj
  · rw [turned_get l (i + 1) j hj, List.getElem?_set, List.getElem?_set, List.length_set, turned_length, turned_get l i j hj]
    by_cases h1 : l.length - 1 - i = j
    · subst h1
      rw [if_pos rfl, if_pos (by omega), if_pos (by omega)]
      congr 2; omega
    · rw [if_neg h1]
      by_cases h2 : i = j
      · subst h2
        rw [if_pos rfl, if_pos (by omega), if_pos (by omega)]
      · rw [if_neg h2]
        congr 1
        by_cases hc : j < i ∨ l.length ≤ j + i
        · rw [if_pos hc, if_pos (by omega)]
        · rw [if_neg hc, if_neg (by omega)]
  · rw [List.getElem?_eq_none (by simp [turned_length]; omega), List.getElem?_eq_none (by simp [turned_length]; omega)]
end Go.Proofs.YtfkogkcpndaoeaaGreat
namespace Go.Proofs.YtfkogkcpndaoeaaGreat
open Go.RowKit
theorem grown_drew {a w : World} {row : Option Nat} (h : a.grownBy w row) : a.grownBy w.drew row := ⟨h.os, h.tape, h.output, h.size, h.block⟩
def byteV (b : UInt8) : Value := .int .u8 ((b.toNat : Nat) : Int)
set_option maxRecDepth 100000 in
set_option maxHeartbeats 800000 in
theorem reverse_spec (l : List UInt8) (sp : List Value) (g n cap : Nat) (w : World) (ho : Own w 5 g (l.map byteV ++ sp)) (Hn : Hid (l.length = n)) (hn : n ≤ 4611686018427387904) :
    Calls Tryz.prog 173 #[.slice (some ⟨g, 0, none⟩) n cap] w (fun e w' => e = .returned (.tuple #[]) ∧ Own w' 5 g (l.reverse.map byteV ++ sp) ∧ w.grownBy w' (some g)) := by
  go_enter Tryz.func173, Tryz.ntmps173
  go_wp2_with fail
  go_loopw [2, 3] (fun iv jv wr => ∃ i : Nat, 2 * i ≤ n + 1 ∧ iv = .int .i64 (i : Int) ∧ jv = .int .i64 ((n : Int) - 1 - i) ∧ Own wr 5 g ((turned l i).map byteV ++ sp) ∧ w.grownBy wr (some g)) (fun _ j _ => (intOf j + 1).toNat)
  case atStart => exact ⟨0, by omega, rfl, by simp, by rw [turned_zero]; exact ho, grown_refl _ _⟩
  case round =>
    clear ho
    obtain ⟨i, hi, rfl, rfl, ho, hg⟩ := hrel
    by_cases hlt : 2 * i + 1 < n
    · have e1 : (n : Int) - 1 - i = ((n - 1 - i : Nat) : Int) := by omega
      rw [e1]
      have hj : n - 1 - i < n := by omega
      generalize hjj : n - 1 - i = j at *
      have Hj := Lib.hid hjj
      clear hjj e1
      have hij : i < j := by have := Hj.out; omega
      obtain ⟨x, hx⟩ : ∃ x, x = l[i]! := ⟨_, rfl⟩
      obtain ⟨y, hy⟩ : ∃ y, y = l[l.length - 1 - i]! := ⟨_, rfl⟩
      have ei : (turned l i)[i]? = some x := by rw [turned_get l i i (by have := Hn.out; omega), if_neg (by have := Hn.out; omega), hx]
      have ej : (turned l i)[j]? = some y := by rw [turned_get l i j (by have := Hn.out; omega), if_neg (by have := Hn.out; have := Hj.out; omega), hy]; congr 2; have := Hn.out; have := Hj.out; omega
      have hci := ho.cell i (byteV x) (by rw [List.getElem?_append_left (by rw [List.length_map, turned_length]; have := Hn.out; omega), List.getElem?_map, ei]; rfl)
      have hcj := ho.cell j (byteV y) (by rw [List.getElem?_append_left (by rw [List.length_map, turned_length]; have := Hn.out; omega), List.getElem?_map, ej]; rfl)
      have hfi := ho.free i
      have hfj := ho.free j
      have Hx := Lib.hid hx
      have Hy := Lib.hid hy
      unfold byteV at hci hcj
      clear hx hy ei ej
      go_wp2_with fail
      go_region
      go_wp2_with fail
      go_roundw
      case rel =>
        have hst := turned_step l i (by have := Hn.out; omega)
        rw [← Hx.out, ← Hy.out, show l.length - 1 - i = j from by have := Hn.out; have := Hj.out; omega] at hst
        refine ⟨i + 1, by omega, by go_num, int_of (by have := Hj.out; omega), ?_, grown_drew (grown_set (grown_set hg _ _) _ _)⟩
        have h2 := (ho.set i (byteV y)).set j (byteV x)
        rw [List.set_append_left _ _ (by rw [List.length_map, turned_length]; have := Hn.out; omega), ← List.map_set, List.set_append_left _ _ (by rw [List.length_map, List.length_set, turned_length]; have := Hn.out; omega), ← List.map_set, hst] at h2
        exact h2
      case measure => simp [intOf]
    · have hfin := turned_end l i (by have := Hn.out; omega)
      rw [hfin] at ho
      have hge : ¬ ((i : Int) < (n : Int) - 1 - i) := by omega
      clear hfin
      go_wp2_with fail
      go_end0
      exact ⟨rfl, by rw [List.map_reverse] at *; exact ho, hg⟩
theorem info_u8 : (Tryz.prog.info? 5).map (fun i => (i.zero, i.size, i.bytes)) = some (some (.int .u8 0), 1, 1) := by kernel_rfl
def OwnB (w : World) (base : Nat) (v : Value) (l : List UInt8) : Prop := w.ownsRow base 5 1 v l.length (l.map byteV)
theorem grown_of_below {w w' : World} (hb : Below w.heap.size w w') (row : Option Nat) : w.grownBy w' row := ⟨hb.os, hb.tape, hb.output, hb.size, fun k hk _ => hb.block k hk⟩
theorem OwnB.below {w w' : World} {base : Nat} {v : Value} {l : List UInt8} (h : OwnB w base v l) (hb : Below w.heap.size w w') : OwnB w' base v l :=
  World.ownsRow.kept h (grown_of_below hb none) (by cases v.ownBlock <;> simp)
theorem OwnB.shape {w : World} {base : Nat} {v : Value} {l : List UInt8} (h : OwnB w base v l) : ∃ (a : Option Addr) (cap : Nat), v = .slice a l.length cap ∧ l.length ≤ cap ∧ cap ≤ 9223372036854775807 := by
  obtain ⟨_, h2⟩ := h
  rcases h2 with ⟨rfl, h⟩ | ⟨g, cap, cur, rfl, _, _, h3, h4, _⟩
  · exact ⟨none, 0, by rw [h], by omega, by omega⟩
  · exact ⟨_, cap, rfl, h3, by unfold maxLen at h4; exact h4⟩
theorem append_byte (W : World) {ops : Array Oper} {rest : List Oper} {o : Oper} {a : Act} {Q : Exit → Act → World → Prop} (hgd : o.guard = none) (s x : Operand) (t : TypeId)
    (ho : o.op = .call { callee := .builtin .append, args := #[s, x], argTypes := #[t, t] }) (ht : Tryz.prog.underlying t = some (.slice 5)) (base : Nat) (v : Value) (l : List UInt8) (b : UInt8) (z : Int)
    (hz : z = ((b.toNat : Nat) : Int)) (hs : a.eval s = v) (hx : a.eval x = .slice (some ⟨W.heap.size, 0, none⟩) 1 1) (hO : OwnB W base v l) (hl : l.length < 1099511627776) (hbase : base ≤ W.heap.size)
    (K : ∀ v' w', OwnB w' base v' (l ++ [b]) → W.grownBy w' v.ownBlock → wpList Tryz.prog ops Q rest (a.put o.dst v') w') :
    wpList Tryz.prog ops Q (o :: rest) a (W.alloc (.cells #[.int .u8 z] 5)) := by
  obtain ⟨i0, hi, hz0, hz1, hz2⟩ := info_parts info_u8
  refine wpList_append_own _ hgd s x t ho base 5 i0 (.int .u8 0) 1 1 ht hi hz0 hz1 hz2 rfl (by decide) v l.length (l.map byteV) hs (World.ownsRow.alloc hO _) ⟨W.heap.size, 0, none⟩ 1 1 [.int .u8 z] hx rfl ?_ ?_ (by unfold maxLen; omega) (by omega) (by simp; omega) ?_
  · intro j u hj
    have hj0 : j = 0 := by
      rcases Nat.eq_zero_or_pos j with h | h
      · exact h
      · rw [List.getElem?_eq_none (by simp; omega)] at hj; cases hj
    subst hj0
    simp only [List.getElem?_cons_zero, Option.some.injEq] at hj
    subst hj
    exact (own_new W 5 [.int .u8 z]).cell 0 _ rfl
  · intro u hu
    simp only [List.mem_singleton] at hu
    subst hu
    rfl
  · intro v' w' h1 h2 _
    refine K v' w' ?_ (grown_trans (World.grownBy_alloc W _ _) h2)
    unfold OwnB
    rw [List.length_append, List.map_append]
    have e : [byteV b] = [.int .u8 z] := by unfold byteV; rw [hz]
    show World.ownsRow _ _ _ _ _ (l.length + 1) (l.map byteV ++ [byteV b])
    rw [e]
    exact h1
set_option maxRecDepth 100000 in
set_option maxHeartbeats 1600000 in
theorem digits_spec (v : Value) (n k : Nat) (w : World) (h : NatRep w v n) (hn : n < 2 ^ k) (hk : k ≤ 1048576) :
    Calls Tryz.prog 129 #[v] w (Ret w fun _ v' => v' = .string ⟨(dec n).toArray⟩) := by
  obtain ⟨a, len, cap, rfl, hlen, hcap, hmax⟩ := h.any
  by_cases h0 : n = 0
  · obtain rfl : len = 0 := hlen.2 h0
    subst h0
    clear hlen
    go_enter Tryz.func129, Tryz.ntmps129
    go_wp2
    go_ret
    exact ⟨_, rfl, rfl, Below.refl _ _⟩
  have hl0 : ((len : Int) == 0) = false := by
    have : len ≠ 0 := fun e => h0 (hlen.1 e)
    simp; omega
  have hd : Hid (dec n = (decRev n).reverse) := show _ = _ by unfold dec; rw [if_neg h0]
  have hdl := decRev_length k n hn
  have Hdl := Lib.hid hdl
  have Hn := Lib.hid hn
  have H0 := Lib.hid h0
  obtain ⟨i0, hi, hz0, hz1, hz2⟩ := info_parts info_u8
  clear hdl hn h0 hlen
  go_enter Tryz.func129, Tryz.ntmps129
  go_wp2_with fail
  go_loopg [0, 3] n (fun g s0 s3 wr => ∃ l : List UInt8, NatRep wr s0 g ∧ OwnB wr w.heap.size s3 l ∧ Hid (l ++ decRev g = decRev n) ∧ Hid (g ≤ n) ∧ Below w.heap.size w wr)
  case atStart => exact ⟨[], h, World.ownsRow_nil _ _ _ _, rfl, Nat.le_refl n, Below.refl _ _⟩
  case round =>
    obtain ⟨gx, rfl⟩ : ∃ gx : Nat, gx = gk := ⟨_, rfl⟩
    obtain ⟨l, r1, ow, He, Hg, hb⟩ := hrel
    obtain ⟨a', len', cap', rfl, hlen', hcap', hmax'⟩ := r1.any
    by_cases hg0 : gx = 0
    · obtain rfl : len' = 0 := hlen'.2 hg0
      subst hg0
      clear hlen'
      have hl : l = decRev n := by have h := He.out; rw [decRev_zero, List.append_nil] at h; exact h
      have hlk : l.length ≤ k := by rw [hl]; exact Hdl.out
      have hne : l ≠ [] := fun e => by
        rw [hl, decRev_step (Nat.pos_of_ne_zero H0.out)] at e
        cases e
      obtain ⟨_, hrow⟩ := ow
      rcases hrow with ⟨_, hz⟩ | ⟨g, cap3, cur, rfl, hbg, hgc, hlc, hmc, hsz, htk⟩
      · exact absurd (List.eq_nil_of_length_eq_zero hz) hne
      · rw [Nat.mul_one] at htk
        have ho : Own wr 5 g (l.map byteV ++ cur.toList.drop l.length) := by
          unfold Own
          rw [hgc, ← htk, List.take_append_drop]
        have HL := Lib.hid hl
        obtain ⟨ln, hln⟩ : ∃ ln, ln = l.length := ⟨_, rfl⟩
        have Hln : Hid (l.length = ln) := hln.symm
        rw [← hln] at hlk hlc ho ⊢
        unfold maxLen at hmc
        clear hl hne hgc hsz htk hln
        go_wp2_with fail
        refine (reverse_spec l _ g ln cap3 wr ho Hln (by omega)).mono ?_
        rintro e w3 ⟨rfl, ho3, hg3⟩
        have hB3 := hb.grown hg3 hb.size (fun j hj => by obtain rfl := Option.some.inj hj; exact hbg)
        have hcv := run_convert_bytes_arg (P := Tryz.prog) w3 86 5 Tryz.underlying86 Tryz.underlying5 g 0 ln cap3 (l.reverse.map fun b => ((b.toNat : Nat) : Int)) (by simp [Hln.out]) (fun i hi => by
          have hil : i < l.reverse.length := by rw [List.length_reverse, Hln.out]; exact hi
          rw [Nat.zero_add]
          refine ho3.cell i _ ?_
          rw [List.getElem?_append_left (by simpa using hil), List.getElem?_map, List.getElem?_eq_getElem hil]
          rw [List.getD_eq_getElem?_getD, List.getElem?_map, List.getElem?_eq_getElem hil]
          rfl) 9 Tryz.underlying9
        have hstr : strOfNums (l.reverse.map fun b => ((b.toNat : Nat) : Int)) = ⟨l.reverse.toArray⟩ := by
          have h := strOfNums_data (l.reverse.map fun b => ((b.toNat : Nat) : Int))
          rw [List.map_map] at h
          have e : ((fun n : Int => UInt8.ofNat n.toNat) ∘ fun b : UInt8 => ((b.toNat : Nat) : Int)) = id := by funext b; simp
          rw [e, List.map_id] at h
          cases hs : strOfNums (l.reverse.map fun b => ((b.toNat : Nat) : Int)) with
          | mk d =>
            rw [hs] at h
            have h2 : d.toList = l.reverse := h
            rw [← h2, Array.toArray_toList]
        rw [hstr] at hcv
        have hres : l.reverse = dec n := by rw [hd.out, HL.out]
        generalize l.reverse = lr at *
        have HR := Lib.hid hres
        clear hstr hres
        go_wp2_with fail
        go_ret
        exact ⟨_, rfl, congrArg (fun z : List UInt8 => Value.string ⟨z.toArray⟩) HR.out, hB3⟩
    · have hl1 : 0 < len' := by
        rcases Nat.eq_zero_or_pos len' with h | h
        · exact absurd (hlen'.1 h) hg0
        · exact h
      clear hlen'
      go_wp2_with fail
      refine (short_spec _ gx 1000000000 k wr r1 (by omega) (by omega) (Nat.lt_of_le_of_lt Hg.out Hn.out) (by omega)).mono ?_
      rintro e w2 ⟨_, rfl, ⟨q, rfl, hq⟩, hb2⟩
      have ow2 := ow.below hb2
      have hb := hb.trans (hb2.mono hb.size)
      obtain ⟨q', hq'⟩ : ∃ q', q' = gx / 1000000000 := ⟨_, rfl⟩
      obtain ⟨r0, hr0⟩ : ∃ r0, r0 = gx % 1000000000 := ⟨_, rfl⟩
      rw [← hq'] at hq
      rw [← hr0]
      have hr1 : r0 < 1000000000 := by omega
      have hqs : q' < gx := by omega
      have He2 : Hid (l ++ decRev (r0 + q' * 10 ^ 9) = decRev n) := show _ = _ by rw [show r0 + q' * 10 ^ 9 = gx from by omega]; exact He.out
      obtain ⟨aq, lq, cq', rfl, hlq, hcq, hmq⟩ := hq.any
      clear hq' hr0 ow r1 He
      go_wp2_with fail
      obtain ⟨wo, rfl⟩ : ∃ wo : World, wo = w2 := ⟨_, rfl⟩
      go_loopg [3, 4, 5] 9 (fun m s3 s4 s5 wi => ∃ (kk r : Nat) (l : List UInt8), kk + m = 9 ∧ s4 = .int .u32 (r : Int) ∧ s5 = .int .i64 (kk : Int) ∧ r < 10 ^ m ∧ OwnB wi w.heap.size s3 l ∧ Hid (l ++ decRev (r + q' * 10 ^ m) = decRev n) ∧ NatRep wi (.slice aq lq cq') q' ∧ Below w.heap.size w wi)
      case atStart => exact ⟨0, r0, l, rfl, rfl, rfl, by omega, ow2, He2, hq, hb⟩
      case round =>
        clear ow2 He2 hq hb
        obtain ⟨kk, r, l', hkm, rfl, rfl, hr, ow, He, hq, hb⟩ := hrel
        have hback : (gk = 0 ∨ lq = 0 ∧ r = 0) → Hid (l' ++ decRev q' = decRev n) := fun hc => by
          have h := He.out
          show _ = _
          rcases hc with rfl | ⟨h1, h2⟩
          · obtain rfl : r = 0 := by simpa using hr
            simpa using h
          · have hq0 : q' = 0 := hlq.1 h1
            rw [hq0] at h ⊢
            rw [h2] at h
            simpa using h
        have HBk := Lib.hid hback
        have Hlq := Lib.hid hlq
        clear hback hlq
        by_cases hm : gk = 0
        · obtain rfl : kk = 9 := by omega
          have He3 := HBk.out (.inl hm)
          clear hm
          go_wp2_with fail
          go_roundg q'
          case measure => exact hqs
          case rel => exact ⟨l', hq, ow, He3, show _ ≤ _ from Nat.le_trans (Nat.le_of_lt hqs) Hg.out, hb⟩
        · obtain ⟨p, rfl⟩ : ∃ p, gk = p + 1 := ⟨gk - 1, by omega⟩
          have hk9 : decide ((kk : Int) < 9) = true := by simp; omega
          by_cases hy : lq = 0 ∧ r = 0
          · have He3 := HBk.out (.inr hy)
            obtain ⟨rfl, rfl⟩ := hy
            go_wp2_with fail
            go_roundg q'
            case measure => exact hqs
            case rel => exact ⟨l', hq, ow, He3, show _ ≤ _ from Nat.le_trans (Nat.le_of_lt hqs) Hg.out, hb⟩
          · have hyp : 0 < r + q' * 10 ^ (p + 1) := by
              rcases Nat.eq_zero_or_pos r with h | h
              · have : lq ≠ 0 := fun e => hy ⟨e, h⟩
                have hq0 : 0 < q' := Nat.pos_of_ne_zero fun e => this (Hlq.out.2 e)
                have := Nat.mul_pos hq0 (Nat.pow_pos (n := p + 1) (show 0 < 10 by omega))
                omega
              · omega
            have He3 := Lib.hid (dec_round He.out hyp)
            have hll : l'.length < 1099511627776 := by
              have h := congrArg List.length He.out
              rw [List.length_append] at h
              have := Hdl.out
              omega
            have hrp : r / 10 < 10 ^ p := by rw [Nat.pow_succ] at hr; omega
            have Hrp := Lib.hid hrp
            have Hr := Lib.hid hr
            have hr32 : r < 4294967296 := by
              have h1 : 10 ^ (p + 1) ≤ 10 ^ 9 := Nat.pow_le_pow_right (by omega) (by omega)
              omega
            have hcase : (lq = 0 ∧ 0 < r) ∨ 0 < lq := by omega
            have hbs := hb.size
            clear hyp hy hrp hr
            rcases hcase with ⟨rfl, hr0⟩ | hlq0
            all_goals
              go_wp2_with (at_builtin; go_must (refine append_byte wr rfl (.tmp 30) (.tmp 35) _ rfl Tryz.underlying86 w.heap.size _ l' (digit r) _ (digit_val r) rfl rfl ow hll hbs ?_); intro v3 w3 ow3 hg3)
              go_roundg p
              case measure => omega
              case rel => exact ⟨kk + 1, r / 10, l' ++ [digit r], by omega, int_of (by omega), by go_num, Hrp.out, ow3, He3.out, NatRep.row hq ow (by decide) hg3, hb.grown hg3 hbs (fun j hj => (World.ownsRow.lt ow _ hj).1)⟩
end Go.Proofs.YtfkogkcpndaoeaaGreat
namespace Go.Proofs.YtfkogkcpndaoeaaGreat
open Go.RowKit
def partText (r : Rat) : List UInt8 := (if r.num < 0 then [45] else []) ++ (dec r.num.natAbs ++ (if r.den = 1 then [] else 47 :: dec r.den))
def numText (x : CQ) : List UInt8 :=
  if x.im = 0 then partText x.re else if x.re = 0 then partText x.im ++ [105] else partText x.re ++ ((if x.im < 0 then [] else [43]) ++ (partText x.im ++ [105]))
theorem low_rat {a : Int} {d : Nat} (h : Low a 0 d) : ((a : Rat) / ((d : Int) : Rat)).num = a ∧ ((a : Rat) / ((d : Int) : Rat)).den = d := by
  have hc : Nat.Coprime a.natAbs d := by
    have := h.2
    simpa [Nat.Coprime] using this
  have hd : d ≠ 0 := by have := h.1; omega
  have e := Rat.num_divInt_den ⟨a, d, hd, hc⟩
  rw [Rat.divInt_eq_div] at e
  rw [e]
  exact ⟨rfl, rfl⟩
theorem dec_length {n k : Nat} (h : n < 2 ^ k) : (dec n).length ≤ k + 1 := by
  unfold dec
  split
  · simp
  · rw [List.length_reverse]; have := decRev_length k n h; omega
theorem str_app (x y : List UInt8) : (ByteArray.mk x.toArray ++ ByteArray.mk y.toArray) = ByteArray.mk (x ++ y).toArray := ByteArray.mk_append_mk x y
theorem part_text {A : Int} {D : Nat} {r : Rat} {t : Bool} {z : Nat} (h : r.num = A ∧ r.den = D) (ht : t = true ↔ A < 0) (hz : z = 0 ↔ D = 1) :
    (t = true → z = 0 → ByteArray.mk (partText r).toArray = ⟨#[45]⟩ ++ ⟨(dec A.natAbs).toArray⟩) ∧ (t = true → z ≠ 0 → ByteArray.mk (partText r).toArray = (⟨#[45]⟩ ++ ⟨(dec A.natAbs).toArray⟩) ++ (⟨#[47]⟩ ++ ⟨(dec D).toArray⟩)) ∧
    (t = false → z = 0 → ByteArray.mk (partText r).toArray = ⟨(dec A.natAbs).toArray⟩) ∧ (t = false → z ≠ 0 → ByteArray.mk (partText r).toArray = ⟨(dec A.natAbs).toArray⟩ ++ (⟨#[47]⟩ ++ ⟨(dec D).toArray⟩)) := by
  obtain ⟨h1, h2⟩ := h
  unfold partText
  rw [h1, h2]
  have e45 : (⟨#[45]⟩ : ByteArray) = ⟨[45].toArray⟩ := rfl
  have e47 : (⟨#[47]⟩ : ByteArray) = ⟨[47].toArray⟩ := rfl
  rw [e45, e47]
  simp only [str_app]
  refine ⟨fun h3 h4 => ?_, fun h3 h4 => ?_, fun h3 h4 => ?_, fun h3 h4 => ?_⟩
  · rw [if_pos (ht.1 h3), if_pos (hz.1 h4)]; simp
  · rw [if_pos (ht.1 h3), if_neg (fun e => h4 (hz.2 e))]; simp
  · rw [if_neg (fun e => by rw [ht.2 e] at h3; cases h3), if_pos (hz.1 h4)]; simp
  · rw [if_neg (fun e => by rw [ht.2 e] at h3; cases h3), if_neg (fun e => h4 (hz.2 e))]; simp
set_option maxRecDepth 100000 in
set_option maxHeartbeats 800000 in
theorem part_spec (v u : Value) (a : Int) (d k : Nat) (w : World) (h : WholeRep w v a) (h' : NatRep w u d) (hd : 0 < d) (ha : a.natAbs < 2 ^ k) (hdk : d < 2 ^ k) (hk : k ≤ 1048576) :
    Calls Tryz.prog 74 #[v, u] w (Ret w fun _ v' => v' = .string ⟨(partText ((a : Rat) / ((d : Int) : Rat))).toArray⟩) := by
  obtain ⟨s1, a1, l1, c1, rfl, _, _⟩ := h.open
  have hsm : Small k (cq a 0 d) := small_mk hd ha (Nat.two_pow_pos k) hdk
  have Hsm := Lib.hid hsm
  have Hdk := Lib.hid hdk
  have Ha := Lib.hid ha
  clear hsm ha hdk
  go_enter Tryz.func74, Tryz.ntmps74
  go_upto_region 1 with (fail)
  obtain ⟨W, hW, o1, hB, hS⟩ := boxes1 w 38 [.bool s1, .slice a1 l1 c1]
  rw [← hW]
  clear hW
  have fo1 := o1.free; have co10 := o1.cell 0 _ rfl; have co11 := o1.cell 1 _ rfl
  have h := h.below hB (Nat.le_refl _); have h' := h'.below hB (Nat.le_refl _)
  go_wp2_with fail
  refine (over_spec _ _ _ a 0 d k W h whole_zero h' hd Ha.out (Nat.two_pow_pos k) Hdk.out (by omega)).mono ?_
  rintro e W1 ⟨u8, rfl, hu8, hb1⟩
  obtain ⟨A, B, D, t1, t2, p1, p2, p3, m1, n1, m2, n2, m3, n3, rfl, wA, wB, tri, low, hx, -, lb, ld, nd⟩ := hu8.all
  have hsW1 : W.heap.size ≤ W1.heap.size := hb1.size; have hB := hB.trans (hb1.mono hB.size)
  obtain ⟨y1, y2, y3, y4, ey, _, hsg⟩ := wA.open
  simp only [Value.agg.injEq, Array.mk.injEq, List.cons.injEq, and_true, Value.bool.injEq] at ey
  obtain ⟨rfl, -⟩ := ey
  obtain rfl : B = 0 := by
    have e := congrArg CQ.im hx
    have e0 : (cq a 0 d).im = 0 := (im_zero hd).2 rfl
    rw [e0] at e
    exact (im_zero low.1).1 e.symm
  have hre : (a : Rat) / ((d : Int) : Rat) = (A : Rat) / ((D : Int) : Rat) := congrArg CQ.re hx
  have hpt := part_text (r := (a : Rat) / ((d : Int) : Rat)) (by rw [hre]; exact low_rat low) hsg ld
  have hsml := Hsm.out
  rw [hx] at hsml
  obtain ⟨hA, _, hD⟩ := hsml.low low
  have nA : NatRep W1 (.slice p1 m1 n1) A.natAbs := by
    obtain ⟨m, e, hm⟩ := wA
    simp only [Value.agg.injEq, Array.mk.injEq, List.cons.injEq, and_true] at e
    rw [e.2]; exact hm
  have HA := Lib.hid hA
  have HD := Lib.hid hD
  have Hpt := Lib.hid hpt
  have Hld := Lib.hid ld
  clear hsg ld hpt hre hx hsml hA hD wA wB hu8
  go_upto_region 2 with (fail)
  obtain ⟨V, hV, o5, hBV, hSV⟩ := boxes1 W1 40 [.bool t1, .slice p1 m1 n1, .bool t2, .slice p2 m2 n2, .slice p3 m3 n3]
  rw [← hV]
  clear hV
  have hB := hB.trans (hBV.mono hB.size)
  have nA := nA.below hBV (Nat.le_refl _); have nd := nd.below hBV (Nat.le_refl _)
  have fo5 := o5.free; have co50 := o5.cell 0 _ rfl; have co51 := o5.cell 1 _ rfl; have co52 := o5.cell 2 _ rfl; have co53 := o5.cell 3 _ rfl; have co54 := o5.cell 4 _ rfl
  go_wp2_with fail
  refine (digits_spec _ A.natAbs k V nA HA.out hk).mono ?_
  rintro e W2 ⟨_, rfl, rfl, hb2⟩
  have hz1 : (ByteArray.mk (dec A.natAbs).toArray).size ≤ 1048578 := by
    have := dec_length HA.out
    show (dec A.natAbs).toArray.size ≤ _
    rw [List.size_toArray]; omega
  have HP := Hpt.out
  generalize ByteArray.mk (dec A.natAbs).toArray = sa at *
  have Hp := Lib.hid HP
  clear HP Hpt co50 co51 co52 co53 co54 fo5
  have hsW2 : V.heap.size ≤ W2.heap.size := hb2.size; have hB := hB.trans (hb2.mono hB.size); have o5 := o5.below hb2 o5.lt; have nd := nd.below hb2 (Nat.le_refl _); have fo5 := o5.free; have co50 := o5.cell 0 _ rfl; have co51 := o5.cell 1 _ rfl; have co52 := o5.cell 2 _ rfl; have co53 := o5.cell 3 _ rfl; have co54 := o5.cell 4 _ rfl
  by_cases hm0 : m3 = 0
  · cases t1
    · have hf := Hp.out.2.2.1 rfl hm0
      have HF := Lib.hid hf
      subst hm0
      clear hf
      go_wp2_with fail
      go_ret
      exact ⟨_, rfl, congrArg Value.string HF.out.symm, hB⟩
    · have hf := Hp.out.1 rfl hm0
      have HF := Lib.hid hf
      subst hm0
      clear hf
      go_wp2_with fail
      go_ret
      exact ⟨_, rfl, congrArg Value.string HF.out.symm, hB⟩
  · have hD1 : D ≠ 1 := fun e => hm0 (Hld.out.2 e)
    rw [if_neg hD1] at nd
    have hm1 : 0 < m3 := by omega
    have hz2 : (ByteArray.mk (dec D).toArray).size ≤ 1048578 := by
      have := dec_length HD.out
      show (dec D).toArray.size ≤ _
      rw [List.size_toArray]; omega
    cases t1
    · have hf := Hp.out.2.2.2 rfl hm0
      have HF := Lib.hid hf
      have HM := Lib.hid hm0
      clear hf hm0 hD1
      go_wp2_with fail
      refine (digits_spec _ D k W2 nd HD.out hk).mono ?_
      rintro e W3 ⟨_, rfl, rfl, hb3⟩
      have HF := HF.out
      generalize ByteArray.mk (dec D).toArray = sb at *
      have HF := Lib.hid HF
      go_wp2_with fail
      go_ret
      exact ⟨_, rfl, congrArg Value.string HF.out.symm, hB.trans (hb3.mono hB.size)⟩
    · have hf := Hp.out.2.1 rfl hm0
      have HF := Lib.hid hf
      have HM := Lib.hid hm0
      clear hf hm0 hD1
      go_wp2_with fail
      refine (digits_spec _ D k W2 nd HD.out hk).mono ?_
      rintro e W3 ⟨_, rfl, rfl, hb3⟩
      have HF := HF.out
      generalize ByteArray.mk (dec D).toArray = sb at *
      have HF := Lib.hid HF
      go_wp2_with fail
      go_ret
      exact ⟨_, rfl, congrArg Value.string HF.out.symm, hB.trans (hb3.mono hB.size)⟩
theorem partText_length {a : Int} {d k : Nat} (h : 0 < d) (ha : a.natAbs < 2 ^ k) (hd : d < 2 ^ k) : (partText ((a : Rat) / ((d : Int) : Rat))).length ≤ 2 * k + 4 := by
  obtain ⟨g, hg⟩ : ∃ g, Nat.gcd (Nat.gcd a.natAbs (0 : Int).natAbs) d = g := ⟨_, rfl⟩
  obtain ⟨low, e⟩ := cq_div (b := 0) h hg
  have hs : Small k (cq a 0 d) := small_mk h ha (Nat.two_pow_pos k) hd
  rw [e, Int.zero_ediv] at hs
  rw [Int.zero_ediv] at low
  obtain ⟨h1, _, h3⟩ := hs.low low
  have er := congrArg CQ.re e
  have er2 : (a : Rat) / ((d : Int) : Rat) = ((a / g : Int) : Rat) / (((d / g : Nat) : Int) : Rat) := er
  obtain ⟨e1, e2⟩ := low_rat low
  unfold partText
  rw [er2, e1, e2, List.length_append, List.length_append]
  have l1 := dec_length h1
  have l2 := dec_length h3
  have l3 : (if (a / g : Int) < 0 then [45] else ([] : List UInt8)).length ≤ 1 := by split <;> simp
  have l4 : (if d / g = 1 then [] else (47 : UInt8) :: dec (d / g)).length ≤ k + 2 := by
    split
    · simp
    · rw [List.length_cons]; omega
  omega
theorem num_text {x : CQ} : (x.im = 0 → ByteArray.mk (numText x).toArray = ⟨(partText x.re).toArray⟩) ∧ (x.im ≠ 0 → x.re = 0 → ByteArray.mk (numText x).toArray = ⟨(partText x.im).toArray⟩ ++ ⟨#[105]⟩) ∧
    (x.im ≠ 0 → x.re ≠ 0 → x.im < 0 → ByteArray.mk (numText x).toArray = ⟨(partText x.re).toArray⟩ ++ (⟨(partText x.im).toArray⟩ ++ ⟨#[105]⟩)) ∧
    (x.im ≠ 0 → x.re ≠ 0 → ¬ x.im < 0 → ByteArray.mk (numText x).toArray = ⟨(partText x.re).toArray⟩ ++ (⟨#[43]⟩ ++ (⟨(partText x.im).toArray⟩ ++ ⟨#[105]⟩))) := by
  have e45 : (⟨#[105]⟩ : ByteArray) = ⟨[105].toArray⟩ := rfl
  have e47 : (⟨#[43]⟩ : ByteArray) = ⟨[43].toArray⟩ := rfl
  rw [e45, e47]
  unfold numText
  simp only [str_app]
  refine ⟨fun h1 => ?_, fun h1 h2 => ?_, fun h1 h2 h3 => ?_, fun h1 h2 h3 => ?_⟩
  · rw [if_pos h1]
  · rw [if_neg h1, if_pos h2]
  · rw [if_neg h1, if_neg h2, if_pos h3, List.nil_append]
  · rw [if_neg h1, if_neg h2, if_neg h3]
theorem im_neg {a b : Int} {d : Nat} (h : 0 < d) : (cq a b d).im < 0 ↔ b < 0 := by
  have := ratio_lt (a := b) (A := 0) h (show 0 < 1 by omega)
  have e : ((0 : Int) : Rat) / (((1 : Nat) : Int) : Rat) = 0 := by rw [Rat.div_def]; simp
  rw [e] at this
  show (b : Rat) / _ < 0 ↔ _
  rw [this]; omega
set_option maxRecDepth 100000 in
set_option maxHeartbeats 1600000 in
theorem text_spec (v : Value) (x : CQ) (k : Nat) (w : World) (h : NumRep w v x) (hs : Small k x) (hk : k ≤ 1048576) :
    Calls Tryz.prog 34 #[v] w (Ret w fun _ v' => v' = .string ⟨(numText x).toArray⟩) := by
  obtain ⟨a, b, d, s1, s2, a1, a2, a3, l1, c1, l2, c2, l3, c3, rfl, wa, wb, tri, low, rfl, la, lb, -, -⟩ := h.all
  obtain ⟨hs1, hs2, hs3⟩ := hs.low low
  have HT := Lib.hid (num_text (x := cq a b d))
  have hzr : (ByteArray.mk (partText (cq a b d).re).toArray).size ≤ 2097160 := by
    have := partText_length low.1 hs1 hs3
    show (partText (cq a b d).re).toArray.size ≤ _
    rw [List.size_toArray]; show (partText ((a : Rat) / ((d : Int) : Rat))).length ≤ _; omega
  have hzi : (ByteArray.mk (partText (cq a b d).im).toArray).size ≤ 2097160 := by
    have := partText_length low.1 hs2 hs3
    show (partText (cq a b d).im).toArray.size ≤ _
    rw [List.size_toArray]; show (partText ((b : Rat) / ((d : Int) : Rat))).length ≤ _; omega
  have hRe : ∀ v u w, WholeRep w v a → NatRep w u d → Calls Tryz.prog 74 #[v, u] w (Ret w fun _ v' => v' = .string ⟨(partText (cq a b d).re).toArray⟩) := fun v u w h h' => part_spec v u a d k w h h' low.1 hs1 hs3 hk
  have hIm : ∀ v u w, WholeRep w v b → NatRep w u d → Calls Tryz.prog 74 #[v, u] w (Ret w fun _ v' => v' = .string ⟨(partText (cq a b d).im).toArray⟩) := fun v u w h h' => part_spec v u b d k w h h' low.1 hs2 hs3 hk
  have hi0 := im_zero (a := a) (b := b) low.1
  have hr0 := re_zero (a := a) (b := b) low.1
  have hin := im_neg (a := a) (b := b) low.1
  obtain ⟨_, _, _, _, ey, _, hsg⟩ := wb.open
  simp only [Value.agg.injEq, Array.mk.injEq, List.cons.injEq, and_true, Value.bool.injEq] at ey
  obtain ⟨rfl, -⟩ := ey
  obtain ⟨r, hr⟩ : ∃ r, r = decide ((cq a b d).im = 0) := ⟨_, rfl⟩
  have hreal := fun w (hw : NumRep w (.agg #[.bool s1, .slice a1 l1 c1, .bool s2, .slice a2 l2 c2, .slice a3 l3 c3]) (cq a b d)) => real_spec _ _ w hw
  simp only [← hr] at hreal
  generalize hxs : cq a b d = X at *
  generalize ByteArray.mk (partText X.re).toArray = sr at *
  generalize ByteArray.mk (partText X.im).toArray = si at *
  have HRe := Lib.hid hRe
  have HIm := Lib.hid hIm
  have HReal := Lib.hid hreal
  have HT := Lib.hid HT.out
  have HI0 := Lib.hid hi0
  have HR0 := Lib.hid hr0
  have HIN := Lib.hid hin
  have Hr := Lib.hid hr
  have Hsg := Lib.hid hsg
  have Hla := Lib.hid la
  have Hlb := Lib.hid lb
  clear hRe hIm hreal hi0 hr0 hin hr hsg la lb hs hxs hs1 hs2 hs3
  go_enter Tryz.func34, Tryz.ntmps34
  go_upto_region 1 with (fail)
  obtain ⟨W, hW, o1, hB, hS⟩ := boxes1 w 40 [.bool s1, .slice a1 l1 c1, .bool s2, .slice a2 l2 c2, .slice a3 l3 c3]
  rw [← hW]
  clear hW
  have h := h.below hB (Nat.le_refl _); have wa := wa.below hB (Nat.le_refl _); have wb := wb.below hB (Nat.le_refl _); have tri := tri.below hB (Nat.le_refl _)
  have fo1 := o1.free; have co10 := o1.cell 0 _ rfl; have co11 := o1.cell 1 _ rfl; have co12 := o1.cell 2 _ rfl; have co13 := o1.cell 3 _ rfl; have co14 := o1.cell 4 _ rfl
  go_wp2_with fail
  refine (HReal.out W h).mono ?_
  rintro e W1 ⟨_, rfl, rfl, hb1⟩
  clear co10 co11 co12 co13 co14 fo1
  have hsW1 : W.heap.size ≤ W1.heap.size := hb1.size; have hB := hB.trans (hb1.mono hB.size); have o1 := o1.below hb1 o1.lt; have wa := wa.below hb1 (Nat.le_refl _); have wb := wb.below hb1 (Nat.le_refl _); have tri := tri.below hb1 (Nat.le_refl _)
  clear h
  by_cases him : X.im = 0
  · obtain rfl : r = true := by rw [Hr.out]; simp [him]
    have HF := Lib.hid (HT.out.1 him)
    clear him
    go_wp2_with fail
    have qo10 := o1.cell 0 _ rfl; have qo11 := o1.cell 1 _ rfl; have qo12 := o1.cell 2 _ rfl; have qo13 := o1.cell 3 _ rfl; have qo14 := o1.cell 4 _ rfl
    have o1 : Own W1.drew _ _ _ := o1; have lto1 : _ < W1.heap.size := o1.lt; have hB := hB.drew
    have wa := wa.below ((Below.refl W1.heap.size W1).drew) (Nat.le_refl _); have tri := tri.below ((Below.refl W1.heap.size W1).drew) (Nat.le_refl _)
    have tok1 : True := trivial
    have tok2 : True := trivial
    go_region_held3 (fun w' => w'.cell? ⟨w.heap.size, 0, none⟩ = some (.bool s1) ∧ w'.cell? ⟨w.heap.size, 1, none⟩ = some (.slice a1 l1 c1) ∧ w'.cell? ⟨w.heap.size, 2, none⟩ = some (.bool s2) ∧ w'.cell? ⟨w.heap.size, 3, none⟩ = some (.slice a2 l2 c2) ∧ w'.cell? ⟨w.heap.size, 4, none⟩ = some (.slice a3 l3 c3)) (first | (with_reducible exact ⟨o1.cell 0 _ rfl, o1.cell 1 _ rfl, o1.cell 2 _ rfl, o1.cell 3 _ rfl, o1.cell 4 _ rfl⟩) | (simp [go_sem, qo10, qo11, qo12, qo13, qo14, lto1]; done))
      (first
        | (go_at_call 75; have _t := tok1; refine (den_spec _ a b d _ tri).mono ?_; rintro e W11 ⟨d1, rfl, hd1, hb1⟩; have hsW11 : W1.heap.size ≤ W11.heap.size := hb1.size; have hB := hB.trans (hb1.mono hB.size); have o1 := o1.below hb1 o1.lt; have lto1 := o1.lt; have qo10 := o1.cell 0 _ rfl; have qo11 := o1.cell 1 _ rfl; have qo12 := o1.cell 2 _ rfl; have qo13 := o1.cell 3 _ rfl; have qo14 := o1.cell 4 _ rfl; have wa := wa.below hb1 (Nat.le_refl _); have tri := tri.below hb1 (Nat.le_refl _); clear tok1 _t)
        | (go_at_call 74; have _t := tok2; refine (HRe.out _ _ _ wa hd1).mono ?_; rintro e W12 ⟨_, rfl, rfl, hb2⟩; have hsW12 : W11.heap.size ≤ W12.heap.size := hb2.size; have hB := hB.trans (hb2.mono hB.size); have o1 := o1.below hb2 o1.lt; have lto1 := o1.lt; have qo10 := o1.cell 0 _ rfl; have qo11 := o1.cell 1 _ rfl; have qo12 := o1.cell 2 _ rfl; have qo13 := o1.cell 3 _ rfl; have qo14 := o1.cell 4 _ rfl; have wa := wa.below hb2 (Nat.le_refl _); have tri := tri.below hb2 (Nat.le_refl _); have hd1 := hd1.below hb2 (Nat.le_refl _); clear tok2 _t))
    go_wp2_with fail
    go_ret
    exact ⟨_, rfl, congrArg Value.string HF.out.symm, hB⟩
  · obtain rfl : r = false := by rw [Hr.out]; simp [him]
    have Him := Lib.hid him
    clear him
    have hadd : ∀ w, (Op.stringOp .add si ⟨#[105]⟩).run Tryz.prog w = .ok (.string (si ++ ⟨#[105]⟩)) w := fun w => run_string_add_sum w _ _ (by show si.size + 1 ≤ _; omega)
    go_wp2_with fail
    have qo10 := o1.cell 0 _ rfl; have qo11 := o1.cell 1 _ rfl; have qo12 := o1.cell 2 _ rfl; have qo13 := o1.cell 3 _ rfl; have qo14 := o1.cell 4 _ rfl
    have o1 : Own W1.drew _ _ _ := o1; have lto1 : _ < W1.heap.size := o1.lt; have hB := hB.drew
    have wa := wa.below ((Below.refl W1.heap.size W1).drew) (Nat.le_refl _); have wb := wb.below ((Below.refl W1.heap.size W1).drew) (Nat.le_refl _); have tri := tri.below ((Below.refl W1.heap.size W1).drew) (Nat.le_refl _)
    have tok1 : True := trivial
    have tok2 : True := trivial
    go_region_held3 (fun w' => w'.cell? ⟨w.heap.size, 0, none⟩ = some (.bool s1) ∧ w'.cell? ⟨w.heap.size, 1, none⟩ = some (.slice a1 l1 c1) ∧ w'.cell? ⟨w.heap.size, 2, none⟩ = some (.bool s2) ∧ w'.cell? ⟨w.heap.size, 3, none⟩ = some (.slice a2 l2 c2) ∧ w'.cell? ⟨w.heap.size, 4, none⟩ = some (.slice a3 l3 c3)) (first | (with_reducible exact ⟨o1.cell 0 _ rfl, o1.cell 1 _ rfl, o1.cell 2 _ rfl, o1.cell 3 _ rfl, o1.cell 4 _ rfl⟩) | (simp [go_sem, qo10, qo11, qo12, qo13, qo14, lto1]; done))
      (first
        | (go_at_call 75; have _t := tok1; refine (den_spec _ a b d _ tri).mono ?_; rintro e W11 ⟨d1, rfl, hd1, hb1⟩; have hsW11 : W1.heap.size ≤ W11.heap.size := hb1.size; have hB := hB.trans (hb1.mono hB.size); have o1 := o1.below hb1 o1.lt; have lto1 := o1.lt; have qo10 := o1.cell 0 _ rfl; have qo11 := o1.cell 1 _ rfl; have qo12 := o1.cell 2 _ rfl; have qo13 := o1.cell 3 _ rfl; have qo14 := o1.cell 4 _ rfl; have wa := wa.below hb1 (Nat.le_refl _); have wb := wb.below hb1 (Nat.le_refl _); have tri := tri.below hb1 (Nat.le_refl _); clear tok1 _t)
        | (go_at_call 74; have _t := tok2; refine (HIm.out _ _ _ wb hd1).mono ?_; rintro e W12 ⟨_, rfl, rfl, hb2⟩; have hsW12 : W11.heap.size ≤ W12.heap.size := hb2.size; have hB := hB.trans (hb2.mono hB.size); have o1 := o1.below hb2 o1.lt; have lto1 := o1.lt; have qo10 := o1.cell 0 _ rfl; have qo11 := o1.cell 1 _ rfl; have qo12 := o1.cell 2 _ rfl; have qo13 := o1.cell 3 _ rfl; have qo14 := o1.cell 4 _ rfl; have wa := wa.below hb2 (Nat.le_refl _); have wb := wb.below hb2 (Nat.le_refl _); have tri := tri.below hb2 (Nat.le_refl _); have hd1 := hd1.below hb2 (Nat.le_refl _); have fo1 := o1.free; have co10 := o1.cell 0 _ rfl; have co11 := o1.cell 1 _ rfl; have co12 := o1.cell 2 _ rfl; have co13 := o1.cell 3 _ rfl; have co14 := o1.cell 4 _ rfl; clear tok2 _t))
    by_cases hre : X.re = 0
    · obtain rfl : l1 = 0 := Hla.out.2 (HR0.out.1 hre)
      have HF := Lib.hid (HT.out.2.1 Him.out hre)
      clear hre
      go_wp2_with fail
      go_ret
      exact ⟨_, rfl, congrArg Value.string HF.out.symm, hB⟩
    · have hl1 : ((l1 : Int) == 0) = false := by
        have : l1 ≠ 0 := fun e => hre (HR0.out.2 (Hla.out.1 e))
        simp; omega
      by_cases hneg : X.im < 0
      · obtain rfl : s2 = true := Hsg.out.2 (HIN.out.1 hneg)
        have HF := Lib.hid (HT.out.2.2.1 Him.out hre hneg)
        have hadd2 : ∀ w, (Op.stringOp .add sr (si ++ ⟨#[105]⟩)).run Tryz.prog w = .ok (.string (sr ++ (si ++ ⟨#[105]⟩))) w := fun w => run_string_add_sum w _ _ (by rw [ByteArray.size_append]; show sr.size + (si.size + 1) ≤ _; omega)
        clear hre hneg hadd
        go_wp2_with fail
        have qo10 := o1.cell 0 _ rfl; have qo11 := o1.cell 1 _ rfl; have qo12 := o1.cell 2 _ rfl; have qo13 := o1.cell 3 _ rfl; have qo14 := o1.cell 4 _ rfl
        have o1 : Own W12.drew _ _ _ := o1; have lto1 : _ < W12.heap.size := o1.lt; have hB := hB.drew
        have wa := wa.below ((Below.refl W12.heap.size W12).drew) (Nat.le_refl _); have tri := tri.below ((Below.refl W12.heap.size W12).drew) (Nat.le_refl _)
        have tok1 : True := trivial
        have tok2 : True := trivial
        go_region_held3 (fun w' => w'.cell? ⟨w.heap.size, 0, none⟩ = some (.bool s1) ∧ w'.cell? ⟨w.heap.size, 1, none⟩ = some (.slice a1 l1 c1) ∧ w'.cell? ⟨w.heap.size, 2, none⟩ = some (.bool true) ∧ w'.cell? ⟨w.heap.size, 3, none⟩ = some (.slice a2 l2 c2) ∧ w'.cell? ⟨w.heap.size, 4, none⟩ = some (.slice a3 l3 c3)) (first | (with_reducible exact ⟨o1.cell 0 _ rfl, o1.cell 1 _ rfl, o1.cell 2 _ rfl, o1.cell 3 _ rfl, o1.cell 4 _ rfl⟩) | (simp [go_sem, qo10, qo11, qo12, qo13, qo14, lto1]; done))
          (first
            | (go_at_call 75; have _t := tok1; refine (den_spec _ a b d _ tri).mono ?_; rintro e W121 ⟨d1, rfl, hd1, hb1⟩; have hsW121 : W12.heap.size ≤ W121.heap.size := hb1.size; have hB := hB.trans (hb1.mono hB.size); have o1 := o1.below hb1 o1.lt; have lto1 := o1.lt; have qo10 := o1.cell 0 _ rfl; have qo11 := o1.cell 1 _ rfl; have qo12 := o1.cell 2 _ rfl; have qo13 := o1.cell 3 _ rfl; have qo14 := o1.cell 4 _ rfl; have wa := wa.below hb1 (Nat.le_refl _); have tri := tri.below hb1 (Nat.le_refl _); clear tok1 _t)
            | (go_at_call 74; have _t := tok2; refine (HRe.out _ _ _ wa hd1).mono ?_; rintro e W122 ⟨_, rfl, rfl, hb2⟩; have hsW122 : W121.heap.size ≤ W122.heap.size := hb2.size; have hB := hB.trans (hb2.mono hB.size); have o1 := o1.below hb2 o1.lt; have lto1 := o1.lt; have qo10 := o1.cell 0 _ rfl; have qo11 := o1.cell 1 _ rfl; have qo12 := o1.cell 2 _ rfl; have qo13 := o1.cell 3 _ rfl; have qo14 := o1.cell 4 _ rfl; have wa := wa.below hb2 (Nat.le_refl _); have tri := tri.below hb2 (Nat.le_refl _); have hd1 := hd1.below hb2 (Nat.le_refl _); clear tok2 _t))
        go_wp2_with fail
        go_ret
        exact ⟨_, rfl, congrArg Value.string HF.out.symm, hB⟩
      · obtain rfl : s2 = false := by
          cases s2
          · rfl
          · exact absurd (HIN.out.2 (Hsg.out.1 rfl)) hneg
        have HF := Lib.hid (HT.out.2.2.2 Him.out hre hneg)
        have hadd2 : ∀ w, (Op.stringOp .add sr (⟨#[43]⟩ ++ (si ++ ⟨#[105]⟩))).run Tryz.prog w = .ok (.string (sr ++ (⟨#[43]⟩ ++ (si ++ ⟨#[105]⟩)))) w := fun w => run_string_add_sum w _ _ (by rw [ByteArray.size_append, ByteArray.size_append]; show sr.size + (1 + (si.size + 1)) ≤ _; omega)
        clear hre hneg hadd
        go_wp2_with fail
        have qo10 := o1.cell 0 _ rfl; have qo11 := o1.cell 1 _ rfl; have qo12 := o1.cell 2 _ rfl; have qo13 := o1.cell 3 _ rfl; have qo14 := o1.cell 4 _ rfl
        have o1 : Own W12.drew _ _ _ := o1; have lto1 : _ < W12.heap.size := o1.lt; have hB := hB.drew
        have wa := wa.below ((Below.refl W12.heap.size W12).drew) (Nat.le_refl _); have tri := tri.below ((Below.refl W12.heap.size W12).drew) (Nat.le_refl _)
        have tok1 : True := trivial
        have tok2 : True := trivial
        go_region_held3 (fun w' => w'.cell? ⟨w.heap.size, 0, none⟩ = some (.bool s1) ∧ w'.cell? ⟨w.heap.size, 1, none⟩ = some (.slice a1 l1 c1) ∧ w'.cell? ⟨w.heap.size, 2, none⟩ = some (.bool false) ∧ w'.cell? ⟨w.heap.size, 3, none⟩ = some (.slice a2 l2 c2) ∧ w'.cell? ⟨w.heap.size, 4, none⟩ = some (.slice a3 l3 c3)) (first | (with_reducible exact ⟨o1.cell 0 _ rfl, o1.cell 1 _ rfl, o1.cell 2 _ rfl, o1.cell 3 _ rfl, o1.cell 4 _ rfl⟩) | (simp [go_sem, qo10, qo11, qo12, qo13, qo14, lto1]; done))
          (first
            | (go_at_call 75; have _t := tok1; refine (den_spec _ a b d _ tri).mono ?_; rintro e W121 ⟨d1, rfl, hd1, hb1⟩; have hsW121 : W12.heap.size ≤ W121.heap.size := hb1.size; have hB := hB.trans (hb1.mono hB.size); have o1 := o1.below hb1 o1.lt; have lto1 := o1.lt; have qo10 := o1.cell 0 _ rfl; have qo11 := o1.cell 1 _ rfl; have qo12 := o1.cell 2 _ rfl; have qo13 := o1.cell 3 _ rfl; have qo14 := o1.cell 4 _ rfl; have wa := wa.below hb1 (Nat.le_refl _); have tri := tri.below hb1 (Nat.le_refl _); clear tok1 _t)
            | (go_at_call 74; have _t := tok2; refine (HRe.out _ _ _ wa hd1).mono ?_; rintro e W122 ⟨_, rfl, rfl, hb2⟩; have hsW122 : W121.heap.size ≤ W122.heap.size := hb2.size; have hB := hB.trans (hb2.mono hB.size); have o1 := o1.below hb2 o1.lt; have lto1 := o1.lt; have qo10 := o1.cell 0 _ rfl; have qo11 := o1.cell 1 _ rfl; have qo12 := o1.cell 2 _ rfl; have qo13 := o1.cell 3 _ rfl; have qo14 := o1.cell 4 _ rfl; have wa := wa.below hb2 (Nat.le_refl _); have tri := tri.below hb2 (Nat.le_refl _); have hd1 := hd1.below hb2 (Nat.le_refl _); clear tok2 _t))
        go_wp2_with fail
        go_ret
        exact ⟨_, rfl, congrArg Value.string HF.out.symm, hB⟩
end Go.Proofs.YtfkogkcpndaoeaaGreat
