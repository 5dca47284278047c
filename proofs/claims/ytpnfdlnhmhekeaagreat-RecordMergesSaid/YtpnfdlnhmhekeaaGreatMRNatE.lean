/- The reference's greatest common divisor and decimal digits. Conditions: fewer than 2^20 bits for digits. -/
import Derived.Test.YtpnfdlnhmhekeaaGreatMDec
import Derived.Test.YtpnfdlnhmhekeaaGreatMRNatD
set_option linter.unusedSimpArgs false
set_option linter.unusedVariables false
set_option linter.all false
namespace Go.Proofs.YtpnfdlnhmhekeaaGreat
open Go.RowKit
set_option maxHeartbeats 400000 in
theorem rgcd_spec (v u : Value) (n m k : Nat) (w : World) (h : NatRep w v n) (h' : NatRep w u m) (hn : n < 2 ^ k) (hm : m < 2 ^ k) (hk : k ≤ 8796093022208) :
    Calls Tryz.prog 133 #[v, u] w (Ret w fun w' v' => NatRep w' v' (Nat.gcd n m)) := by
  have Hn := Lib.hid hn
  have Hm := Lib.hid hm
  clear hn hm
  go_enter Tryz.func133, Tryz.ntmps133
  go_wp2_with fail
  go_loopg [0, 1] m (fun g s0 s1 wr => ∃ n' : Nat, NatRep wr s0 n' ∧ NatRep wr s1 g ∧ Hid (n' < 2 ^ k) ∧ Hid (g < 2 ^ k) ∧ Hid (Nat.gcd n' g = Nat.gcd n m) ∧ Below w.heap.size w wr)
  case atStart => exact ⟨n, h, h', Hn, Hm, rfl, Below.refl _ _⟩
  case round =>
    obtain ⟨n', r1, r2, Hn', Hg', He, hb⟩ := hrel
    obtain ⟨a, len, cap, rfl, hlen, hcap, hmax⟩ := r2.any
    by_cases h0 : gk = 0
    · obtain rfl : len = 0 := hlen.2 h0
      subst h0
      go_wp2_with fail
      go_ret
      refine ⟨_, rfl, ?_, hb⟩
      have e := He.out
      rw [Nat.gcd_zero_right] at e
      rw [← e]; exact r1
    · have hl0 : 0 < len := by
        rcases Nat.eq_zero_or_pos len with h | h
        · exact absurd (hlen.1 h) h0
        · exact h
      go_wp2_with fail
      refine (rdiv_spec _ _ n' gk k wr r1 r2 (by omega) Hn'.out hk).mono ?_
      rintro e w' ⟨_, rfl, ⟨q, r, rfl, hq, hr⟩, hb2⟩
      have r3 := r2.below hb2 (Nat.le_refl _)
      have hlt : n' % gk < gk := Nat.mod_lt _ (by omega)
      go_wp2_with fail
      go_roundg (n' % gk)
      case measure => exact hlt
      case rel =>
        refine ⟨gk, r3, hr, Hg', show _ < _ from Nat.lt_trans hlt Hg'.out, show _ = _ from ?_, hb.trans (hb2.mono hb.size)⟩
        rw [← He.out, Nat.gcd_comm n' gk, Nat.gcd_rec gk n', Nat.gcd_comm]

set_option maxRecDepth 100000 in
set_option maxHeartbeats 1600000 in
theorem rtext_spec (v : Value) (n k : Nat) (w : World) (h : NatRep w v n) (hn : n < 2 ^ k) (hk : k ≤ 1048576) :
    Calls Tryz.prog 168 #[v] w (Ret w fun _ v' => v' = .string ⟨(dec n).toArray⟩) := by
  obtain ⟨a, len, cap, rfl, hlen, hcap, hmax⟩ := h.any
  by_cases h0 : n = 0
  · obtain rfl : len = 0 := hlen.2 h0
    subst h0
    clear hlen
    go_enter Tryz.func168, Tryz.ntmps168
    go_wp2
    go_ret
    exact ⟨_, rfl, rfl, Below.refl _ _⟩
  have hl0 : ((len : Int) == 0) = false := by
    have : len ≠ 0 := fun e => h0 (hlen.1 e)
    simp; omega
  have hd : Hid (dec n = (decRev n).reverse) := show _ = _ by unfold dec; rw [if_neg h0]
  have hdl := decRev_length k n hn
  have Hdl := Lib.hid hdl
  have Hn := Lib.hid hn
  have H0 := Lib.hid h0
  obtain ⟨i0, hi, hz0, hz1, hz2⟩ := info_parts info_u8
  clear hdl hn h0 hlen
  go_enter Tryz.func168, Tryz.ntmps168
  go_wp2_with fail
  go_loopg [0, 3] n (fun g s0 s3 wr => ∃ l : List UInt8, NatRep wr s0 g ∧ OwnB wr w.heap.size s3 l ∧ Hid (l ++ decRev g = decRev n) ∧ Hid (g ≤ n) ∧ Below w.heap.size w wr)
  case atStart => exact ⟨[], h, World.ownsRow_nil _ _ _ _, rfl, Nat.le_refl n, Below.refl _ _⟩
  case round =>
    obtain ⟨gx, rfl⟩ : ∃ gx : Nat, gx = gk := ⟨_, rfl⟩
    obtain ⟨l, r1, ow, He, Hg, hb⟩ := hrel
    obtain ⟨a', len', cap', rfl, hlen', hcap', hmax'⟩ := r1.any
    by_cases hg0 : gx = 0
    · obtain rfl : len' = 0 := hlen'.2 hg0
      subst hg0
      clear hlen'
      have hl : l = decRev n := by have h := He.out; rw [decRev_zero, List.append_nil] at h; exact h
      have hlk : l.length ≤ k := by rw [hl]; exact Hdl.out
      have hne : l ≠ [] := fun e => by
        rw [hl, decRev_step (Nat.pos_of_ne_zero H0.out)] at e
        cases e
      obtain ⟨_, hrow⟩ := ow
      rcases hrow with ⟨_, hz⟩ | ⟨g, cap3, cur, rfl, hbg, hgc, hlc, hmc, hsz, htk⟩
      · exact absurd (List.eq_nil_of_length_eq_zero hz) hne
      · rw [Nat.mul_one] at htk
        have ho : Own wr 5 g (l.map byteV ++ cur.toList.drop l.length) := by
          unfold Own
          rw [hgc, ← htk, List.take_append_drop]
        have HL := Lib.hid hl
        obtain ⟨ln, hln⟩ : ∃ ln, ln = l.length := ⟨_, rfl⟩
        have Hln : Hid (l.length = ln) := hln.symm
        rw [← hln] at hlk hlc ho ⊢
        unfold maxLen at hmc
        clear hl hgc hsz htk hln
        have hl1 : 1 ≤ ln := by
          have := Hln.out
          rcases Nat.eq_zero_or_pos ln with h | h
          · rw [h] at this
            exact absurd (List.eq_nil_of_length_eq_zero this) hne
          · exact h
        clear hne
        have hbg2 : w.heap.size ≤ g := hbg
        go_wp2_with fail
        obtain ⟨wo, rfl⟩ : ∃ wo : World, wo = wr := ⟨_, rfl⟩
        go_loopw [7, 8] (fun iv jv wr => ∃ i : Nat, 2 * i ≤ ln + 1 ∧ iv = .int .i64 (i : Int) ∧ jv = .int .i64 ((ln : Int) - 1 - i) ∧ Own wr 5 g ((turned l i).map byteV ++ cur.toList.drop ln) ∧ wo.grownBy wr (some g)) (fun _ j _ => (intOf j + 1).toNat)
        case atStart => exact ⟨0, by omega, rfl, by simp, by rw [turned_zero]; exact ho, grown_refl _ _⟩
        case round =>
          clear ho
          obtain ⟨i, hi, rfl, rfl, ho, hg⟩ := hrel
          by_cases hlt : 2 * i + 1 < ln
          · have e1 : (ln : Int) - 1 - i = ((ln - 1 - i : Nat) : Int) := by omega
            rw [e1]
            have hj : ln - 1 - i < ln := by omega
            generalize hjj : ln - 1 - i = j at *
            have Hj := Lib.hid hjj
            clear hjj e1
            have hij : i < j := by have := Hj.out; omega
            obtain ⟨x, hx⟩ : ∃ x, x = l[i]! := ⟨_, rfl⟩
            obtain ⟨y, hy⟩ : ∃ y, y = l[l.length - 1 - i]! := ⟨_, rfl⟩
            have ei : (turned l i)[i]? = some x := by rw [turned_get l i i (by have := Hln.out; omega), if_neg (by have := Hln.out; omega), hx]
            have ej : (turned l i)[j]? = some y := by rw [turned_get l i j (by have := Hln.out; omega), if_neg (by have := Hln.out; have := Hj.out; omega), hy]; congr 2; have := Hln.out; have := Hj.out; omega
            have hci := ho.cell i (byteV x) (by rw [List.getElem?_append_left (by rw [List.length_map, turned_length]; have := Hln.out; omega), List.getElem?_map, ei]; rfl)
            have hcj := ho.cell j (byteV y) (by rw [List.getElem?_append_left (by rw [List.length_map, turned_length]; have := Hln.out; omega), List.getElem?_map, ej]; rfl)
            have hfi := ho.free i
            have hfj := ho.free j
            have Hx := Lib.hid hx
            have Hy := Lib.hid hy
            unfold byteV at hci hcj
            clear hx hy ei ej
            go_wp2_with fail
            go_region
            go_wp2_with fail
            go_roundw
            case rel =>
              have hst := turned_step l i (by have := Hln.out; omega)
              rw [← Hx.out, ← Hy.out, show l.length - 1 - i = j from by have := Hln.out; have := Hj.out; omega] at hst
              refine ⟨i + 1, by omega, by go_num, int_of (by have := Hj.out; omega), ?_, grown_drew (grown_set (grown_set hg _ _) _ _)⟩
              have h2 := (ho.set i (byteV y)).set j (byteV x)
              rw [List.set_append_left _ _ (by rw [List.length_map, turned_length]; have := Hln.out; omega), ← List.map_set, List.set_append_left _ _ (by rw [List.length_map, List.length_set, turned_length]; have := Hln.out; omega), ← List.map_set, hst] at h2
              exact h2
            case measure => simp [intOf]
          · have hfin := turned_end l i (by have := Hln.out; omega)
            rw [hfin] at ho
            have hge : ¬ ((i : Int) < (ln : Int) - 1 - i) := by omega
            have hB3 := hb.grown hg hb.size (fun j hj => by obtain rfl := Option.some.inj hj; exact hbg2)
            have hcv := run_convert_bytes_arg (P := Tryz.prog) wr 77 5 Tryz.underlying77 Tryz.underlying5 g 0 ln cap3 (l.reverse.map fun b => ((b.toNat : Nat) : Int)) (by simp [Hln.out]) (fun i hi => by
              have hil : i < l.reverse.length := by rw [List.length_reverse, Hln.out]; exact hi
              rw [Nat.zero_add]
              refine ho.cell i _ ?_
              rw [List.getElem?_append_left (by simpa using hil), List.getElem?_map, List.getElem?_eq_getElem hil]
              rw [List.getD_eq_getElem?_getD, List.getElem?_map, List.getElem?_eq_getElem hil]
              rfl) 9 Tryz.underlying9
            have hstr : strOfNums (l.reverse.map fun b => ((b.toNat : Nat) : Int)) = ⟨l.reverse.toArray⟩ := by
              have h := strOfNums_data (l.reverse.map fun b => ((b.toNat : Nat) : Int))
              rw [List.map_map] at h
              have e : ((fun n : Int => UInt8.ofNat n.toNat) ∘ fun b : UInt8 => ((b.toNat : Nat) : Int)) = id := by funext b; simp
              rw [e, List.map_id] at h
              cases hs : strOfNums (l.reverse.map fun b => ((b.toNat : Nat) : Int)) with
              | mk d =>
                rw [hs] at h
                have h2 : d.toList = l.reverse := h
                rw [← h2, Array.toArray_toList]
            rw [hstr] at hcv
            have hres : l.reverse = dec n := by rw [hd.out, HL.out]
            generalize l.reverse = lr at *
            have HR := Lib.hid hres
            clear hstr hres hfin
            go_wp2_with fail
            go_ret
            exact ⟨_, rfl, congrArg (fun z : List UInt8 => Value.string ⟨z.toArray⟩) HR.out, hB3⟩
    · have hl1 : 0 < len' := by
        rcases Nat.eq_zero_or_pos len' with h | h
        · exact absurd (hlen'.1 h) hg0
        · exact h
      clear hlen'
      go_wp2_with fail
      refine (rdigit_spec _ gx 1000000000 k wr r1 (by omega) (by omega) (Nat.lt_of_le_of_lt Hg.out Hn.out) (by omega)).mono ?_
      rintro e w2 ⟨_, rfl, ⟨q, rfl, hq⟩, hb2⟩
      have ow2 := ow.below hb2
      have hb := hb.trans (hb2.mono hb.size)
      obtain ⟨q', hq'⟩ : ∃ q', q' = gx / 1000000000 := ⟨_, rfl⟩
      obtain ⟨r0, hr0⟩ : ∃ r0, r0 = gx % 1000000000 := ⟨_, rfl⟩
      rw [← hq'] at hq
      rw [← hr0]
      have hr1 : r0 < 1000000000 := by omega
      have hqs : q' < gx := by omega
      have He2 : Hid (l ++ decRev (r0 + q' * 10 ^ 9) = decRev n) := show _ = _ by rw [show r0 + q' * 10 ^ 9 = gx from by omega]; exact He.out
      obtain ⟨aq, lq, cq', rfl, hlq, hcq, hmq⟩ := hq.any
      clear hq' hr0 ow r1 He
      go_wp2_with fail
      obtain ⟨wo, rfl⟩ : ∃ wo : World, wo = w2 := ⟨_, rfl⟩
      go_loopg [3, 5, 6] 9 (fun m s3 s4 s5 wi => ∃ (kk r : Nat) (l : List UInt8), kk + m = 9 ∧ s4 = .int .u32 (r : Int) ∧ s5 = .int .i64 (kk : Int) ∧ r < 10 ^ m ∧ OwnB wi w.heap.size s3 l ∧ Hid (l ++ decRev (r + q' * 10 ^ m) = decRev n) ∧ NatRep wi (.slice aq lq cq') q' ∧ Below w.heap.size w wi)
      case atStart => exact ⟨0, r0, l, rfl, rfl, rfl, by omega, ow2, He2, hq, hb⟩
      case round =>
        clear ow2 He2 hq hb
        obtain ⟨kk, r, l', hkm, rfl, rfl, hr, ow, He, hq, hb⟩ := hrel
        have hback : (gk = 0 ∨ lq = 0 ∧ r = 0) → Hid (l' ++ decRev q' = decRev n) := fun hc => by
          have h := He.out
          show _ = _
          rcases hc with rfl | ⟨h1, h2⟩
          · obtain rfl : r = 0 := by simpa using hr
            simpa using h
          · have hq0 : q' = 0 := hlq.1 h1
            rw [hq0] at h ⊢
            rw [h2] at h
            simpa using h
        have HBk := Lib.hid hback
        have Hlq := Lib.hid hlq
        clear hback hlq
        by_cases hm : gk = 0
        · obtain rfl : kk = 9 := by omega
          have He3 := HBk.out (.inl hm)
          clear hm
          go_wp2_with fail
          go_roundg q'
          case measure => exact hqs
          case rel => exact ⟨l', hq, ow, He3, show _ ≤ _ from Nat.le_trans (Nat.le_of_lt hqs) Hg.out, hb⟩
        · obtain ⟨p, rfl⟩ : ∃ p, gk = p + 1 := ⟨gk - 1, by omega⟩
          have hk9 : decide ((kk : Int) < 9) = true := by simp; omega
          by_cases hy : lq = 0 ∧ r = 0
          · have He3 := HBk.out (.inr hy)
            obtain ⟨rfl, rfl⟩ := hy
            go_wp2_with fail
            go_roundg q'
            case measure => exact hqs
            case rel => exact ⟨l', hq, ow, He3, show _ ≤ _ from Nat.le_trans (Nat.le_of_lt hqs) Hg.out, hb⟩
          · have hyp : 0 < r + q' * 10 ^ (p + 1) := by
              rcases Nat.eq_zero_or_pos r with h | h
              · have : lq ≠ 0 := fun e => hy ⟨e, h⟩
                have hq0 : 0 < q' := Nat.pos_of_ne_zero fun e => this (Hlq.out.2 e)
                have := Nat.mul_pos hq0 (Nat.pow_pos (n := p + 1) (show 0 < 10 by omega))
                omega
              · omega
            have He3 := Lib.hid (dec_round He.out hyp)
            have hll : l'.length < 1099511627776 := by
              have h := congrArg List.length He.out
              rw [List.length_append] at h
              have := Hdl.out
              omega
            have hrp : r / 10 < 10 ^ p := by rw [Nat.pow_succ] at hr; omega
            have Hrp := Lib.hid hrp
            have Hr := Lib.hid hr
            have hr32 : r < 4294967296 := by
              have h1 : 10 ^ (p + 1) ≤ 10 ^ 9 := Nat.pow_le_pow_right (by omega) (by omega)
              omega
            have hcase : 0 < r ∨ (r = 0 ∧ 0 < lq) := by omega
            have hbs := hb.size
            clear hyp hy hrp hr
            rcases hcase with hr0 | ⟨rfl, hlq0⟩
            · go_wp2_with (at_builtin; go_must (refine append_byte wr rfl (.tmp 33) (.tmp 38) _ rfl Tryz.underlying77 w.heap.size _ l' (digit r) _ (digit_val r) rfl rfl ow hll hbs ?_); intro v3 w3 ow3 hg3)
              go_roundg p
              case measure => omega
              case rel => exact ⟨kk + 1, r / 10, l' ++ [digit r], by omega, int_of (by omega), by go_num, Hrp.out, ow3, He3.out, NatRep.row hq ow (by decide) hg3, hb.grown hg3 hbs (fun j hj => (World.ownsRow.lt ow _ hj).1)⟩
            · go_wp2_with (at_builtin; go_must (refine append_byte wr rfl (.tmp 33) (.tmp 38) _ rfl Tryz.underlying77 w.heap.size _ l' (digit 0) _ rfl rfl rfl ow hll hbs ?_); intro v3 w3 ow3 hg3)
              go_roundg p
              case measure => omega
              case rel => exact ⟨kk + 1, 0 / 10, l' ++ [digit 0], by omega, rfl, by go_num, Hrp.out, ow3, He3.out, NatRep.row hq ow (by decide) hg3, hb.grown hg3 hbs (fun j hj => (World.ownsRow.lt ow _ hj).1)⟩
end Go.Proofs.YtpnfdlnhmhekeaaGreat
