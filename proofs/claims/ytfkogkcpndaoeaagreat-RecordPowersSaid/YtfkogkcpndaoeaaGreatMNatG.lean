/- The quotient and the remainder of two nats. Conditions: the divisor is not 0; fewer than 2^40 words. -/
import Derived.Test.YtfkogkcpndaoeaaGreatMNatE
import Derived.Test.YtfkogkcpndaoeaaGreatShelf
import Derived.Lib.ItoaNum
import Derived.Deep.RegionWith
import Derived.StillTailTactics
import Derived.Deep.CutBlock
set_option linter.all false
namespace Go.Proofs.YtfkogkcpndaoeaaGreat
open Go.RowKit
theorem lz_spec (d : Nat) (w : World) (h0 : 0 < d) (h1 : d < 4294967296) :
    Calls Tryz.prog 182 #[.int .u32 (d : Int)] w (RetQ w fun v => ∃ bl s : Nat, v = .int .i64 (s : Int) ∧ 1 ≤ bl ∧ bl ≤ 32 ∧ s ≤ 31 ∧ Hid (s = 32 - bl) ∧ Hid (2 ^ (bl - 1) ≤ d) ∧ Hid (d < 2 ^ bl)) := by
  refine (Tryz.bits_LeadingZeros32 (d : Int) w (by omega) (by omega)).mono ?_
  rintro e w' ⟨he, hw⟩
  rw [Int.toNat_natCast] at he
  have hb := Lib.bitLenAux_bounds 64 d (by omega) (by omega)
  have hl : Lib.bitLen d ≤ 32 := Lib.bitLen_le d 32 (by omega) h1
  have h1 : 1 ≤ Lib.bitLen d := hb.1
  exact ⟨_, he, ⟨Lib.bitLen d, 32 - Lib.bitLen d, int_of (by omega), h1, hl, by omega, rfl, hb.2.1, hb.2.2⟩, hw.symm⟩
def DivP (n m : Nat) (w : World) (r : Value) : Prop := ∃ q r' : Value, r = .tuple #[q, r'] ∧ NatRep w q (n / m) ∧ NatRep w r' (n % m)
set_option maxRecDepth 100000 in
set_option maxHeartbeats 3200000 in
theorem div_long (xs ys : List Nat) (a b : Option Addr) (lx cx ly cy k : Nat) (w : World) (h1 : Us w (.slice a lx cx) xs) (nX : Norm xs) (Hlx : Hid (xs.length = lx)) (wX : Words xs)
    (k1 : Us w (.slice b ly cy) ys) (nY : Norm ys) (Hly : Hid (ys.length = ly)) (hlcy : ly ≤ cy) (hmy : cy ≤ 9223372036854775807) (hY : UsA w b ys) (wY : Words ys) (hmn : Hid (nval ys ≤ nval xs)) (hl2 : 2 ≤ ly) (hn : Hid (nval xs < 2 ^ k)) (hk : k ≤ 8796093022208) :
    Calls Tryz.prog 143 #[.slice a lx cx, .slice b ly cy] w (Ret w (DivP (nval xs) (nval ys))) := by
  have sx := len_small Hlx nX hn.out (by omega)
  have hc : (cmpZ (nval xs) (nval ys) < 0) = False := by
    unfold cmpZ
    rw [if_neg (by have := hmn.out; omega)]
    split <;> simp
  have hll : ly ≤ lx := by
    rcases Nat.lt_or_ge lx ly with hlt | hge
    · have := len_lt wX nY (by rw [Hlx.out, Hly.out]; exact hlt)
      have := hmn.out
      omega
    · exact hge
  have e1 : ((ly : Int) == 1) = false := by simp; omega
  obtain ⟨d, hd⟩ := get_lt Hly (i := ly - 1) (by omega)
  obtain ⟨by', oy, rfl, hcd⟩ := hY.at hd
  have hd0 : 0 < d := by
    rcases Nat.eq_zero_or_pos d with h0 | h0
    · exfalso
      apply nY
      rw [List.getLast?_eq_getElem?, Hly.out, hd, h0]
    · exact h0
  have hdb := wY _ (List.mem_of_getElem? hd)
  have Hd := Lib.hid hd
  clear hd
  go_enter Tryz.func143, Tryz.ntmps143
  go_wp2_with fail
  refine (cmp_spec _ _ (nval xs) (nval ys) w ⟨xs, h1, nX, rfl⟩ ⟨ys, k1, nY, rfl⟩).mono ?_
  rintro e w1 ⟨_, rfl, rfl, hb1⟩
  have hcd1 := hb1.cell (World.block_lt_of_cell? w _ hcd)
  rw [hcd] at hcd1
  clear hcd
  go_wp2_with fail
  refine (lz_spec d _ hd0 hdb).mono ?_
  rintro e w2 ⟨_, rfl, ⟨bl, s, rfl, hbl1, hbl2, hs1, Hs, Hb1, Hb2⟩, rfl⟩
  clear hc hcd1
  have k1' := k1.below hb1 (Nat.le_refl _)
  have h1' := h1.below hb1 (Nat.le_refl _)
  have Hsu := Lib.hid (shift_up (p := ly - 1) (by rw [Hly.out]; omega) wY Hd.out hbl1 Hb1.out Hb2.out hbl2 Hs.out)
  go_wp2_with fail
  refine (shl_spec _ (nval ys) s k _ ⟨ys, k1', nY, rfl⟩ (Nat.lt_of_le_of_lt hmn.out hn.out) (by omega) (by omega)).mono ?_
  rintro e w3 ⟨v, rfl, ⟨vs, u1, u2, Hvs⟩, hb3⟩
  obtain ⟨av, lv, cv, rfl, Hlv, hlcv, hmv, hV, wV⟩ := u1.any
  have Hvl : Hid (lv = ly) := by
    have := len_of_between wV u2 (by rw [Hvs]; exact Hsu.out.1) (by rw [Hvs]; exact Hsu.out.2)
    show lv = ly
    rw [← Hlv.out, this]; omega
  obtain rfl := Hvl.out
  clear Hvl
  have HvE := Lib.hid Hvs
  clear Hvs
  go_wp2_with (at_make; refine make_u32 _ rfl _ _ rfl Tryz.underlying36 _ (lx + 1) rfl (by omega) (by omega) ?_; intro w4 ho4 hb4 hs4)
  have h1'' := (h1'.below hb3 (Nat.le_refl _)).below hb4 (Nat.le_refl _)
  refine (shl_spec _ (nval xs) s k _ ⟨xs, h1'', nX, rfl⟩ hn.out (by omega) (by omega)).mono ?_
  rintro e w5 ⟨v, rfl, ⟨ws, t1, t2, Hws⟩, hb5⟩
  obtain ⟨aw, lw, cw, rfl, Hlw, hlcw, hmw, hW, wW⟩ := t1.any
  obtain ⟨hlw1, hws1⟩ := shifted_len wX Hlx.out t2 Hws hs1
  rw [Hlw.out] at hlw1
  have Hws1 := Lib.hid hws1
  have HwsE := Lib.hid Hws
  clear Hws hws1
  have ho5 := ho4.below hb5 ho4.lt
  obtain ⟨mq, hmq⟩ : ∃ mq, lx + 1 = lv + mq := ⟨lx + 1 - lv, by omega⟩
  have hmq1 : (lx : Int) + 1 - lv = mq := by omega
  have hmq2 : mq ≤ lx := by omega
  have hmq3 : lv + mq ≤ lx + 1 := by omega
  have hmq4 : 1 ≤ mq := by omega
  have Hmq := Lib.hid hmq
  clear hmq
  go_wp2_with (first
    | (refine copy_u32 _ rfl (.tmp 56) (.tmp 59) _ _ rfl Tryz.underlying36 w3.heap.size (lx + 1) lw cw aw _ ws rfl rfl ho5 (List.length_replicate ..) Hlw.out hW wW hlw1 ?_; intro w6 ho6 hg6)
    | (at_make; refine make_u32 _ rfl (.tmp 64) _ rfl Tryz.underlying36 _ mq rfl (by omega) (by omega) ?_; intro w7 ho7 hb7 hs7))
  have hV7 : UsA w7 av vs := (((hV.below hb4 (Nat.le_refl _)).below hb5 (Nat.le_refl _)).grown hg6 (fun b o e => by
    obtain ⟨b', o', e', hc'⟩ := hV.at (i := 0) (x := vs[0]'(by rw [Hlv.out]; omega)) (List.getElem?_eq_getElem _)
    have := World.block_lt_of_cell? w3 _ hc'
    rw [e] at e'
    simp only [Option.some.injEq, Addr.mk.injEq, and_true] at e'
    have h3 : b = b' := e'.1
    have h4 : b' < w3.heap.size := this
    omega)).below hb7 (Nat.le_refl _)
  have hVb : Hid (∀ b o, av = some ⟨b, o, none⟩ → b < w3.heap.size) := fun b o e => by
    obtain ⟨b', o', e', hc'⟩ := hV.at (i := 0) (x := vs[0]'(by rw [Hlv.out]; omega)) (List.getElem?_eq_getElem _)
    have := World.block_lt_of_cell? w3 _ hc'
    rw [e] at e'
    simp only [Option.some.injEq, Addr.mk.injEq, and_true] at e'
    have h3 : b = b' := e'.1
    have h4 : b' < w3.heap.size := this
    omega
  have ho6' := ho6.below hb7 ho6.lt
  have hbw : Below w.heap.size w w7 := by
    have b3 := hb1.trans (hb3.mono hb1.size)
    have b4 := b3.trans (hb4.mono b3.size)
    have b5 := b4.trans (hb5.mono b4.size)
    have b6 := b5.grown hg6 b5.size (fun k hk => by obtain rfl := Option.some.inj hk; exact b3.size)
    exact b6.trans (hb7.mono b6.size)
  have hgq : w3.heap.size < w6.heap.size := ho6.lt
  have hgw : w.heap.size ≤ w3.heap.size := (hb1.trans (hb3.mono hb1.size)).size
  generalize w3.heap.size = gu at *
  generalize w6.heap.size = gq at *
  obtain ⟨us0, hus0⟩ : ∃ us0, us0 = ws ++ (List.replicate (lx + 1) 0).drop lw := ⟨_, rfl⟩
  rw [← hus0] at ho6'
  have Hus0 : Hid (us0.length = lx + 1) := show _ = _ by rw [hus0]; simp [Hlw.out]; omega
  have HN0 : Hid (nval us0 = nval xs * 2 ^ s) := show _ = _ by rw [hus0, nval_pad]; exact HwsE.out
  have HN1 : Hid (nval us0 < 4294967296 ^ lx * 2147483648) := show _ < _ by rw [hus0, nval_pad]; exact Hws1.out
  clear hus0 ho6 ho5 ho4 hb1 hb3 hb4 hb5 hb7 hg6 hV hW hs4 hs7 t1 u1 h1 h1' h1'' k1' k1 hY
  obtain ⟨n2, hn2⟩ : ∃ n2, lv = n2 + 2 := ⟨lv - 2, by omega⟩
  have Hn2 := Lib.hid hn2
  have hvlt : nval vs < 4294967296 ^ (n2 + 2) := by have := nval_lt wV; rwa [Hlv.out, hn2] at this
  have hvge : 2147483648 * 4294967296 ^ (n2 + 1) ≤ nval vs := by
    have := Hsu.out.1
    rw [show lv - 1 = n2 + 1 from by omega] at this
    rw [HvE.out]; exact this
  clear hn2
  obtain ⟨v1, v0, hv1, hv0, hv1b, hv0b, hvlo, hvhi⟩ := top2 wV (p := n2) (by rw [Hlv.out, Hn2.out]; omega) hvlt
  have hv1g : 2147483648 ≤ v1 := first_ge (D := 4294967296 ^ n2) (by rw [Nat.mul_assoc, ← Nat.pow_succ']; exact hvge) hvhi hv0b
  have Hv1 : Hid (vs[lv - 1]? = some v1) := show _ = _ by rw [show lv - 1 = n2 + 1 from by have := Hn2.out; omega]; exact hv1
  have Hv0 : Hid (vs[lv - 2]? = some v0) := show _ = _ by rw [show lv - 2 = n2 from by have := Hn2.out; omega]; exact hv0
  have Hvlo := Lib.hid hvlo
  have Hvhi := Lib.hid hvhi
  have Hvlt := Lib.hid hvlt
  have Hvge := Lib.hid hvge
  clear hv1 hv0 hvlo hvhi hvlt hvge
  go_loopw [13] (fun jv wr => ∃ (k : Nat) (us qs : List Nat), k ≤ mq ∧ jv = .int .i64 ((k : Int) - 1) ∧ OwnU wr gu us ∧ OwnU wr gq qs ∧ Hid (us.length = lx + 1) ∧ Hid (qs.length = mq) ∧ UsA wr av vs ∧
      Hid (nval (qs.drop k) * (nval vs * 4294967296 ^ k) + nval us = nval xs * 2 ^ s ∧ nval us < nval vs * 4294967296 ^ k) ∧ Below w.heap.size w wr) (fun jv _ => (intOf jv + 1).toNat)
  case atStart =>
    refine ⟨mq, us0, _, Nat.le_refl _, rfl, ho6', ho7, Hus0, List.length_replicate .., hV7, show _ ∧ _ from ⟨?_, ?_⟩, hbw⟩
    · rw [List.drop_of_length_le (by simp), HN0.out]; simp [nval]
    · have h1 := HN1.out
      have h2 := Nat.mul_le_mul_right (4294967296 ^ mq) Hvge.out
      rw [Nat.mul_assoc, ← Nat.pow_add, show n2 + 1 + mq = lx from by have := Hn2.out; have := Hmq.out; omega, Nat.mul_comm] at h2
      omega
  case round =>
    clear ho6' ho7 hbw
    obtain ⟨k1, us, qs, hkq, rfl, ho, hoq, Hul, Hql, hV, Hinv, hb⟩ := hrel
    obtain ⟨wo, rfl⟩ : ∃ wo : World, wo = wr := ⟨_, rfl⟩
    by_cases hk0 : k1 = 0
    · subst hk0
      have hUq : Us wo (.slice (some ⟨gq, 0, none⟩) mq mq) qs := hoq.us (by rw [Hql.out]; omega) Hql.out.symm
      have hUu : Us wo (.slice (some ⟨gu, 0, none⟩) lv (lx + 1)) (us.take lv) := us_take (o := 0) (fun _ => ⟨_, _, ho.1⟩) (by rw [Hul.out]; omega) (by omega) (by omega) ho.2 (fun i x hx => by rw [Nat.zero_add]; exact ho.cell i x hx)
      have hfin := Hinv.out
      rw [List.drop_zero, Nat.pow_zero, Nat.mul_one] at hfin
      have hY0 : 0 < nval ys := by
        rcases Nat.eq_zero_or_pos (nval ys) with h0 | h0
        · have := nval_zero nY h0
          have h3 := Hly.out
          rw [this] at h3
          simp at h3
          omega
        · exact h0
      obtain ⟨hf1, hf2⟩ := div_final hY0 HvE.out hfin.1 hfin.2
      have htk : nval (us.take lv) = nval us := take_low ho.2 (Nat.lt_trans hfin.2 (by have := nval_lt wV; rwa [Hlv.out] at this))
      have hus : nval us < 2 ^ (k + 31) := by
        have h3 : nval xs * 2 ^ s < 2 ^ k * 2 ^ 31 := Nat.lt_of_lt_of_le (Nat.mul_lt_mul_of_pos_right hn.out (Nat.pow_pos (by omega))) (Nat.mul_le_mul_left _ (Nat.pow_le_pow_right (by omega) hs1))
        rw [← Nat.pow_add] at h3
        omega
      have Hf1 := Lib.hid hf1
      have Hf2 := Lib.hid hf2
      have Htk := Lib.hid htk
      have Hus := Lib.hid hus
      clear hfin hf1 hf2 htk hus Hinv
      go_wp2_with fail
      have hAq : UsA wo (some ⟨gq, 0, none⟩) qs := fun i x hx => ⟨gq, 0, rfl, by rw [Nat.zero_add]; exact hoq.cell i x hx⟩
      have hAu : UsA wo (some ⟨gu, 0, none⟩) (us.take lv) := fun i x hx => ⟨gu, 0, rfl, by
        rw [Nat.zero_add]
        rw [List.getElem?_take] at hx
        split at hx
        · exact ho.cell i x hx
        · cases hx⟩
      have Htkl : Hid ((us.take lv).length = lv) := show _ = _ by rw [List.length_take, Hul.out]; omega
      have hsl : (lv : Int) ≤ (lx : Int) + 1 := by omega
      refine wp_region_still_tail 7 (by kernel_rfl) (by kernel_rfl) ?_
      simp only [List.take_succ_cons, List.take_zero, List.drop_succ_cons, List.drop_zero]
      still_step
      still_call (trim_eq (some ⟨gq, 0, none⟩) mq mq qs _ Hql (Nat.le_refl _) (by omega) hAq)
      still_step
      still_step
      still_step
      still_call (trim_eq (some ⟨gu, 0, none⟩) lv (lx + 1) (us.take lv) _ Htkl (by omega) (by omega) hAu)
      still_step
      refine wpStill_nil ?_
      change wpList _ _ _ _ _ wo.drew
      go_wp2_with fail
      have hdr : Below wo.heap.size wo wo.drew := (Below.refl _ _).drew
      refine (shr_spec _ (nval (us.take lv)) s (k + 31) _ ((trim_rep hUu).below hdr (Nat.le_refl _)) (by rw [Htk.out]; exact Hus.out) (by omega) (by omega)).mono ?_
      rintro e w' ⟨v3, rfl, hv3, hb3⟩
      go_wp2_with fail
      go_ret2
      rw [Htk.out, Hf2.out] at hv3
      have hv := trim_rep hUq
      rw [Hf1.out] at hv
      exact ⟨_, rfl, ⟨_, _, rfl, (hv.below hdr (Nat.le_refl _)).below hb3 (Nat.le_refl _), hv3⟩, hb.trans ((hdr.trans hb3).mono hb.size)⟩
    · obtain ⟨j, rfl⟩ : ∃ j, k1 = j + 1 := ⟨k1 - 1, by omega⟩
      have ej : (((j + 1 : Nat) : Int) - 1) = (j : Int) := by omega
      rw [ej]
      have hjl : j + lv ≤ lx := by omega
      have hn2l : lv = n2 + 2 := Hn2.out
      have hNlt : nval us < 4294967296 ^ (j + n2 + 3) := by
        have h1 := Hinv.out.2
        have h2 := Nat.mul_lt_mul_of_pos_right Hvlt.out (Nat.pow_pos (n := j + 1) (show 0 < 4294967296 by omega))
        rw [← Nat.pow_add, show n2 + 2 + (j + 1) = j + n2 + 3 from by omega] at h2
        omega
      obtain ⟨z2, z1, z0, hz2, hz1, hz0, hz2b, hz1b, hz0b, hNlo, hNhi⟩ := top3 ho.2 (p := j + n2) (by rw [Hul.out]; omega) hNlt
      have hc2 := ho.cell (j + lv) z2 (by rw [hn2l, show j + (n2 + 2) = j + n2 + 2 from by omega]; exact hz2)
      have hc1 := ho.cell (j + lv - 1) z1 (by rw [hn2l, show j + (n2 + 2) - 1 = j + n2 + 1 from by omega]; exact hz1)
      have hc0 := ho.cell (j + lv - 2) z0 (by rw [hn2l, show j + (n2 + 2) - 2 = j + n2 from by omega]; exact hz0)
      obtain ⟨bv, ov, rfl, hcv1⟩ := hV.at Hv1.out
      have hcv0 := hV.cell Hv0.out
      have HNlo := Lib.hid hNlo
      have HNhi := Lib.hid hNhi
      clear hz2 hz1 hz0 hNlo hNhi hNlt hn2l
      have ea : IntKind.i64.wrap ((j : Int) + lv) = (j : Int) + lv := IntWalk.i64_in _ (by omega)
      have eb : IntKind.i64.wrap ((j : Int) + lv - 1) = (j : Int) + lv - 1 := IntWalk.i64_in _ (by omega)
      have ta : ((j : Int) + lv).toNat = j + lv := by omega
      have tb : ((j : Int) + lv - 1).toNat = j + lv - 1 := by omega
      obtain ⟨top, htop⟩ : ∃ top : Nat, top = z2 * 4294967296 + z1 := ⟨_, rfl⟩
      have hor : bits .or .u64 ((z2 : Int) * 4294967296) (z1 : Int) = (top : Int) := by rw [or_high z2 z1 hz2b hz1b, htop]; omega
      have ec : IntKind.i64.wrap ((lv : Int) - 1) = (lv : Int) - 1 := IntWalk.i64_in _ (by omega)
      have tc : ((lv : Int) - 1).toNat = lv - 1 := by omega
      obtain ⟨g0, hg0⟩ : ∃ g0 : Nat, g0 = top / v1 := ⟨_, rfl⟩
      obtain ⟨r0, hr0⟩ : ∃ r0 : Nat, r0 = top % v1 := ⟨_, rfl⟩
      have hq1 : (top : Int).tdiv v1 = (g0 : Int) := by rw [hg0]; rfl
      have hq2 : (top : Int).tmod v1 = (r0 : Int) := by rw [hr0]; rfl
      have hq3 : (top : Int) / v1 = (g0 : Int) := by rw [hg0]; rfl
      have hq4 : (top : Int) % v1 = (r0 : Int) := by rw [hr0]; rfl
      have hv1z : ((v1 : Int) == 0) = false := by simp; omega
      have hr0l : r0 < v1 := by rw [hr0]; exact Nat.mod_lt _ (by omega)
      have hg0e : g0 * v1 + r0 = top := by rw [hg0, hr0, Nat.mul_comm]; exact Nat.div_add_mod _ _
      have htopb : top < 18446744073709551616 := by omega
      have hg0b : g0 < 8589934592 := by
        rcases Nat.lt_or_ge g0 8589934592 with h | h
        · exact h
        · have := Nat.mul_le_mul h hv1g; omega
      have Htop := Lib.hid htop
      have Hg0 := Lib.hid hg0e
      clear htop hg0 hr0 hg0e
      go_wp2_with fail
      go_quiet (fail)
      go_wp2_with fail
      go_quiet (fail)
      have hKC := KC.make Hvlo.out Hvhi.out Hinv.out.2 HNlo.out HNhi.out hv0b hv1b hv1g hz0b hz1b Htop.out
      obtain ⟨W, hWe⟩ : ∃ W, W = nval vs * 4294967296 ^ j := ⟨_, rfl⟩
      obtain ⟨N, hNe⟩ : ∃ N, N = nval us := ⟨_, rfl⟩
      rw [← hWe, ← hNe] at hKC
      have hKN := hKC.start Hg0.out hr0l
      have HK := Lib.hid hKC
      have HW := Lib.hid hWe
      have HN := Lib.hid hNe
      have hVne : Hid (bv ≠ gu) := by
        have := hVb.out bv ov rfl
        show bv ≠ gu
        omega
      have ed : IntKind.i64.wrap ((lv : Int) - 2) = (lv : Int) - 2 := IntWalk.i64_in _ (by omega)
      have ee : IntKind.i64.wrap ((j : Int) + lv - 2) = (j : Int) + lv - 2 := IntWalk.i64_in _ (by omega)
      have td : ((lv : Int) - 2).toNat = lv - 2 := by omega
      have te : ((j : Int) + lv - 2).toNat = j + lv - 2 := by omega
      clear hKC hWe hNe hc2 hc1 hor hq1 hq2 hq3 hq4 hz2b hz1b eb tb Htop Hg0 HNlo HNhi hr0l hg0b htopb
      go_upto_block 2 with fail
      go_cut [15] (fun sg wx => ∃ g n : Nat, sg = .int .u64 (g : Int) ∧ g < 4294967296 ∧ Hid (KO N W g) ∧ wx = wo.drewN n)
      case first =>
        as_aux_lemma =>
          have KN0 := Lib.hid hKN
          clear hKN
          go_wp2_with fail
          go_loopw [15, 16] (fun sg sr wr => ∃ g r n : Nat, sg = .int .u64 (g : Int) ∧ sr = .int .u64 (r : Int) ∧ g < 8589934592 ∧ r < 4294967296 ∧ Hid (KN v1 top N W g r) ∧ wr = wo.drewN n) (fun sg _ _ => (intOf sg).toNat)
          case atStart => exact ⟨g0, r0, _, rfl, rfl, KN0.out.gb, KN0.out.rb, KN0.out, World.drewN_drewN _ _ _⟩
          case round =>
            obtain ⟨g, r, n, rfl, rfl, hgb, hrb, HKN, rfl⟩ := hrel
            by_cases hA : 4294967296 ≤ g
            · obtain ⟨h1, hD1, hD2⟩ := HK.out.down HKN.out (.inl hA)
              have HD1 := Lib.hid hD1
              have HD2 := Lib.hid hD2
              clear hD1 hD2
              have hA1 : decide ((4294967296 : Int) ≤ (g : Int)) = true := by simp; omega
              have HA := Lib.hid hA
              clear hA
              go_wp2_with fail
              go_quiet (fail)
              by_cases hR : r + v1 < 4294967296
              · have hR1 : decide ((4294967296 : Int) ≤ (r : Int) + v1) = false := by simp; omega
                go_wp2_with fail
                go_roundw
                case rel =>
                  have K1 := HD1.out hR
                  exact ⟨g - 1, r + v1, _, int_of (by omega), int_of (by omega), K1.gb, hR, K1, rfl⟩
                case measure => simp [intOf]; omega
              · have hR1 : decide ((4294967296 : Int) ≤ (r : Int) + v1) = true := by simp; omega
                go_wp2_with fail
                go_meet
                have K1 := HD2.out (by omega)
                exact ⟨g - 1, _, int_of (by omega), K1.gb, K1, rfl⟩
            · have hA1 : decide ((4294967296 : Int) ≤ (g : Int)) = false := by simp; omega
              obtain ⟨P, hP⟩ : ∃ P, P = g * v0 := ⟨_, rfl⟩
              obtain ⟨T, hT⟩ : ∃ T, T = r * 4294967296 + z0 := ⟨_, rfl⟩
              have hPb : P < 18446744073709551616 := by
                have := mul_lt (x := g) (y := v0) (by omega) hv0b
                omega
              have hP1 : IntKind.u64.wrap ((g : Int) * v0) = (P : Int) := by
                have e : (g : Int) * v0 = (P : Int) := by rw [hP]; rfl
                rw [e]; exact IntWalk.u64_in _ (by omega)
              have hT1 : bits .or .u64 ((r : Int) * 4294967296) (z0 : Int) = (T : Int) := by rw [or_high r z0 hrb hz0b, hT]; omega
              have HP := Lib.hid hP
              have HT := Lib.hid hT
              have HA := Lib.hid hA
              clear hP hT hA
              by_cases hB : T < P
              · have hB1 : decide ((T : Int) < (P : Int)) = true := by simp; omega
                obtain ⟨h1, hD1, hD2⟩ := HK.out.down HKN.out (.inr (by rw [← HP.out, ← HT.out]; exact hB))
                have HD1 := Lib.hid hD1
                have HD2 := Lib.hid hD2
                have HB := Lib.hid hB
                clear hD1 hD2 hB
                go_wp2_with fail
                go_quiet (fail)
                by_cases hR : r + v1 < 4294967296
                · have hR1 : decide ((4294967296 : Int) ≤ (r : Int) + v1) = false := by simp; omega
                  go_wp2_with fail
                  go_roundw
                  case rel =>
                    have K1 := HD1.out hR
                    exact ⟨g - 1, r + v1, _, int_of (by omega), int_of (by omega), K1.gb, hR, K1, rfl⟩
                  case measure => simp [intOf]; omega
                · have hR1 : decide ((4294967296 : Int) ≤ (r : Int) + v1) = true := by simp; omega
                  go_wp2_with fail
                  go_meet
                  have K1 := HD2.out (by omega)
                  exact ⟨g - 1, _, int_of (by omega), K1.gb, K1, rfl⟩
              · have hB1 : decide ((T : Int) < (P : Int)) = false := by simp; omega
                have HO := HK.out.stop HKN.out (by have := HA.out; omega) (by rw [← HP.out, ← HT.out]; omega)
                have HO' := Lib.hid HO
                have HB := Lib.hid hB
                clear hB HO
                go_wp2_with fail
                go_quiet (fail)
                go_wp2_with fail
                go_meet
                exact ⟨g, _, rfl, HO'.out.gb, HO'.out, World.drewN_drewN _ _ _⟩
      case rest =>
        as_aux_lemma =>
          obtain ⟨g, n, rfl, hgb, HO, rfl⟩ := hcut
          clear hc0 hcv0 hcv1 ea ec ed ee ta tc td te hv1z hKN
          have ho' : OwnU (wo.drewN n) gu us := ho
          have hV' : UsA (wo.drewN n) (some ⟨bv, ov, none⟩) vs := hV
          have hoq' : OwnU (wo.drewN n) gq qs := hoq
          have hne : ∀ b' o, (some (⟨bv, ov, none⟩ : Addr)) = some ⟨b', o, none⟩ → b' ≠ gu := fun b' o e => by
            simp only [Option.some.injEq, Addr.mk.injEq, and_true] at e
            rw [← e.1]; exact hVne.out
          have Hne := Lib.hid hne
          have hbn := below_drewN hb n
          clear hne ho hV hoq hb
          go_wp2_with fail
          refine (take_spec _ gu (lx + 1) us vs _ lv cv g j ho' Hul (by omega) hV' Hne.out Hlv wV (by omega) hlcv hgb (by omega)).mono ?_
          rintro e w8 ⟨us', b', bb, rfl, hbb, ho8, hl8, hb8, heq8, hdr8, hg8⟩
          have hV8 := hV'.grown hg8 Hne.out
          have hoq8 := hoq'.grown hg8 (by omega)
          have hB8 : Below w.heap.size w w8 := hbn.grown hg8 hbn.size (fun k hk => by obtain rfl := Option.some.inj hk; exact hgw)
          have Hl8 : Hid (us'.length = lx + 1) := show _ = _ by rw [hl8, Hul.out]
          rw [Hlv.out] at heq8 hdr8
          have hlow : nval us < 4294967296 ^ (j + lv + 1) := by
            have h1 := Hinv.out.2
            have h2 := Nat.mul_lt_mul_of_pos_right (nval_lt wV) (Nat.pow_pos (n := j + 1) (show 0 < 4294967296 by omega))
            rw [Hlv.out, ← Nat.pow_add, show lv + (j + 1) = j + lv + 1 from by omega] at h2
            omega
          have hlow8 := low_of_drop ho'.2 ho8.2 hdr8 hlow
          have wus := ho'.2
          have e8 : 4294967296 ^ j * (g * nval vs) = g * W := by rw [HW.out]; exact mul_swap _ _ _
          rw [e8] at heq8
          have Heq8 := Lib.hid heq8
          have Hdr8 := Lib.hid hdr8
          have Hlow := Lib.hid hlow
          have Hlow8 := Lib.hid hlow8
          have Hbb := Lib.hid hbb
          obtain ⟨zq, hzq⟩ := get_lt Hql (i := j) (by omega)
          have hcq := hoq8.cell j zq hzq
          have hfq := hoq8.free j
          have Hzq := Lib.hid hzq
          have hne1 : (gq = gu) = False := by simp; omega
          have hne2 : (gu = gq) = False := by simp; omega
          clear hl8 heq8 hdr8 hlow hlow8 hbb e8 hzq ho' hV' hoq' hbn hg8
          have HuW := Lib.hid wus
          clear wus
          cases bb
          · have hb0 : b' = 0 := by
              have := Hbb.out
              rcases Nat.lt_or_ge b' 1 with h | h
              · omega
              · have := this.2 (by omega); cases this
            subst hb0
            have h1 : nval us' + g * W = N := by have := Heq8.out; rw [HN.out]; rwa [Nat.mul_zero, Nat.add_zero] at this
            have h2 := div_keep h1 HO.out.hi
            have H1 := Lib.hid h1
            have H2 := Lib.hid h2
            clear h1 h2
            go_wp2_with fail
            go_roundw
            case rel =>
              refine ⟨j, us', qs.set j g, by omega, rfl, ho8.grown (grown_set (grown_refl w8 (some gq)) _ _) (by omega), hoq8.set j g hgb, Hl8, (by rw [List.length_set]; exact Hql.out), hV8.grown (grown_set (grown_refl w8 (some gq)) _ _) ?_, show _ ∧ _ from ⟨?_, ?_⟩, hB8.setCell (show _ ≤ gq by omega) _⟩
              · intro b o e
                simp only [Option.some.injEq, Addr.mk.injEq, and_true] at e
                have := hVb.out bv ov rfl
                omega
              · refine div_digit (by rw [Hql.out]; omega) rfl Hinv.out.1 ?_
                have := H1.out
                rw [HW.out, HN.out] at this
                exact this
              · have := H2.out
                rw [HW.out] at this
                exact this
            case measure => simp [intOf]
          · have hb1 : b' = 1 := Hbb.out.1 rfl
            subst hb1
            obtain ⟨k2, rfl⟩ := back_pos Heq8.out Hlow8.out
            clear hcq hfq
            go_wp2_with fail
            go_loopw [17, 151] (fun cv iv wr => ∃ (i c : Nat) (zs : List Nat), i ≤ lv ∧ iv = .int .i64 (i : Int) ∧ cv = .int .u64 (c : Int) ∧ c ≤ 1 ∧ OwnU wr gu zs ∧ Hid (zs.length = lx + 1) ∧
                Hid (nval zs + 4294967296 ^ (j + i) * c = nval us' + 4294967296 ^ j * nval (vs.take i) ∧ zs.drop (j + lv + 1) = us'.drop (j + lv + 1)) ∧ w8.grownBy wr (some gu)) (fun _ i _ => lv - (intOf i).toNat)
            case atStart => exact ⟨0, 0, us', Nat.zero_le _, rfl, rfl, by omega, ho8, Hl8, show _ ∧ _ from ⟨by simp [nval], rfl⟩, grown_refl _ _⟩
            case round =>
              clear ho8
              obtain ⟨i, c, zs, hil, rfl, rfl, hc1, ho, Hzl, Hinv2, hg⟩ := hrel
              by_cases hi : i < lv
              · obtain ⟨x, hx⟩ := get_lt Hlv hi
                have hcx := (hV8.grown hg Hne.out).cell hx
                have hxb := wV _ (List.mem_of_getElem? hx)
                obtain ⟨z, hz⟩ := get_lt Hzl (i := i + j) (by omega)
                have hcz := ho.cell (i + j) z hz
                have hfz := ho.free (i + j)
                have hzb := ho.2 _ (List.mem_of_getElem? hz)
                have Hz := Lib.hid hz
                have Hx := Lib.hid hx
                clear hx hz
                go_wp2_with fail
                go_roundw
                case rel =>
                  have hr : (c + (z + x)) % 4294967296 < 4294967296 := Nat.mod_lt _ (by omega)
                  have he := Nat.mod_add_div (c + (z + x)) 4294967296
                  have hq : (c + (z + x)) / 4294967296 ≤ 1 := Nat.le_of_lt_succ (Nat.div_lt_of_lt_mul (by omega))
                  refine ⟨i + 1, (c + (z + x)) / 4294967296, zs.set (i + j) ((c + (z + x)) % 4294967296), by omega, by go_num, int_of (by simp), hq, ho.set' _ _ _ (by simp) hr, (by rw [List.length_set]; exact Hzl.out), show _ ∧ _ from ⟨?_, ?_⟩, grown_set hg _ _⟩
                  · rw [take_step Hx.out]
                    have hw := set_whole ((c + (z + x)) % 4294967296) Hz.out
                    rw [Nat.add_comm i j] at hw ⊢
                    exact back_round Hinv2.out.1 hw he (Nat.pow_add ..) (Nat.pow_succ ..)
                  · rw [List.drop_set_of_lt (by omega)]
                    exact Hinv2.out.2
                case measure => simp [intOf]; omega
              · obtain rfl : i = lv := by omega
                obtain ⟨z, hz⟩ := get_lt Hzl (i := j + i) (by omega)
                have hcz := ho.cell (j + i) z hz
                have hfz := ho.free (j + i)
                have hzb := ho.2 _ (List.mem_of_getElem? hz)
                have Hz := Lib.hid hz
                obtain ⟨s2, hs2⟩ : ∃ s2, s2 = (z + c) % 4294967296 := ⟨_, rfl⟩
                have hw32 : IntKind.u32.wrap ((z : Int) + c) = (s2 : Int) := by rw [IntKind.wrap_u32, hs2]; rfl
                have hs2b : s2 < 4294967296 := by rw [hs2]; exact Nat.mod_lt _ (by omega)
                have Hs2 := Lib.hid hs2
                have hoq9 := hoq8.grown hg (by omega)
                have hcq := hoq9.cell j zq Hzq.out
                have hfq := hoq9.free j
                have ek : (((k2 + 1 : Nat) : Int) - 1) = (k2 : Int) := by omega
                clear hz hs2
                go_wp2_with fail
                go_roundw
                case rel =>
                  have hV9 := hV8.grown hg Hne.out
                  have hdd : (zs.set (j + i) s2).drop (j + i + 1) = us.drop (j + i + 1) := by rw [List.drop_set_of_lt (by omega), Hinv2.out.2, Hdr8.out]
                  have hst := ho.set (j + i) s2 hs2b
                  have hl9 := low_of_drop HuW.out hst.2 hdd Hlow.out
                  have hfx := div_fix (vs := vs) (o := (z + c) / 4294967296) Hlow8.out Heq8.out (by rw [← HN.out]; exact HO.out.lo) HW.out (by have h := Hinv2.out.1; rwa [nval_full Hlv.out] at h) Hz.out (by rw [Hs2.out]; exact Nat.mod_add_div _ _) (Nat.le_of_lt_succ (Nat.div_lt_of_lt_mul (by omega))) hl9
                  refine ⟨j, zs.set (j + i) s2, qs.set j k2, by omega, rfl, hst.grown (grown_set (grown_refl _ (some gq)) _ _) (by omega), (hoq9.grown (grown_set (grown_refl _ (some gu)) _ _) (by omega)).set' j k2 _ (by omega) (by omega), (by rw [List.length_set]; exact Hzl.out), (by rw [List.length_set]; exact Hql.out), (hV9.grown (grown_set (grown_refl _ (some gu)) _ _) Hne.out).grown (grown_set (grown_refl _ (some gq)) _ _) ?_, show _ ∧ _ from ⟨?_, ?_⟩, ((hB8.grown hg hB8.size (fun k hk => by obtain rfl := Option.some.inj hk; exact hgw)).setCell (show _ ≤ gu by omega) _).setCell (show _ ≤ gq by omega) _⟩
                  · intro b o e
                    simp only [Option.some.injEq, Addr.mk.injEq, and_true] at e
                    have := hVb.out bv ov rfl
                    omega
                  · refine div_digit (by rw [Hql.out]; omega) rfl Hinv.out.1 ?_
                    have := hfx.1
                    rw [HW.out] at this
                    exact this
                  · have := hfx.2
                    rw [HW.out] at this
                    exact this
                case measure => simp [intOf]
set_option maxRecDepth 100000 in
set_option maxHeartbeats 1600000 in
theorem div_spec (v u : Value) (n m k : Nat) (w : World) (h : NatRep w v n) (h' : NatRep w u m) (hm : 0 < m) (hn : n < 2 ^ k) (hk : k ≤ 8796093022208) :
    Calls Tryz.prog 143 #[v, u] w (Ret w (DivP n m)) := by
  by_cases hnm : n < m
  · have hc : cmpZ n m = -1 := (cmpZ_lt hnm).symm
    go_enter Tryz.func143, Tryz.ntmps143
    go_wp2_with fail
    refine (cmp_spec v u n m w h h').mono ?_
    rintro e w1 ⟨_, rfl, rfl, hb⟩
    rw [hc]
    go_wp2_with fail
    go_ret2
    exact ⟨_, rfl, ⟨_, _, rfl, ⟨[], Us.nil, Norm.nil, by rw [Nat.div_eq_of_lt hnm]; rfl⟩, by rw [Nat.mod_eq_of_lt hnm]; exact h.below hb (Nat.le_refl _)⟩, hb⟩
  obtain ⟨ys, k1, k2, e2⟩ := h'
  obtain ⟨b, ly, cy, rfl, Hly, hlcy, hmy, hY, wY⟩ := k1.any
  have hc : (cmpZ n m < 0) = False := by
    unfold cmpZ
    rw [if_neg hnm]
    split <;> simp
  by_cases hl1 : ly = 1
  · subst hl1
    obtain ⟨d, rfl⟩ : ∃ d, ys = [d] := List.length_eq_one_iff.1 Hly.out
    have hdb := wY d (by simp)
    obtain rfl : d = m := by simpa [nval] using e2
    go_enter Tryz.func143, Tryz.ntmps143
    go_wp2_with fail
    refine (cmp_spec v _ n d w h ⟨[d], k1, k2, e2⟩).mono ?_
    rintro e w1 ⟨_, rfl, rfl, hb⟩
    obtain ⟨b', o', rfl, hcy⟩ := (hY.below hb (Nat.le_refl _)).at (i := 0) rfl
    rw [Nat.add_zero] at hcy
    have h1 := h.below hb (Nat.le_refl _)
    go_wp2_with fail
    refine (short_spec v n d k _ h1 hm hdb hn (by omega)).mono ?_
    rintro e w2 ⟨_, rfl, ⟨q, rfl, hq⟩, hb2⟩
    have hr : n % d < d := Nat.mod_lt _ hm
    generalize hrr : n % d = r at *
    have Hrr := Lib.hid hrr
    clear hrr
    go_wp2_with fail
    refine (natOf_spec r _ (by omega)).mono ?_
    rintro e w3 ⟨r', rfl, hr', hb3⟩
    go_wp2_with fail
    go_ret2
    refine ⟨_, rfl, ⟨_, _, rfl, hq.below hb3 (Nat.le_refl _), ?_⟩, (hb.trans (hb2.mono hb.size)).trans (hb3.mono (Nat.le_trans hb.size hb2.size))⟩
    rw [Hrr.out]; exact hr'
  obtain ⟨xs, h1, h2, rfl⟩ := h
  subst e2
  obtain ⟨a, lx, cx, rfl, Hlx, _, _, _, wX⟩ := h1.any
  have hl0 : ly ≠ 0 := fun h0 => by
    have h3 := Hly.out
    rw [h0] at h3
    rw [List.eq_nil_of_length_eq_zero h3] at hm
    simp [nval] at hm
  exact div_long xs ys a b lx cx ly cy k w h1 h2 Hlx wX k1 k2 Hly hlcy hmy hY wY (show _ ≤ _ by omega) (by omega) hn hk
end Go.Proofs.YtfkogkcpndaoeaaGreat
