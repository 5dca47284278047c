/- append of bytes that lie somewhere. Conditions: none. The reference's number: a number's bytes. Conditions: two or four bytes. The reference's Encode. Conditions: none. -/
import Derived.Test.YtohnlmfmpflbpaaGreatMEnc
import Derived.Test.YtohnlmfmpflbpaaGreatMRefA
import Derived.Test.YtohnlmfmpflbpaaGreatMRefS
import Derived.Test.YtohnlmfmpflbpaaGreatMSum
import Derived.Laws.AppendOwnNone
import Derived.LoopN
set_option linter.unusedSimpArgs false
set_option linter.unusedVariables false
set_option linter.all false
namespace Go.Proofs.YtohnlmfmpflbpaaGreat
open Go.RowKit

set_option maxRecDepth 100000 in
/-- append(out, m...): bytes that lie somewhere. -/
theorem append_bytesA (W : World) {ops : Array Oper} {rest : List Oper} {o : Oper} {a : Act} {Q : Exit → Act → World → Prop} (hgd : o.guard = none) (s x : Operand) (t : TypeId)
    (ho : o.op = .call { callee := .builtin .append, args := #[s, x], argTypes := #[t, t] }) (ht : Tryz.prog.underlying t = some (.slice 5)) (base : Nat) (v : Value) (l m : List UInt8) (ad : Option Addr) (n c : Nat)
    (hs : a.eval s = v) (hx : a.eval x = .slice ad n c) (hO : OwnB W base v l) (hA : BytesA W ad m) (hm : m.length = n) (hnone : ad = none → n = 0 ∧ c = 0) (hl : l.length < 1099511627776) (hm2 : n < 1099511627776) (hbase : base ≤ W.heap.size)
    (K : ∀ v' w', OwnB w' base v' (l ++ m) → W.grownBy w' v.ownBlock → wpList Tryz.prog ops Q rest (a.put o.dst v') w') :
    wpList Tryz.prog ops Q (o :: rest) a W := by
  obtain ⟨i0, hi, hz0, hz1, hz2⟩ := info_parts info_u8
  cases ad with
  | none =>
    obtain ⟨rfl, rfl⟩ := hnone rfl
    have hm0 : m = [] := List.eq_nil_of_length_eq_zero hm
    subst hm0
    rw [List.append_nil] at K
    exact wpList_append_own_none hgd s x t ho base 5 i0 1 ht hi v l.length (l.map byteV) hs hO hx (K v W hO (grown_refl _ _))
  | some ad =>
    refine wpList_append_own _ hgd s x t ho base 5 i0 (.int .u8 0) 1 1 ht hi hz0 hz1 hz2 rfl (by decide) v l.length (l.map byteV) hs hO ad n c (m.map byteV) hx (by rw [List.length_map]; omega) ?_ ?_ (by unfold maxLen; omega) (by omega) hbase ?_
    · intro j u hj
      rw [List.getElem?_map] at hj
      obtain ⟨y, hy, rfl⟩ := Option.map_eq_some_iff.1 hj
      obtain ⟨b, o, e, hc⟩ := hA j y hy
      injection e with e
      subst e
      rw [Addr.add_lit]
      exact hc
    · intro u hu
      obtain ⟨y, _, rfl⟩ := List.mem_map.1 hu
      rfl
    · intro v' w' h1 h2 _
      refine K v' w' ?_ h2
      unfold OwnB
      rw [List.length_append, List.map_append, hm]
      exact h1
end Go.Proofs.YtohnlmfmpflbpaaGreat

namespace Go.Proofs.YtohnlmfmpflbpaaGreat
open Go.RowKit

/-- What 'number' returns. -/
def NumB (w : World) (l : List UInt8) (e : Ending) (w' : World) : Prop := ∃ (a : Option Addr) (c : Nat), e = .returned (.slice a l.length c) ∧ OwnB w' w.heap.size (.slice a l.length c) l ∧ Below w.heap.size w w'

theorem own0 (w : World) : OwnB (w.alloc (.cells #[] 5)) w.heap.size (.slice (some ⟨w.heap.size, 0, none⟩) 0 0) [] :=
  ⟨by simp, .inr ⟨w.heap.size, 0, #[], rfl, Nat.le_refl _, own_new w 5 [], Nat.le_refl _, by unfold maxLen; omega, rfl, rfl⟩⟩

set_option maxRecDepth 100000 in
set_option maxHeartbeats 1600000 in
theorem number2_spec (z : Int) (w : World) (h1 : -9223372036854775808 ≤ z) (h2 : z ≤ 9223372036854775807) :
    Calls Tryz.prog 32 #[.int .i64 z, .int .i64 2] w (NumB w (be16 (u16n z))) := by
  obtain ⟨B1, hB1⟩ : ∃ B : UInt8, B = UInt8.ofNat (u16n z / 256) := ⟨_, rfl⟩
  have e1 : IntKind.u8.wrap (z / 256) = ((B1.toNat : Nat) : Int) := by
    rw [hB1, ofNat_val (by have := u16n_lt z; omega), u8_wrap]; unfold u16n; omega
  have d1 := e1
  rw [u8_wrap] at d1
  obtain ⟨B0, hB0⟩ : ∃ B : UInt8, B = UInt8.ofNat (u16n z % 256) := ⟨_, rfl⟩
  have e0 : IntKind.u8.wrap z = ((B0.toNat : Nat) : Int) := by
    rw [hB0, ofNat_val (by have := u16n_lt z; omega), u8_wrap]; unfold u16n; omega
  have d0 := e0
  rw [u8_wrap] at d0
  have HL : Hid (be16 (u16n z) = [B1, B0]) := show _ = _ by rw [hB0, hB1]; rfl
  clear hB0 hB1
  rw [HL.out]
  go_enter Tryz.func32, Tryz.ntmps32
  go_wp2_with fail
  have ow0 := own0 w
  have hb0 : Below w.heap.size w (w.alloc (.cells #[] 5)) := (Below.refl _ _).alloc (Nat.le_refl _) _
  have hs0 := hb0.size
  generalize w.alloc (.cells #[] 5) = W0 at *
  refine wp_loop_rounds 3 ?_
  rw [rounds_succ]
  go_wp2_with (at_builtin; go_must (refine append_byte W0 rfl (.tmp 14) (.tmp 20) _ rfl Tryz.underlying31 w.heap.size _ [] B1 _ (by first | rfl | exact e1 | exact d1) rfl rfl ow0 (by simp) hs0 ?_); intro v1 W1 ow1 hg1)
  have hb1 := hb0.grown hg1 hs0 (fun j hj => (World.ownsRow.lt ow0 _ hj).1)
  have hs1 := hb1.size
  replace ow1 : OwnB W1 w.heap.size v1 [B1] := ow1
  clear hg1
  rw [rounds_succ]
  go_wp2_with (at_builtin; go_must (refine append_byte W1 rfl (.tmp 14) (.tmp 20) _ rfl Tryz.underlying31 w.heap.size _ [B1] B0 _ (by first | rfl | exact e0 | exact d0) rfl rfl ow1 (by simp) hs1 ?_); intro v2 W2 ow2 hg2)
  have hb2 := hb1.grown hg2 hs1 (fun j hj => (World.ownsRow.lt ow1 _ hj).1)
  have hs2 := hb2.size
  replace ow2 : OwnB W2 w.heap.size v2 [B1, B0] := ow2
  clear hg2
  rw [rounds_succ]
  go_wp2_with fail
  obtain ⟨a, c, rfl, hc1, hc2⟩ := ow2.shape
  go_ret
  exact ⟨a, c, rfl, ow2, hb2⟩

set_option maxRecDepth 100000 in
set_option maxHeartbeats 1600000 in
theorem number4_spec (n : Nat) (w : World) (hn : n < 4294967296) :
    Calls Tryz.prog 32 #[.int .i64 (n : Int), .int .i64 4] w (NumB w (be32 n)) := by
  obtain ⟨B3, hB3⟩ : ∃ B : UInt8, B = UInt8.ofNat (n / 65536 / 256) := ⟨_, rfl⟩
  have e3 : IntKind.u8.wrap ((n : Int) / 16777216) = ((B3.toNat : Nat) : Int) := by
    rw [hB3, ofNat_val (by omega), u8_wrap]; omega
  have d3 := e3
  rw [u8_wrap] at d3
  obtain ⟨B2, hB2⟩ : ∃ B : UInt8, B = UInt8.ofNat (n / 65536 % 256) := ⟨_, rfl⟩
  have e2 : IntKind.u8.wrap ((n : Int) / 65536) = ((B2.toNat : Nat) : Int) := by
    rw [hB2, ofNat_val (by omega), u8_wrap]; omega
  have d2 := e2
  rw [u8_wrap] at d2
  obtain ⟨B1, hB1⟩ : ∃ B : UInt8, B = UInt8.ofNat (n % 65536 / 256) := ⟨_, rfl⟩
  have e1 : IntKind.u8.wrap ((n : Int) / 256) = ((B1.toNat : Nat) : Int) := by
    rw [hB1, ofNat_val (by omega), u8_wrap]; omega
  have d1 := e1
  rw [u8_wrap] at d1
  obtain ⟨B0, hB0⟩ : ∃ B : UInt8, B = UInt8.ofNat (n % 65536 % 256) := ⟨_, rfl⟩
  have e0 : IntKind.u8.wrap (n : Int) = ((B0.toNat : Nat) : Int) := by
    rw [hB0, ofNat_val (by omega), u8_wrap]; omega
  have d0 := e0
  rw [u8_wrap] at d0
  have HL : Hid (be32 n = [B3, B2, B1, B0]) := show _ = _ by rw [hB0, hB1, hB2, hB3]; rfl
  clear hB0 hB1 hB2 hB3
  rw [HL.out]
  go_enter Tryz.func32, Tryz.ntmps32
  go_wp2_with fail
  have ow0 := own0 w
  have hb0 : Below w.heap.size w (w.alloc (.cells #[] 5)) := (Below.refl _ _).alloc (Nat.le_refl _) _
  have hs0 := hb0.size
  generalize w.alloc (.cells #[] 5) = W0 at *
  refine wp_loop_rounds 5 ?_
  rw [rounds_succ]
  go_wp2_with (at_builtin; go_must (refine append_byte W0 rfl (.tmp 14) (.tmp 20) _ rfl Tryz.underlying31 w.heap.size _ [] B3 _ (by first | rfl | exact e3 | exact d3) rfl rfl ow0 (by simp) hs0 ?_); intro v1 W1 ow1 hg1)
  have hb1 := hb0.grown hg1 hs0 (fun j hj => (World.ownsRow.lt ow0 _ hj).1)
  have hs1 := hb1.size
  replace ow1 : OwnB W1 w.heap.size v1 [B3] := ow1
  clear hg1
  rw [rounds_succ]
  go_wp2_with (at_builtin; go_must (refine append_byte W1 rfl (.tmp 14) (.tmp 20) _ rfl Tryz.underlying31 w.heap.size _ [B3] B2 _ (by first | rfl | exact e2 | exact d2) rfl rfl ow1 (by simp) hs1 ?_); intro v2 W2 ow2 hg2)
  have hb2 := hb1.grown hg2 hs1 (fun j hj => (World.ownsRow.lt ow1 _ hj).1)
  have hs2 := hb2.size
  replace ow2 : OwnB W2 w.heap.size v2 [B3, B2] := ow2
  clear hg2
  rw [rounds_succ]
  go_wp2_with (at_builtin; go_must (refine append_byte W2 rfl (.tmp 14) (.tmp 20) _ rfl Tryz.underlying31 w.heap.size _ [B3, B2] B1 _ (by first | rfl | exact e1 | exact d1) rfl rfl ow2 (by simp) hs2 ?_); intro v3 W3 ow3 hg3)
  have hb3 := hb2.grown hg3 hs2 (fun j hj => (World.ownsRow.lt ow2 _ hj).1)
  have hs3 := hb3.size
  replace ow3 : OwnB W3 w.heap.size v3 [B3, B2, B1] := ow3
  clear hg3
  rw [rounds_succ]
  go_wp2_with (at_builtin; go_must (refine append_byte W3 rfl (.tmp 14) (.tmp 20) _ rfl Tryz.underlying31 w.heap.size _ [B3, B2, B1] B0 _ (by first | rfl | exact e0 | exact d0) rfl rfl ow3 (by simp) hs3 ?_); intro v4 W4 ow4 hg4)
  have hb4 := hb3.grown hg4 hs3 (fun j hj => (World.ownsRow.lt ow3 _ hj).1)
  have hs4 := hb4.size
  replace ow4 : OwnB W4 w.heap.size v4 [B3, B2, B1, B0] := ow4
  clear hg4
  rw [rounds_succ]
  go_wp2_with fail
  obtain ⟨a, c, rfl, hc1, hc2⟩ := ow4.shape
  go_ret
  exact ⟨a, c, rfl, ow4, hb4⟩

end Go.Proofs.YtohnlmfmpflbpaaGreat

namespace Go.Proofs.YtohnlmfmpflbpaaGreat
open Go.RowKit

theorem NumB.take {w w' : World} {l : List UInt8} {e : Ending} (h : NumB w l e w') (n : Nat) (hn : l.length = n) (h0 : 0 < n) :
    ∃ a c, e = .returned (.slice a n c) ∧ Hid (n ≤ c) ∧ Hid (c ≤ 9223372036854775807) ∧ BytesA w' a l ∧ Hid (a ≠ none) ∧ Below w.heap.size w w' := by
  obtain ⟨a, c, rfl, ho, hb⟩ := h
  subst hn
  obtain ⟨a', c', e, h1, h2⟩ := ho.shape
  injection e with e1 _ e2
  subst e1 e2
  refine ⟨a, c, rfl, Lib.hid h1, Lib.hid h2, ho.bytes, ?_, hb⟩
  show a ≠ none
  rintro rfl
  obtain ⟨x, hx⟩ : ∃ x, l[0]? = some x := ⟨_, List.getElem?_eq_getElem h0⟩
  obtain ⟨_, _, h, _⟩ := ho.bytes 0 x hx
  cases h

theorem number2_of (z : Int) (w : World) (h1 : -9223372036854775808 ≤ z) (h2 : z ≤ 9223372036854775807) :
    Calls Tryz.prog 32 #[.int .i64 z, .int .i64 2] w (fun e w' => ∃ a c, e = .returned (.slice a 2 c) ∧ Hid (2 ≤ c) ∧ Hid (c ≤ 9223372036854775807) ∧ BytesA w' a (be16 (u16n z)) ∧ Hid (a ≠ none) ∧ Below w.heap.size w w') :=
  (number2_spec z w h1 h2).mono fun _ _ h => h.take 2 rfl (by decide)
theorem number4_of (n : Nat) (w : World) (hn : n < 4294967296) :
    Calls Tryz.prog 32 #[.int .i64 (n : Int), .int .i64 4] w (fun e w' => ∃ a c, e = .returned (.slice a 4 c) ∧ Hid (4 ≤ c) ∧ Hid (c ≤ 9223372036854775807) ∧ BytesA w' a (be32 n) ∧ Hid (a ≠ none) ∧ Below w.heap.size w w') :=
  (number4_spec n w hn).mono fun _ _ h => h.take 4 rfl (by decide)

set_option maxRecDepth 100000 in
theorem rencode_no (v : Value) (f : Fr) (w : World) (h : FrRep w v f) (hv : f.valid = false) :
    Calls Tryz.prog 8 #[v] w (Ret w fun _ v' => v' = .tuple #[.slice none 0 0, .int .i64 1]) := by
  have H := Lib.hid hv
  clear hv
  obtain ⟨vm, vp, rfl, hm, hp, hok⟩ := h
  have hf : FrRep w _ f := ⟨vm, vp, rfl, hm, hp, hok⟩
  go_enter Tryz.func8, Tryz.ntmps8
  go_upto_region 1 with (fail)
  obtain ⟨W, hW, o1, hB, hS⟩ := boxes1 w 27 [.int .u32 (f.seq : Int), .int .i64 f.point, .int .i64 f.source, .int .i64 f.turn, .float .f32 f.scale, vm, vp]
  rw [← hW]
  clear hW
  have hfW := hf.below hB (Nat.le_refl _)
  have fo1 := o1.free; have co10 := o1.cell 0 _ rfl; have co11 := o1.cell 1 _ rfl; have co12 := o1.cell 2 _ rfl; have co13 := o1.cell 3 _ rfl; have co14 := o1.cell 4 _ rfl; have co15 := o1.cell 5 _ rfl; have co16 := o1.cell 6 _ rfl
  go_wp2_with fail
  refine (rvalid_spec _ f W hfW).mono ?_
  rintro e W1 ⟨_, rfl, rfl, hb1⟩
  rw [H.out]
  go_wp2_with fail
  go_ret2
  exact ⟨_, rfl, rfl, hB.trans (hb1.mono hB.size)⟩

set_option maxRecDepth 100000 in
set_option maxHeartbeats 3200000 in
theorem rencode_yes (v : Value) (f : Fr) (w : World) (h : FrRep w v f) (hv : f.valid = true) :
    Calls Tryz.prog 8 #[v] w (RetE w (enc f)) := by
  obtain ⟨⟨hn1, hn2⟩, hml, ⟨hp1, hp2⟩, ⟨hs1, hs2⟩, ⟨ht1, ht2⟩, hsc, hbm⟩ := Fr.valid_iff.1 hv
  have H := Lib.hid hv
  have Hml := Lib.hid hml
  have Hbm := Lib.hid hbm
  clear hv hml hbm hsc
  obtain ⟨vm, vp, rfl, hm, hp, hok⟩ := h
  obtain ⟨am, lm, cm, rfl, Hlm, hcm, hmm, hcelm⟩ := hm.any
  obtain ⟨ap, lp, cp, rfl, Hlp, hcp, hmp, hcelp⟩ := hp.any
  obtain rfl : lp = lm := by have h1 := Hlm.out; have := Hlp.out; have := Hml.out; rw [List.length_map] at h1; omega
  have hf : FrRep w _ f := ⟨_, _, rfl, hm, hp, hok⟩
  have hrun := run_fb32
  have hsq := hok.seq
  have hsl := hok.scale
  go_enter Tryz.func8, Tryz.ntmps8
  go_upto_region 1 with (fail)
  obtain ⟨W, hW, o1, hB, hS⟩ := boxes1 w 27 [.int .u32 (f.seq : Int), .int .i64 f.point, .int .i64 f.source, .int .i64 f.turn, .float .f32 f.scale, .slice am lp cm, .slice ap lp cp]
  rw [← hW]
  clear hW
  have hfW := hf.below hB (Nat.le_refl _)
  have fo1 := o1.free; have co10 := o1.cell 0 _ rfl; have co11 := o1.cell 1 _ rfl; have co12 := o1.cell 2 _ rfl; have co13 := o1.cell 3 _ rfl; have co14 := o1.cell 4 _ rfl; have co15 := o1.cell 5 _ rfl; have co16 := o1.cell 6 _ rfl
  go_wp2_with fail
  refine (rvalid_spec _ f W hfW).mono ?_
  rintro e W1 ⟨_, rfl, rfl, hb1⟩
  rw [H.out]
  clear co10 co11 co12 co13 co14 co15 co16 fo1
  have hsW1 : W.heap.size ≤ W1.heap.size := hb1.size; have hB := hB.trans (hb1.mono hB.size); have o1 := o1.below hb1 o1.lt; have fo1 := o1.free; have co10 := o1.cell 0 _ rfl; have co11 := o1.cell 1 _ rfl; have co12 := o1.cell 2 _ rfl; have co13 := o1.cell 3 _ rfl; have co14 := o1.cell 4 _ rfl; have co15 := o1.cell 5 _ rfl; have co16 := o1.cell 6 _ rfl
  have hlp1 : 1 ≤ lp := by have := Hlp.out; omega
  have hlp8 : lp ≤ 8 := by have := Hlp.out; omega
  have hs2 : f.source ≤ (lp : Int) := by have := Hlp.out; omega
  go_upto_region 4 with (fail)
  have ow : OwnB (W1.alloc (.cells #[.int .u8 87, .int .u8 86, .int .u8 (lp : Int), .int .u8 f.source] 5)) W1.heap.size (.slice (some ⟨W1.heap.size, 0, none⟩) 4 4) [87, 86, UInt8.ofNat f.pairs.length, UInt8.ofNat f.source.toNat] := by
    refine ownB_new _ _ _ _ ?_ rfl (by omega) (by omega)
    simp only [List.map, byteV]
    rw [ofNat_val (by omega), ofNat_val (by omega), Hlp.out, Int.toNat_of_nonneg (by omega)]
    rfl
  have hK : KeptB W1.heap.size W1 (W1.alloc (.cells #[.int .u8 87, .int .u8 86, .int .u8 (lp : Int), .int .u8 f.source] 5)) := (KeptB.refl _ _).alloc _
  have hz : W1.heap.size ≤ (W1.alloc (.cells #[.int .u8 87, .int .u8 86, .int .u8 (lp : Int), .int .u8 f.source] 5)).heap.size := hK.size
  clear co10 co11 co12 co13 co14 co15 co16 fo1
  generalize W1.alloc (.cells #[.int .u8 87, .int .u8 86, .int .u8 (lp : Int), .int .u8 f.source] 5) = W2 at *
  generalize hL0 : [87, 86, UInt8.ofNat f.pairs.length, UInt8.ofNat f.source.toNat] = L0 at *
  have HL0 := Lib.hid hL0
  have hl0 : L0.length = 4 := by rw [← hL0]; rfl
  clear hL0
  obtain ⟨v, hv⟩ : ∃ v, v = Value.slice (some ⟨W1.heap.size, 0, none⟩) 4 4 := ⟨_, rfl⟩
  rw [← hv] at ow ⊢
  clear hv
  have o1' := o1
  have o1 := hK.own o1' (by decide)
  have fo1 := o1.free; have co10 := o1.cell 0 _ rfl; have co11 := o1.cell 1 _ rfl; have co12 := o1.cell 2 _ rfl; have co13 := o1.cell 3 _ rfl; have co14 := o1.cell 4 _ rfl; have co15 := o1.cell 5 _ rfl; have co16 := o1.cell 6 _ rfl
  go_wp2_with fail
  refine (number4_of f.seq W2 hsq).mono ?_
  rintro e W3 ⟨an, cn, rfl, hcn1, hcn2, hAn, hnn, hbn⟩
  replace ow := ow.below hbn
  replace hK := hK.trans (KeptB.of_below hbn)
  replace hz := Nat.le_trans hz hbn.size
  clear fo1 co10 co11 co12 co13 co14 co15 co16
  replace o1 := o1.below hbn o1.lt
  have fo1 := o1.free; have co10 := o1.cell 0 _ rfl; have co11 := o1.cell 1 _ rfl; have co12 := o1.cell 2 _ rfl; have co13 := o1.cell 3 _ rfl; have co14 := o1.cell 4 _ rfl; have co15 := o1.cell 5 _ rfl; have co16 := o1.cell 6 _ rfl
  clear hbn
  go_wp2_with (at_builtin; go_must (refine append_bytesA W3 rfl (.tmp 18) (.tmp 22) _ rfl Tryz.underlying31 W1.heap.size _ L0 (be32 f.seq) an 4 cn rfl rfl ow hAn rfl (fun e => absurd e hnn.out) (by omega) (by decide) hz ?_); intro v W4 ow2 hg; have hk := KeptB.grown hg ow; clear ow; have ow := ow2; clear ow2 hg hAn hnn hcn1 hcn2; replace hK := hK.trans hk; replace hz := Nat.le_trans hz hk.size; clear fo1 co10 co11 co12 co13 co14 co15 co16; replace o1 := hk.own o1 (by decide); have fo1 := o1.free; have co10 := o1.cell 0 _ rfl; have co11 := o1.cell 1 _ rfl; have co12 := o1.cell 2 _ rfl; have co13 := o1.cell 3 _ rfl; have co14 := o1.cell 4 _ rfl; have co15 := o1.cell 5 _ rfl; have co16 := o1.cell 6 _ rfl; clear hk)
  refine (number2_of f.point W4 (by omega) (by omega)).mono ?_
  rintro e W5 ⟨an, cn, rfl, hcn1, hcn2, hAn, hnn, hbn⟩
  replace ow := ow.below hbn
  replace hK := hK.trans (KeptB.of_below hbn)
  replace hz := Nat.le_trans hz hbn.size
  clear fo1 co10 co11 co12 co13 co14 co15 co16
  replace o1 := o1.below hbn o1.lt
  have fo1 := o1.free; have co10 := o1.cell 0 _ rfl; have co11 := o1.cell 1 _ rfl; have co12 := o1.cell 2 _ rfl; have co13 := o1.cell 3 _ rfl; have co14 := o1.cell 4 _ rfl; have co15 := o1.cell 5 _ rfl; have co16 := o1.cell 6 _ rfl
  clear hbn
  go_wp2_with (first | (at_builtin; (refine append_bytesA W5 rfl (.tmp 24) (.tmp 27) _ rfl Tryz.underlying31 W1.heap.size _ (L0 ++ be32 f.seq) (be16 (u16n f.point)) an 2 cn rfl rfl ow hAn rfl (fun e => absurd e hnn.out) (by rw [List.length_append, hl0, be32_length]; omega) (by decide) hz ?_); intro v W6 ow2 hg; have hk := KeptB.grown hg ow; clear ow; have ow := ow2; clear ow2 hg hAn hnn hcn1 hcn2; replace hK := hK.trans hk; replace hz := Nat.le_trans hz hk.size; clear fo1 co10 co11 co12 co13 co14 co15 co16; replace o1 := hk.own o1 (by decide); have fo1 := o1.free; have co10 := o1.cell 0 _ rfl; have co11 := o1.cell 1 _ rfl; have co12 := o1.cell 2 _ rfl; have co13 := o1.cell 3 _ rfl; have co14 := o1.cell 4 _ rfl; have co15 := o1.cell 5 _ rfl; have co16 := o1.cell 6 _ rfl; clear hk) | (at_builtin; (refine append_bytes2 W6 rfl (.tmp 29) (.tmp 33) _ rfl Tryz.underlying31 W1.heap.size _ _ (UInt8.ofNat f.turn.toNat) 0 _ _ (by rw [ofNat_val (by omega)]; omega) (by simp) rfl rfl ow (by simp only [List.length_append, hl0, be32_length, be16_length]; omega) hz ?_); intro v W7 ow2 hg; have hk := KeptB.grown hg ow; clear ow; have ow := ow2; clear ow2 hg; replace hK := hK.trans hk; replace hz := Nat.le_trans hz hk.size; clear fo1 co10 co11 co12 co13 co14 co15 co16; have o1 := hk.own o1 (by decide); have fo1 := o1.free; have co10 := o1.cell 0 _ rfl; have co11 := o1.cell 1 _ rfl; have co12 := o1.cell 2 _ rfl; have co13 := o1.cell 3 _ rfl; have co14 := o1.cell 4 _ rfl; have co15 := o1.cell 5 _ rfl; have co16 := o1.cell 6 _ rfl; clear hk))
  refine (number4_of f.scale W7 hsl).mono ?_
  rintro e W8 ⟨an, cn, rfl, hcn1, hcn2, hAn, hnn, hbn⟩
  replace ow := ow.below hbn
  replace hK := hK.trans (KeptB.of_below hbn)
  replace hz := Nat.le_trans hz hbn.size
  clear fo1 co10 co11 co12 co13 co14 co15 co16
  replace o1 := o1.below hbn o1.lt
  have fo1 := o1.free; have co10 := o1.cell 0 _ rfl; have co11 := o1.cell 1 _ rfl; have co12 := o1.cell 2 _ rfl; have co13 := o1.cell 3 _ rfl; have co14 := o1.cell 4 _ rfl; have co15 := o1.cell 5 _ rfl; have co16 := o1.cell 6 _ rfl
  clear hbn
  go_wp2_with (at_builtin; go_must (refine append_bytesA W8 rfl (.tmp 35) (.tmp 40) _ rfl Tryz.underlying31 W1.heap.size _ _ (be32 f.scale) an 4 cn rfl rfl ow hAn rfl (fun e => absurd e hnn.out) (by simp only [List.length_append, hl0, be32_length, be16_length, List.length_cons, List.length_nil]; omega) (by decide) hz ?_); intro v W9 ow2 hg; have hk := KeptB.grown hg ow; clear ow; have ow := ow2; clear ow2 hg hAn hnn hcn1 hcn2; replace hK := hK.trans hk; replace hz := Nat.le_trans hz hk.size; clear fo1 co10 co11 co12 co13 co14 co15 co16; replace o1 := hk.own o1 (by decide); have fo1 := o1.free; have co10 := o1.cell 0 _ rfl; have co11 := o1.cell 1 _ rfl; have co12 := o1.cell 2 _ rfl; have co13 := o1.cell 3 _ rfl; have co14 := o1.cell 4 _ rfl; have co15 := o1.cell 5 _ rfl; have co16 := o1.cell 6 _ rfl; clear hk)
  have hpt : u16n f.point = f.point.toNat := by unfold u16n; omega
  rw [hpt, ← HL0.out] at ow
  replace ow : OwnB W9 W1.heap.size v (encHead f) := ow
  clear hpt HL0 hl0 L0
  have Hl6 := Lib.hid (encHead_length f)
  generalize hhd : encHead f = hd at *
  have Hhd := Lib.hid hhd
  clear hhd
  go_wp2_with fail
  clear co10 co11 co12 co13 co14 co15 co16 fo1 o1
  go_loopw [4, 5] (fun bv iv wr => ∃ k : Nat, k ≤ lp ∧ iv = .int .i64 (k : Int) ∧ OwnB wr W1.heap.size bv (hd ++ encPairs ((f.mates.zip f.pairs).take k)) ∧ KeptB W1.heap.size W1 wr) (fun _ i _ => lp - (intOf i).toNat)
  case atStart => exact ⟨0, Nat.zero_le _, rfl, by simpa [encPairs] using ow, hK⟩
  case round =>
    clear ow hK hz
    obtain ⟨k, hk, rfl, ow, hK⟩ := hrel
    have hz := hK.size
    have o1 := hK.own o1' (by decide)
    have fo1 := o1.free; have co10 := o1.cell 0 _ rfl; have co11 := o1.cell 1 _ rfl; have co12 := o1.cell 2 _ rfl; have co13 := o1.cell 3 _ rfl; have co14 := o1.cell 4 _ rfl; have co15 := o1.cell 5 _ rfl; have co16 := o1.cell 6 _ rfl
    by_cases hlt : k < lp
    · obtain ⟨p, hpk⟩ : ∃ p, f.pairs[k]? = some p := ⟨_, List.getElem?_eq_getElem (by have := Hlp.out; omega)⟩
      obtain ⟨m, hmk⟩ : ∃ m, f.mates[k]? = some m := ⟨_, List.getElem?_eq_getElem (by have := Hlp.out; have := Hml.out; omega)⟩
      have hx : (f.mates.zip f.pairs)[k]? = some (m, p) := by rw [List.getElem?_zip_eq_some]; exact ⟨hmk, hpk⟩
      have hBr := hB.trans ((hK.below (Nat.le_refl _)).mono hB.size)
      obtain ⟨bp, op, rfl, q0, q1, q2, q3⟩ := (hp.below hBr (Nat.le_refl _)).at hpk
      obtain ⟨bm, om, rfl, q4⟩ := (hm.below hBr (Nat.le_refl _)).at (i := k) (x := i64v m) (by simp [hmk])
      unfold i64v at q4
      obtain ⟨hm2, hm3⟩ := badMates_at Hbm.out hmk
      obtain ⟨⟨hp0, hp0'⟩, ⟨hp1, hp1'⟩, ⟨hp2, hp2'⟩, ⟨hp3, hp3'⟩⟩ := hok.pairs p (List.mem_of_getElem? hpk)
      have HX := Lib.hid hx
      clear hpk hmk hx
      go_upto_region 12 with (fail)
      obtain ⟨V, hV, ob, hBV, hSV⟩ := boxes1 wr 90 [.int .i16 p.a0, .int .i16 p.a1, .int .i16 p.b0, .int .i16 p.b1]
      rw [← hV]
      clear hV co10 co11 co12 co13 co14 co15 co16 fo1 q0 q1 q2 q3
      replace q4 := (hBV.cell (p := ⟨bm, om + k, none⟩) (World.block_lt_of_cell? wr _ q4)).trans q4
      have ow := ow.below hBV
      have hK : KeptB W1.heap.size W1 V := hK.trans (KeptB.of_below hBV)
      generalize wr.heap.size = gp at *
      have o1 := o1.below hBV (by have := o1'.lt; have := hK.size; omega)
      have hz := hK.size
      have fo1 := o1.free; have co10 := o1.cell 0 _ rfl; have co11 := o1.cell 1 _ rfl; have co12 := o1.cell 2 _ rfl; have co13 := o1.cell 3 _ rfl; have co14 := o1.cell 4 _ rfl; have co15 := o1.cell 5 _ rfl; have co16 := o1.cell 6 _ rfl; have fob := ob.free; have cob0 := ob.cell 0 _ rfl; have cob1 := ob.cell 1 _ rfl; have cob2 := ob.cell 2 _ rfl; have cob3 := ob.cell 3 _ rfl
      have hlen : (hd ++ encPairs ((f.mates.zip f.pairs).take k)).length ≤ 96 := by
        rw [List.length_append, encPairs_length, Hl6.out, List.length_take]; omega
      generalize hL : hd ++ encPairs ((f.mates.zip f.pairs).take k) = L at *
      have HL := Lib.hid hL
      clear hL
      go_wp2_with fail
      refine (number2_of m V (by omega) (by omega)).mono ?_
      rintro e W21 ⟨an, cn, rfl, hcn1, hcn2, hAn, hnn, hbn⟩
      replace ow := ow.below hbn
      replace hK := hK.trans (KeptB.of_below hbn)
      replace hz := Nat.le_trans hz hbn.size
      clear fo1 co10 co11 co12 co13 co14 co15 co16
      replace o1 := o1.below hbn o1.lt
      have fo1 := o1.free; have co10 := o1.cell 0 _ rfl; have co11 := o1.cell 1 _ rfl; have co12 := o1.cell 2 _ rfl; have co13 := o1.cell 3 _ rfl; have co14 := o1.cell 4 _ rfl; have co15 := o1.cell 5 _ rfl; have co16 := o1.cell 6 _ rfl
      clear fob cob0 cob1 cob2 cob3
      replace ob := ob.below hbn ob.lt
      have fob := ob.free; have cob0 := ob.cell 0 _ rfl; have cob1 := ob.cell 1 _ rfl; have cob2 := ob.cell 2 _ rfl; have cob3 := ob.cell 3 _ rfl
      clear q4 hbn
      go_wp2_with (at_builtin; go_must (refine append_bytesA W21 rfl (.tmp 54) (.tmp 60) _ rfl Tryz.underlying31 W1.heap.size _ (L) (be16 (u16n m)) an 2 cn rfl rfl ow hAn rfl (fun e => absurd e hnn.out) (by (try simp only [List.length_append, be16_length]); omega) (by decide) hz ?_); intro v W22 ow2 hg; have hk := KeptB.grown hg ow; clear ow; have ow := ow2; clear ow2 hg hAn hnn hcn1 hcn2; replace hK := hK.trans hk; replace hz := Nat.le_trans hz hk.size; clear fo1 co10 co11 co12 co13 co14 co15 co16; replace o1 := hk.own o1 (by decide); have fo1 := o1.free; have co10 := o1.cell 0 _ rfl; have co11 := o1.cell 1 _ rfl; have co12 := o1.cell 2 _ rfl; have co13 := o1.cell 3 _ rfl; have co14 := o1.cell 4 _ rfl; have co15 := o1.cell 5 _ rfl; have co16 := o1.cell 6 _ rfl; clear fob cob0 cob1 cob2 cob3; replace ob := hk.own ob (by decide); have fob := ob.free; have cob0 := ob.cell 0 _ rfl; have cob1 := ob.cell 1 _ rfl; have cob2 := ob.cell 2 _ rfl; have cob3 := ob.cell 3 _ rfl; clear hk)
      refine (number2_of p.a0 W22 (by omega) (by omega)).mono ?_
      rintro e W23 ⟨an, cn, rfl, hcn1, hcn2, hAn, hnn, hbn⟩
      replace ow := ow.below hbn
      replace hK := hK.trans (KeptB.of_below hbn)
      replace hz := Nat.le_trans hz hbn.size
      clear fo1 co10 co11 co12 co13 co14 co15 co16
      replace o1 := o1.below hbn o1.lt
      have fo1 := o1.free; have co10 := o1.cell 0 _ rfl; have co11 := o1.cell 1 _ rfl; have co12 := o1.cell 2 _ rfl; have co13 := o1.cell 3 _ rfl; have co14 := o1.cell 4 _ rfl; have co15 := o1.cell 5 _ rfl; have co16 := o1.cell 6 _ rfl
      clear fob cob0 cob1 cob2 cob3
      replace ob := ob.below hbn ob.lt
      have fob := ob.free; have cob0 := ob.cell 0 _ rfl; have cob1 := ob.cell 1 _ rfl; have cob2 := ob.cell 2 _ rfl; have cob3 := ob.cell 3 _ rfl
      clear hbn
      go_wp2_with (at_builtin; go_must (refine append_bytesA W23 rfl (.tmp 62) (.tmp 67) _ rfl Tryz.underlying31 W1.heap.size _ (L ++ be16 (u16n m)) (be16 (u16n p.a0)) an 2 cn rfl rfl ow hAn rfl (fun e => absurd e hnn.out) (by (try simp only [List.length_append, be16_length]); omega) (by decide) hz ?_); intro v W24 ow2 hg; have hk := KeptB.grown hg ow; clear ow; have ow := ow2; clear ow2 hg hAn hnn hcn1 hcn2; replace hK := hK.trans hk; replace hz := Nat.le_trans hz hk.size; clear fo1 co10 co11 co12 co13 co14 co15 co16; replace o1 := hk.own o1 (by decide); have fo1 := o1.free; have co10 := o1.cell 0 _ rfl; have co11 := o1.cell 1 _ rfl; have co12 := o1.cell 2 _ rfl; have co13 := o1.cell 3 _ rfl; have co14 := o1.cell 4 _ rfl; have co15 := o1.cell 5 _ rfl; have co16 := o1.cell 6 _ rfl; clear fob cob0 cob1 cob2 cob3; replace ob := hk.own ob (by decide); have fob := ob.free; have cob0 := ob.cell 0 _ rfl; have cob1 := ob.cell 1 _ rfl; have cob2 := ob.cell 2 _ rfl; have cob3 := ob.cell 3 _ rfl; clear hk)
      refine (number2_of p.a1 W24 (by omega) (by omega)).mono ?_
      rintro e W25 ⟨an, cn, rfl, hcn1, hcn2, hAn, hnn, hbn⟩
      replace ow := ow.below hbn
      replace hK := hK.trans (KeptB.of_below hbn)
      replace hz := Nat.le_trans hz hbn.size
      clear fo1 co10 co11 co12 co13 co14 co15 co16
      replace o1 := o1.below hbn o1.lt
      have fo1 := o1.free; have co10 := o1.cell 0 _ rfl; have co11 := o1.cell 1 _ rfl; have co12 := o1.cell 2 _ rfl; have co13 := o1.cell 3 _ rfl; have co14 := o1.cell 4 _ rfl; have co15 := o1.cell 5 _ rfl; have co16 := o1.cell 6 _ rfl
      clear fob cob0 cob1 cob2 cob3
      replace ob := ob.below hbn ob.lt
      have fob := ob.free; have cob0 := ob.cell 0 _ rfl; have cob1 := ob.cell 1 _ rfl; have cob2 := ob.cell 2 _ rfl; have cob3 := ob.cell 3 _ rfl
      clear hbn
      go_wp2_with (at_builtin; go_must (refine append_bytesA W25 rfl (.tmp 69) (.tmp 74) _ rfl Tryz.underlying31 W1.heap.size _ (L ++ be16 (u16n m) ++ be16 (u16n p.a0)) (be16 (u16n p.a1)) an 2 cn rfl rfl ow hAn rfl (fun e => absurd e hnn.out) (by (try simp only [List.length_append, be16_length]); omega) (by decide) hz ?_); intro v W26 ow2 hg; have hk := KeptB.grown hg ow; clear ow; have ow := ow2; clear ow2 hg hAn hnn hcn1 hcn2; replace hK := hK.trans hk; replace hz := Nat.le_trans hz hk.size; clear fo1 co10 co11 co12 co13 co14 co15 co16; replace o1 := hk.own o1 (by decide); have fo1 := o1.free; have co10 := o1.cell 0 _ rfl; have co11 := o1.cell 1 _ rfl; have co12 := o1.cell 2 _ rfl; have co13 := o1.cell 3 _ rfl; have co14 := o1.cell 4 _ rfl; have co15 := o1.cell 5 _ rfl; have co16 := o1.cell 6 _ rfl; clear fob cob0 cob1 cob2 cob3; replace ob := hk.own ob (by decide); have fob := ob.free; have cob0 := ob.cell 0 _ rfl; have cob1 := ob.cell 1 _ rfl; have cob2 := ob.cell 2 _ rfl; have cob3 := ob.cell 3 _ rfl; clear hk)
      refine (number2_of p.b0 W26 (by omega) (by omega)).mono ?_
      rintro e W27 ⟨an, cn, rfl, hcn1, hcn2, hAn, hnn, hbn⟩
      replace ow := ow.below hbn
      replace hK := hK.trans (KeptB.of_below hbn)
      replace hz := Nat.le_trans hz hbn.size
      clear fo1 co10 co11 co12 co13 co14 co15 co16
      replace o1 := o1.below hbn o1.lt
      have fo1 := o1.free; have co10 := o1.cell 0 _ rfl; have co11 := o1.cell 1 _ rfl; have co12 := o1.cell 2 _ rfl; have co13 := o1.cell 3 _ rfl; have co14 := o1.cell 4 _ rfl; have co15 := o1.cell 5 _ rfl; have co16 := o1.cell 6 _ rfl
      clear fob cob0 cob1 cob2 cob3
      replace ob := ob.below hbn ob.lt
      have fob := ob.free; have cob0 := ob.cell 0 _ rfl; have cob1 := ob.cell 1 _ rfl; have cob2 := ob.cell 2 _ rfl; have cob3 := ob.cell 3 _ rfl
      clear hbn
      go_wp2_with (at_builtin; go_must (refine append_bytesA W27 rfl (.tmp 76) (.tmp 81) _ rfl Tryz.underlying31 W1.heap.size _ (L ++ be16 (u16n m) ++ be16 (u16n p.a0) ++ be16 (u16n p.a1)) (be16 (u16n p.b0)) an 2 cn rfl rfl ow hAn rfl (fun e => absurd e hnn.out) (by (try simp only [List.length_append, be16_length]); omega) (by decide) hz ?_); intro v W28 ow2 hg; have hk := KeptB.grown hg ow; clear ow; have ow := ow2; clear ow2 hg hAn hnn hcn1 hcn2; replace hK := hK.trans hk; replace hz := Nat.le_trans hz hk.size; clear fo1 co10 co11 co12 co13 co14 co15 co16; replace o1 := hk.own o1 (by decide); have fo1 := o1.free; have co10 := o1.cell 0 _ rfl; have co11 := o1.cell 1 _ rfl; have co12 := o1.cell 2 _ rfl; have co13 := o1.cell 3 _ rfl; have co14 := o1.cell 4 _ rfl; have co15 := o1.cell 5 _ rfl; have co16 := o1.cell 6 _ rfl; clear fob cob0 cob1 cob2 cob3; replace ob := hk.own ob (by decide); have fob := ob.free; have cob0 := ob.cell 0 _ rfl; have cob1 := ob.cell 1 _ rfl; have cob2 := ob.cell 2 _ rfl; have cob3 := ob.cell 3 _ rfl; clear hk)
      have HL2 : Hid (L ++ be16 (u16n m) ++ be16 (u16n p.a0) ++ be16 (u16n p.a1) ++ be16 (u16n p.b0) ++ be16 (u16n p.b1) = hd ++ encPairs ((f.mates.zip f.pairs).take (k + 1))) := by
        show _ = _
        rw [encPairs_snoc HX.out, ← List.append_assoc, HL.out]
        simp only [encAt, Pr.list, be16s, List.flatMap_cons, List.flatMap_nil, List.append_assoc, List.append_nil]
      refine (number2_of p.b1 W28 (by omega) (by omega)).mono ?_
      rintro e W29 ⟨an, cn, rfl, hcn1, hcn2, hAn, hnn, hbn⟩
      replace ow := ow.below hbn
      replace hK := hK.trans (KeptB.of_below hbn)
      replace hz := Nat.le_trans hz hbn.size
      clear fo1 co10 co11 co12 co13 co14 co15 co16
      replace o1 := o1.below hbn o1.lt
      have fo1 := o1.free; have co10 := o1.cell 0 _ rfl; have co11 := o1.cell 1 _ rfl; have co12 := o1.cell 2 _ rfl; have co13 := o1.cell 3 _ rfl; have co14 := o1.cell 4 _ rfl; have co15 := o1.cell 5 _ rfl; have co16 := o1.cell 6 _ rfl
      clear fob cob0 cob1 cob2 cob3
      replace ob := ob.below hbn ob.lt
      have fob := ob.free; have cob0 := ob.cell 0 _ rfl; have cob1 := ob.cell 1 _ rfl; have cob2 := ob.cell 2 _ rfl; have cob3 := ob.cell 3 _ rfl
      clear hbn
      go_wp2_with (at_builtin; go_must (refine append_bytesA W29 rfl (.tmp 83) (.tmp 88) _ rfl Tryz.underlying31 W1.heap.size _ (L ++ be16 (u16n m) ++ be16 (u16n p.a0) ++ be16 (u16n p.a1) ++ be16 (u16n p.b0)) (be16 (u16n p.b1)) an 2 cn rfl rfl ow hAn rfl (fun e => absurd e hnn.out) (by (try simp only [List.length_append, be16_length]); omega) (by decide) hz ?_); intro v W30 ow2 hg; have hk := KeptB.grown hg ow; clear ow; have ow := ow2; clear ow2 hg hAn hnn hcn1 hcn2; replace hK := hK.trans hk; replace hz := Nat.le_trans hz hk.size; clear hk; rw [HL2.out] at ow)
      go_roundw
      case rel => exact ⟨k + 1, by omega, by go_num, ow, hK⟩
      case measure => simp [intOf]; omega
    · obtain rfl : k = lp := by omega
      rw [List.take_of_length_le (by rw [List.length_zip, Hml.out, Hlp.out]; omega)] at ow
      obtain ⟨ab, cb, rfl, hcb1, hcb2⟩ := ow.shape
      have hbl : (hd ++ encPairs (f.mates.zip f.pairs)).length ≤ 96 := by
        rw [List.length_append, encPairs_length, Hl6.out, List.length_zip, Hml.out, Hlp.out]; omega
      have hbs := ow.bytes
      generalize hL : hd ++ encPairs (f.mates.zip f.pairs) = L at *
      have HL := Lib.hid hL
      obtain ⟨nl, hnl⟩ : ∃ nl, L.length = nl := ⟨_, rfl⟩
      rw [hnl] at hcb1 hbl ⊢
      have Hnl := Lib.hid hnl
      have ow' : OwnB wr W1.heap.size (.slice ab nl cb) L := hnl ▸ ow
      clear hL hnl ow
      have ow := ow'
      clear ow'
      go_wp2_with fail
      refine (refSum_spec ab L nl cb wr hbs Hnl hcb1 hcb2).mono ?_
      rintro e w' ⟨rfl, rfl⟩
      have hcl := crc_lt L
      go_wp2_with fail
      refine (number2_of (crc L : Nat) wr (by omega) (by omega)).mono ?_
      rintro e W3 ⟨an, cn, rfl, hcn1, hcn2, hAn, hnn, hbn⟩
      have ow := ow.below hbn
      have hK := hK.trans (KeptB.of_below hbn)
      have hz := Nat.le_trans hz hbn.size
      go_wp2_with (at_builtin; go_must (refine append_bytesA W3 rfl (.tmp 90) (.tmp 94) _ rfl Tryz.underlying31 W1.heap.size _ L (be16 (u16n (crc L : Nat))) an 2 cn rfl rfl ow hAn rfl (fun e => absurd e hnn.out) (by rw [Hnl.out]; omega) (by decide) hz ?_); intro v W4 ow2 hg; have hk := KeptB.grown hg ow)
      go_ret2
      have hu : u16n (crc L : Nat) = crc L := by unfold u16n; omega
      rw [hu] at ow2
      exact ⟨v, rfl, by unfold enc encBody; rw [Hhd.out, HL.out]; exact ow2.base hB.size, hB.trans (((hK.trans hk).below (Nat.le_refl _)).mono hB.size)⟩
end Go.Proofs.YtohnlmfmpflbpaaGreat
