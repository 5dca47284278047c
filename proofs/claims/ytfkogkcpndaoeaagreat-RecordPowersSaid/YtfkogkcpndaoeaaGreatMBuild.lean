/- Plain facts on the decimal text of a fraction. Conditions: none. strings.Builder in a block of the call's own, alone or at the head of a struct. Conditions: at most 2^40 bytes. The drawn region of decimal's loop. Conditions: none. -/
import Derived.Test.YtfkogkcpndaoeaaGreatMDec
import Derived.Test.YtfkogkcpndaoeaaGreatMFloat
import Derived.Test.YtfkogkcpndaoeaaGreatMRegion
import Derived.Lib.Builder
import Derived.Lib.AppendStr
import Derived.Lib.UnsafeStr
import Derived.Laws.Externs
import Derived.Deep.RegionWith
set_option linter.all false
namespace Go.Proofs.YtfkogkcpndaoeaaGreat
def decDig (d : Nat) : Nat → Nat → Option (List UInt8)
  | 0, _ => none
  | f + 1, r => if 10 * r % d = 0 then some (dec (10 * r / d)) else (decDig d f (10 * r % d)).map (dec (10 * r / d) ++ ·)
def decText (a : Int) (d : Nat) : Option (List UInt8) :=
  if a.natAbs % d = 0 then some ((if a < 0 then [45] else []) ++ dec (a.natAbs / d))
  else (decDig d 64 (a.natAbs % d)).map fun l => (if a < 0 then [45] else []) ++ dec (a.natAbs / d) ++ 46 :: l
theorem numText_nat (q : Nat) : numText (cq q 0 1) = dec q := by
  have e : (((q : Int) : Rat) / (((1 : Nat) : Int) : Rat)) = ((q : Int) : Rat) := by
    have : (((1 : Nat) : Int) : Rat) = 1 := rfl
    rw [this]; grind
  have h1 : (cq q 0 1).im = 0 := (im_zero (show 0 < 1 by omega)).2 rfl
  unfold numText
  rw [if_pos h1]
  show partText (((q : Int) : Rat) / (((1 : Nat) : Int) : Rat)) = _
  rw [e]
  unfold partText
  have hq : ¬ ((q : Int) < 0) := by omega
  simp [hq]
theorem cmp_zero {a : Int} {d : Nat} (h : 0 < d) : (qcmp (cq a 0 d) (cq 0 0 1) < 0) ↔ a < 0 := by
  have e0 : (0 : Int).natAbs = 0 := rfl
  unfold qcmp
  have hr := ratio_lt (a := a) (A := 0) h (show 0 < 1 by omega)
  have hr2 := ratio_lt (a := 0) (A := a) (show 0 < 1 by omega) h
  have him : rcmp (cq a 0 d).im (cq 0 0 1).im = 0 := by
    have h1 : (cq a 0 d).im = 0 := (im_zero h).2 rfl
    have h2 : (cq 0 0 1).im = 0 := (im_zero (show 0 < 1 by omega)).2 rfl
    rw [h1, h2]; simp [rcmp]
  rw [him]
  have hre : rcmp (cq a 0 d).re (cq 0 0 1).re = if a < 0 then -1 else if 0 < a then 1 else 0 := by
    show rcmp ((a : Rat) / ((d : Int) : Rat)) (((0 : Int) : Rat) / (((1 : Nat) : Int) : Rat)) = _
    unfold rcmp
    simp only [hr, hr2]
    congr 1
    · simp
    · congr 1
      simp
  rw [hre]
  split <;> split <;> omega
theorem floor_nat {n d : Nat} (h : 0 < d) : cqFloor (cq n 0 d) 0 = cq (n / d : Nat) 0 1 := by
  rw [cqFloor_eq h]
  simp
theorem sub_floor {n d : Nat} (h : 0 < d) : (cq n 0 d).sub (cq (n / d : Nat) 0 1) = cq (n % d : Nat) 0 d := by
  rw [CQ.sub_eq, cq_neg, cq_add h (by omega), cq_eq (by omega) h]
  have e := Nat.div_add_mod n d
  constructor
  · have : (n : Int) = d * (n / d : Nat) + (n % d : Nat) := by rw [← Int.natCast_mul, ← Int.natCast_add, e]
    rw [this]
    grind
  · simp
theorem mul_ten {r d : Nat} (h : 0 < d) : (cq r 0 d).mul (cq 10 0 1) = cq (10 * r : Nat) 0 d := by
  rw [cq_mul h (by omega), cq_eq (by omega) h]
  constructor
  · simp; grind
  · simp
theorem eq_zero_cq {r d : Nat} (h : 0 < d) : cqEq (cq r 0 d) (cq 0 0 1) = decide (r = 0) := by
  rw [Bool.eq_iff_iff, cqEq_iff, cq_eq h (by omega), decide_eq_true_iff]
  simp
theorem neg_real {a : Int} {d : Nat} : (cq a 0 d).neg = cq (-a) 0 d := by rw [cq_neg]; simp
theorem small_nat {n d k : Nat} (h : 0 < d) (hn : n < 2 ^ k) (hd : d < 2 ^ k) : Small k (cq n 0 d) := small_mk h (by simpa using hn) (Nat.two_pow_pos k) hd
theorem decDig_len {d k : Nat} (hd : d < 2 ^ k) (h0 : 0 < d) : ∀ f r l, r < d → decDig d f r = some l → l.length ≤ f * (k + 5)
  | 0, _, _, _, h => by cases h
  | f + 1, r, l, hr, h => by
    have hq : 10 * r / d < 2 ^ (k + 4) := Nat.lt_of_le_of_lt (Nat.div_le_self _ _) (by rw [Nat.pow_add]; omega)
    have hl := dec_length hq
    unfold decDig at h
    split at h
    · simp only [Option.some.injEq] at h
      rw [← h, Nat.add_mul]; omega
    · obtain ⟨t, ht, rfl⟩ := Option.map_eq_some_iff.1 h
      have := decDig_len hd h0 f _ t (Nat.mod_lt _ h0) ht
      rw [List.length_append, Nat.add_mul]; omega
end Go.Proofs.YtfkogkcpndaoeaaGreat
namespace Go.Proofs.YtfkogkcpndaoeaaGreat
open Go.RowKit
def BuildAt (w : World) (T : TypeId) (b base : Nat) (p : Option Addr) (l : List UInt8) (more : List Value) : Prop :=
  ∃ v, Own w T b (.pointer p :: v :: more) ∧ OwnB w base v l
def Lies (T : TypeId) (more : List Value) : Prop := T ≠ 5 ∧ liesAt Tryz.prog Tryz.prog.depth T ((2 + more.length) / Tryz.prog.cellsOf T) 0 155 1 = true
theorem lies_builder : Lies 155 [] := ⟨by decide, by kernel_rfl⟩
theorem lies_touch (x y : Value) : Lies 157 [x, y] := ⟨by decide, by kernel_rfl⟩
theorem sizeBuilder : (Tryz.prog.info? 155).map (·.size) = some 2 := by kernel_rfl
theorem Own.shape {w : World} {E : TypeId} {g : Nat} {cs : List Value} (h : Own w E g cs) : w.shape? g = some (E, cs.length) := by
  unfold Own at h
  simp [World.shape?, h]
theorem Own.byRow {w w' : World} {E : TypeId} {g base : Nat} {cs : List Value} {v : Value} {l : List UInt8} (h : Own w E g cs) (hE : E ≠ 5) (o : OwnB w base v l) (hg : w.grownBy w' v.ownBlock) : Own w' E g cs := by
  have hl := h.lt
  unfold Own at *
  rw [hg.block g hl (fun e => by
    obtain ⟨_, h2⟩ := o
    rcases h2 with ⟨rfl, _⟩ | ⟨g', cap, cur, rfl, _, hgc, _⟩
    · simp [Value.ownBlock] at e
    · have e2 : g = g' := by simpa [Value.ownBlock] using e
      subst e2
      rw [h] at hgc
      simp only [Option.some.injEq, Obj.cells.injEq] at hgc
      exact hE hgc.2.1)]
  exact h
set_option maxRecDepth 100000 in
set_option maxHeartbeats 800000 in
theorem check_used (T : TypeId) (b : Nat) (cs : List Value) (w : World) (ho : Own w T b (.pointer (some ⟨b, 0, none⟩) :: cs)) :
    Calls Tryz.prog 134 #[.pointer (some ⟨b, 0, none⟩)] w (fun e w' => e = .returned (.tuple #[]) ∧ w = w') := by
  obtain ⟨j, hj, hjs⟩ := Option.map_eq_some_iff.1 sizeBuilder
  have h0 := ho.cell 0 _ rfl
  go_enter Tryz.func134, Tryz.ntmps134
  go_wp2
  rw [Lib.run_neq_ptr_same w _ Tryz.underlying153 hj]
  go_wp2
  go_end0
  exact ⟨rfl, rfl⟩
set_option maxRecDepth 100000 in
set_option maxHeartbeats 800000 in
theorem check_fresh (T : TypeId) (b : Nat) (v : Value) (more : List Value) (w : World) (hT : Lies T more) (ho : Own w T b (.pointer none :: v :: more)) :
    Calls Tryz.prog 134 #[.pointer (some ⟨b, 0, none⟩)] w (fun e w' => e = .returned (.tuple #[]) ∧ w' = w.setCell ⟨b, 0, none⟩ (.pointer (some ⟨b, 0, none⟩))) := by
  obtain ⟨j, hj, hjs⟩ := Option.map_eq_some_iff.1 sizeBuilder
  have h0 := ho.cell 0 _ rfl
  have hfz := ho.free 0
  have hsh := ho.shape
  have hlen : (.pointer none :: v :: more : List Value).length = 2 + more.length := by simp; omega
  rw [hlen] at hsh
  go_enter Tryz.func134, Tryz.ntmps134
  go_wp2
  rw [Lib.run_to_unsafe w ⟨b, 0, none⟩ Tryz.underlying153 Tryz.underlying246 hj (by rw [hjs]; decide) hsh (by show 0 < _; omega)]
  simp only [Result.andThen]
  rw [Oper.upon_value]
  go_wp2
  rw [run_callFunc_extern (fn := Tryz.f177) (e := Extern.AbiNoEscape.same) (by kernel_rfl) (by kernel_rfl) (by kernel_rfl) (by kernel_rfl) (by kernel_rfl)]
  rw [Lib.run_noEscape]
  simp only [Result.andThen]
  rw [Oper.upon_value]
  go_wp2
  rw [Lib.run_from_unsafe w ⟨b, 0, none⟩ Tryz.underlying246 Tryz.underlying153 hj hsh hT.2]
  simp only [Result.andThen]
  rw [Oper.upon_value]
  go_wp2
  go_end0
  exact ⟨rfl, rfl⟩
structure KeptX (b base : Nat) (w w' : World) : Prop where
  os : w'.os = w.os
  tape : w'.tape = w.tape
  output : w'.output = w.output
  size : w.heap.size ≤ w'.heap.size
  block : ∀ k, k < w.heap.size → k ≠ b → (k < base ∨ ¬ TyB w k 5) → w'.heap[k]? = w.heap[k]?
theorem KeptX.refl (b base : Nat) (w : World) : KeptX b base w w := ⟨rfl, rfl, rfl, Nat.le_refl _, fun _ _ _ _ => rfl⟩
theorem KeptX.trans {b base : Nat} {x y z : World} (h : KeptX b base x y) (k : KeptX b base y z) : KeptX b base x z :=
  ⟨k.os.trans h.os, k.tape.trans h.tape, k.output.trans h.output, Nat.le_trans h.size k.size, fun i hi hb hn => (k.block i (Nat.lt_of_lt_of_le hi h.size) hb (hn.imp id fun hn ht => hn (ht.of (h.block i hi hb (.inr hn)).symm))).trans (h.block i hi hb hn)⟩
theorem KeptX.below {b base B : Nat} {x y : World} (h : KeptX b base x y) (hb : B ≤ b) (hB : B ≤ base) (hx : B ≤ x.heap.size) : Below B x y := ⟨h.os, h.tape, h.output, h.size, fun k hk => h.block k (by omega) (by omega) (.inl (by omega))⟩
theorem KeptX.of_below {b base : Nat} {x y : World} (h : Below x.heap.size x y) : KeptX b base x y := ⟨h.os, h.tape, h.output, h.size, fun k hk _ _ => h.block k hk⟩
theorem KeptX.set {b base i : Nat} {x y : World} (h : KeptX b base x y) (v : Value) : KeptX b base x (y.setCell ⟨b, i, none⟩ v) :=
  ⟨h.os, h.tape, h.output, by simpa [World.setCell] using h.size, fun k hk hb hn => (Below.heap_setCell _ _ _ _ (fun e => hb e)).trans (h.block k hk hb hn)⟩
theorem KeptX.own {b base : Nat} {w w' : World} (h : KeptX b base w w') {E : TypeId} {g : Nat} {cs : List Value} (o : Own w E g cs) (hE : E ≠ 5) (hg : g ≠ b) : Own w' E g cs := by
  unfold Own at *
  rw [h.block g (Array.getElem?_eq_some_iff.1 o).1 hg (.inr fun ⟨cs', fr, e⟩ => by rw [o] at e; simp only [Option.some.injEq, Obj.cells.injEq] at e; exact hE e.2.1)]
  exact o
theorem KeptX.grown {b base : Nat} {w w' : World} {v : Value} {l : List UInt8} (h : w.grownBy w' v.ownBlock) (o : OwnB w base v l) : KeptX b base w w' :=
  ⟨h.os, h.tape, h.output, h.size, fun k hk _ hn => h.block k hk (fun e => by
    obtain ⟨_, h2⟩ := o
    rcases h2 with ⟨rfl, _⟩ | ⟨g, cap, cur, rfl, hbg, hgc, _⟩
    · simp [Value.ownBlock] at e
    · obtain rfl := Option.some.inj e
      rcases hn with h1 | h1
      · omega
      · exact h1 ⟨_, _, hgc⟩)⟩
theorem OwnB.far {w : World} {base b i : Nat} {T : TypeId} {cs : List Value} {v u : Value} {l : List UInt8} (h : OwnB w base v l) (o : Own w T b cs) (hT : T ≠ 5) : OwnB (w.setCell ⟨b, i, none⟩ u) base v l := by
  refine World.ownsRow.kept h (grown_set (grown_refl w (some b)) i u) ?_
  obtain ⟨_, h2⟩ := h
  rcases h2 with ⟨rfl, _⟩ | ⟨g, cap, cur, rfl, _, hgc, _⟩
  · exact .inl rfl
  · refine .inr fun e => ?_
    have e2 : g = b := by simpa [Value.ownBlock] using e
    subst e2
    unfold Own at o
    rw [o] at hgc
    simp only [Option.some.injEq, Obj.cells.injEq] at hgc
    exact hT hgc.2.1
def SelfP (b : Nat) (p : Option Addr) : Prop := p = none ∨ p = some ⟨b, 0, none⟩
theorem check_spec (T : TypeId) (b base : Nat) (p : Option Addr) (l : List UInt8) (more : List Value) (w : World) (hT : Lies T more) (h : BuildAt w T b base p l more) (hp : SelfP b p) :
    Calls Tryz.prog 134 #[.pointer (some ⟨b, 0, none⟩)] w (fun e w' => e = .returned (.tuple #[]) ∧ BuildAt w' T b base (some ⟨b, 0, none⟩) l more ∧ KeptX b base w w') := by
  obtain ⟨v, ho, hv⟩ := h
  rcases hp with rfl | rfl
  · refine (check_fresh T b v more w hT ho).mono ?_
    rintro e w' ⟨rfl, rfl⟩
    exact ⟨rfl, ⟨v, ho.set 0 _, hv.far ho hT.1⟩, (KeptX.refl _ _ _).set _⟩
  · refine (check_used T b _ w ho).mono ?_
    rintro e w' ⟨rfl, rfl⟩
    exact ⟨rfl, ⟨v, ho, hv⟩, KeptX.refl _ _ _⟩
theorem strCells_bytes (l : List UInt8) : Lib.strCells ⟨l.toArray⟩ = l.map byteV := by
  simp [Lib.strCells, byteV]
set_option maxRecDepth 100000 in
set_option maxHeartbeats 1600000 in
theorem writeString_spec (T : TypeId) (b base : Nat) (p : Option Addr) (l s : List UInt8) (more : List Value) (w : World) (hT : Lies T more) (h : BuildAt w T b base p l more) (hp : SelfP b p) (hl : l.length + s.length ≤ 1099511627776) (hb : base ≤ w.heap.size) :
    Calls Tryz.prog 79 #[.pointer (some ⟨b, 0, none⟩), .string ⟨s.toArray⟩] w (fun e w' => (∃ n : Int, e = .returned (.tuple #[.int .i64 n, .nilIface])) ∧ BuildAt w' T b base (some ⟨b, 0, none⟩) (l ++ s) more ∧ KeptX b base w w') := by
  obtain ⟨i0, hi, hz0, hz1, hz2⟩ := info_parts info_u8
  have hss : (ByteArray.mk s.toArray).size = s.length := by show s.toArray.size = _; simp
  have Hcs := Lib.hid (strCells_bytes s)
  generalize hS : ByteArray.mk s.toArray = S at *
  have Hss := Lib.hid hss
  clear hS hss
  go_enter Tryz.func79, Tryz.ntmps79
  go_wp2_with fail
  refine (check_spec T b base p l more w hT h hp).mono ?_
  rintro e w1 ⟨rfl, ⟨v, ho, hv⟩, hk1⟩
  have hsz := hk1.size
  have hc1 := ho.cell 1 _ rfl
  have hf1 := ho.free
  obtain ⟨av, cv, rfl, hcv1, hcv2⟩ := hv.shape
  obtain ⟨n, hn⟩ : ∃ n, l.length = n := ⟨_, rfl⟩
  have Hn := Lib.hid hn
  rw [hn] at hc1 hcv1
  go_wp2_with (at_builtin; go_must (refine Lib.wpList_append_own_string w1 rfl (.tmp 12) (.tmp 13) 86 9 rfl base 5 i0 Tryz.underlying86 Tryz.underlying9 hi hz0 hz1 hz2 (.slice av n cv) n (l.map byteV) rfl (Hn.out ▸ hv) S rfl (by have := Hss.out; unfold maxLen; omega) (by have := Hss.out; omega) (by omega) ?_); intro v' w2 hown' hgrow _; obtain ⟨ao, n', cap', rfl⟩ : ∃ ao n' cap', v' = .slice ao n' cap' := (by rcases hown'.2 with ⟨hv, _⟩ | ⟨g, cap, cur, hv, _⟩; exact ⟨_, _, _, hv⟩; exact ⟨_, _, _, hv⟩); have hgr : w1.grownBy w2 (Value.slice av l.length cv).ownBlock := (by rw [Hn.out]; exact hgrow); have ho2 := ho.byRow hT.1 hv hgr; have hk2 := KeptX.grown (b := b) hgr hv; clear hc1 hf1; have hc1 := ho2.cell 1 _ rfl; have hf1 := ho2.free; have hc0 := ho2.cell 0 _ rfl)
  go_ret2
  refine ⟨⟨_, rfl⟩, ⟨_, ho2.set 1 _, ?_⟩, (hk1.trans hk2).set _⟩
  have hx : OwnB w2 base (.slice ao n' cap') (l ++ s) := by
    unfold OwnB
    rw [List.length_append, List.map_append, ← Hcs.out, Hn.out, ← Hss.out]
    exact hown'
  exact hx.far ho2 hT.1
set_option maxRecDepth 100000 in
set_option maxHeartbeats 1600000 in
theorem writeByte_spec (T : TypeId) (b base : Nat) (p : Option Addr) (l : List UInt8) (c : UInt8) (z : Int) (more : List Value) (w : World) (hz : z = ((c.toNat : Nat) : Int)) (hT : Lies T more) (h : BuildAt w T b base p l more) (hp : SelfP b p) (hl : l.length < 1099511627776) (hb : base ≤ w.heap.size) :
    Calls Tryz.prog 135 #[.pointer (some ⟨b, 0, none⟩), .int .u8 z] w (fun e w' => e = .returned .nilIface ∧ BuildAt w' T b base (some ⟨b, 0, none⟩) (l ++ [c]) more ∧ KeptX b base w w') := by
  have Hz := Lib.hid hz
  clear hz
  go_enter Tryz.func135, Tryz.ntmps135
  go_wp2_with fail
  refine (check_spec T b base p l more w hT h hp).mono ?_
  rintro e w1 ⟨rfl, ⟨v, ho, hv⟩, hk1⟩
  have hsz := hk1.size
  have hc1 := ho.cell 1 _ rfl
  have hf1 := ho.free
  obtain ⟨av, cv, rfl, hcv1, hcv2⟩ := hv.shape
  go_wp2_with (at_builtin; go_must (refine append_byte w1 rfl (.tmp 11) (.tmp 13) _ rfl Tryz.underlying86 base _ l c _ Hz.out rfl rfl hv hl (by omega) ?_); intro v' w2 hown' hgrow; obtain ⟨ao, cap', rfl, _, _⟩ := OwnB.shape hown'; have ho2 := ho.byRow hT.1 hv hgrow; have hk2 := KeptX.grown (b := b) hgrow hv; clear hc1 hf1; have hc1 := ho2.cell 1 _ rfl; have hf1 := ho2.free)
  go_ret
  have ho1 : OwnB w2 base (.slice ao (l.length + 1) cap') (l ++ [c]) := by have := hown'; rw [List.length_append] at this; exact this
  exact ⟨rfl, ⟨_, ho2.set 1 _, ho1.far ho2 hT.1⟩, (hk1.trans hk2).set _⟩
theorem cellsByte : Tryz.prog.cellsOf 5 = 1 := by kernel_rfl
set_option maxRecDepth 100000 in
set_option maxHeartbeats 1600000 in
theorem string_spec (T : TypeId) (b base : Nat) (p : Option Addr) (l : List UInt8) (more : List Value) (w : World) (h : BuildAt w T b base p l more) (h0 : l ≠ []) :
    Calls Tryz.prog 85 #[.pointer (some ⟨b, 0, none⟩)] w (fun e w' => e = .returned (.string ⟨l.toArray⟩) ∧ Below base w w') := by
  obtain ⟨v, ho, hv⟩ := h
  have hl0 : l.length ≠ 0 := by simpa using h0
  obtain ⟨g, cap, cur, rfl, hbg, hg, hnc, hcm, hcs, htake⟩ : ∃ g cap cur, v = .slice (some ⟨g, 0, none⟩) l.length cap ∧ base ≤ g ∧ w.heap[g]? = some (.cells cur 5 (0, 0)) ∧ l.length ≤ cap ∧ cap ≤ maxLen ∧ cur.size = cap * 1 ∧ cur.toList.take (l.length * 1) = l.map byteV := by
    rcases hv.2 with ⟨_, hz⟩ | ⟨g, cap, cur, hv, r⟩
    · exact absurd hz hl0
    · exact ⟨g, cap, cur, hv, r⟩
  have c1 : w.drew.cell? ⟨b, 1, none⟩ = some (.slice (some ⟨g, 0, none⟩) l.length cap) := ho.cell 1 _ rfl
  have hSD : (Builtin.unsafeSliceData_ #[86] 212 #[.slice (some ⟨g, 0, none⟩) l.length cap]).run Tryz.prog w.drew = .ok (.pointer (some ⟨g, 0, none⟩)) w.drew :=
    Lib.run_unsafeSliceData_row _ _ _ _ _ _ (by omega)
  have hUS : (Builtin.unsafeString_ #[212, 3] 9 #[.pointer (some ⟨g, 0, none⟩), .int .i64 l.length]).run Tryz.prog w.drew = .ok (.string ⟨l.toArray⟩) (w.drew.freeze ⟨g, 0, none⟩ l.length) := by
    refine Lib.run_unsafeString_row w.drew 212 3 9 5 Tryz.underlying212 cellsByte g cur.size (by have hg' : w.drew.heap[g]? = some (.cells cur 5 (0, 0)) := hg; simp [World.shape?, hg']) l h0 (by omega) (by unfold maxLen at hcm; omega) ?_
    intro j x hx
    have := World.ownsRow.cells hv (g := g) rfl j (.int .u8 x.toNat) (by simp [byteV, hx])
    exact this
  have hs1 := hv.1
  clear h0 hl0
  generalize l.length = n at *
  go_enter Tryz.func85, Tryz.ntmps85
  go_wp2
  go_region
  all_goals (go_wp2; go_ret; exact ⟨rfl, Lib.below_freeze (Below.drew (Below.refl base w)) (p := ⟨g, 0, none⟩) hbg _⟩)
end Go.Proofs.YtfkogkcpndaoeaaGreat
namespace Go.Proofs.YtfkogkcpndaoeaaGreat
open Go.RowKit
noncomputable def dregion12 : Code := (Tryz.f78.body.bind (findRegion 12)).getD .skip
theorem grown_sets5 {w W : World} {g : Nat} {v0 v1 v2 v3 v4 : Value} (h : w.grownBy W (some g)) : w.grownBy (((((W.setCell ⟨g, 0, none⟩ v0).setCell ⟨g, 1, none⟩ v1).setCell ⟨g, 2, none⟩ v2).setCell ⟨g, 3, none⟩ v3).setCell ⟨g, 4, none⟩ v4) (some g) :=
  grown_set (grown_set (grown_set (grown_set (grown_set h _ _) _ _) _ _) _ _) _ _
set_option maxRecDepth 100000 in
set_option maxHeartbeats 3200000 in
theorem dreg12 (w : World) (r d k g6 : Nat) {R : Act → World → Prop} {u0 u1 u2 u3 u4 u5 u7 u8 u9 u10 u11 u12 u13 u14 u15 u16 u17 u18 u19 u20 u21 u22 u23 u24 u25 u26 u27 u28 u29 u30 u31 u32 u33 u34 u35 u36 u37 u38 u39 u40 u41 u42 u43 u44 u45 u46 u47 u48 u49 : Value}
    (hx : NumBox w g6 (cq r 0 d)) (hd : 0 < d) (hr : r < d) (hdk : d < 2 ^ k) (hk : k ≤ 100000)
    (hQ : ∀ (w' : World) (x31 x32 x33 : Value), NumBox w' g6 (cq (10 * r : Nat) 0 d) → w.grownBy w' (some g6) → R ⟨List.toArray (u0 :: u1 :: u2 :: u3 :: u4 :: u5 :: .pointer (some ⟨g6, 0, none⟩) :: u7 :: u8 :: u9 :: u10 :: u11 :: u12 :: u13 :: u14 :: u15 :: u16 :: u17 :: u18 :: u19 :: u20 :: u21 :: u22 :: u23 :: u24 :: u25 :: u26 :: u27 :: u28 :: u29 :: u30 :: x31 :: x32 :: x33 :: u34 :: u35 :: u36 :: u37 :: u38 :: u39 :: u40 :: u41 :: u42 :: u43 :: u44 :: u45 :: u46 :: u47 :: u48 :: u49 :: []), []⟩ w') :
    Code.wp Tryz.prog dregion12 (Only R) ⟨List.toArray (u0 :: u1 :: u2 :: u3 :: u4 :: u5 :: .pointer (some ⟨g6, 0, none⟩) :: u7 :: u8 :: u9 :: u10 :: u11 :: u12 :: u13 :: u14 :: u15 :: u16 :: u17 :: u18 :: u19 :: u20 :: u21 :: u22 :: u23 :: u24 :: u25 :: u26 :: u27 :: u28 :: u29 :: u30 :: u31 :: u32 :: u33 :: u34 :: u35 :: u36 :: u37 :: u38 :: u39 :: u40 :: u41 :: u42 :: u43 :: u44 :: u45 :: u46 :: u47 :: u48 :: u49 :: []), []⟩ w := by
  conv => arg 2; whnf
  obtain ⟨s0, s2, a1, a3, a4, l1, c1, l3, c3, l4, c4, o6, h⟩ := hx
  have h1 := small_nat hd (Nat.lt_trans hr hdk) hdk
  have h10 : Small (k + 4) (cq 10 0 1) := small_nat (n := 10) (by omega) (Nat.lt_of_lt_of_le (show 10 < 2 ^ 4 by decide) (Nat.pow_le_pow_right (by omega) (by omega))) (Nat.one_lt_two_pow (by omega))
  have hml := fun v u w h h' => nmul_spec v u (cq r 0 d) (cq 10 0 1) (k + 4) w h h' (h1.mono (by omega)) h10 (by omega)
  rw [mul_ten hd] at hml
  have HM := Lib.hid hml
  clear hml h1 h10 hdk
  have fo6 := o6.free; have co60 := o6.cell 0 _ rfl; have co61 := o6.cell 1 _ rfl; have co62 := o6.cell 2 _ rfl; have co63 := o6.cell 3 _ rfl; have co64 := o6.cell 4 _ rfl
  have lt6 := o6.lt
  have tok1 : True := trivial
  go_region_with (first
    | (go_at_call 36; have _t := tok1; refine (int_spec 10 w.drew (by omega) (by omega)).mono ?_; rintro e W1 ⟨z0, rfl, hz0, hb1⟩; have o61 : Own W1 40 g6 [.bool s0, .slice a1 l1 c1, .bool s2, .slice a3 l3 c3, .slice a4 l4 c4] := Own.below (w := w.drew) o6 hb1 lt6; have q0 := o61.cell 0 _ rfl; have q1 := o61.cell 1 _ rfl; have q2 := o61.cell 2 _ rfl; have q3 := o61.cell 3 _ rfl; have q4 := o61.cell 4 _ rfl; have hx1 := NumRep.below (w := w.drew) h hb1 (Nat.le_refl _); have hg1 : w.grownBy W1 (some g6) := grown_trans (grown_drew (grown_refl w (some g6))) (grown_of_below hb1 _); clear tok1 _t)
    | (go_at_call 128; refine (HM.out _ _ W1 hx1 hz0).mono ?_; rintro e W2 ⟨u, rfl, hu, hb2⟩; obtain ⟨f0, f2, b1, b3, b4, m1, n1, m3, n3, m4, n4, rfl⟩ := hu.open; have o62 := o61.below hb2 o61.lt; clear q0 q1 q2 q3 q4; have p0 := o62.cell 0 _ rfl; have p1 := o62.cell 1 _ rfl; have p2 := o62.cell 2 _ rfl; have p3 := o62.cell 3 _ rfl; have p4 := o62.cell 4 _ rfl; have f62 := o62.free; have hg2 := grown_trans hg1 (grown_of_below hb2 (some g6))))
  all_goals
    show R _ _
    refine hQ _ _ _ _ (numbox_end hu o62 rfl) (grown_sets5 hg2)
end Go.Proofs.YtfkogkcpndaoeaaGreat
