/- Clipped of the program and of the reference. Conditions: fewer than 1000 pairs. The drawn regions of the law RecordFrames. Conditions: none. -/
import Derived.Test.YtohnlmfmpflbpaaGreatMAppL
import Derived.Test.YtohnlmfmpflbpaaGreatMEnc
import Derived.Test.YtohnlmfmpflbpaaGreatMRSmp
import Derived.Test.YtohnlmfmpflbpaaGreatMRec
import Derived.Test.YtohnlmfmpflbpaaGreatMRegion
import Derived.Test.YtohnlmfmpflbpaaGreatMRowL
import Derived.Test.YtohnlmfmpflbpaaGreatMVals
import Derived.Deep.RegionHeld3
set_option linter.unusedSimpArgs false
set_option linter.unusedVariables false
set_option linter.all false
namespace Go.Proofs.YtohnlmfmpflbpaaGreat
open Go.RowKit

/-- A sample at an end of the converter. -/
def fullZ (x : Int) : Bool := decide (32767 ≤ x) || decide (x ≤ -32767)
def clipP (p : Pr) : Bool := fullZ p.a0 || fullZ p.a1 || fullZ p.b0 || fullZ p.b1
def clipAt (l : List Pr) (i : Nat) : List Int := match l[i]? with
  | some p => if clipP p then [(i : Int) + 1] else []
  | none => []
def clips (l : List Pr) (k : Nat) : List Int := (List.range k).flatMap (clipAt l)
theorem clips_succ (l : List Pr) (k : Nat) : clips l (k + 1) = clips l k ++ clipAt l k := by unfold clips; rw [List.range_succ]; simp
theorem clips_len (l : List Pr) (k : Nat) : (clips l k).length ≤ k := by
  induction k with
  | zero => simp [clips]
  | succ k ih =>
    rw [clips_succ, List.length_append]
    have : (clipAt l k).length ≤ 1 := by unfold clipAt; split <;> (try split) <;> simp
    omega

/-- `v` is a slice of the call's own that holds these integers. -/
def IntsRow (w : World) (base : Nat) (v : Value) (l : List Int) : Prop := w.ownsRow base 3 1 v l.length (l.map i64v)

theorem oneI {z : Int} {k : IntKind} : ∀ u ∈ ([.int k z] : List Value), u.oneCell' = true := by
  intro u hu
  simp only [List.mem_cons, List.not_mem_nil, or_false] at hu
  subst hu; rfl

set_option maxRecDepth 100000 in
theorem full_spec (x : Int) (w : World) (h1 : -32768 ≤ x) (h2 : x ≤ 32767) :
    Calls Tryz.prog 39 #[.int .i16 x] w (fun e w' => e = .returned (.bool (fullZ x)) ∧ w = w') := by
  have e2 : IntKind.i16.wrap x = x := by simp [IntKind.wrap, IntKind.bits, IntKind.signed]; omega
  have e3 : IntKind.i64.wrap x = x := by simp [IntKind.wrap, IntKind.bits, IntKind.signed]; omega
  unfold fullZ
  by_cases ha : 32767 ≤ x <;> by_cases hb : x ≤ -32767 <;> simp only [ha, hb, decide_true, decide_false, Bool.or_true, Bool.or_false] <;>
  (go_enter Tryz.func39, Tryz.ntmps39; go_wp2_with fail; go_ret; exact ⟨rfl, rfl⟩)

set_option maxRecDepth 100000 in
set_option maxHeartbeats 1600000 in
theorem clipped_pair_spec (p : Pr) (w : World) (hp : p.ok) :
    Calls Tryz.prog 38 #[.agg #[.int .i16 p.a0, .int .i16 p.a1, .int .i16 p.b0, .int .i16 p.b1]] w (Ret w fun _ v' => v' = .bool (clipP p)) := by
  have HP := Lib.hid hp
  clear hp
  go_enter Tryz.func38, Tryz.ntmps38
  go_upto_region 1 with (fail)
  obtain ⟨W, hW, o1, hB, hS⟩ := boxes1 w 90 [.int .i16 p.a0, .int .i16 p.a1, .int .i16 p.b0, .int .i16 p.b1]
  rw [← hW]
  clear hW
  have fo1 := o1.free; have co10 := o1.cell 0 _ rfl; have co11 := o1.cell 1 _ rfl; have co12 := o1.cell 2 _ rfl; have co13 := o1.cell 3 _ rfl
  go_wp2_with fail
  go_loop [18] (fun iv => ∃ k : Nat, k ≤ 4 ∧ iv = .int .i64 (k : Int) ∧ Hid (∀ x ∈ p.list.take k, fullZ x = false)) (fun i => 4 - (intOf i).toNat)
  case atStart => exact ⟨0, Nat.zero_le _, rfl, Lib.hid (by intro x hx; simp at hx)⟩
  case round =>
    obtain ⟨k, hk, rfl, H⟩ := hrel
    by_cases hlt : k < 4
    · obtain ⟨x, hx⟩ : ∃ x, p.list[k]? = some x := ⟨_, List.getElem?_eq_getElem (by simpa [Pr.list] using hlt)⟩
      have hidx : ∀ w, (Instr.index 91 (.agg #[.int .i16 p.a0, .int .i16 p.a1, .int .i16 p.b0, .int .i16 p.b1]) (.int .i64 (k : Int))).run Tryz.prog w = .ok (.int .i16 x) w := by
        intro w
        rcases (show k = 0 ∨ k = 1 ∨ k = 2 ∨ k = 3 by omega) with rfl | rfl | rfl | rfl
        all_goals
          simp only [Pr.list, List.getElem?_cons_zero, List.getElem?_cons_succ, Option.some.injEq] at hx
          subst hx
          kernel_rfl
      have hmem := List.mem_of_getElem? hx
      have hall : clipP p = true ↔ ∃ y ∈ p.list, fullZ y = true := by simp [clipP, Pr.list, or_assoc]
      have HX := Lib.hid hx
      by_cases h1 : 32767 ≤ x
      · have hc : clipP p = true := hall.2 ⟨x, hmem, by simp [fullZ, h1]⟩
        have HC := Lib.hid hc
        clear hc hall hmem hx
        go_wp2_with fail
        go_ret
        exact ⟨_, rfl, by rw [HC.out]; rfl, hB⟩
      · by_cases h2 : x ≤ -32767
        · have hc : clipP p = true := hall.2 ⟨x, hmem, by simp [fullZ, h2]⟩
          have HC := Lib.hid hc
          clear hc hall hmem hx
          go_wp2_with fail
          go_ret
          exact ⟨_, rfl, by rw [HC.out]; rfl, hB⟩
        · have HN : Hid (∀ y ∈ p.list.take (k + 1), fullZ y = false) := Lib.hid (by
            intro y hy
            rw [List.take_add_one, HX.out, List.mem_append] at hy
            rcases hy with hy | hy
            · exact H.out y hy
            · simp only [Option.toList_some, List.mem_singleton] at hy
              subst hy
              simp [fullZ, h1, h2])
          clear hall hmem hx
          go_wp2_with fail
          go_round
          case rel => exact ⟨k + 1, by omega, by go_num, HN⟩
          case measure => simp [intOf]; omega
    · obtain rfl : k = 4 := by omega
      have hc : clipP p = false := by
        have hh : ∀ x ∈ p.list, fullZ x = false := H.out
        simp only [Pr.list, List.mem_cons, List.not_mem_nil, or_false, forall_eq_or_imp, forall_eq] at hh
        obtain ⟨a, b, c, d⟩ := hh
        simp [clipP, a, b, c, d]
      have HC := Lib.hid hc
      clear hc
      go_wp2_with fail
      go_ret
      exact ⟨_, rfl, by rw [HC.out]; rfl, hB⟩

theorem clipAt_yes {l : List Pr} {k : Nat} {p : Pr} (h : l[k]? = some p) (hc : clipP p = true) : clipAt l k = [(k : Int) + 1] := by unfold clipAt; rw [h]; simp [hc]
theorem clipAt_no {l : List Pr} {k : Nat} {p : Pr} (h : l[k]? = some p) (hc : clipP p = false) : clipAt l k = [] := by unfold clipAt; rw [h]; simp [hc]

set_option maxRecDepth 100000 in
set_option maxHeartbeats 1600000 in
theorem clipped_spec (v : Value) (f : Fr) (w : World) (h : FrRep w v f) (hn : f.pairs.length ≤ 1000) :
    Calls Tryz.prog 11 #[v] w (Ret w fun w' v' => IntsRow w' w.heap.size v' (clips f.pairs f.pairs.length)) := by
  obtain ⟨vm, vp, rfl, hm, hp, hok⟩ := h
  obtain ⟨am, lm, cm, rfl, Hlm, hcm, hmm, hcelm⟩ := hm.any
  obtain ⟨ap, lp, cp, rfl, Hlp, hcp, hmp, hcelp⟩ := hp.any
  rw [show f.pairs.length = lp from Hlp.out] at hn ⊢
  go_enter Tryz.func11, Tryz.ntmps11
  go_upto_region 1 with (fail)
  obtain ⟨W, hW, o1, hB, hS⟩ := boxes1 w 27 [.int .u32 (f.seq : Int), .int .i64 f.point, .int .i64 f.source, .int .i64 f.turn, .float .f32 f.scale, .slice am lm cm, .slice ap lp cp]
  rw [← hW]
  clear hW
  have fo1 := o1.free; have co10 := o1.cell 0 _ rfl; have co11 := o1.cell 1 _ rfl; have co12 := o1.cell 2 _ rfl; have co13 := o1.cell 3 _ rfl; have co14 := o1.cell 4 _ rfl; have co15 := o1.cell 5 _ rfl; have co16 := o1.cell 6 _ rfl
  go_wp2_with fail
  clear co10 co11 co12 co13 co14 co15 co16 fo1
  have hr0 : IntsRow W w.heap.size (.slice none 0 0) (clips f.pairs 0) := World.ownsRow_nil _ _ _ _
  go_loopw [3, 9] (fun bv iv wr => ∃ k : Nat, k ≤ lp ∧ iv = .int .i64 (k : Int) ∧ IntsRow wr w.heap.size bv (clips f.pairs k) ∧ Below w.heap.size w wr) (fun _ i _ => lp - (intOf i).toNat)
  case atStart => exact ⟨0, Nat.zero_le _, rfl, hr0, hB⟩
  case round =>
    clear hr0 o1 hS hB
    obtain ⟨k, hk, rfl, hr, hB⟩ := hrel
    by_cases hlt : k < lp
    · obtain ⟨p, hpk⟩ : ∃ p, f.pairs[k]? = some p := ⟨_, List.getElem?_eq_getElem (by have := Hlp.out; omega)⟩
      obtain ⟨bp, op, rfl, q0, q1, q2, q3⟩ := (hp.below hB (Nat.le_refl _)).at hpk
      have hpo := hok.pairs p (List.mem_of_getElem? hpk)
      have HX := Lib.hid hpk
      have Hpo := Lib.hid hpo
      have hlen := clips_len f.pairs k
      clear hpk hpo
      go_upto_region 5 with (fail)
      obtain ⟨V, hV, ob, hBV, hSV⟩ := boxes1 wr 90 [.int .i16 p.a0, .int .i16 p.a1, .int .i16 p.b0, .int .i16 p.b1]
      rw [← hV]
      clear hV q0 q1 q2 q3
      have hr := row_below hr hBV
      have hsV : wr.heap.size ≤ V.heap.size := hBV.size; have hB := hB.trans (hBV.mono hB.size)
      generalize wr.heap.size = gp at *
      have fob := ob.free; have cob0 := ob.cell 0 _ rfl; have cob1 := ob.cell 1 _ rfl; have cob2 := ob.cell 2 _ rfl; have cob3 := ob.cell 3 _ rfl
      go_wp2_with fail
      refine (clipped_pair_spec p V Hpo.out).mono ?_
      rintro e W3 ⟨_, rfl, rfl, hb3⟩
      have hr := row_below hr hb3
      have hsW3 : V.heap.size ≤ W3.heap.size := hb3.size; have hB := hB.trans (hb3.mono hB.size)
      clear cob0 cob1 cob2 cob3 fob
      have hsz := hB.size
      by_cases hc : clipP p = true
      · have HC := Lib.hid hc
        have hr : W3.ownsRow w.heap.size 3 1 _ _ _ := hr
        clear hc
        rw [HC.out]
        go_wp2_with (at_builtin; go_must (refine append_oneL W3 rfl (.tmp 16) (.tmp 19) 24 3 (.int .i64 0) 1 8 rfl Tryz.underlying24 info_int rfl (by omega) (by omega) w.heap.size _ (clips f.pairs k).length _ [.int .i64 ((k : Int) + 1)] rfl (World.ownsRow.alloc hr _) rfl rfl oneI (by omega) hsz ?_); intro ga ca Y hma hga _)
        go_roundw
        case rel =>
          refine ⟨k + 1, by omega, by go_num, ?_, ?_⟩
          · rw [clips_succ, clipAt_yes HX.out HC.out]
            unfold IntsRow
            rw [List.length_append, List.map_append]
            exact hma
          · exact below_row (hB.alloc hsz _) (World.ownsRow.alloc hr _) hga (Nat.le_refl _) (by have := (hB.alloc hsz (.cells #[.int .i64 ((k : Int) + 1)] 3)).size; exact this)
        case measure => simp [intOf]; omega
      · have hc : clipP p = false := by simpa using hc
        have HC := Lib.hid hc
        clear hc
        rw [HC.out]
        go_wp2_with fail
        go_roundw
        case rel =>
          refine ⟨k + 1, by omega, by go_num, ?_, hB⟩
          rw [clips_succ, clipAt_no HX.out HC.out, List.append_nil]
          exact hr
        case measure => simp [intOf]; omega
    · obtain rfl : k = lp := by omega
      go_wp2_with fail
      go_ret
      exact ⟨_, rfl, hr, hB⟩

theorem rowBase {w : World} {base c n size : Nat} {T : TypeId} {v : Value} {xs : List Value} (h : w.ownsRow base T size v n xs) (hb : c ≤ base) : w.ownsRow c T size v n xs := by
  obtain ⟨h1, h2⟩ := h
  refine ⟨h1, ?_⟩
  rcases h2 with h2 | ⟨g, cap, cur, e, hg, r⟩
  · exact .inl h2
  · exact .inr ⟨g, cap, cur, e, Nat.le_trans hb hg, r⟩

theorem rclip_yes {w V Y : World} {l : List Pr} {p : Pr} {k lp base ga ca : Nat} {v : Value} {cs : List Value} (hx : l[k]? = some p) (hc : clipP p = true) (hk : k + 1 ≤ lp) (hr : IntsRow V base v (clips l k)) (hB : Below w.heap.size w V) (o1 : Own V 27 w.heap.size cs) (hbs : base ≤ V.heap.size) (h1 : w.heap.size < base) (h0 : w.heap.size ≤ base)
    (hma : Y.ownsRow base 3 1 (.slice (some ⟨ga, 0, none⟩) ((clips l k).length + 1) ca) ((clips l k).length + 1) ((clips l k).map i64v ++ [.int .i64 ((k : Int) + 1)])) (hga : (V.alloc (.cells #[.int .i64 ((k : Int) + 1)] 3)).grownBy Y v.ownBlock) :
    ∃ j : Nat, j ≤ lp ∧ Value.int .i64 ((k : Int) + 1) = .int .i64 (j : Int) ∧ IntsRow Y base (.slice (some ⟨ga, 0, none⟩) ((clips l k).length + 1) ca) (clips l j) ∧ Below w.heap.size w Y ∧ Own Y 27 w.heap.size cs ∧ base ≤ Y.heap.size := by
  have hr' := World.ownsRow.alloc hr (.cells #[.int .i64 ((k : Int) + 1)] 3)
  have hbA : Below V.heap.size V (V.alloc (.cells #[.int .i64 ((k : Int) + 1)] 3)) := (Below.refl _ _).alloc (Nat.le_refl _) _
  have hB' := hB.trans (hbA.mono hB.size)
  refine ⟨k + 1, hk, by simp, ?_, below_row hB' hr' hga h0 hB'.size, (o1.below hbA o1.lt).keptRow hr' hga h1, Nat.le_trans hbs (Nat.le_trans hbA.size hga.size)⟩
  rw [clips_succ, clipAt_yes hx hc]
  unfold IntsRow
  rw [List.length_append, List.map_append]
  exact hma

set_option maxRecDepth 100000 in
set_option maxHeartbeats 1600000 in
theorem rclipped_spec (v : Value) (f : Fr) (w : World) (h : FrRep w v f) (hn : f.pairs.length ≤ 1000) :
    Calls Tryz.prog 12 #[v] w (Ret w fun w' v' => IntsRow w' w.heap.size v' (clips f.pairs f.pairs.length)) := by
  obtain ⟨vm, vp, rfl, hm, hp, hok⟩ := h
  obtain ⟨am, lm, cm, rfl, Hlm, hcm, hmm, hcelm⟩ := hm.any
  obtain ⟨ap, lp, cp, rfl, Hlp, hcp, hmp, hcelp⟩ := hp.any
  rw [show f.pairs.length = lp from Hlp.out] at hn ⊢
  go_enter Tryz.func12, Tryz.ntmps12
  go_upto_region 1 with (fail)
  obtain ⟨W, hW, o1, hB, hS⟩ := boxes1 w 27 [.int .u32 (f.seq : Int), .int .i64 f.point, .int .i64 f.source, .int .i64 f.turn, .float .f32 f.scale, .slice am lm cm, .slice ap lp cp]
  rw [← hW]
  clear hW
  have hr0 : IntsRow W W.heap.size (.slice none 0 0) (clips f.pairs 0) := World.ownsRow_nil _ _ _ _
  have hl1 := o1.lt
  have hz0 := hB.size
  obtain ⟨base, hbase⟩ : ∃ b, b = W.heap.size := ⟨_, rfl⟩
  rw [← hbase] at hr0 hl1 hz0
  have fo1 := o1.free; have co10 := o1.cell 0 _ rfl; have co11 := o1.cell 1 _ rfl; have co12 := o1.cell 2 _ rfl; have co13 := o1.cell 3 _ rfl; have co14 := o1.cell 4 _ rfl; have co15 := o1.cell 5 _ rfl; have co16 := o1.cell 6 _ rfl
  go_wp2_with fail
  go_loopw [3, 4] (fun bv iv wr => ∃ k : Nat, k ≤ lp ∧ iv = .int .i64 (k : Int) ∧ IntsRow wr base bv (clips f.pairs k) ∧ Below w.heap.size w wr ∧ Own wr 27 w.heap.size [.int .u32 (f.seq : Int), .int .i64 f.point, .int .i64 f.source, .int .i64 f.turn, .float .f32 f.scale, .slice am lm cm, .slice ap lp cp] ∧ base ≤ wr.heap.size) (fun _ i _ => lp - (intOf i).toNat)
  case atStart => exact ⟨0, Nat.zero_le _, rfl, hr0, hB, o1, Nat.le_of_eq hbase⟩
  case round =>
    clear hr0 co10 co11 co12 co13 co14 co15 co16 fo1 o1 hS hB hbase
    obtain ⟨k, hk, rfl, hr, hB, o1, hbs⟩ := hrel
    have fo1 := o1.free; have co10 := o1.cell 0 _ rfl; have co11 := o1.cell 1 _ rfl; have co12 := o1.cell 2 _ rfl; have co13 := o1.cell 3 _ rfl; have co14 := o1.cell 4 _ rfl; have co15 := o1.cell 5 _ rfl; have co16 := o1.cell 6 _ rfl
    by_cases hlt : k < lp
    · obtain ⟨p, hpk⟩ : ∃ p, f.pairs[k]? = some p := ⟨_, List.getElem?_eq_getElem (by have := Hlp.out; omega)⟩
      obtain ⟨bp, op, rfl, q0, q1, q2, q3⟩ := (hp.below hB (by omega)).at hpk
      have hpo := hok.pairs p (List.mem_of_getElem? hpk)
      have HX := Lib.hid hpk
      obtain ⟨⟨hp0, hp0'⟩, ⟨hp1, hp1'⟩, ⟨hp2, hp2'⟩, ⟨hp3, hp3'⟩⟩ := hpo
      have hlen := clips_len f.pairs k
      clear hpk
      go_upto_region 6 with (fail)
      obtain ⟨V, hV, ob, hBV, hSV⟩ := boxes1 wr 90 [.int .i16 p.a0, .int .i16 p.a1, .int .i16 p.b0, .int .i16 p.b1]
      rw [← hV]
      clear hV q0 q1 q2 q3 co10 co11 co12 co13 co14 co15 co16 fo1
      have hr := row_below hr hBV
      have o1 := o1.below hBV (by omega)
      have hbV : base ≤ V.heap.size := Nat.le_trans hbs hBV.size
      have hsV : wr.heap.size ≤ V.heap.size := hBV.size; have hB := hB.trans (hBV.mono hB.size)
      generalize wr.heap.size = gp at *
      have fob := ob.free; have cob0 := ob.cell 0 _ rfl; have cob1 := ob.cell 1 _ rfl; have cob2 := ob.cell 2 _ rfl; have cob3 := ob.cell 3 _ rfl
      go_wp2_with fail
      refine (full_spec p.a0 V hp0 hp0').mono ?_
      rintro e W4 ⟨rfl, hW4⟩; subst hW4
      cases hf0 : fullZ p.a0 with
      | true =>
        have HC : Hid (clipP p = true) := Lib.hid (by simp [clipP, hf0])
        have hr : IntsRow V base _ _ := hr
        have hr : V.ownsRow base 3 1 _ _ _ := hr
        go_wp2_with (at_builtin; go_must (refine append_oneL V rfl (.tmp 40) (.tmp 43) 24 3 (.int .i64 0) 1 8 rfl Tryz.underlying24 info_int rfl (by omega) (by omega) base _ (clips f.pairs k).length _ [.int .i64 ((k : Int) + 1)] rfl (World.ownsRow.alloc hr _) rfl rfl oneI (by omega) hbV ?_); intro ga ca Y hma hga _)
        go_roundw
        case rel => exact rclip_yes HX.out HC.out (by omega) hr hB o1 hbV (by omega) hz0 hma hga
        case measure => simp [intOf]; omega
      | false =>
        go_wp2_with fail
        refine (full_spec p.a1 V hp1 hp1').mono ?_
        rintro e W4 ⟨rfl, hW4⟩; subst hW4
        cases hf1 : fullZ p.a1 with
        | true =>
          have HC : Hid (clipP p = true) := Lib.hid (by simp [clipP, hf1])
          have hr : IntsRow V base _ _ := hr
          have hr : V.ownsRow base 3 1 _ _ _ := hr
          go_wp2_with (at_builtin; go_must (refine append_oneL V rfl (.tmp 40) (.tmp 43) 24 3 (.int .i64 0) 1 8 rfl Tryz.underlying24 info_int rfl (by omega) (by omega) base _ (clips f.pairs k).length _ [.int .i64 ((k : Int) + 1)] rfl (World.ownsRow.alloc hr _) rfl rfl oneI (by omega) hbV ?_); intro ga ca Y hma hga _)
          go_roundw
          case rel => exact rclip_yes HX.out HC.out (by omega) hr hB o1 hbV (by omega) hz0 hma hga
          case measure => simp [intOf]; omega
        | false =>
          go_wp2_with fail
          refine (full_spec p.b0 V hp2 hp2').mono ?_
          rintro e W4 ⟨rfl, hW4⟩; subst hW4
          cases hf2 : fullZ p.b0 with
          | true =>
            have HC : Hid (clipP p = true) := Lib.hid (by simp [clipP, hf2])
            have hr : IntsRow V base _ _ := hr
            have hr : V.ownsRow base 3 1 _ _ _ := hr
            go_wp2_with (at_builtin; go_must (refine append_oneL V rfl (.tmp 40) (.tmp 43) 24 3 (.int .i64 0) 1 8 rfl Tryz.underlying24 info_int rfl (by omega) (by omega) base _ (clips f.pairs k).length _ [.int .i64 ((k : Int) + 1)] rfl (World.ownsRow.alloc hr _) rfl rfl oneI (by omega) hbV ?_); intro ga ca Y hma hga _)
            go_roundw
            case rel => exact rclip_yes HX.out HC.out (by omega) hr hB o1 hbV (by omega) hz0 hma hga
            case measure => simp [intOf]; omega
          | false =>
            go_wp2_with fail
            refine (full_spec p.b1 V hp3 hp3').mono ?_
            rintro e W4 ⟨rfl, hW4⟩; subst hW4
            cases hf3 : fullZ p.b1 with
            | true =>
              have HC : Hid (clipP p = true) := Lib.hid (by simp [clipP, hf3])
              have hr : IntsRow V base _ _ := hr
              have hr : V.ownsRow base 3 1 _ _ _ := hr
              go_wp2_with (at_builtin; go_must (refine append_oneL V rfl (.tmp 40) (.tmp 43) 24 3 (.int .i64 0) 1 8 rfl Tryz.underlying24 info_int rfl (by omega) (by omega) base _ (clips f.pairs k).length _ [.int .i64 ((k : Int) + 1)] rfl (World.ownsRow.alloc hr _) rfl rfl oneI (by omega) hbV ?_); intro ga ca Y hma hga _)
              go_roundw
              case rel => exact rclip_yes HX.out HC.out (by omega) hr hB o1 hbV (by omega) hz0 hma hga
              case measure => simp [intOf]; omega
            | false =>
              have HC : Hid (clipP p = false) := Lib.hid (by simp [clipP, hf0, hf1, hf2, hf3])
              go_wp2_with fail
              go_roundw
              case rel =>
                refine ⟨k + 1, by omega, by go_num, ?_, hB, o1, hbV⟩
                rw [clips_succ, clipAt_no HX.out HC.out, List.append_nil]
                exact hr
              case measure => simp [intOf]; omega
    · obtain rfl : k = lp := by omega
      go_wp2_with fail
      go_ret
      exact ⟨_, rfl, rowBase hr hz0, hB⟩
end Go.Proofs.YtohnlmfmpflbpaaGreat

namespace Go.Proofs.YtohnlmfmpflbpaaGreat
open Go.RowKit

/-- An int as one cell. -/
def IntC (_ : World) (u : List Value) (x : Int) : Prop := u = [i64v x]
theorem int_stable : Stable IntC [] := ⟨fun h _ _ => h, fun h _ _ _ => h⟩
theorem ints_flat (l : List Int) : (l.map fun x => [i64v x]).flatten = l.map i64v := by
  induction l with
  | nil => rfl
  | cons x l ih => simp [ih]
theorem IntsRow.sl {w : World} {base : Nat} {v : Value} {l : List Int} (h : IntsRow w base v l) : SlOf IntC 1 w v l := by
  have h1 : RowOf IntC 3 1 w base v l := ⟨l.map fun x => [i64v x], by simp, by rw [ints_flat]; exact h, fun i u x hu hx => by
    rw [List.getElem?_map, hx] at hu
    obtain rfl := Option.some.inj hu
    exact ⟨rfl, rfl⟩⟩
  exact h1.sl

/-- Bytes of a call's own as a string. -/
theorem ownB_string {w W : World} {base : Nat} {v : Value} {l : List UInt8} (h : OwnB w base v l) (hb : Below w.heap.size w W) :
    (convert 31 9 v).run Tryz.prog W = .ok (.string ⟨l.toArray⟩) W := by
  have h2 := row_below h hb
  rcases h2.2 with ⟨rfl, hx⟩ | ⟨g, cap, cur, rfl, h1, hg, _⟩
  · have hl : l = [] := by
      cases l with
      | nil => rfl
      | cons x l => simp at hx
    subst hl
    exact run_convert_bytes_nil (P := Tryz.prog) W 31 5 Tryz.underlying31 Tryz.underlying5 0 0 9 Tryz.underlying9
  · have hcv := run_convert_bytes_arg (P := Tryz.prog) W 31 5 Tryz.underlying31 Tryz.underlying5 g 0 l.length cap (l.map fun b => ((b.toNat : Nat) : Int)) (by simp) (fun i hi => by
      have := h2.cells (g := g) rfl i (byteV l[i]) (by rw [List.getElem?_map, List.getElem?_eq_getElem hi]; rfl)
      rw [Addr.add_lit] at this
      rw [this, List.getD_eq_getElem?_getD, List.getElem?_map, List.getElem?_eq_getElem hi]
      rfl) 9 Tryz.underlying9
    rw [hcv]
    have h := strOfNums_data (l.map fun b => ((b.toNat : Nat) : Int))
    rw [List.map_map] at h
    have e : ((fun n : Int => UInt8.ofNat n.toNat) ∘ fun b : UInt8 => ((b.toNat : Nat) : Int)) = id := by funext b; simp
    rw [e, List.map_id] at h
    cases hs : strOfNums (l.map fun b => ((b.toNat : Nat) : Int)) with
    | mk d =>
      rw [hs] at h
      have h3 : d.toList = l := h
      rw [← h3]

noncomputable def frregion7 : Code := (Tryz.f3.body.bind (findRegion 7)).getD .skip
set_option maxRecDepth 100000 in
set_option maxHeartbeats 6400000 in
theorem frreg7 (w : World) (g : Nat) {f : Fr} {am ap : Option Addr} {lm cm lp cp : Nat} (L : List Int) {R : Act → World → Prop} {u0 u2 u3 u4 u5 u6 u7 u8 u9 u10 u11 u12 u13 u14 u15 u16 u17 u18 u19 u20 u21 u22 u23 u24 u25 u26 u27 u28 u29 u30 u31 u32 u33 u34 u35 u36 u37 u38 u39 u40 u41 u42 u43 u44 u45 u46 u47 u48 u49 u50 u51 u52 u53 u54 u55 u56 u57 u58 u59 u60 u61 u62 u63 u64 u65 u66 u67 u68 u69 u70 u71 u72 u73 u74 u75 u76 u77 u78 u79 u80 u81 u82 u83 u84 u85 u86 u87 u88 u89 u90 u91 u92 u93 u94 u95 u96 u97 u98 u99 u100 u101 u102 u103 u104 u105 u106 u107 u108 u109 u110 u111 u112 u113 u114 u115 u116 u117 u118 u119 u120 u121 u122 u123 u124 u125 u126 u127 u128 u129 u130 u131 u132 u133 u134 u135 u136 u137 u138 u139 u140 u141 u142 u143 u144 u145 u146 u147 u148 u149 u150 : Value}
    (ha0 : w.cell? ⟨g, 0, none⟩ = some (.int .u32 (f.seq : Int))) (ha1 : w.cell? ⟨g, 1, none⟩ = some (.int .i64 f.point)) (ha2 : w.cell? ⟨g, 2, none⟩ = some (.int .i64 f.source)) (ha3 : w.cell? ⟨g, 3, none⟩ = some (.int .i64 f.turn)) (ha4 : w.cell? ⟨g, 4, none⟩ = some (.float .f32 f.scale)) (ha5 : w.cell? ⟨g, 5, none⟩ = some (.slice am lm cm)) (ha6 : w.cell? ⟨g, 6, none⟩ = some (.slice ap lp cp))
    (HA : ∀ W, Below w.heap.size w W → Calls Tryz.prog 11 #[.agg #[.int .u32 (f.seq : Int), .int .i64 f.point, .int .i64 f.source, .int .i64 f.turn, .float .f32 f.scale, .slice am lm cm, .slice ap lp cp]] W (Ret W fun w' v' => IntsRow w' W.heap.size v' L))
    (HB : ∀ W, Below w.heap.size w W → Calls Tryz.prog 12 #[.agg #[.int .u32 (f.seq : Int), .int .i64 f.point, .int .i64 f.source, .int .i64 f.turn, .float .f32 f.scale, .slice am lm cm, .slice ap lp cp]] W (Ret W fun w' v' => IntsRow w' W.heap.size v' L))
    (hQ : ∀ (w' : World) (s1 s2 x54 x55 x56 x57 : Value), Below w.heap.size w w' → SlOf IntC 1 w' s1 L → SlOf IntC 1 w' s2 L → R ⟨List.toArray (u0 :: .pointer (some ⟨g, 0, none⟩) :: u2 :: u3 :: u4 :: u5 :: u6 :: s1 :: s2 :: u9 :: u10 :: u11 :: u12 :: u13 :: u14 :: u15 :: u16 :: u17 :: u18 :: u19 :: u20 :: u21 :: u22 :: u23 :: u24 :: u25 :: u26 :: u27 :: u28 :: u29 :: u30 :: u31 :: u32 :: u33 :: u34 :: u35 :: u36 :: u37 :: u38 :: u39 :: u40 :: u41 :: u42 :: u43 :: u44 :: u45 :: u46 :: u47 :: u48 :: u49 :: u50 :: u51 :: u52 :: u53 :: x54 :: x55 :: x56 :: x57 :: u58 :: u59 :: u60 :: u61 :: u62 :: u63 :: u64 :: u65 :: u66 :: u67 :: u68 :: u69 :: u70 :: u71 :: u72 :: u73 :: u74 :: u75 :: u76 :: u77 :: u78 :: u79 :: u80 :: u81 :: u82 :: u83 :: u84 :: u85 :: u86 :: u87 :: u88 :: u89 :: u90 :: u91 :: u92 :: u93 :: u94 :: u95 :: u96 :: u97 :: u98 :: u99 :: u100 :: u101 :: u102 :: u103 :: u104 :: u105 :: u106 :: u107 :: u108 :: u109 :: u110 :: u111 :: u112 :: u113 :: u114 :: u115 :: u116 :: u117 :: u118 :: u119 :: u120 :: u121 :: u122 :: u123 :: u124 :: u125 :: u126 :: u127 :: u128 :: u129 :: u130 :: u131 :: u132 :: u133 :: u134 :: u135 :: u136 :: u137 :: u138 :: u139 :: u140 :: u141 :: u142 :: u143 :: u144 :: u145 :: u146 :: u147 :: u148 :: u149 :: u150 :: []), []⟩ w') :
    Code.wp Tryz.prog frregion7 (Only R) ⟨List.toArray (u0 :: .pointer (some ⟨g, 0, none⟩) :: u2 :: u3 :: u4 :: u5 :: u6 :: u7 :: u8 :: u9 :: u10 :: u11 :: u12 :: u13 :: u14 :: u15 :: u16 :: u17 :: u18 :: u19 :: u20 :: u21 :: u22 :: u23 :: u24 :: u25 :: u26 :: u27 :: u28 :: u29 :: u30 :: u31 :: u32 :: u33 :: u34 :: u35 :: u36 :: u37 :: u38 :: u39 :: u40 :: u41 :: u42 :: u43 :: u44 :: u45 :: u46 :: u47 :: u48 :: u49 :: u50 :: u51 :: u52 :: u53 :: u54 :: u55 :: u56 :: u57 :: u58 :: u59 :: u60 :: u61 :: u62 :: u63 :: u64 :: u65 :: u66 :: u67 :: u68 :: u69 :: u70 :: u71 :: u72 :: u73 :: u74 :: u75 :: u76 :: u77 :: u78 :: u79 :: u80 :: u81 :: u82 :: u83 :: u84 :: u85 :: u86 :: u87 :: u88 :: u89 :: u90 :: u91 :: u92 :: u93 :: u94 :: u95 :: u96 :: u97 :: u98 :: u99 :: u100 :: u101 :: u102 :: u103 :: u104 :: u105 :: u106 :: u107 :: u108 :: u109 :: u110 :: u111 :: u112 :: u113 :: u114 :: u115 :: u116 :: u117 :: u118 :: u119 :: u120 :: u121 :: u122 :: u123 :: u124 :: u125 :: u126 :: u127 :: u128 :: u129 :: u130 :: u131 :: u132 :: u133 :: u134 :: u135 :: u136 :: u137 :: u138 :: u139 :: u140 :: u141 :: u142 :: u143 :: u144 :: u145 :: u146 :: u147 :: u148 :: u149 :: u150 :: []), []⟩ w := by
  conv => arg 2; whnf
  have HAA := Lib.hid HA
  have HBB := Lib.hid HB
  clear HA HB
  have lta := World.block_lt_of_cell? w _ ha0
  have Gha0 := Lib.hid ha0; have Gha1 := Lib.hid ha1; have Gha2 := Lib.hid ha2; have Gha3 := Lib.hid ha3; have Gha4 := Lib.hid ha4; have Gha5 := Lib.hid ha5; have Gha6 := Lib.hid ha6
  have tok1 : True := trivial
  have tok2 : True := trivial
  have hkw : Below w.heap.size w w.drew := (Below.refl _ _).drew
  go_region_held3 (fun w' => w'.cell? ⟨g, 0, none⟩ = some (.int .u32 (f.seq : Int)) ∧ w'.cell? ⟨g, 1, none⟩ = some (.int .i64 f.point) ∧ w'.cell? ⟨g, 2, none⟩ = some (.int .i64 f.source) ∧ w'.cell? ⟨g, 3, none⟩ = some (.int .i64 f.turn) ∧ w'.cell? ⟨g, 4, none⟩ = some (.float .f32 f.scale) ∧ w'.cell? ⟨g, 5, none⟩ = some (.slice am lm cm) ∧ w'.cell? ⟨g, 6, none⟩ = some (.slice ap lp cp)) (first | (with_reducible exact ⟨ha0, ha1, ha2, ha3, ha4, ha5, ha6⟩) | (simp [go_sem, ha0, ha1, ha2, ha3, ha4, ha5, ha6, lta]; done)) (first
    | (go_simp; go_at_call 11; have _t := tok1; (with_reducible refine (HAA.out w.drew hkw).mono ?_); rintro e1 W1 ⟨c1, rfl, hr1, hbx1⟩; have hbb1 : Below w.heap.size w W1 := hkw.trans hbx1; have ha0 := (hbb1.cell (World.block_lt_of_cell? w _ Gha0.out)).trans Gha0.out; have ha1 := (hbb1.cell (World.block_lt_of_cell? w _ Gha1.out)).trans Gha1.out; have ha2 := (hbb1.cell (World.block_lt_of_cell? w _ Gha2.out)).trans Gha2.out; have ha3 := (hbb1.cell (World.block_lt_of_cell? w _ Gha3.out)).trans Gha3.out; have ha4 := (hbb1.cell (World.block_lt_of_cell? w _ Gha4.out)).trans Gha4.out; have ha5 := (hbb1.cell (World.block_lt_of_cell? w _ Gha5.out)).trans Gha5.out; have ha6 := (hbb1.cell (World.block_lt_of_cell? w _ Gha6.out)).trans Gha6.out; have lta := World.block_lt_of_cell? W1 _ ha0; clear tok1 _t)
    | (go_simp; go_at_call 12; have _t := tok2; (with_reducible refine (HBB.out W1 hbb1).mono ?_); rintro e1 W2 ⟨c2, rfl, hr2, hbx2⟩; have hbb2 : Below w.heap.size w W2 := hbb1.trans (hbx2.mono hbb1.size); have ha0 := (hbb2.cell (World.block_lt_of_cell? w _ Gha0.out)).trans Gha0.out; have ha1 := (hbb2.cell (World.block_lt_of_cell? w _ Gha1.out)).trans Gha1.out; have ha2 := (hbb2.cell (World.block_lt_of_cell? w _ Gha2.out)).trans Gha2.out; have ha3 := (hbb2.cell (World.block_lt_of_cell? w _ Gha3.out)).trans Gha3.out; have ha4 := (hbb2.cell (World.block_lt_of_cell? w _ Gha4.out)).trans Gha4.out; have ha5 := (hbb2.cell (World.block_lt_of_cell? w _ Gha5.out)).trans Gha5.out; have ha6 := (hbb2.cell (World.block_lt_of_cell? w _ Gha6.out)).trans Gha6.out; have lta := World.block_lt_of_cell? W2 _ ha0; have hr3 := row_below hr1 hbx2; clear tok2 _t))
  all_goals
    show R _ _
    exact hQ _ _ _ _ _ _ _ hbb2 (IntsRow.sl hr3) (IntsRow.sl hr2)

noncomputable def frregion5 : Code := (Tryz.f3.body.bind (findRegion 5)).getD .skip
set_option maxRecDepth 100000 in
set_option maxHeartbeats 6400000 in
theorem frreg5 (w : World) (g : Nat) {f : Fr} {am ap : Option Addr} {lm cm lp cp : Nat} (b : Bool) (z : Int) (s1 s2 : Value) (s : ByteArray) {R : Act → World → Prop} {u0 u2 u7 u8 u9 u10 u11 u12 u13 u14 u15 u16 u17 u18 u19 u20 u21 u22 u23 u24 u25 u26 u27 u28 u29 u30 u31 u32 u33 u34 u35 u36 u37 u38 u39 u40 u41 u42 u43 u44 u45 u46 u47 u48 u49 u50 u51 u52 u53 u54 u55 u56 u57 u58 u59 u60 u61 u62 u63 u64 u65 u66 u67 u68 u69 u70 u71 u72 u73 u74 u75 u76 u77 u78 u79 u80 u81 u82 u83 u84 u85 u86 u87 u88 u89 u90 u91 u92 u93 u94 u95 u96 u97 u98 u99 u100 u101 u102 u103 u104 u105 u106 u107 u108 u109 u110 u111 u112 u113 u114 u115 u116 u117 u118 u119 u120 u121 u122 u123 u124 u125 u126 u127 u128 u129 u130 u131 u132 u133 u134 u135 u136 u137 u138 u139 u140 u141 u142 u143 u144 u145 u146 u147 u148 u149 u150 : Value}
    (ha0 : w.cell? ⟨g, 0, none⟩ = some (.int .u32 (f.seq : Int))) (ha1 : w.cell? ⟨g, 1, none⟩ = some (.int .i64 f.point)) (ha2 : w.cell? ⟨g, 2, none⟩ = some (.int .i64 f.source)) (ha3 : w.cell? ⟨g, 3, none⟩ = some (.int .i64 f.turn)) (ha4 : w.cell? ⟨g, 4, none⟩ = some (.float .f32 f.scale)) (ha5 : w.cell? ⟨g, 5, none⟩ = some (.slice am lm cm)) (ha6 : w.cell? ⟨g, 6, none⟩ = some (.slice ap lp cp))
    (HA : ∀ W, Below w.heap.size w W → Calls Tryz.prog 9 #[.agg #[.int .u32 (f.seq : Int), .int .i64 f.point, .int .i64 f.source, .int .i64 f.turn, .float .f32 f.scale, .slice am lm cm, .slice ap lp cp]] W (Ret W fun _ v' => v' = .bool b))
    (HB : ∀ W, Below w.heap.size w W → Calls Tryz.prog 10 #[.agg #[.int .u32 (f.seq : Int), .int .i64 f.point, .int .i64 f.source, .int .i64 f.turn, .float .f32 f.scale, .slice am lm cm, .slice ap lp cp]] W (Ret W fun _ v' => v' = .bool b))
    (HC : ∀ W, Below w.heap.size w W → (convert 31 9 s1).run Tryz.prog W = .ok (.string s) W)
    (HD : ∀ W, Below w.heap.size w W → (convert 31 9 s2).run Tryz.prog W = .ok (.string s) W)
    (hQ : ∀ (w' : World) (x37 x38 x39 x40 x41 x42 x43 x44 x45 x46 x47 x48 x49 x50 x51 x52 : Value), Below w.heap.size w w' → R ⟨List.toArray (u0 :: .pointer (some ⟨g, 0, none⟩) :: u2 :: s1 :: .int .i64 z :: s2 :: .int .i64 z :: u7 :: u8 :: u9 :: u10 :: u11 :: u12 :: u13 :: u14 :: u15 :: u16 :: u17 :: u18 :: u19 :: u20 :: u21 :: u22 :: u23 :: u24 :: u25 :: u26 :: u27 :: u28 :: u29 :: u30 :: u31 :: u32 :: u33 :: u34 :: u35 :: u36 :: x37 :: x38 :: x39 :: x40 :: x41 :: x42 :: x43 :: x44 :: x45 :: x46 :: x47 :: x48 :: x49 :: x50 :: x51 :: x52 :: .bool false :: u54 :: u55 :: u56 :: u57 :: u58 :: u59 :: u60 :: u61 :: u62 :: u63 :: u64 :: u65 :: u66 :: u67 :: u68 :: u69 :: u70 :: u71 :: u72 :: u73 :: u74 :: u75 :: u76 :: u77 :: u78 :: u79 :: u80 :: u81 :: u82 :: u83 :: u84 :: u85 :: u86 :: u87 :: u88 :: u89 :: u90 :: u91 :: u92 :: u93 :: u94 :: u95 :: u96 :: u97 :: u98 :: u99 :: u100 :: u101 :: u102 :: u103 :: u104 :: u105 :: u106 :: u107 :: u108 :: u109 :: u110 :: u111 :: u112 :: u113 :: u114 :: u115 :: u116 :: u117 :: u118 :: u119 :: u120 :: u121 :: u122 :: u123 :: u124 :: u125 :: u126 :: u127 :: u128 :: u129 :: u130 :: u131 :: u132 :: u133 :: u134 :: u135 :: u136 :: u137 :: u138 :: u139 :: u140 :: u141 :: u142 :: u143 :: u144 :: u145 :: u146 :: u147 :: u148 :: u149 :: u150 :: []), []⟩ w') :
    Code.wp Tryz.prog frregion5 (Only R) ⟨List.toArray (u0 :: .pointer (some ⟨g, 0, none⟩) :: u2 :: s1 :: .int .i64 z :: s2 :: .int .i64 z :: u7 :: u8 :: u9 :: u10 :: u11 :: u12 :: u13 :: u14 :: u15 :: u16 :: u17 :: u18 :: u19 :: u20 :: u21 :: u22 :: u23 :: u24 :: u25 :: u26 :: u27 :: u28 :: u29 :: u30 :: u31 :: u32 :: u33 :: u34 :: u35 :: u36 :: u37 :: u38 :: u39 :: u40 :: u41 :: u42 :: u43 :: u44 :: u45 :: u46 :: u47 :: u48 :: u49 :: u50 :: u51 :: u52 :: u53 :: u54 :: u55 :: u56 :: u57 :: u58 :: u59 :: u60 :: u61 :: u62 :: u63 :: u64 :: u65 :: u66 :: u67 :: u68 :: u69 :: u70 :: u71 :: u72 :: u73 :: u74 :: u75 :: u76 :: u77 :: u78 :: u79 :: u80 :: u81 :: u82 :: u83 :: u84 :: u85 :: u86 :: u87 :: u88 :: u89 :: u90 :: u91 :: u92 :: u93 :: u94 :: u95 :: u96 :: u97 :: u98 :: u99 :: u100 :: u101 :: u102 :: u103 :: u104 :: u105 :: u106 :: u107 :: u108 :: u109 :: u110 :: u111 :: u112 :: u113 :: u114 :: u115 :: u116 :: u117 :: u118 :: u119 :: u120 :: u121 :: u122 :: u123 :: u124 :: u125 :: u126 :: u127 :: u128 :: u129 :: u130 :: u131 :: u132 :: u133 :: u134 :: u135 :: u136 :: u137 :: u138 :: u139 :: u140 :: u141 :: u142 :: u143 :: u144 :: u145 :: u146 :: u147 :: u148 :: u149 :: u150 :: []), []⟩ w := by
  conv => arg 2; whnf
  have HAA := Lib.hid HA
  have HBB := Lib.hid HB
  have HCC := Lib.hid HC
  have HDD := Lib.hid HD
  clear HA HB HC HD
  have lta := World.block_lt_of_cell? w _ ha0
  have Gha0 := Lib.hid ha0; have Gha1 := Lib.hid ha1; have Gha2 := Lib.hid ha2; have Gha3 := Lib.hid ha3; have Gha4 := Lib.hid ha4; have Gha5 := Lib.hid ha5; have Gha6 := Lib.hid ha6
  have tok1 : True := trivial
  have tok2 : True := trivial
  have hkw : Below w.heap.size w w.drew := (Below.refl _ _).drew
  have hcc := HCC.out w.drew hkw
  have hdd := HDD.out w.drew hkw
  cases b
  all_goals
    go_region_held3 (fun w' => w'.cell? ⟨g, 0, none⟩ = some (.int .u32 (f.seq : Int)) ∧ w'.cell? ⟨g, 1, none⟩ = some (.int .i64 f.point) ∧ w'.cell? ⟨g, 2, none⟩ = some (.int .i64 f.source) ∧ w'.cell? ⟨g, 3, none⟩ = some (.int .i64 f.turn) ∧ w'.cell? ⟨g, 4, none⟩ = some (.float .f32 f.scale) ∧ w'.cell? ⟨g, 5, none⟩ = some (.slice am lm cm) ∧ w'.cell? ⟨g, 6, none⟩ = some (.slice ap lp cp) ∧ (convert 31 9 s1).run Tryz.prog w' = .ok (.string s) w' ∧ (convert 31 9 s2).run Tryz.prog w' = .ok (.string s) w') (first | (with_reducible exact ⟨ha0, ha1, ha2, ha3, ha4, ha5, ha6, hcc, hdd⟩) | (simp [go_sem, ha0, ha1, ha2, ha3, ha4, ha5, ha6, lta, hcc, hdd]; done)) (first
      | (go_simp; go_at_call 9; have _t := tok1; (with_reducible refine (HAA.out w.drew hkw).mono ?_); rintro e1 W1 ⟨_, rfl, rfl, hbx1⟩; have hbb1 : Below w.heap.size w W1 := hkw.trans hbx1; have ha0 := (hbb1.cell (World.block_lt_of_cell? w _ Gha0.out)).trans Gha0.out; have ha1 := (hbb1.cell (World.block_lt_of_cell? w _ Gha1.out)).trans Gha1.out; have ha2 := (hbb1.cell (World.block_lt_of_cell? w _ Gha2.out)).trans Gha2.out; have ha3 := (hbb1.cell (World.block_lt_of_cell? w _ Gha3.out)).trans Gha3.out; have ha4 := (hbb1.cell (World.block_lt_of_cell? w _ Gha4.out)).trans Gha4.out; have ha5 := (hbb1.cell (World.block_lt_of_cell? w _ Gha5.out)).trans Gha5.out; have ha6 := (hbb1.cell (World.block_lt_of_cell? w _ Gha6.out)).trans Gha6.out; have lta := World.block_lt_of_cell? W1 _ ha0; have hcc := HCC.out W1 hbb1; have hdd := HDD.out W1 hbb1; clear tok1 _t)
      | (go_simp; go_at_call 10; have _t := tok2; (with_reducible refine (HBB.out W1 hbb1).mono ?_); rintro e1 W2 ⟨_, rfl, rfl, hbx2⟩; have hbb2 : Below w.heap.size w W2 := hbb1.trans (hbx2.mono hbb1.size); have ha0 := (hbb2.cell (World.block_lt_of_cell? w _ Gha0.out)).trans Gha0.out; have ha1 := (hbb2.cell (World.block_lt_of_cell? w _ Gha1.out)).trans Gha1.out; have ha2 := (hbb2.cell (World.block_lt_of_cell? w _ Gha2.out)).trans Gha2.out; have ha3 := (hbb2.cell (World.block_lt_of_cell? w _ Gha3.out)).trans Gha3.out; have ha4 := (hbb2.cell (World.block_lt_of_cell? w _ Gha4.out)).trans Gha4.out; have ha5 := (hbb2.cell (World.block_lt_of_cell? w _ Gha5.out)).trans Gha5.out; have ha6 := (hbb2.cell (World.block_lt_of_cell? w _ Gha6.out)).trans Gha6.out; have lta := World.block_lt_of_cell? W2 _ ha0; have hcc := HCC.out W2 hbb2; have hdd := HDD.out W2 hbb2; clear tok2 _t))
    all_goals
      show R _ _
      exact hQ _ _ _ _ _ _ _ _ _ _ _ _ _ _ _ _ _ hbb2

set_option maxRecDepth 100000 in
set_option maxHeartbeats 4000000 in
theorem words_eq (d : Nat) (a b : Int) (w : World) : (Op.equalIn (d + 3) 47 (.agg #[.int .u32 a, .int .u32 b]) (.agg #[.int .u32 a, .int .u32 b])).run Tryz.prog w = .ok true w := by
  have hr : List.range' 0 2 = [0, 1] := rfl
  simp [Op.equalIn, go_sem, Tryz.underlying47, Tryz.underlying22, hr, List.forIn_cons, List.forIn_nil]
theorem words_neq (a b : Int) (w : World) : (binOp .neq 47 (.agg #[.int .u32 a, .int .u32 b]) (.agg #[.int .u32 a, .int .u32 b])).run Tryz.prog w = .ok (.bool false) w := by
  rw [run_neq_struct, show (10000 : Nat) = 9997 + 3 from rfl, words_eq]
  rfl

theorem bits_spec (a b : Nat) (w : World) : Calls Tryz.prog 18 #[.complex .f32 a b] w (Ret w fun _ v' => v' = .agg #[.int .u32 (a : Int), .int .u32 (b : Int)]) := by
  have hrun := run_fb32
  go_enter Tryz.func18, Tryz.ntmps18
  go_upto_region 1 with (fail)
  obtain ⟨W, hW, o2, hB, hS⟩ := boxes1 w 47 [.int .u32 0, .int .u32 0]
  rw [← hW]
  clear hW
  have fo2 := o2.free; have co20 := o2.cell 0 _ rfl; have co21 := o2.cell 1 _ rfl
  have lt2 := o2.lt
  go_wp2_with fail
  exact bodyPost_ret (by simp [results, Tryz.results18, go_sem, co20, co21]) rfl ⟨_, rfl, rfl, (hB.setCell (p := ⟨w.heap.size, 0, none⟩) (Nat.le_refl _) _).setCell (p := ⟨w.heap.size, 1, none⟩) (Nat.le_refl _) _⟩

noncomputable def frregion30 : Code := (Tryz.f3.body.bind (findRegion 30)).getD .skip
set_option maxRecDepth 100000 in
set_option maxHeartbeats 6400000 in
theorem frreg30 (w : World) (b1 o1 c1 b2 o2 c2 n i c x y : Nat) {R : Act → World → Prop} {u0 u1 u2 u3 u4 u5 u6 u7 u8 u9 u10 u11 u12 u13 u14 u15 u17 u19 u22 u23 u24 u25 u26 u27 u28 u29 u30 u31 u32 u33 u34 u35 u36 u37 u38 u39 u40 u41 u42 u43 u44 u45 u46 u47 u48 u49 u50 u51 u52 u53 u54 u55 u56 u57 u58 u59 u60 u61 u62 u63 u64 u65 u66 u67 u68 u69 u70 u71 u72 u73 u74 u75 u76 u77 u78 u79 u80 u81 u82 u83 u84 u85 u86 u87 u88 u89 u90 u91 u92 u93 u94 u95 u96 u97 u98 u99 u100 u101 u102 u103 u104 u105 u106 u107 u108 u109 u110 u111 u112 u113 u114 u115 u116 u117 u118 u119 u120 u121 u122 u123 u124 u125 u126 u127 u128 u129 u130 u131 u132 u133 u134 u135 u136 u137 u138 u139 u140 u141 u142 u143 u144 u145 u146 u147 u148 u149 u150 : Value}
    (hi : i < n) (hn : n < 1000000) (hc : c < 2)
    (ha0 : w.cell? ⟨b1, o1 + i * 2 + c, none⟩ = some (.complex .f32 x y)) (ha1 : w.cell? ⟨b2, o2 + i * 2 + c, none⟩ = some (.complex .f32 x y))
    (hQ : ∀ (w' : World) (x133 x134 x135 x136 x137 x138 x139 x140 x141 x142 x143 x144 x145 x146 : Value), Below w.heap.size w w' → R ⟨List.toArray (u0 :: u1 :: u2 :: u3 :: u4 :: u5 :: u6 :: u7 :: u8 :: u9 :: u10 :: u11 :: u12 :: u13 :: u14 :: u15 :: .slice (some ⟨b1, o1, none⟩) n c1 :: u17 :: .slice (some ⟨b2, o2, none⟩) n c2 :: u19 :: .int .i64 (i : Int) :: .int .i64 (c : Int) :: u22 :: u23 :: u24 :: u25 :: u26 :: u27 :: u28 :: u29 :: u30 :: u31 :: u32 :: u33 :: u34 :: u35 :: u36 :: u37 :: u38 :: u39 :: u40 :: u41 :: u42 :: u43 :: u44 :: u45 :: u46 :: u47 :: u48 :: u49 :: u50 :: u51 :: u52 :: u53 :: u54 :: u55 :: u56 :: u57 :: u58 :: u59 :: u60 :: u61 :: u62 :: u63 :: u64 :: u65 :: u66 :: u67 :: u68 :: u69 :: u70 :: u71 :: u72 :: u73 :: u74 :: u75 :: u76 :: u77 :: u78 :: u79 :: u80 :: u81 :: u82 :: u83 :: u84 :: u85 :: u86 :: u87 :: u88 :: u89 :: u90 :: u91 :: u92 :: u93 :: u94 :: u95 :: u96 :: u97 :: u98 :: u99 :: u100 :: u101 :: u102 :: u103 :: u104 :: u105 :: u106 :: u107 :: u108 :: u109 :: u110 :: u111 :: u112 :: u113 :: u114 :: u115 :: u116 :: u117 :: u118 :: u119 :: u120 :: u121 :: u122 :: u123 :: u124 :: u125 :: u126 :: u127 :: u128 :: u129 :: u130 :: u131 :: u132 :: x133 :: x134 :: x135 :: x136 :: x137 :: x138 :: x139 :: x140 :: x141 :: x142 :: x143 :: x144 :: x145 :: x146 :: .bool false :: u148 :: u149 :: u150 :: []), []⟩ w') :
    Code.wp Tryz.prog frregion30 (Only R) ⟨List.toArray (u0 :: u1 :: u2 :: u3 :: u4 :: u5 :: u6 :: u7 :: u8 :: u9 :: u10 :: u11 :: u12 :: u13 :: u14 :: u15 :: .slice (some ⟨b1, o1, none⟩) n c1 :: u17 :: .slice (some ⟨b2, o2, none⟩) n c2 :: u19 :: .int .i64 (i : Int) :: .int .i64 (c : Int) :: u22 :: u23 :: u24 :: u25 :: u26 :: u27 :: u28 :: u29 :: u30 :: u31 :: u32 :: u33 :: u34 :: u35 :: u36 :: u37 :: u38 :: u39 :: u40 :: u41 :: u42 :: u43 :: u44 :: u45 :: u46 :: u47 :: u48 :: u49 :: u50 :: u51 :: u52 :: u53 :: u54 :: u55 :: u56 :: u57 :: u58 :: u59 :: u60 :: u61 :: u62 :: u63 :: u64 :: u65 :: u66 :: u67 :: u68 :: u69 :: u70 :: u71 :: u72 :: u73 :: u74 :: u75 :: u76 :: u77 :: u78 :: u79 :: u80 :: u81 :: u82 :: u83 :: u84 :: u85 :: u86 :: u87 :: u88 :: u89 :: u90 :: u91 :: u92 :: u93 :: u94 :: u95 :: u96 :: u97 :: u98 :: u99 :: u100 :: u101 :: u102 :: u103 :: u104 :: u105 :: u106 :: u107 :: u108 :: u109 :: u110 :: u111 :: u112 :: u113 :: u114 :: u115 :: u116 :: u117 :: u118 :: u119 :: u120 :: u121 :: u122 :: u123 :: u124 :: u125 :: u126 :: u127 :: u128 :: u129 :: u130 :: u131 :: u132 :: u133 :: u134 :: u135 :: u136 :: u137 :: u138 :: u139 :: u140 :: u141 :: u142 :: u143 :: u144 :: u145 :: u146 :: u147 :: u148 :: u149 :: u150 :: []), []⟩ w := by
  conv => arg 2; whnf
  have hneq := words_neq
  have hc2 : (c : Int) < 2 := by omega
  have hc0 : (0 : Int) ≤ c := by omega
  have hi2 : (i : Int) < (n : Int) := by omega
  have hi0 : (0 : Int) ≤ i := by omega
  have lta := World.block_lt_of_cell? w _ ha0
  have ltb := World.block_lt_of_cell? w _ ha1
  have Gha0 := Lib.hid ha0; have Gha1 := Lib.hid ha1
  have tok1 : True := trivial
  have tok2 : True := trivial
  have hkw : Below w.heap.size w w.drew := (Below.refl _ _).drew
  go_region_held3 (fun w' => w'.cell? ⟨b1, o1 + i * 2 + c, none⟩ = some (.complex .f32 x y) ∧ w'.cell? ⟨b2, o2 + i * 2 + c, none⟩ = some (.complex .f32 x y)) (first | (with_reducible exact ⟨ha0, ha1⟩) | (simp [go_sem, ha0, ha1, lta, ltb]; done)) (first
    | (go_simp; go_at_call 18; have _t := tok1; (with_reducible refine (bits_spec x y w.drew).mono ?_); rintro e1 W1 ⟨_, rfl, rfl, hbx1⟩; have hbb1 : Below w.heap.size w W1 := hkw.trans hbx1; have ha0 := (hbb1.cell (World.block_lt_of_cell? w _ Gha0.out)).trans Gha0.out; have ha1 := (hbb1.cell (World.block_lt_of_cell? w _ Gha1.out)).trans Gha1.out; have lta := World.block_lt_of_cell? W1 _ ha0; have ltb := World.block_lt_of_cell? W1 _ ha1; clear tok1 _t)
    | (go_simp; go_at_call 18; have _t := tok2; (with_reducible refine (bits_spec x y W1).mono ?_); rintro e1 W2 ⟨_, rfl, rfl, hbx2⟩; have hbb2 : Below w.heap.size w W2 := hbb1.trans (hbx2.mono hbb1.size); have ha0 := (hbb2.cell (World.block_lt_of_cell? w _ Gha0.out)).trans Gha0.out; have ha1 := (hbb2.cell (World.block_lt_of_cell? w _ Gha1.out)).trans Gha1.out; have lta := World.block_lt_of_cell? W2 _ ha0; have ltb := World.block_lt_of_cell? W2 _ ha1; clear tok2 _t))
  all_goals
    show R _ _
    exact hQ _ _ _ _ _ _ _ _ _ _ _ _ _ _ _ hbb2

end Go.Proofs.YtohnlmfmpflbpaaGreat
