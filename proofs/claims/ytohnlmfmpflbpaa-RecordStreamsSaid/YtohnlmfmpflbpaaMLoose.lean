/- Slices of frames whose empty rows may lie anywhere: small, Valid, Encode. Conditions: none. -/
import Derived.Test.YtohnlmfmpflbpaaMLawA
set_option linter.unusedSimpArgs false
set_option linter.unusedVariables false
set_option linter.all false
namespace Go.Proofs.Ytohnlmfmpflbpaa
open Go.RowKit

/-- At `a` lie the frames fs; a frame without mates, or without pairs, may bear whatever address there. -/
def FrsL (w : World) (a : Option Addr) (fs : List Fr) : Prop := ∀ (i : Nat) (f : Fr), fs[i]? = some f → ∃ (b o : Nat) (am : Option Addr) (lm cm : Nat) (ap : Option Addr) (lp cp : Nat), a = some ⟨b, o, none⟩ ∧
  w.cell? ⟨b, o + i * 7, none⟩ = some (.int .u32 (f.seq : Int)) ∧ w.cell? ⟨b, o + i * 7 + 1, none⟩ = some (.int .i64 f.point) ∧ w.cell? ⟨b, o + i * 7 + 2, none⟩ = some (.int .i64 f.source) ∧ w.cell? ⟨b, o + i * 7 + 3, none⟩ = some (.int .i64 f.turn) ∧
  w.cell? ⟨b, o + i * 7 + 4, none⟩ = some (.float .f32 f.scale) ∧ w.cell? ⟨b, o + i * 7 + 5, none⟩ = some (.slice am lm cm) ∧ w.cell? ⟨b, o + i * 7 + 6, none⟩ = some (.slice ap lp cp) ∧
  f.mates.length = lm ∧ f.pairs.length = lp ∧ lm ≤ 9223372036854775807 ∧ lp ≤ 9223372036854775807 ∧
  (FrRep w (.agg #[.int .u32 (f.seq : Int), .int .i64 f.point, .int .i64 f.source, .int .i64 f.turn, .float .f32 f.scale, .slice am lm cm, .slice ap lp cp]) f ∨ lm = 0 ∨ lp = 0)
theorem FrsL.below {B : Nat} {w w' : World} {a : Option Addr} {fs : List Fr} (h : FrsL w a fs) (hb : Below B w w') (hB : w.heap.size ≤ B) : FrsL w' a fs := fun i f hf => by
  obtain ⟨b, o, am, lm, cm, ap, lp, cp, e, q0, q1, q2, q3, q4, q5, q6, e1, e2, e3, e4, hr⟩ := h i f hf
  have hlt := World.block_lt_of_cell? w _ q0
  have hc : ∀ k, w'.cell? ⟨b, k, none⟩ = w.cell? ⟨b, k, none⟩ := fun k => hb.cell (Nat.lt_of_lt_of_le hlt hB)
  exact ⟨b, o, am, lm, cm, ap, lp, cp, e, by rw [hc, q0], by rw [hc, q1], by rw [hc, q2], by rw [hc, q3], by rw [hc, q4], by rw [hc, q5], by rw [hc, q6], e1, e2, e3, e4, hr.imp (fun h => h.below hb hB) id⟩

set_option maxRecDepth 100000 in
set_option maxHeartbeats 1600000 in
theorem small_loose (a : Option Addr) (n c m : Nat) (fs : List Fr) (w : World) (h : FrsL w a fs) (hn : fs.length = n) (hc : n ≤ c) (hcm : c ≤ 9223372036854775807) :
    Calls Try.prog 13 #[.slice a n c, .int .i64 (m : Int)] w (Ret w fun _ v' => v' = .bool (smallB fs m)) := by
  have Hn := Lib.hid hn
  by_cases hnm : m < n
  · have hr : smallB fs m = false := by unfold smallB; rw [decide_eq_false (by omega)]; rfl
    rw [hr]
    clear hn hr
    go_enter Try.func13, Try.ntmps13
    go_wp2_with fail
    go_ret
    exact ⟨_, rfl, rfl, Below.refl _ _⟩
  · have hr : fs.all few = true → smallB fs m = true := fun hl => by unfold smallB; rw [decide_eq_true (by omega), hl]; rfl
    have HR := Lib.hid hr
    have HN := Lib.hid (fun k f h hf => small_no (fs := fs) (m := m) (k := k) (f := f) h hf)
    clear hn hr
    generalize smallB fs m = r at *
    go_enter Try.func13, Try.ntmps13
    go_wp2_with fail
    go_loopw [13] (fun iv wr => ∃ k : Nat, k ≤ n ∧ iv = .int .i64 (k : Int) ∧ Below w.heap.size w wr ∧ Hid ((fs.take k).all few = true)) (fun i _ => n - (intOf i).toNat)
    case atStart => exact ⟨0, Nat.zero_le _, rfl, Below.refl _ _, rfl⟩
    case round =>
      obtain ⟨k, hk, rfl, hB, hall⟩ := hrel
      by_cases hlt : k < n
      · obtain ⟨f, hf⟩ : ∃ f, fs[k]? = some f := ⟨_, List.getElem?_eq_getElem (by have := Hn.out; omega)⟩
        obtain ⟨b, o, am, lm, cm, ap, lp, cp, rfl, q0, q1, q2, q3, q4, q5, q6, e1, e2, -⟩ := (h.below hB (Nat.le_refl _)) k f hf
        have hfew : few f = (decide (lp ≤ 20) && decide (lm ≤ 20)) := by unfold few; rw [e1, e2]
        have HF := Lib.hid hfew
        have HK := Lib.hid hf
        clear hfew e1 e2 hf
        have hst := run_store_float
        go_upto_region 6 with (fail)
        obtain ⟨V, hV, ob, hBV, hSV⟩ := boxes1 wr 29 [.int .u32 (f.seq : Int), .int .i64 f.point, .int .i64 f.source, .int .i64 f.turn, .float .f32 f.scale, .slice am lm cm, .slice ap lp cp]
        rw [← hV]
        clear hV q0 q1 q2 q3 q4 q5 q6 hst
        have hB := hB.trans (hBV.mono hB.size)
        have fob := ob.free; have cob0 := ob.cell 0 _ rfl; have cob1 := ob.cell 1 _ rfl; have cob2 := ob.cell 2 _ rfl; have cob3 := ob.cell 3 _ rfl; have cob4 := ob.cell 4 _ rfl; have cob5 := ob.cell 5 _ rfl; have cob6 := ob.cell 6 _ rfl
        by_cases h1 : 20 < lp
        · have hr : r = false := HN.out k f HK.out (by rw [HF.out, decide_eq_false (by omega)]; rfl)
          subst hr
          go_wp2_with fail
          go_ret
          exact ⟨_, rfl, rfl, hB⟩
        · by_cases h2 : 20 < lm
          · have hr : r = false := HN.out k f HK.out (by rw [HF.out, decide_eq_false (p := lm ≤ 20) (by omega), Bool.and_false])
            subst hr
            go_wp2_with fail
            go_ret
            exact ⟨_, rfl, rfl, hB⟩
          · go_wp2_with fail
            go_roundw
            case rel => exact ⟨k + 1, by omega, by go_num, hB, by show _ = _; rw [List.take_add_one, HK.out, List.all_append, hall.out]; simp [HF.out]; omega⟩
            case measure => simp [intOf]; omega
      · obtain rfl : k = n := by omega
        have hr : r = true := HR.out (by have := hall.out; rwa [List.take_of_length_le (by have := Hn.out; omega)] at this)
        subst hr
        go_wp2_with fail
        go_ret
        exact ⟨_, rfl, rfl, hB⟩

set_option maxRecDepth 100000 in
set_option maxHeartbeats 1600000 in
theorem valid_empty (seq point source turn : Int) (scale : Nat) (am ap : Option Addr) (lm cm lp cp : Nat) (w : World) (hl : lm = 0 ∨ lp = 0) (h1 : lm ≤ 9223372036854775807) (h2 : lp ≤ 9223372036854775807) :
    Calls Try.prog 15 #[.agg #[.int .u32 seq, .int .i64 point, .int .i64 source, .int .i64 turn, .float .f32 scale, .slice am lm cm, .slice ap lp cp]] w (Ret w fun _ v' => v' = .bool false) := by
  cases h1 : inR (lp : Int) 1 8
  · have H1 := Lib.hid h1
    go_enter Try.func15, Try.ntmps15
    go_upto_region 1 with (fail)
    obtain ⟨W, hW, o1, hB, hS⟩ := boxes1 w 29 [.int .u32 seq, .int .i64 point, .int .i64 source, .int .i64 turn, .float .f32 scale, .slice am lm cm, .slice ap lp cp]
    rw [← hW]
    clear hW
    have fo1 := o1.free; have co10 := o1.cell 0 _ rfl; have co11 := o1.cell 1 _ rfl; have co12 := o1.cell 2 _ rfl; have co13 := o1.cell 3 _ rfl; have co14 := o1.cell 4 _ rfl; have co15 := o1.cell 5 _ rfl; have co16 := o1.cell 6 _ rfl
    go_wp2_with (first | (go_at_call 34; refine (inRange_spec _ _ _ _).mono ?_; rintro e w' ⟨rfl, rfl⟩))
    go_ret
    exact ⟨_, rfl, rfl, hB⟩
  · have hne : ((lm : Int) != (lp : Int)) = true := by
      unfold inR at h1
      rw [decide_eq_true_eq] at h1
      simp
      omega
    have H1 := Lib.hid h1
    go_enter Try.func15, Try.ntmps15
    go_upto_region 1 with (fail)
    obtain ⟨W, hW, o1, hB, hS⟩ := boxes1 w 29 [.int .u32 seq, .int .i64 point, .int .i64 source, .int .i64 turn, .float .f32 scale, .slice am lm cm, .slice ap lp cp]
    rw [← hW]
    clear hW
    have fo1 := o1.free; have co10 := o1.cell 0 _ rfl; have co11 := o1.cell 1 _ rfl; have co12 := o1.cell 2 _ rfl; have co13 := o1.cell 3 _ rfl; have co14 := o1.cell 4 _ rfl; have co15 := o1.cell 5 _ rfl; have co16 := o1.cell 6 _ rfl
    go_wp2_with (first | (go_at_call 34; refine (inRange_spec _ _ _ _).mono ?_; rintro e w' ⟨rfl, rfl⟩))
    go_ret
    exact ⟨_, rfl, rfl, hB⟩

set_option maxRecDepth 100000 in
set_option maxHeartbeats 1600000 in
theorem encode_empty (seq point source turn : Int) (scale : Nat) (am ap : Option Addr) (lm cm lp cp : Nat) (w : World) (hl : lm = 0 ∨ lp = 0) (h1 : lm ≤ 9223372036854775807) (h2 : lp ≤ 9223372036854775807) :
    Calls Try.prog 14 #[.agg #[.int .u32 seq, .int .i64 point, .int .i64 source, .int .i64 turn, .float .f32 scale, .slice am lm cm, .slice ap lp cp]] w (Ret w fun _ v' => v' = .tuple #[.slice none 0 0, .int .i64 1]) := by
  go_enter Try.func14, Try.ntmps14
  go_upto_region 1 with (fail)
  obtain ⟨W, hW, o1, hB, hS⟩ := boxes1 w 29 [.int .u32 seq, .int .i64 point, .int .i64 source, .int .i64 turn, .float .f32 scale, .slice am lm cm, .slice ap lp cp]
  rw [← hW]
  clear hW
  have fo1 := o1.free; have co10 := o1.cell 0 _ rfl; have co11 := o1.cell 1 _ rfl; have co12 := o1.cell 2 _ rfl; have co13 := o1.cell 3 _ rfl; have co14 := o1.cell 4 _ rfl; have co15 := o1.cell 5 _ rfl; have co16 := o1.cell 6 _ rfl
  go_wp2_with fail
  refine (valid_empty seq point source turn scale am ap lm cm lp cp W hl h1 h2).mono ?_
  rintro e W1 ⟨_, rfl, rfl, hb1⟩
  clear co10 co11 co12 co13 co14 co15 co16 fo1
  go_wp2_with fail
  go_ret2
  exact ⟨_, rfl, rfl, hB.trans (hb1.mono hB.size)⟩
end Go.Proofs.Ytohnlmfmpflbpaa
