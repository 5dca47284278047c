/- The statements' helpers: Of, example. Conditions: the denominator is above 0. small. Conditions: none. -/
import Derived.Test.YtohnlmfmpflbpaaGreatMDecA
import Derived.Test.YtohnlmfmpflbpaaGreatMEnc
import Derived.Test.YtohnlmfmpflbpaaGreatMNumD
import Derived.Test.YtohnlmfmpflbpaaGreatMRec
set_option linter.unusedSimpArgs false
set_option linter.unusedVariables false
set_option linter.all false
namespace Go.Proofs.YtohnlmfmpflbpaaGreat
open Go.RowKit

set_option maxRecDepth 100000 in
set_option maxHeartbeats 1600000 in
theorem of_spec (a b : Int) (d : Nat) (w : World) (ha1 : -9223372036854775808 ≤ a) (ha2 : a ≤ 9223372036854775807) (hc1 : -9223372036854775808 ≤ b) (hc2 : b ≤ 9223372036854775807) (hd0 : 0 < d) (hd : d ≤ 9223372036854775807) :
    Calls Tryz.prog 27 #[.agg #[.int .i64 a, .int .i64 b, .int .i64 (d : Int)]] w (Ret w fun w' v' => NumRep w' v' (cq a b d)) := by
  have hdz : ((d : Int) == 0) = false := by simp; omega
  have hn := fun w => new_spec a b d w ha1 ha2 hc1 hc2 hd0 hd
  have HN := Lib.hid hn
  clear hn
  go_enter Tryz.func27, Tryz.ntmps27
  go_upto_region 1 with (fail)
  obtain ⟨W, hW, o1, o2, hB, hS⟩ := boxes2 w 77 70 [.int .i64 a, .int .i64 b, .int .i64 (d : Int)] [.bool false, .slice none 0 0, .bool false, .slice none 0 0, .slice none 0 0]
  rw [← hW]
  clear hW
  have fo1 := o1.free; have co10 := o1.cell 0 _ rfl; have co11 := o1.cell 1 _ rfl; have co12 := o1.cell 2 _ rfl
  go_wp2_with fail
  refine (HN.out W).mono ?_
  rintro e W1 ⟨_, rfl, ⟨u, rfl, hu⟩, hb1⟩
  obtain ⟨t0, t2, b1, b3, b4, m1, n1, m3, n3, m4, n4, rfl⟩ := hu.open
  clear co10 co11 co12 fo1
  have hsW1 : W.heap.size ≤ W1.heap.size := hb1.size; have hB := hB.trans (hb1.mono hB.size); have o2 := o2.below hb1 o2.lt
  go_upto_region 4 with (fail)
  obtain ⟨V, hV, o3, hBV, hSV⟩ := boxes1 W1 70 [.bool t0, .slice b1 m1 n1, .bool t2, .slice b3 m3 n3, .slice b4 m4 n4]
  rw [← hV]
  clear hV
  have hsV : W1.heap.size ≤ V.heap.size := hBV.size; have hB := hB.trans (hBV.mono hB.size); have o2 := o2.below hBV o2.lt; have hu := hu.below hBV (Nat.le_refl _)
  have hne : W1.heap.size ≠ w.heap.size + 1 := by omega
  generalize W1.heap.size = g3 at *
  have fo2 := o2.free; have co20 := o2.cell 0 _ rfl; have co21 := o2.cell 1 _ rfl; have co22 := o2.cell 2 _ rfl; have co23 := o2.cell 3 _ rfl; have co24 := o2.cell 4 _ rfl; have fo3 := o3.free; have co30 := o3.cell 0 _ rfl; have co31 := o3.cell 1 _ rfl; have co32 := o3.cell 2 _ rfl; have co33 := o3.cell 3 _ rfl; have co34 := o3.cell 4 _ rfl
  go_wp2_with fail
  exact bodyPost_ret (by simp [results, Tryz.results27, go_sem, co20, co21, co22, co23, co24]) rfl (num_end hu o2 hB (by omega) rfl)

/-- The chapter's first frame. -/
def exFr : Fr := ⟨1, 0, 1, 0, 1056964608, [3], [⟨2, -1, 0, 4⟩]⟩

set_option maxRecDepth 100000 in
set_option maxHeartbeats 1600000 in
theorem example_spec (w : World) : Calls Tryz.prog 23 #[] w (Ret w fun w' v' => FrRep w' v' exFr) := by
  have hst : ∀ (a : Addr) (k : FloatKind) (b : Nat) (m : Mode) (w : World), (store a (.float k b) m).run Tryz.prog w = stored Tryz.prog w a (.float k b) m := fun a k b m w => run_store Tryz.prog w a _ m rfl
  go_enter Tryz.func23, Tryz.ntmps23
  go_wp2_with fail
  obtain ⟨W, hW, o1, o2, o3, hB, hS⟩ := boxes3 w 27 3 90 [.int .u32 1, .int .i64 0, .int .i64 1, .int .i64 0, .float .f32 1056964608, .slice (some ⟨w.heap.size + 1, 0, none⟩) 1 1, .slice (some ⟨w.heap.size + 1 + 1, 0, none⟩) 1 1] [.int .i64 3] [.int .i16 2, .int .i16 (-1), .int .i16 0, .int .i16 4]
  rw [← hW]
  clear hW
  have fo1 := o1.free; have co10 := o1.cell 0 _ rfl; have co11 := o1.cell 1 _ rfl; have co12 := o1.cell 2 _ rfl; have co13 := o1.cell 3 _ rfl; have co14 := o1.cell 4 _ rfl; have co15 := o1.cell 5 _ rfl; have co16 := o1.cell 6 _ rfl
  refine bodyPost_ret (v := .agg #[.int .u32 1, .int .i64 0, .int .i64 1, .int .i64 0, .float .f32 1056964608, .slice (some ⟨w.heap.size + 1, 0, none⟩) 1 1, .slice (some ⟨w.heap.size + 1 + 1, 0, none⟩) 1 1]) (by simp [results, Tryz.results23, go_sem, co10, co11, co12, co13, co14, co15, co16]) rfl ⟨_, rfl, ⟨_, _, rfl, ?_, ?_, ?_⟩, hB⟩
  · refine .inr ⟨w.heap.size + 1, 0, 1, rfl, Nat.le_refl _, by unfold maxLen; omega, fun i hi => ?_⟩
    have hi0 : i = 0 := by simp [exFr] at hi; exact hi
    subst hi0
    exact o2.cell 0 _ rfl
  · refine .inr ⟨w.heap.size + 1 + 1, 0, 1, rfl, Nat.le_refl _, by unfold maxLen; omega, fun i p hp j x hj => ?_⟩
    have hi0 : i = 0 := by
      have := (List.getElem?_eq_some_iff.1 hp).1
      simp [exFr] at this; exact this
    subst hi0
    simp only [exFr, List.getElem?_cons_zero, Option.some.injEq] at hp
    subst hp
    have h3 := o3.cell j x hj
    simpa using h3
  · constructor
    · decide
    · unfold I64 exFr; simp
    · unfold I64 exFr; simp
    · unfold I64 exFr; simp
    · decide
    · intro x hx; simp [exFr] at hx; subst hx; unfold I64; omega
    · intro p hp; simp [exFr] at hp; subst hp; unfold Pr.ok I16; simp
theorem exFr_valid : exFr.valid = true := by
  unfold Fr.valid exFr
  have h1 : scaleOK 1056964608 = true := by kernel_rfl
  simp [h1, inR, badMates]
end Go.Proofs.YtohnlmfmpflbpaaGreat

namespace Go.Proofs.YtohnlmfmpflbpaaGreat
open Go.RowKit

/-- At `a` lie the frames fs. -/
def FrsA (w : World) (a : Option Addr) (fs : List Fr) : Prop := ∀ (i : Nat) (f : Fr), fs[i]? = some f → ∃ (b o : Nat) (am : Option Addr) (lm cm : Nat) (ap : Option Addr) (lp cp : Nat), a = some ⟨b, o, none⟩ ∧
  w.cell? ⟨b, o + i * 7, none⟩ = some (.int .u32 (f.seq : Int)) ∧ w.cell? ⟨b, o + i * 7 + 1, none⟩ = some (.int .i64 f.point) ∧ w.cell? ⟨b, o + i * 7 + 2, none⟩ = some (.int .i64 f.source) ∧ w.cell? ⟨b, o + i * 7 + 3, none⟩ = some (.int .i64 f.turn) ∧
  w.cell? ⟨b, o + i * 7 + 4, none⟩ = some (.float .f32 f.scale) ∧ w.cell? ⟨b, o + i * 7 + 5, none⟩ = some (.slice am lm cm) ∧ w.cell? ⟨b, o + i * 7 + 6, none⟩ = some (.slice ap lp cp) ∧
  FrRep w (.agg #[.int .u32 (f.seq : Int), .int .i64 f.point, .int .i64 f.source, .int .i64 f.turn, .float .f32 f.scale, .slice am lm cm, .slice ap lp cp]) f
theorem FrsA.below {B : Nat} {w w' : World} {a : Option Addr} {fs : List Fr} (h : FrsA w a fs) (hb : Below B w w') (hB : w.heap.size ≤ B) : FrsA w' a fs := fun i f hf => by
  obtain ⟨b, o, am, lm, cm, ap, lp, cp, e, q0, q1, q2, q3, q4, q5, q6, hr⟩ := h i f hf
  have hlt := World.block_lt_of_cell? w _ q0
  have hc : ∀ k, w'.cell? ⟨b, k, none⟩ = w.cell? ⟨b, k, none⟩ := fun k => hb.cell (Nat.lt_of_lt_of_le hlt hB)
  exact ⟨b, o, am, lm, cm, ap, lp, cp, e, by rw [hc, q0], by rw [hc, q1], by rw [hc, q2], by rw [hc, q3], by rw [hc, q4], by rw [hc, q5], by rw [hc, q6], hr.below hb hB⟩
/-- Lengths in a frame's value. -/
theorem FrRep.lens {w : World} {x0 x1 x2 x3 x4 : Value} {am ap : Option Addr} {lm cm lp cp : Nat} {f : Fr} (h : FrRep w (.agg #[x0, x1, x2, x3, x4, .slice am lm cm, .slice ap lp cp]) f) : f.mates.length = lm ∧ f.pairs.length = lp := by
  obtain ⟨m, p, e, hm, hp, _⟩ := h
  injection e with e
  injection e with e
  simp only [List.cons.injEq, and_true] at e
  obtain ⟨_, _, _, _, _, rfl, rfl⟩ := e
  obtain ⟨_, _, _, e1, h1, _⟩ := hm.any
  obtain ⟨_, _, _, e2, h2, _⟩ := hp.any
  injection e1 with _ e1 _
  injection e2 with _ e2 _
  have a1 := h1.out
  have a2 := h2.out
  rw [List.length_map] at a1
  exact ⟨by omega, by omega⟩

def few (f : Fr) : Bool := decide (f.pairs.length ≤ 20) && decide (f.mates.length ≤ 20)
/-- What small reports. -/
def smallB (fs : List Fr) (m : Nat) : Bool := decide (fs.length ≤ m) && fs.all few

theorem small_no {fs : List Fr} {m k : Nat} {f : Fr} (h : fs[k]? = some f) (hf : few f = false) : smallB fs m = false := by
  unfold smallB
  have : fs.all few = false := by
    rw [List.all_eq_false]
    exact ⟨f, List.mem_of_getElem? h, by rw [hf]; simp⟩
  rw [this, Bool.and_false]

set_option maxRecDepth 100000 in
set_option maxHeartbeats 1600000 in
theorem small_spec (a : Option Addr) (n c m : Nat) (fs : List Fr) (w : World) (h : FrsA w a fs) (hn : fs.length = n) (hc : n ≤ c) (hcm : c ≤ 9223372036854775807) :
    Calls Tryz.prog 5 #[.slice a n c, .int .i64 (m : Int)] w (Ret w fun _ v' => v' = .bool (smallB fs m)) := by
  have Hn := Lib.hid hn
  by_cases hnm : m < n
  · have hr : smallB fs m = false := by unfold smallB; rw [decide_eq_false (by omega)]; rfl
    rw [hr]
    clear hn hr
    go_enter Tryz.func5, Tryz.ntmps5
    go_wp2_with fail
    go_ret
    exact ⟨_, rfl, rfl, Below.refl _ _⟩
  · have hr : fs.all few = true → smallB fs m = true := fun hl => by unfold smallB; rw [decide_eq_true (by omega), hl]; rfl
    have HR := Lib.hid hr
    have HN := Lib.hid (fun k f h hf => small_no (fs := fs) (m := m) (k := k) (f := f) h hf)
    clear hn hr
    generalize smallB fs m = r at *
    go_enter Tryz.func5, Tryz.ntmps5
    go_wp2_with fail
    go_loopw [13] (fun iv wr => ∃ k : Nat, k ≤ n ∧ iv = .int .i64 (k : Int) ∧ Below w.heap.size w wr ∧ Hid ((fs.take k).all few = true)) (fun i _ => n - (intOf i).toNat)
    case atStart => exact ⟨0, Nat.zero_le _, rfl, Below.refl _ _, rfl⟩
    case round =>
      obtain ⟨k, hk, rfl, hB, hall⟩ := hrel
      by_cases hlt : k < n
      · obtain ⟨f, hf⟩ : ∃ f, fs[k]? = some f := ⟨_, List.getElem?_eq_getElem (by have := Hn.out; omega)⟩
        obtain ⟨b, o, am, lm, cm, ap, lp, cp, rfl, q0, q1, q2, q3, q4, q5, q6, hrep⟩ := (h.below hB (Nat.le_refl _)) k f hf
        obtain ⟨e1, e2⟩ := hrep.lens
        have hfew : few f = (decide (lp ≤ 20) && decide (lm ≤ 20)) := by unfold few; rw [e1, e2]
        have HF := Lib.hid hfew
        have HK := Lib.hid hf
        clear hfew e1 e2 hrep hf
        have hst := run_store_float
        go_upto_region 6 with (fail)
        obtain ⟨V, hV, ob, hBV, hSV⟩ := boxes1 wr 27 [.int .u32 (f.seq : Int), .int .i64 f.point, .int .i64 f.source, .int .i64 f.turn, .float .f32 f.scale, .slice am lm cm, .slice ap lp cp]
        rw [← hV]
        clear hV q0 q1 q2 q3 q4 q5 q6 hst
        have hB := hB.trans (hBV.mono hB.size)
        have fob := ob.free; have cob0 := ob.cell 0 _ rfl; have cob1 := ob.cell 1 _ rfl; have cob2 := ob.cell 2 _ rfl; have cob3 := ob.cell 3 _ rfl; have cob4 := ob.cell 4 _ rfl; have cob5 := ob.cell 5 _ rfl; have cob6 := ob.cell 6 _ rfl
        by_cases h1 : 20 < lp
        · have hr : r = false := HN.out k f HK.out (by rw [HF.out, decide_eq_false (by omega)]; rfl)
          subst hr
          go_wp2_with fail
          go_ret
          exact ⟨_, rfl, rfl, hB⟩
        · by_cases h2 : 20 < lm
          · have hr : r = false := HN.out k f HK.out (by rw [HF.out, decide_eq_false (p := lm ≤ 20) (by omega), Bool.and_false])
            subst hr
            go_wp2_with fail
            go_ret
            exact ⟨_, rfl, rfl, hB⟩
          · go_wp2_with fail
            go_roundw
            case rel => exact ⟨k + 1, by omega, by go_num, hB, by show _ = _; rw [List.take_add_one, HK.out, List.all_append, hall.out]; simp [HF.out]; omega⟩
            case measure => simp [intOf]; omega
      · obtain rfl : k = n := by omega
        have hr : r = true := HR.out (by have := hall.out; rwa [List.take_of_length_le (by have := Hn.out; omega)] at this)
        subst hr
        go_wp2_with fail
        go_ret
        exact ⟨_, rfl, rfl, hB⟩
end Go.Proofs.YtohnlmfmpflbpaaGreat
