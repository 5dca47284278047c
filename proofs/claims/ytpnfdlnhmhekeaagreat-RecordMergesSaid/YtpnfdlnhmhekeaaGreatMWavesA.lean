/- The plain data of a sweep; fewWaves; waves: the program's sweep and the reference's one. Conditions: at most 1000 elements each. -/
import Derived.Test.YtpnfdlnhmhekeaaGreatMLists
set_option linter.unusedSimpArgs false
set_option linter.unusedVariables false
set_option linter.all false
namespace Go.Proofs.YtpnfdlnhmhekeaaGreat
open Go.RowKit

/-- The plain data of a sweep. -/
structure Wd where
  fr : List Rt
  a : List (List (List Rt))
  b : List (List (List Rt))
abbrev StackIn (w : World) (v : Value) (l : List (List (List Rt))) : Prop := SlOf (CellSl (CellSl RatC 3) 1) 1 w v l
def WdRep (w : World) (v : Value) (x : Wd) : Prop := ∃ vf va vb, v = .agg #[vf, va, vb] ∧ SlOf RatC 3 w vf x.fr ∧ StackIn w va x.a ∧ StackIn w vb x.b
def fewB (x : Wd) : Bool := decide (x.fr.length ≤ 6) && littleB x.a 6 && littleB x.b 6
theorem stackIn_firm : Firm (CellSl (CellSl RatC 3) 1) := CellSl.firm (CellSl.firm rat_firm)
theorem WdRep.below {w w' : World} {B : Nat} {v : Value} {x : Wd} (h : WdRep w v x) (hb : Below B w w') (hB : w.heap.size ≤ B) : WdRep w' v x := by
  obtain ⟨vf, va, vb, e, h1, h2, h3⟩ := h
  exact ⟨vf, va, vb, e, h1.firm rat_firm hb hB, h2.firm stackIn_firm hb hB, h3.firm stackIn_firm hb hB⟩
theorem SlOf.open {α : Type} {R : World → List Value → α → Prop} {size : Nat} {w : World} {v : Value} {l : List α} (h : SlOf R size w v l) : ∃ a n c, v = .slice a n c ∧ Hid (l.length = n) := by
  obtain ⟨a, c, rfl, _⟩ := h
  exact ⟨a, _, c, rfl, rfl⟩

set_option maxRecDepth 100000 in
set_option maxHeartbeats 1600000 in
theorem fewWaves_spec (v : Value) (x : Wd) (w : World) (h : WdRep w v x) :
    Calls Tryz.prog 6 #[v] w (Ret w fun _ v' => v' = .bool (fewB x)) := by
  obtain ⟨vf, va, vb, rfl, hf, ha, hb⟩ := h
  obtain ⟨af, nf, cf, rfl, HNF⟩ := hf.open
  obtain ⟨aa, na, ca, rfl, HNA⟩ := ha.open
  obtain ⟨ab, nb, cb, rfl, HNB⟩ := hb.open
  have HA := Lib.hid ha
  have HB := Lib.hid hb
  unfold fewB
  rw [HNF.out]
  clear hf ha hb
  by_cases h6 : nf ≤ 6
  · rw [decide_eq_true h6]
    have HLA := Lib.hid (fun w h => little_spec (.slice aa na ca) x.a 6 w h)
    have HLB := Lib.hid (fun w h => little_spec (.slice ab nb cb) x.b 6 w h)
    generalize littleB x.a 6 = ta at *
    generalize littleB x.b 6 = tb at *
    cases ta
    · go_enter Tryz.func6, Tryz.ntmps6
      go_upto_region 1 with (fail)
      obtain ⟨W, hW, o1, hB, hS⟩ := boxes1 w 25 [.slice af nf cf, .slice aa na ca, .slice ab nb cb]
      rw [← hW]
      clear hW
      have fo1 := o1.free; have co10 := o1.cell 0 _ rfl; have co11 := o1.cell 1 _ rfl; have co12 := o1.cell 2 _ rfl
      go_wp2_with fail
      refine (HLA.out W (HA.out.firm stackIn_firm hB (Nat.le_refl _))).mono ?_
      rintro e W1 ⟨_, rfl, rfl, hb1⟩
      clear co10 co11 co12 fo1
      have hsW1 : W.heap.size ≤ W1.heap.size := hb1.size; have hB := hB.trans (hb1.mono hB.size); have o1 := o1.below hb1 o1.lt; have fo1 := o1.free; have co10 := o1.cell 0 _ rfl; have co11 := o1.cell 1 _ rfl; have co12 := o1.cell 2 _ rfl
      go_wp2_with fail
      go_ret
      exact ⟨_, rfl, rfl, hB⟩
    · go_enter Tryz.func6, Tryz.ntmps6
      go_upto_region 1 with (fail)
      obtain ⟨W, hW, o1, hB, hS⟩ := boxes1 w 25 [.slice af nf cf, .slice aa na ca, .slice ab nb cb]
      rw [← hW]
      clear hW
      have fo1 := o1.free; have co10 := o1.cell 0 _ rfl; have co11 := o1.cell 1 _ rfl; have co12 := o1.cell 2 _ rfl
      go_wp2_with fail
      refine (HLA.out W (HA.out.firm stackIn_firm hB (Nat.le_refl _))).mono ?_
      rintro e W1 ⟨_, rfl, rfl, hb1⟩
      clear co10 co11 co12 fo1
      have hsW1 : W.heap.size ≤ W1.heap.size := hb1.size; have hB := hB.trans (hb1.mono hB.size); have o1 := o1.below hb1 o1.lt; have fo1 := o1.free; have co10 := o1.cell 0 _ rfl; have co11 := o1.cell 1 _ rfl; have co12 := o1.cell 2 _ rfl
      go_wp2_with fail
      refine (HLB.out W1 (HB.out.firm stackIn_firm hB (Nat.le_refl _))).mono ?_
      rintro e W2 ⟨_, rfl, rfl, hb2⟩
      have hB2 := hB.trans (hb2.mono hB.size)
      clear co10 co11 co12 fo1
      go_wp2_with fail
      go_ret
      exact ⟨_, rfl, rfl, hB2⟩
  · rw [decide_eq_false h6]
    go_enter Tryz.func6, Tryz.ntmps6
    go_upto_region 1 with (fail)
    obtain ⟨W, hW, o1, hB, hS⟩ := boxes1 w 25 [.slice af nf cf, .slice aa na ca, .slice ab nb cb]
    rw [← hW]
    clear hW
    have fo1 := o1.free; have co10 := o1.cell 0 _ rfl; have co11 := o1.cell 1 _ rfl; have co12 := o1.cell 2 _ rfl
    go_wp2_with fail
    go_ret
    exact ⟨_, rfl, rfl, hB⟩
end Go.Proofs.YtpnfdlnhmhekeaaGreat
