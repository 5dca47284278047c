/- The closure of Scan: a gap is noted. Conditions: none. -/
import Derived.Test.YtohnlmfmpflbpaaGreatMAll
import Derived.Laws.Cover3
set_option linter.unusedSimpArgs false
set_option linter.unusedVariables false
set_option linter.all false
namespace Go.Proofs.YtohnlmfmpflbpaaGreat
open Go.RowKit

theorem info_gap : (Tryz.prog.info? 59).map (fun i => (i.zero, i.size, i.bytes)) = some (some (.agg #[.int .i64 0, .int .i64 0]), 2, 16) := by kernel_rfl
theorem info_found : (Tryz.prog.info? 56).map (fun i => (i.zero, i.size, i.bytes)) = some (some (.agg #[.int .i64 0, .int .u32 0, .int .i64 0, .int .i64 0, .int .i64 0, .float .f32 0, .slice none 0 0, .slice none 0 0]), 8, 96) := by kernel_rfl

/-- Blocks but g and one row stay. -/
structure Kept2 (g : Nat) (row : Option Nat) (w w' : World) : Prop where
  os : w'.os = w.os
  tape : w'.tape = w.tape
  output : w'.output = w.output
  size : w.heap.size ≤ w'.heap.size
  block : ∀ j, j < w.heap.size → j ≠ g → some j ≠ row → w'.heap[j]? = w.heap[j]?
theorem Kept2.refl (g : Nat) (row : Option Nat) (w : World) : Kept2 g row w w := ⟨rfl, rfl, rfl, Nat.le_refl _, fun _ _ _ _ => rfl⟩
theorem kept2_of {g i : Nat} {u : Value} {row : Option Nat} {w w' : World} (hg : w.grownBy w' row) : Kept2 g row w (w'.setCell ⟨g, i, none⟩ u) :=
  ⟨hg.os, hg.tape, hg.output, by have := hg.size; simpa [World.setCell] using this, fun j hj hne hr => by rw [Below.heap_setCell _ _ _ _ hne]; exact hg.block j hj hr⟩
theorem Kept2.own {g g' : Nat} {row : Option Nat} {w w' : World} {E : TypeId} {cs : List Value} (h : Kept2 g row w w') (o : Own w E g' cs) (hne : g' ≠ g) (hr : some g' ≠ row) : Own w' E g' cs := by
  have hl := o.lt
  unfold Own at *
  rw [h.block g' hl hne hr]; exact o

/-- One gap, if there is one. -/
def gap1 (e t : Nat) : List (Nat × Nat) := if e < t then [(e, t)] else []
def gapCells (x : Nat × Nat) : List Value := [.int .i64 (x.1 : Int), .int .i64 (x.2 : Int)]

set_option maxRecDepth 100000 in
set_option maxHeartbeats 1600000 in
theorem gap_spec (g6 g5 base e t : Nat) (vg : Value) (k : Nat) (xs : List Value) (w : World) (o6 : Own w 3 g6 [.int .i64 (e : Int)]) (o5 : Own w 52 g5 [vg]) (hr : w.ownsRow base 59 2 vg k xs) (h5 : g5 < base) (hk : k < 1000000000) (hbs : base ≤ w.heap.size) :
    Calls Tryz.prog 46 #[.int .i64 (t : Int), .pointer (some ⟨g6, 0, none⟩), .pointer (some ⟨g5, 0, none⟩)] w (fun en w' => (∃ v, en = .returned v) ∧ ∃ vg', Own w' 52 g5 [vg'] ∧ w'.ownsRow base 59 2 vg' (k + (gap1 e t).length) (xs ++ (gap1 e t).flatMap gapCells) ∧ Kept2 g5 vg.ownBlock w w') := by
  have q6 := o6.cell 0 _ rfl
  by_cases h : e < t
  · have hg1 : gap1 e t = [(e, t)] := by unfold gap1; rw [if_pos h]
    rw [hg1]
    have q5 := o5.cell 0 _ rfl
    have hb5 : Below w.heap.size w (w.alloc (.cells #[.int .i64 (e : Int), .int .i64 (t : Int)] 59)) := (Below.refl _ _).alloc (Nat.le_refl _) _
    have hle : base ≤ (w.alloc (.cells #[.int .i64 (e : Int), .int .i64 (t : Int)] 59)).heap.size := by have := hb5.size; omega
    have hrA := World.ownsRow.alloc hr (.cells #[.int .i64 (e : Int), .int .i64 (t : Int)] 59)
    have ocs := own_new w 59 [.int .i64 (e : Int), .int .i64 (t : Int)]
    obtain ⟨i0, hi, hz0, hz1, hz2⟩ := info_parts info_gap
    have Hg1 := Lib.hid hg1
    clear hg1
    go_enter Tryz.func46, Tryz.ntmps46
    go_wp2_with (at_builtin; refine wpList_append_own _ rfl (.tmp 7) (.tmp 11) 52 rfl base 59 i0 _ 2 16 Tryz.underlying52 hi hz0 hz1 hz2 rfl (by omega) vg k xs rfl hrA ⟨w.heap.size, 0, none⟩ 1 1 [.int .i64 (e : Int), .int .i64 (t : Int)] rfl rfl (fun j u hj => by rw [Addr.add_lit, Nat.zero_add]; exact ocs.cell j u hj) (fun u hu => by simp only [List.mem_cons, List.not_mem_nil, or_false] at hu; rcases hu with rfl | rfl <;> rfl) (by unfold maxLen; omega) (by omega) hle ?_; intro v' w' hm hg _; have o5' := (o5.alloc (.cells #[.int .i64 (e : Int), .int .i64 (t : Int)] 59)).keptRow hrA hg h5; have f5' := o5'.free; have q5' := o5'.cell 0 _ rfl; obtain ⟨gv, cv, rfl, hgv, hgv2⟩ := World.ownsRow.form hm (by omega))
    go_end0
    refine ⟨⟨_, rfl⟩, _, o5'.set 0 _, ?_, ?_⟩
    · refine row_far ?_ h5
      simpa [gapCells] using hm
    · exact kept2_of (grown_trans (World.grownBy_alloc _ _ _) hg)
  · have hg1 : gap1 e t = [] := by unfold gap1; rw [if_neg h]
    rw [hg1]
    go_enter Tryz.func46, Tryz.ntmps46
    go_wp2_with fail
    go_end0
    refine ⟨⟨_, rfl⟩, _, o5, by simpa using hr, Kept2.refl _ _ _⟩
end Go.Proofs.YtohnlmfmpflbpaaGreat
