/- A range over a function of this program, where each element brings a fact of the memory at hand (that its frame reads as it should). Conditions: the loop is the outermost one. -/
import Derived.Test.YtohnlmfmpflbpaaGreatMRec
import Derived.RangeFuncNested
import Derived.RangeFuncBound
import Derived.RangeFuncCalls
import Derived.RangeFuncLeaves
import Derived.WalkKit
import Derived.OwnWalkIn
import Derived.TacticsInMore
import Derived.LoopNIn
import Derived.LoopIn
set_option linter.unusedSimpArgs false
set_option linter.unusedVariables false
set_option linter.all false
namespace Go.Proofs.YtohnlmfmpflbpaaGreat
open Go.RowKit

/-- The blocks below n0, and block g, stay. -/
structure KeepG (n0 g : Nat) (w w' : World) : Prop where
  size : w.heap.size ≤ w'.heap.size
  blk : ∀ k, k < n0 ∨ k = g → k < w.heap.size → w'.heap[k]? = w.heap[k]?
theorem KeepG.refl (n0 g : Nat) (w : World) : KeepG n0 g w w := ⟨Nat.le_refl _, fun _ _ _ => rfl⟩
theorem KeepG.trans {n0 g : Nat} {a b c : World} (h : KeepG n0 g a b) (k : KeepG n0 g b c) : KeepG n0 g a c :=
  ⟨Nat.le_trans h.size k.size, fun i hi hl => (k.blk i hi (Nat.lt_of_lt_of_le hl h.size)).trans (h.blk i hi hl)⟩
theorem KeepG.of_below {n0 g : Nat} {w w' : World} (h : Below w.heap.size w w') : KeepG n0 g w w' := ⟨h.size, fun k _ hl => h.block k hl⟩
theorem KeepG.setCell {n0 g : Nat} (w : World) {p : Addr} (h1 : n0 ≤ p.block) (h2 : p.block ≠ g) (u : Value) : KeepG n0 g w (w.setCell p u) :=
  ⟨by simp [World.setCell], fun k hk _ => Below.heap_setCell _ _ _ _ (by omega)⟩
theorem KeepG.put {n0 g : Nat} (w : World) {l : Nat} (h1 : n0 ≤ l) (h2 : l ≠ g) (o : Obj) : KeepG n0 g w (w.putObj l o) :=
  ⟨by simp, fun k hk _ => World.putObj_heap_other (by omega)⟩
theorem KeepG.grown {n0 g : Nat} {w w' : World} {row : Option Nat} (hg : w.grownBy w' row) (h : ∀ k, row = some k → n0 ≤ k ∧ k ≠ g) : KeepG n0 g w w' :=
  ⟨hg.size, fun k hk hl => hg.block k hl (fun e => by have := h k e.symm; omega)⟩

/-- An iterator's contract: whenever it yields, `Px` holds of what has come, of the next element and of the memory. -/
def Yields {α : Type} (n gf : Nat) (lb : Array Value) (encs : α → Array Value) (Px : List α → α → World → Prop) (n0 g0 : Nat) (S Sp : List α → Prop) (w : World) : Prop :=
  ∀ (l : Nat) (J Jx : List α → World → Prop) (W : World), Below w.heap.size w W → AbidesFrom W.heap.size J → AbidesFrom W.heap.size Jx →
    (∀ pre x W1, J pre W1 → Px pre x W1 → YieldAt Fence.wide (n - 1) Tryz.prog l (encs x) W1 fun e W' => (e = .returned (.bool true) ∧ J (pre ++ [x]) W' ∧ KeepG n0 g0 W1 W') ∨ (e = .returned (.bool false) ∧ Jx (pre ++ [x]) W')) →
    J [] W → CallsIn Fence.wide n Tryz.prog gf (#[.func (.yield l) #[] #[]] ++ lb) W fun e W' => (∃ v, e = .returned v) ∧ ((∃ xs, S xs ∧ J xs W') ∨ (∃ pre, Sp pre ∧ Jx pre W'))

/-- How a round is left. -/
def RoundOut {α : Type} (n0 g0 : Nat) (I : List α → World → Prop) (Ix : Code → List α → World → Prop) (xs : List α) (W : World) : Exit → Act → World → Prop
  | .normal, _, W' => KeepsOthers W W' ∧ KeepG n0 g0 W W' ∧ I xs W'
  | .ret, _, W' => KeepsOthers W W' ∧ Ix .ret xs W'
  | .exit id, _, W' => KeepsOthers W W' ∧ Ix (.exit id) xs W'
  | _, _, _ => False

/-- The loop's record and the block for its deferred calls. -/
def Book (D : Nat) (r : Loop) (W : World) : Prop := W.heap[D + 1]? = some (.loop r) ∧ W.heap[D]? = some (.deferred (some []))
theorem Book.put {D : Nat} {r : Loop} {W : World} (h : Book D r W) (r' : Loop) : Book D r' (W.putObj (D + 1) (.loop r')) :=
  ⟨World.putObj_heap_same (Array.getElem?_eq_some_iff.1 h.1).1, (World.putObj_heap_other (by omega)).trans h.2⟩
theorem Book.keeps {D : Nat} {r : Loop} {W W' : World} (h : Book D r W) (k : KeepsOthers W W') : Book D r W' := ⟨k.same _ _ h.1 rfl, k.same _ _ h.2 rfl⟩
theorem Book.abides {D B : Nat} {r : Loop} {W W' : World} {row : Option Nat} (h : Book D r W) (hg : W.grownBy W' row) (hr : ∀ k, row = some k → B ≤ k ∧ ∃ o : Obj, W.heap[k]? = some o ∧ o.isWalk = true) : Book D r W' :=
  ⟨(grownBy_keeps hg (fun k e => (hr k e).2) h.1 rfl).trans h.1, (grownBy_keeps hg (fun k e => (hr k e).2) h.2 rfl).trans h.2⟩
/-- The loop: an invariant of its own, and one walk of its body. -/
theorem range_wp {α : Type} {g : Operand} {ps : Array Tmp} {assign body : Code} {Q : Exit → Act → World → Prop} {a : Act} {w w0 : World} {n gf n0 g0 : Nat} {lb : Array Value} {encs : α → Array Value} {Px : List α → α → World → Prop} {S Sp : List α → Prop}
    (hg : a.eval g = .func (.func gf) #[] lb) (eg : ∀ args w, (callFunc gf args).run Tryz.prog w = .ok (.enter gf args) w) (hseq : Yields (n - 1) gf lb encs Px n0 g0 S Sp w0) (hb0 : Below w0.heap.size w0 w) (hn0 : n0 ≤ w.heap.size) (hg0 : g0 < w.heap.size) (hps : ∀ x, (encs x).size = ps.size)
    (I : List α → World → Prop) (Ix : Code → List α → World → Prop) (hI : OwnFrom w.heap.size I) (hIx : ∀ c, OwnFrom w.heap.size (Ix c)) (h0 : I [] w)
    (hassign : ∀ (l : Nat) (pre : List α) (x : α) (W : World) (K : Act → World → Prop), I pre W → Px pre x W → w.heap.size < W.heap.size → (∀ a1 W1, KeepsOthers W W1 → KeepG n0 g0 W W1 →
        (∀ W2, (w.heap.size ≤ l ∧ ∃ o o', W1.heap[l]? = some o ∧ o.isCells = false ∧ W2 = W1.putObj l o') → body.wpIn (Fence.wide.inRound l) (n - 1 - 1) Tryz.prog (RoundOut n0 g0 I Ix (pre ++ [x]) W2) a1 W2) → K a1 W1) →
      assign.wpIn (Fence.wide.inRound l) (n - 1 - 1) Tryz.prog (Exit.then K (fun _ _ _ => False)) { tmps := (ps.zip (encs x)).foldl (fun t (p, v) => t.setIfInBounds p v) a.tmps, defers := [] } W)
    (hdone : ∀ (D : Nat) (xs : List α) (W : World), w.heap.size ≤ D → S xs → I xs W → W.heap[D]? = some (.deferred (some [])) → Q .normal { a with defers := { target := .collected D, args := #[] } :: a.defers } W)
    (hstop : ∀ (D : Nat) (c : Code) (pre : List α) (W : World), w.heap.size ≤ D → Sp pre → Ix c pre W → W.heap[D]? = some (.deferred (some [])) → c.wpIn Fence.wide n Tryz.prog Q { a with defers := { target := .collected D, args := #[] } :: a.defers } W) :
    (Code.rangeFunc g ps assign body).wpIn Fence.wide n Tryz.prog Q a w := by
  refine wpIn_rangeFunc fun fn _ => ?_
  obtain ⟨rec, hrec⟩ : ∃ rec : LoopState → Option Code → Loop, ∀ st pe, rec st pe = { state := st, pending := pe, fn, tmps := a.tmps, params := ps, assign, body, defers := w.heap.size } := ⟨fun st pe => { state := st, pending := pe, fn, tmps := a.tmps, params := ps, assign, body, defers := w.heap.size }, fun _ _ => rfl⟩
  obtain ⟨W1, hW1⟩ : ∃ W1, W1 = (w.alloc (.deferred (some []))).alloc (.loop (rec .ready none)) := ⟨_, rfl⟩
  have hbk : Book w.heap.size (rec .ready none) W1 := by
    subst hW1
    refine ⟨?_, (Below.heap_alloc _ _ _ (by simp)).trans (World.alloc_heap_new w _)⟩
    have := World.alloc_heap_new (w.alloc (.deferred (some []))) (.loop (rec .ready none))
    rwa [World.size_alloc] at this
  have hgrow : Below w.heap.size w W1 := by subst hW1; exact ((Below.refl _ w).alloc (Nat.le_refl _) _).alloc (by simp) _
  have hsz : w.heap.size + 2 = W1.heap.size := by subst hW1; simp
  have hi1 : I [] W1 := by subst hW1; exact hI.alloc _ (hI.alloc _ h0)
  have ent : (Instr.enterLoop fn a.tmps ps assign body Fence.wide.round).run Tryz.prog w = .ok (w.heap.size + 1, [{ target := .collected w.heap.size, args := #[] }]) W1 := by
    subst hW1; rw [hrec]; exact run_enterLoop_outer _ _ _ _ _
  clear hW1
  refine ⟨_, _, W1, { target := .fn (.func gf) lb, args := #[.func (.yield (w.heap.size + 1)) #[] #[]] }, W1, gf, #[.func (.yield (w.heap.size + 1)) #[] #[]] ++ lb, W1, ent, ?_, fun _ _ => trivial, by simp [invoke, go_sem, eg], (fun h => by cases h), ?_⟩
  · simp only [resolve, hg]; simp [go_sem]
  have hcells : ∀ {A : World} {row : Option Nat}, (∀ k, row = some k → W1.heap.size ≤ k ∧ ∃ o : Obj, A.heap[k]? = some o ∧ o.isWalk = true) → ∀ k, row = some k → w.heap.size ≤ k ∧ ∃ o : Obj, A.heap[k]? = some o ∧ o.isCells = false := fun hr k e => by
    obtain ⟨h1, o, h2, h3⟩ := hr k e
    exact ⟨by omega, o, h2, Obj.not_cells_of_walk h3⟩
  refine (hseq (w.heap.size + 1) (fun pre W => I pre W ∧ Book w.heap.size (rec .ready none) W) (fun pre W => ∃ c, Ix c pre W ∧ Book w.heap.size (rec .done (some c)) W) W1 (hb0.trans (hgrow.mono hb0.size))
    (fun s A B row hs hg' hr => ⟨hI s A B row hs.1 hg' (hcells hr), hs.2.abides hg' hr⟩) (fun s A B row hs hg' hr => by obtain ⟨c, hc, hk⟩ := hs; exact ⟨c, hIx c s A B row hc hg' (hcells hr), hk.abides hg' hr⟩) ?_ ⟨hi1, hbk⟩).mono ?_
  · rintro pre x W ⟨hi, hk⟩ hp
    have hlt : w.heap.size < W.heap.size := by have := (Array.getElem?_eq_some_iff.1 hk.1).1; omega
    have hy := run_yield (P := Tryz.prog) (args := encs x) hk.1 (by rw [hrec]; exact hps x)
    rw [hrec] at hy
    refine ⟨fn, _, assign, body, hy, roundIn_of_wpIn trivial (hassign _ pre x W _ hi hp hlt fun a1 W2 hk2 hb2 hbody => ?_)⟩
    have hbk2 := hk.keeps hk2
    refine ⟨_, run_beginRound hbk2.1 (by rw [hrec]), ?_⟩
    have hbk3 := hbk2.put { rec .ready none with state := .busy }
    have hb3 : KeepG n0 g0 W (W2.putObj (w.heap.size + 1) (.loop { rec .ready none with state := .busy })) := hb2.trans (KeepG.put _ (by omega) (by omega) _)
    refine wpIn_mono (hbody _ ⟨by omega, _, _, hbk2.1, rfl, rfl⟩) ?_
    generalize W2.putObj (w.heap.size + 1) (.loop { rec .ready none with state := .busy }) = W3 at *
    rintro e a3 W4 hout
    have hend : ∀ (j : Option Code), KeepsOthers W3 W4 → (Instr.endRound (w.heap.size + 1) j).run Tryz.prog W4 = .ok (.bool j.isNone) (W4.putObj (w.heap.size + 1) (.loop (rec (if j.isNone then .ready else .done) j))) ∧ Book w.heap.size (rec (if j.isNone then .ready else .done) j) (W4.putObj (w.heap.size + 1) (.loop (rec (if j.isNone then .ready else .done) j))) ∧ W4.heap[w.heap.size + 1]? = some (.loop { rec .ready none with state := .busy }) := fun j hk4 => by
      have hbk4 := hbk3.keeps hk4
      refine ⟨?_, hbk4.put _, hbk4.1⟩
      have := run_endRound (P := Tryz.prog) j hbk4.1
      simp only [hrec] at this ⊢
      exact this
    cases e with
    | normal =>
      obtain ⟨hk4, hb4, hi4⟩ := hout
      obtain ⟨he, hbk5, hl4⟩ := hend none hk4
      exact ⟨_, _, he, .inl ⟨rfl, ⟨hI.putObj _ hi4 (by omega) hl4 rfl, hbk5⟩, (hb3.trans hb4).trans (KeepG.put _ (by omega) (by omega) _)⟩⟩
    | ret =>
      obtain ⟨hk4, hi4⟩ := hout
      obtain ⟨he, hbk5, hl4⟩ := hend (some .ret) hk4
      exact ⟨_, _, he, .inr ⟨rfl, .ret, (hIx _).putObj _ hi4 (by omega) hl4 rfl, hbk5⟩⟩
    | exit id =>
      obtain ⟨hk4, hi4⟩ := hout
      obtain ⟨he, hbk5, hl4⟩ := hend (some (.exit id)) hk4
      exact ⟨_, _, he, .inr ⟨rfl, .exit id, (hIx _).putObj _ hi4 (by omega) hl4 rfl, hbk5⟩⟩
    | goto t => exact hout.elim
    | panic c => exact hout.elim
    | outgrown => exact hout.elim
  · rintro e W2 ⟨⟨v, rfl⟩, (⟨xs, hS, hi, hk⟩ | ⟨pre, hSp, c, hi, hk⟩)⟩
    · have he := run_endLoop (P := Tryz.prog) hk.1 (by rw [hrec]; simp)
      have hp : (rec .ready none).pending = none := by rw [hrec]
      rw [hp] at he
      exact ⟨none, _, he, hdone _ xs _ (Nat.le_refl _) hS (hI.putObj _ hi (by omega) hk.1 rfl) ((World.putObj_heap_other (by omega)).trans hk.2)⟩
    · have he := run_endLoop (P := Tryz.prog) hk.1 (by rw [hrec]; simp)
      have hp : (rec .done (some c)).pending = some c := by rw [hrec]
      rw [hp] at he
      exact ⟨some c, _, he, hstop _ c pre _ (Nat.le_refl _) hSp ((hIx c).putObj _ hi (by omega) hk.1 rfl) ((World.putObj_heap_other (by omega)).trans hk.2)⟩
end Go.Proofs.YtohnlmfmpflbpaaGreat
