/- Rows of what was found, read. Conditions: none. -/
import Derived.Test.YtohnlmfmpflbpaaGreatMScanA
set_option linter.unusedSimpArgs false
set_option linter.unusedVariables false
set_option linter.all false
namespace Go.Proofs.YtohnlmfmpflbpaaGreat
open Go.RowKit

theorem flatMap_at {α β : Type} {f : α → List β} {m : Nat} : ∀ {l : List α}, (∀ x ∈ l, (f x).length = m) → ∀ {i j : Nat} {x : α} {y : β}, l[i]? = some x → (f x)[j]? = some y → (l.flatMap f)[i * m + j]? = some y
  | [], _, _, _, _, _, h, _ => by simp at h
  | a :: t, hl, 0, j, x, y, h, hj => by
    simp only [List.getElem?_cons_zero, Option.some.injEq] at h
    subst h
    rw [List.flatMap_cons, Nat.zero_mul, Nat.zero_add, List.getElem?_append_left (List.getElem?_eq_some_iff.1 hj).1]
    exact hj
  | a :: t, hl, i + 1, j, x, y, h, hj => by
    rw [List.getElem?_cons_succ] at h
    have ha := hl a List.mem_cons_self
    rw [List.flatMap_cons, List.getElem?_append_right (by rw [ha, Nat.succ_mul]; omega), ha, show (i + 1) * m + j - m = i * m + j by rw [Nat.succ_mul]; omega]
    exact flatMap_at (fun x hx => hl x (List.mem_cons_of_mem _ hx)) h hj

theorem row_shape {w : World} {base n size : Nat} {T : TypeId} {xs : List Value} {v : Value} (h : w.ownsRow base T size v n xs) : ∃ (a : Option Addr) (c : Nat), v = .slice a n c ∧ n ≤ c ∧ c ≤ 9223372036854775807 := by
  rcases h.2 with ⟨rfl, rfl⟩ | ⟨g, cap, cur, rfl, _, _, h1, h2, _⟩
  · exact ⟨none, 0, rfl, Nat.le_refl _, by omega⟩
  · exact ⟨_, cap, rfl, h1, by unfold maxLen at h2; exact h2⟩

theorem row_at {w : World} {base n size c : Nat} {T : TypeId} {xs : List Value} {a : Option Addr} (h : w.ownsRow base T size (.slice a n c) n xs) (hn : 0 < n) : ∃ g, a = some ⟨g, 0, none⟩ ∧ ∀ (j : Nat) (u : Value), xs[j]? = some u → w.cell? ⟨g, j, none⟩ = some u := by
  obtain ⟨g, cap, e, _, _⟩ := World.ownsRow.form h hn
  injection e with e _ _
  subst e
  refine ⟨g, rfl, fun j u hj => ?_⟩
  have := h.cells (g := g) rfl j u hj
  rw [Addr.add_lit, Nat.zero_add] at this
  exact this

theorem found_len {B : Nat} {w : World} {xs : List Hit} (h : Hits B w xs) : ∀ x ∈ xs, (foundCells x).length = 8 := fun x hx => by
  obtain ⟨_, _, _, _, _, _, e⟩ := (h x hx).1.open
  unfold foundCells
  rw [e]
  rfl

set_option maxRecDepth 100000 in
set_option maxHeartbeats 2000000 in
/-- Two gaps compared. -/
theorem gap_neq (a b : Int) (w : World) : (binOp .neq 59 (.agg #[.int .i64 a, .int .i64 b]) (.agg #[.int .i64 a, .int .i64 b])).run Tryz.prog w = .ok (.bool false) w := by
  rw [run_neq_struct]
  simp [go_sem, Tryz.underlying59, Tryz.underlying3]

end Go.Proofs.YtohnlmfmpflbpaaGreat
