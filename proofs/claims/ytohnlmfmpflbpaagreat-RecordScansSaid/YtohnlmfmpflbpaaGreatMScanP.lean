/- What a scan of bytes finds, plain. Conditions: none. -/
import Derived.Test.YtohnlmfmpflbpaaGreatMCrc
import Derived.Test.YtohnlmfmpflbpaaGreatMDecF
set_option linter.unusedSimpArgs false
set_option linter.unusedVariables false
set_option linter.all false
namespace Go.Proofs.YtohnlmfmpflbpaaGreat
open Go.RowKit

/-- The frames found from a place on. -/
def scanFrom (l : List UInt8) (i : Nat) : List (Nat × Fr) :=
  if i < l.length then
    if decErr (l.drop i) = 0 then (i, decFr (l.drop i)) :: scanFrom l (i + headLen (l.drop i)) else scanFrom l (i + 1)
  else []
termination_by l.length - i
decreasing_by
  · unfold headLen; omega
  · omega

theorem scan_end {l : List UInt8} {i : Nat} (h : l.length ≤ i) : scanFrom l i = [] := by
  rw [scanFrom, if_neg (by omega)]
theorem scan_hit {l : List UInt8} {i : Nat} (h : i < l.length) (he : decErr (l.drop i) = 0) : scanFrom l i = (i, decFr (l.drop i)) :: scanFrom l (i + headLen (l.drop i)) := by
  rw [scanFrom, if_pos h, if_pos he]
theorem scan_miss {l : List UInt8} {i : Nat} (h : i < l.length) (he : decErr (l.drop i) ≠ 0) : scanFrom l i = scanFrom l (i + 1) := by
  rw [scanFrom, if_pos h, if_neg he]
theorem headLen_le {l : List UInt8} (he : decErr l = 0) : headLen l ≤ l.length ∧ 3 ≤ l.length := by
  have h0 : headErr l = 0 := by
    by_cases h : headErr l = 0
    · exact h
    · unfold decErr at he; rw [if_pos h] at he; exact absurd he h
  unfold headErr at h0
  split at h0
  · cases h0
  · split at h0
    · cases h0
    · omega

/-- What a scan yields: the place, the frame's value, the frame. -/
abbrev Hit := Nat × Value × Fr
def hkey (x : Hit) : Nat × Fr := (x.1, x.2.2)
/-- The next of what a scan yields, and that its value reads as it should. -/
def NextHit (l : List UInt8) (n0 : Nat) (pre : List Hit) (x : Hit) (W : World) : Prop := (∃ rest, scanFrom l 0 = pre.map hkey ++ hkey x :: rest) ∧ FrRep W x.2.1 x.2.2 ∧ FrTy n0 W x.2.1
theorem RowTy.below {B B' : Nat} {w w' : World} {v : Value} {T : TypeId} (h : RowTy B w v T) (hb : Below w.heap.size w w') (hB : B' ≤ B) : RowTy B' w' v T := fun b e => by
  obtain ⟨h1, cs, fr, h2⟩ := h b e
  exact ⟨by omega, cs, fr, by rw [hb.block b (Array.getElem?_eq_some_iff.1 h2).1]; exact h2⟩
theorem FrTy.below {B B' : Nat} {w w' : World} {u : Value} (h : FrTy B w u) (hb : Below w.heap.size w w') (hB : B' ≤ B) : FrTy B' w' u := by
  obtain ⟨x0, x1, x2, x3, x4, m, p, e, h1, h2⟩ := h
  exact ⟨x0, x1, x2, x3, x4, m, p, e, h1.below hb hB, h2.below hb hB⟩
def encHit (x : Hit) : Array Value := #[.int .i64 (x.1 : Int), x.2.1]
end Go.Proofs.YtohnlmfmpflbpaaGreat
