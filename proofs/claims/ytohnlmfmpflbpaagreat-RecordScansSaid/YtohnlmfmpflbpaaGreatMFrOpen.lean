/- A frame's value, opened. Conditions: none. -/
import Derived.Test.YtohnlmfmpflbpaaGreatMRec
set_option linter.unusedSimpArgs false
set_option linter.unusedVariables false
set_option linter.all false
namespace Go.Proofs.YtohnlmfmpflbpaaGreat
open Go.RowKit

/-- A valid frame's value is its cells. -/
theorem FrRep.open {w : World} {v : Value} {f : Fr} (h : FrRep w v f) : ∃ (am : Option Addr) (lm cm : Nat) (ap : Option Addr) (lp cp : Nat), v = .agg #[.int .u32 (f.seq : Int), .int .i64 f.point, .int .i64 f.source, .int .i64 f.turn, .float .f32 f.scale, .slice am lm cm, .slice ap lp cp] := by
  obtain ⟨vm, vp, rfl, hm, hp, _⟩ := h
  obtain ⟨am, lm, cm, rfl, _⟩ := hm.any
  obtain ⟨ap, lp, cp, rfl, _⟩ := hp.any
  exact ⟨am, lm, cm, ap, lp, cp, rfl⟩
end Go.Proofs.YtohnlmfmpflbpaaGreat
