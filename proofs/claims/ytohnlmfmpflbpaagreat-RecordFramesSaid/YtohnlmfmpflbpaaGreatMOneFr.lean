/- A frame's value, opened. Conditions: none. A frame in a box, as a slice of one frame. Conditions: none. -/
import Derived.Test.YtohnlmfmpflbpaaGreatMLawA
import Derived.Test.YtohnlmfmpflbpaaGreatMRec
set_option linter.unusedSimpArgs false
set_option linter.unusedVariables false
set_option linter.all false
namespace Go.Proofs.YtohnlmfmpflbpaaGreat
open Go.RowKit

/-- A valid frame's value is its cells. -/
theorem FrRep.open {w : World} {v : Value} {f : Fr} (h : FrRep w v f) : ∃ (am : Option Addr) (lm cm : Nat) (ap : Option Addr) (lp cp : Nat), v = .agg #[.int .u32 (f.seq : Int), .int .i64 f.point, .int .i64 f.source, .int .i64 f.turn, .float .f32 f.scale, .slice am lm cm, .slice ap lp cp] := by
  obtain ⟨vm, vp, rfl, hm, hp, _⟩ := h
  obtain ⟨am, lm, cm, rfl, _⟩ := hm.any
  obtain ⟨ap, lp, cp, rfl, _⟩ := hp.any
  exact ⟨am, lm, cm, ap, lp, cp, rfl⟩
end Go.Proofs.YtohnlmfmpflbpaaGreat

namespace Go.Proofs.YtohnlmfmpflbpaaGreat
open Go.RowKit

/-- A box that holds a frame, as a slice of one. -/
theorem frs_one {w : World} {g : Nat} {f : Fr} {am ap : Option Addr} {lm cm lp cp : Nat} (o : Own w 27 g [.int .u32 (f.seq : Int), .int .i64 f.point, .int .i64 f.source, .int .i64 f.turn, .float .f32 f.scale, .slice am lm cm, .slice ap lp cp])
    (h : FrRep w (.agg #[.int .u32 (f.seq : Int), .int .i64 f.point, .int .i64 f.source, .int .i64 f.turn, .float .f32 f.scale, .slice am lm cm, .slice ap lp cp]) f) : FrsA w (some ⟨g, 0, none⟩) [f] := fun i f' hi => by
  have hi0 : i = 0 := by
    have := (List.getElem?_eq_some_iff.1 hi).1
    simpa using this
  subst hi0
  simp only [List.getElem?_cons_zero, Option.some.injEq] at hi
  subst hi
  exact ⟨g, 0, am, lm, cm, ap, lp, cp, rfl, o.cell 0 _ rfl, o.cell 1 _ rfl, o.cell 2 _ rfl, o.cell 3 _ rfl, o.cell 4 _ rfl, o.cell 5 _ rfl, o.cell 6 _ rfl, h⟩
theorem small_one (f : Fr) : smallB [f] 1 = few f := by simp [smallB]
end Go.Proofs.YtohnlmfmpflbpaaGreat
