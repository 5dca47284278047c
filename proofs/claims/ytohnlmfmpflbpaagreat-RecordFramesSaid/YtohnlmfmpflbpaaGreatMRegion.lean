/- A region of a body, by its number; a post that bars every way out but the plain one. -/
import Derived.Test.YtohnlmfmpflbpaaGreatProg
import Derived.WalkKit
set_option linter.unusedSimpArgs false
set_option linter.unusedVariables false
set_option linter.all false
namespace Go.Proofs.YtohnlmfmpflbpaaGreat
open Go.RowKit
/-- The region of a number in a body. -/
def findRegion (r : Nat) : Code → Option Code
  | .region i ops b => if i = r then some (.region i ops b) else none
  | .seq a b => match findRegion r a with
    | some c => some c
    | none => findRegion r b
  | .loop c => findRegion r c
  | .block _ c => findRegion r c
  | .scope c => findRegion r c
  | .cond _ a b => match findRegion r a with
    | some c => some c
    | none => findRegion r b
  | _ => none
/-- A post that bars every way out but the plain one. -/
def Only (R : Act → World → Prop) : Exit → Act → World → Prop
  | .normal, a, w => R a w
  | _, _, _ => False
theorem only_mono {P : Program} {c : Code} {R : Act → World → Prop} {Q : Exit → Act → World → Prop} {a : Act} {w : World} (h : c.wp P (Only R) a w) (hQ : ∀ a w, R a w → Q .normal a w) : c.wp P Q a w :=
  Code.wp_mono (fun e a w h => by
    cases e
    case normal => exact hQ a w h
    all_goals exact absurd h (by simp [Only])) h
theorem only_of {P : Program} {c : Code} {Q : Exit → Act → World → Prop} {a : Act} {w : World} (h : c.wp P (Only fun a w => Q .normal a w) a w) : c.wp P Q a w := only_mono h fun _ _ h => h
end Go.Proofs.YtohnlmfmpflbpaaGreat
