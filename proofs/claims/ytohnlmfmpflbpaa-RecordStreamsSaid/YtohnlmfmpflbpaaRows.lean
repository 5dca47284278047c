/-
  No cell of these rows narrows 'for every input' (looked for: loops, veiled, ifaces, maps, wideKeys, modest, calm, conditions, laid).
  DERIVED. THE GIVEN ROWS OF THIS SEAT. 4 by the template 'for every input the law returns true; each argument reads behind the call as it read before'; 0 by the template 'total and deterministic' (their statements: YtohnlmfmpflbpaaTotals.lean).
  GIVEN WITH THE SEED: the statements are not yours to turn. If you find one false, say at which input.
  Laid BY PROGRAM, IN A SANDBOX (cutbox-rows.mjs): the forced cells as the released guide's own fill.sh prints them over the translation e0bc508115a5c731… (all of the seat's roots in one cut). By AI agents, Wed Nov 11 2026. No macro, syntax, notation, axiom, sorry.
-/
import Derived.Test.YtohnlmfmpflbpaaChecked
import GoSem.Claim
import GoSem.ClaimJoined
import GoSem.ClaimMapViews
import Derived.JoinedTies
import Derived.KernelRfl
namespace Go.Proofs.Ytohnlmfmpflbpaa
/- THE CELL 'sum', in the pinned program and in every row, IS THE sha256 OF THE DUMP (.gsa) THAT YtohnlmfmpflbpaaProg.lean LOADS. Nothing in Lean hashes anything: it is a label: what it is worth is what the hold of that sum in a sandbox is worth. -/
noncomputable def Try.pinned : Pinned := { name := "ytohnlmfmpflbpaa", sum := "e0bc508115a5c7316fca078944b7dddf3c18a356a7b3e246b1cbcad983ca637f", checked := Try.checked }
namespace Rows
def none {H : Type} : Left H := { results := [], args := [] }

/-- 'waveportlaw03.RecordDecodes': WHATEVER THE INPUT: true; the input reads as it did. -/
def recordDecodesSpec : ChangeSpec := { name := "recordDecodes", fn := fun _ => fun
  | [d] => { results := [.lit (.bool true)], args := [d] }
  | _ => none }
def recordDecodesRow : OpenClaim := { program := "ytohnlmfmpflbpaa", sum := "e0bc508115a5c7316fca078944b7dddf3c18a356a7b3e246b1cbcad983ca637f", func := "waveport/waveportlaw03.RecordDecodes", spec := "recordDecodes", inPlace := ["math.Float32bits", "math.Float64bits", "math.Float64frombits", "internal/abi.NoEscape", "math.Float32frombits"], unfollowed := true, recurses := true, named := ["math/bits.overflowError"], apart := false }
def RecordDecodesSaid : Prop := recordDecodesRow.holds Try.pinned (OpenSpec.ofChange recordDecodesSpec)

/-- ITS FALSE NEIGHBOUR: 'it returns false'. Refute it at one input. -/
def recordDecodesWrong : ChangeSpec := { name := "recordDecodes", fn := fun _ => fun
  | [d] => { results := [.lit (.bool false)], args := [d] }
  | _ => none }
def RecordDecodesWrongFalsely : Prop := recordDecodesRow.holds Try.pinned (OpenSpec.ofChange recordDecodesWrong)

/-- 'waveportlaw03.RecordBack': WHATEVER THE INPUT: true; the input reads as it did. -/
def recordBackSpec : ChangeSpec := { name := "recordBack", fn := fun _ => fun
  | [d1, d2] => { results := [.lit (.bool true)], args := [d1, d2] }
  | _ => none }
def recordBackRow : OpenClaim := { program := "ytohnlmfmpflbpaa", sum := "e0bc508115a5c7316fca078944b7dddf3c18a356a7b3e246b1cbcad983ca637f", func := "waveport/waveportlaw03.RecordBack", spec := "recordBack", inPlace := ["math.Float32bits", "math.Float64bits", "math.Float64frombits", "internal/abi.NoEscape", "math.Float32frombits"], unfollowed := true, recurses := true, named := ["math/bits.overflowError"], apart := false }
def RecordBackSaid : Prop := recordBackRow.holds Try.pinned (OpenSpec.ofChange recordBackSpec)

/-- ITS FALSE NEIGHBOUR: 'it returns false'. Refute it at one input. -/
def recordBackWrong : ChangeSpec := { name := "recordBack", fn := fun _ => fun
  | [d1, d2] => { results := [.lit (.bool false)], args := [d1, d2] }
  | _ => none }
def RecordBackWrongFalsely : Prop := recordBackRow.holds Try.pinned (OpenSpec.ofChange recordBackWrong)

/-- 'waveportlaw03.RecordBits': WHATEVER THE INPUT: true; the input reads as it did. -/
def recordBitsSpec : ChangeSpec := { name := "recordBits", fn := fun _ => fun
  | [d1, d2] => { results := [.lit (.bool true)], args := [d1, d2] }
  | _ => none }
def recordBitsRow : OpenClaim := { program := "ytohnlmfmpflbpaa", sum := "e0bc508115a5c7316fca078944b7dddf3c18a356a7b3e246b1cbcad983ca637f", func := "waveport/waveportlaw03.RecordBits", spec := "recordBits", inPlace := ["math.Float32bits", "math.Float64bits", "math.Float64frombits", "internal/abi.NoEscape", "math.Float32frombits"], unfollowed := true, recurses := true, named := ["math/bits.overflowError"], apart := false }
def RecordBitsSaid : Prop := recordBitsRow.holds Try.pinned (OpenSpec.ofChange recordBitsSpec)

/-- ITS FALSE NEIGHBOUR: 'it returns false'. Refute it at one input. -/
def recordBitsWrong : ChangeSpec := { name := "recordBits", fn := fun _ => fun
  | [d1, d2] => { results := [.lit (.bool false)], args := [d1, d2] }
  | _ => none }
def RecordBitsWrongFalsely : Prop := recordBitsRow.holds Try.pinned (OpenSpec.ofChange recordBitsWrong)

/-- 'waveportlaw03.RecordStreams': WHATEVER THE INPUT: true; the input reads as it did. -/
def recordStreamsSpec : ChangeSpec := { name := "recordStreams", fn := fun _ => fun
  | [d1, d2] => { results := [.lit (.bool true)], args := [d1, d2] }
  | _ => none }
def recordStreamsRow : OpenClaim := { program := "ytohnlmfmpflbpaa", sum := "e0bc508115a5c7316fca078944b7dddf3c18a356a7b3e246b1cbcad983ca637f", func := "waveport/waveportlaw03.RecordStreams", spec := "recordStreams", inPlace := ["math.Float32bits", "math.Float64bits", "math.Float64frombits", "internal/abi.NoEscape", "math.Float32frombits"], unfollowed := true, recurses := true, named := ["math/bits.overflowError"], apart := false }
def RecordStreamsSaid : Prop := recordStreamsRow.holds Try.pinned (OpenSpec.ofChange recordStreamsSpec)

/-- ITS FALSE NEIGHBOUR: 'it returns false'. Refute it at one input. -/
def recordStreamsWrong : ChangeSpec := { name := "recordStreams", fn := fun _ => fun
  | [d1, d2] => { results := [.lit (.bool false)], args := [d1, d2] }
  | _ => none }
def RecordStreamsWrongFalsely : Prop := recordStreamsRow.holds Try.pinned (OpenSpec.ofChange recordStreamsWrong)

/- THE SECOND FORM. 'bulk': how many values and letters a reading holds, each counted each time it is reached (what is shared counts as often as it is met; a slice's spare places count too). A statement '..UptoSaid' is the law's where the arguments, and the package variables that the reading takes, are together of bulk at most 1048576: NARROWER than '..Said'. Prove '..Said' where nothing that the law and all that it calls make is longer than what came in: it says more and counts as full. Else prove '..UptoSaid'. A law counts once. -/
mutual
def uptoBulk {H : Type} : DataW H → Nat
  | .lit (.string bytes) => bytes.length + 1
  | .lit _ => 1
  | .nil => 1
  | .ptr d => uptoBulk d + 1
  | .slice elems spare => uptoBulkAll elems + uptoBulkAll spare + 1
  | .agg parts => uptoBulkAll parts + 1
  | .iface _ d => uptoBulk d + 1
  | .map entries => uptoBulkEntries entries + 1
  | .held _ => 1
def uptoBulkAll {H : Type} : List (DataW H) → Nat
  | [] => 0
  | d :: r => uptoBulk d + uptoBulkAll r
def uptoBulkEntries {H : Type} : List (Lit × DataW H) → Nat
  | [] => 0
  | x :: r => uptoBulkEntry x + uptoBulkEntries r
def uptoBulkEntry {H : Type} : Lit × DataW H → Nat
  | (.string bytes, d) => bytes.length + uptoBulk d + 1
  | (_, d) => uptoBulk d + 1
 end
def uptoSmall : (H : Type) → List (DataW H) → Bool := fun _ ds => decide (uptoBulkAll ds ≤ 1048576)
def OpenSpec.upto (s : _root_.Go.ChangeSpec) : _root_.Go.OpenSpec := { _root_.Go.OpenSpec.ofChange s with cond := some uptoSmall }

/-- 'waveportlaw03.RecordDecodes', WHERE WHAT IT READS IS OF BULK AT MOST 1048576: true; the input reads as it did. -/
def recordDecodesUptoRow : OpenClaim := { program := "ytohnlmfmpflbpaa", sum := "e0bc508115a5c7316fca078944b7dddf3c18a356a7b3e246b1cbcad983ca637f", func := "waveport/waveportlaw03.RecordDecodes", spec := "recordDecodes", inPlace := ["math.Float32bits", "math.Float64bits", "math.Float64frombits", "internal/abi.NoEscape", "math.Float32frombits"], unfollowed := true, recurses := true, named := ["math/bits.overflowError"], apart := false, narrowed := true }
def RecordDecodesUptoSaid : Prop := recordDecodesUptoRow.holds Try.pinned (OpenSpec.upto recordDecodesSpec)

/-- 'waveportlaw03.RecordBack', WHERE WHAT IT READS IS OF BULK AT MOST 1048576: true; the input reads as it did. -/
def recordBackUptoRow : OpenClaim := { program := "ytohnlmfmpflbpaa", sum := "e0bc508115a5c7316fca078944b7dddf3c18a356a7b3e246b1cbcad983ca637f", func := "waveport/waveportlaw03.RecordBack", spec := "recordBack", inPlace := ["math.Float32bits", "math.Float64bits", "math.Float64frombits", "internal/abi.NoEscape", "math.Float32frombits"], unfollowed := true, recurses := true, named := ["math/bits.overflowError"], apart := false, narrowed := true }
def RecordBackUptoSaid : Prop := recordBackUptoRow.holds Try.pinned (OpenSpec.upto recordBackSpec)

/-- 'waveportlaw03.RecordBits', WHERE WHAT IT READS IS OF BULK AT MOST 1048576: true; the input reads as it did. -/
def recordBitsUptoRow : OpenClaim := { program := "ytohnlmfmpflbpaa", sum := "e0bc508115a5c7316fca078944b7dddf3c18a356a7b3e246b1cbcad983ca637f", func := "waveport/waveportlaw03.RecordBits", spec := "recordBits", inPlace := ["math.Float32bits", "math.Float64bits", "math.Float64frombits", "internal/abi.NoEscape", "math.Float32frombits"], unfollowed := true, recurses := true, named := ["math/bits.overflowError"], apart := false, narrowed := true }
def RecordBitsUptoSaid : Prop := recordBitsUptoRow.holds Try.pinned (OpenSpec.upto recordBitsSpec)

/-- 'waveportlaw03.RecordStreams', WHERE WHAT IT READS IS OF BULK AT MOST 1048576: true; the input reads as it did. -/
def recordStreamsUptoRow : OpenClaim := { program := "ytohnlmfmpflbpaa", sum := "e0bc508115a5c7316fca078944b7dddf3c18a356a7b3e246b1cbcad983ca637f", func := "waveport/waveportlaw03.RecordStreams", spec := "recordStreams", inPlace := ["math.Float32bits", "math.Float64bits", "math.Float64frombits", "internal/abi.NoEscape", "math.Float32frombits"], unfollowed := true, recurses := true, named := ["math/bits.overflowError"], apart := false, narrowed := true }
def RecordStreamsUptoSaid : Prop := recordStreamsUptoRow.holds Try.pinned (OpenSpec.upto recordStreamsSpec)

end Rows
end Go.Proofs.Ytohnlmfmpflbpaa
