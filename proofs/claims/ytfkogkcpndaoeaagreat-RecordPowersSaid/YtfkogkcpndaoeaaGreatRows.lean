/-
  No cell of these rows narrows 'for every input' (looked for: loops, veiled, ifaces, maps, wideKeys, modest, calm, conditions, laid).
  DERIVED. THE GIVEN ROWS OF THIS SEAT. 3 by the template 'for every input the law returns true; each argument reads behind the call as it read before'; 0 by the template 'total and deterministic' (their statements: YtfkogkcpndaoeaaGreatTotals.lean).
  GIVEN WITH THE SEED: the statements are not yours to turn. If you find one false, say at which input.
  Laid BY PROGRAM, IN A SANDBOX (cutbox-rows.mjs): the forced cells as the released guide's own fill.sh prints them over the translation 9fedfd02d689e00b… (all of the seat's roots in one cut). By AI agents, Wed Nov 11 2026. No macro, syntax, notation, axiom, sorry.
-/
import Derived.Test.YtfkogkcpndaoeaaGreatChecked
import GoSem.Claim
import GoSem.ClaimJoined
import GoSem.ClaimMapViews
import Derived.JoinedTies
import Derived.KernelRfl
namespace Go.Proofs.YtfkogkcpndaoeaaGreat
/- THE CELL 'sum', in the pinned program and in every row, IS THE sha256 OF THE DUMP (.gsa) THAT YtfkogkcpndaoeaaGreatProg.lean LOADS. Nothing in Lean hashes anything: it is a label: what it is worth is what the hold of that sum in a sandbox is worth. -/
noncomputable def Tryz.pinned : Pinned := { name := "ytfkogkcpndaoeaagreat", sum := "9fedfd02d689e00b328e850b1d03371481a755f1b2c1a1befdb7d5b44b34bfc5", checked := Tryz.checked }
namespace Rows
def none {H : Type} : Left H := { results := [], args := [] }

/-- 'waveportlaw03.RecordPowers': WHATEVER THE INPUT: true; the input reads as it did. -/
def recordPowersSpec : ChangeSpec := { name := "recordPowers", fn := fun _ => fun
  | [d1, d2, d3, d4] => { results := [.lit (.bool true)], args := [d1, d2, d3, d4] }
  | _ => none }
def recordPowersRow : OpenClaim := { program := "ytfkogkcpndaoeaagreat", sum := "9fedfd02d689e00b328e850b1d03371481a755f1b2c1a1befdb7d5b44b34bfc5", func := "waveport/waveportlaw03.RecordPowers", spec := "recordPowers", inPlace := ["math.Float32bits", "math.Float64bits", "math.Float64frombits", "internal/abi.NoEscape", "math.Float32frombits"], unfollowed := true, recurses := true, named := ["math/bits.overflowError"], apart := false }
def RecordPowersSaid : Prop := recordPowersRow.holds Tryz.pinned (OpenSpec.ofChange recordPowersSpec)

/-- ITS FALSE NEIGHBOUR: 'it returns false'. Refute it at one input. -/
def recordPowersWrong : ChangeSpec := { name := "recordPowers", fn := fun _ => fun
  | [d1, d2, d3, d4] => { results := [.lit (.bool false)], args := [d1, d2, d3, d4] }
  | _ => none }
def RecordPowersWrongFalsely : Prop := recordPowersRow.holds Tryz.pinned (OpenSpec.ofChange recordPowersWrong)

/-- 'waveportlaw03.RecordDrives': WHATEVER THE INPUT: true; the input reads as it did. -/
def recordDrivesSpec : ChangeSpec := { name := "recordDrives", fn := fun _ => fun
  | [d1, d2, d3] => { results := [.lit (.bool true)], args := [d1, d2, d3] }
  | _ => none }
def recordDrivesRow : OpenClaim := { program := "ytfkogkcpndaoeaagreat", sum := "9fedfd02d689e00b328e850b1d03371481a755f1b2c1a1befdb7d5b44b34bfc5", func := "waveport/waveportlaw03.RecordDrives", spec := "recordDrives", inPlace := ["math.Float32bits", "math.Float64bits", "math.Float64frombits", "internal/abi.NoEscape"], unfollowed := true, recurses := true, named := ["math/bits.overflowError"], apart := false }
def RecordDrivesSaid : Prop := recordDrivesRow.holds Tryz.pinned (OpenSpec.ofChange recordDrivesSpec)

/-- ITS FALSE NEIGHBOUR: 'it returns false'. Refute it at one input. -/
def recordDrivesWrong : ChangeSpec := { name := "recordDrives", fn := fun _ => fun
  | [d1, d2, d3] => { results := [.lit (.bool false)], args := [d1, d2, d3] }
  | _ => none }
def RecordDrivesWrongFalsely : Prop := recordDrivesRow.holds Tryz.pinned (OpenSpec.ofChange recordDrivesWrong)

/-- 'waveportlaw03.RecordRaws': WHATEVER THE INPUT: true; the input reads as it did. -/
def recordRawsSpec : ChangeSpec := { name := "recordRaws", fn := fun _ => fun
  | [d1, d2, d3] => { results := [.lit (.bool true)], args := [d1, d2, d3] }
  | _ => none }
def recordRawsRow : OpenClaim := { program := "ytfkogkcpndaoeaagreat", sum := "9fedfd02d689e00b328e850b1d03371481a755f1b2c1a1befdb7d5b44b34bfc5", func := "waveport/waveportlaw03.RecordRaws", spec := "recordRaws", inPlace := ["math.Float32bits", "math.Float64bits", "math.Float64frombits", "internal/abi.NoEscape"], unfollowed := true, recurses := true, named := ["math/bits.overflowError"], apart := false }
def RecordRawsSaid : Prop := recordRawsRow.holds Tryz.pinned (OpenSpec.ofChange recordRawsSpec)

/-- ITS FALSE NEIGHBOUR: 'it returns false'. Refute it at one input. -/
def recordRawsWrong : ChangeSpec := { name := "recordRaws", fn := fun _ => fun
  | [d1, d2, d3] => { results := [.lit (.bool false)], args := [d1, d2, d3] }
  | _ => none }
def RecordRawsWrongFalsely : Prop := recordRawsRow.holds Tryz.pinned (OpenSpec.ofChange recordRawsWrong)

/- THE SECOND FORM. 'bulk': how many values and letters a reading holds, each counted each time it is reached (what is shared counts as often as it is met; a slice's spare places count too). A statement '..UptoSaid' is the law's where the arguments, and the package variables that the reading takes, are together of bulk at most 1048576: NARROWER than '..Said'. Prove '..Said' where nothing that the law and all that it calls make is longer than what came in: it says more and counts as full. Else prove '..UptoSaid'. A law counts once. -/
mutual
def uptoBulk {H : Type} : DataW H → Nat
  | .lit (.string bytes) => bytes.length + 1
  | .lit _ => 1
  | .nil => 1
  | .ptr d => uptoBulk d + 1
  | .slice elems spare => uptoBulkAll elems + uptoBulkAll spare + 1
  | .agg parts => uptoBulkAll parts + 1
  | .iface _ d => uptoBulk d + 1
  | .map entries => uptoBulkEntries entries + 1
  | .held _ => 1
def uptoBulkAll {H : Type} : List (DataW H) → Nat
  | [] => 0
  | d :: r => uptoBulk d + uptoBulkAll r
def uptoBulkEntries {H : Type} : List (Lit × DataW H) → Nat
  | [] => 0
  | x :: r => uptoBulkEntry x + uptoBulkEntries r
def uptoBulkEntry {H : Type} : Lit × DataW H → Nat
  | (.string bytes, d) => bytes.length + uptoBulk d + 1
  | (_, d) => uptoBulk d + 1
 end
def uptoSmall : (H : Type) → List (DataW H) → Bool := fun _ ds => decide (uptoBulkAll ds ≤ 1048576)
def OpenSpec.upto (s : _root_.Go.ChangeSpec) : _root_.Go.OpenSpec := { _root_.Go.OpenSpec.ofChange s with cond := some uptoSmall }

/-- 'waveportlaw03.RecordPowers', WHERE WHAT IT READS IS OF BULK AT MOST 1048576: true; the input reads as it did. -/
def recordPowersUptoRow : OpenClaim := { program := "ytfkogkcpndaoeaagreat", sum := "9fedfd02d689e00b328e850b1d03371481a755f1b2c1a1befdb7d5b44b34bfc5", func := "waveport/waveportlaw03.RecordPowers", spec := "recordPowers", inPlace := ["math.Float32bits", "math.Float64bits", "math.Float64frombits", "internal/abi.NoEscape", "math.Float32frombits"], unfollowed := true, recurses := true, named := ["math/bits.overflowError"], apart := false, narrowed := true }
def RecordPowersUptoSaid : Prop := recordPowersUptoRow.holds Tryz.pinned (OpenSpec.upto recordPowersSpec)

/-- 'waveportlaw03.RecordDrives', WHERE WHAT IT READS IS OF BULK AT MOST 1048576: true; the input reads as it did. -/
def recordDrivesUptoRow : OpenClaim := { program := "ytfkogkcpndaoeaagreat", sum := "9fedfd02d689e00b328e850b1d03371481a755f1b2c1a1befdb7d5b44b34bfc5", func := "waveport/waveportlaw03.RecordDrives", spec := "recordDrives", inPlace := ["math.Float32bits", "math.Float64bits", "math.Float64frombits", "internal/abi.NoEscape"], unfollowed := true, recurses := true, named := ["math/bits.overflowError"], apart := false, narrowed := true }
def RecordDrivesUptoSaid : Prop := recordDrivesUptoRow.holds Tryz.pinned (OpenSpec.upto recordDrivesSpec)

/-- 'waveportlaw03.RecordRaws', WHERE WHAT IT READS IS OF BULK AT MOST 1048576: true; the input reads as it did. -/
def recordRawsUptoRow : OpenClaim := { program := "ytfkogkcpndaoeaagreat", sum := "9fedfd02d689e00b328e850b1d03371481a755f1b2c1a1befdb7d5b44b34bfc5", func := "waveport/waveportlaw03.RecordRaws", spec := "recordRaws", inPlace := ["math.Float32bits", "math.Float64bits", "math.Float64frombits", "internal/abi.NoEscape"], unfollowed := true, recurses := true, named := ["math/bits.overflowError"], apart := false, narrowed := true }
def RecordRawsUptoSaid : Prop := recordRawsUptoRow.holds Tryz.pinned (OpenSpec.upto recordRawsSpec)

end Rows
end Go.Proofs.YtfkogkcpndaoeaaGreat
