/-
  No cell of these rows narrows 'for every input' (looked for: loops, veiled, ifaces, maps, wideKeys, modest, calm, conditions, laid).
  DERIVED. THE GIVEN ROWS OF THIS SEAT. 12 by the template 'for every input the law returns true; each argument reads behind the call as it read before'; 0 by the template 'total and deterministic' (their statements: YtclmhnghpnfnkaaTotals.lean).
  GIVEN WITH THE SEED: the statements are not yours to turn. If you find one false, say at which input.
  Laid BY PROGRAM, IN A SANDBOX (cutbox-rows.mjs): the forced cells as the released guide's own fill.sh prints them over the translation 5dc0745dd1eb7b98… (all of the seat's roots in one cut). By AI agents, Wed Nov 11 2026. No macro, syntax, notation, axiom, sorry.
-/
import Derived.Test.YtclmhnghpnfnkaaChecked
import GoSem.Claim
import GoSem.ClaimJoined
import GoSem.ClaimMapViews
import Derived.JoinedTies
import Derived.KernelRfl
namespace Go.Proofs.Ytclmhnghpnfnkaa
/- THE CELL 'sum', in the pinned program and in every row, IS THE sha256 OF THE DUMP (.gsa) THAT YtclmhnghpnfnkaaProg.lean LOADS. Nothing in Lean hashes anything: it is a label: what it is worth is what the hold of that sum in a sandbox is worth. -/
noncomputable def Try.pinned : Pinned := { name := "ytclmhnghpnfnkaa", sum := "5dc0745dd1eb7b98abf70e1e20f41279152079c94aaf3357b95571a9ab2a2603", checked := Try.checked }
namespace Rows
def none {H : Type} : Left H := { results := [], args := [] }

/-- 'laws.FnExactNewBoard': WHATEVER THE INPUT: true; the input reads as it did. -/
def fnExactNewBoardSpec : ChangeSpec := { name := "fnExactNewBoard", fn := fun _ => fun
  | [d1, d2] => { results := [.lit (.bool true)], args := [d1, d2] }
  | _ => none }
def fnExactNewBoardRow : OpenClaim := { program := "ytclmhnghpnfnkaa", sum := "5dc0745dd1eb7b98abf70e1e20f41279152079c94aaf3357b95571a9ab2a2603", func := "loop.example/g03311/laws.FnExactNewBoard", spec := "fnExactNewBoard", apart := false }
def FnExactNewBoardSaid : Prop := fnExactNewBoardRow.holds Try.pinned (OpenSpec.ofChange fnExactNewBoardSpec)

/-- ITS FALSE NEIGHBOUR: 'it returns false'. Refute it at one input. -/
def fnExactNewBoardWrong : ChangeSpec := { name := "fnExactNewBoard", fn := fun _ => fun
  | [d1, d2] => { results := [.lit (.bool false)], args := [d1, d2] }
  | _ => none }
def FnExactNewBoardWrongFalsely : Prop := fnExactNewBoardRow.holds Try.pinned (OpenSpec.ofChange fnExactNewBoardWrong)

/-- 'laws.FnExactBuildFrames': WHATEVER THE INPUT: true; the input reads as it did. -/
def fnExactBuildFramesSpec : ChangeSpec := { name := "fnExactBuildFrames", fn := fun _ => fun
  | [d1, d2] => { results := [.lit (.bool true)], args := [d1, d2] }
  | _ => none }
def fnExactBuildFramesRow : OpenClaim := { program := "ytclmhnghpnfnkaa", sum := "5dc0745dd1eb7b98abf70e1e20f41279152079c94aaf3357b95571a9ab2a2603", func := "loop.example/g03311/laws.FnExactBuildFrames", spec := "fnExactBuildFrames", apart := false }
def FnExactBuildFramesSaid : Prop := fnExactBuildFramesRow.holds Try.pinned (OpenSpec.ofChange fnExactBuildFramesSpec)

/-- ITS FALSE NEIGHBOUR: 'it returns false'. Refute it at one input. -/
def fnExactBuildFramesWrong : ChangeSpec := { name := "fnExactBuildFrames", fn := fun _ => fun
  | [d1, d2] => { results := [.lit (.bool false)], args := [d1, d2] }
  | _ => none }
def FnExactBuildFramesWrongFalsely : Prop := fnExactBuildFramesRow.holds Try.pinned (OpenSpec.ofChange fnExactBuildFramesWrong)

/-- 'laws.FnExactUndetermined': WHATEVER THE INPUT: true; the input reads as it did. -/
def fnExactUndeterminedSpec : ChangeSpec := { name := "fnExactUndetermined", fn := fun _ => fun
  | [d1, d2] => { results := [.lit (.bool true)], args := [d1, d2] }
  | _ => none }
def fnExactUndeterminedRow : OpenClaim := { program := "ytclmhnghpnfnkaa", sum := "5dc0745dd1eb7b98abf70e1e20f41279152079c94aaf3357b95571a9ab2a2603", func := "loop.example/g03311/laws.FnExactUndetermined", spec := "fnExactUndetermined", apart := false }
def FnExactUndeterminedSaid : Prop := fnExactUndeterminedRow.holds Try.pinned (OpenSpec.ofChange fnExactUndeterminedSpec)

/-- ITS FALSE NEIGHBOUR: 'it returns false'. Refute it at one input. -/
def fnExactUndeterminedWrong : ChangeSpec := { name := "fnExactUndetermined", fn := fun _ => fun
  | [d1, d2] => { results := [.lit (.bool false)], args := [d1, d2] }
  | _ => none }
def FnExactUndeterminedWrongFalsely : Prop := fnExactUndeterminedRow.holds Try.pinned (OpenSpec.ofChange fnExactUndeterminedWrong)

/-- 'laws.FnSignalsFollow': WHATEVER THE INPUT: true; the input reads as it did. -/
def fnSignalsFollowSpec : ChangeSpec := { name := "fnSignalsFollow", fn := fun _ => fun
  | [d] => { results := [.lit (.bool true)], args := [d] }
  | _ => none }
def fnSignalsFollowRow : OpenClaim := { program := "ytclmhnghpnfnkaa", sum := "5dc0745dd1eb7b98abf70e1e20f41279152079c94aaf3357b95571a9ab2a2603", func := "loop.example/g03311/laws.FnSignalsFollow", spec := "fnSignalsFollow", apart := false }
def FnSignalsFollowSaid : Prop := fnSignalsFollowRow.holds Try.pinned (OpenSpec.ofChange fnSignalsFollowSpec)

/-- ITS FALSE NEIGHBOUR: 'it returns false'. Refute it at one input. -/
def fnSignalsFollowWrong : ChangeSpec := { name := "fnSignalsFollow", fn := fun _ => fun
  | [d] => { results := [.lit (.bool false)], args := [d] }
  | _ => none }
def FnSignalsFollowWrongFalsely : Prop := fnSignalsFollowRow.holds Try.pinned (OpenSpec.ofChange fnSignalsFollowWrong)

/-- 'laws.FnExactBoardOk': WHATEVER THE INPUT: true; the input reads as it did. -/
def fnExactBoardOkSpec : ChangeSpec := { name := "fnExactBoardOk", fn := fun _ => fun
  | [d] => { results := [.lit (.bool true)], args := [d] }
  | _ => none }
def fnExactBoardOkRow : OpenClaim := { program := "ytclmhnghpnfnkaa", sum := "5dc0745dd1eb7b98abf70e1e20f41279152079c94aaf3357b95571a9ab2a2603", func := "loop.example/g03311/laws.FnExactBoardOk", spec := "fnExactBoardOk", apart := false }
def FnExactBoardOkSaid : Prop := fnExactBoardOkRow.holds Try.pinned (OpenSpec.ofChange fnExactBoardOkSpec)

/-- ITS FALSE NEIGHBOUR: 'it returns false'. Refute it at one input. -/
def fnExactBoardOkWrong : ChangeSpec := { name := "fnExactBoardOk", fn := fun _ => fun
  | [d] => { results := [.lit (.bool false)], args := [d] }
  | _ => none }
def FnExactBoardOkWrongFalsely : Prop := fnExactBoardOkRow.holds Try.pinned (OpenSpec.ofChange fnExactBoardOkWrong)

/-- 'laws.FnLoopsFixed': WHATEVER THE INPUT: true; the input reads as it did. -/
def fnLoopsFixedSpec : ChangeSpec := { name := "fnLoopsFixed", fn := fun _ => fun
  | [d] => { results := [.lit (.bool true)], args := [d] }
  | _ => none }
def fnLoopsFixedRow : OpenClaim := { program := "ytclmhnghpnfnkaa", sum := "5dc0745dd1eb7b98abf70e1e20f41279152079c94aaf3357b95571a9ab2a2603", func := "loop.example/g03311/laws.FnLoopsFixed", spec := "fnLoopsFixed", apart := false }
def FnLoopsFixedSaid : Prop := fnLoopsFixedRow.holds Try.pinned (OpenSpec.ofChange fnLoopsFixedSpec)

/-- ITS FALSE NEIGHBOUR: 'it returns false'. Refute it at one input. -/
def fnLoopsFixedWrong : ChangeSpec := { name := "fnLoopsFixed", fn := fun _ => fun
  | [d] => { results := [.lit (.bool false)], args := [d] }
  | _ => none }
def FnLoopsFixedWrongFalsely : Prop := fnLoopsFixedRow.holds Try.pinned (OpenSpec.ofChange fnLoopsFixedWrong)

/-- 'laws.FnExactEmuValues': WHATEVER THE INPUT: true; the input reads as it did. -/
def fnExactEmuValuesSpec : ChangeSpec := { name := "fnExactEmuValues", fn := fun _ => fun
  | [d1, d2, d3, d4] => { results := [.lit (.bool true)], args := [d1, d2, d3, d4] }
  | _ => none }
def fnExactEmuValuesRow : OpenClaim := { program := "ytclmhnghpnfnkaa", sum := "5dc0745dd1eb7b98abf70e1e20f41279152079c94aaf3357b95571a9ab2a2603", func := "loop.example/g03311/laws.FnExactEmuValues", spec := "fnExactEmuValues", apart := false }
def FnExactEmuValuesSaid : Prop := fnExactEmuValuesRow.holds Try.pinned (OpenSpec.ofChange fnExactEmuValuesSpec)

/-- ITS FALSE NEIGHBOUR: 'it returns false'. Refute it at one input. -/
def fnExactEmuValuesWrong : ChangeSpec := { name := "fnExactEmuValues", fn := fun _ => fun
  | [d1, d2, d3, d4] => { results := [.lit (.bool false)], args := [d1, d2, d3, d4] }
  | _ => none }
def FnExactEmuValuesWrongFalsely : Prop := fnExactEmuValuesRow.holds Try.pinned (OpenSpec.ofChange fnExactEmuValuesWrong)

/-- 'laws.FnExactActOk': WHATEVER THE INPUT: true; the input reads as it did. -/
def fnExactActOkSpec : ChangeSpec := { name := "fnExactActOk", fn := fun _ => fun
  | [d1, d2] => { results := [.lit (.bool true)], args := [d1, d2] }
  | _ => none }
def fnExactActOkRow : OpenClaim := { program := "ytclmhnghpnfnkaa", sum := "5dc0745dd1eb7b98abf70e1e20f41279152079c94aaf3357b95571a9ab2a2603", func := "loop.example/g03311/laws.FnExactActOk", spec := "fnExactActOk", apart := false }
def FnExactActOkSaid : Prop := fnExactActOkRow.holds Try.pinned (OpenSpec.ofChange fnExactActOkSpec)

/-- ITS FALSE NEIGHBOUR: 'it returns false'. Refute it at one input. -/
def fnExactActOkWrong : ChangeSpec := { name := "fnExactActOk", fn := fun _ => fun
  | [d1, d2] => { results := [.lit (.bool false)], args := [d1, d2] }
  | _ => none }
def FnExactActOkWrongFalsely : Prop := fnExactActOkRow.holds Try.pinned (OpenSpec.ofChange fnExactActOkWrong)

/-- 'laws.FnEmuSteps': WHATEVER THE INPUT: true; the input reads as it did. -/
def fnEmuStepsSpec : ChangeSpec := { name := "fnEmuSteps", fn := fun _ => fun
  | [d] => { results := [.lit (.bool true)], args := [d] }
  | _ => none }
def fnEmuStepsRow : OpenClaim := { program := "ytclmhnghpnfnkaa", sum := "5dc0745dd1eb7b98abf70e1e20f41279152079c94aaf3357b95571a9ab2a2603", func := "loop.example/g03311/laws.FnEmuSteps", spec := "fnEmuSteps", apart := false }
def FnEmuStepsSaid : Prop := fnEmuStepsRow.holds Try.pinned (OpenSpec.ofChange fnEmuStepsSpec)

/-- ITS FALSE NEIGHBOUR: 'it returns false'. Refute it at one input. -/
def fnEmuStepsWrong : ChangeSpec := { name := "fnEmuSteps", fn := fun _ => fun
  | [d] => { results := [.lit (.bool false)], args := [d] }
  | _ => none }
def FnEmuStepsWrongFalsely : Prop := fnEmuStepsRow.holds Try.pinned (OpenSpec.ofChange fnEmuStepsWrong)

/-- 'laws.FnExactEmuStep': WHATEVER THE INPUT: true; the input reads as it did. -/
def fnExactEmuStepSpec : ChangeSpec := { name := "fnExactEmuStep", fn := fun _ => fun
  | [d1, d2, d3, d4] => { results := [.lit (.bool true)], args := [d1, d2, d3, d4] }
  | _ => none }
def fnExactEmuStepRow : OpenClaim := { program := "ytclmhnghpnfnkaa", sum := "5dc0745dd1eb7b98abf70e1e20f41279152079c94aaf3357b95571a9ab2a2603", func := "loop.example/g03311/laws.FnExactEmuStep", spec := "fnExactEmuStep", apart := false }
def FnExactEmuStepSaid : Prop := fnExactEmuStepRow.holds Try.pinned (OpenSpec.ofChange fnExactEmuStepSpec)

/-- ITS FALSE NEIGHBOUR: 'it returns false'. Refute it at one input. -/
def fnExactEmuStepWrong : ChangeSpec := { name := "fnExactEmuStep", fn := fun _ => fun
  | [d1, d2, d3, d4] => { results := [.lit (.bool false)], args := [d1, d2, d3, d4] }
  | _ => none }
def FnExactEmuStepWrongFalsely : Prop := fnExactEmuStepRow.holds Try.pinned (OpenSpec.ofChange fnExactEmuStepWrong)

/-- 'laws.FnExactEmuRun': WHATEVER THE INPUT: true; the input reads as it did. -/
def fnExactEmuRunSpec : ChangeSpec := { name := "fnExactEmuRun", fn := fun _ => fun
  | [d1, d2, d3] => { results := [.lit (.bool true)], args := [d1, d2, d3] }
  | _ => none }
def fnExactEmuRunRow : OpenClaim := { program := "ytclmhnghpnfnkaa", sum := "5dc0745dd1eb7b98abf70e1e20f41279152079c94aaf3357b95571a9ab2a2603", func := "loop.example/g03311/laws.FnExactEmuRun", spec := "fnExactEmuRun", apart := false }
def FnExactEmuRunSaid : Prop := fnExactEmuRunRow.holds Try.pinned (OpenSpec.ofChange fnExactEmuRunSpec)

/-- ITS FALSE NEIGHBOUR: 'it returns false'. Refute it at one input. -/
def fnExactEmuRunWrong : ChangeSpec := { name := "fnExactEmuRun", fn := fun _ => fun
  | [d1, d2, d3] => { results := [.lit (.bool false)], args := [d1, d2, d3] }
  | _ => none }
def FnExactEmuRunWrongFalsely : Prop := fnExactEmuRunRow.holds Try.pinned (OpenSpec.ofChange fnExactEmuRunWrong)

/-- 'laws.FnExactRunTiles': WHATEVER THE INPUT: true; the input reads as it did. -/
def fnExactRunTilesSpec : ChangeSpec := { name := "fnExactRunTiles", fn := fun _ => fun
  | [d1, d2, d3, d4, d5] => { results := [.lit (.bool true)], args := [d1, d2, d3, d4, d5] }
  | _ => none }
def fnExactRunTilesRow : OpenClaim := { program := "ytclmhnghpnfnkaa", sum := "5dc0745dd1eb7b98abf70e1e20f41279152079c94aaf3357b95571a9ab2a2603", func := "loop.example/g03311/laws.FnExactRunTiles", spec := "fnExactRunTiles", apart := false }
def FnExactRunTilesSaid : Prop := fnExactRunTilesRow.holds Try.pinned (OpenSpec.ofChange fnExactRunTilesSpec)

/-- ITS FALSE NEIGHBOUR: 'it returns false'. Refute it at one input. -/
def fnExactRunTilesWrong : ChangeSpec := { name := "fnExactRunTiles", fn := fun _ => fun
  | [d1, d2, d3, d4, d5] => { results := [.lit (.bool false)], args := [d1, d2, d3, d4, d5] }
  | _ => none }
def FnExactRunTilesWrongFalsely : Prop := fnExactRunTilesRow.holds Try.pinned (OpenSpec.ofChange fnExactRunTilesWrong)

/- THE SECOND FORM. 'bulk': how many values and letters a reading holds, each counted each time it is reached (what is shared counts as often as it is met; a slice's spare places count too). A statement '..UptoSaid' is the law's where the arguments, and the package variables that the reading takes, are together of bulk at most 1048576: NARROWER than '..Said'. Prove '..Said' where nothing that the law and all that it calls make is longer than what came in: it says more and counts as full. Else prove '..UptoSaid'. A law counts once. -/
mutual
def uptoBulk {H : Type} : DataW H → Nat
  | .lit (.string bytes) => bytes.length + 1
  | .lit _ => 1
  | .nil => 1
  | .ptr d => uptoBulk d + 1
  | .slice elems spare => uptoBulkAll elems + uptoBulkAll spare + 1
  | .agg parts => uptoBulkAll parts + 1
  | .iface _ d => uptoBulk d + 1
  | .map entries => uptoBulkEntries entries + 1
  | .held _ => 1
def uptoBulkAll {H : Type} : List (DataW H) → Nat
  | [] => 0
  | d :: r => uptoBulk d + uptoBulkAll r
def uptoBulkEntries {H : Type} : List (Lit × DataW H) → Nat
  | [] => 0
  | x :: r => uptoBulkEntry x + uptoBulkEntries r
def uptoBulkEntry {H : Type} : Lit × DataW H → Nat
  | (.string bytes, d) => bytes.length + uptoBulk d + 1
  | (_, d) => uptoBulk d + 1
 end
def uptoSmall : (H : Type) → List (DataW H) → Bool := fun _ ds => decide (uptoBulkAll ds ≤ 1048576)
def OpenSpec.upto (s : _root_.Go.ChangeSpec) : _root_.Go.OpenSpec := { _root_.Go.OpenSpec.ofChange s with cond := some uptoSmall }

/-- 'laws.FnExactNewBoard', WHERE WHAT IT READS IS OF BULK AT MOST 1048576: true; the input reads as it did. -/
def fnExactNewBoardUptoRow : OpenClaim := { program := "ytclmhnghpnfnkaa", sum := "5dc0745dd1eb7b98abf70e1e20f41279152079c94aaf3357b95571a9ab2a2603", func := "loop.example/g03311/laws.FnExactNewBoard", spec := "fnExactNewBoard", apart := false, narrowed := true }
def FnExactNewBoardUptoSaid : Prop := fnExactNewBoardUptoRow.holds Try.pinned (OpenSpec.upto fnExactNewBoardSpec)

/-- 'laws.FnExactBuildFrames', WHERE WHAT IT READS IS OF BULK AT MOST 1048576: true; the input reads as it did. -/
def fnExactBuildFramesUptoRow : OpenClaim := { program := "ytclmhnghpnfnkaa", sum := "5dc0745dd1eb7b98abf70e1e20f41279152079c94aaf3357b95571a9ab2a2603", func := "loop.example/g03311/laws.FnExactBuildFrames", spec := "fnExactBuildFrames", apart := false, narrowed := true }
def FnExactBuildFramesUptoSaid : Prop := fnExactBuildFramesUptoRow.holds Try.pinned (OpenSpec.upto fnExactBuildFramesSpec)

/-- 'laws.FnExactUndetermined', WHERE WHAT IT READS IS OF BULK AT MOST 1048576: true; the input reads as it did. -/
def fnExactUndeterminedUptoRow : OpenClaim := { program := "ytclmhnghpnfnkaa", sum := "5dc0745dd1eb7b98abf70e1e20f41279152079c94aaf3357b95571a9ab2a2603", func := "loop.example/g03311/laws.FnExactUndetermined", spec := "fnExactUndetermined", apart := false, narrowed := true }
def FnExactUndeterminedUptoSaid : Prop := fnExactUndeterminedUptoRow.holds Try.pinned (OpenSpec.upto fnExactUndeterminedSpec)

/-- 'laws.FnSignalsFollow', WHERE WHAT IT READS IS OF BULK AT MOST 1048576: true; the input reads as it did. -/
def fnSignalsFollowUptoRow : OpenClaim := { program := "ytclmhnghpnfnkaa", sum := "5dc0745dd1eb7b98abf70e1e20f41279152079c94aaf3357b95571a9ab2a2603", func := "loop.example/g03311/laws.FnSignalsFollow", spec := "fnSignalsFollow", apart := false, narrowed := true }
def FnSignalsFollowUptoSaid : Prop := fnSignalsFollowUptoRow.holds Try.pinned (OpenSpec.upto fnSignalsFollowSpec)

/-- 'laws.FnExactBoardOk', WHERE WHAT IT READS IS OF BULK AT MOST 1048576: true; the input reads as it did. -/
def fnExactBoardOkUptoRow : OpenClaim := { program := "ytclmhnghpnfnkaa", sum := "5dc0745dd1eb7b98abf70e1e20f41279152079c94aaf3357b95571a9ab2a2603", func := "loop.example/g03311/laws.FnExactBoardOk", spec := "fnExactBoardOk", apart := false, narrowed := true }
def FnExactBoardOkUptoSaid : Prop := fnExactBoardOkUptoRow.holds Try.pinned (OpenSpec.upto fnExactBoardOkSpec)

/-- 'laws.FnLoopsFixed', WHERE WHAT IT READS IS OF BULK AT MOST 1048576: true; the input reads as it did. -/
def fnLoopsFixedUptoRow : OpenClaim := { program := "ytclmhnghpnfnkaa", sum := "5dc0745dd1eb7b98abf70e1e20f41279152079c94aaf3357b95571a9ab2a2603", func := "loop.example/g03311/laws.FnLoopsFixed", spec := "fnLoopsFixed", apart := false, narrowed := true }
def FnLoopsFixedUptoSaid : Prop := fnLoopsFixedUptoRow.holds Try.pinned (OpenSpec.upto fnLoopsFixedSpec)

/-- 'laws.FnExactEmuValues', WHERE WHAT IT READS IS OF BULK AT MOST 1048576: true; the input reads as it did. -/
def fnExactEmuValuesUptoRow : OpenClaim := { program := "ytclmhnghpnfnkaa", sum := "5dc0745dd1eb7b98abf70e1e20f41279152079c94aaf3357b95571a9ab2a2603", func := "loop.example/g03311/laws.FnExactEmuValues", spec := "fnExactEmuValues", apart := false, narrowed := true }
def FnExactEmuValuesUptoSaid : Prop := fnExactEmuValuesUptoRow.holds Try.pinned (OpenSpec.upto fnExactEmuValuesSpec)

/-- 'laws.FnExactActOk', WHERE WHAT IT READS IS OF BULK AT MOST 1048576: true; the input reads as it did. -/
def fnExactActOkUptoRow : OpenClaim := { program := "ytclmhnghpnfnkaa", sum := "5dc0745dd1eb7b98abf70e1e20f41279152079c94aaf3357b95571a9ab2a2603", func := "loop.example/g03311/laws.FnExactActOk", spec := "fnExactActOk", apart := false, narrowed := true }
def FnExactActOkUptoSaid : Prop := fnExactActOkUptoRow.holds Try.pinned (OpenSpec.upto fnExactActOkSpec)

/-- 'laws.FnEmuSteps', WHERE WHAT IT READS IS OF BULK AT MOST 1048576: true; the input reads as it did. -/
def fnEmuStepsUptoRow : OpenClaim := { program := "ytclmhnghpnfnkaa", sum := "5dc0745dd1eb7b98abf70e1e20f41279152079c94aaf3357b95571a9ab2a2603", func := "loop.example/g03311/laws.FnEmuSteps", spec := "fnEmuSteps", apart := false, narrowed := true }
def FnEmuStepsUptoSaid : Prop := fnEmuStepsUptoRow.holds Try.pinned (OpenSpec.upto fnEmuStepsSpec)

/-- 'laws.FnExactEmuStep', WHERE WHAT IT READS IS OF BULK AT MOST 1048576: true; the input reads as it did. -/
def fnExactEmuStepUptoRow : OpenClaim := { program := "ytclmhnghpnfnkaa", sum := "5dc0745dd1eb7b98abf70e1e20f41279152079c94aaf3357b95571a9ab2a2603", func := "loop.example/g03311/laws.FnExactEmuStep", spec := "fnExactEmuStep", apart := false, narrowed := true }
def FnExactEmuStepUptoSaid : Prop := fnExactEmuStepUptoRow.holds Try.pinned (OpenSpec.upto fnExactEmuStepSpec)

/-- 'laws.FnExactEmuRun', WHERE WHAT IT READS IS OF BULK AT MOST 1048576: true; the input reads as it did. -/
def fnExactEmuRunUptoRow : OpenClaim := { program := "ytclmhnghpnfnkaa", sum := "5dc0745dd1eb7b98abf70e1e20f41279152079c94aaf3357b95571a9ab2a2603", func := "loop.example/g03311/laws.FnExactEmuRun", spec := "fnExactEmuRun", apart := false, narrowed := true }
def FnExactEmuRunUptoSaid : Prop := fnExactEmuRunUptoRow.holds Try.pinned (OpenSpec.upto fnExactEmuRunSpec)

/-- 'laws.FnExactRunTiles', WHERE WHAT IT READS IS OF BULK AT MOST 1048576: true; the input reads as it did. -/
def fnExactRunTilesUptoRow : OpenClaim := { program := "ytclmhnghpnfnkaa", sum := "5dc0745dd1eb7b98abf70e1e20f41279152079c94aaf3357b95571a9ab2a2603", func := "loop.example/g03311/laws.FnExactRunTiles", spec := "fnExactRunTiles", apart := false, narrowed := true }
def FnExactRunTilesUptoSaid : Prop := fnExactRunTilesUptoRow.holds Try.pinned (OpenSpec.upto fnExactRunTilesSpec)

end Rows
end Go.Proofs.Ytclmhnghpnfnkaa
