/-
  No cell of these rows narrows 'for every input' (looked for: loops, veiled, ifaces, maps, wideKeys, modest, calm, conditions, laid).
  DERIVED. THE GIVEN ROWS OF THIS SEAT. 6 by the template 'for every input the law returns true; each argument reads behind the call as it read before'; 0 by the template 'total and deterministic' (their statements: YtndfaaebflhggaaGreatTotals.lean).
  GIVEN WITH THE SEED: the statements are not yours to turn. If you find one false, say at which input.
  Laid BY PROGRAM, IN A SANDBOX (cutbox-rows.mjs): the forced cells as the released guide's own fill.sh prints them over the translation 6d2fe3651ce0f974… (all of the seat's roots in one cut). By AI agents, Wed Nov 11 2026. No macro, syntax, notation, axiom, sorry.
-/
import Derived.Test.YtndfaaebflhggaaGreatChecked
import GoSem.Claim
import GoSem.ClaimJoined
import GoSem.ClaimMapViews
import Derived.JoinedTies
import Derived.KernelRfl
namespace Go.Proofs.YtndfaaebflhggaaGreat
/- THE CELL 'sum', in the pinned program and in every row, IS THE sha256 OF THE DUMP (.gsa) THAT YtndfaaebflhggaaGreatProg.lean LOADS. Nothing in Lean hashes anything: it is a label: what it is worth is what the hold of that sum in a sandbox is worth. -/
noncomputable def Tryz.pinned : Pinned := { name := "ytndfaaebflhggaagreat", sum := "6d2fe3651ce0f97423aa5edc19561e9b75bff46133b01d7019c3ced0adbf85e5", checked := Tryz.checked }
namespace Rows
def none {H : Type} : Left H := { results := [], args := [] }

/-- 'laws.FnExactWriteRegion': WHATEVER THE INPUT: true; the input reads as it did. -/
def fnExactWriteRegionSpec : ChangeSpec := { name := "fnExactWriteRegion", fn := fun _ => fun
  | [d1, d2, d3] => { results := [.lit (.bool true)], args := [d1, d2, d3] }
  | _ => none }
def fnExactWriteRegionRow : OpenClaim := { program := "ytndfaaebflhggaagreat", sum := "6d2fe3651ce0f97423aa5edc19561e9b75bff46133b01d7019c3ced0adbf85e5", func := "loop.example/g03311/laws.FnExactWriteRegion", spec := "fnExactWriteRegion", apart := false }
def FnExactWriteRegionSaid : Prop := fnExactWriteRegionRow.holds Tryz.pinned (OpenSpec.ofChange fnExactWriteRegionSpec)

/-- ITS FALSE NEIGHBOUR: 'it returns false'. Refute it at one input. -/
def fnExactWriteRegionWrong : ChangeSpec := { name := "fnExactWriteRegion", fn := fun _ => fun
  | [d1, d2, d3] => { results := [.lit (.bool false)], args := [d1, d2, d3] }
  | _ => none }
def FnExactWriteRegionWrongFalsely : Prop := fnExactWriteRegionRow.holds Tryz.pinned (OpenSpec.ofChange fnExactWriteRegionWrong)

/-- 'laws.FnExactScrubBoard': WHATEVER THE INPUT: true; the input reads as it did. -/
def fnExactScrubBoardSpec : ChangeSpec := { name := "fnExactScrubBoard", fn := fun _ => fun
  | [d] => { results := [.lit (.bool true)], args := [d] }
  | _ => none }
def fnExactScrubBoardRow : OpenClaim := { program := "ytndfaaebflhggaagreat", sum := "6d2fe3651ce0f97423aa5edc19561e9b75bff46133b01d7019c3ced0adbf85e5", func := "loop.example/g03311/laws.FnExactScrubBoard", spec := "fnExactScrubBoard", apart := false }
def FnExactScrubBoardSaid : Prop := fnExactScrubBoardRow.holds Tryz.pinned (OpenSpec.ofChange fnExactScrubBoardSpec)

/-- ITS FALSE NEIGHBOUR: 'it returns false'. Refute it at one input. -/
def fnExactScrubBoardWrong : ChangeSpec := { name := "fnExactScrubBoard", fn := fun _ => fun
  | [d] => { results := [.lit (.bool false)], args := [d] }
  | _ => none }
def FnExactScrubBoardWrongFalsely : Prop := fnExactScrubBoardRow.holds Tryz.pinned (OpenSpec.ofChange fnExactScrubBoardWrong)

/-- 'laws.FnExactCommitRegion': WHATEVER THE INPUT: true; the input reads as it did. -/
def fnExactCommitRegionSpec : ChangeSpec := { name := "fnExactCommitRegion", fn := fun _ => fun
  | [d1, d2] => { results := [.lit (.bool true)], args := [d1, d2] }
  | _ => none }
def fnExactCommitRegionRow : OpenClaim := { program := "ytndfaaebflhggaagreat", sum := "6d2fe3651ce0f97423aa5edc19561e9b75bff46133b01d7019c3ced0adbf85e5", func := "loop.example/g03311/laws.FnExactCommitRegion", spec := "fnExactCommitRegion", apart := false }
def FnExactCommitRegionSaid : Prop := fnExactCommitRegionRow.holds Tryz.pinned (OpenSpec.ofChange fnExactCommitRegionSpec)

/-- ITS FALSE NEIGHBOUR: 'it returns false'. Refute it at one input. -/
def fnExactCommitRegionWrong : ChangeSpec := { name := "fnExactCommitRegion", fn := fun _ => fun
  | [d1, d2] => { results := [.lit (.bool false)], args := [d1, d2] }
  | _ => none }
def FnExactCommitRegionWrongFalsely : Prop := fnExactCommitRegionRow.holds Tryz.pinned (OpenSpec.ofChange fnExactCommitRegionWrong)

/-- 'laws.FnExactStepBoard': WHATEVER THE INPUT: true; the input reads as it did. -/
def fnExactStepBoardSpec : ChangeSpec := { name := "fnExactStepBoard", fn := fun _ => fun
  | [d1, d2] => { results := [.lit (.bool true)], args := [d1, d2] }
  | _ => none }
def fnExactStepBoardRow : OpenClaim := { program := "ytndfaaebflhggaagreat", sum := "6d2fe3651ce0f97423aa5edc19561e9b75bff46133b01d7019c3ced0adbf85e5", func := "loop.example/g03311/laws.FnExactStepBoard", spec := "fnExactStepBoard", apart := false }
def FnExactStepBoardSaid : Prop := fnExactStepBoardRow.holds Tryz.pinned (OpenSpec.ofChange fnExactStepBoardSpec)

/-- ITS FALSE NEIGHBOUR: 'it returns false'. Refute it at one input. -/
def fnExactStepBoardWrong : ChangeSpec := { name := "fnExactStepBoard", fn := fun _ => fun
  | [d1, d2] => { results := [.lit (.bool false)], args := [d1, d2] }
  | _ => none }
def FnExactStepBoardWrongFalsely : Prop := fnExactStepBoardRow.holds Tryz.pinned (OpenSpec.ofChange fnExactStepBoardWrong)

/-- 'laws.FnExactDoAct': WHATEVER THE INPUT: true; the input reads as it did. -/
def fnExactDoActSpec : ChangeSpec := { name := "fnExactDoAct", fn := fun _ => fun
  | [d1, d2] => { results := [.lit (.bool true)], args := [d1, d2] }
  | _ => none }
def fnExactDoActRow : OpenClaim := { program := "ytndfaaebflhggaagreat", sum := "6d2fe3651ce0f97423aa5edc19561e9b75bff46133b01d7019c3ced0adbf85e5", func := "loop.example/g03311/laws.FnExactDoAct", spec := "fnExactDoAct", apart := false }
def FnExactDoActSaid : Prop := fnExactDoActRow.holds Tryz.pinned (OpenSpec.ofChange fnExactDoActSpec)

/-- ITS FALSE NEIGHBOUR: 'it returns false'. Refute it at one input. -/
def fnExactDoActWrong : ChangeSpec := { name := "fnExactDoAct", fn := fun _ => fun
  | [d1, d2] => { results := [.lit (.bool false)], args := [d1, d2] }
  | _ => none }
def FnExactDoActWrongFalsely : Prop := fnExactDoActRow.holds Tryz.pinned (OpenSpec.ofChange fnExactDoActWrong)

/-- 'laws.FnExactRunActs': WHATEVER THE INPUT: true; the input reads as it did. -/
def fnExactRunActsSpec : ChangeSpec := { name := "fnExactRunActs", fn := fun _ => fun
  | [d1, d2] => { results := [.lit (.bool true)], args := [d1, d2] }
  | _ => none }
def fnExactRunActsRow : OpenClaim := { program := "ytndfaaebflhggaagreat", sum := "6d2fe3651ce0f97423aa5edc19561e9b75bff46133b01d7019c3ced0adbf85e5", func := "loop.example/g03311/laws.FnExactRunActs", spec := "fnExactRunActs", apart := false }
def FnExactRunActsSaid : Prop := fnExactRunActsRow.holds Tryz.pinned (OpenSpec.ofChange fnExactRunActsSpec)

/-- ITS FALSE NEIGHBOUR: 'it returns false'. Refute it at one input. -/
def fnExactRunActsWrong : ChangeSpec := { name := "fnExactRunActs", fn := fun _ => fun
  | [d1, d2] => { results := [.lit (.bool false)], args := [d1, d2] }
  | _ => none }
def FnExactRunActsWrongFalsely : Prop := fnExactRunActsRow.holds Tryz.pinned (OpenSpec.ofChange fnExactRunActsWrong)

/- THE SECOND FORM. 'bulk': how many values and letters a reading holds, each counted each time it is reached (what is shared counts as often as it is met; a slice's spare places count too). A statement '..UptoSaid' is the law's where the arguments, and the package variables that the reading takes, are together of bulk at most 1048576: NARROWER than '..Said'. Prove '..Said' where nothing that the law and all that it calls make is longer than what came in: it says more and counts as full. Else prove '..UptoSaid'. A law counts once. -/
mutual
def uptoBulk {H : Type} : DataW H → Nat
  | .lit (.string bytes) => bytes.length + 1
  | .lit _ => 1
  | .nil => 1
  | .ptr d => uptoBulk d + 1
  | .slice elems spare => uptoBulkAll elems + uptoBulkAll spare + 1
  | .agg parts => uptoBulkAll parts + 1
  | .iface _ d => uptoBulk d + 1
  | .map entries => uptoBulkEntries entries + 1
  | .held _ => 1
def uptoBulkAll {H : Type} : List (DataW H) → Nat
  | [] => 0
  | d :: r => uptoBulk d + uptoBulkAll r
def uptoBulkEntries {H : Type} : List (Lit × DataW H) → Nat
  | [] => 0
  | x :: r => uptoBulkEntry x + uptoBulkEntries r
def uptoBulkEntry {H : Type} : Lit × DataW H → Nat
  | (.string bytes, d) => bytes.length + uptoBulk d + 1
  | (_, d) => uptoBulk d + 1
 end
def uptoSmall : (H : Type) → List (DataW H) → Bool := fun _ ds => decide (uptoBulkAll ds ≤ 1048576)
def OpenSpec.upto (s : _root_.Go.ChangeSpec) : _root_.Go.OpenSpec := { _root_.Go.OpenSpec.ofChange s with cond := some uptoSmall }

/-- 'laws.FnExactWriteRegion', WHERE WHAT IT READS IS OF BULK AT MOST 1048576: true; the input reads as it did. -/
def fnExactWriteRegionUptoRow : OpenClaim := { program := "ytndfaaebflhggaagreat", sum := "6d2fe3651ce0f97423aa5edc19561e9b75bff46133b01d7019c3ced0adbf85e5", func := "loop.example/g03311/laws.FnExactWriteRegion", spec := "fnExactWriteRegion", apart := false, narrowed := true }
def FnExactWriteRegionUptoSaid : Prop := fnExactWriteRegionUptoRow.holds Tryz.pinned (OpenSpec.upto fnExactWriteRegionSpec)

/-- 'laws.FnExactScrubBoard', WHERE WHAT IT READS IS OF BULK AT MOST 1048576: true; the input reads as it did. -/
def fnExactScrubBoardUptoRow : OpenClaim := { program := "ytndfaaebflhggaagreat", sum := "6d2fe3651ce0f97423aa5edc19561e9b75bff46133b01d7019c3ced0adbf85e5", func := "loop.example/g03311/laws.FnExactScrubBoard", spec := "fnExactScrubBoard", apart := false, narrowed := true }
def FnExactScrubBoardUptoSaid : Prop := fnExactScrubBoardUptoRow.holds Tryz.pinned (OpenSpec.upto fnExactScrubBoardSpec)

/-- 'laws.FnExactCommitRegion', WHERE WHAT IT READS IS OF BULK AT MOST 1048576: true; the input reads as it did. -/
def fnExactCommitRegionUptoRow : OpenClaim := { program := "ytndfaaebflhggaagreat", sum := "6d2fe3651ce0f97423aa5edc19561e9b75bff46133b01d7019c3ced0adbf85e5", func := "loop.example/g03311/laws.FnExactCommitRegion", spec := "fnExactCommitRegion", apart := false, narrowed := true }
def FnExactCommitRegionUptoSaid : Prop := fnExactCommitRegionUptoRow.holds Tryz.pinned (OpenSpec.upto fnExactCommitRegionSpec)

/-- 'laws.FnExactStepBoard', WHERE WHAT IT READS IS OF BULK AT MOST 1048576: true; the input reads as it did. -/
def fnExactStepBoardUptoRow : OpenClaim := { program := "ytndfaaebflhggaagreat", sum := "6d2fe3651ce0f97423aa5edc19561e9b75bff46133b01d7019c3ced0adbf85e5", func := "loop.example/g03311/laws.FnExactStepBoard", spec := "fnExactStepBoard", apart := false, narrowed := true }
def FnExactStepBoardUptoSaid : Prop := fnExactStepBoardUptoRow.holds Tryz.pinned (OpenSpec.upto fnExactStepBoardSpec)

/-- 'laws.FnExactDoAct', WHERE WHAT IT READS IS OF BULK AT MOST 1048576: true; the input reads as it did. -/
def fnExactDoActUptoRow : OpenClaim := { program := "ytndfaaebflhggaagreat", sum := "6d2fe3651ce0f97423aa5edc19561e9b75bff46133b01d7019c3ced0adbf85e5", func := "loop.example/g03311/laws.FnExactDoAct", spec := "fnExactDoAct", apart := false, narrowed := true }
def FnExactDoActUptoSaid : Prop := fnExactDoActUptoRow.holds Tryz.pinned (OpenSpec.upto fnExactDoActSpec)

/-- 'laws.FnExactRunActs', WHERE WHAT IT READS IS OF BULK AT MOST 1048576: true; the input reads as it did. -/
def fnExactRunActsUptoRow : OpenClaim := { program := "ytndfaaebflhggaagreat", sum := "6d2fe3651ce0f97423aa5edc19561e9b75bff46133b01d7019c3ced0adbf85e5", func := "loop.example/g03311/laws.FnExactRunActs", spec := "fnExactRunActs", apart := false, narrowed := true }
def FnExactRunActsUptoSaid : Prop := fnExactRunActsUptoRow.holds Tryz.pinned (OpenSpec.upto fnExactRunActsSpec)

end Rows
end Go.Proofs.YtndfaaebflhggaaGreat
