/-
  No cell of these rows narrows 'for every input' (looked for: loops, veiled, ifaces, maps, wideKeys, modest, calm, conditions, laid).
  DERIVED. THE GIVEN ROWS OF THIS SEAT. 6 by the template 'for every input the law returns true; each argument reads behind the call as it read before'; 0 by the template 'total and deterministic' (their statements: YtbnfdhidgdfbeaaTotals.lean).
  GIVEN WITH THE SEED: the statements are not yours to turn. If you find one false, say at which input.
  Laid BY PROGRAM, IN A SANDBOX (cutbox-rows.mjs): the forced cells as the released guide's own fill.sh prints them over the translation 9d45d7f575f5b842… (all of the seat's roots in one cut). By AI agents, Wed Nov 11 2026. No macro, syntax, notation, axiom, sorry.
-/
import Derived.Test.YtbnfdhidgdfbeaaChecked
import GoSem.Claim
import GoSem.ClaimJoined
import GoSem.ClaimMapViews
import Derived.JoinedTies
import Derived.KernelRfl
namespace Go.Proofs.Ytbnfdhidgdfbeaa
/- THE CELL 'sum', in the pinned program and in every row, IS THE sha256 OF THE DUMP (.gsa) THAT YtbnfdhidgdfbeaaProg.lean LOADS. Nothing in Lean hashes anything: it is a label: what it is worth is what the hold of that sum in a sandbox is worth. -/
noncomputable def Try.pinned : Pinned := { name := "ytbnfdhidgdfbeaa", sum := "9d45d7f575f5b84233f43672d0879bc688f21d9c8b856b45d48cafe2e78d2983", checked := Try.checked }
namespace Rows
def none {H : Type} : Left H := { results := [], args := [] }

/-- 'laws.FnExactBuildFrames': WHATEVER THE INPUT: true; the input reads as it did. -/
def fnExactBuildFramesSpec : ChangeSpec := { name := "fnExactBuildFrames", fn := fun _ => fun
  | [d1, d2] => { results := [.lit (.bool true)], args := [d1, d2] }
  | _ => none }
def fnExactBuildFramesRow : OpenClaim := { program := "ytbnfdhidgdfbeaa", sum := "9d45d7f575f5b84233f43672d0879bc688f21d9c8b856b45d48cafe2e78d2983", func := "loop.example/g03311/laws.FnExactBuildFrames", spec := "fnExactBuildFrames", apart := false }
def FnExactBuildFramesSaid : Prop := fnExactBuildFramesRow.holds Try.pinned (OpenSpec.ofChange fnExactBuildFramesSpec)

/-- ITS FALSE NEIGHBOUR: 'it returns false'. Refute it at one input. -/
def fnExactBuildFramesWrong : ChangeSpec := { name := "fnExactBuildFrames", fn := fun _ => fun
  | [d1, d2] => { results := [.lit (.bool false)], args := [d1, d2] }
  | _ => none }
def FnExactBuildFramesWrongFalsely : Prop := fnExactBuildFramesRow.holds Try.pinned (OpenSpec.ofChange fnExactBuildFramesWrong)

/-- 'laws.FnScrubbed': WHATEVER THE INPUT: true; the input reads as it did. -/
def fnScrubbedSpec : ChangeSpec := { name := "fnScrubbed", fn := fun _ => fun
  | [d] => { results := [.lit (.bool true)], args := [d] }
  | _ => none }
def fnScrubbedRow : OpenClaim := { program := "ytbnfdhidgdfbeaa", sum := "9d45d7f575f5b84233f43672d0879bc688f21d9c8b856b45d48cafe2e78d2983", func := "loop.example/g03311/laws.FnScrubbed", spec := "fnScrubbed", apart := false }
def FnScrubbedSaid : Prop := fnScrubbedRow.holds Try.pinned (OpenSpec.ofChange fnScrubbedSpec)

/-- ITS FALSE NEIGHBOUR: 'it returns false'. Refute it at one input. -/
def fnScrubbedWrong : ChangeSpec := { name := "fnScrubbed", fn := fun _ => fun
  | [d] => { results := [.lit (.bool false)], args := [d] }
  | _ => none }
def FnScrubbedWrongFalsely : Prop := fnScrubbedRow.holds Try.pinned (OpenSpec.ofChange fnScrubbedWrong)

/-- 'laws.FnFramesRound': WHATEVER THE INPUT: true; the input reads as it did. -/
def fnFramesRoundSpec : ChangeSpec := { name := "fnFramesRound", fn := fun _ => fun
  | [d] => { results := [.lit (.bool true)], args := [d] }
  | _ => none }
def fnFramesRoundRow : OpenClaim := { program := "ytbnfdhidgdfbeaa", sum := "9d45d7f575f5b84233f43672d0879bc688f21d9c8b856b45d48cafe2e78d2983", func := "loop.example/g03311/laws.FnFramesRound", spec := "fnFramesRound", apart := false }
def FnFramesRoundSaid : Prop := fnFramesRoundRow.holds Try.pinned (OpenSpec.ofChange fnFramesRoundSpec)

/-- ITS FALSE NEIGHBOUR: 'it returns false'. Refute it at one input. -/
def fnFramesRoundWrong : ChangeSpec := { name := "fnFramesRound", fn := fun _ => fun
  | [d] => { results := [.lit (.bool false)], args := [d] }
  | _ => none }
def FnFramesRoundWrongFalsely : Prop := fnFramesRoundRow.holds Try.pinned (OpenSpec.ofChange fnFramesRoundWrong)

/-- 'laws.FnSignalsFollow': WHATEVER THE INPUT: true; the input reads as it did. -/
def fnSignalsFollowSpec : ChangeSpec := { name := "fnSignalsFollow", fn := fun _ => fun
  | [d] => { results := [.lit (.bool true)], args := [d] }
  | _ => none }
def fnSignalsFollowRow : OpenClaim := { program := "ytbnfdhidgdfbeaa", sum := "9d45d7f575f5b84233f43672d0879bc688f21d9c8b856b45d48cafe2e78d2983", func := "loop.example/g03311/laws.FnSignalsFollow", spec := "fnSignalsFollow", apart := false }
def FnSignalsFollowSaid : Prop := fnSignalsFollowRow.holds Try.pinned (OpenSpec.ofChange fnSignalsFollowSpec)

/-- ITS FALSE NEIGHBOUR: 'it returns false'. Refute it at one input. -/
def fnSignalsFollowWrong : ChangeSpec := { name := "fnSignalsFollow", fn := fun _ => fun
  | [d] => { results := [.lit (.bool false)], args := [d] }
  | _ => none }
def FnSignalsFollowWrongFalsely : Prop := fnSignalsFollowRow.holds Try.pinned (OpenSpec.ofChange fnSignalsFollowWrong)

/-- 'laws.FnLoopsFixed': WHATEVER THE INPUT: true; the input reads as it did. -/
def fnLoopsFixedSpec : ChangeSpec := { name := "fnLoopsFixed", fn := fun _ => fun
  | [d] => { results := [.lit (.bool true)], args := [d] }
  | _ => none }
def fnLoopsFixedRow : OpenClaim := { program := "ytbnfdhidgdfbeaa", sum := "9d45d7f575f5b84233f43672d0879bc688f21d9c8b856b45d48cafe2e78d2983", func := "loop.example/g03311/laws.FnLoopsFixed", spec := "fnLoopsFixed", apart := false }
def FnLoopsFixedSaid : Prop := fnLoopsFixedRow.holds Try.pinned (OpenSpec.ofChange fnLoopsFixedSpec)

/-- ITS FALSE NEIGHBOUR: 'it returns false'. Refute it at one input. -/
def fnLoopsFixedWrong : ChangeSpec := { name := "fnLoopsFixed", fn := fun _ => fun
  | [d] => { results := [.lit (.bool false)], args := [d] }
  | _ => none }
def FnLoopsFixedWrongFalsely : Prop := fnLoopsFixedRow.holds Try.pinned (OpenSpec.ofChange fnLoopsFixedWrong)

/-- 'laws.FnEmuSteps': WHATEVER THE INPUT: true; the input reads as it did. -/
def fnEmuStepsSpec : ChangeSpec := { name := "fnEmuSteps", fn := fun _ => fun
  | [d] => { results := [.lit (.bool true)], args := [d] }
  | _ => none }
def fnEmuStepsRow : OpenClaim := { program := "ytbnfdhidgdfbeaa", sum := "9d45d7f575f5b84233f43672d0879bc688f21d9c8b856b45d48cafe2e78d2983", func := "loop.example/g03311/laws.FnEmuSteps", spec := "fnEmuSteps", apart := false }
def FnEmuStepsSaid : Prop := fnEmuStepsRow.holds Try.pinned (OpenSpec.ofChange fnEmuStepsSpec)

/-- ITS FALSE NEIGHBOUR: 'it returns false'. Refute it at one input. -/
def fnEmuStepsWrong : ChangeSpec := { name := "fnEmuSteps", fn := fun _ => fun
  | [d] => { results := [.lit (.bool false)], args := [d] }
  | _ => none }
def FnEmuStepsWrongFalsely : Prop := fnEmuStepsRow.holds Try.pinned (OpenSpec.ofChange fnEmuStepsWrong)

/- THE SECOND FORM. 'bulk': how many values and letters a reading holds, each counted each time it is reached (what is shared counts as often as it is met; a slice's spare places count too). A statement '..UptoSaid' is the law's where the arguments, and the package variables that the reading takes, are together of bulk at most 1048576: NARROWER than '..Said'. Prove '..Said' where nothing that the law and all that it calls make is longer than what came in: it says more and counts as full. Else prove '..UptoSaid'. A law counts once. -/
mutual
def uptoBulk {H : Type} : DataW H → Nat
  | .lit (.string bytes) => bytes.length + 1
  | .lit _ => 1
  | .nil => 1
  | .ptr d => uptoBulk d + 1
  | .slice elems spare => uptoBulkAll elems + uptoBulkAll spare + 1
  | .agg parts => uptoBulkAll parts + 1
  | .iface _ d => uptoBulk d + 1
  | .map entries => uptoBulkEntries entries + 1
  | .held _ => 1
def uptoBulkAll {H : Type} : List (DataW H) → Nat
  | [] => 0
  | d :: r => uptoBulk d + uptoBulkAll r
def uptoBulkEntries {H : Type} : List (Lit × DataW H) → Nat
  | [] => 0
  | x :: r => uptoBulkEntry x + uptoBulkEntries r
def uptoBulkEntry {H : Type} : Lit × DataW H → Nat
  | (.string bytes, d) => bytes.length + uptoBulk d + 1
  | (_, d) => uptoBulk d + 1
 end
def uptoSmall : (H : Type) → List (DataW H) → Bool := fun _ ds => decide (uptoBulkAll ds ≤ 1048576)
def OpenSpec.upto (s : _root_.Go.ChangeSpec) : _root_.Go.OpenSpec := { _root_.Go.OpenSpec.ofChange s with cond := some uptoSmall }

/-- 'laws.FnExactBuildFrames', WHERE WHAT IT READS IS OF BULK AT MOST 1048576: true; the input reads as it did. -/
def fnExactBuildFramesUptoRow : OpenClaim := { program := "ytbnfdhidgdfbeaa", sum := "9d45d7f575f5b84233f43672d0879bc688f21d9c8b856b45d48cafe2e78d2983", func := "loop.example/g03311/laws.FnExactBuildFrames", spec := "fnExactBuildFrames", apart := false, narrowed := true }
def FnExactBuildFramesUptoSaid : Prop := fnExactBuildFramesUptoRow.holds Try.pinned (OpenSpec.upto fnExactBuildFramesSpec)

/-- 'laws.FnScrubbed', WHERE WHAT IT READS IS OF BULK AT MOST 1048576: true; the input reads as it did. -/
def fnScrubbedUptoRow : OpenClaim := { program := "ytbnfdhidgdfbeaa", sum := "9d45d7f575f5b84233f43672d0879bc688f21d9c8b856b45d48cafe2e78d2983", func := "loop.example/g03311/laws.FnScrubbed", spec := "fnScrubbed", apart := false, narrowed := true }
def FnScrubbedUptoSaid : Prop := fnScrubbedUptoRow.holds Try.pinned (OpenSpec.upto fnScrubbedSpec)

/-- 'laws.FnFramesRound', WHERE WHAT IT READS IS OF BULK AT MOST 1048576: true; the input reads as it did. -/
def fnFramesRoundUptoRow : OpenClaim := { program := "ytbnfdhidgdfbeaa", sum := "9d45d7f575f5b84233f43672d0879bc688f21d9c8b856b45d48cafe2e78d2983", func := "loop.example/g03311/laws.FnFramesRound", spec := "fnFramesRound", apart := false, narrowed := true }
def FnFramesRoundUptoSaid : Prop := fnFramesRoundUptoRow.holds Try.pinned (OpenSpec.upto fnFramesRoundSpec)

/-- 'laws.FnSignalsFollow', WHERE WHAT IT READS IS OF BULK AT MOST 1048576: true; the input reads as it did. -/
def fnSignalsFollowUptoRow : OpenClaim := { program := "ytbnfdhidgdfbeaa", sum := "9d45d7f575f5b84233f43672d0879bc688f21d9c8b856b45d48cafe2e78d2983", func := "loop.example/g03311/laws.FnSignalsFollow", spec := "fnSignalsFollow", apart := false, narrowed := true }
def FnSignalsFollowUptoSaid : Prop := fnSignalsFollowUptoRow.holds Try.pinned (OpenSpec.upto fnSignalsFollowSpec)

/-- 'laws.FnLoopsFixed', WHERE WHAT IT READS IS OF BULK AT MOST 1048576: true; the input reads as it did. -/
def fnLoopsFixedUptoRow : OpenClaim := { program := "ytbnfdhidgdfbeaa", sum := "9d45d7f575f5b84233f43672d0879bc688f21d9c8b856b45d48cafe2e78d2983", func := "loop.example/g03311/laws.FnLoopsFixed", spec := "fnLoopsFixed", apart := false, narrowed := true }
def FnLoopsFixedUptoSaid : Prop := fnLoopsFixedUptoRow.holds Try.pinned (OpenSpec.upto fnLoopsFixedSpec)

/-- 'laws.FnEmuSteps', WHERE WHAT IT READS IS OF BULK AT MOST 1048576: true; the input reads as it did. -/
def fnEmuStepsUptoRow : OpenClaim := { program := "ytbnfdhidgdfbeaa", sum := "9d45d7f575f5b84233f43672d0879bc688f21d9c8b856b45d48cafe2e78d2983", func := "loop.example/g03311/laws.FnEmuSteps", spec := "fnEmuSteps", apart := false, narrowed := true }
def FnEmuStepsUptoSaid : Prop := fnEmuStepsUptoRow.holds Try.pinned (OpenSpec.upto fnEmuStepsSpec)

end Rows
end Go.Proofs.Ytbnfdhidgdfbeaa
