/-
  No cell of these rows narrows 'for every input' (looked for: loops, veiled, ifaces, maps, wideKeys, modest, calm, conditions, laid).
  DERIVED. THE GIVEN ROWS OF THIS SEAT. 6 by the template 'for every input the law returns true; each argument reads behind the call as it read before'; 0 by the template 'total and deterministic' (their statements: YtndfaaebflhggaaTotals.lean).
  GIVEN WITH THE SEED: the statements are not yours to turn. If you find one false, say at which input.
  Laid BY PROGRAM, IN A SANDBOX (cutbox-rows.mjs): the forced cells as the released guide's own fill.sh prints them over the translation a35f68c378b12509… (all of the seat's roots in one cut). By AI agents, Wed Nov 11 2026. No macro, syntax, notation, axiom, sorry.
-/
import Derived.Test.YtndfaaebflhggaaChecked
import GoSem.Claim
import GoSem.ClaimJoined
import GoSem.ClaimMapViews
import Derived.JoinedTies
import Derived.KernelRfl
namespace Go.Proofs.Ytndfaaebflhggaa
/- THE CELL 'sum', in the pinned program and in every row, IS THE sha256 OF THE DUMP (.gsa) THAT YtndfaaebflhggaaProg.lean LOADS. Nothing in Lean hashes anything: it is a label: what it is worth is what the hold of that sum in a sandbox is worth. -/
noncomputable def Try.pinned : Pinned := { name := "ytndfaaebflhggaa", sum := "a35f68c378b12509a2ba02f6aa1a1738c232b62a5e9634844b626e5580336c9b", checked := Try.checked }
namespace Rows
def none {H : Type} : Left H := { results := [], args := [] }

/-- 'laws.FnExactBuildFrames': WHATEVER THE INPUT: true; the input reads as it did. -/
def fnExactBuildFramesSpec : ChangeSpec := { name := "fnExactBuildFrames", fn := fun _ => fun
  | [d1, d2] => { results := [.lit (.bool true)], args := [d1, d2] }
  | _ => none }
def fnExactBuildFramesRow : OpenClaim := { program := "ytndfaaebflhggaa", sum := "a35f68c378b12509a2ba02f6aa1a1738c232b62a5e9634844b626e5580336c9b", func := "loop.example/g03311/laws.FnExactBuildFrames", spec := "fnExactBuildFrames", apart := false }
def FnExactBuildFramesSaid : Prop := fnExactBuildFramesRow.holds Try.pinned (OpenSpec.ofChange fnExactBuildFramesSpec)

/-- ITS FALSE NEIGHBOUR: 'it returns false'. Refute it at one input. -/
def fnExactBuildFramesWrong : ChangeSpec := { name := "fnExactBuildFrames", fn := fun _ => fun
  | [d1, d2] => { results := [.lit (.bool false)], args := [d1, d2] }
  | _ => none }
def FnExactBuildFramesWrongFalsely : Prop := fnExactBuildFramesRow.holds Try.pinned (OpenSpec.ofChange fnExactBuildFramesWrong)

/-- 'laws.FnScrubbed': WHATEVER THE INPUT: true; the input reads as it did. -/
def fnScrubbedSpec : ChangeSpec := { name := "fnScrubbed", fn := fun _ => fun
  | [d] => { results := [.lit (.bool true)], args := [d] }
  | _ => none }
def fnScrubbedRow : OpenClaim := { program := "ytndfaaebflhggaa", sum := "a35f68c378b12509a2ba02f6aa1a1738c232b62a5e9634844b626e5580336c9b", func := "loop.example/g03311/laws.FnScrubbed", spec := "fnScrubbed", apart := false }
def FnScrubbedSaid : Prop := fnScrubbedRow.holds Try.pinned (OpenSpec.ofChange fnScrubbedSpec)

/-- ITS FALSE NEIGHBOUR: 'it returns false'. Refute it at one input. -/
def fnScrubbedWrong : ChangeSpec := { name := "fnScrubbed", fn := fun _ => fun
  | [d] => { results := [.lit (.bool false)], args := [d] }
  | _ => none }
def FnScrubbedWrongFalsely : Prop := fnScrubbedRow.holds Try.pinned (OpenSpec.ofChange fnScrubbedWrong)

/-- 'laws.FnFramesRound': WHATEVER THE INPUT: true; the input reads as it did. -/
def fnFramesRoundSpec : ChangeSpec := { name := "fnFramesRound", fn := fun _ => fun
  | [d] => { results := [.lit (.bool true)], args := [d] }
  | _ => none }
def fnFramesRoundRow : OpenClaim := { program := "ytndfaaebflhggaa", sum := "a35f68c378b12509a2ba02f6aa1a1738c232b62a5e9634844b626e5580336c9b", func := "loop.example/g03311/laws.FnFramesRound", spec := "fnFramesRound", apart := false }
def FnFramesRoundSaid : Prop := fnFramesRoundRow.holds Try.pinned (OpenSpec.ofChange fnFramesRoundSpec)

/-- ITS FALSE NEIGHBOUR: 'it returns false'. Refute it at one input. -/
def fnFramesRoundWrong : ChangeSpec := { name := "fnFramesRound", fn := fun _ => fun
  | [d] => { results := [.lit (.bool false)], args := [d] }
  | _ => none }
def FnFramesRoundWrongFalsely : Prop := fnFramesRoundRow.holds Try.pinned (OpenSpec.ofChange fnFramesRoundWrong)

/-- 'laws.FnExactBeginRegion': WHATEVER THE INPUT: true; the input reads as it did. -/
def fnExactBeginRegionSpec : ChangeSpec := { name := "fnExactBeginRegion", fn := fun _ => fun
  | [d1, d2] => { results := [.lit (.bool true)], args := [d1, d2] }
  | _ => none }
def fnExactBeginRegionRow : OpenClaim := { program := "ytndfaaebflhggaa", sum := "a35f68c378b12509a2ba02f6aa1a1738c232b62a5e9634844b626e5580336c9b", func := "loop.example/g03311/laws.FnExactBeginRegion", spec := "fnExactBeginRegion", apart := false }
def FnExactBeginRegionSaid : Prop := fnExactBeginRegionRow.holds Try.pinned (OpenSpec.ofChange fnExactBeginRegionSpec)

/-- ITS FALSE NEIGHBOUR: 'it returns false'. Refute it at one input. -/
def fnExactBeginRegionWrong : ChangeSpec := { name := "fnExactBeginRegion", fn := fun _ => fun
  | [d1, d2] => { results := [.lit (.bool false)], args := [d1, d2] }
  | _ => none }
def FnExactBeginRegionWrongFalsely : Prop := fnExactBeginRegionRow.holds Try.pinned (OpenSpec.ofChange fnExactBeginRegionWrong)

/-- 'laws.FnExactUpsetBit': WHATEVER THE INPUT: true; the input reads as it did. -/
def fnExactUpsetBitSpec : ChangeSpec := { name := "fnExactUpsetBit", fn := fun _ => fun
  | [d1, d2, d3, d4] => { results := [.lit (.bool true)], args := [d1, d2, d3, d4] }
  | _ => none }
def fnExactUpsetBitRow : OpenClaim := { program := "ytndfaaebflhggaa", sum := "a35f68c378b12509a2ba02f6aa1a1738c232b62a5e9634844b626e5580336c9b", func := "loop.example/g03311/laws.FnExactUpsetBit", spec := "fnExactUpsetBit", apart := false }
def FnExactUpsetBitSaid : Prop := fnExactUpsetBitRow.holds Try.pinned (OpenSpec.ofChange fnExactUpsetBitSpec)

/-- ITS FALSE NEIGHBOUR: 'it returns false'. Refute it at one input. -/
def fnExactUpsetBitWrong : ChangeSpec := { name := "fnExactUpsetBit", fn := fun _ => fun
  | [d1, d2, d3, d4] => { results := [.lit (.bool false)], args := [d1, d2, d3, d4] }
  | _ => none }
def FnExactUpsetBitWrongFalsely : Prop := fnExactUpsetBitRow.holds Try.pinned (OpenSpec.ofChange fnExactUpsetBitWrong)

/-- 'laws.FnExactAbortRegion': WHATEVER THE INPUT: true; the input reads as it did. -/
def fnExactAbortRegionSpec : ChangeSpec := { name := "fnExactAbortRegion", fn := fun _ => fun
  | [d] => { results := [.lit (.bool true)], args := [d] }
  | _ => none }
def fnExactAbortRegionRow : OpenClaim := { program := "ytndfaaebflhggaa", sum := "a35f68c378b12509a2ba02f6aa1a1738c232b62a5e9634844b626e5580336c9b", func := "loop.example/g03311/laws.FnExactAbortRegion", spec := "fnExactAbortRegion", apart := false }
def FnExactAbortRegionSaid : Prop := fnExactAbortRegionRow.holds Try.pinned (OpenSpec.ofChange fnExactAbortRegionSpec)

/-- ITS FALSE NEIGHBOUR: 'it returns false'. Refute it at one input. -/
def fnExactAbortRegionWrong : ChangeSpec := { name := "fnExactAbortRegion", fn := fun _ => fun
  | [d] => { results := [.lit (.bool false)], args := [d] }
  | _ => none }
def FnExactAbortRegionWrongFalsely : Prop := fnExactAbortRegionRow.holds Try.pinned (OpenSpec.ofChange fnExactAbortRegionWrong)

/- THE SECOND FORM. 'bulk': how many values and letters a reading holds, each counted each time it is reached (what is shared counts as often as it is met; a slice's spare places count too). A statement '..UptoSaid' is the law's where the arguments, and the package variables that the reading takes, are together of bulk at most 1048576: NARROWER than '..Said'. Prove '..Said' where nothing that the law and all that it calls make is longer than what came in: it says more and counts as full. Else prove '..UptoSaid'. A law counts once. -/
mutual
def uptoBulk {H : Type} : DataW H → Nat
  | .lit (.string bytes) => bytes.length + 1
  | .lit _ => 1
  | .nil => 1
  | .ptr d => uptoBulk d + 1
  | .slice elems spare => uptoBulkAll elems + uptoBulkAll spare + 1
  | .agg parts => uptoBulkAll parts + 1
  | .iface _ d => uptoBulk d + 1
  | .map entries => uptoBulkEntries entries + 1
  | .held _ => 1
def uptoBulkAll {H : Type} : List (DataW H) → Nat
  | [] => 0
  | d :: r => uptoBulk d + uptoBulkAll r
def uptoBulkEntries {H : Type} : List (Lit × DataW H) → Nat
  | [] => 0
  | x :: r => uptoBulkEntry x + uptoBulkEntries r
def uptoBulkEntry {H : Type} : Lit × DataW H → Nat
  | (.string bytes, d) => bytes.length + uptoBulk d + 1
  | (_, d) => uptoBulk d + 1
 end
def uptoSmall : (H : Type) → List (DataW H) → Bool := fun _ ds => decide (uptoBulkAll ds ≤ 1048576)
def OpenSpec.upto (s : _root_.Go.ChangeSpec) : _root_.Go.OpenSpec := { _root_.Go.OpenSpec.ofChange s with cond := some uptoSmall }

/-- 'laws.FnExactBuildFrames', WHERE WHAT IT READS IS OF BULK AT MOST 1048576: true; the input reads as it did. -/
def fnExactBuildFramesUptoRow : OpenClaim := { program := "ytndfaaebflhggaa", sum := "a35f68c378b12509a2ba02f6aa1a1738c232b62a5e9634844b626e5580336c9b", func := "loop.example/g03311/laws.FnExactBuildFrames", spec := "fnExactBuildFrames", apart := false, narrowed := true }
def FnExactBuildFramesUptoSaid : Prop := fnExactBuildFramesUptoRow.holds Try.pinned (OpenSpec.upto fnExactBuildFramesSpec)

/-- 'laws.FnScrubbed', WHERE WHAT IT READS IS OF BULK AT MOST 1048576: true; the input reads as it did. -/
def fnScrubbedUptoRow : OpenClaim := { program := "ytndfaaebflhggaa", sum := "a35f68c378b12509a2ba02f6aa1a1738c232b62a5e9634844b626e5580336c9b", func := "loop.example/g03311/laws.FnScrubbed", spec := "fnScrubbed", apart := false, narrowed := true }
def FnScrubbedUptoSaid : Prop := fnScrubbedUptoRow.holds Try.pinned (OpenSpec.upto fnScrubbedSpec)

/-- 'laws.FnFramesRound', WHERE WHAT IT READS IS OF BULK AT MOST 1048576: true; the input reads as it did. -/
def fnFramesRoundUptoRow : OpenClaim := { program := "ytndfaaebflhggaa", sum := "a35f68c378b12509a2ba02f6aa1a1738c232b62a5e9634844b626e5580336c9b", func := "loop.example/g03311/laws.FnFramesRound", spec := "fnFramesRound", apart := false, narrowed := true }
def FnFramesRoundUptoSaid : Prop := fnFramesRoundUptoRow.holds Try.pinned (OpenSpec.upto fnFramesRoundSpec)

/-- 'laws.FnExactBeginRegion', WHERE WHAT IT READS IS OF BULK AT MOST 1048576: true; the input reads as it did. -/
def fnExactBeginRegionUptoRow : OpenClaim := { program := "ytndfaaebflhggaa", sum := "a35f68c378b12509a2ba02f6aa1a1738c232b62a5e9634844b626e5580336c9b", func := "loop.example/g03311/laws.FnExactBeginRegion", spec := "fnExactBeginRegion", apart := false, narrowed := true }
def FnExactBeginRegionUptoSaid : Prop := fnExactBeginRegionUptoRow.holds Try.pinned (OpenSpec.upto fnExactBeginRegionSpec)

/-- 'laws.FnExactUpsetBit', WHERE WHAT IT READS IS OF BULK AT MOST 1048576: true; the input reads as it did. -/
def fnExactUpsetBitUptoRow : OpenClaim := { program := "ytndfaaebflhggaa", sum := "a35f68c378b12509a2ba02f6aa1a1738c232b62a5e9634844b626e5580336c9b", func := "loop.example/g03311/laws.FnExactUpsetBit", spec := "fnExactUpsetBit", apart := false, narrowed := true }
def FnExactUpsetBitUptoSaid : Prop := fnExactUpsetBitUptoRow.holds Try.pinned (OpenSpec.upto fnExactUpsetBitSpec)

/-- 'laws.FnExactAbortRegion', WHERE WHAT IT READS IS OF BULK AT MOST 1048576: true; the input reads as it did. -/
def fnExactAbortRegionUptoRow : OpenClaim := { program := "ytndfaaebflhggaa", sum := "a35f68c378b12509a2ba02f6aa1a1738c232b62a5e9634844b626e5580336c9b", func := "loop.example/g03311/laws.FnExactAbortRegion", spec := "fnExactAbortRegion", apart := false, narrowed := true }
def FnExactAbortRegionUptoSaid : Prop := fnExactAbortRegionUptoRow.holds Try.pinned (OpenSpec.upto fnExactAbortRegionSpec)

end Rows
end Go.Proofs.Ytndfaaebflhggaa
