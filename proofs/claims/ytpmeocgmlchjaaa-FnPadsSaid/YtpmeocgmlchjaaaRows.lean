/-
  No cell of these rows narrows 'for every input' (looked for: loops, veiled, ifaces, maps, wideKeys, modest, calm, conditions, laid).
  DERIVED. THE GIVEN ROWS OF THIS SEAT. 12 by the template 'for every input the law returns true; each argument reads behind the call as it read before'; 0 by the template 'total and deterministic' (their statements: YtpmeocgmlchjaaaTotals.lean).
  GIVEN WITH THE SEED: the statements are not yours to turn. If you find one false, say at which input.
  Laid BY PROGRAM, IN A SANDBOX (cutbox-rows.mjs): the forced cells as the released guide's own fill.sh prints them over the translation 391f130c0750bd47… (all of the seat's roots in one cut). By AI agents, Wed Nov 11 2026. No macro, syntax, notation, axiom, sorry.
-/
import Derived.Test.YtpmeocgmlchjaaaChecked
import GoSem.Claim
import GoSem.ClaimJoined
import GoSem.ClaimMapViews
import Derived.JoinedTies
import Derived.KernelRfl
namespace Go.Proofs.Ytpmeocgmlchjaaa
/- THE CELL 'sum', in the pinned program and in every row, IS THE sha256 OF THE DUMP (.gsa) THAT YtpmeocgmlchjaaaProg.lean LOADS. Nothing in Lean hashes anything: it is a label: what it is worth is what the hold of that sum in a sandbox is worth. -/
noncomputable def Try.pinned : Pinned := { name := "ytpmeocgmlchjaaa", sum := "391f130c0750bd475aa12e9947b7cf466d57da16e56b056634c638a1c48118c5", checked := Try.checked }
namespace Rows
def none {H : Type} : Left H := { results := [], args := [] }

/-- 'laws.FnExactRegionOk': WHATEVER THE INPUT: true; the input reads as it did. -/
def fnExactRegionOkSpec : ChangeSpec := { name := "fnExactRegionOk", fn := fun _ => fun
  | [d1, d2] => { results := [.lit (.bool true)], args := [d1, d2] }
  | _ => none }
def fnExactRegionOkRow : OpenClaim := { program := "ytpmeocgmlchjaaa", sum := "391f130c0750bd475aa12e9947b7cf466d57da16e56b056634c638a1c48118c5", func := "loop.example/g03311/laws.FnExactRegionOk", spec := "fnExactRegionOk", apart := false }
def FnExactRegionOkSaid : Prop := fnExactRegionOkRow.holds Try.pinned (OpenSpec.ofChange fnExactRegionOkSpec)

/-- ITS FALSE NEIGHBOUR: 'it returns false'. Refute it at one input. -/
def fnExactRegionOkWrong : ChangeSpec := { name := "fnExactRegionOk", fn := fun _ => fun
  | [d1, d2] => { results := [.lit (.bool false)], args := [d1, d2] }
  | _ => none }
def FnExactRegionOkWrongFalsely : Prop := fnExactRegionOkRow.holds Try.pinned (OpenSpec.ofChange fnExactRegionOkWrong)

/-- 'laws.FnExactBitsAt': WHATEVER THE INPUT: true; the input reads as it did. -/
def fnExactBitsAtSpec : ChangeSpec := { name := "fnExactBitsAt", fn := fun _ => fun
  | [d1, d2] => { results := [.lit (.bool true)], args := [d1, d2] }
  | _ => none }
def fnExactBitsAtRow : OpenClaim := { program := "ytpmeocgmlchjaaa", sum := "391f130c0750bd475aa12e9947b7cf466d57da16e56b056634c638a1c48118c5", func := "loop.example/g03311/laws.FnExactBitsAt", spec := "fnExactBitsAt", apart := false }
def FnExactBitsAtSaid : Prop := fnExactBitsAtRow.holds Try.pinned (OpenSpec.ofChange fnExactBitsAtSpec)

/-- ITS FALSE NEIGHBOUR: 'it returns false'. Refute it at one input. -/
def fnExactBitsAtWrong : ChangeSpec := { name := "fnExactBitsAt", fn := fun _ => fun
  | [d1, d2] => { results := [.lit (.bool false)], args := [d1, d2] }
  | _ => none }
def FnExactBitsAtWrongFalsely : Prop := fnExactBitsAtRow.holds Try.pinned (OpenSpec.ofChange fnExactBitsAtWrong)

/-- 'laws.FnExactChecksum': WHATEVER THE INPUT: true; the input reads as it did. -/
def fnExactChecksumSpec : ChangeSpec := { name := "fnExactChecksum", fn := fun _ => fun
  | [d] => { results := [.lit (.bool true)], args := [d] }
  | _ => none }
def fnExactChecksumRow : OpenClaim := { program := "ytpmeocgmlchjaaa", sum := "391f130c0750bd475aa12e9947b7cf466d57da16e56b056634c638a1c48118c5", func := "loop.example/g03311/laws.FnExactChecksum", spec := "fnExactChecksum", apart := false }
def FnExactChecksumSaid : Prop := fnExactChecksumRow.holds Try.pinned (OpenSpec.ofChange fnExactChecksumSpec)

/-- ITS FALSE NEIGHBOUR: 'it returns false'. Refute it at one input. -/
def fnExactChecksumWrong : ChangeSpec := { name := "fnExactChecksum", fn := fun _ => fun
  | [d] => { results := [.lit (.bool false)], args := [d] }
  | _ => none }
def FnExactChecksumWrongFalsely : Prop := fnExactChecksumRow.holds Try.pinned (OpenSpec.ofChange fnExactChecksumWrong)

/-- 'laws.FnChecksumSees': WHATEVER THE INPUT: true; the input reads as it did. -/
def fnChecksumSeesSpec : ChangeSpec := { name := "fnChecksumSees", fn := fun _ => fun
  | [d] => { results := [.lit (.bool true)], args := [d] }
  | _ => none }
def fnChecksumSeesRow : OpenClaim := { program := "ytpmeocgmlchjaaa", sum := "391f130c0750bd475aa12e9947b7cf466d57da16e56b056634c638a1c48118c5", func := "loop.example/g03311/laws.FnChecksumSees", spec := "fnChecksumSees", apart := false }
def FnChecksumSeesSaid : Prop := fnChecksumSeesRow.holds Try.pinned (OpenSpec.ofChange fnChecksumSeesSpec)

/-- ITS FALSE NEIGHBOUR: 'it returns false'. Refute it at one input. -/
def fnChecksumSeesWrong : ChangeSpec := { name := "fnChecksumSees", fn := fun _ => fun
  | [d] => { results := [.lit (.bool false)], args := [d] }
  | _ => none }
def FnChecksumSeesWrongFalsely : Prop := fnChecksumSeesRow.holds Try.pinned (OpenSpec.ofChange fnChecksumSeesWrong)

/-- 'laws.FnPads': WHATEVER THE INPUT: true; the input reads as it did. -/
def fnPadsSpec : ChangeSpec := { name := "fnPads", fn := fun _ => fun
  | [d] => { results := [.lit (.bool true)], args := [d] }
  | _ => none }
def fnPadsRow : OpenClaim := { program := "ytpmeocgmlchjaaa", sum := "391f130c0750bd475aa12e9947b7cf466d57da16e56b056634c638a1c48118c5", func := "loop.example/g03311/laws.FnPads", spec := "fnPads", apart := false }
def FnPadsSaid : Prop := fnPadsRow.holds Try.pinned (OpenSpec.ofChange fnPadsSpec)

/-- ITS FALSE NEIGHBOUR: 'it returns false'. Refute it at one input. -/
def fnPadsWrong : ChangeSpec := { name := "fnPads", fn := fun _ => fun
  | [d] => { results := [.lit (.bool false)], args := [d] }
  | _ => none }
def FnPadsWrongFalsely : Prop := fnPadsRow.holds Try.pinned (OpenSpec.ofChange fnPadsWrong)

/-- 'laws.FnExactPadsFor': WHATEVER THE INPUT: true; the input reads as it did. -/
def fnExactPadsForSpec : ChangeSpec := { name := "fnExactPadsFor", fn := fun _ => fun
  | [d1, d2, d3] => { results := [.lit (.bool true)], args := [d1, d2, d3] }
  | _ => none }
def fnExactPadsForRow : OpenClaim := { program := "ytpmeocgmlchjaaa", sum := "391f130c0750bd475aa12e9947b7cf466d57da16e56b056634c638a1c48118c5", func := "loop.example/g03311/laws.FnExactPadsFor", spec := "fnExactPadsFor", apart := false }
def FnExactPadsForSaid : Prop := fnExactPadsForRow.holds Try.pinned (OpenSpec.ofChange fnExactPadsForSpec)

/-- ITS FALSE NEIGHBOUR: 'it returns false'. Refute it at one input. -/
def fnExactPadsForWrong : ChangeSpec := { name := "fnExactPadsFor", fn := fun _ => fun
  | [d1, d2, d3] => { results := [.lit (.bool false)], args := [d1, d2, d3] }
  | _ => none }
def FnExactPadsForWrongFalsely : Prop := fnExactPadsForRow.holds Try.pinned (OpenSpec.ofChange fnExactPadsForWrong)

/-- 'laws.FnExactRegionTiles': WHATEVER THE INPUT: true; the input reads as it did. -/
def fnExactRegionTilesSpec : ChangeSpec := { name := "fnExactRegionTiles", fn := fun _ => fun
  | [d1, d2] => { results := [.lit (.bool true)], args := [d1, d2] }
  | _ => none }
def fnExactRegionTilesRow : OpenClaim := { program := "ytpmeocgmlchjaaa", sum := "391f130c0750bd475aa12e9947b7cf466d57da16e56b056634c638a1c48118c5", func := "loop.example/g03311/laws.FnExactRegionTiles", spec := "fnExactRegionTiles", apart := false }
def FnExactRegionTilesSaid : Prop := fnExactRegionTilesRow.holds Try.pinned (OpenSpec.ofChange fnExactRegionTilesSpec)

/-- ITS FALSE NEIGHBOUR: 'it returns false'. Refute it at one input. -/
def fnExactRegionTilesWrong : ChangeSpec := { name := "fnExactRegionTiles", fn := fun _ => fun
  | [d1, d2] => { results := [.lit (.bool false)], args := [d1, d2] }
  | _ => none }
def FnExactRegionTilesWrongFalsely : Prop := fnExactRegionTilesRow.holds Try.pinned (OpenSpec.ofChange fnExactRegionTilesWrong)

/-- 'laws.FnExactEmuStateOk': WHATEVER THE INPUT: true; the input reads as it did. -/
def fnExactEmuStateOkSpec : ChangeSpec := { name := "fnExactEmuStateOk", fn := fun _ => fun
  | [d1, d2] => { results := [.lit (.bool true)], args := [d1, d2] }
  | _ => none }
def fnExactEmuStateOkRow : OpenClaim := { program := "ytpmeocgmlchjaaa", sum := "391f130c0750bd475aa12e9947b7cf466d57da16e56b056634c638a1c48118c5", func := "loop.example/g03311/laws.FnExactEmuStateOk", spec := "fnExactEmuStateOk", apart := false }
def FnExactEmuStateOkSaid : Prop := fnExactEmuStateOkRow.holds Try.pinned (OpenSpec.ofChange fnExactEmuStateOkSpec)

/-- ITS FALSE NEIGHBOUR: 'it returns false'. Refute it at one input. -/
def fnExactEmuStateOkWrong : ChangeSpec := { name := "fnExactEmuStateOk", fn := fun _ => fun
  | [d1, d2] => { results := [.lit (.bool false)], args := [d1, d2] }
  | _ => none }
def FnExactEmuStateOkWrongFalsely : Prop := fnExactEmuStateOkRow.holds Try.pinned (OpenSpec.ofChange fnExactEmuStateOkWrong)

/-- 'laws.FnOneFlipped': WHATEVER THE INPUT: true; the input reads as it did. -/
def fnOneFlippedSpec : ChangeSpec := { name := "fnOneFlipped", fn := fun _ => fun
  | [d] => { results := [.lit (.bool true)], args := [d] }
  | _ => none }
def fnOneFlippedRow : OpenClaim := { program := "ytpmeocgmlchjaaa", sum := "391f130c0750bd475aa12e9947b7cf466d57da16e56b056634c638a1c48118c5", func := "loop.example/g03311/laws.FnOneFlipped", spec := "fnOneFlipped", apart := false }
def FnOneFlippedSaid : Prop := fnOneFlippedRow.holds Try.pinned (OpenSpec.ofChange fnOneFlippedSpec)

/-- ITS FALSE NEIGHBOUR: 'it returns false'. Refute it at one input. -/
def fnOneFlippedWrong : ChangeSpec := { name := "fnOneFlipped", fn := fun _ => fun
  | [d] => { results := [.lit (.bool false)], args := [d] }
  | _ => none }
def FnOneFlippedWrongFalsely : Prop := fnOneFlippedRow.holds Try.pinned (OpenSpec.ofChange fnOneFlippedWrong)

/-- 'laws.FnExactFramesOk': WHATEVER THE INPUT: true; the input reads as it did. -/
def fnExactFramesOkSpec : ChangeSpec := { name := "fnExactFramesOk", fn := fun _ => fun
  | [d1, d2] => { results := [.lit (.bool true)], args := [d1, d2] }
  | _ => none }
def fnExactFramesOkRow : OpenClaim := { program := "ytpmeocgmlchjaaa", sum := "391f130c0750bd475aa12e9947b7cf466d57da16e56b056634c638a1c48118c5", func := "loop.example/g03311/laws.FnExactFramesOk", spec := "fnExactFramesOk", apart := false }
def FnExactFramesOkSaid : Prop := fnExactFramesOkRow.holds Try.pinned (OpenSpec.ofChange fnExactFramesOkSpec)

/-- ITS FALSE NEIGHBOUR: 'it returns false'. Refute it at one input. -/
def fnExactFramesOkWrong : ChangeSpec := { name := "fnExactFramesOk", fn := fun _ => fun
  | [d1, d2] => { results := [.lit (.bool false)], args := [d1, d2] }
  | _ => none }
def FnExactFramesOkWrongFalsely : Prop := fnExactFramesOkRow.holds Try.pinned (OpenSpec.ofChange fnExactFramesOkWrong)

/-- 'laws.FnExactRepairWord': WHATEVER THE INPUT: true; the input reads as it did. -/
def fnExactRepairWordSpec : ChangeSpec := { name := "fnExactRepairWord", fn := fun _ => fun
  | [d] => { results := [.lit (.bool true)], args := [d] }
  | _ => none }
def fnExactRepairWordRow : OpenClaim := { program := "ytpmeocgmlchjaaa", sum := "391f130c0750bd475aa12e9947b7cf466d57da16e56b056634c638a1c48118c5", func := "loop.example/g03311/laws.FnExactRepairWord", spec := "fnExactRepairWord", apart := false }
def FnExactRepairWordSaid : Prop := fnExactRepairWordRow.holds Try.pinned (OpenSpec.ofChange fnExactRepairWordSpec)

/-- ITS FALSE NEIGHBOUR: 'it returns false'. Refute it at one input. -/
def fnExactRepairWordWrong : ChangeSpec := { name := "fnExactRepairWord", fn := fun _ => fun
  | [d] => { results := [.lit (.bool false)], args := [d] }
  | _ => none }
def FnExactRepairWordWrongFalsely : Prop := fnExactRepairWordRow.holds Try.pinned (OpenSpec.ofChange fnExactRepairWordWrong)

/-- 'laws.FnExactFlipFrame': WHATEVER THE INPUT: true; the input reads as it did. -/
def fnExactFlipFrameSpec : ChangeSpec := { name := "fnExactFlipFrame", fn := fun _ => fun
  | [d1, d2, d3, d4, d5] => { results := [.lit (.bool true)], args := [d1, d2, d3, d4, d5] }
  | _ => none }
def fnExactFlipFrameRow : OpenClaim := { program := "ytpmeocgmlchjaaa", sum := "391f130c0750bd475aa12e9947b7cf466d57da16e56b056634c638a1c48118c5", func := "loop.example/g03311/laws.FnExactFlipFrame", spec := "fnExactFlipFrame", apart := false }
def FnExactFlipFrameSaid : Prop := fnExactFlipFrameRow.holds Try.pinned (OpenSpec.ofChange fnExactFlipFrameSpec)

/-- ITS FALSE NEIGHBOUR: 'it returns false'. Refute it at one input. -/
def fnExactFlipFrameWrong : ChangeSpec := { name := "fnExactFlipFrame", fn := fun _ => fun
  | [d1, d2, d3, d4, d5] => { results := [.lit (.bool false)], args := [d1, d2, d3, d4, d5] }
  | _ => none }
def FnExactFlipFrameWrongFalsely : Prop := fnExactFlipFrameRow.holds Try.pinned (OpenSpec.ofChange fnExactFlipFrameWrong)

/- THE SECOND FORM. 'bulk': how many values and letters a reading holds, each counted each time it is reached (what is shared counts as often as it is met; a slice's spare places count too). A statement '..UptoSaid' is the law's where the arguments, and the package variables that the reading takes, are together of bulk at most 1048576: NARROWER than '..Said'. Prove '..Said' where nothing that the law and all that it calls make is longer than what came in: it says more and counts as full. Else prove '..UptoSaid'. A law counts once. -/
mutual
def uptoBulk {H : Type} : DataW H → Nat
  | .lit (.string bytes) => bytes.length + 1
  | .lit _ => 1
  | .nil => 1
  | .ptr d => uptoBulk d + 1
  | .slice elems spare => uptoBulkAll elems + uptoBulkAll spare + 1
  | .agg parts => uptoBulkAll parts + 1
  | .iface _ d => uptoBulk d + 1
  | .map entries => uptoBulkEntries entries + 1
  | .held _ => 1
def uptoBulkAll {H : Type} : List (DataW H) → Nat
  | [] => 0
  | d :: r => uptoBulk d + uptoBulkAll r
def uptoBulkEntries {H : Type} : List (Lit × DataW H) → Nat
  | [] => 0
  | x :: r => uptoBulkEntry x + uptoBulkEntries r
def uptoBulkEntry {H : Type} : Lit × DataW H → Nat
  | (.string bytes, d) => bytes.length + uptoBulk d + 1
  | (_, d) => uptoBulk d + 1
 end
def uptoSmall : (H : Type) → List (DataW H) → Bool := fun _ ds => decide (uptoBulkAll ds ≤ 1048576)
def OpenSpec.upto (s : _root_.Go.ChangeSpec) : _root_.Go.OpenSpec := { _root_.Go.OpenSpec.ofChange s with cond := some uptoSmall }

/-- 'laws.FnExactRegionOk', WHERE WHAT IT READS IS OF BULK AT MOST 1048576: true; the input reads as it did. -/
def fnExactRegionOkUptoRow : OpenClaim := { program := "ytpmeocgmlchjaaa", sum := "391f130c0750bd475aa12e9947b7cf466d57da16e56b056634c638a1c48118c5", func := "loop.example/g03311/laws.FnExactRegionOk", spec := "fnExactRegionOk", apart := false, narrowed := true }
def FnExactRegionOkUptoSaid : Prop := fnExactRegionOkUptoRow.holds Try.pinned (OpenSpec.upto fnExactRegionOkSpec)

/-- 'laws.FnExactBitsAt', WHERE WHAT IT READS IS OF BULK AT MOST 1048576: true; the input reads as it did. -/
def fnExactBitsAtUptoRow : OpenClaim := { program := "ytpmeocgmlchjaaa", sum := "391f130c0750bd475aa12e9947b7cf466d57da16e56b056634c638a1c48118c5", func := "loop.example/g03311/laws.FnExactBitsAt", spec := "fnExactBitsAt", apart := false, narrowed := true }
def FnExactBitsAtUptoSaid : Prop := fnExactBitsAtUptoRow.holds Try.pinned (OpenSpec.upto fnExactBitsAtSpec)

/-- 'laws.FnExactChecksum', WHERE WHAT IT READS IS OF BULK AT MOST 1048576: true; the input reads as it did. -/
def fnExactChecksumUptoRow : OpenClaim := { program := "ytpmeocgmlchjaaa", sum := "391f130c0750bd475aa12e9947b7cf466d57da16e56b056634c638a1c48118c5", func := "loop.example/g03311/laws.FnExactChecksum", spec := "fnExactChecksum", apart := false, narrowed := true }
def FnExactChecksumUptoSaid : Prop := fnExactChecksumUptoRow.holds Try.pinned (OpenSpec.upto fnExactChecksumSpec)

/-- 'laws.FnChecksumSees', WHERE WHAT IT READS IS OF BULK AT MOST 1048576: true; the input reads as it did. -/
def fnChecksumSeesUptoRow : OpenClaim := { program := "ytpmeocgmlchjaaa", sum := "391f130c0750bd475aa12e9947b7cf466d57da16e56b056634c638a1c48118c5", func := "loop.example/g03311/laws.FnChecksumSees", spec := "fnChecksumSees", apart := false, narrowed := true }
def FnChecksumSeesUptoSaid : Prop := fnChecksumSeesUptoRow.holds Try.pinned (OpenSpec.upto fnChecksumSeesSpec)

/-- 'laws.FnPads', WHERE WHAT IT READS IS OF BULK AT MOST 1048576: true; the input reads as it did. -/
def fnPadsUptoRow : OpenClaim := { program := "ytpmeocgmlchjaaa", sum := "391f130c0750bd475aa12e9947b7cf466d57da16e56b056634c638a1c48118c5", func := "loop.example/g03311/laws.FnPads", spec := "fnPads", apart := false, narrowed := true }
def FnPadsUptoSaid : Prop := fnPadsUptoRow.holds Try.pinned (OpenSpec.upto fnPadsSpec)

/-- 'laws.FnExactPadsFor', WHERE WHAT IT READS IS OF BULK AT MOST 1048576: true; the input reads as it did. -/
def fnExactPadsForUptoRow : OpenClaim := { program := "ytpmeocgmlchjaaa", sum := "391f130c0750bd475aa12e9947b7cf466d57da16e56b056634c638a1c48118c5", func := "loop.example/g03311/laws.FnExactPadsFor", spec := "fnExactPadsFor", apart := false, narrowed := true }
def FnExactPadsForUptoSaid : Prop := fnExactPadsForUptoRow.holds Try.pinned (OpenSpec.upto fnExactPadsForSpec)

/-- 'laws.FnExactRegionTiles', WHERE WHAT IT READS IS OF BULK AT MOST 1048576: true; the input reads as it did. -/
def fnExactRegionTilesUptoRow : OpenClaim := { program := "ytpmeocgmlchjaaa", sum := "391f130c0750bd475aa12e9947b7cf466d57da16e56b056634c638a1c48118c5", func := "loop.example/g03311/laws.FnExactRegionTiles", spec := "fnExactRegionTiles", apart := false, narrowed := true }
def FnExactRegionTilesUptoSaid : Prop := fnExactRegionTilesUptoRow.holds Try.pinned (OpenSpec.upto fnExactRegionTilesSpec)

/-- 'laws.FnExactEmuStateOk', WHERE WHAT IT READS IS OF BULK AT MOST 1048576: true; the input reads as it did. -/
def fnExactEmuStateOkUptoRow : OpenClaim := { program := "ytpmeocgmlchjaaa", sum := "391f130c0750bd475aa12e9947b7cf466d57da16e56b056634c638a1c48118c5", func := "loop.example/g03311/laws.FnExactEmuStateOk", spec := "fnExactEmuStateOk", apart := false, narrowed := true }
def FnExactEmuStateOkUptoSaid : Prop := fnExactEmuStateOkUptoRow.holds Try.pinned (OpenSpec.upto fnExactEmuStateOkSpec)

/-- 'laws.FnOneFlipped', WHERE WHAT IT READS IS OF BULK AT MOST 1048576: true; the input reads as it did. -/
def fnOneFlippedUptoRow : OpenClaim := { program := "ytpmeocgmlchjaaa", sum := "391f130c0750bd475aa12e9947b7cf466d57da16e56b056634c638a1c48118c5", func := "loop.example/g03311/laws.FnOneFlipped", spec := "fnOneFlipped", apart := false, narrowed := true }
def FnOneFlippedUptoSaid : Prop := fnOneFlippedUptoRow.holds Try.pinned (OpenSpec.upto fnOneFlippedSpec)

/-- 'laws.FnExactFramesOk', WHERE WHAT IT READS IS OF BULK AT MOST 1048576: true; the input reads as it did. -/
def fnExactFramesOkUptoRow : OpenClaim := { program := "ytpmeocgmlchjaaa", sum := "391f130c0750bd475aa12e9947b7cf466d57da16e56b056634c638a1c48118c5", func := "loop.example/g03311/laws.FnExactFramesOk", spec := "fnExactFramesOk", apart := false, narrowed := true }
def FnExactFramesOkUptoSaid : Prop := fnExactFramesOkUptoRow.holds Try.pinned (OpenSpec.upto fnExactFramesOkSpec)

/-- 'laws.FnExactRepairWord', WHERE WHAT IT READS IS OF BULK AT MOST 1048576: true; the input reads as it did. -/
def fnExactRepairWordUptoRow : OpenClaim := { program := "ytpmeocgmlchjaaa", sum := "391f130c0750bd475aa12e9947b7cf466d57da16e56b056634c638a1c48118c5", func := "loop.example/g03311/laws.FnExactRepairWord", spec := "fnExactRepairWord", apart := false, narrowed := true }
def FnExactRepairWordUptoSaid : Prop := fnExactRepairWordUptoRow.holds Try.pinned (OpenSpec.upto fnExactRepairWordSpec)

/-- 'laws.FnExactFlipFrame', WHERE WHAT IT READS IS OF BULK AT MOST 1048576: true; the input reads as it did. -/
def fnExactFlipFrameUptoRow : OpenClaim := { program := "ytpmeocgmlchjaaa", sum := "391f130c0750bd475aa12e9947b7cf466d57da16e56b056634c638a1c48118c5", func := "loop.example/g03311/laws.FnExactFlipFrame", spec := "fnExactFlipFrame", apart := false, narrowed := true }
def FnExactFlipFrameUptoSaid : Prop := fnExactFlipFrameUptoRow.holds Try.pinned (OpenSpec.upto fnExactFlipFrameSpec)

end Rows
end Go.Proofs.Ytpmeocgmlchjaaa
