/-
  No cell of these rows narrows 'for every input' (looked for: loops, veiled, ifaces, maps, wideKeys, modest, calm, conditions, laid).
  DERIVED. THE GIVEN ROWS OF THIS SEAT. 12 by the template 'for every input the law returns true; each argument reads behind the call as it read before'; 0 by the template 'total and deterministic' (their statements: YtdnpdfjlmejpkaaTotals.lean).
  GIVEN WITH THE SEED: the statements are not yours to turn. If you find one false, say at which input.
  Laid BY PROGRAM, IN A SANDBOX (cutbox-rows.mjs): the forced cells as the released guide's own fill.sh prints them over the translation 2288f59dc3ad225c… (all of the seat's roots in one cut). By AI agents, Wed Nov 11 2026. No macro, syntax, notation, axiom, sorry.
-/
import Derived.Test.YtdnpdfjlmejpkaaChecked
import GoSem.Claim
import GoSem.ClaimJoined
import GoSem.ClaimMapViews
import Derived.JoinedTies
import Derived.KernelRfl
namespace Go.Proofs.Ytdnpdfjlmejpkaa
/- THE CELL 'sum', in the pinned program and in every row, IS THE sha256 OF THE DUMP (.gsa) THAT YtdnpdfjlmejpkaaProg.lean LOADS. Nothing in Lean hashes anything: it is a label: what it is worth is what the hold of that sum in a sandbox is worth. -/
noncomputable def Try.pinned : Pinned := { name := "ytdnpdfjlmejpkaa", sum := "2288f59dc3ad225c109091bf635368946e191a503142f944a997a02e3a55df2e", checked := Try.checked }
namespace Rows
def none {H : Type} : Left H := { results := [], args := [] }

/-- 'laws.FnExactFrameChecksum': WHATEVER THE INPUT: true; the input reads as it did. -/
def fnExactFrameChecksumSpec : ChangeSpec := { name := "fnExactFrameChecksum", fn := fun _ => fun
  | [d1, d2, d3] => { results := [.lit (.bool true)], args := [d1, d2, d3] }
  | _ => none }
def fnExactFrameChecksumRow : OpenClaim := { program := "ytdnpdfjlmejpkaa", sum := "2288f59dc3ad225c109091bf635368946e191a503142f944a997a02e3a55df2e", func := "loop.example/g03311/laws.FnExactFrameChecksum", spec := "fnExactFrameChecksum", apart := false }
def FnExactFrameChecksumSaid : Prop := fnExactFrameChecksumRow.holds Try.pinned (OpenSpec.ofChange fnExactFrameChecksumSpec)

/-- ITS FALSE NEIGHBOUR: 'it returns false'. Refute it at one input. -/
def fnExactFrameChecksumWrong : ChangeSpec := { name := "fnExactFrameChecksum", fn := fun _ => fun
  | [d1, d2, d3] => { results := [.lit (.bool false)], args := [d1, d2, d3] }
  | _ => none }
def FnExactFrameChecksumWrongFalsely : Prop := fnExactFrameChecksumRow.holds Try.pinned (OpenSpec.ofChange fnExactFrameChecksumWrong)

/-- 'laws.FnExactEmuStart': WHATEVER THE INPUT: true; the input reads as it did. -/
def fnExactEmuStartSpec : ChangeSpec := { name := "fnExactEmuStart", fn := fun _ => fun
  | [d1, d2] => { results := [.lit (.bool true)], args := [d1, d2] }
  | _ => none }
def fnExactEmuStartRow : OpenClaim := { program := "ytdnpdfjlmejpkaa", sum := "2288f59dc3ad225c109091bf635368946e191a503142f944a997a02e3a55df2e", func := "loop.example/g03311/laws.FnExactEmuStart", spec := "fnExactEmuStart", apart := false }
def FnExactEmuStartSaid : Prop := fnExactEmuStartRow.holds Try.pinned (OpenSpec.ofChange fnExactEmuStartSpec)

/-- ITS FALSE NEIGHBOUR: 'it returns false'. Refute it at one input. -/
def fnExactEmuStartWrong : ChangeSpec := { name := "fnExactEmuStart", fn := fun _ => fun
  | [d1, d2] => { results := [.lit (.bool false)], args := [d1, d2] }
  | _ => none }
def FnExactEmuStartWrongFalsely : Prop := fnExactEmuStartRow.holds Try.pinned (OpenSpec.ofChange fnExactEmuStartWrong)

/-- 'laws.FnExactScrubFrames': WHATEVER THE INPUT: true; the input reads as it did. -/
def fnExactScrubFramesSpec : ChangeSpec := { name := "fnExactScrubFrames", fn := fun _ => fun
  | [d1, d2] => { results := [.lit (.bool true)], args := [d1, d2] }
  | _ => none }
def fnExactScrubFramesRow : OpenClaim := { program := "ytdnpdfjlmejpkaa", sum := "2288f59dc3ad225c109091bf635368946e191a503142f944a997a02e3a55df2e", func := "loop.example/g03311/laws.FnExactScrubFrames", spec := "fnExactScrubFrames", apart := false }
def FnExactScrubFramesSaid : Prop := fnExactScrubFramesRow.holds Try.pinned (OpenSpec.ofChange fnExactScrubFramesSpec)

/-- ITS FALSE NEIGHBOUR: 'it returns false'. Refute it at one input. -/
def fnExactScrubFramesWrong : ChangeSpec := { name := "fnExactScrubFrames", fn := fun _ => fun
  | [d1, d2] => { results := [.lit (.bool false)], args := [d1, d2] }
  | _ => none }
def FnExactScrubFramesWrongFalsely : Prop := fnExactScrubFramesRow.holds Try.pinned (OpenSpec.ofChange fnExactScrubFramesWrong)

/-- 'laws.FnExactReadFrames': WHATEVER THE INPUT: true; the input reads as it did. -/
def fnExactReadFramesSpec : ChangeSpec := { name := "fnExactReadFrames", fn := fun _ => fun
  | [d1, d2] => { results := [.lit (.bool true)], args := [d1, d2] }
  | _ => none }
def fnExactReadFramesRow : OpenClaim := { program := "ytdnpdfjlmejpkaa", sum := "2288f59dc3ad225c109091bf635368946e191a503142f944a997a02e3a55df2e", func := "loop.example/g03311/laws.FnExactReadFrames", spec := "fnExactReadFrames", apart := false }
def FnExactReadFramesSaid : Prop := fnExactReadFramesRow.holds Try.pinned (OpenSpec.ofChange fnExactReadFramesSpec)

/-- ITS FALSE NEIGHBOUR: 'it returns false'. Refute it at one input. -/
def fnExactReadFramesWrong : ChangeSpec := { name := "fnExactReadFrames", fn := fun _ => fun
  | [d1, d2] => { results := [.lit (.bool false)], args := [d1, d2] }
  | _ => none }
def FnExactReadFramesWrongFalsely : Prop := fnExactReadFramesRow.holds Try.pinned (OpenSpec.ofChange fnExactReadFramesWrong)

/-- 'laws.FnExactNewBoard': WHATEVER THE INPUT: true; the input reads as it did. -/
def fnExactNewBoardSpec : ChangeSpec := { name := "fnExactNewBoard", fn := fun _ => fun
  | [d1, d2] => { results := [.lit (.bool true)], args := [d1, d2] }
  | _ => none }
def fnExactNewBoardRow : OpenClaim := { program := "ytdnpdfjlmejpkaa", sum := "2288f59dc3ad225c109091bf635368946e191a503142f944a997a02e3a55df2e", func := "loop.example/g03311/laws.FnExactNewBoard", spec := "fnExactNewBoard", apart := false }
def FnExactNewBoardSaid : Prop := fnExactNewBoardRow.holds Try.pinned (OpenSpec.ofChange fnExactNewBoardSpec)

/-- ITS FALSE NEIGHBOUR: 'it returns false'. Refute it at one input. -/
def fnExactNewBoardWrong : ChangeSpec := { name := "fnExactNewBoard", fn := fun _ => fun
  | [d1, d2] => { results := [.lit (.bool false)], args := [d1, d2] }
  | _ => none }
def FnExactNewBoardWrongFalsely : Prop := fnExactNewBoardRow.holds Try.pinned (OpenSpec.ofChange fnExactNewBoardWrong)

/-- 'laws.FnExactBuildFrames': WHATEVER THE INPUT: true; the input reads as it did. -/
def fnExactBuildFramesSpec : ChangeSpec := { name := "fnExactBuildFrames", fn := fun _ => fun
  | [d1, d2] => { results := [.lit (.bool true)], args := [d1, d2] }
  | _ => none }
def fnExactBuildFramesRow : OpenClaim := { program := "ytdnpdfjlmejpkaa", sum := "2288f59dc3ad225c109091bf635368946e191a503142f944a997a02e3a55df2e", func := "loop.example/g03311/laws.FnExactBuildFrames", spec := "fnExactBuildFrames", apart := false }
def FnExactBuildFramesSaid : Prop := fnExactBuildFramesRow.holds Try.pinned (OpenSpec.ofChange fnExactBuildFramesSpec)

/-- ITS FALSE NEIGHBOUR: 'it returns false'. Refute it at one input. -/
def fnExactBuildFramesWrong : ChangeSpec := { name := "fnExactBuildFrames", fn := fun _ => fun
  | [d1, d2] => { results := [.lit (.bool false)], args := [d1, d2] }
  | _ => none }
def FnExactBuildFramesWrongFalsely : Prop := fnExactBuildFramesRow.holds Try.pinned (OpenSpec.ofChange fnExactBuildFramesWrong)

/-- 'laws.FnScrubbed': WHATEVER THE INPUT: true; the input reads as it did. -/
def fnScrubbedSpec : ChangeSpec := { name := "fnScrubbed", fn := fun _ => fun
  | [d] => { results := [.lit (.bool true)], args := [d] }
  | _ => none }
def fnScrubbedRow : OpenClaim := { program := "ytdnpdfjlmejpkaa", sum := "2288f59dc3ad225c109091bf635368946e191a503142f944a997a02e3a55df2e", func := "loop.example/g03311/laws.FnScrubbed", spec := "fnScrubbed", apart := false }
def FnScrubbedSaid : Prop := fnScrubbedRow.holds Try.pinned (OpenSpec.ofChange fnScrubbedSpec)

/-- ITS FALSE NEIGHBOUR: 'it returns false'. Refute it at one input. -/
def fnScrubbedWrong : ChangeSpec := { name := "fnScrubbed", fn := fun _ => fun
  | [d] => { results := [.lit (.bool false)], args := [d] }
  | _ => none }
def FnScrubbedWrongFalsely : Prop := fnScrubbedRow.holds Try.pinned (OpenSpec.ofChange fnScrubbedWrong)

/-- 'laws.FnFramesRound': WHATEVER THE INPUT: true; the input reads as it did. -/
def fnFramesRoundSpec : ChangeSpec := { name := "fnFramesRound", fn := fun _ => fun
  | [d] => { results := [.lit (.bool true)], args := [d] }
  | _ => none }
def fnFramesRoundRow : OpenClaim := { program := "ytdnpdfjlmejpkaa", sum := "2288f59dc3ad225c109091bf635368946e191a503142f944a997a02e3a55df2e", func := "loop.example/g03311/laws.FnFramesRound", spec := "fnFramesRound", apart := false }
def FnFramesRoundSaid : Prop := fnFramesRoundRow.holds Try.pinned (OpenSpec.ofChange fnFramesRoundSpec)

/-- ITS FALSE NEIGHBOUR: 'it returns false'. Refute it at one input. -/
def fnFramesRoundWrong : ChangeSpec := { name := "fnFramesRound", fn := fun _ => fun
  | [d] => { results := [.lit (.bool false)], args := [d] }
  | _ => none }
def FnFramesRoundWrongFalsely : Prop := fnFramesRoundRow.holds Try.pinned (OpenSpec.ofChange fnFramesRoundWrong)

/-- 'laws.FnExactDriverOf': WHATEVER THE INPUT: true; the input reads as it did. -/
def fnExactDriverOfSpec : ChangeSpec := { name := "fnExactDriverOf", fn := fun _ => fun
  | [d1, d2, d3] => { results := [.lit (.bool true)], args := [d1, d2, d3] }
  | _ => none }
def fnExactDriverOfRow : OpenClaim := { program := "ytdnpdfjlmejpkaa", sum := "2288f59dc3ad225c109091bf635368946e191a503142f944a997a02e3a55df2e", func := "loop.example/g03311/laws.FnExactDriverOf", spec := "fnExactDriverOf", apart := false }
def FnExactDriverOfSaid : Prop := fnExactDriverOfRow.holds Try.pinned (OpenSpec.ofChange fnExactDriverOfSpec)

/-- ITS FALSE NEIGHBOUR: 'it returns false'. Refute it at one input. -/
def fnExactDriverOfWrong : ChangeSpec := { name := "fnExactDriverOf", fn := fun _ => fun
  | [d1, d2, d3] => { results := [.lit (.bool false)], args := [d1, d2, d3] }
  | _ => none }
def FnExactDriverOfWrongFalsely : Prop := fnExactDriverOfRow.holds Try.pinned (OpenSpec.ofChange fnExactDriverOfWrong)

/-- 'laws.FnExactRegionQuiet': WHATEVER THE INPUT: true; the input reads as it did. -/
def fnExactRegionQuietSpec : ChangeSpec := { name := "fnExactRegionQuiet", fn := fun _ => fun
  | [d1, d2, d3] => { results := [.lit (.bool true)], args := [d1, d2, d3] }
  | _ => none }
def fnExactRegionQuietRow : OpenClaim := { program := "ytdnpdfjlmejpkaa", sum := "2288f59dc3ad225c109091bf635368946e191a503142f944a997a02e3a55df2e", func := "loop.example/g03311/laws.FnExactRegionQuiet", spec := "fnExactRegionQuiet", apart := false }
def FnExactRegionQuietSaid : Prop := fnExactRegionQuietRow.holds Try.pinned (OpenSpec.ofChange fnExactRegionQuietSpec)

/-- ITS FALSE NEIGHBOUR: 'it returns false'. Refute it at one input. -/
def fnExactRegionQuietWrong : ChangeSpec := { name := "fnExactRegionQuiet", fn := fun _ => fun
  | [d1, d2, d3] => { results := [.lit (.bool false)], args := [d1, d2, d3] }
  | _ => none }
def FnExactRegionQuietWrongFalsely : Prop := fnExactRegionQuietRow.holds Try.pinned (OpenSpec.ofChange fnExactRegionQuietWrong)

/-- 'laws.FnExactUndetermined': WHATEVER THE INPUT: true; the input reads as it did. -/
def fnExactUndeterminedSpec : ChangeSpec := { name := "fnExactUndetermined", fn := fun _ => fun
  | [d1, d2] => { results := [.lit (.bool true)], args := [d1, d2] }
  | _ => none }
def fnExactUndeterminedRow : OpenClaim := { program := "ytdnpdfjlmejpkaa", sum := "2288f59dc3ad225c109091bf635368946e191a503142f944a997a02e3a55df2e", func := "loop.example/g03311/laws.FnExactUndetermined", spec := "fnExactUndetermined", apart := false }
def FnExactUndeterminedSaid : Prop := fnExactUndeterminedRow.holds Try.pinned (OpenSpec.ofChange fnExactUndeterminedSpec)

/-- ITS FALSE NEIGHBOUR: 'it returns false'. Refute it at one input. -/
def fnExactUndeterminedWrong : ChangeSpec := { name := "fnExactUndetermined", fn := fun _ => fun
  | [d1, d2] => { results := [.lit (.bool false)], args := [d1, d2] }
  | _ => none }
def FnExactUndeterminedWrongFalsely : Prop := fnExactUndeterminedRow.holds Try.pinned (OpenSpec.ofChange fnExactUndeterminedWrong)

/-- 'laws.FnExactBoardOk': WHATEVER THE INPUT: true; the input reads as it did. -/
def fnExactBoardOkSpec : ChangeSpec := { name := "fnExactBoardOk", fn := fun _ => fun
  | [d] => { results := [.lit (.bool true)], args := [d] }
  | _ => none }
def fnExactBoardOkRow : OpenClaim := { program := "ytdnpdfjlmejpkaa", sum := "2288f59dc3ad225c109091bf635368946e191a503142f944a997a02e3a55df2e", func := "loop.example/g03311/laws.FnExactBoardOk", spec := "fnExactBoardOk", apart := false }
def FnExactBoardOkSaid : Prop := fnExactBoardOkRow.holds Try.pinned (OpenSpec.ofChange fnExactBoardOkSpec)

/-- ITS FALSE NEIGHBOUR: 'it returns false'. Refute it at one input. -/
def fnExactBoardOkWrong : ChangeSpec := { name := "fnExactBoardOk", fn := fun _ => fun
  | [d] => { results := [.lit (.bool false)], args := [d] }
  | _ => none }
def FnExactBoardOkWrongFalsely : Prop := fnExactBoardOkRow.holds Try.pinned (OpenSpec.ofChange fnExactBoardOkWrong)

/- THE SECOND FORM. 'bulk': how many values and letters a reading holds, each counted each time it is reached (what is shared counts as often as it is met; a slice's spare places count too). A statement '..UptoSaid' is the law's where the arguments, and the package variables that the reading takes, are together of bulk at most 1048576: NARROWER than '..Said'. Prove '..Said' where nothing that the law and all that it calls make is longer than what came in: it says more and counts as full. Else prove '..UptoSaid'. A law counts once. -/
mutual
def uptoBulk {H : Type} : DataW H → Nat
  | .lit (.string bytes) => bytes.length + 1
  | .lit _ => 1
  | .nil => 1
  | .ptr d => uptoBulk d + 1
  | .slice elems spare => uptoBulkAll elems + uptoBulkAll spare + 1
  | .agg parts => uptoBulkAll parts + 1
  | .iface _ d => uptoBulk d + 1
  | .map entries => uptoBulkEntries entries + 1
  | .held _ => 1
def uptoBulkAll {H : Type} : List (DataW H) → Nat
  | [] => 0
  | d :: r => uptoBulk d + uptoBulkAll r
def uptoBulkEntries {H : Type} : List (Lit × DataW H) → Nat
  | [] => 0
  | x :: r => uptoBulkEntry x + uptoBulkEntries r
def uptoBulkEntry {H : Type} : Lit × DataW H → Nat
  | (.string bytes, d) => bytes.length + uptoBulk d + 1
  | (_, d) => uptoBulk d + 1
 end
def uptoSmall : (H : Type) → List (DataW H) → Bool := fun _ ds => decide (uptoBulkAll ds ≤ 1048576)
def OpenSpec.upto (s : _root_.Go.ChangeSpec) : _root_.Go.OpenSpec := { _root_.Go.OpenSpec.ofChange s with cond := some uptoSmall }

/-- 'laws.FnExactFrameChecksum', WHERE WHAT IT READS IS OF BULK AT MOST 1048576: true; the input reads as it did. -/
def fnExactFrameChecksumUptoRow : OpenClaim := { program := "ytdnpdfjlmejpkaa", sum := "2288f59dc3ad225c109091bf635368946e191a503142f944a997a02e3a55df2e", func := "loop.example/g03311/laws.FnExactFrameChecksum", spec := "fnExactFrameChecksum", apart := false, narrowed := true }
def FnExactFrameChecksumUptoSaid : Prop := fnExactFrameChecksumUptoRow.holds Try.pinned (OpenSpec.upto fnExactFrameChecksumSpec)

/-- 'laws.FnExactEmuStart', WHERE WHAT IT READS IS OF BULK AT MOST 1048576: true; the input reads as it did. -/
def fnExactEmuStartUptoRow : OpenClaim := { program := "ytdnpdfjlmejpkaa", sum := "2288f59dc3ad225c109091bf635368946e191a503142f944a997a02e3a55df2e", func := "loop.example/g03311/laws.FnExactEmuStart", spec := "fnExactEmuStart", apart := false, narrowed := true }
def FnExactEmuStartUptoSaid : Prop := fnExactEmuStartUptoRow.holds Try.pinned (OpenSpec.upto fnExactEmuStartSpec)

/-- 'laws.FnExactScrubFrames', WHERE WHAT IT READS IS OF BULK AT MOST 1048576: true; the input reads as it did. -/
def fnExactScrubFramesUptoRow : OpenClaim := { program := "ytdnpdfjlmejpkaa", sum := "2288f59dc3ad225c109091bf635368946e191a503142f944a997a02e3a55df2e", func := "loop.example/g03311/laws.FnExactScrubFrames", spec := "fnExactScrubFrames", apart := false, narrowed := true }
def FnExactScrubFramesUptoSaid : Prop := fnExactScrubFramesUptoRow.holds Try.pinned (OpenSpec.upto fnExactScrubFramesSpec)

/-- 'laws.FnExactReadFrames', WHERE WHAT IT READS IS OF BULK AT MOST 1048576: true; the input reads as it did. -/
def fnExactReadFramesUptoRow : OpenClaim := { program := "ytdnpdfjlmejpkaa", sum := "2288f59dc3ad225c109091bf635368946e191a503142f944a997a02e3a55df2e", func := "loop.example/g03311/laws.FnExactReadFrames", spec := "fnExactReadFrames", apart := false, narrowed := true }
def FnExactReadFramesUptoSaid : Prop := fnExactReadFramesUptoRow.holds Try.pinned (OpenSpec.upto fnExactReadFramesSpec)

/-- 'laws.FnExactNewBoard', WHERE WHAT IT READS IS OF BULK AT MOST 1048576: true; the input reads as it did. -/
def fnExactNewBoardUptoRow : OpenClaim := { program := "ytdnpdfjlmejpkaa", sum := "2288f59dc3ad225c109091bf635368946e191a503142f944a997a02e3a55df2e", func := "loop.example/g03311/laws.FnExactNewBoard", spec := "fnExactNewBoard", apart := false, narrowed := true }
def FnExactNewBoardUptoSaid : Prop := fnExactNewBoardUptoRow.holds Try.pinned (OpenSpec.upto fnExactNewBoardSpec)

/-- 'laws.FnExactBuildFrames', WHERE WHAT IT READS IS OF BULK AT MOST 1048576: true; the input reads as it did. -/
def fnExactBuildFramesUptoRow : OpenClaim := { program := "ytdnpdfjlmejpkaa", sum := "2288f59dc3ad225c109091bf635368946e191a503142f944a997a02e3a55df2e", func := "loop.example/g03311/laws.FnExactBuildFrames", spec := "fnExactBuildFrames", apart := false, narrowed := true }
def FnExactBuildFramesUptoSaid : Prop := fnExactBuildFramesUptoRow.holds Try.pinned (OpenSpec.upto fnExactBuildFramesSpec)

/-- 'laws.FnScrubbed', WHERE WHAT IT READS IS OF BULK AT MOST 1048576: true; the input reads as it did. -/
def fnScrubbedUptoRow : OpenClaim := { program := "ytdnpdfjlmejpkaa", sum := "2288f59dc3ad225c109091bf635368946e191a503142f944a997a02e3a55df2e", func := "loop.example/g03311/laws.FnScrubbed", spec := "fnScrubbed", apart := false, narrowed := true }
def FnScrubbedUptoSaid : Prop := fnScrubbedUptoRow.holds Try.pinned (OpenSpec.upto fnScrubbedSpec)

/-- 'laws.FnFramesRound', WHERE WHAT IT READS IS OF BULK AT MOST 1048576: true; the input reads as it did. -/
def fnFramesRoundUptoRow : OpenClaim := { program := "ytdnpdfjlmejpkaa", sum := "2288f59dc3ad225c109091bf635368946e191a503142f944a997a02e3a55df2e", func := "loop.example/g03311/laws.FnFramesRound", spec := "fnFramesRound", apart := false, narrowed := true }
def FnFramesRoundUptoSaid : Prop := fnFramesRoundUptoRow.holds Try.pinned (OpenSpec.upto fnFramesRoundSpec)

/-- 'laws.FnExactDriverOf', WHERE WHAT IT READS IS OF BULK AT MOST 1048576: true; the input reads as it did. -/
def fnExactDriverOfUptoRow : OpenClaim := { program := "ytdnpdfjlmejpkaa", sum := "2288f59dc3ad225c109091bf635368946e191a503142f944a997a02e3a55df2e", func := "loop.example/g03311/laws.FnExactDriverOf", spec := "fnExactDriverOf", apart := false, narrowed := true }
def FnExactDriverOfUptoSaid : Prop := fnExactDriverOfUptoRow.holds Try.pinned (OpenSpec.upto fnExactDriverOfSpec)

/-- 'laws.FnExactRegionQuiet', WHERE WHAT IT READS IS OF BULK AT MOST 1048576: true; the input reads as it did. -/
def fnExactRegionQuietUptoRow : OpenClaim := { program := "ytdnpdfjlmejpkaa", sum := "2288f59dc3ad225c109091bf635368946e191a503142f944a997a02e3a55df2e", func := "loop.example/g03311/laws.FnExactRegionQuiet", spec := "fnExactRegionQuiet", apart := false, narrowed := true }
def FnExactRegionQuietUptoSaid : Prop := fnExactRegionQuietUptoRow.holds Try.pinned (OpenSpec.upto fnExactRegionQuietSpec)

/-- 'laws.FnExactUndetermined', WHERE WHAT IT READS IS OF BULK AT MOST 1048576: true; the input reads as it did. -/
def fnExactUndeterminedUptoRow : OpenClaim := { program := "ytdnpdfjlmejpkaa", sum := "2288f59dc3ad225c109091bf635368946e191a503142f944a997a02e3a55df2e", func := "loop.example/g03311/laws.FnExactUndetermined", spec := "fnExactUndetermined", apart := false, narrowed := true }
def FnExactUndeterminedUptoSaid : Prop := fnExactUndeterminedUptoRow.holds Try.pinned (OpenSpec.upto fnExactUndeterminedSpec)

/-- 'laws.FnExactBoardOk', WHERE WHAT IT READS IS OF BULK AT MOST 1048576: true; the input reads as it did. -/
def fnExactBoardOkUptoRow : OpenClaim := { program := "ytdnpdfjlmejpkaa", sum := "2288f59dc3ad225c109091bf635368946e191a503142f944a997a02e3a55df2e", func := "loop.example/g03311/laws.FnExactBoardOk", spec := "fnExactBoardOk", apart := false, narrowed := true }
def FnExactBoardOkUptoSaid : Prop := fnExactBoardOkUptoRow.holds Try.pinned (OpenSpec.upto fnExactBoardOkSpec)

end Rows
end Go.Proofs.Ytdnpdfjlmejpkaa
