/-
  No cell of these rows narrows 'for every input' (looked for: loops, veiled, ifaces, maps, wideKeys, modest, calm, conditions, laid).
  DERIVED. THE GIVEN ROWS OF THIS SEAT. 6 by the template 'for every input the law returns true; each argument reads behind the call as it read before'; 0 by the template 'total and deterministic' (their statements: YtbnfdhidgdfbeaaGreatTotals.lean).
  GIVEN WITH THE SEED: the statements are not yours to turn. If you find one false, say at which input.
  Laid BY PROGRAM, IN A SANDBOX (cutbox-rows.mjs): the forced cells as the released guide's own fill.sh prints them over the translation c320110ccadf9e52… (all of the seat's roots in one cut). By AI agents, Wed Nov 11 2026. No macro, syntax, notation, axiom, sorry.
-/
import Derived.Test.YtbnfdhidgdfbeaaGreatChecked
import GoSem.Claim
import GoSem.ClaimJoined
import GoSem.ClaimMapViews
import Derived.JoinedTies
import Derived.KernelRfl
namespace Go.Proofs.YtbnfdhidgdfbeaaGreat
/- THE CELL 'sum', in the pinned program and in every row, IS THE sha256 OF THE DUMP (.gsa) THAT YtbnfdhidgdfbeaaGreatProg.lean LOADS. Nothing in Lean hashes anything: it is a label: what it is worth is what the hold of that sum in a sandbox is worth. -/
noncomputable def Tryz.pinned : Pinned := { name := "ytbnfdhidgdfbeaagreat", sum := "c320110ccadf9e52f22725623164bda6675c12e694fa5d2dea288c2fe1cded59", checked := Tryz.checked }
namespace Rows
def none {H : Type} : Left H := { results := [], args := [] }

/-- 'laws.FnStaticUndisturbed': WHATEVER THE INPUT: true; the input reads as it did. -/
def fnStaticUndisturbedSpec : ChangeSpec := { name := "fnStaticUndisturbed", fn := fun _ => fun
  | [d] => { results := [.lit (.bool true)], args := [d] }
  | _ => none }
def fnStaticUndisturbedRow : OpenClaim := { program := "ytbnfdhidgdfbeaagreat", sum := "c320110ccadf9e52f22725623164bda6675c12e694fa5d2dea288c2fe1cded59", func := "loop.example/g03311/laws.FnStaticUndisturbed", spec := "fnStaticUndisturbed", apart := false }
def FnStaticUndisturbedSaid : Prop := fnStaticUndisturbedRow.holds Tryz.pinned (OpenSpec.ofChange fnStaticUndisturbedSpec)

/-- ITS FALSE NEIGHBOUR: 'it returns false'. Refute it at one input. -/
def fnStaticUndisturbedWrong : ChangeSpec := { name := "fnStaticUndisturbed", fn := fun _ => fun
  | [d] => { results := [.lit (.bool false)], args := [d] }
  | _ => none }
def FnStaticUndisturbedWrongFalsely : Prop := fnStaticUndisturbedRow.holds Tryz.pinned (OpenSpec.ofChange fnStaticUndisturbedWrong)

/-- 'laws.FnRollback': WHATEVER THE INPUT: true; the input reads as it did. -/
def fnRollbackSpec : ChangeSpec := { name := "fnRollback", fn := fun _ => fun
  | [d] => { results := [.lit (.bool true)], args := [d] }
  | _ => none }
def fnRollbackRow : OpenClaim := { program := "ytbnfdhidgdfbeaagreat", sum := "c320110ccadf9e52f22725623164bda6675c12e694fa5d2dea288c2fe1cded59", func := "loop.example/g03311/laws.FnRollback", spec := "fnRollback", apart := false }
def FnRollbackSaid : Prop := fnRollbackRow.holds Tryz.pinned (OpenSpec.ofChange fnRollbackSpec)

/-- ITS FALSE NEIGHBOUR: 'it returns false'. Refute it at one input. -/
def fnRollbackWrong : ChangeSpec := { name := "fnRollback", fn := fun _ => fun
  | [d] => { results := [.lit (.bool false)], args := [d] }
  | _ => none }
def FnRollbackWrongFalsely : Prop := fnRollbackRow.holds Tryz.pinned (OpenSpec.ofChange fnRollbackWrong)

/-- 'laws.FnDoubleNotSilent': WHATEVER THE INPUT: true; the input reads as it did. -/
def fnDoubleNotSilentSpec : ChangeSpec := { name := "fnDoubleNotSilent", fn := fun _ => fun
  | [d] => { results := [.lit (.bool true)], args := [d] }
  | _ => none }
def fnDoubleNotSilentRow : OpenClaim := { program := "ytbnfdhidgdfbeaagreat", sum := "c320110ccadf9e52f22725623164bda6675c12e694fa5d2dea288c2fe1cded59", func := "loop.example/g03311/laws.FnDoubleNotSilent", spec := "fnDoubleNotSilent", apart := false }
def FnDoubleNotSilentSaid : Prop := fnDoubleNotSilentRow.holds Tryz.pinned (OpenSpec.ofChange fnDoubleNotSilentSpec)

/-- ITS FALSE NEIGHBOUR: 'it returns false'. Refute it at one input. -/
def fnDoubleNotSilentWrong : ChangeSpec := { name := "fnDoubleNotSilent", fn := fun _ => fun
  | [d] => { results := [.lit (.bool false)], args := [d] }
  | _ => none }
def FnDoubleNotSilentWrongFalsely : Prop := fnDoubleNotSilentRow.holds Tryz.pinned (OpenSpec.ofChange fnDoubleNotSilentWrong)

/-- 'laws.FnUpsetsScrubbed': WHATEVER THE INPUT: true; the input reads as it did. -/
def fnUpsetsScrubbedSpec : ChangeSpec := { name := "fnUpsetsScrubbed", fn := fun _ => fun
  | [d] => { results := [.lit (.bool true)], args := [d] }
  | _ => none }
def fnUpsetsScrubbedRow : OpenClaim := { program := "ytbnfdhidgdfbeaagreat", sum := "c320110ccadf9e52f22725623164bda6675c12e694fa5d2dea288c2fe1cded59", func := "loop.example/g03311/laws.FnUpsetsScrubbed", spec := "fnUpsetsScrubbed", apart := false }
def FnUpsetsScrubbedSaid : Prop := fnUpsetsScrubbedRow.holds Tryz.pinned (OpenSpec.ofChange fnUpsetsScrubbedSpec)

/-- ITS FALSE NEIGHBOUR: 'it returns false'. Refute it at one input. -/
def fnUpsetsScrubbedWrong : ChangeSpec := { name := "fnUpsetsScrubbed", fn := fun _ => fun
  | [d] => { results := [.lit (.bool false)], args := [d] }
  | _ => none }
def FnUpsetsScrubbedWrongFalsely : Prop := fnUpsetsScrubbedRow.holds Tryz.pinned (OpenSpec.ofChange fnUpsetsScrubbedWrong)

/-- 'laws.FnCommitted': WHATEVER THE INPUT: true; the input reads as it did. -/
def fnCommittedSpec : ChangeSpec := { name := "fnCommitted", fn := fun _ => fun
  | [d] => { results := [.lit (.bool true)], args := [d] }
  | _ => none }
def fnCommittedRow : OpenClaim := { program := "ytbnfdhidgdfbeaagreat", sum := "c320110ccadf9e52f22725623164bda6675c12e694fa5d2dea288c2fe1cded59", func := "loop.example/g03311/laws.FnCommitted", spec := "fnCommitted", apart := false }
def FnCommittedSaid : Prop := fnCommittedRow.holds Tryz.pinned (OpenSpec.ofChange fnCommittedSpec)

/-- ITS FALSE NEIGHBOUR: 'it returns false'. Refute it at one input. -/
def fnCommittedWrong : ChangeSpec := { name := "fnCommitted", fn := fun _ => fun
  | [d] => { results := [.lit (.bool false)], args := [d] }
  | _ => none }
def FnCommittedWrongFalsely : Prop := fnCommittedRow.holds Tryz.pinned (OpenSpec.ofChange fnCommittedWrong)

/-- 'laws.FnExactDoAct': WHATEVER THE INPUT: true; the input reads as it did. -/
def fnExactDoActSpec : ChangeSpec := { name := "fnExactDoAct", fn := fun _ => fun
  | [d1, d2] => { results := [.lit (.bool true)], args := [d1, d2] }
  | _ => none }
def fnExactDoActRow : OpenClaim := { program := "ytbnfdhidgdfbeaagreat", sum := "c320110ccadf9e52f22725623164bda6675c12e694fa5d2dea288c2fe1cded59", func := "loop.example/g03311/laws.FnExactDoAct", spec := "fnExactDoAct", apart := false }
def FnExactDoActSaid : Prop := fnExactDoActRow.holds Tryz.pinned (OpenSpec.ofChange fnExactDoActSpec)

/-- ITS FALSE NEIGHBOUR: 'it returns false'. Refute it at one input. -/
def fnExactDoActWrong : ChangeSpec := { name := "fnExactDoAct", fn := fun _ => fun
  | [d1, d2] => { results := [.lit (.bool false)], args := [d1, d2] }
  | _ => none }
def FnExactDoActWrongFalsely : Prop := fnExactDoActRow.holds Tryz.pinned (OpenSpec.ofChange fnExactDoActWrong)

/- THE SECOND FORM. 'bulk': how many values and letters a reading holds, each counted each time it is reached (what is shared counts as often as it is met; a slice's spare places count too). A statement '..UptoSaid' is the law's where the arguments, and the package variables that the reading takes, are together of bulk at most 1048576: NARROWER than '..Said'. Prove '..Said' where nothing that the law and all that it calls make is longer than what came in: it says more and counts as full. Else prove '..UptoSaid'. A law counts once. -/
mutual
def uptoBulk {H : Type} : DataW H → Nat
  | .lit (.string bytes) => bytes.length + 1
  | .lit _ => 1
  | .nil => 1
  | .ptr d => uptoBulk d + 1
  | .slice elems spare => uptoBulkAll elems + uptoBulkAll spare + 1
  | .agg parts => uptoBulkAll parts + 1
  | .iface _ d => uptoBulk d + 1
  | .map entries => uptoBulkEntries entries + 1
  | .held _ => 1
def uptoBulkAll {H : Type} : List (DataW H) → Nat
  | [] => 0
  | d :: r => uptoBulk d + uptoBulkAll r
def uptoBulkEntries {H : Type} : List (Lit × DataW H) → Nat
  | [] => 0
  | x :: r => uptoBulkEntry x + uptoBulkEntries r
def uptoBulkEntry {H : Type} : Lit × DataW H → Nat
  | (.string bytes, d) => bytes.length + uptoBulk d + 1
  | (_, d) => uptoBulk d + 1
 end
def uptoSmall : (H : Type) → List (DataW H) → Bool := fun _ ds => decide (uptoBulkAll ds ≤ 1048576)
def OpenSpec.upto (s : _root_.Go.ChangeSpec) : _root_.Go.OpenSpec := { _root_.Go.OpenSpec.ofChange s with cond := some uptoSmall }

/-- 'laws.FnStaticUndisturbed', WHERE WHAT IT READS IS OF BULK AT MOST 1048576: true; the input reads as it did. -/
def fnStaticUndisturbedUptoRow : OpenClaim := { program := "ytbnfdhidgdfbeaagreat", sum := "c320110ccadf9e52f22725623164bda6675c12e694fa5d2dea288c2fe1cded59", func := "loop.example/g03311/laws.FnStaticUndisturbed", spec := "fnStaticUndisturbed", apart := false, narrowed := true }
def FnStaticUndisturbedUptoSaid : Prop := fnStaticUndisturbedUptoRow.holds Tryz.pinned (OpenSpec.upto fnStaticUndisturbedSpec)

/-- 'laws.FnRollback', WHERE WHAT IT READS IS OF BULK AT MOST 1048576: true; the input reads as it did. -/
def fnRollbackUptoRow : OpenClaim := { program := "ytbnfdhidgdfbeaagreat", sum := "c320110ccadf9e52f22725623164bda6675c12e694fa5d2dea288c2fe1cded59", func := "loop.example/g03311/laws.FnRollback", spec := "fnRollback", apart := false, narrowed := true }
def FnRollbackUptoSaid : Prop := fnRollbackUptoRow.holds Tryz.pinned (OpenSpec.upto fnRollbackSpec)

/-- 'laws.FnDoubleNotSilent', WHERE WHAT IT READS IS OF BULK AT MOST 1048576: true; the input reads as it did. -/
def fnDoubleNotSilentUptoRow : OpenClaim := { program := "ytbnfdhidgdfbeaagreat", sum := "c320110ccadf9e52f22725623164bda6675c12e694fa5d2dea288c2fe1cded59", func := "loop.example/g03311/laws.FnDoubleNotSilent", spec := "fnDoubleNotSilent", apart := false, narrowed := true }
def FnDoubleNotSilentUptoSaid : Prop := fnDoubleNotSilentUptoRow.holds Tryz.pinned (OpenSpec.upto fnDoubleNotSilentSpec)

/-- 'laws.FnUpsetsScrubbed', WHERE WHAT IT READS IS OF BULK AT MOST 1048576: true; the input reads as it did. -/
def fnUpsetsScrubbedUptoRow : OpenClaim := { program := "ytbnfdhidgdfbeaagreat", sum := "c320110ccadf9e52f22725623164bda6675c12e694fa5d2dea288c2fe1cded59", func := "loop.example/g03311/laws.FnUpsetsScrubbed", spec := "fnUpsetsScrubbed", apart := false, narrowed := true }
def FnUpsetsScrubbedUptoSaid : Prop := fnUpsetsScrubbedUptoRow.holds Tryz.pinned (OpenSpec.upto fnUpsetsScrubbedSpec)

/-- 'laws.FnCommitted', WHERE WHAT IT READS IS OF BULK AT MOST 1048576: true; the input reads as it did. -/
def fnCommittedUptoRow : OpenClaim := { program := "ytbnfdhidgdfbeaagreat", sum := "c320110ccadf9e52f22725623164bda6675c12e694fa5d2dea288c2fe1cded59", func := "loop.example/g03311/laws.FnCommitted", spec := "fnCommitted", apart := false, narrowed := true }
def FnCommittedUptoSaid : Prop := fnCommittedUptoRow.holds Tryz.pinned (OpenSpec.upto fnCommittedSpec)

/-- 'laws.FnExactDoAct', WHERE WHAT IT READS IS OF BULK AT MOST 1048576: true; the input reads as it did. -/
def fnExactDoActUptoRow : OpenClaim := { program := "ytbnfdhidgdfbeaagreat", sum := "c320110ccadf9e52f22725623164bda6675c12e694fa5d2dea288c2fe1cded59", func := "loop.example/g03311/laws.FnExactDoAct", spec := "fnExactDoAct", apart := false, narrowed := true }
def FnExactDoActUptoSaid : Prop := fnExactDoActUptoRow.holds Tryz.pinned (OpenSpec.upto fnExactDoActSpec)

end Rows
end Go.Proofs.YtbnfdhidgdfbeaaGreat
