/-
  No cell of these rows narrows 'for every input' (looked for: loops, veiled, ifaces, maps, wideKeys, modest, calm, conditions, laid).
  DERIVED. THE GIVEN ROWS OF THIS SEAT. 4 by the template 'for every input the law returns true; each argument reads behind the call as it read before'; 0 by the template 'total and deterministic' (their statements: YtofihjoanjkdmaaGreatTotals.lean).
  GIVEN WITH THE SEED: the statements are not yours to turn. If you find one false, say at which input.
  Laid BY PROGRAM, IN A SANDBOX (cutbox-rows.mjs): the forced cells as the released guide's own fill.sh prints them over the translation 62853c805feeb87d… (all of the seat's roots in one cut). By AI agents, Wed Nov 11 2026. No macro, syntax, notation, axiom, sorry.
-/
import Derived.Test.YtofihjoanjkdmaaGreatChecked
import GoSem.Claim
import GoSem.ClaimJoined
import GoSem.ClaimMapViews
import Derived.JoinedTies
import Derived.KernelRfl
namespace Go.Proofs.YtofihjoanjkdmaaGreat
/- THE CELL 'sum', in the pinned program and in every row, IS THE sha256 OF THE DUMP (.gsa) THAT YtofihjoanjkdmaaGreatProg.lean LOADS. Nothing in Lean hashes anything: it is a label: what it is worth is what the hold of that sum in a sandbox is worth. -/
noncomputable def Tryz.pinned : Pinned := { name := "ytofihjoanjkdmaagreat", sum := "62853c805feeb87d031387815a0bbe995e1e9346e2a14659e3da0a2b71a5fb54", checked := Tryz.checked }
namespace Rows
def none {H : Type} : Left H := { results := [], args := [] }

/-- 'laws.FnExactLayoutOk': WHATEVER THE INPUT: true; the input reads as it did. -/
def fnExactLayoutOkSpec : ChangeSpec := { name := "fnExactLayoutOk", fn := fun _ => fun
  | [d1, d2] => { results := [.lit (.bool true)], args := [d1, d2] }
  | _ => none }
def fnExactLayoutOkRow : OpenClaim := { program := "ytofihjoanjkdmaagreat", sum := "62853c805feeb87d031387815a0bbe995e1e9346e2a14659e3da0a2b71a5fb54", func := "loop.example/g03311/laws.FnExactLayoutOk", spec := "fnExactLayoutOk", plainKeys := false, apart := false }
def FnExactLayoutOkSaid : Prop := fnExactLayoutOkRow.holds Tryz.pinned (OpenSpec.ofChange fnExactLayoutOkSpec)

/-- ITS FALSE NEIGHBOUR: 'it returns false'. Refute it at one input. -/
def fnExactLayoutOkWrong : ChangeSpec := { name := "fnExactLayoutOk", fn := fun _ => fun
  | [d1, d2] => { results := [.lit (.bool false)], args := [d1, d2] }
  | _ => none }
def FnExactLayoutOkWrongFalsely : Prop := fnExactLayoutOkRow.holds Tryz.pinned (OpenSpec.ofChange fnExactLayoutOkWrong)

/-- 'laws.FnExactRoutedDelays': WHATEVER THE INPUT: true; the input reads as it did. -/
def fnExactRoutedDelaysSpec : ChangeSpec := { name := "fnExactRoutedDelays", fn := fun _ => fun
  | [d1, d2] => { results := [.lit (.bool true)], args := [d1, d2] }
  | _ => none }
def fnExactRoutedDelaysRow : OpenClaim := { program := "ytofihjoanjkdmaagreat", sum := "62853c805feeb87d031387815a0bbe995e1e9346e2a14659e3da0a2b71a5fb54", func := "loop.example/g03311/laws.FnExactRoutedDelays", spec := "fnExactRoutedDelays", unfollowed := true, recurses := true, plainKeys := false, apart := false }
def FnExactRoutedDelaysSaid : Prop := fnExactRoutedDelaysRow.holds Tryz.pinned (OpenSpec.ofChange fnExactRoutedDelaysSpec)

/-- ITS FALSE NEIGHBOUR: 'it returns false'. Refute it at one input. -/
def fnExactRoutedDelaysWrong : ChangeSpec := { name := "fnExactRoutedDelays", fn := fun _ => fun
  | [d1, d2] => { results := [.lit (.bool false)], args := [d1, d2] }
  | _ => none }
def FnExactRoutedDelaysWrongFalsely : Prop := fnExactRoutedDelaysRow.holds Tryz.pinned (OpenSpec.ofChange fnExactRoutedDelaysWrong)

/-- 'laws.FnExactConfigure': WHATEVER THE INPUT: true; the input reads as it did. -/
def fnExactConfigureSpec : ChangeSpec := { name := "fnExactConfigure", fn := fun _ => fun
  | [d1, d2] => { results := [.lit (.bool true)], args := [d1, d2] }
  | _ => none }
def fnExactConfigureRow : OpenClaim := { program := "ytofihjoanjkdmaagreat", sum := "62853c805feeb87d031387815a0bbe995e1e9346e2a14659e3da0a2b71a5fb54", func := "loop.example/g03311/laws.FnExactConfigure", spec := "fnExactConfigure", plainKeys := false, apart := false }
def FnExactConfigureSaid : Prop := fnExactConfigureRow.holds Tryz.pinned (OpenSpec.ofChange fnExactConfigureSpec)

/-- ITS FALSE NEIGHBOUR: 'it returns false'. Refute it at one input. -/
def fnExactConfigureWrong : ChangeSpec := { name := "fnExactConfigure", fn := fun _ => fun
  | [d1, d2] => { results := [.lit (.bool false)], args := [d1, d2] }
  | _ => none }
def FnExactConfigureWrongFalsely : Prop := fnExactConfigureRow.holds Tryz.pinned (OpenSpec.ofChange fnExactConfigureWrong)

/-- 'laws.FnExactImplement': WHATEVER THE INPUT: true; the input reads as it did. -/
def fnExactImplementSpec : ChangeSpec := { name := "fnExactImplement", fn := fun _ => fun
  | [d1, d2, d3, d4] => { results := [.lit (.bool true)], args := [d1, d2, d3, d4] }
  | _ => none }
def fnExactImplementRow : OpenClaim := { program := "ytofihjoanjkdmaagreat", sum := "62853c805feeb87d031387815a0bbe995e1e9346e2a14659e3da0a2b71a5fb54", func := "loop.example/g03311/laws.FnExactImplement", spec := "fnExactImplement", plainKeys := false, apart := false }
def FnExactImplementSaid : Prop := fnExactImplementRow.holds Tryz.pinned (OpenSpec.ofChange fnExactImplementSpec)

/-- ITS FALSE NEIGHBOUR: 'it returns false'. Refute it at one input. -/
def fnExactImplementWrong : ChangeSpec := { name := "fnExactImplement", fn := fun _ => fun
  | [d1, d2, d3, d4] => { results := [.lit (.bool false)], args := [d1, d2, d3, d4] }
  | _ => none }
def FnExactImplementWrongFalsely : Prop := fnExactImplementRow.holds Tryz.pinned (OpenSpec.ofChange fnExactImplementWrong)

/- THE SECOND FORM. 'bulk': how many values and letters a reading holds, each counted each time it is reached (what is shared counts as often as it is met; a slice's spare places count too). A statement '..UptoSaid' is the law's where the arguments, and the package variables that the reading takes, are together of bulk at most 1048576: NARROWER than '..Said'. Prove '..Said' where nothing that the law and all that it calls make is longer than what came in: it says more and counts as full. Else prove '..UptoSaid'. A law counts once. -/
mutual
def uptoBulk {H : Type} : DataW H → Nat
  | .lit (.string bytes) => bytes.length + 1
  | .lit _ => 1
  | .nil => 1
  | .ptr d => uptoBulk d + 1
  | .slice elems spare => uptoBulkAll elems + uptoBulkAll spare + 1
  | .agg parts => uptoBulkAll parts + 1
  | .iface _ d => uptoBulk d + 1
  | .map entries => uptoBulkEntries entries + 1
  | .held _ => 1
def uptoBulkAll {H : Type} : List (DataW H) → Nat
  | [] => 0
  | d :: r => uptoBulk d + uptoBulkAll r
def uptoBulkEntries {H : Type} : List (Lit × DataW H) → Nat
  | [] => 0
  | x :: r => uptoBulkEntry x + uptoBulkEntries r
def uptoBulkEntry {H : Type} : Lit × DataW H → Nat
  | (.string bytes, d) => bytes.length + uptoBulk d + 1
  | (_, d) => uptoBulk d + 1
 end
def uptoSmall : (H : Type) → List (DataW H) → Bool := fun _ ds => decide (uptoBulkAll ds ≤ 1048576)
def OpenSpec.upto (s : _root_.Go.ChangeSpec) : _root_.Go.OpenSpec := { _root_.Go.OpenSpec.ofChange s with cond := some uptoSmall }

/-- 'laws.FnExactLayoutOk', WHERE WHAT IT READS IS OF BULK AT MOST 1048576: true; the input reads as it did. -/
def fnExactLayoutOkUptoRow : OpenClaim := { program := "ytofihjoanjkdmaagreat", sum := "62853c805feeb87d031387815a0bbe995e1e9346e2a14659e3da0a2b71a5fb54", func := "loop.example/g03311/laws.FnExactLayoutOk", spec := "fnExactLayoutOk", plainKeys := false, apart := false, narrowed := true }
def FnExactLayoutOkUptoSaid : Prop := fnExactLayoutOkUptoRow.holds Tryz.pinned (OpenSpec.upto fnExactLayoutOkSpec)

/-- 'laws.FnExactRoutedDelays', WHERE WHAT IT READS IS OF BULK AT MOST 1048576: true; the input reads as it did. -/
def fnExactRoutedDelaysUptoRow : OpenClaim := { program := "ytofihjoanjkdmaagreat", sum := "62853c805feeb87d031387815a0bbe995e1e9346e2a14659e3da0a2b71a5fb54", func := "loop.example/g03311/laws.FnExactRoutedDelays", spec := "fnExactRoutedDelays", unfollowed := true, recurses := true, plainKeys := false, apart := false, narrowed := true }
def FnExactRoutedDelaysUptoSaid : Prop := fnExactRoutedDelaysUptoRow.holds Tryz.pinned (OpenSpec.upto fnExactRoutedDelaysSpec)

/-- 'laws.FnExactConfigure', WHERE WHAT IT READS IS OF BULK AT MOST 1048576: true; the input reads as it did. -/
def fnExactConfigureUptoRow : OpenClaim := { program := "ytofihjoanjkdmaagreat", sum := "62853c805feeb87d031387815a0bbe995e1e9346e2a14659e3da0a2b71a5fb54", func := "loop.example/g03311/laws.FnExactConfigure", spec := "fnExactConfigure", plainKeys := false, apart := false, narrowed := true }
def FnExactConfigureUptoSaid : Prop := fnExactConfigureUptoRow.holds Tryz.pinned (OpenSpec.upto fnExactConfigureSpec)

/-- 'laws.FnExactImplement', WHERE WHAT IT READS IS OF BULK AT MOST 1048576: true; the input reads as it did. -/
def fnExactImplementUptoRow : OpenClaim := { program := "ytofihjoanjkdmaagreat", sum := "62853c805feeb87d031387815a0bbe995e1e9346e2a14659e3da0a2b71a5fb54", func := "loop.example/g03311/laws.FnExactImplement", spec := "fnExactImplement", plainKeys := false, apart := false, narrowed := true }
def FnExactImplementUptoSaid : Prop := fnExactImplementUptoRow.holds Tryz.pinned (OpenSpec.upto fnExactImplementSpec)

end Rows
end Go.Proofs.YtofihjoanjkdmaaGreat
