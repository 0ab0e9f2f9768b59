/- Networks of look-up tables: what they are and which are valid. Plain definitions. Networks of look-up tables as nested memory. -/
import Derived.Test.YtlinbdkbbhpdpaaGreatBase
import Derived.Test.YtlinbdkbbhpdpaaGreatSep
namespace Go.Proofs.YtlinbdkbbhpdpaaGreat
set_option maxRecDepth 100000
open Go.RowKit

/-- A sequential element, a look-up table, and a network of them. -/
structure Sq where
 kind:Int
 init:Int
 ins:List Int
structure Lt where
 ins:List Int
 mask:Int
structure LNet where
 inputs:Int
 seqs:List Sq
 luts:List Lt
 outs:List Int
def Sq.zero:Sq:=⟨0,0,[]⟩
def Lt.zero:Lt:=⟨[],0⟩
def LNet.zero:LNet:=⟨0,[],[],[]⟩
def LNet.first (l:LNet):Nat:=1+l.inputs.toNat+l.seqs.length
def LNet.count (l:LNet):Nat:=l.first+l.luts.length
end Go.Proofs.YtlinbdkbbhpdpaaGreat

namespace Go.Proofs.YtlinbdkbbhpdpaaGreat
set_option maxRecDepth 100000
open Go.RowKit

/-! ### networks -/
def Lt.cells (l:Lt):List Cel:=[celI l.ins,.int l.mask]
def Sq.cells (s:Sq):List Cel:=[.int s.kind,.int s.init,celI s.ins]
theorem Lt.cells_length (l:Lt):l.cells.length=2:=rfl
theorem Sq.cells_length (s:Sq):s.cells.length=3:=rfl
theorem flatS_length {α:Type} {f:α→List Cel} {s:Nat} (hf:∀x,(f x).length=s) (xs:List α):(xs.flatMap f).length=xs.length * s:=by rw [flat_length hf,Nat.mul_comm]
theorem flatS_at {α:Type} {f:α→List Cel} {s:Nat} (hf:∀x,(f x).length=s) {xs:List α} {k j:Nat} {x:α} (h:xs[k]?=some x) (hj:j<s):(xs.flatMap f)[k * s+j]?=(f x)[j]?:=by rw [Nat.mul_comm];exact flat_get hf h hj
end Go.Proofs.YtlinbdkbbhpdpaaGreat
