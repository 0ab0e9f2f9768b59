/- Boards that come in: how they read. Acts that come in: how they read; the laws' copy, count and comparison of an act. ActOk: whether an act may be performed: the program. -/
import Derived.Test.YtbnfdhidgdfbeaaGreatBkS
import Derived.Test.YtbnfdhidgdfbeaaGreatBrd
import Derived.Test.YtbnfdhidgdfbeaaGreatCopy
import Derived.Test.YtbnfdhidgdfbeaaGreatDeco
namespace Go.Proofs.YtbnfdhidgdfbeaaGreat
set_option maxRecDepth 100000
open Go.RowKit Go.ChangeShapes Go.WideShapes Go.ChangeAt

section
variable {H:Type} {enc:TypeId × Value→H} {W:World} {b0 base:Nat} {spare:Nat→Bool} {held:Bool}
end
end Go.Proofs.YtbnfdhidgdfbeaaGreat

namespace Go.Proofs.YtbnfdhidgdfbeaaGreat
set_option maxRecDepth 100000
open Go.RowKit Go.ChangeShapes Go.WideShapes Go.ChangeAt

structure Ac where
 kind:Int
 A:Int
 B:Int
 C:Int
 reg:Reg
 words:List Int
section
variable {H:Type} {enc:TypeId × Value→H} {W:World} {b0 base:Nat} {held:Bool}
end
/-- An act's box g0, the result's block g1, and the block g of the act that the call makes. -/
def ThreeA (w:World) (g0 g1 g:Nat) (cs cs1 cs':Array Value):Prop:=w.heap[g0]?=some (.cells cs 59 (0,0))∧w.heap[g1]?=some (.cells cs1 66 (0,0))∧w.heap[g]?=some (.cells cs' 66 (0,0))
theorem ThreeA.tr {w w':World} {g0 g1 g:Nat} {cs cs1 cs':Array Value} (h:ThreeA w g0 g1 g cs cs1 cs') (hb:Below w.heap.size w w'):ThreeA w' g0 g1 g cs cs1 cs':=⟨heap_tr hb h.1,heap_tr hb h.2.1,heap_tr hb h.2.2⟩
theorem ThreeA.set {w:World} {g0 g1 g k:Nat} {cs cs1 cs' cs2:Array Value} (h:ThreeA w g0 g1 g cs cs1 cs') (hn:g0≠g) (hn1:g1≠g) (v:Value) (e:cs'.setIfInBounds k v=cs2):ThreeA (w.setCell ⟨g,k,none⟩ v) g0 g1 g cs cs1 cs2:=⟨heap_setFar h.1 hn v,heap_setFar h.2.1 hn1 v,heap_setAt h.2.2 v e⟩
end Go.Proofs.YtbnfdhidgdfbeaaGreat

namespace Go.Proofs.YtbnfdhidgdfbeaaGreat
set_option maxRecDepth 100000
open Go.RowKit

/-- What an act must be, of itself. -/
def acF (x:Ac):Prop:=(0≤x.kind∧x.kind≤6)∧x.words.length≤20∧(x.A=0∨x.kind=0∨x.kind=1∨x.kind=4∨x.kind=5)∧(x.kind=1∨(x.B=0∧x.C=0))∧(x.kind=3∨(x.reg.X0=0∧x.reg.Y0=0∧x.reg.X1=0∧x.reg.Y1=0))∧(x.kind=4∨x.words.length=0)
instance (x:Ac):Decidable (acF x):=by unfold acF;exact inferInstance
end Go.Proofs.YtbnfdhidgdfbeaaGreat
