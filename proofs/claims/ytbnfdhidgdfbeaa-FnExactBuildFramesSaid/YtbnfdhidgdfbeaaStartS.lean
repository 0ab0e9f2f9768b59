/- append of several integers to a row of the call's own. The initial state of a device, by the reference. -/
import Derived.Test.YtbnfdhidgdfbeaaCopy
import Derived.Test.YtbnfdhidgdfbeaaStart
namespace Go.Proofs.Ytbnfdhidgdfbeaa
set_option maxRecDepth 100000
open Go.RowKit

end Go.Proofs.Ytbnfdhidgdfbeaa

namespace Go.Proofs.Ytbnfdhidgdfbeaa
set_option maxRecDepth 100000
open Go.RowKit
/-- What lies from lo up to the world w1 is kept; the row A is not among it. -/
def KeptIn (w1 wr:World) (lo:Nat) (A:Option Addr):Prop:=(∀k,lo≤k→k<w1.heap.size→wr.heap[k]?=w1.heap[k]?)∧w1.heap.size≤wr.heap.size∧∀a,A=some a→a.block<lo∨w1.heap.size≤a.block
theorem KeptIn.below {w1 wr w2:World} {lo:Nat} {A:Option Addr} (h:KeptIn w1 wr lo A) (hb:Below wr.heap.size wr w2):KeptIn w1 w2 lo A :=
 ⟨fun k h1 h2=>(hb.block k (by have:=h.2.1;omega)).trans (h.1 k h1 h2),by have:=h.2.1;have:=hb.size;omega,h.2.2⟩
end Go.Proofs.Ytbnfdhidgdfbeaa
