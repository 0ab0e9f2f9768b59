/- The initial state of a device, by the reference. The laws' helpers on tiles: comparing, marking, held marks. -/
import Derived.Test.YtignkfhdkcgkgaaOwn
import Derived.Test.YtignkfhdkcgkgaaPushN
import Derived.Test.YtignkfhdkcgkgaaStart
namespace Go.Proofs.Ytignkfhdkcgkgaa
set_option maxRecDepth 100000
open Go.RowKit
/-- What lies from lo up to the world w1 is kept; the row A is not among it. -/
def KeptIn (w1 wr:World) (lo:Nat) (A:Option Addr):Prop:=(∀k,lo≤k→k<w1.heap.size→wr.heap[k]?=w1.heap[k]?)∧w1.heap.size≤wr.heap.size∧∀a,A=some a→a.block<lo∨w1.heap.size≤a.block
theorem KeptIn.below {w1 wr w2:World} {lo:Nat} {A:Option Addr} (h:KeptIn w1 wr lo A) (hb:Below wr.heap.size wr w2):KeptIn w1 w2 lo A :=
 ⟨fun k h1 h2=>(hb.block k (by have:=h.2.1;omega)).trans (h.1 k h1 h2),by have:=h.2.1;have:=hb.size;omega,h.2.2⟩
end Go.Proofs.Ytignkfhdkcgkgaa

namespace Go.Proofs.Ytignkfhdkcgkgaa
set_option maxRecDepth 100000
open Go.RowKit

/-! ### what the call owns, element by element -/
theorem OwnC.elen {w:World} {n c:Nat} {A:Option Addr} {F:List Nat} {es:List Le} (h:OwnC w (celE es) (.slice A n c) F):es.length=n:=h.rd.elen
theorem OwnC.tlen {w:World} {n c:Nat} {A:Option Addr} {F:List Nat} {ts:List Tile} (h:OwnC w (celT ts) (.slice A n c) F):ts.length=n:=h.rd.tlen
theorem getD_none {α:Type} {xs:List α} {k:Nat} (d:α) (h:xs.length≤k):xs[k]?.getD d=d:=by rw [List.getElem?_eq_none h];rfl
end Go.Proofs.Ytignkfhdkcgkgaa
