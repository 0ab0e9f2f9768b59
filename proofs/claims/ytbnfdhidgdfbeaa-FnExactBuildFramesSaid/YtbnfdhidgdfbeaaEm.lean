/- The emulator of the program: what emulatorOf makes. -/
import Derived.Test.YtbnfdhidgdfbeaaDrvP
namespace Go.Proofs.Ytbnfdhidgdfbeaa
set_option maxRecDepth 100000
open Go.RowKit

def arrB (xs:List Bool):Array Value:=(xs.map Value.bool).toArray
theorem arrB_get {xs:List Bool} {k:Nat} (h:k<xs.length):(arrB xs)[k]?=some (.bool (xs[k]?.getD false)):=by simp [arrB,h]
/-- The slice (A, n) reads as the truth values bs. -/
def Bools (w:World) (A:Option Addr) (n:Nat) (bs:List Bool):Prop :=
 bs.length=n∧(0<n→∃b o,A=some ⟨b,o,none⟩∧b<w.heap.size∧∀j,j<n→w.cell? ⟨b,o+j,none⟩=some (.bool (bs[j]?.getD false)))
theorem Bools.below {w w':World} {A:Option Addr} {n:Nat} {bs:List Bool} (h:Bools w A n bs) (hb:Below w.heap.size w w'):Bools w' A n bs:=by
 refine ⟨h.1,fun hn=>?_⟩
 obtain ⟨b,o,e,hlt,hc⟩:=h.2 hn
 exact ⟨b,o,e,below_lt hb hlt,fun j hj=>(hb.cell (p:=⟨b,o+j,none⟩) hlt).trans (hc j hj)⟩
theorem Bools.made {w:World} {g n:Nat} {bs:List Bool} (hh:w.heap[g]?=some (.cells (arrB bs) 4 (0,0))) (hl:bs.length=n):Bools w (some ⟨g,0,none⟩) n bs:=by
 refine ⟨hl,fun _=>⟨g,0,rfl,heap_lt0 hh,fun j hj=>?_⟩⟩
 rw [Nat.zero_add]
 exact cell_heap hh (arrB_get (by omega))
def exTo (d:Dev) (k:Nat):List Bool:=(List.range k).map fun (j:Nat)=>nodeOk d (j:Int)
abbrev emArr (d:Dev) (T E D:Value):Array Value:=#[.int .i64 d.W,.int .i64 d.H,.int .i64 d.T,.int .i64 d.R,T,E,D]
/-- The emulator at block g: a device, its configurations, which nodes exist, and their drivers. -/
structure EmuAt (w:World) (g:Nat) (d:Dev) (ts:List Tile) (TA:Option Addr) (m tc:Nat) (EA DA:Option Addr) (N:Nat):Prop where
 box:w.heap[g]?=some (.cells (emArr d (.slice TA m tc) (.slice EA N N) (.slice DA N N)) 101 (0,0))
 tiles:RdC w w.heap.size (celT ts) (.slice TA m tc)
 exist:Bools w EA N (exTo d N)
 drv:Ints w DA N (drvTo d ts N)
theorem EmuAt.below {w w':World} {g:Nat} {d:Dev} {ts:List Tile} {TA:Option Addr} {m tc:Nat} {EA DA:Option Addr} {N:Nat} (h:EmuAt w g d ts TA m tc EA DA N) (hb:Below w.heap.size w w'):EmuAt w' g d ts TA m tc EA DA N :=
 ⟨heap_tr hb h.box,h.tiles.below hb,h.exist.below hb,h.drv.below hb⟩

end Go.Proofs.Ytbnfdhidgdfbeaa
