/- Drawing a valid configuration of a tile, of the reference. -/
import Derived.Deep.DeepCutAuto
import Derived.Test.YtbnfdhidgdfbeaaDrwN
namespace Go.Proofs.Ytbnfdhidgdfbeaa
set_option maxRecDepth 100000
open Go.RowKit

theorem grown_far {w w':World} {g k:Nat} (h:w.grownBy w' (some g)) (hk:k<w.heap.size) (hne:k≠g):w'.heap[k]?=w.heap[k]?:=h.block k hk (by simpa using hne)
theorem DS.grown {w w':World} {lo S gr gc gm gl M g:Nat} {mux:List Int} {lv:Array Value} {pad ram:Int} (h:DS w gr gc gm gl M mux lv pad ram) (hs:Sep4 lo S gr gc gm gl) (hg:g<lo) (k:w.grownBy w' (some g)):DS w' gr gc gm gl M mux lv pad ram:=by
 obtain ⟨l1,l2,l3,l4⟩:=hs.le
 exact ⟨(grown_far k (heap_lt0 h.res) (by omega)).trans h.res,(grown_far k (heap_lt0 h.tile) (by omega)).trans h.tile,(grown_far k (heap_lt0 h.mux) (by omega)).trans h.mux,(grown_far k (heap_lt0 h.les) (by omega)).trans h.les⟩
end Go.Proofs.Ytbnfdhidgdfbeaa
