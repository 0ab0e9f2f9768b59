/- The empty configuration of a tile: four new blocks. -/
import Derived.Deep.DeepCutAuto
import Derived.Test.YtbnfdhidgdfbeaaDec
namespace Go.Proofs.Ytbnfdhidgdfbeaa
set_option maxRecDepth 100000
open Go.RowKit

def zles (g0 g1:Nat):Array Value:=#[.slice (some ⟨g0,0,none⟩) 4 4,.int .i64 0,.int .i64 0,.int .i64 0,.slice (some ⟨g1,0,none⟩) 4 4,.int .i64 0,.int .i64 0,.int .i64 0]
theorem heap_tr {w w':World} (h:Below w.heap.size w w') {g:Nat} {o:Obj} (hg:w.heap[g]?=some o):w'.heap[g]?=some o:=(h.block g (heap_lt0 hg)).trans hg
theorem heap_al {w:World} {g:Nat} {o:Obj} (o':Obj) (hg:w.heap[g]?=some o):(w.alloc o').heap[g]?=some o:=(Below.heap_alloc w o' g (heap_lt0 hg)).trans hg
theorem heap_newAt {w:World} {g:Nat} {o:Obj} (h:w.heap.size=g):(w.alloc o).heap[g]?=some o:=by subst h;exact heap_new w o
theorem heap_dr {w:World} {g:Nat} {o:Obj} (h:w.heap[g]?=some o):w.drew.heap[g]?=some o:=h
theorem cell_heap {w:World} {g k:Nat} {cs:Array Value} {t:TypeId} {v:Value} (h:w.heap[g]?=some (.cells cs t (0,0))) (hv:cs[k]?=some v):w.cell? ⟨g,k,none⟩=some v:=by unfold World.cell?;rw [h];exact hv
end Go.Proofs.Ytbnfdhidgdfbeaa
