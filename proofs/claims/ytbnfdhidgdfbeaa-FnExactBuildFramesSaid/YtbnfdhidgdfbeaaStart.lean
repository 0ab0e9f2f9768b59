/- ReadFrames of the program; the initial state of a device. -/
import Derived.Test.YtbnfdhidgdfbeaaEmu
import Derived.Test.YtbnfdhidgdfbeaaRead
import Derived.Test.YtbnfdhidgdfbeaaTileRd
namespace Go.Proofs.Ytbnfdhidgdfbeaa
set_option maxRecDepth 100000
open Go.RowKit

theorem keep4 {W W':World} {g:Nat} {v0 v1 v2 v3:Value} (hb:Below W.heap.size W W') (hg:g<W.heap.size)
  (h:W.cell? ⟨g,0,none⟩=some v0∧W.cell? ⟨g,1,none⟩=some v1∧W.cell? ⟨g,2,none⟩=some v2∧W.cell? ⟨g,3,none⟩=some v3) :
  W'.cell? ⟨g,0,none⟩=some v0∧W'.cell? ⟨g,1,none⟩=some v1∧W'.cell? ⟨g,2,none⟩=some v2∧W'.cell? ⟨g,3,none⟩=some v3 :=
 ⟨(hb.cell (p:=⟨g,0,none⟩) hg).trans h.1,(hb.cell (p:=⟨g,1,none⟩) hg).trans h.2.1,(hb.cell (p:=⟨g,2,none⟩) hg).trans h.2.2.1,(hb.cell (p:=⟨g,3,none⟩) hg).trans h.2.2.2⟩
theorem box4 (w:World) (d:Dev):(w.alloc (.cells #[.int .i64 d.W,.int .i64 d.H,.int .i64 d.T,.int .i64 d.R] 29)).cell? ⟨w.heap.size,0,none⟩=some (.int .i64 d.W)∧(w.alloc (.cells #[.int .i64 d.W,.int .i64 d.H,.int .i64 d.T,.int .i64 d.R] 29)).cell? ⟨w.heap.size,1,none⟩=some (.int .i64 d.H)∧(w.alloc (.cells #[.int .i64 d.W,.int .i64 d.H,.int .i64 d.T,.int .i64 d.R] 29)).cell? ⟨w.heap.size,2,none⟩=some (.int .i64 d.T)∧(w.alloc (.cells #[.int .i64 d.W,.int .i64 d.H,.int .i64 d.T,.int .i64 d.R] 29)).cell? ⟨w.heap.size,3,none⟩=some (.int .i64 d.R) :=
 ⟨cell_heap (heap_new w _) rfl,cell_heap (heap_new w _) rfl,cell_heap (heap_new w _) rfl,cell_heap (heap_new w _) rfl⟩
end Go.Proofs.Ytbnfdhidgdfbeaa
