/- A new row of zeros, and a new box, among pieces with holes. Plain lemmas. -/
import Derived.Test.YtlinbdkbbhpdpaaGreatSrO
namespace Go.Proofs.YtlinbdkbbhpdpaaGreat
set_option maxRecDepth 100000
open Go.RowKit

section
variable {W w:World} {ps:List Pc}
theorem Sepa.fillZ (h:Sepa W w ps) (j:Nat) (hj:ps[j]?=some (.cels [] [])) (n:Nat) (hn:n≤1048576):Sepa W (w.alloc (zObj n)) (ps.set j (.cel (celI (List.replicate n 0)) (.slice (some ⟨w.heap.size,0,none⟩) n n))) :=
 h.fillOwnQ j hj (below_new (Below.refl _ _) _) (Own.arr (heap_new w _) (Nat.le_refl _) (by unfold maxLen;omega) (by simp))
theorem Sepa.fillZs (h:Sepa W w ps) (j:Nat) (hj:ps[j]?=some (.cels [] [])) (n:Nat) (hn:n≤1048576) {s:Nat} (hs:w.heap.size=s):Sepa W (w.alloc (zObj n)) (ps.set j (.cel (celI (List.replicate n 0)) (.slice (some ⟨s,0,none⟩) n n))) :=
 hs ▸ h.fillZ j hj n hn
theorem Sepa.zb (h:Sepa W w ps) (j:Nat) (hj:ps[j]?=some (.cels [] [])) (n:Nat) (hn:n≤1048576) (cs:Array Value) (t:TypeId):Sepa W ((w.alloc (zObj n)).alloc (.cells cs t)) (ps.set j (.cel (celI (List.replicate n 0)) (.slice (some ⟨w.heap.size,0,none⟩) n n))++[.blk (w.heap.size+1) cs t]):=by
 have h1:=(h.fillZ j hj n hn).pushBlk cs t
 rwa [World.size_alloc] at h1
theorem Sepa.bz (h:Sepa W w ps) (j:Nat) (n:Nat) (hn:n≤1048576) (cs:Array Value) (t:TypeId) (hj:(ps++[Pc.blk w.heap.size cs t])[j]?=some (.cels [] [])):Sepa W ((w.alloc (.cells cs t)).alloc (zObj n)) ((ps++[Pc.blk w.heap.size cs t]).set j (.cel (celI (List.replicate n 0)) (.slice (some ⟨w.heap.size+1,0,none⟩) n n))):=by
 have h1:=(h.pushBlk cs t).fillZ j hj n hn
 rwa [World.size_alloc] at h1
end
theorem box2Q {w:World} {g:Nat} {a b:Value} {t:TypeId} (h:w.heap[g]?=some (.cells #[a,b] t (0,0))):w.cell? ⟨g,0,none⟩=some a∧w.cell? ⟨g,1,none⟩=some b∧(∀k,w.frozen? ⟨g,k,none⟩=false)∧g<w.heap.size :=
 ⟨cell_heap (k:=0) h rfl,cell_heap (k:=1) h rfl,frozen_heap h,heap_lt0 h⟩
end Go.Proofs.YtlinbdkbbhpdpaaGreat
