/- Results that lie in a cell. -/
import Derived.Laws.Rows
import Derived.Lib.SmallJoins
import Derived.Test.YtofihjoanjkdmaaGreatHar
namespace Go.Proofs.YtofihjoanjkdmaaGreat
set_option maxRecDepth 100000
open Go.RowKit
theorem Chg.set{lo hi g k:Nat}{w w':World}(h:Chg lo hi w w')(h1:lo<=g)(h2:g<hi)(v:Value):Chg lo hi w (w'.setCell ⟨g,k,none⟩ v):=by
 have b:=(Below.refl g w').setCell (p:=⟨g,k,none⟩) (Nat.le_refl g) v;exact⟨b.os.trans h.os,b.tape.trans h.tape,b.output.trans h.output,Nat.le_trans h.size b.size,fun i j hn=>(Below.heap_setCell w' ⟨g,k,none⟩ v i (by show i≠g;omega)).trans (h.block i j hn)⟩
theorem fC{w:World}{g k:Nat}{cs j:Array Value}{t:TypeId}(h:w.heap[g]?=some (.cells cs t (0,0)))(v:Value)(e:cs.setIfInBounds k v=j):(w.setCell ⟨g,k,none⟩ v).heap[g]?=some (.cells j t (0,0)):=by
 rw[←e];exact Go.Joins.block_setCell h v
theorem kL{q:Func}{p:Tmp}{j t:TypeId}{tmps cs:Array Value}{P:Program}{w:World}{g:Nat}{fs:Array Field}(h:q.results=#[.cell p j])(ht:tmps.getD p undef=.pointer (some ⟨g,0,none⟩))(hg:w.heap[g]?=some (.cells cs t (0,0)))
  (u:P.underlying j=some (.struct fs)) (hi:(P.info? j).map (·.size)=some cs.size):(results q tmps).run P w=.ok (.agg cs) w:=by
 have hl:(loadVar j ⟨g,0,none⟩).run P w=.ok (.agg cs) w:=run_loadVar_row w g t j cs (0,0) (.struct fs) hg u rfl hi;simp only[results,h];simp only[Array.getD_eq_getD_getElem?]at ht;simp[ht,asAddr,hl]
theorem dE{q:Func}{p u:Tmp}{j t:TypeId}{tmps cs:Array Value}{P:Program}{w:World}{g:Nat}{fs:Array Field}(h:q.results=#[.cell p j,.tmp u])(ht:tmps.getD p undef=.pointer (some ⟨g,0,none⟩))(hg:w.heap[g]?=some (.cells cs t (0,0)))
  (z:P.underlying j=some (.struct fs)) (hi:(P.info? j).map (·.size)=some cs.size):(results q tmps).run P w=.ok (.tuple #[.agg cs,tmps.getD u undef]) w:=by
 have hl:(loadVar j ⟨g,0,none⟩).run P w=.ok (.agg cs) w:=run_loadVar_row w g t j cs (0,0) (.struct fs) hg z rfl hi;simp only[results,h];simp only[Array.getD_eq_getD_getElem?]at ht;simp[ht,asAddr,hl]
end Go.Proofs.YtofihjoanjkdmaaGreat
