/- Results that lie in a cell. -/
import Derived.Laws.Rows
import Derived.Lib.SmallJoins
import Derived.Test.YtlinbdkbbhpdpaaGreatHar
namespace Go.Proofs.YtlinbdkbbhpdpaaGreat
set_option maxRecDepth 100000
open Go.RowKit

theorem Chg.set {lo hi g k:Nat} {w w':World} (h:Chg lo hi w w') (h1:lo≤g) (h2:g<hi) (v:Value):Chg lo hi w (w'.setCell ⟨g,k,none⟩ v):=by
 have b:=(Below.refl g w').setCell (p:=⟨g,k,none⟩) (Nat.le_refl g) v
 exact ⟨b.os.trans h.os,b.tape.trans h.tape,b.output.trans h.output,Nat.le_trans h.size b.size,fun i hi' hn=>(Below.heap_setCell w' ⟨g,k,none⟩ v i (by show i≠g;omega)).trans (h.block i hi' hn)⟩
theorem results_cell1 {fn:Func} {p:Tmp} {ty t:TypeId} {tmps cs:Array Value} {P:Program} {w:World} {g:Nat} {fs:Array Field} (h:fn.results=#[.cell p ty]) (ht:tmps.getD p undef = .pointer (some ⟨g,0,none⟩)) (hg:w.heap[g]?=some (.cells cs t (0,0)))
  (hu:P.underlying ty=some (.struct fs)) (hi:(P.info? ty).map (·.size)=some cs.size):(results fn tmps).run P w = .ok (.agg cs) w:=by
 have hl:(loadVar ty ⟨g,0,none⟩).run P w = .ok (.agg cs) w:=run_loadVar_row w g t ty cs (0,0) (.struct fs) hg hu rfl hi
 simp only [results,h]
 simp only [Array.getD_eq_getD_getElem?] at ht
 simp [ht,asAddr,hl]
theorem results_cell2 {fn:Func} {p u:Tmp} {ty t:TypeId} {tmps cs:Array Value} {P:Program} {w:World} {g:Nat} {fs:Array Field} (h:fn.results=#[.cell p ty,.tmp u]) (ht:tmps.getD p undef = .pointer (some ⟨g,0,none⟩)) (hg:w.heap[g]?=some (.cells cs t (0,0)))
  (hu:P.underlying ty=some (.struct fs)) (hi:(P.info? ty).map (·.size)=some cs.size):(results fn tmps).run P w = .ok (.tuple #[.agg cs,tmps.getD u undef]) w:=by
 have hl:(loadVar ty ⟨g,0,none⟩).run P w = .ok (.agg cs) w:=run_loadVar_row w g t ty cs (0,0) (.struct fs) hg hu rfl hi
 simp only [results,h]
 simp only [Array.getD_eq_getD_getElem?] at ht
 simp [ht,asAddr,hl]
end Go.Proofs.YtlinbdkbbhpdpaaGreat
