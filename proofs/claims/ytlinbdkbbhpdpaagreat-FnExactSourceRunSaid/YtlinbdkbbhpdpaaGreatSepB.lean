/- More on pieces: a block ahead of the others, appending to a slice in a row, loops of great functions. -/
import Derived.Deep.CutRange
import Derived.Deep.DeepCutAuto
import Derived.Test.YtlinbdkbbhpdpaaGreatNet
namespace Go.Proofs.YtlinbdkbbhpdpaaGreat
set_option maxRecDepth 100000
open Go.RowKit

/-- A number in a row of numbers is stored anew. -/
theorem Sepa.setI {W w:World} {ps:List Pc} (S:Sepa W w ps) (j:Nat) {n c i:Nat} {A:Option Addr} {xs:List Int} (hj:ps[j]?=some (.cel (celI xs) (.slice A n c))) (hi:i<n) :
  ∃g,A=some ⟨g,0,none⟩∧W.heap.size≤g∧g<w.heap.size∧w.cell? ⟨g,i,none⟩=some (.int .i64 (xs[i]?.getD 0))∧w.frozen? ⟨g,i,none⟩=false ∧
   ∀y:Int,Sepa W (w.setCell ⟨g,i,none⟩ (.int .i64 y)) (ps.set j (.cel (celI (xs.set i y)) (.slice A n c))):=by
 have hl:=(S.ints j hj).1
 have hx:xs[i]?=some (xs[i]?.getD 0):=by rw [List.getElem?_eq_getElem (by omega)];rfl
 obtain ⟨g,h1,h2,h3,h4,h5,h6⟩:=S.num j (i:=i) (x:=xs[i]?.getD 0) hj (by rw [List.getElem?_map,hx];rfl)
 exact ⟨g,h1,h2,h3,h4,h5,fun y=>by have:=h6 y;rwa [←List.map_set] at this⟩
/-- The loops of a function's code, those within loops left out. -/
def loopsOf:Code→List Code
 | .loop c=>[.loop c]
 | .seq a b=>loopsOf a++loopsOf b
 | .block _ c=>loopsOf c
 | .scope c=>loopsOf c
 | .cond _ a b=>loopsOf a++loopsOf b
 | _=>[]
def loopAt (f:Func) (k:Nat):Code:=((f.body.map loopsOf).getD [])[k]?.getD .skip
end Go.Proofs.YtlinbdkbbhpdpaaGreat
