/- A region that draws its order and whose calls make memory but return numbers: one walk in the order of the text serves every order. -/
import Derived.Test.YtofihjoanjkdmaaGreatBase
namespace Go.Proofs.YtofihjoanjkdmaaGreat
set_option maxRecDepth 100000
open Go.RowKit
structure Sub (W:World) where
 v:World
 h:Below W.heap.size W v
theorem aY (W:World):Nonempty (Sub W):=⟨⟨W,Below.refl _ _⟩⟩
theorem aP (W:World) (x:Sub W) (b o:Nat) (h:b<W.heap.size):x.v.cell? ⟨b,o,none⟩=W.cell? ⟨b,o,none⟩:=(bG x.h).1 b o h
theorem fO {P:Program} (W:World) {g:Nat} {Q:Exit→Act→World→Prop} {a:Act} {w:World} {l:List Oper} (j:P.follows .mixedOrders=true) (q:Region.lexB .any l.toArray=true) (u:Below W.heap.size W w)
  (h:wpQuiet P l.toArray (fun w'=>∃x:Sub W,w'=x.v) (fun z=>∀w',(∃x:Sub W,w'=x.v)→Q .normal z w') l a):(Code.region g l.toArray true).wp P Q a w :=
 wp_region_quiet (C:=fun w'=>∃x:Sub W,w'=x.v) j q ⟨⟨_,u.drew⟩,rfl⟩ (by simpa using h)
theorem wpB {P:Program} (W:World) {g:Nat} {Q:Exit→Act→World→Prop} {a:Act} {l:List Oper} (h:wpQuiet P l.toArray (fun w'=>∃x:Sub W,w'=x.v) (fun u=>∀w',(∃x:Sub W,w'=x.v)→Q .normal u w') l a) (j:P.follows .mixedOrders=true:=by kernel_rfl) (q:Region.lexB .any l.toArray=true:=by kernel_rfl):(Code.region g l.toArray true).wp P Q a W:=fO W j q (Below.refl _ _) h
theorem aN {P:Program} {f:FuncId} {args:Array Value} {W:World} {x:Sub W} {v:Value} (h:Calls P f args x.v fun e w'=>e = .returned v/\Below x.v.heap.size x.v w') :
  Calls P f args x.v fun e g=>e = .returned v/\∃y:Sub W,g=y.v :=
 h.mono fun _ w' ⟨he,j⟩=>⟨he,⟨w',aA x.h j⟩,rfl⟩
theorem aQ {P:Program} {f:FuncId} {args:Array Value} {W:World} {x:Sub W} {v:Value} (h:Calls P f args x.v fun e w'=>e = .returned v/\x.v=w') :
  Calls P f args x.v fun e g=>e = .returned v/\∃y:Sub W,g=y.v :=
 h.mono fun _ w' ⟨he,j⟩=>⟨he,⟨w',j ▸ x.h⟩,rfl⟩
end Go.Proofs.YtofihjoanjkdmaaGreat
