/- A region that draws its order and whose calls make memory but return numbers: one walk in the order of the text serves every order. -/
import Derived.Test.YtofihjoanjkdmaaGreatBase
namespace Go.Proofs.YtofihjoanjkdmaaGreat
set_option maxRecDepth 100000
open Go.RowKit
structure Sub (W:World) where
 v:World
 h:Below W.heap.size W v
theorem aY (W:World):Nonempty (Sub W):=⟨⟨W,Below.refl _ _⟩⟩
theorem aP (W:World) (x:Sub W) (b o:Nat) (h:b<W.heap.size):x.v.cell? ⟨b,o,none⟩=W.cell? ⟨b,o,none⟩:=(bG x.h).1 b o h
theorem fO {P:Program} (W:World) {z:Nat} {Q:Exit→Act→World→Prop} {a:Act} {w:World} {l:List Oper} (u:P.follows .mixedOrders=true) (g:Region.lexB .any l.toArray=true) (q:Below W.heap.size W w)
  (h:wpQuiet P l.toArray (fun w'=>∃x:Sub W,w'=x.v) (fun j=>∀w',(∃x:Sub W,w'=x.v)→Q .normal j w') l a):(Code.region z l.toArray true).wp P Q a w :=
 wp_region_quiet (C:=fun w'=>∃x:Sub W,w'=x.v) u g ⟨⟨_,q.drew⟩,rfl⟩ (by simpa using h)
theorem wpB {P:Program} (W:World) {u:Nat} {Q:Exit→Act→World→Prop} {a:Act} {l:List Oper} (h:wpQuiet P l.toArray (fun w'=>∃x:Sub W,w'=x.v) (fun j=>∀w',(∃x:Sub W,w'=x.v)→Q .normal j w') l a) (q:P.follows .mixedOrders=true:=by kernel_rfl) (g:Region.lexB .any l.toArray=true:=by kernel_rfl):(Code.region u l.toArray true).wp P Q a W:=fO W q g (Below.refl _ _) h
theorem aN {P:Program} {f:FuncId} {args:Array Value} {W:World} {x:Sub W} {v:Value} (h:Calls P f args x.v fun e w'=>e = .returned v/\Below x.v.heap.size x.v w') :
  Calls P f args x.v fun e g=>e = .returned v/\∃y:Sub W,g=y.v :=
 h.mono fun _ w' ⟨he,j⟩=>⟨he,⟨w',aA x.h j⟩,rfl⟩
theorem aQ {P:Program} {f:FuncId} {args:Array Value} {W:World} {x:Sub W} {v:Value} (h:Calls P f args x.v fun e w'=>e = .returned v/\x.v=w') :
  Calls P f args x.v fun e g=>e = .returned v/\∃y:Sub W,g=y.v :=
 h.mono fun _ w' ⟨he,j⟩=>⟨he,⟨w',j ▸ x.h⟩,rfl⟩
end Go.Proofs.YtofihjoanjkdmaaGreat
