/- A region that draws its order and whose calls make memory but return numbers: one walk in the order of the text serves every order. -/
import Derived.Test.YtofihjoanjkdmaaGreatBase
namespace Go.Proofs.YtofihjoanjkdmaaGreat
set_option maxRecDepth 100000
open Go.RowKit
structure Sub(W:World) where
 v:World
 h:Below W.heap.size W v
theorem dB(W:World):Nonempty (Sub W):=⟨⟨W,Below.refl _ _⟩⟩
theorem au(W:World)(x:Sub W)(b o:Nat)(h:b<W.heap.size):x.v.cell? ⟨b,o,none⟩=W.cell? ⟨b,o,none⟩:=(az x.h).1 b o h
theorem gI{P:Program}(W:World){id:Nat}{Q:Exit→Act→World→Prop}{a:Act}{w:World}{l:List Oper}(hm:P.follows .mixedOrders=true)(q:Region.lexB .any l.toArray=true)(g:Below W.heap.size W w)
  (h:wpQuiet P l.toArray (fun w'=>∃x:Sub W,w'=x.v) (fun j=>∀w',(∃x:Sub W,w'=x.v)→Q .normal j w') l a):(Code.region id l.toArray true).wp P Q a w :=
 wp_region_quiet (C:=fun w'=>∃x:Sub W,w'=x.v) hm q ⟨⟨_,g.drew⟩,rfl⟩ (by simpa using h)
theorem wpB{P:Program}(W:World){id:Nat}{Q:Exit→Act→World→Prop}{a:Act}{l:List Oper}(h:wpQuiet P l.toArray (fun w'=>∃x:Sub W,w'=x.v) (fun g=>∀w',(∃x:Sub W,w'=x.v)→Q .normal g w') l a)(hm:P.follows .mixedOrders=true:=by kernel_rfl)(j:Region.lexB .any l.toArray=true:=by kernel_rfl):(Code.region id l.toArray true).wp P Q a W:=gI W hm j (Below.refl _ _) h
theorem aV{P:Program}{f:FuncId}{args:Array Value}{W:World}{x:Sub W}{v:Value}(h:Calls P f args x.v fun e w'=>e=.returned v/\Below x.v.heap.size x.v w') :
  Calls P f args x.v fun e g=>e=.returned v/\∃y:Sub W,g=y.v :=
 h.mono fun _ w' ⟨he,hb⟩=>⟨he,⟨w',aA x.h hb⟩,rfl⟩
theorem aX{P:Program}{f:FuncId}{args:Array Value}{W:World}{x:Sub W}{v:Value}(h:Calls P f args x.v fun e w'=>e=.returned v/\x.v=w') :
  Calls P f args x.v fun e g=>e=.returned v/\∃y:Sub W,g=y.v :=
 h.mono fun _ w' ⟨he,hb⟩=>⟨he,⟨w',hb ▸ x.h⟩,rfl⟩
end Go.Proofs.YtofihjoanjkdmaaGreat
