/- A region that draws its order and whose calls make memory but return numbers: one walk in the order of the text serves every order. -/
import Derived.Test.YtlinbdkbbhpdpaaGreatBase
namespace Go.Proofs.YtlinbdkbbhpdpaaGreat
set_option maxRecDepth 100000
open Go.RowKit

/-- A world that holds what W holds: only memory was made. -/
structure Sub (W:World) where
 v:World
 h:Below W.heap.size W v
theorem sub_ne (W:World):Nonempty (Sub W):=⟨⟨W,Below.refl _ _⟩⟩
theorem sub_cell (W:World) (x:Sub W) (b o:Nat) (h:b<W.heap.size):x.v.cell? ⟨b,o,none⟩=W.cell? ⟨b,o,none⟩:=(bcell x.h).1 b o h
theorem wp_region_below {P:Program} (W:World) {id:Nat} {Q:Exit→Act→World→Prop} {a:Act} {w:World} {l:List Oper} (hm:P.follows .mixedOrders=true) (hB:Region.lexB .any l.toArray=true) (hC:Below W.heap.size W w)
  (h:wpQuiet P l.toArray (fun w'=>∃x:Sub W,w'=x.v) (fun a'=>∀w',(∃x:Sub W,w'=x.v)→Q .normal a' w') l a):(Code.region id l.toArray true).wp P Q a w :=
 wp_region_quiet (C:=fun w'=>∃x:Sub W,w'=x.v) hm hB ⟨⟨_,hC.drew⟩,rfl⟩ (by simpa using h)
/-- A callee's contract in such a region. -/
theorem calls_sub {P:Program} {f:FuncId} {args:Array Value} {W:World} {x:Sub W} {v:Value} (h:Calls P f args x.v fun e w'=>e = .returned v∧Below x.v.heap.size x.v w') :
  Calls P f args x.v fun e w''=>e = .returned v∧∃y:Sub W,w''=y.v :=
 h.mono fun _ w' ⟨he,hb⟩=>⟨he,⟨w',below_tr x.h hb⟩,rfl⟩
theorem calls_sub_same {P:Program} {f:FuncId} {args:Array Value} {W:World} {x:Sub W} {v:Value} (h:Calls P f args x.v fun e w'=>e = .returned v∧x.v=w') :
  Calls P f args x.v fun e w''=>e = .returned v∧∃y:Sub W,w''=y.v :=
 h.mono fun _ w' ⟨he,hb⟩=>⟨he,⟨w',hb ▸ x.h⟩,rfl⟩
end Go.Proofs.YtlinbdkbbhpdpaaGreat
