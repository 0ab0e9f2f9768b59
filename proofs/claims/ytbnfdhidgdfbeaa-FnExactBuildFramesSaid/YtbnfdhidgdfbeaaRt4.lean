/- Ascending insertion: the program's insertInt. -/
import Derived.Test.YtbnfdhidgdfbeaaCopy
import Derived.Test.YtbnfdhidgdfbeaaRtPure
namespace Go.Proofs.Ytbnfdhidgdfbeaa
set_option maxRecDepth 100000
open Go.RowKit

theorem Ints.take {w:World} {A:Option Addr} {n k:Nat} {xs:List Int} (h:Ints w A n xs) (hk:k≤n):Ints w A k (xs.take k):=by
 refine ⟨by rw [List.length_take,h.1];omega,fun h0=>?_⟩
 obtain ⟨b,o,e,hb,hc⟩:=h.2 (by omega)
 exact ⟨b,o,e,hb,fun j hj=>by rw [hc j (by omega),List.getElem?_take,if_pos hj]⟩
theorem Ints.drop {w:World} {b o n k:Nat} {xs:List Int} (h:Ints w (some ⟨b,o,none⟩) n xs) (hk:k≤n):Ints w (some ⟨b,o+k,none⟩) (n - k) (xs.drop k):=by
 refine ⟨by rw [List.length_drop,h.1],fun h0=>?_⟩
 obtain ⟨b',o',e,hb,hc⟩:=h.2 (by omega)
 injection e with e
 injection e with e1 e2
 subst e1 e2
 exact ⟨b,o+k,rfl,hb,fun j hj=>by rw [Nat.add_assoc,hc (k+j) (by omega),List.getElem?_drop]⟩
theorem Ints.none (w:World) (A:Option Addr):Ints w A 0 []:=⟨rfl,fun h=>by omega⟩
end Go.Proofs.Ytbnfdhidgdfbeaa
