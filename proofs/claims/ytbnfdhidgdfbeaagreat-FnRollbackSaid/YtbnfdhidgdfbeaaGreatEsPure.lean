/- EmuStep: the next state and the outputs, or nothing. -/
import Derived.Test.YtbnfdhidgdfbeaaGreatStpPure
namespace Go.Proofs.YtbnfdhidgdfbeaaGreat
set_option maxRecDepth 100000
open Go.RowKit

def esN (d:Dev) (fs:List (List Int)) (st ps:List Int):List Int:=if allOk d fs st ps=true then nextF d (tilesOf d fs) st ps else []
def esO (d:Dev) (fs:List (List Int)) (st ps:List Int):List Int:=if allOk d fs st ps=true then outF d (tilesOf d fs) st ps else []
theorem esN_good {d:Dev} {fs:List (List Int)} {st ps:List Int} (h:allOk d fs st ps=true):esN d fs st ps=nextF d (tilesOf d fs) st ps:=if_pos h
theorem esN_bad {d:Dev} {fs:List (List Int)} {st ps:List Int} (h:allOk d fs st ps=false):esN d fs st ps=[]:=if_neg (by rw [h];decide)
theorem esO_good {d:Dev} {fs:List (List Int)} {st ps:List Int} (h:allOk d fs st ps=true):esO d fs st ps=outF d (tilesOf d fs) st ps:=if_pos h
theorem esO_bad {d:Dev} {fs:List (List Int)} {st ps:List Int} (h:allOk d fs st ps=false):esO d fs st ps=[]:=if_neg (by rw [h];decide)
/-- Two rows of the call's own that lie apart. -/
def Apart (lo hi:Nat) (A1 A2:Option Addr):Prop:=∃mid,lo≤mid∧mid≤hi∧Lies A1 lo mid∧Lies A2 mid hi
theorem Apart.nil {lo hi:Nat} (h:lo≤hi):Apart lo hi none none:=⟨lo,Nat.le_refl _,h,by rintro a ⟨⟩,by rintro a ⟨⟩⟩
theorem Apart.more {lo lo' hi hi':Nat} {A1 A2:Option Addr} (h:Apart lo hi A1 A2) (h1:lo'≤lo) (h2:hi≤hi'):Apart lo' hi' A1 A2:=by
 obtain ⟨mid,a,b,c,e⟩:=h
 exact ⟨mid,by omega,by omega,fun x hx=>⟨by have:=(c x hx).1;omega,(c x hx).2⟩,fun x hx=>⟨(e x hx).1,by have:=(e x hx).2;omega⟩⟩
end Go.Proofs.YtbnfdhidgdfbeaaGreat
