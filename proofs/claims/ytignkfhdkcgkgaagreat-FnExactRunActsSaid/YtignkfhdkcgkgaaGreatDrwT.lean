/- Drawing a valid configuration of a tile, of the reference. -/
import Derived.Deep.DeepCutAuto
import Derived.Test.YtignkfhdkcgkgaaGreatDrwN
namespace Go.Proofs.YtignkfhdkcgkgaaGreat
set_option maxRecDepth 100000
open Go.RowKit
theorem lS {w w':World} {g k:Nat} (h:w.grownBy w' (some g)) (hk:k<w.heap.size) (hne:k≠g):w'.heap[k]?=w.heap[k]?:=h.block k hk (by simpa using hne)
theorem oD {w w1 w2:World} {r:Option Nat} {B:Nat} (h:w.grownBy w1 r) (hb:Below B w1 w2) (hB:w.heap.size<=B):w.grownBy w2 r :=
 ⟨hb.os.trans h.os,hb.tape.trans h.tape,hb.output.trans h.output,Nat.le_trans h.size hb.size,fun k hk hne=>(hb.block k (by omega)).trans (h.block k hk hne)⟩
theorem Cur.keepB {w w':World} {g B Z:Nat} {A:Option Addr} {n c:Nat} {bs:List Int} (h:Cur w g B A n c bs) (hb:Below Z w w') (hg:g<Z):Cur w' g B A n c bs:=by
 have hB:B<=g:=by obtain ⟨i,x,hi,hB,_⟩:=h;exact hB
 exact h.keep (hb.block g hg) fun k hk=>hb.block k (by omega)
theorem DS.grown {w w':World} {lo S gr gc gm gl M g:Nat} {mux:List Int} {lv:Array Value} {pad ram:Int} (h:DS w gr gc gm gl M mux lv pad ram) (hs:xK lo S gr gc gm gl) (hg:g<lo) (k:w.grownBy w' (some g)):DS w' gr gc gm gl M mux lv pad ram:=by
 obtain ⟨l1,l2,l3,l4⟩:=hs.le
 exact ⟨(lS k (aX h.res) (by omega)).trans h.res,(lS k (aX h.tile) (by omega)).trans h.tile,(lS k (aX h.mux) (by omega)).trans h.mux,(lS k (aX h.les) (by omega)).trans h.les⟩
theorem DS.keepB {w w':World} {lo S Z gr gc gm gl M:Nat} {mux:List Int} {lv:Array Value} {pad ram:Int} (h:DS w gr gc gm gl M mux lv pad ram) (hs:xK lo S gr gc gm gl) (hb:Below Z w w') (hZ:S<=Z):DS w' gr gc gm gl M mux lv pad ram :=
 h.keep hs fun k hk=>hb.block k (by omega)
theorem Own.keepB {base Z:Nat} {w w':World} {A:Option Addr} {n c:Nat} {xs:List Int} (h:Own base w A n c xs) (hb:Below Z w w') (hZ:∀a,A=some a→a.block<Z):Own base w' A n c xs :=
 aa h fun a ha=>hb.block _ (hZ a ha)
end Go.Proofs.YtignkfhdkcgkgaaGreat
