/- DecodeTile of the reference makes the configuration that valid words encode. -/
import Derived.Test.YtbnfdhidgdfbeaaDeco
import Derived.Test.YtbnfdhidgdfbeaaEmptyS
namespace Go.Proofs.Ytbnfdhidgdfbeaa
set_option maxRecDepth 100000
open Go.RowKit

/-- The blocks below S0 that the reference's DecodeTile works on. -/
structure DS (w:World) (gr gc gm gl M:Nat) (mux:List Int) (lv:Array Value) (pad ram:Int):Prop where
 res:w.heap[gr]?=some (.cells #[.slice none 0 0,.slice none 0 0,.int .i64 0,.int .i64 0] 52 (0,0))
 tile:w.heap[gc]?=some (.cells (tileArr gm gl M pad ram) 52 (0,0))
 mux:w.heap[gm]?=some (.cells (arr mux) 3 (0,0))
 les:w.heap[gl]?=some (.cells lv 107 (0,0))
structure Sep4 (lo S gr gc gm gl:Nat):Prop where
 le:lo≤gr∧lo≤gc∧lo≤gm∧lo≤gl
 lt:gr<S∧gc<S∧gm<S∧gl<S
 ne:gr≠gc∧gr≠gm∧gr≠gl∧gc≠gm∧gc≠gl∧gm≠gl
theorem DS.keep {w w':World} {lo S gr gc gm gl M:Nat} {mux:List Int} {lv:Array Value} {pad ram:Int} (h:DS w gr gc gm gl M mux lv pad ram) (hs:Sep4 lo S gr gc gm gl) (hk:∀k,k<S→w'.heap[k]?=w.heap[k]?):DS w' gr gc gm gl M mux lv pad ram :=
 ⟨(hk _ hs.lt.1).trans h.res,(hk _ hs.lt.2.1).trans h.tile,(hk _ hs.lt.2.2.1).trans h.mux,(hk _ hs.lt.2.2.2).trans h.les⟩
theorem DS.far {w:World} {lo S gr gc gm gl M:Nat} {mux:List Int} {lv:Array Value} {pad ram:Int} (h:DS w gr gc gm gl M mux lv pad ram) (hs:Sep4 lo S gr gc gm gl) {p:Addr} (hp:S≤p.block) (v:Value):DS (w.setCell p v) gr gc gm gl M mux lv pad ram :=
 h.keep hs fun k hk=>Below.heap_setCell _ _ _ _ (by omega)
/-- The array of logic elements after e of them, and the rows that they own. -/
def LesAt (ws:List Int) (M S:Nat) (w:World) (lv:Array Value):Nat→Prop
 | 0=>∃g0 g1,lv=zles g0 g1
 | 1=>∃A0 c0 g1,lv=#[.slice A0 4 c0,.int .i64 (getW ws (5 * M+12) 16),.int .i64 (getW ws (5 * M+28) 1),.int .i64 (getW ws (5 * M+29) 1),.slice (some ⟨g1,0,none⟩) 4 4,.int .i64 0,.int .i64 0,.int .i64 0]∧Own S w A0 4 c0 (numTo ws (5 * M) 3 4 4)
 | _=>∃A0 c0 A1 c1 h,lv=#[.slice A0 4 c0,.int .i64 (getW ws (5 * M+12) 16),.int .i64 (getW ws (5 * M+28) 1),.int .i64 (getW ws (5 * M+29) 1),.slice A1 4 c1,.int .i64 (getW ws (5 * M+42) 16),.int .i64 (getW ws (5 * M+58) 1),.int .i64 (getW ws (5 * M+59) 1)]∧Own S w A0 4 c0 (numTo ws (5 * M) 3 4 4)∧(∀a,A0=some a→a.block<h)∧S≤h∧Own h w A1 4 c1 (numTo ws (5 * M+30) 3 4 4)
theorem Own.far {base:Nat} {w:World} {A:Option Addr} {n c:Nat} {xs:List Int} (h:Own base w A n c xs) {p:Addr} (hp:p.block<base) (v:Value):Own base (w.setCell p v) A n c xs :=
 ownsRow_block h fun a ha=>Below.heap_setCell _ _ _ _ (by have:=(h.lt a ha).1;omega)
theorem LesAt.far {ws:List Int} {M S:Nat} {w:World} {lv:Array Value}:∀{e:Nat},LesAt ws M S w lv e→∀{p:Addr},p.block<S→∀v:Value,LesAt ws M S (w.setCell p v) lv e
 | 0,h,p,hp,v=>h
 | 1,⟨A0,c0,g1,e,o⟩,p,hp,v=>⟨A0,c0,g1,e,o.far hp v⟩
 | _+2,⟨A0,c0,A1,c1,h,e,o,hl,hS,o1⟩,p,hp,v=>⟨A0,c0,A1,c1,h,e,o.far hp v,hl,hS,o1.far (by omega) v⟩
end Go.Proofs.Ytbnfdhidgdfbeaa
