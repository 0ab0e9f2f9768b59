/- The blocks of a tile that is being decoded: what they hold and how they change. Plain lemmas. decodeTile of the program makes the configuration that the words encode. -/
import Derived.Test.YtbnfdhidgdfbeaaEmpty
namespace Go.Proofs.Ytbnfdhidgdfbeaa
set_option maxRecDepth 100000
open Go.RowKit

/-- The first k numbers read, zeros behind them. -/
def numTo (ws:List Int) (p b N k:Nat):List Int:=((List.range k).map fun i=>getW ws (p+b * i) b)++List.replicate (N - k) 0
abbrev tileArr (gm gl M:Nat) (pad ram:Int):Array Value:=#[.slice (some ⟨gm,0,none⟩) M M,.slice (some ⟨gl,0,none⟩) 2 2,.int .i64 pad,.int .i64 ram]
abbrev lesArr (g0 g1:Nat) (a0 b0 c0 a1 b1 c1:Int):Array Value:=#[.slice (some ⟨g0,0,none⟩) 4 4,.int .i64 a0,.int .i64 b0,.int .i64 c0,.slice (some ⟨g1,0,none⟩) 4 4,.int .i64 a1,.int .i64 b1,.int .i64 c1]
/-- The numbers of the blocks: reader, result, tile, its lists. -/
structure Bk where
 g:Nat
 gr:Nat
 gc:Nat
 gm:Nat
 gl:Nat
 g0:Nat
 g1:Nat
/-- What is being made: the lists and numbers so far. -/
structure Tl where
 mux:List Int
 s0:List Int
 s1:List Int
 a0:Int
 b0:Int
 c0:Int
 a1:Int
 b1:Int
 c1:Int
 pad:Int
 ram:Int
structure DW (w:World) (k:Bk) (A:Option Addr) (n c p M:Nat) (t:Tl):Prop where
 r:Rdr w k.g A n c p
 res:w.heap[k.gr]?=some (.cells #[.slice none 0 0,.slice none 0 0,.int .i64 0,.int .i64 0] 52 (0,0))
 tile:w.heap[k.gc]?=some (.cells (tileArr k.gm k.gl M t.pad t.ram) 52 (0,0))
 mux:w.heap[k.gm]?=some (.cells (arr t.mux) 3 (0,0))
 les:w.heap[k.gl]?=some (.cells (lesArr k.g0 k.g1 t.a0 t.b0 t.c0 t.a1 t.b1 t.c1) 107 (0,0))
 s0:w.heap[k.g0]?=some (.cells (arr t.s0) 3 (0,0))
 s1:w.heap[k.g1]?=some (.cells (arr t.s1) 3 (0,0))
theorem DW.drew {w:World} {k:Bk} {A:Option Addr} {n c p M:Nat} {t:Tl} (h:DW w k A n c p M t):DW w.drew k A n c p M t:=⟨h.r,h.res,h.tile,h.mux,h.les,h.s0,h.s1⟩
theorem frozen_heap {w:World} {g:Nat} {cs:Array Value} {t:TypeId} (h:w.heap[g]?=some (.cells cs t (0,0))) (k:Nat):w.frozen? ⟨g,k,none⟩=false:=by unfold World.frozen?;rw [h];simp
end Go.Proofs.Ytbnfdhidgdfbeaa

namespace Go.Proofs.Ytbnfdhidgdfbeaa
set_option maxRecDepth 100000
open Go.RowKit

/-- A tile's value, of memory that the call owns. -/
def TileAt (lo hi:Nat) (w:World) (t:Tile) (v:Value):Prop:=∃v0 v1:Value,v = .agg #[v0,v1,.int .i64 t.pad,.int .i64 t.ram]∧OwnsL lo hi w t.cells [v0,v1,.int .i64 t.pad,.int .i64 t.ram]
end Go.Proofs.Ytbnfdhidgdfbeaa
