/- The blocks of a tile that is being decoded: what they hold and how they change. Plain lemmas. decodeTile of the program makes the configuration that the words encode. -/
import Derived.Test.YtignkfhdkcgkgaaGreatEmpty
namespace Go.Proofs.YtignkfhdkcgkgaaGreat
set_option maxRecDepth 100000
open Go.RowKit

/-- The first k numbers read, zeros behind them. -/
def numTo (ws:List Int) (p b N k:Nat):List Int:=((List.range k).map fun i=>getW ws (p+b * i) b)++List.replicate (N - k) 0
theorem numTo_zero (ws:List Int) (p b N:Nat):numTo ws p b N 0=List.replicate N 0:=by simp [numTo]
theorem numTo_length {ws:List Int} {p b N k:Nat} (h:k≤N):(numTo ws p b N k).length=N:=by simp [numTo];omega
theorem numTo_set {ws:List Int} {p b N k:Nat} (h:k<N):(numTo ws p b N k).set k (getW ws (p+b * k) b)=numTo ws p b N (k+1):=by
 have e:N - k=(N - (k+1))+1:=by omega
 have hl:((List.range k).map fun i=>getW ws (p+b * i) b).length=k:=by simp
 rw [numTo,List.set_append,if_neg (by omega),hl,Nat.sub_self,e,List.replicate_succ,List.set_cons_zero,numTo,List.range_succ,List.map_append,List.append_assoc]
 rfl
theorem numTo_full (ws:List Int) (p b N:Nat):numTo ws p b N N=(List.range N).map fun i=>getW ws (p+b * i) b:=by simp [numTo]

abbrev tileArr (gm gl M:Nat) (pad ram:Int):Array Value:=#[.slice (some ⟨gm,0,none⟩) M M,.slice (some ⟨gl,0,none⟩) 2 2,.int .i64 pad,.int .i64 ram]
abbrev lesArr (g0 g1:Nat) (a0 b0 c0 a1 b1 c1:Int):Array Value:=#[.slice (some ⟨g0,0,none⟩) 4 4,.int .i64 a0,.int .i64 b0,.int .i64 c0,.slice (some ⟨g1,0,none⟩) 4 4,.int .i64 a1,.int .i64 b1,.int .i64 c1]
/-- The numbers of the blocks: reader, result, tile, its lists. -/
structure Bk where
 g:Nat
 gr:Nat
 gc:Nat
 gm:Nat
 gl:Nat
 g0:Nat
 g1:Nat
/-- What is being made: the lists and numbers so far. -/
structure Tl where
 mux:List Int
 s0:List Int
 s1:List Int
 a0:Int
 b0:Int
 c0:Int
 a1:Int
 b1:Int
 c1:Int
 pad:Int
 ram:Int
structure Sep (k:Bk) (lo:Nat):Prop where
 le:lo≤k.g∧lo≤k.gr∧lo≤k.gc∧lo≤k.gm∧lo≤k.gl∧lo≤k.g0∧lo≤k.g1
 n1:k.g≠k.gr∧k.g≠k.gc∧k.g≠k.gm∧k.g≠k.gl∧k.g≠k.g0∧k.g≠k.g1
 n2:k.gr≠k.gc∧k.gr≠k.gm∧k.gr≠k.gl∧k.gr≠k.g0∧k.gr≠k.g1
 n3:k.gc≠k.gm∧k.gc≠k.gl∧k.gc≠k.g0∧k.gc≠k.g1
 n4:k.gm≠k.gl∧k.gm≠k.g0∧k.gm≠k.g1
 n5:k.gl≠k.g0∧k.gl≠k.g1∧k.g0≠k.g1
structure DW (w:World) (k:Bk) (A:Option Addr) (n c p M:Nat) (t:Tl):Prop where
 r:Rdr w k.g A n c p
 res:w.heap[k.gr]?=some (.cells #[.slice none 0 0,.slice none 0 0,.int .i64 0,.int .i64 0] 103 (0,0))
 tile:w.heap[k.gc]?=some (.cells (tileArr k.gm k.gl M t.pad t.ram) 103 (0,0))
 mux:w.heap[k.gm]?=some (.cells (arr t.mux) 3 (0,0))
 les:w.heap[k.gl]?=some (.cells (lesArr k.g0 k.g1 t.a0 t.b0 t.c0 t.a1 t.b1 t.c1) 107 (0,0))
 s0:w.heap[k.g0]?=some (.cells (arr t.s0) 3 (0,0))
 s1:w.heap[k.g1]?=some (.cells (arr t.s1) 3 (0,0))
theorem grown_heap {w w':World} {g k:Nat} {o:Obj} (hg:w.grownBy w' (some g)) (h:w.heap[k]?=some o) (hne:g≠k):w'.heap[k]?=some o :=
 (hg.block k (heap_lt0 h) (by simpa using fun e=>hne e.symm)).trans h
theorem DW.got {w w':World} {k:Bk} {lo:Nat} {A:Option Addr} {n c p q M:Nat} {t:Tl} (h:DW w k A n c p M t) (hs:Sep k lo) (hr:Rdr w' k.g A n c q) (hg:w.grownBy w' (some k.g)):DW w' k A n c q M t:=by
 obtain ⟨h1,h2,h3,h4,h5,h6⟩:=hs.n1
 exact ⟨hr,grown_heap hg h.res h1,grown_heap hg h.tile h2,grown_heap hg h.mux h3,grown_heap hg h.les h4,grown_heap hg h.s0 h5,grown_heap hg h.s1 h6⟩
theorem DW.drew {w:World} {k:Bk} {A:Option Addr} {n c p M:Nat} {t:Tl} (h:DW w k A n c p M t):DW w.drew k A n c p M t:=⟨h.r,h.res,h.tile,h.mux,h.les,h.s0,h.s1⟩
theorem DW.setMux {w:World} {k:Bk} {lo:Nat} {A:Option Addr} {n c p M:Nat} {t:Tl} (h:DW w k A n c p M t) (hs:Sep k lo) (j:Nat) (x:Int):DW (w.setCell ⟨k.gm,j,none⟩ (.int .i64 x)) k A n c p M { t with mux:=t.mux.set j x }:=by
 obtain ⟨a1,a2,a3,a4,a5,a6⟩:=hs.n1
 obtain ⟨b1,b2,b3,b4,b5⟩:=hs.n2
 obtain ⟨c1,c2,c3,c4⟩:=hs.n3
 obtain ⟨d1,d2,d3⟩:=hs.n4
 exact ⟨heap_st _ h.r a3,heap_st _ h.res b2,heap_st _ h.tile c1,by rw [heap_set h.mux j,arr_set],heap_st _ h.les d1.symm,heap_st _ h.s0 d2.symm,heap_st _ h.s1 d3.symm⟩
theorem DW.setS0 {w:World} {k:Bk} {lo:Nat} {A:Option Addr} {n c p M:Nat} {t:Tl} (h:DW w k A n c p M t) (hs:Sep k lo) (j:Nat) (x:Int):DW (w.setCell ⟨k.g0,j,none⟩ (.int .i64 x)) k A n c p M { t with s0:=t.s0.set j x }:=by
 obtain ⟨a1,a2,a3,a4,a5,a6⟩:=hs.n1
 obtain ⟨b1,b2,b3,b4,b5⟩:=hs.n2
 obtain ⟨c1,c2,c3,c4⟩:=hs.n3
 obtain ⟨d1,d2,d3⟩:=hs.n4
 obtain ⟨e1,e2,e3⟩:=hs.n5
 exact ⟨heap_st _ h.r a5,heap_st _ h.res b4,heap_st _ h.tile c3,heap_st _ h.mux d2,heap_st _ h.les e1,by rw [heap_set h.s0 j,arr_set],heap_st _ h.s1 e3.symm⟩
theorem DW.setS1 {w:World} {k:Bk} {lo:Nat} {A:Option Addr} {n c p M:Nat} {t:Tl} (h:DW w k A n c p M t) (hs:Sep k lo) (j:Nat) (x:Int):DW (w.setCell ⟨k.g1,j,none⟩ (.int .i64 x)) k A n c p M { t with s1:=t.s1.set j x }:=by
 obtain ⟨a1,a2,a3,a4,a5,a6⟩:=hs.n1
 obtain ⟨b1,b2,b3,b4,b5⟩:=hs.n2
 obtain ⟨c1,c2,c3,c4⟩:=hs.n3
 obtain ⟨d1,d2,d3⟩:=hs.n4
 obtain ⟨e1,e2,e3⟩:=hs.n5
 exact ⟨heap_st _ h.r a6,heap_st _ h.res b5,heap_st _ h.tile c4,heap_st _ h.mux d3,heap_st _ h.les e2,heap_st _ h.s0 e3,by rw [heap_set h.s1 j,arr_set]⟩
theorem DW.setA0 {w:World} {k:Bk} {lo:Nat} {A:Option Addr} {n c p M:Nat} {t:Tl} (h:DW w k A n c p M t) (hs:Sep k lo) (x:Int):DW (w.setCell ⟨k.gl,1,none⟩ (.int .i64 x)) k A n c p M { t with a0:=x }:=by
 obtain ⟨a1,a2,a3,a4,a5,a6⟩:=hs.n1
 obtain ⟨b1,b2,b3,b4,b5⟩:=hs.n2
 obtain ⟨c1,c2,c3,c4⟩:=hs.n3
 obtain ⟨d1,d2,d3⟩:=hs.n4
 obtain ⟨e1,e2,e3⟩:=hs.n5
 exact ⟨heap_st _ h.r a4,heap_st _ h.res b3,heap_st _ h.tile c2,heap_st _ h.mux d1,(heap_set h.les 1 _).trans rfl,heap_st _ h.s0 e1.symm,heap_st _ h.s1 e2.symm⟩
theorem DW.setB0 {w:World} {k:Bk} {lo:Nat} {A:Option Addr} {n c p M:Nat} {t:Tl} (h:DW w k A n c p M t) (hs:Sep k lo) (x:Int):DW (w.setCell ⟨k.gl,2,none⟩ (.int .i64 x)) k A n c p M { t with b0:=x }:=by
 obtain ⟨a1,a2,a3,a4,a5,a6⟩:=hs.n1
 obtain ⟨b1,b2,b3,b4,b5⟩:=hs.n2
 obtain ⟨c1,c2,c3,c4⟩:=hs.n3
 obtain ⟨d1,d2,d3⟩:=hs.n4
 obtain ⟨e1,e2,e3⟩:=hs.n5
 exact ⟨heap_st _ h.r a4,heap_st _ h.res b3,heap_st _ h.tile c2,heap_st _ h.mux d1,(heap_set h.les 2 _).trans rfl,heap_st _ h.s0 e1.symm,heap_st _ h.s1 e2.symm⟩
theorem DW.setC0 {w:World} {k:Bk} {lo:Nat} {A:Option Addr} {n c p M:Nat} {t:Tl} (h:DW w k A n c p M t) (hs:Sep k lo) (x:Int):DW (w.setCell ⟨k.gl,3,none⟩ (.int .i64 x)) k A n c p M { t with c0:=x }:=by
 obtain ⟨a1,a2,a3,a4,a5,a6⟩:=hs.n1
 obtain ⟨b1,b2,b3,b4,b5⟩:=hs.n2
 obtain ⟨c1,c2,c3,c4⟩:=hs.n3
 obtain ⟨d1,d2,d3⟩:=hs.n4
 obtain ⟨e1,e2,e3⟩:=hs.n5
 exact ⟨heap_st _ h.r a4,heap_st _ h.res b3,heap_st _ h.tile c2,heap_st _ h.mux d1,(heap_set h.les 3 _).trans rfl,heap_st _ h.s0 e1.symm,heap_st _ h.s1 e2.symm⟩
theorem DW.setA1 {w:World} {k:Bk} {lo:Nat} {A:Option Addr} {n c p M:Nat} {t:Tl} (h:DW w k A n c p M t) (hs:Sep k lo) (x:Int):DW (w.setCell ⟨k.gl,5,none⟩ (.int .i64 x)) k A n c p M { t with a1:=x }:=by
 obtain ⟨a1,a2,a3,a4,a5,a6⟩:=hs.n1
 obtain ⟨b1,b2,b3,b4,b5⟩:=hs.n2
 obtain ⟨c1,c2,c3,c4⟩:=hs.n3
 obtain ⟨d1,d2,d3⟩:=hs.n4
 obtain ⟨e1,e2,e3⟩:=hs.n5
 exact ⟨heap_st _ h.r a4,heap_st _ h.res b3,heap_st _ h.tile c2,heap_st _ h.mux d1,(heap_set h.les 5 _).trans rfl,heap_st _ h.s0 e1.symm,heap_st _ h.s1 e2.symm⟩
theorem DW.setB1 {w:World} {k:Bk} {lo:Nat} {A:Option Addr} {n c p M:Nat} {t:Tl} (h:DW w k A n c p M t) (hs:Sep k lo) (x:Int):DW (w.setCell ⟨k.gl,6,none⟩ (.int .i64 x)) k A n c p M { t with b1:=x }:=by
 obtain ⟨a1,a2,a3,a4,a5,a6⟩:=hs.n1
 obtain ⟨b1,b2,b3,b4,b5⟩:=hs.n2
 obtain ⟨c1,c2,c3,c4⟩:=hs.n3
 obtain ⟨d1,d2,d3⟩:=hs.n4
 obtain ⟨e1,e2,e3⟩:=hs.n5
 exact ⟨heap_st _ h.r a4,heap_st _ h.res b3,heap_st _ h.tile c2,heap_st _ h.mux d1,(heap_set h.les 6 _).trans rfl,heap_st _ h.s0 e1.symm,heap_st _ h.s1 e2.symm⟩
theorem DW.setC1 {w:World} {k:Bk} {lo:Nat} {A:Option Addr} {n c p M:Nat} {t:Tl} (h:DW w k A n c p M t) (hs:Sep k lo) (x:Int):DW (w.setCell ⟨k.gl,7,none⟩ (.int .i64 x)) k A n c p M { t with c1:=x }:=by
 obtain ⟨a1,a2,a3,a4,a5,a6⟩:=hs.n1
 obtain ⟨b1,b2,b3,b4,b5⟩:=hs.n2
 obtain ⟨c1,c2,c3,c4⟩:=hs.n3
 obtain ⟨d1,d2,d3⟩:=hs.n4
 obtain ⟨e1,e2,e3⟩:=hs.n5
 exact ⟨heap_st _ h.r a4,heap_st _ h.res b3,heap_st _ h.tile c2,heap_st _ h.mux d1,(heap_set h.les 7 _).trans rfl,heap_st _ h.s0 e1.symm,heap_st _ h.s1 e2.symm⟩
theorem DW.setPad {w:World} {k:Bk} {lo:Nat} {A:Option Addr} {n c p M:Nat} {t:Tl} (h:DW w k A n c p M t) (hs:Sep k lo) (x:Int):DW (w.setCell ⟨k.gc,2,none⟩ (.int .i64 x)) k A n c p M { t with pad:=x }:=by
 obtain ⟨a1,a2,a3,a4,a5,a6⟩:=hs.n1
 obtain ⟨b1,b2,b3,b4,b5⟩:=hs.n2
 obtain ⟨c1,c2,c3,c4⟩:=hs.n3
 exact ⟨heap_st _ h.r a2,heap_st _ h.res b1,(heap_set h.tile 2 _).trans rfl,heap_st _ h.mux c1.symm,heap_st _ h.les c2.symm,heap_st _ h.s0 c3.symm,heap_st _ h.s1 c4.symm⟩
theorem DW.setRam {w:World} {k:Bk} {lo:Nat} {A:Option Addr} {n c p M:Nat} {t:Tl} (h:DW w k A n c p M t) (hs:Sep k lo) (x:Int):DW (w.setCell ⟨k.gc,3,none⟩ (.int .i64 x)) k A n c p M { t with ram:=x }:=by
 obtain ⟨a1,a2,a3,a4,a5,a6⟩:=hs.n1
 obtain ⟨b1,b2,b3,b4,b5⟩:=hs.n2
 obtain ⟨c1,c2,c3,c4⟩:=hs.n3
 exact ⟨heap_st _ h.r a2,heap_st _ h.res b1,(heap_set h.tile 3 _).trans rfl,heap_st _ h.mux c1.symm,heap_st _ h.les c2.symm,heap_st _ h.s0 c3.symm,heap_st _ h.s1 c4.symm⟩
theorem frozen_heap {w:World} {g:Nat} {cs:Array Value} {t:TypeId} (h:w.heap[g]?=some (.cells cs t (0,0))) (k:Nat):w.frozen? ⟨g,k,none⟩=false:=by unfold World.frozen?;rw [h];simp
theorem rdr_drew {w:World} {g:Nat} {A:Option Addr} {n c p:Nat} (h:Rdr w g A n c p):Rdr w.drew g A n c p:=h
structure DT (w:World) (k:Bk) (t:Tl):Prop where
 mux:w.heap[k.gm]?=some (.cells (arr t.mux) 3 (0,0))
 les:w.heap[k.gl]?=some (.cells (lesArr k.g0 k.g1 t.a0 t.b0 t.c0 t.a1 t.b1 t.c1) 107 (0,0))
 s0:w.heap[k.g0]?=some (.cells (arr t.s0) 3 (0,0))
 s1:w.heap[k.g1]?=some (.cells (arr t.s1) 3 (0,0))
theorem DW.dt {w:World} {k:Bk} {A:Option Addr} {n c p M:Nat} {t:Tl} (h:DW w k A n c p M t):DT w k t:=⟨h.mux,h.les,h.s0,h.s1⟩
theorem DT.setR {w:World} {k:Bk} {lo:Nat} {t:Tl} (h:DT w k t) (hs:Sep k lo) (j:Nat) (v:Value):DT (w.setCell ⟨k.gr,j,none⟩ v) k t:=by
 obtain ⟨b1,b2,b3,b4,b5⟩:=hs.n2
 exact ⟨heap_st _ h.mux b2.symm,heap_st _ h.les b3.symm,heap_st _ h.s0 b4.symm,heap_st _ h.s1 b5.symm⟩
/-- A finished tile: what the call owns. -/
theorem DT.done {w:World} {k:Bk} {lo M:Nat} {t:Tl} (h:DT w k t) (hs:Sep k lo) (hm:t.mux.length=M) (hM:M≤maxLen) (h0:t.s0.length=4) (h1:t.s1.length=4) :
  OwnsL lo w.heap.size w (Tile.cells ⟨t.mux,[⟨t.s0,t.a0,t.b0,t.c0⟩,⟨t.s1,t.a1,t.b1,t.c1⟩],t.pad,t.ram⟩) (tileArr k.gm k.gl M t.pad t.ram).toList:=by
 obtain ⟨l1,l2,l3,l4,l5,l6,l7⟩:=hs.le
 obtain ⟨d1,d2,d3⟩:=hs.n4
 obtain ⟨e1,e2,e3⟩:=hs.n5
 have om:OwnC w (celI t.mux) (.slice (some ⟨k.gm,0,none⟩) M M) [k.gm]:=ownC_ints.2 ⟨Own.arr h.mux (Nat.zero_le _) hM hm,rfl⟩
 have o0:OwnC w (celI t.s0) (.slice (some ⟨k.g0,0,none⟩) 4 4) [k.g0]:=ownC_ints.2 ⟨Own.arr h.s0 (Nat.zero_le _) (by unfold maxLen;omega) h0,rfl⟩
 have o1:OwnC w (celI t.s1) (.slice (some ⟨k.g1,0,none⟩) 4 4) [k.g1]:=ownC_ints.2 ⟨Own.arr h.s1 (Nat.zero_le _) (by unfold maxLen;omega) h1,rfl⟩
 have ci:∀x:Int,OwnC w (.int x) (.int .i64 x) []:=fun x=>ownC_int.2 ⟨rfl,rfl⟩
 have ol:OwnC w (celE [⟨t.s0,t.a0,t.b0,t.c0⟩,⟨t.s1,t.a1,t.b1,t.c1⟩]) (.slice (some ⟨k.gl,0,none⟩) 2 2) [k.gl,k.g0,k.g1]:=by
  unfold celE
  rw [ownC_row]
  refine ⟨_,2,2,(lesArr k.g0 k.g1 t.a0 t.b0 t.c0 t.a1 t.b1 t.c1).toList,[k.g0,k.g1],rfl,⟨rfl,.inr ⟨k.gl,2,_,rfl,Nat.zero_le _,h.les,Nat.le_refl _,by unfold maxLen;omega,rfl,rfl⟩⟩,rfl,?_⟩
  show OwnL w [celI t.s0,.int t.a0,.int t.b0,.int t.c0,celI t.s1,.int t.a1,.int t.b1,.int t.c1] _ _
  simp only [ownL_cons,ownL_nil]
  exact ⟨_,_,[k.g0],[k.g1],rfl,rfl,o0,_,_,[],[k.g1],rfl,rfl,ci _,_,_,[],[k.g1],rfl,rfl,ci _,_,_,[],[k.g1],rfl,rfl,ci _,_,_,[k.g1],[],rfl,rfl,o1,_,_,[],[],rfl,rfl,ci _,_,_,[],[],rfl,rfl,ci _,_,_,[],[],rfl,rfl,ci _,rfl,rfl⟩
 refine ⟨[k.gm,k.gl,k.g0,k.g1],?_,by simp [d1,d2,d3,e1,e2,e3],fun x hx=>?_⟩
 ·show OwnL w [celI t.mux,celE _,.int t.pad,.int t.ram] _ _
  simp only [ownL_cons,ownL_nil]
  exact ⟨_,_,[k.gm],[k.gl,k.g0,k.g1],rfl,rfl,om,_,_,[k.gl,k.g0,k.g1],[],rfl,rfl,ol,_,_,[],[],rfl,rfl,ci _,_,_,[],[],rfl,rfl,ci _,rfl,rfl⟩
 ·have q1:=heap_lt0 h.mux
  have q2:=heap_lt0 h.les
  have q3:=heap_lt0 h.s0
  have q4:=heap_lt0 h.s1
  simp only [List.mem_cons,List.not_mem_nil,or_false] at hx
  omega
end Go.Proofs.YtignkfhdkcgkgaaGreat

namespace Go.Proofs.YtignkfhdkcgkgaaGreat
set_option maxRecDepth 100000
open Go.RowKit

/-- A tile's value, of memory that the call owns. -/
def TileAt (lo hi:Nat) (w:World) (t:Tile) (v:Value):Prop:=∃v0 v1:Value,v = .agg #[v0,v1,.int .i64 t.pad,.int .i64 t.ram]∧OwnsL lo hi w t.cells [v0,v1,.int .i64 t.pad,.int .i64 t.ram]
def TilePost (w:World) (t:Tile) (e:Ending) (w':World):Prop:=∃v,e = .returned v∧TileAt w.heap.size w'.heap.size w' t v∧Below w.heap.size w w'
def Z4:List Int:=List.replicate 4 0
def tl2 (ws:List Int) (M:Nat):Nat→Tl
 | 0=>⟨numTo ws 0 5 M M,Z4,Z4,0,0,0,0,0,0,0,0⟩
 | 1=>⟨numTo ws 0 5 M M,numTo ws (5 * M) 3 4 4,Z4,getW ws (5 * M+12) 16,getW ws (5 * M+28) 1,getW ws (5 * M+29) 1,0,0,0,0,0⟩
 | _=>⟨numTo ws 0 5 M M,numTo ws (5 * M) 3 4 4,numTo ws (5 * M+30) 3 4 4,getW ws (5 * M+12) 16,getW ws (5 * M+28) 1,getW ws (5 * M+29) 1,getW ws (5 * M+42) 16,getW ws (5 * M+58) 1,getW ws (5 * M+59) 1,0,0⟩
theorem grown_below {W w w':World} {B g:Nat} (h:Below B W w) (hg:w.grownBy w' (some g)) (hB:B≤w.heap.size) (hl:B≤g):Below B W w':=h.grown hg hB (by rintro k ⟨⟩;exact hl)

theorem numTo_four (ws:List Int) (p:Nat):numTo ws p 3 4 4=[getW ws p 3,getW ws (p+3) 3,getW ws (p+6) 3,getW ws (p+9) 3]:=by rw [numTo_full];rfl
theorem numTo_mux (ws:List Int) (M:Nat):numTo ws 0 5 M M=decMux ws M:=by rw [numTo_full];simp [decMux]
theorem tile_of {T:Tile} {ws:List Int} {M:Nat} (h:T=⟨decMux ws M,[decLe ws (5 * M),decLe ws (5 * M+30)],getW ws (5 * M+60) 2,getW ws (5 * M+62) 5⟩) :
  T=⟨(tl2 ws M 2).mux,[⟨(tl2 ws M 2).s0,(tl2 ws M 2).a0,(tl2 ws M 2).b0,(tl2 ws M 2).c0⟩,⟨(tl2 ws M 2).s1,(tl2 ws M 2).a1,(tl2 ws M 2).b1,(tl2 ws M 2).c1⟩],getW ws (5 * M+60) 2,getW ws (5 * M+62) 5⟩:=by
 rw [h]
 simp only [tl2,numTo_mux,numTo_four]
 rfl
theorem get_lit (g:Nat) (A:Option Addr) (n c:Nat) (ws:List Int) (p b:Nat) (bi:Int) (w:World) (hbi:bi=(b:Int)) (h:Rdr w g A n c p) (hA:Ints w A n ws) (hne:∀a,A=some a→a.block≠g) (hin:In16 ws) (hp:p+b≤16 * n) (hb:b≤16) (hn:n≤1000) :
  Calls Tryz.prog 225 #[.pointer (some ⟨g,0,none⟩),.int .i64 bi] w fun e w'=>e = .returned (.int .i64 (getW ws p b))∧Rdr w' g A n c (p+b)∧w.grownBy w' (some g):=by
 rw [hbi]
 exact get_any g A n c ws p b w h hA hne hin hp hb hn
theorem keep_far {w:World} {p q:Addr} {u v:Value} (h:w.cell? p=some u) (hne:q.block≠p.block):(w.setCell q v).cell? p=some u:=(World.cell?_of_block (Below.heap_setCell w q v p.block hne.symm)).trans h

set_option maxHeartbeats 4000000 in
theorem decodeTile_any (d:Dev) (A:Option Addr) (n c:Nat) (ws:List Int) (w:World) (hd:devOk d=true) (hA:Ints w A n ws) (hn:(n:Int)=fwI d) (hin:In16 ws) :
  Calls Tryz.prog 192 #[.agg #[.int .i64 d.W,.int .i64 d.H,.int .i64 d.T,.int .i64 d.R],.slice A n c] w (TilePost w (decT d ws)):=by
 obtain ⟨hm,hm1,hm2,hm3,hm4,hm5⟩:=muxN_bd hd
 have hn1:n≤11:=by omega
 have hn2:5 * muxN d+67≤16 * n:=by omega
 have HD:=Lib.hid hd
 have HI:=Lib.hid hA
 have HIN:=Lib.hid hin
 have HDT:Hid (decT d ws=⟨decMux ws (muxN d),[decLe ws (5 * muxN d),decLe ws (5 * muxN d+30)],getW ws (5 * muxN d+60) 2,getW ws (5 * muxN d+62) 5⟩):=rfl
 have HP:Hid (∀(t:Tile) (v:Value) (w':World),decT d ws=t→TileAt w.heap.size w'.heap.size w' t v→Below w.heap.size w w'→TilePost w (decT d ws) (.returned v) w'):=fun t v w' e h hb=>by rw [e];exact ⟨v,rfl,h,hb⟩
 have hAb:=fun a (h:A=some a)=>(show a.block<w.heap.size by
  rcases Nat.eq_zero_or_pos n with h0|h0
  ·omega
  ·obtain ⟨b,o,e,hb,_⟩:=hA.2 h0
   rw [h] at e
   injection e with e
   subst e
   exact hb)
 have HAB:=Lib.hid hAb
 clear hd hA hn hin hm hm3 hm4 hm5 hAb
 generalize decT d ws=T at *
 generalize hM:muxN d=M at *
 have HM:=Lib.hid hM
 clear hM
 go_enter Tryz.func192,Tryz.ntmps192
 go_wp2_with fail
 refine (emptyTile_any d _ HD.out).mono ?_
 rintro e w1 ⟨v,rfl,he,b1⟩
 rw [HM.out] at he
 obtain ⟨gm,gl,g0,g1,rfl,l1,l2,l3,l4,n1,n2,n3,n4,n5,n6,k1,k2,k3,k4⟩:=he
 have hs1:=b1.size
 simp only [World.size_alloc] at hs1 l1 l2 l3 l4
 have hr:=heap_tr b1 (g:=w.heap.size+1+1) (o := .cells #[.slice A n c,.int .i64 0] 215) (heap_newAt (by simp only [World.size_alloc]))
 have hres:=heap_tr b1 (g:=w.heap.size+1) (o := .cells #[.slice none 0 0,.slice none 0 0,.int .i64 0,.int .i64 0] 103) (heap_al _ (heap_newAt (by simp only [World.size_alloc])))
 have HE:=Lib.hid (below_tr (below_new (below_new (below_new (Below.refl w.heap.size w) _) _) _) b1)
 go_wp2_with fail
 have HS:Sep ⟨w.heap.size+1+1,w.heap.size+1,w1.heap.size,gm,gl,g0,g1⟩ w.heap.size:=by
  have q1:=heap_lt0 k1
  have q2:=heap_lt0 k2
  have q3:=heap_lt0 k3
  have q4:=heap_lt0 k4
  constructor <;> simp only <;> omega
 have hDW:DW (w1.alloc (.cells #[.slice (some ⟨gm,0,none⟩) M M,.slice (some ⟨gl,0,none⟩) 2 2,.int .i64 0,.int .i64 0] 103)) ⟨w.heap.size+1+1,w.heap.size+1,w1.heap.size,gm,gl,g0,g1⟩ A n c 0 M ⟨numTo ws 0 5 M 0,Z4,Z4,0,0,0,0,0,0,0,0⟩ :=
  ⟨heap_al _ hr,heap_al _ hres,heap_new _ _,by rw [numTo_zero];exact heap_al _ k1,heap_al _ k2,heap_al _ k3,heap_al _ k4⟩
 have hB0:=below_new HE.out (.cells #[.slice (some ⟨gm,0,none⟩) M M,.slice (some ⟨gl,0,none⟩) 2 2,.int .i64 0,.int .i64 0] 103)
 have HDW:=Lib.hid hDW
 have HB0:=Lib.hid hB0
 have hgc:w.heap.size+1+1+1≤w1.heap.size:=hs1
 clear b1 k1 k2 k3 k4 hr hres hDW hB0 HE hs1 n1 n2 n3 n4 n5 n6
 generalize hgr:w.heap.size+1=gr at *
 generalize hgg:gr+1=g at *
 generalize hgcc:w1.heap.size=gc at *
 have HSEP:=Lib.hid HS
 have HNE:Hid (∀a,A=some a→a.block≠g):=fun a ha=>by have:=HAB.out a ha;omega
 have HGR:=Lib.hid hgr
 have HGG:=Lib.hid hgg
 clear hgr hgg hgcc HS
 have hlo:w.heap.size≤g:=by have:=HGR.out;have:=HGG.out;omega
 have hlor:w.heap.size≤gr:=by have:=HGR.out;omega
 have hlog:w.heap.size≤gc:=by have:=HGR.out;have:=HGG.out;omega
 have hlol:w.heap.size≤gl:=by have:=HGR.out;have:=HGG.out;omega
 have hlo0:w.heap.size≤g0:=by have:=HGR.out;have:=HGG.out;omega
 have hlo1:w.heap.size≤g1:=by have:=HGR.out;have:=HGG.out;omega
 have hlom:w.heap.size≤gm:=by have:=HGR.out;have:=HGG.out;omega
 go_loopw [18] (fun i wr=>∃j:Nat,j≤M∧i = .int .i64 j∧DW wr ⟨g,gr,gc,gm,gl,g0,g1⟩ A n c (5 * j) M ⟨numTo ws 0 5 M j,Z4,Z4,0,0,0,0,0,0,0,0⟩∧Below w.heap.size w wr) (fun i _=>M - (intOf i).toNat)
 case atStart=>exact ⟨0,Nat.zero_le _,rfl,HDW.out,HB0.out⟩
 case round =>
  obtain ⟨j,hj,rfl,hdw,hbe⟩:=hrel
  have HW:=Lib.hid hdw
  have HB:=Lib.hid hbe
  clear hdw hbe
  by_cases hlt:j<M
  ·have hc0:wr.cell? ⟨gc,0,none⟩=some (.slice (some ⟨gm,0,none⟩) M M):=cell_heap HW.out.tile rfl
   have hnl:=numTo_length (ws:=ws) (p:=0) (b:=5) (N:=M) (k:=j) (by omega)
   have hcm:wr.cell? ⟨gm,j,none⟩=some (.int .i64 ((numTo ws 0 5 M j)[j]?.getD 0)):=cell_heap HW.out.mux (arr_get (by rw [hnl];exact hlt))
   have HNL:=Lib.hid hnl
   have i0:(0:Int)≤(j:Int):=by omega
   have i1:(j:Int)<(M:Int):=by omega
   clear hnl hcm
   go_wp2_with fail
   go_region_held3 (fun w'=>w'.cell? ⟨gc,0,none⟩=some (.slice (some ⟨gm,0,none⟩) M M))
    (first|exact hc0|exact hc2|exact keep_far hc2 (by simp only;exact HSEP.out.n3.1.symm))
    (first
     | (go_at_call 225;(with_reducible refine (get_lit g A n c ws (5 * j) 5 5 _ rfl (rdr_drew HW.out.r) (HI.out.below HB.out).drewd HNE.out HIN.out (by omega) (by omega) (by omega)).mono ?_);rintro e w2 ⟨rfl,hr2,hg2⟩;have W2:=Lib.hid (HW.out.drew.got HSEP.out hr2 hg2);have B2:=Lib.hid (grown_below HB.out.drew hg2 HB.out.size hlo);clear hr2 hg2;have hc2:=cell_heap (k:=0) W2.out.tile rfl;have hcm2:=cell_heap (k:=j) W2.out.mux (arr_get (by rw [HNL.out];exact hlt));have hfm2:=frozen_heap W2.out.mux j))
   go_wp2_with fail
   go_roundw
   case rel =>
    have hset:=W2.out.setMux HSEP.out j (getW ws (5 * j) 5)
    have e:=numTo_set (ws:=ws) (p:=0) (b:=5) hlt
    rw [Nat.zero_add] at e
    refine ⟨j+1,by omega,by go_num,?_,?_⟩
    ·simp only [e] at hset
     exact hset
    ·exact B2.out.setCell (p:=⟨gm,j,none⟩) hlom _
   case measure=>simp [intOf];omega
  ·have hjm:M=j:=by omega
   subst hjm
   have hc1:wr.cell? ⟨gc,1,none⟩=some (.slice (some ⟨gl,0,none⟩) 2 2):=cell_heap HW.out.tile rfl
   go_wp2_with fail
   clear hc1
   go_loopw [31] (fun i wr=>∃e:Nat,e≤2∧i = .int .i64 e∧DW wr ⟨g,gr,gc,gm,gl,g0,g1⟩ A n c (5 * M+30 * e) M (tl2 ws M e)∧Below w.heap.size w wr) (fun i _=>2 - (intOf i).toNat)
   case atStart=>exact ⟨0,by omega,rfl,HW.out,HB.out⟩
   case round =>
    obtain ⟨e,he,rfl,hdw,hbe⟩:=hrel
    have HW:=Lib.hid hdw
    have HB:=Lib.hid hbe
    clear hdw hbe
    rcases (by omega:e=0∨e=1∨e=2) with h|h|h
    ·subst h
     have hc1:=cell_heap (k:=1) HW.out.tile rfl
     have hcs:=cell_heap (k:=0) HW.out.les rfl
     go_wp2_with fail
     clear hc1 hcs
     go_loopw [41] (fun i wr=>∃j:Nat,j≤4∧i = .int .i64 j∧DW wr ⟨g,gr,gc,gm,gl,g0,g1⟩ A n c (5 * M+3 * j) M ⟨numTo ws 0 5 M M,numTo ws (5 * M) 3 4 j,Z4,0,0,0,0,0,0,0,0⟩∧Below w.heap.size w wr) (fun i _=>4 - (intOf i).toNat)
     case atStart=>exact ⟨0,Nat.zero_le _,rfl,HW.out,HB.out⟩
     case round =>
      obtain ⟨j,hj,rfl,hdw,hbe⟩:=hrel
      have HW:=Lib.hid hdw
      have HB:=Lib.hid hbe
      clear hdw hbe
      by_cases hlt:j<4
      ·have hc1:=cell_heap (k:=1) HW.out.tile rfl
       have hcs:=cell_heap (k:=0) HW.out.les rfl
       have HNL:=Lib.hid (numTo_length (ws:=ws) (p:=5 * M) (b:=3) (N:=4) (k:=j) (by omega))
       have i0:(0:Int)≤(j:Int):=by omega
       have i1:(j:Int)<4:=by omega
       go_wp2_with fail
       go_region_held3 (fun w'=>w'.cell? ⟨gc,1,none⟩=some (.slice (some ⟨gl,0,none⟩) 2 2)∧w'.cell? ⟨gl,0,none⟩=some (.slice (some ⟨g0,0,none⟩) 4 4))
        (first|exact ⟨hc1,hcs⟩|exact ⟨hc2,hcs2⟩|exact ⟨keep_far hc2 (by simp only;exact HSEP.out.n3.2.2.1.symm),keep_far hcs2 (by simp only;exact HSEP.out.n5.1.symm)⟩)
        (first
         | (go_at_call 225;(with_reducible refine (get_lit g A n c ws (5 * M+3 * j) 3 3 _ rfl (rdr_drew HW.out.r) (HI.out.below HB.out).drewd HNE.out HIN.out (by omega) (by omega) (by omega)).mono ?_);rintro e w2 ⟨rfl,hr2,hg2⟩;have W2:=Lib.hid (HW.out.drew.got HSEP.out hr2 hg2);have B2:=Lib.hid (grown_below HB.out.drew hg2 HB.out.size hlo);clear hr2 hg2;have hc2:=cell_heap (k:=1) W2.out.tile rfl;have hcs2:=cell_heap (k:=0) W2.out.les rfl;have hcm2:=cell_heap (k:=j) W2.out.s0 (arr_get (by rw [HNL.out];exact hlt));have hfm2:=frozen_heap W2.out.s0 j))
       go_wp2_with fail
       go_roundw
       case rel =>
        have hset:=W2.out.setS0 HSEP.out j (getW ws (5 * M+3 * j) 3)
        have e:=numTo_set (ws:=ws) (p:=5 * M) (b:=3) hlt
        refine ⟨j+1,by omega,by go_num,?_,?_⟩
        ·simp only [e] at hset
         exact hset
        ·exact B2.out.setCell (p:=⟨g0,j,none⟩) hlo0 _
       case measure=>simp [intOf];omega
      ·have hj4:j=4:=by omega
       subst hj4
       go_wp2_with fail
       replace HW:=Lib.hid (show DW wr _ A n c (5 * M+12) M _ from HW.out)
       have hc1:=cell_heap (k:=1) HW.out.tile rfl
       go_region_held3 (fun w'=>w'.cell? ⟨gc,1,none⟩=some (.slice (some ⟨gl,0,none⟩) 2 2))
        (first|exact hc1|exact hc2|exact keep_far hc2 (by simp only;exact HSEP.out.n3.2.1.symm))
        (first
         | (go_at_call 225;(with_reducible refine (get_lit g A n c ws (5 * M+12) 16 16 _ rfl (rdr_drew HW.out.r) (HI.out.below HB.out).drewd HNE.out HIN.out (by omega) (by omega) (by omega)).mono ?_);rintro e w2 ⟨rfl,hr2,hg2⟩;have W2:=Lib.hid (HW.out.drew.got HSEP.out hr2 hg2);have B2:=Lib.hid (grown_below HB.out.drew hg2 HB.out.size hlo);clear hr2 hg2;have hc2:=cell_heap (k:=1) W2.out.tile rfl;have hcm2:=cell_heap (k:=1) W2.out.les rfl;have hfm2:=frozen_heap W2.out.les 1))
       replace HW:=Lib.hid (show DW _ _ A n c (5 * M+28) M _ from W2.out.setA0 HSEP.out (getW ws (5 * M+12) 16))
       replace HB:=Lib.hid (B2.out.setCell (p:=⟨gl,1,none⟩) hlol (.int .i64 (getW ws (5 * M+12) 16)))
       generalize w2.setCell ⟨gl,1,none⟩ (.int .i64 (getW ws (5 * M+12) 16))=w3 at *
       clear hc1 hc2 hcm2 hfm2 W2 B2
       go_wp2_with fail
       have hc1:=cell_heap (k:=1) HW.out.tile rfl
       go_region_held3 (fun w'=>w'.cell? ⟨gc,1,none⟩=some (.slice (some ⟨gl,0,none⟩) 2 2))
        (first|exact hc1|exact hc2|exact keep_far hc2 (by simp only;exact HSEP.out.n3.2.1.symm))
        (first
         | (go_at_call 225;(with_reducible refine (get_lit g A n c ws (5 * M+28) 1 1 _ rfl (rdr_drew HW.out.r) (HI.out.below HB.out).drewd HNE.out HIN.out (by omega) (by omega) (by omega)).mono ?_);rintro e w2 ⟨rfl,hr2,hg2⟩;have W2:=Lib.hid (HW.out.drew.got HSEP.out hr2 hg2);have B2:=Lib.hid (grown_below HB.out.drew hg2 HB.out.size hlo);clear hr2 hg2;have hc2:=cell_heap (k:=1) W2.out.tile rfl;have hcm2:=cell_heap (k:=2) W2.out.les rfl;have hfm2:=frozen_heap W2.out.les 2))
       replace HW:=Lib.hid (show DW _ _ A n c (5 * M+29) M _ from W2.out.setB0 HSEP.out (getW ws (5 * M+28) 1))
       replace HB:=Lib.hid (B2.out.setCell (p:=⟨gl,2,none⟩) hlol (.int .i64 (getW ws (5 * M+28) 1)))
       generalize w2.setCell ⟨gl,2,none⟩ (.int .i64 (getW ws (5 * M+28) 1))=w4 at *
       clear hc1 hc2 hcm2 hfm2 W2 B2
       go_wp2_with fail
       have hc1:=cell_heap (k:=1) HW.out.tile rfl
       go_region_held3 (fun w'=>w'.cell? ⟨gc,1,none⟩=some (.slice (some ⟨gl,0,none⟩) 2 2))
        (first|exact hc1|exact hc2|exact keep_far hc2 (by simp only;exact HSEP.out.n3.2.1.symm))
        (first
         | (go_at_call 225;(with_reducible refine (get_lit g A n c ws (5 * M+29) 1 1 _ rfl (rdr_drew HW.out.r) (HI.out.below HB.out).drewd HNE.out HIN.out (by omega) (by omega) (by omega)).mono ?_);rintro e w2 ⟨rfl,hr2,hg2⟩;have W2:=Lib.hid (HW.out.drew.got HSEP.out hr2 hg2);have B2:=Lib.hid (grown_below HB.out.drew hg2 HB.out.size hlo);clear hr2 hg2;have hc2:=cell_heap (k:=1) W2.out.tile rfl;have hcm2:=cell_heap (k:=3) W2.out.les rfl;have hfm2:=frozen_heap W2.out.les 3))
       replace HW:=Lib.hid (show DW _ _ A n c (5 * M+30) M _ from W2.out.setC0 HSEP.out (getW ws (5 * M+29) 1))
       replace HB:=Lib.hid (B2.out.setCell (p:=⟨gl,3,none⟩) hlol (.int .i64 (getW ws (5 * M+29) 1)))
       generalize w2.setCell ⟨gl,3,none⟩ (.int .i64 (getW ws (5 * M+29) 1))=w5 at *
       clear hc1 hc2 hcm2 hfm2 W2 B2
       go_wp2_with fail
       go_roundw
       case rel=>exact ⟨1,by omega,by go_num,HW.out,HB.out⟩
       case measure=>simp [intOf]
    ·subst h
     have hc1:=cell_heap (k:=1) HW.out.tile rfl
     have hcs:=cell_heap (k:=4) HW.out.les rfl
     go_wp2_with fail
     clear hc1 hcs
     go_loopw [41] (fun i wr=>∃j:Nat,j≤4∧i = .int .i64 j∧DW wr ⟨g,gr,gc,gm,gl,g0,g1⟩ A n c (5 * M+30+3 * j) M ⟨numTo ws 0 5 M M,numTo ws (5 * M) 3 4 4,numTo ws (5 * M+30) 3 4 j,getW ws (5 * M+12) 16,getW ws (5 * M+28) 1,getW ws (5 * M+29) 1,0,0,0,0,0⟩∧Below w.heap.size w wr) (fun i _=>4 - (intOf i).toNat)
     case atStart=>exact ⟨0,Nat.zero_le _,rfl,HW.out,HB.out⟩
     case round =>
      obtain ⟨j,hj,rfl,hdw,hbe⟩:=hrel
      have HW:=Lib.hid hdw
      have HB:=Lib.hid hbe
      clear hdw hbe
      by_cases hlt:j<4
      ·have hc1:=cell_heap (k:=1) HW.out.tile rfl
       have hcs:=cell_heap (k:=4) HW.out.les rfl
       have HNL:=Lib.hid (numTo_length (ws:=ws) (p:=5 * M+30) (b:=3) (N:=4) (k:=j) (by omega))
       have i0:(0:Int)≤(j:Int):=by omega
       have i1:(j:Int)<4:=by omega
       go_wp2_with fail
       go_region_held3 (fun w'=>w'.cell? ⟨gc,1,none⟩=some (.slice (some ⟨gl,0,none⟩) 2 2)∧w'.cell? ⟨gl,4,none⟩=some (.slice (some ⟨g1,0,none⟩) 4 4))
        (first|exact ⟨hc1,hcs⟩|exact ⟨hc2,hcs2⟩|exact ⟨keep_far hc2 (by simp only;exact HSEP.out.n3.2.2.2.symm),keep_far hcs2 (by simp only;exact HSEP.out.n5.2.1.symm)⟩)
        (first
         | (go_at_call 225;(with_reducible refine (get_lit g A n c ws (5 * M+30+3 * j) 3 3 _ rfl (rdr_drew HW.out.r) (HI.out.below HB.out).drewd HNE.out HIN.out (by omega) (by omega) (by omega)).mono ?_);rintro e w2 ⟨rfl,hr2,hg2⟩;have W2:=Lib.hid (HW.out.drew.got HSEP.out hr2 hg2);have B2:=Lib.hid (grown_below HB.out.drew hg2 HB.out.size hlo);clear hr2 hg2;have hc2:=cell_heap (k:=1) W2.out.tile rfl;have hcs2:=cell_heap (k:=4) W2.out.les rfl;have hcm2:=cell_heap (k:=j) W2.out.s1 (arr_get (by rw [HNL.out];exact hlt));have hfm2:=frozen_heap W2.out.s1 j))
       go_wp2_with fail
       go_roundw
       case rel =>
        have hset:=W2.out.setS1 HSEP.out j (getW ws (5 * M+30+3 * j) 3)
        have e:=numTo_set (ws:=ws) (p:=5 * M+30) (b:=3) hlt
        refine ⟨j+1,by omega,by go_num,?_,?_⟩
        ·simp only [e] at hset
         exact hset
        ·exact B2.out.setCell (p:=⟨g1,j,none⟩) hlo1 _
       case measure=>simp [intOf];omega
      ·have hj4:j=4:=by omega
       subst hj4
       go_wp2_with fail
       replace HW:=Lib.hid (show DW wr _ A n c (5 * M+30+12) M _ from HW.out)
       have hc1:=cell_heap (k:=1) HW.out.tile rfl
       go_region_held3 (fun w'=>w'.cell? ⟨gc,1,none⟩=some (.slice (some ⟨gl,0,none⟩) 2 2))
        (first|exact hc1|exact hc2|exact keep_far hc2 (by simp only;exact HSEP.out.n3.2.1.symm))
        (first
         | (go_at_call 225;(with_reducible refine (get_lit g A n c ws (5 * M+30+12) 16 16 _ rfl (rdr_drew HW.out.r) (HI.out.below HB.out).drewd HNE.out HIN.out (by omega) (by omega) (by omega)).mono ?_);rintro e w2 ⟨rfl,hr2,hg2⟩;have W2:=Lib.hid (HW.out.drew.got HSEP.out hr2 hg2);have B2:=Lib.hid (grown_below HB.out.drew hg2 HB.out.size hlo);clear hr2 hg2;have hc2:=cell_heap (k:=1) W2.out.tile rfl;have hcm2:=cell_heap (k:=5) W2.out.les rfl;have hfm2:=frozen_heap W2.out.les 5))
       replace HW:=Lib.hid (show DW _ _ A n c (5 * M+30+28) M _ from W2.out.setA1 HSEP.out (getW ws (5 * M+30+12) 16))
       replace HB:=Lib.hid (B2.out.setCell (p:=⟨gl,5,none⟩) hlol (.int .i64 (getW ws (5 * M+30+12) 16)))
       generalize w2.setCell ⟨gl,5,none⟩ (.int .i64 (getW ws (5 * M+30+12) 16))=w3 at *
       clear hc1 hc2 hcm2 hfm2 W2 B2
       go_wp2_with fail
       have hc1:=cell_heap (k:=1) HW.out.tile rfl
       go_region_held3 (fun w'=>w'.cell? ⟨gc,1,none⟩=some (.slice (some ⟨gl,0,none⟩) 2 2))
        (first|exact hc1|exact hc2|exact keep_far hc2 (by simp only;exact HSEP.out.n3.2.1.symm))
        (first
         | (go_at_call 225;(with_reducible refine (get_lit g A n c ws (5 * M+30+28) 1 1 _ rfl (rdr_drew HW.out.r) (HI.out.below HB.out).drewd HNE.out HIN.out (by omega) (by omega) (by omega)).mono ?_);rintro e w2 ⟨rfl,hr2,hg2⟩;have W2:=Lib.hid (HW.out.drew.got HSEP.out hr2 hg2);have B2:=Lib.hid (grown_below HB.out.drew hg2 HB.out.size hlo);clear hr2 hg2;have hc2:=cell_heap (k:=1) W2.out.tile rfl;have hcm2:=cell_heap (k:=6) W2.out.les rfl;have hfm2:=frozen_heap W2.out.les 6))
       replace HW:=Lib.hid (show DW _ _ A n c (5 * M+30+29) M _ from W2.out.setB1 HSEP.out (getW ws (5 * M+30+28) 1))
       replace HB:=Lib.hid (B2.out.setCell (p:=⟨gl,6,none⟩) hlol (.int .i64 (getW ws (5 * M+30+28) 1)))
       generalize w2.setCell ⟨gl,6,none⟩ (.int .i64 (getW ws (5 * M+30+28) 1))=w4 at *
       clear hc1 hc2 hcm2 hfm2 W2 B2
       go_wp2_with fail
       have hc1:=cell_heap (k:=1) HW.out.tile rfl
       go_region_held3 (fun w'=>w'.cell? ⟨gc,1,none⟩=some (.slice (some ⟨gl,0,none⟩) 2 2))
        (first|exact hc1|exact hc2|exact keep_far hc2 (by simp only;exact HSEP.out.n3.2.1.symm))
        (first
         | (go_at_call 225;(with_reducible refine (get_lit g A n c ws (5 * M+30+29) 1 1 _ rfl (rdr_drew HW.out.r) (HI.out.below HB.out).drewd HNE.out HIN.out (by omega) (by omega) (by omega)).mono ?_);rintro e w2 ⟨rfl,hr2,hg2⟩;have W2:=Lib.hid (HW.out.drew.got HSEP.out hr2 hg2);have B2:=Lib.hid (grown_below HB.out.drew hg2 HB.out.size hlo);clear hr2 hg2;have hc2:=cell_heap (k:=1) W2.out.tile rfl;have hcm2:=cell_heap (k:=7) W2.out.les rfl;have hfm2:=frozen_heap W2.out.les 7))
       replace HW:=Lib.hid (show DW _ _ A n c (5 * M+30+30) M _ from W2.out.setC1 HSEP.out (getW ws (5 * M+30+29) 1))
       replace HB:=Lib.hid (B2.out.setCell (p:=⟨gl,7,none⟩) hlol (.int .i64 (getW ws (5 * M+30+29) 1)))
       generalize w2.setCell ⟨gl,7,none⟩ (.int .i64 (getW ws (5 * M+30+29) 1))=w5 at *
       clear hc1 hc2 hcm2 hfm2 W2 B2
       go_wp2_with fail
       go_roundw
       case rel=>exact ⟨2,by omega,by go_num,HW.out,HB.out⟩
       case measure=>simp [intOf]
    ·subst h
     go_wp2_with fail
     refine (get_lit g A n c ws (5 * M+60) 2 2 _ rfl HW.out.r (HI.out.below HB.out) HNE.out HIN.out (by omega) (by omega) (by omega)).mono ?_
     rintro e w2 ⟨rfl,hr2,hg2⟩
     have W2:=Lib.hid (HW.out.got HSEP.out hr2 hg2)
     have B2:=Lib.hid (grown_below HB.out hg2 HB.out.size hlo)
     have hcm2:=cell_heap (k:=2) W2.out.tile rfl
     have hfm2:=frozen_heap W2.out.tile 2
     clear hr2 hg2
     go_wp2_with fail
     replace HW:=Lib.hid (W2.out.setPad HSEP.out (getW ws (5 * M+60) 2))
     replace HB:=Lib.hid (B2.out.setCell (p:=⟨gc,2,none⟩) hlog (.int .i64 (getW ws (5 * M+60) 2)))
     generalize w2.setCell ⟨gc,2,none⟩ (.int .i64 (getW ws (5 * M+60) 2))=w3 at *
     clear hcm2 hfm2 W2 B2
     refine (get_lit g A n c ws (5 * M+62) 5 5 _ rfl HW.out.r (HI.out.below HB.out) HNE.out HIN.out (by omega) (by omega) (by omega)).mono ?_
     rintro e w4 ⟨rfl,hr2,hg2⟩
     have W2:=Lib.hid (HW.out.got HSEP.out hr2 hg2)
     have B2:=Lib.hid (grown_below HB.out hg2 HB.out.size hlo)
     have hcm2:=cell_heap (k:=3) W2.out.tile rfl
     have hfm2:=frozen_heap W2.out.tile 3
     have m0:=cell_heap (k:=0) W2.out.tile rfl
     have m1:=cell_heap (k:=1) W2.out.tile rfl
     have m2:=cell_heap (k:=2) W2.out.tile rfl
     have r0:=cell_heap (k:=0) W2.out.res rfl
     have r1:=cell_heap (k:=1) W2.out.res rfl
     have r2:=cell_heap (k:=2) W2.out.res rfl
     have r3:=cell_heap (k:=3) W2.out.res rfl
     have s0:=frozen_heap W2.out.res 0
     have s1:=frozen_heap W2.out.res 1
     have s2:=frozen_heap W2.out.res 2
     have s3:=frozen_heap W2.out.res 3
     have hne:gr≠gc:=HSEP.out.n2.1
     clear hr2 hg2
     go_wp2_with fail
     have X:=W2.out.setRam HSEP.out (getW ws (5 * M+62) 5)
     have Y:=(((X.dt.setR HSEP.out 0 (.slice (some ⟨gm,0,none⟩) M M)).setR HSEP.out 1 (.slice (some ⟨gl,0,none⟩) 2 2)).setR HSEP.out 2 (.int .i64 (getW ws (5 * M+60) 2))).setR HSEP.out 3 (.int .i64 (getW ws (5 * M+62) 5))
     have hx:=box_sets (v0 := .slice (some ⟨gm,0,none⟩) M M) (v1 := .slice (some ⟨gl,0,none⟩) 2 2) (v2 := .int .i64 (getW ws (5 * M+60) 2)) (v3 := .int .i64 (getW ws (5 * M+62) 5)) X.res
     have O:=Y.done (M:=M) HSEP.out (numTo_length (Nat.le_refl _)) (by unfold maxLen;omega) (numTo_length (Nat.le_refl _)) (numTo_length (Nat.le_refl _))
     have hB:=((((B2.out.setCell (p:=⟨gc,3,none⟩) hlog (.int .i64 (getW ws (5 * M+62) 5))).setCell (p:=⟨gr,0,none⟩) hlor (.slice (some ⟨gm,0,none⟩) M M)).setCell (p:=⟨gr,1,none⟩) hlor (.slice (some ⟨gl,0,none⟩) 2 2)).setCell (p:=⟨gr,2,none⟩) hlor (.int .i64 (getW ws (5 * M+60) 2))).setCell (p:=⟨gr,3,none⟩) hlor (.int .i64 (getW ws (5 * M+62) 5))
     have eT:T=_:=tile_of HDT.out
     simp only at hx O
     generalize ((((w4.setCell ⟨gc,3,none⟩ (.int .i64 (getW ws (5 * M+62) 5))).setCell ⟨gr,0,none⟩ (.slice (some ⟨gm,0,none⟩) M M)).setCell ⟨gr,1,none⟩ (.slice (some ⟨gl,0,none⟩) 2 2)).setCell ⟨gr,2,none⟩ (.int .i64 (getW ws (5 * M+60) 2))).setCell ⟨gr,3,none⟩ (.int .i64 (getW ws (5 * M+62) 5))=w5 at *
     have d0:=cell_heap (k:=0) hx rfl
     have d1:=cell_heap (k:=1) hx rfl
     have d2:=cell_heap (k:=2) hx rfl
     have d3:=cell_heap (k:=3) hx rfl
     exact bodyPost_ret (v := .agg #[.slice (some ⟨gm,0,none⟩) M M,.slice (some ⟨gl,0,none⟩) 2 2,.int .i64 (getW ws (5 * M+60) 2),.int .i64 (getW ws (5 * M+62) 5)]) (by simp [results,Tryz.results192,go_sem,d0,d1,d2,d3]) rfl (HP.out _ _ _ eT ⟨_,_,rfl,O⟩ hB)
end Go.Proofs.YtignkfhdkcgkgaaGreat
