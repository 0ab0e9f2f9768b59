/- The empty configuration of a tile, of the reference. DecodeTile of the reference makes the configuration that valid words encode. -/
import Derived.Test.YtignkfhdkcgkgaaGreatDeco
import Derived.Test.YtignkfhdkcgkgaaGreatEmpty
namespace Go.Proofs.YtignkfhdkcgkgaaGreat
set_option maxRecDepth 100000
open Go.RowKit
set_option maxHeartbeats 8000000 in
theorem semptyTile_any (d:Dev) (w:World) (hd:devOk d=true) :
  Calls Tryz.prog 181 #[.agg #[.int .i64 d.W,.int .i64 d.H,.int .i64 d.T,.int .i64 d.R]] w (EmptyPost w (muxN d)):=by
 obtain ⟨hm,hm1,hm2,_⟩:=muxN_bd hd
 have HD:=Lib.hid hd
 obtain ⟨i0,hi,hz0,hz1,hz2⟩:=info_parts int_info
 have hmk:=fun W=>run_make_rowN (P:=Tryz.prog) 27 3 i0 _ Tryz.underlying27 hi hz0 .i64 .i64 (muxN d) (muxN d) (Nat.le_refl _) (by rw [hz2];omega) (by omega) W
 have hmk4:∀W:World,(Instr.makeSlice 27 (.int .i64 4) (.int .i64 4)).run Tryz.prog W = .ok (.slice (some ⟨W.heap.size,0,none⟩) 4 4) (W.alloc (.cells (madeCells (Value.int .i64 0).cells (4 * i0.size)) 3)):=fun W=>run_make_rowN (P:=Tryz.prog) 27 3 i0 _ Tryz.underlying27 hi hz0 .i64 .i64 4 4 (Nat.le_refl _) (by rw [hz2];omega) (by omega) W
 rw [hz1,Nat.mul_one,show (Value.int .i64 0).cells=#[Value.int .i64 0] from rfl,arr_made] at hmk hmk4
 clear hi hz0 hz1 hz2
 generalize hMM:muxN d=M at *
 have HMM:=Lib.hid hMM
 have hmc:∀w,Calls Tryz.prog 207 #[.agg #[.int .i64 d.W,.int .i64 d.H,.int .i64 d.T,.int .i64 d.R]] w fun e w'=>e = .returned (.int .i64 (M:Int))∧Below w.heap.size w w':=fun w=>by rw [←HMM.out];exact smuxCount_n d w HD.out
 have HMC:=Lib.hid hmc
 clear hd hm hMM hmc
 go_enter Tryz.func181,Tryz.ntmps181
 go_wp2_with fail
 refine (sdeviceOk_any d _).mono ?_
 rintro e w1 ⟨rfl,b1⟩
 have hS:=keep_init b1
 have hX1:=Lib.hid (box_init b1)
 rw [HD.out]
 go_wp2_with fail
 clear b1
 obtain ⟨hB,c0,c1,c2,c3,e0,e1,e2,e3,f0,f1,f2,f3,hl⟩:=hS
 obtain ⟨p1,p2,p3,p4,p5,p6⟩:=apart4 (a:=w.heap.size) (b:=w1.heap.size) (by omega)
 have hq1:w.heap.size+1<w1.heap.size:=p1
 have HH:=Lib.hid (show Below w.heap.size w w1∧w1.cell? ⟨w.heap.size,0,none⟩=some (.int .i64 d.W)∧w1.cell? ⟨w.heap.size,1,none⟩=some (.int .i64 d.H)∧w1.cell? ⟨w.heap.size,2,none⟩=some (.int .i64 d.T)∧w1.cell? ⟨w.heap.size,3,none⟩=some (.int .i64 d.R)∧w1.cell? ⟨w.heap.size+1,0,none⟩=some (.slice none 0 0)∧w1.cell? ⟨w.heap.size+1,1,none⟩=some (.slice none 0 0)∧w1.cell? ⟨w.heap.size+1,2,none⟩=some (.int .i64 0)∧w1.cell? ⟨w.heap.size+1,3,none⟩=some (.int .i64 0)∧w1.frozen? ⟨w.heap.size+1,0,none⟩=false∧w1.frozen? ⟨w.heap.size+1,1,none⟩=false∧w1.frozen? ⟨w.heap.size+1,2,none⟩=false∧w1.frozen? ⟨w.heap.size+1,3,none⟩=false∧w.heap.size+1<w1.heap.size from ⟨hB,c0,c1,c2,c3,e0,e1,e2,e3,f0,f1,f2,f3,hl⟩)
 clear hl hB hm1 hm2
 have H4:w1.cell? ⟨w.heap.size,0,none⟩=some (.int .i64 d.W)∧w1.cell? ⟨w.heap.size,1,none⟩=some (.int .i64 d.H)∧w1.cell? ⟨w.heap.size,2,none⟩=some (.int .i64 d.T)∧w1.cell? ⟨w.heap.size,3,none⟩=some (.int .i64 d.R):=⟨c0,c1,c2,c3⟩
 clear c0 c1 c2 c3
 go_cut [] (fun wx=>CutE w.heap.size M w wx)
 case first =>
  go_region_held3 (fun w'=>w'.cell? ⟨w.heap.size,0,none⟩=some (.int .i64 d.W)∧w'.cell? ⟨w.heap.size,1,none⟩=some (.int .i64 d.H)∧w'.cell? ⟨w.heap.size,2,none⟩=some (.int .i64 d.T)∧w'.cell? ⟨w.heap.size,3,none⟩=some (.int .i64 d.R))
   (first
    | with_reducible exact k4_drew H4
    | with_reducible exact k4_drew (k4_al _ H4)
    | with_reducible exact k4_drew (k4_al _ (k4_al _ H4))
    | with_reducible exact k4_drew (k4_al _ (k4_al _ (k4_al _ H4)))
    | with_reducible exact k4_drew (k4_al _ (k4_al _ (k4_al _ (k4_al _ H4))))
    | with_reducible exact (k4_sets H4)
    | with_reducible exact (k4_al _ (k4_sets H4))
    | with_reducible exact (k4_al _ (k4_al _ (k4_sets H4)))
    | with_reducible exact (k4_al _ (k4_al _ (k4_al _ (k4_sets H4))))
    | with_reducible exact (k4_al _ (k4_al _ (k4_al _ (k4_al _ (k4_sets H4)))))
    | with_reducible exact H4
    | with_reducible exact (k4_al _ H4)
    | with_reducible exact (k4_al _ (k4_al _ H4))
    | with_reducible exact (k4_al _ (k4_al _ (k4_al _ H4)))
    | with_reducible exact (k4_al _ (k4_al _ (k4_al _ (k4_al _ H4)))))
   (first
    | (go_at_call 207;(with_reducible refine (HMC.out _).mono ?_);rintro e w2 ⟨rfl,b2⟩;(first|(with_reducible have hS2:=keep_call b2 HH.out)|(with_reducible have hS2:=keep_call b2 (keep_al _ HH.out))|(with_reducible have hS2:=keep_call b2 (keep_al _ (keep_al _ HH.out)))|(with_reducible have hS2:=keep_call b2 (keep_al _ (keep_al _ (keep_al _ HH.out)))));have hz2:=b2.size;(try simp only [World.size_alloc,size_drew4] at hz2);have hb2:=Lib.hid b2;have hX2:=Lib.hid (heap_tr b2 (heap_dr (by first|exact hX1.out|exact heap_al _ hX1.out|exact heap_al _ (heap_al _ hX1.out)|exact heap_al _ (heap_al _ (heap_al _ hX1.out)))));clear b2 H4 HH e0 e1 e2 e3 f0 f1 f2 f3 p1 p2 p3 p4 p5 p6;have HH:=Lib.hid hS2;obtain ⟨hB,c0,c1,c2,c3,e0,e1,e2,e3,f0,f1,f2,f3,hl⟩:=hS2;obtain ⟨p1,p2,p3,p4,p5,p6⟩:=apart4 (a:=w.heap.size) (b:=w2.heap.size) (by omega);clear hl hB;have H4:w2.cell? ⟨w.heap.size,0,none⟩=some (.int .i64 d.W)∧w2.cell? ⟨w.heap.size,1,none⟩=some (.int .i64 d.H)∧w2.cell? ⟨w.heap.size,2,none⟩=some (.int .i64 d.T)∧w2.cell? ⟨w.heap.size,3,none⟩=some (.int .i64 d.R):=⟨c0,c1,c2,c3⟩;clear c0 c1 c2 c3))
  all_goals
   go_wp2_with fail
   go_meet
   clear e0 e1 e2 e3 f0 f1 f2 f3
   refine cutE_mk (by with_reducible first|exact (box_sets hX2.out)|exact (heap_al _ (box_sets hX2.out))|exact (heap_al _ (heap_al _ (box_sets hX2.out)))|exact (heap_al _ (heap_al _ (heap_al _ (box_sets hX2.out))))|exact (heap_al _ (heap_al _ (heap_al _ (heap_al _ (box_sets hX2.out)))))) (by repeat (first|(with_reducible refine heap_newAt ?_;(simp only [World.size_alloc,size_set4]);done)|with_reducible refine heap_al _ ?_|with_reducible refine heap_st _ ?_ (by simp only;omega)|with_reducible refine heap_tr hb2.out ?_|with_reducible refine heap_dr ?_)) ?_ ?_ ?_ ?_ ?_ ?_
   ·repeat (first
     | (with_reducible refine heap_newAt ?_;(simp only [World.size_alloc,size_set4]);done)
     | with_reducible refine heap_al _ ?_
     | with_reducible refine heap_st _ ?_ (by simp only;omega)
     | with_reducible refine heap_tr hb2.out ?_
     | with_reducible refine heap_dr ?_)
   ·repeat (first
     | (with_reducible refine heap_newAt ?_;(simp only [World.size_alloc,size_set4]);done)
     | with_reducible refine heap_al _ ?_
     | with_reducible refine heap_st _ ?_ (by simp only;omega)
     | with_reducible refine heap_tr hb2.out ?_
     | with_reducible refine heap_dr ?_)
   ·repeat (first
     | (with_reducible refine heap_newAt ?_;(simp only [World.size_alloc,size_set4]);done)
     | with_reducible refine heap_al _ ?_
     | with_reducible refine heap_st _ ?_ (by simp only;omega)
     | with_reducible refine heap_tr hb2.out ?_
     | with_reducible refine heap_dr ?_)
   all_goals first|omega|(with_reducible first|exact (post4 HH.out.1)|exact (below_new (post4 HH.out.1) _)|exact (below_new (below_new (post4 HH.out.1) _) _)|exact (below_new (below_new (below_new (post4 HH.out.1) _) _) _)|exact (below_new (below_new (below_new (below_new (post4 HH.out.1) _) _) _) _)|exact ((post4 HH.out.1)).drew|exact ((below_new (post4 HH.out.1) _)).drew|exact ((below_new (below_new (post4 HH.out.1) _) _)).drew|exact ((below_new (below_new (below_new (post4 HH.out.1) _) _) _)).drew|exact ((below_new (below_new (below_new (below_new (post4 HH.out.1) _) _) _) _)).drew)
 case rest =>
  clear e0 e1 e2 e3 f0 f1 f2 f3 p1 p2 p3 p4 p5 p6 H4
  obtain ⟨gm,gl,g0,g1,hx,⟨k1,k2,k3,k4⟩,⟨l1,l2,l3,l4⟩,⟨n1,n2,n3,n4,n5,n6⟩,hbw⟩:=hcut
  have d0:=cell_heap hx (k:=0) rfl
  have d1:=cell_heap hx (k:=1) rfl
  have d2:=cell_heap hx (k:=2) rfl
  have d3:=cell_heap hx (k:=3) rfl
  have HP:=Lib.hid (tile_nodes hbw ⟨l1,l2,l3,l4⟩ ⟨n1,n2,n3,n4,n5,n6⟩ k1 k2 k3 k4)
  clear hx k1 k2 k3 k4 hbw hmk hmk4
  go_wp2_with fail
  exact bodyPost_ret (v := .agg #[.slice (some ⟨gm,0,none⟩) M M,.slice (some ⟨gl,0,none⟩) 2 2,.int .i64 0,.int .i64 0]) (by simp [results,Tryz.results181,go_sem,d0,d1,d2,d3]) rfl HP.out
end Go.Proofs.YtignkfhdkcgkgaaGreat

namespace Go.Proofs.YtignkfhdkcgkgaaGreat
set_option maxRecDepth 100000
open Go.RowKit

/-- The blocks below S0 that the reference's DecodeTile works on. -/
structure DS (w:World) (gr gc gm gl M:Nat) (mux:List Int) (lv:Array Value) (pad ram:Int):Prop where
 res:w.heap[gr]?=some (.cells #[.slice none 0 0,.slice none 0 0,.int .i64 0,.int .i64 0] 103 (0,0))
 tile:w.heap[gc]?=some (.cells (tileArr gm gl M pad ram) 103 (0,0))
 mux:w.heap[gm]?=some (.cells (arr mux) 3 (0,0))
 les:w.heap[gl]?=some (.cells lv 107 (0,0))
structure Sep4 (lo S gr gc gm gl:Nat):Prop where
 le:lo≤gr∧lo≤gc∧lo≤gm∧lo≤gl
 lt:gr<S∧gc<S∧gm<S∧gl<S
 ne:gr≠gc∧gr≠gm∧gr≠gl∧gc≠gm∧gc≠gl∧gm≠gl
theorem DS.keep {w w':World} {lo S gr gc gm gl M:Nat} {mux:List Int} {lv:Array Value} {pad ram:Int} (h:DS w gr gc gm gl M mux lv pad ram) (hs:Sep4 lo S gr gc gm gl) (hk:∀k,k<S→w'.heap[k]?=w.heap[k]?):DS w' gr gc gm gl M mux lv pad ram :=
 ⟨(hk _ hs.lt.1).trans h.res,(hk _ hs.lt.2.1).trans h.tile,(hk _ hs.lt.2.2.1).trans h.mux,(hk _ hs.lt.2.2.2).trans h.les⟩
theorem DS.far {w:World} {lo S gr gc gm gl M:Nat} {mux:List Int} {lv:Array Value} {pad ram:Int} (h:DS w gr gc gm gl M mux lv pad ram) (hs:Sep4 lo S gr gc gm gl) {p:Addr} (hp:S≤p.block) (v:Value):DS (w.setCell p v) gr gc gm gl M mux lv pad ram :=
 h.keep hs fun k hk=>Below.heap_setCell _ _ _ _ (by omega)
theorem DS.setMux {w:World} {lo S gr gc gm gl M:Nat} {mux:List Int} {lv:Array Value} {pad ram:Int} (h:DS w gr gc gm gl M mux lv pad ram) (hs:Sep4 lo S gr gc gm gl) (j:Nat) (x:Int):DS (w.setCell ⟨gm,j,none⟩ (.int .i64 x)) gr gc gm gl M (mux.set j x) lv pad ram:=by
 obtain ⟨n1,n2,n3,n4,n5,n6⟩:=hs.ne
 exact ⟨heap_st _ h.res n2,heap_st _ h.tile n4,by rw [heap_set h.mux j,arr_set],heap_st _ h.les n6.symm⟩
theorem DS.setLe {w:World} {lo S gr gc gm gl M:Nat} {mux:List Int} {lv:Array Value} {pad ram:Int} (h:DS w gr gc gm gl M mux lv pad ram) (hs:Sep4 lo S gr gc gm gl) (j:Nat) (v:Value):DS (w.setCell ⟨gl,j,none⟩ v) gr gc gm gl M mux (lv.setIfInBounds j v) pad ram:=by
 obtain ⟨n1,n2,n3,n4,n5,n6⟩:=hs.ne
 exact ⟨heap_st _ h.res n3,heap_st _ h.tile n5,heap_st _ h.mux n6,heap_set h.les j _⟩
theorem DS.setPad {w:World} {lo S gr gc gm gl M:Nat} {mux:List Int} {lv:Array Value} {pad ram:Int} (h:DS w gr gc gm gl M mux lv pad ram) (hs:Sep4 lo S gr gc gm gl) (x:Int):DS (w.setCell ⟨gc,2,none⟩ (.int .i64 x)) gr gc gm gl M mux lv x ram:=by
 obtain ⟨n1,n2,n3,n4,n5,n6⟩:=hs.ne
 exact ⟨heap_st _ h.res n1,(heap_set h.tile 2 _).trans rfl,heap_st _ h.mux n4.symm,heap_st _ h.les n5.symm⟩
theorem DS.setRam {w:World} {lo S gr gc gm gl M:Nat} {mux:List Int} {lv:Array Value} {pad ram:Int} (h:DS w gr gc gm gl M mux lv pad ram) (hs:Sep4 lo S gr gc gm gl) (x:Int):DS (w.setCell ⟨gc,3,none⟩ (.int .i64 x)) gr gc gm gl M mux lv pad x:=by
 obtain ⟨n1,n2,n3,n4,n5,n6⟩:=hs.ne
 exact ⟨heap_st _ h.res n1,(heap_set h.tile 3 _).trans rfl,heap_st _ h.mux n4.symm,heap_st _ h.les n5.symm⟩
/-- The array of logic elements after e of them, and the rows that they own. -/
def LesAt (ws:List Int) (M S:Nat) (w:World) (lv:Array Value):Nat→Prop
 | 0=>∃g0 g1,lv=zles g0 g1
 | 1=>∃A0 c0 g1,lv=#[.slice A0 4 c0,.int .i64 (getW ws (5 * M+12) 16),.int .i64 (getW ws (5 * M+28) 1),.int .i64 (getW ws (5 * M+29) 1),.slice (some ⟨g1,0,none⟩) 4 4,.int .i64 0,.int .i64 0,.int .i64 0]∧Own S w A0 4 c0 (numTo ws (5 * M) 3 4 4)
 | _=>∃A0 c0 A1 c1 h,lv=#[.slice A0 4 c0,.int .i64 (getW ws (5 * M+12) 16),.int .i64 (getW ws (5 * M+28) 1),.int .i64 (getW ws (5 * M+29) 1),.slice A1 4 c1,.int .i64 (getW ws (5 * M+42) 16),.int .i64 (getW ws (5 * M+58) 1),.int .i64 (getW ws (5 * M+59) 1)]∧Own S w A0 4 c0 (numTo ws (5 * M) 3 4 4)∧(∀a,A0=some a→a.block<h)∧S≤h∧Own h w A1 4 c1 (numTo ws (5 * M+30) 3 4 4)
theorem Own.far {base:Nat} {w:World} {A:Option Addr} {n c:Nat} {xs:List Int} (h:Own base w A n c xs) {p:Addr} (hp:p.block<base) (v:Value):Own base (w.setCell p v) A n c xs :=
 ownsRow_block h fun a ha=>Below.heap_setCell _ _ _ _ (by have:=(h.lt a ha).1;omega)
theorem LesAt.far {ws:List Int} {M S:Nat} {w:World} {lv:Array Value}:∀{e:Nat},LesAt ws M S w lv e→∀{p:Addr},p.block<S→∀v:Value,LesAt ws M S (w.setCell p v) lv e
 | 0,h,p,hp,v=>h
 | 1,⟨A0,c0,g1,e,o⟩,p,hp,v=>⟨A0,c0,g1,e,o.far hp v⟩
 | _+2,⟨A0,c0,A1,c1,h,e,o,hl,hS,o1⟩,p,hp,v=>⟨A0,c0,A1,c1,h,e,o.far hp v,hl,hS,o1.far (by omega) v⟩
theorem numTo_snoc (ws:List Int) (p b k:Nat):((List.range (k+1)).map fun i=>getW ws (p+b * i) b)=((List.range k).map fun i=>getW ws (p+b * i) b)++[getW ws (p+b * k) b]:=by rw [List.range_succ,List.map_append];rfl
def numsTo (ws:List Int) (p b k:Nat):List Int:=(List.range k).map fun i=>getW ws (p+b * i) b
theorem numsTo_succ (ws:List Int) (p b k:Nat):numsTo ws p b (k+1)=numsTo ws p b k++[getW ws (p+b * k) b]:=numTo_snoc ws p b k
def TilePost2 (w:World) (t:Tile) (e:Ending) (w':World):Prop:=∃v,e = .returned (.tuple #[v,.bool true])∧TileAt w.heap.size w'.heap.size w' t v∧Below w.heap.size w w'

theorem sget_lit (A:Option Addr) (n c:Nat) (ws:List Int) (p b:Nat) (pi bi:Int) (w:World) (hpi:pi=(p:Int)) (hbi:bi=(b:Int)) (hA:Ints w A n ws) (hin:In16 ws) (hp:p+b≤16 * n) (hb:b≤16) (hn:n≤1000) :
  Calls Tryz.prog 182 #[.slice A n c,.int .i64 pi,.int .i64 bi] w fun e w'=>e = .returned (.tuple #[.int .i64 (getW ws p b),.int .i64 ((p+b:Nat):Int)])∧w=w':=by
 rw [hpi,hbi]
 exact sget_any A n c ws p b w hA hin hp hb hn
theorem Own.off {base:Nat} {w:World} {A:Option Addr} {n c:Nat} {xs:List Int} (h:Own base w A n c xs) {p:Addr} (hp:∀a,A=some a→a.block≠p.block) (v:Value):Own base (w.setCell p v) A n c xs :=
 ownsRow_block h fun a ha=>Below.heap_setCell _ _ _ _ (hp a ha)
theorem numsTo_four (ws:List Int) (p b:Nat):numsTo ws p b 4=numTo ws p b 4 4:=by rw [numTo_full];rfl
theorem DS.done {w:World} {lo S gr gc gm gl M:Nat} {mux:List Int} {lv:Array Value} {pad ram:Int} {ws:List Int} (hmux:w.heap[gm]?=some (.cells (arr mux) 3 (0,0))) (hles:w.heap[gl]?=some (.cells lv 107 (0,0))) (hs:Sep4 lo S gr gc gm gl) (hl:LesAt ws M S w lv 2) (_hlS:lo≤S) (hm:mux.length=M) (hM:M≤maxLen) :
  OwnsL lo w.heap.size w (Tile.cells ⟨mux,[⟨numTo ws (5 * M) 3 4 4,getW ws (5 * M+12) 16,getW ws (5 * M+28) 1,getW ws (5 * M+29) 1⟩,⟨numTo ws (5 * M+30) 3 4 4,getW ws (5 * M+42) 16,getW ws (5 * M+58) 1,getW ws (5 * M+59) 1⟩],pad,ram⟩) (tileArr gm gl M pad ram).toList:=by
 obtain ⟨A0,c0,A1,c1,hh,rfl,o0,hb0,hS,o1⟩:=hl
 obtain ⟨g0,cur0,rfl,a1,a2,_⟩:=o0.block (by omega)
 obtain ⟨g1,cur1,rfl,a3,a4,_⟩:=o1.block (by omega)
 have a5:=hb0 _ rfl
 simp only at a5
 obtain ⟨l1,l2,l3,l4⟩:=hs.le
 obtain ⟨q1,q2,q3,q4⟩:=hs.lt
 obtain ⟨n1,n2,n3,n4,n5,n6⟩:=hs.ne
 have om:OwnC w (celI mux) (.slice (some ⟨gm,0,none⟩) M M) [gm]:=ownC_ints.2 ⟨Own.arr hmux (Nat.zero_le _) hM hm,rfl⟩
 have p0:OwnC w (celI (numTo ws (5 * M) 3 4 4)) (.slice (some ⟨g0,0,none⟩) 4 c0) [g0]:=ownC_ints.2 ⟨o0.more (Nat.zero_le _),rfl⟩
 have p1:OwnC w (celI (numTo ws (5 * M+30) 3 4 4)) (.slice (some ⟨g1,0,none⟩) 4 c1) [g1]:=ownC_ints.2 ⟨o1.more (Nat.zero_le _),rfl⟩
 have ci:∀x:Int,OwnC w (.int x) (.int .i64 x) []:=fun x=>ownC_int.2 ⟨rfl,rfl⟩
 have ol:OwnC w (celE [⟨numTo ws (5 * M) 3 4 4,getW ws (5 * M+12) 16,getW ws (5 * M+28) 1,getW ws (5 * M+29) 1⟩,⟨numTo ws (5 * M+30) 3 4 4,getW ws (5 * M+42) 16,getW ws (5 * M+58) 1,getW ws (5 * M+59) 1⟩]) (.slice (some ⟨gl,0,none⟩) 2 2) [gl,g0,g1]:=by
  unfold celE
  rw [ownC_row]
  refine ⟨_,2,2,_,[g0,g1],rfl,⟨rfl,.inr ⟨gl,2,_,rfl,Nat.zero_le _,hles,Nat.le_refl _,by unfold maxLen;omega,rfl,rfl⟩⟩,rfl,?_⟩
  show OwnL w [celI (numTo ws (5 * M) 3 4 4),.int (getW ws (5 * M+12) 16),.int (getW ws (5 * M+28) 1),.int (getW ws (5 * M+29) 1),celI (numTo ws (5 * M+30) 3 4 4),.int (getW ws (5 * M+42) 16),.int (getW ws (5 * M+58) 1),.int (getW ws (5 * M+59) 1)] _ _
  simp only [ownL_cons,ownL_nil]
  exact ⟨_,_,[g0],[g1],rfl,rfl,p0,_,_,[],[g1],rfl,rfl,ci _,_,_,[],[g1],rfl,rfl,ci _,_,_,[],[g1],rfl,rfl,ci _,_,_,[g1],[],rfl,rfl,p1,_,_,[],[],rfl,rfl,ci _,_,_,[],[],rfl,rfl,ci _,_,_,[],[],rfl,rfl,ci _,rfl,rfl⟩
 refine ⟨[gm,gl,g0,g1],?_,?_,fun x hx=>?_⟩
 ·show OwnL w [celI mux,celE _,.int pad,.int ram] _ _
  simp only [ownL_cons,ownL_nil]
  exact ⟨_,_,[gm],[gl,g0,g1],rfl,rfl,om,_,_,[gl,g0,g1],[],rfl,rfl,ol,_,_,[],[],rfl,rfl,ci _,_,_,[],[],rfl,rfl,ci _,rfl,rfl⟩
 ·have e1:gm≠g0:=by omega
  have e2:gm≠g1:=by omega
  have e3:gl≠g0:=by omega
  have e4:gl≠g1:=by omega
  have e5:g0≠g1:=by omega
  simp [n6,e1,e2,e3,e4,e5]
 ·have q1:=heap_lt0 hmux
  have q2:=heap_lt0 hles
  simp only [List.mem_cons,List.not_mem_nil,or_false] at hx
  omega

set_option maxHeartbeats 4000000 in
theorem sdecodeTile_any (d:Dev) (A:Option Addr) (n c:Nat) (ws:List Int) (w:World) (hd:devOk d=true) (hA:Ints w A n ws) (hn:(n:Int)=fwI d) (hin:In16 ws) :
  Calls Tryz.prog 135 #[.agg #[.int .i64 d.W,.int .i64 d.H,.int .i64 d.T,.int .i64 d.R],.slice A n c] w (TilePost2 w (decT d ws)):=by
 obtain ⟨hm,hm1,hm2,hm3,hm4,hm5⟩:=muxN_bd hd
 have hn1:n≤11:=by omega
 have hn2:5 * muxN d+67≤16 * n:=by omega
 have HD:=Lib.hid hd
 have HI:=Lib.hid hA
 have HIN:=Lib.hid hin
 have HN:=Lib.hid hn
 have HDT:Hid (decT d ws=⟨decMux ws (muxN d),[decLe ws (5 * muxN d),decLe ws (5 * muxN d+30)],getW ws (5 * muxN d+60) 2,getW ws (5 * muxN d+62) 5⟩):=rfl
 have HP:Hid (∀(t:Tile) (v:Value) (w':World),decT d ws=t→TileAt w.heap.size w'.heap.size w' t v→Below w.heap.size w w'→TilePost2 w (decT d ws) (.returned (.tuple #[v,.bool true])) w'):=fun t v w' e h hb=>by rw [e];exact ⟨v,rfl,h,hb⟩
 clear hd hA hn hin hm hm3 hm4 hm5
 generalize decT d ws=T at *
 generalize hM:muxN d=M at *
 have HM:=Lib.hid hM
 clear hM
 go_enter Tryz.func135,Tryz.ntmps135
 go_wp2_with fail
 refine (sdeviceOk_any d _).mono ?_
 rintro e w1 ⟨rfl,b1⟩
 rw [HD.out]
 have hs1:=b1.size
 simp only [World.size_alloc] at hs1
 obtain ⟨hcc,hff⟩:=bcell b1
 have hres1:=heap_tr b1 (g:=w.heap.size+1) (o := .cells #[.slice none 0 0,.slice none 0 0,.int .i64 0,.int .i64 0] 103) (heap_newAt (by simp only [World.size_alloc]))
 have HR1:=Lib.hid hres1
 have HE1:=Lib.hid (below_tr (below_new (below_new (Below.refl w.heap.size w) _) _) b1)
 have HB1:=Lib.hid b1
 clear b1 hres1
 go_wp2_with fail
 refine (sframeWords_any d _ HD.out).mono ?_
 rintro e w2 ⟨rfl,b2⟩
 rw [←HN.out]
 have hs2:=b2.size
 have HR2:=Lib.hid (heap_tr b2 HR1.out)
 have HE2:=Lib.hid (below_tr HE1.out b2)
 clear hcc hff
 obtain ⟨hcc,hff⟩:=bcell (below_tr HB1.out b2)
 have HB2:=Lib.hid (below_tr HB1.out b2)
 have HI2:=Lib.hid (HI.out.below (below_tr HE1.out b2))
 clear b2
 go_wp2_with fail
 go_loop [6] (fun i=>∃k:Nat,k≤n∧i = .int .i64 k) (fun i=>n - (intOf i).toNat)
 case atStart=>exact ⟨0,Nat.zero_le _,rfl⟩
 case round =>
  obtain ⟨k,hk,rfl⟩:=hrel
  by_cases hlt:k<n
  ·obtain ⟨b,o,rfl,hb,hc⟩:=HI2.out.2 (by omega)
   have hck:=hc k hlt
   have hx:=HIN.out k (by rw [HI2.out.1];exact hlt)
   clear hc
   generalize ws[k]?.getD 0=x at *
   have hxr:inR x 0 65535=true:=inR_iff.2 hx
   have hcl:∀w,Calls Tryz.prog 175 #[.int .i64 x,.int .i64 0,.int .i64 65535] w fun e w'=>e = .returned (.bool true)∧w=w':=fun w=>by
    have:=l01In_any x 0 65535 w
    rwa [hxr] at this
   have HCL:=Lib.hid hcl
   clear hcl hxr
   go_wp2_with (go_at_call 175;refine (HCL.out _).mono ?_;rintro e w' ⟨rfl,rfl⟩)
   go_round
   case rel=>exact ⟨k+1,by omega,by go_num⟩
   case measure=>simp [intOf];omega
  ·have hkn:n=k:=by omega
   subst hkn
   go_wp2_with fail
   refine (semptyTile_any d _ HD.out).mono ?_
   rintro e w3 ⟨v,rfl,he,b3⟩
   rw [HM.out] at he
   obtain ⟨gm,gl,g0,g1,rfl,l1,l2,l3,l4,n1,n2,n3,n4,n5,n6,k1,k2,k3,k4⟩:=he
   have hs3:=b3.size
   have hr:=heap_tr b3 HR2.out
   have HE3:=Lib.hid (below_tr HE2.out b3)
   clear hcc hff
   go_wp2_with fail
   have HSEP:Hid (Sep4 w.heap.size (w3.heap.size+1) (w.heap.size+1) w3.heap.size gm gl):=by
    have q1:=heap_lt0 k1
    have q2:=heap_lt0 k2
    constructor <;> omega
   have HW0:Hid (DS (w3.alloc (.cells (tileArr gm gl M 0 0) 103)) (w.heap.size+1) w3.heap.size gm gl M (numTo ws 0 5 M 0) (zles g0 g1) 0 0) :=
    ⟨heap_al _ hr,heap_new _ _,by rw [numTo_zero];exact heap_al _ k1,heap_al _ k2⟩
   have HB0:=Lib.hid (below_new HE3.out (.cells (tileArr gm gl M 0 0) 103))
   have hwg3:w.heap.size≤w3.heap.size:=by omega
   have hlom:w.heap.size≤gm:=by omega
   have hlol:w.heap.size≤gl:=by omega
   have hsz0:(w3.alloc (.cells (tileArr gm gl M 0 0) 103)).heap.size=w3.heap.size+1:=by simp
   have HSZ:=Lib.hid hsz0
   clear k1 k2 k3 k4 hr b3 n1 n2 n3 n4 n5 n6 hsz0
   generalize hgr:w.heap.size+1=gr at *
   generalize hgcc:w3.heap.size=gc at *
   generalize hSS:gc+1=S at *
   have HGR:=Lib.hid hgr
   have hSg:w.heap.size≤S:=by omega
   have hSg2:gc<S:=by omega
   clear hgr hgcc hSS
   go_loopw [8,9,10] (fun p x i wr=>∃(j:Nat) (y:Int),j≤M∧i = .int .i64 j∧p = .int .i64 ((5 * j:Nat):Int)∧x = .int .i64 y∧DS wr gr gc gm gl M (numTo ws 0 5 M j) (zles g0 g1) 0 0∧Below w.heap.size w wr∧S≤wr.heap.size) (fun _ _ i _=>M - (intOf i).toNat)
   case atStart=>exact ⟨0,0,Nat.zero_le _,rfl,rfl,rfl,HW0.out,HB0.out,by rw [HSZ.out];exact Nat.le_refl _⟩
   case round =>
    obtain ⟨j,y,hj,rfl,rfl,rfl,hdw,hbe,hsz⟩:=hrel
    have HW:=Lib.hid hdw
    have HB:=Lib.hid hbe
    have HIr:=Lib.hid (HI.out.below hbe)
    clear hdw hbe
    have hc0:=cell_heap (k:=0) HW.out.tile rfl
    by_cases hlt:j<M
    ·have HNL:=Lib.hid (numTo_length (ws:=ws) (p:=0) (b:=5) (N:=M) (k:=j) (by omega))
     have hcm:=cell_heap (k:=j) HW.out.mux (arr_get (by rw [HNL.out];exact hlt))
     have hfm:=frozen_heap HW.out.mux j
     have i0:(0:Int)≤(j:Int):=by omega
     have i1:(j:Int)<(M:Int):=by omega
     go_wp2_with fail
     refine (sget_lit A n c ws (5 * j) 5 _ 5 _ (by omega) rfl HIr.out HIN.out (by omega) (by omega) (by omega)).mono ?_
     rintro e w' ⟨rfl,rfl⟩
     go_wp2_with fail
     go_roundw
     case rel =>
      have hset:=HW.out.setMux HSEP.out j (getW ws (5 * j) 5)
      have e:=numTo_set (ws:=ws) (p:=0) (b:=5) hlt
      rw [Nat.zero_add] at e
      rw [e] at hset
      exact ⟨j+1,_,by omega,by go_num,by first|(congr 1;done)|(congr 1;omega),rfl,hset,HB.out.setCell (p:=⟨gm,j,none⟩) hlom _,by rw [size_set4];exact hsz⟩
     case measure=>simp [intOf];omega
    ·have hjm:M=j:=by omega
     subst hjm
     go_wp2_with fail
     clear hc0
     go_loopw [8,9,11] (fun p x i wr=>∃(e:Nat) (y:Int) (lv:Array Value),e≤2∧i = .int .i64 e∧p = .int .i64 ((5 * M+30 * e:Nat):Int)∧x = .int .i64 y∧DS wr gr gc gm gl M (numTo ws 0 5 M M) lv 0 0∧LesAt ws M S wr lv e∧Below w.heap.size w wr∧S≤wr.heap.size) (fun _ _ i _=>2 - (intOf i).toNat)
     case atStart=>exact ⟨0,_,_,by omega,rfl,rfl,rfl,HW.out,⟨g0,g1,rfl⟩,HB.out,hsz⟩
     case round =>
      obtain ⟨e,y,lv,he,rfl,rfl,rfl,hdw,hl,hbe,hsz⟩:=hrel
      have HW:=Lib.hid hdw
      have HB:=Lib.hid hbe
      have HL:=Lib.hid hl
      have hwg:w.heap.size≤wr.heap.size:=hbe.size
      clear hdw hbe hl
      rcases (by omega:e=0∨e=1∨e=2) with h|h|h
      ·subst h
       rw [show ((0:Nat):Int)=0 from rfl]
       go_wp2_with fail
       have hxle:=heap_new wr (.cells #[.slice none 0 0,.int .i64 0,.int .i64 0,.int .i64 0] 107)
       have HX0:=Lib.hid hxle
       have HA0:=Lib.hid (below_new (Below.refl wr.heap.size wr) (.cells #[.slice none 0 0,.int .i64 0,.int .i64 0,.int .i64 0] 107))
       clear hxle
       generalize hgle:wr.heap.size=gle at *
       have HGLE:=Lib.hid hgle
       have hS:S≤gle:=hsz
       clear hgle hsz
       have HWR:=HGLE.out
       clear HWR
       obtain ⟨w0,hw0⟩:∃w0,w0=wr:=⟨_,rfl⟩
       rw [←hw0] at HX0 HA0 HW HB HL HGLE ⊢
       clear hw0
       go_loopw [8,9,13] (fun p x i wr=>∃(j:Nat) (A':Option Addr) (c':Nat) (y:Int),j≤4∧i = .int .i64 j∧p = .int .i64 ((5 * M+3 * j:Nat):Int)∧x = .int .i64 y∧wr.heap[gle]?=some (.cells #[.slice A' j c',.int .i64 0,.int .i64 0,.int .i64 0] 107 (0,0))∧Own (gle+1) wr A' j c' (numsTo ws (5 * M) 3 j)∧Below gle w0 wr∧gle+1≤wr.heap.size) (fun _ _ i _=>4 - (intOf i).toNat)
       case atStart=>exact ⟨0,none,0,_,by omega,rfl,rfl,rfl,HX0.out,Own.nil,HA0.out,heap_lt0 HX0.out⟩
       case round =>
        obtain ⟨j,A',c',y,hj,rfl,rfl,rfl,hx,ho,hb,hsz⟩:=hrel
        have HX:=Lib.hid hx
        have HO:=Lib.hid ho
        have HBB:=Lib.hid hb
        clear hx ho hb
        have HIr:=Lib.hid (HI.out.below (HB.out.trans (HBB.out.mono hwg)))
        by_cases hlt:j<4
        ·have hc0:=cell_heap (k:=0) HX.out rfl
         go_wp2_with fail
         refine (sget_lit A n c ws (5 * M+3 * j) 3 _ 3 _ (by omega) rfl HIr.out HIN.out (by omega) (by omega) (by omega)).mono ?_
         rintro e w' ⟨rfl,rfl⟩
         go_wp2_with (at_builtin;refine wpList_push rfl _ _ rfl (gle+1) A' j c' (numsTo ws (5 * M) 3 j) _ rfl HO.out rfl (by omega) hsz (Below.refl (gle+1) wr) ?_;rintro g4 cap w4 o4 b4 gr4 hat4;have hx4:=(b4.block gle (by omega)).trans HX.out;have c4:=cell_heap (k:=0) hx4 rfl;have f4:=frozen_heap hx4 0)
         go_roundw
         case rel =>
          refine ⟨j+1,_,_,_,by omega,by go_num,?_,rfl,(heap_set hx4 0 _).trans rfl,?_,(HBB.out.trans (b4.mono (by omega))).setCell (p:=⟨gle,0,none⟩) (by simp) _,?_⟩
          ·first|(congr 1;done)|(congr 1;omega)
          ·rw [numsTo_succ]
           exact o4.far (p:=⟨gle,0,none⟩) (by simp) _
          ·rw [size_set4];have:=b4.size;omega
         case measure=>simp [intOf];omega
        ·have hj4:j=4:=by omega
         subst hj4
         have d0:=cell_heap (k:=0) HX.out rfl
         have d1:=cell_heap (k:=1) HX.out rfl
         have d2:=cell_heap (k:=2) HX.out rfl
         have d3:=cell_heap (k:=3) HX.out rfl
         have f1:=frozen_heap HX.out 1
         have f2:=frozen_heap HX.out 2
         have f3:=frozen_heap HX.out 3
         have HWk:=Lib.hid (HW.out.keep HSEP.out (w':=wr) (fun k hk=>HBB.out.block k (by omega)))
         have hc1:=cell_heap (k:=1) HWk.out.tile rfl
         obtain ⟨g0,g1,rfl⟩:=HL.out
         have e0:=cell_heap (k:=0) HWk.out.les rfl
         have e1:=cell_heap (k:=1) HWk.out.les rfl
         have e2:=cell_heap (k:=2) HWk.out.les rfl
         have e3:=cell_heap (k:=3) HWk.out.les rfl
         have k0:=frozen_heap HWk.out.les 0
         have k1:=frozen_heap HWk.out.les 1
         have k2:=frozen_heap HWk.out.les 2
         have k3:=frozen_heap HWk.out.les 3
         have z1:gle≠gl:=by have:=HSEP.out.lt;omega
         have z2:gle≠gc:=by have:=HSEP.out.lt;omega
         go_wp2_with fail
         refine (sget_lit A n c ws (5 * M+12) 16 _ 16 _ (by omega) rfl HIr.out HIN.out (by omega) (by omega) (by omega)).mono ?_
         rintro e w' ⟨rfl,rfl⟩
         go_wp2_with fail
         have HBr:=Lib.hid (HB.out.trans (HBB.out.mono hwg))
         have hgl:w.heap.size≤gle:=by omega
         refine (sget_lit A n c ws (5 * M+28) 1 _ 1 _ (by omega) rfl (HI.out.below (HBr.out.setCell (p:=⟨gle,1,none⟩) hgl _)) HIN.out (by omega) (by omega) (by omega)).mono ?_
         rintro e w' ⟨rfl,rfl⟩
         go_wp2_with fail
         refine (sget_lit A n c ws (5 * M+29) 1 _ 1 _ (by omega) rfl (HI.out.below ((HBr.out.setCell (p:=⟨gle,1,none⟩) hgl _).setCell (p:=⟨gle,2,none⟩) hgl _)) HIN.out (by omega) (by omega) (by omega)).mono ?_
         rintro e w' ⟨rfl,rfl⟩
         go_wp2_with fail
         go_roundw
         case rel =>
          have hq1:gle<gle+1:=Nat.lt_succ_self _
          have hq2:gl<gle+1:=by have:=HSEP.out.lt;omega
          have hq3:gl<S:=HSEP.out.lt.2.2.2
          have o4:=HO.out
          rw [numsTo_four] at o4
          have D:=((((((HWk.out.far HSEP.out (p:=⟨gle,1,none⟩) hS (.int .i64 (getW ws (5 * M+12) 16))).far HSEP.out (p:=⟨gle,2,none⟩) hS (.int .i64 (getW ws (5 * M+28) 1))).far HSEP.out (p:=⟨gle,3,none⟩) hS (.int .i64 (getW ws (5 * M+29) 1))).setLe HSEP.out 0 (.slice A' 4 c')).setLe HSEP.out 1 (.int .i64 (getW ws (5 * M+12) 16))).setLe HSEP.out 2 (.int .i64 (getW ws (5 * M+28) 1))).setLe HSEP.out 3 (.int .i64 (getW ws (5 * M+29) 1))
          have OW:=((((((o4.far (p:=⟨gle,1,none⟩) hq1 (.int .i64 (getW ws (5 * M+12) 16))).far (p:=⟨gle,2,none⟩) hq1 (.int .i64 (getW ws (5 * M+28) 1))).far (p:=⟨gle,3,none⟩) hq1 (.int .i64 (getW ws (5 * M+29) 1))).far (p:=⟨gl,0,none⟩) hq2 (.slice A' 4 c')).far (p:=⟨gl,1,none⟩) hq2 (.int .i64 (getW ws (5 * M+12) 16))).far (p:=⟨gl,2,none⟩) hq2 (.int .i64 (getW ws (5 * M+28) 1))).far (p:=⟨gl,3,none⟩) hq2 (.int .i64 (getW ws (5 * M+29) 1))
          have BB:=((((((HBr.out.setCell (p:=⟨gle,1,none⟩) hgl (.int .i64 (getW ws (5 * M+12) 16))).setCell (p:=⟨gle,2,none⟩) hgl (.int .i64 (getW ws (5 * M+28) 1))).setCell (p:=⟨gle,3,none⟩) hgl (.int .i64 (getW ws (5 * M+29) 1))).setCell (p:=⟨gl,0,none⟩) hlol (.slice A' 4 c')).setCell (p:=⟨gl,1,none⟩) hlol (.int .i64 (getW ws (5 * M+12) 16))).setCell (p:=⟨gl,2,none⟩) hlol (.int .i64 (getW ws (5 * M+28) 1))).setCell (p:=⟨gl,3,none⟩) hlol (.int .i64 (getW ws (5 * M+29) 1))
          skip
          exact ⟨1,_,_,by omega,rfl,by first|(congr 1;done)|(congr 1;omega),rfl,D,⟨A',c',g1,rfl,OW.more (by omega)⟩,BB,by simp only [size_set4];omega⟩
         case measure=>simp [intOf]
      ·subst h
       rw [show ((1:Nat):Int)=1 from rfl]
       go_wp2_with fail
       have hxle:=heap_new wr (.cells #[.slice none 0 0,.int .i64 0,.int .i64 0,.int .i64 0] 107)
       have HX0:=Lib.hid hxle
       have HA0:=Lib.hid (below_new (Below.refl wr.heap.size wr) (.cells #[.slice none 0 0,.int .i64 0,.int .i64 0,.int .i64 0] 107))
       clear hxle
       generalize hgle:wr.heap.size=gle at *
       have HGLE:=Lib.hid hgle
       have hS:S≤gle:=hsz
       clear hgle hsz
       have HWR:=HGLE.out
       clear HWR
       obtain ⟨w0,hw0⟩:∃w0,w0=wr:=⟨_,rfl⟩
       rw [←hw0] at HX0 HA0 HW HB HL HGLE ⊢
       clear hw0
       go_loopw [8,9,13] (fun p x i wr=>∃(j:Nat) (A':Option Addr) (c':Nat) (y:Int),j≤4∧i = .int .i64 j∧p = .int .i64 ((5 * M+30+3 * j:Nat):Int)∧x = .int .i64 y∧wr.heap[gle]?=some (.cells #[.slice A' j c',.int .i64 0,.int .i64 0,.int .i64 0] 107 (0,0))∧Own (gle+1) wr A' j c' (numsTo ws (5 * M+30) 3 j)∧Below gle w0 wr∧gle+1≤wr.heap.size) (fun _ _ i _=>4 - (intOf i).toNat)
       case atStart=>exact ⟨0,none,0,_,by omega,rfl,rfl,rfl,HX0.out,Own.nil,HA0.out,heap_lt0 HX0.out⟩
       case round =>
        obtain ⟨j,A',c',y,hj,rfl,rfl,rfl,hx,ho,hb,hsz⟩:=hrel
        have HX:=Lib.hid hx
        have HO:=Lib.hid ho
        have HBB:=Lib.hid hb
        clear hx ho hb
        have HIr:=Lib.hid (HI.out.below (HB.out.trans (HBB.out.mono hwg)))
        by_cases hlt:j<4
        ·have hc0:=cell_heap (k:=0) HX.out rfl
         go_wp2_with fail
         refine (sget_lit A n c ws (5 * M+30+3 * j) 3 _ 3 _ (by omega) rfl HIr.out HIN.out (by omega) (by omega) (by omega)).mono ?_
         rintro e w' ⟨rfl,rfl⟩
         go_wp2_with (at_builtin;refine wpList_push rfl _ _ rfl (gle+1) A' j c' (numsTo ws (5 * M+30) 3 j) _ rfl HO.out rfl (by omega) hsz (Below.refl (gle+1) wr) ?_;rintro g4 cap w4 o4 b4 gr4 hat4;have hx4:=(b4.block gle (by omega)).trans HX.out;have c4:=cell_heap (k:=0) hx4 rfl;have f4:=frozen_heap hx4 0)
         go_roundw
         case rel =>
          refine ⟨j+1,_,_,_,by omega,by go_num,?_,rfl,(heap_set hx4 0 _).trans rfl,?_,(HBB.out.trans (b4.mono (by omega))).setCell (p:=⟨gle,0,none⟩) (by simp) _,?_⟩
          ·first|(congr 1;done)|(congr 1;omega)
          ·rw [numsTo_succ]
           exact o4.far (p:=⟨gle,0,none⟩) (by simp) _
          ·rw [size_set4];have:=b4.size;omega
         case measure=>simp [intOf];omega
        ·have hj4:j=4:=by omega
         subst hj4
         have d0:=cell_heap (k:=0) HX.out rfl
         have d1:=cell_heap (k:=1) HX.out rfl
         have d2:=cell_heap (k:=2) HX.out rfl
         have d3:=cell_heap (k:=3) HX.out rfl
         have f1:=frozen_heap HX.out 1
         have f2:=frozen_heap HX.out 2
         have f3:=frozen_heap HX.out 3
         have HWk:=Lib.hid (HW.out.keep HSEP.out (w':=wr) (fun k hk=>HBB.out.block k (by omega)))
         have hc1:=cell_heap (k:=1) HWk.out.tile rfl
         obtain ⟨A0,c0,g1,rfl,o0⟩:=HL.out
         have e0:=cell_heap (k:=4) HWk.out.les rfl
         have e1:=cell_heap (k:=5) HWk.out.les rfl
         have e2:=cell_heap (k:=6) HWk.out.les rfl
         have e3:=cell_heap (k:=7) HWk.out.les rfl
         have k0:=frozen_heap HWk.out.les 4
         have k1:=frozen_heap HWk.out.les 5
         have k2:=frozen_heap HWk.out.les 6
         have k3:=frozen_heap HWk.out.les 7
         have z1:gle≠gl:=by have:=HSEP.out.lt;omega
         have z2:gle≠gc:=by have:=HSEP.out.lt;omega
         go_wp2_with fail
         refine (sget_lit A n c ws (5 * M+30+12) 16 _ 16 _ (by omega) rfl HIr.out HIN.out (by omega) (by omega) (by omega)).mono ?_
         rintro e w' ⟨rfl,rfl⟩
         go_wp2_with fail
         have HBr:=Lib.hid (HB.out.trans (HBB.out.mono hwg))
         have hgl:w.heap.size≤gle:=by omega
         refine (sget_lit A n c ws (5 * M+30+28) 1 _ 1 _ (by omega) rfl (HI.out.below (HBr.out.setCell (p:=⟨gle,1,none⟩) hgl _)) HIN.out (by omega) (by omega) (by omega)).mono ?_
         rintro e w' ⟨rfl,rfl⟩
         go_wp2_with fail
         refine (sget_lit A n c ws (5 * M+30+29) 1 _ 1 _ (by omega) rfl (HI.out.below ((HBr.out.setCell (p:=⟨gle,1,none⟩) hgl _).setCell (p:=⟨gle,2,none⟩) hgl _)) HIN.out (by omega) (by omega) (by omega)).mono ?_
         rintro e w' ⟨rfl,rfl⟩
         go_wp2_with fail
         go_roundw
         case rel =>
          have hq1:gle<gle+1:=Nat.lt_succ_self _
          have hq2:gl<gle+1:=by have:=HSEP.out.lt;omega
          have hq3:gl<S:=HSEP.out.lt.2.2.2
          have o4:=HO.out
          rw [numsTo_four] at o4
          have D:=((((((HWk.out.far HSEP.out (p:=⟨gle,1,none⟩) hS (.int .i64 (getW ws (5 * M+30+12) 16))).far HSEP.out (p:=⟨gle,2,none⟩) hS (.int .i64 (getW ws (5 * M+30+28) 1))).far HSEP.out (p:=⟨gle,3,none⟩) hS (.int .i64 (getW ws (5 * M+30+29) 1))).setLe HSEP.out 4 (.slice A' 4 c')).setLe HSEP.out 5 (.int .i64 (getW ws (5 * M+30+12) 16))).setLe HSEP.out 6 (.int .i64 (getW ws (5 * M+30+28) 1))).setLe HSEP.out 7 (.int .i64 (getW ws (5 * M+30+29) 1))
          have OW:=((((((o4.far (p:=⟨gle,1,none⟩) hq1 (.int .i64 (getW ws (5 * M+30+12) 16))).far (p:=⟨gle,2,none⟩) hq1 (.int .i64 (getW ws (5 * M+30+28) 1))).far (p:=⟨gle,3,none⟩) hq1 (.int .i64 (getW ws (5 * M+30+29) 1))).far (p:=⟨gl,4,none⟩) hq2 (.slice A' 4 c')).far (p:=⟨gl,5,none⟩) hq2 (.int .i64 (getW ws (5 * M+30+12) 16))).far (p:=⟨gl,6,none⟩) hq2 (.int .i64 (getW ws (5 * M+30+28) 1))).far (p:=⟨gl,7,none⟩) hq2 (.int .i64 (getW ws (5 * M+30+29) 1))
          have BB:=((((((HBr.out.setCell (p:=⟨gle,1,none⟩) hgl (.int .i64 (getW ws (5 * M+30+12) 16))).setCell (p:=⟨gle,2,none⟩) hgl (.int .i64 (getW ws (5 * M+30+28) 1))).setCell (p:=⟨gle,3,none⟩) hgl (.int .i64 (getW ws (5 * M+30+29) 1))).setCell (p:=⟨gl,4,none⟩) hlol (.slice A' 4 c')).setCell (p:=⟨gl,5,none⟩) hlol (.int .i64 (getW ws (5 * M+30+12) 16))).setCell (p:=⟨gl,6,none⟩) hlol (.int .i64 (getW ws (5 * M+30+28) 1))).setCell (p:=⟨gl,7,none⟩) hlol (.int .i64 (getW ws (5 * M+30+29) 1))
          have hb0:∀a,A0=some a→a.block<gle:=fun a ha=>by have:=(o0.lt a ha).2;rw [HGLE.out] at this;exact this
          have hne0:∀a,A0=some a→a.block≠gle:=fun a ha=>by have:=hb0 a ha;omega
          have OX:=((((((((o0.below (by rw [HGLE.out];exact HBB.out)).off (p:=⟨gle,1,none⟩) hne0 (.int .i64 (getW ws (5 * M+30+12) 16))).off (p:=⟨gle,2,none⟩) hne0 (.int .i64 (getW ws (5 * M+30+28) 1))).off (p:=⟨gle,3,none⟩) hne0 (.int .i64 (getW ws (5 * M+30+29) 1))).far (p:=⟨gl,4,none⟩) hq3 (.slice A' 4 c')).far (p:=⟨gl,5,none⟩) hq3 (.int .i64 (getW ws (5 * M+30+12) 16))).far (p:=⟨gl,6,none⟩) hq3 (.int .i64 (getW ws (5 * M+30+28) 1))).far (p:=⟨gl,7,none⟩) hq3 (.int .i64 (getW ws (5 * M+30+29) 1)))
          exact ⟨2,_,_,by omega,rfl,by first|(congr 1;done)|(congr 1;omega),rfl,D,⟨A0,c0,A',c',gle+1,rfl,OX,fun a ha=>by have:=hb0 a ha;omega,by omega,OW⟩,BB,by simp only [size_set4];omega⟩
         case measure=>simp [intOf]
      ·subst h
       rw [show ((2:Nat):Int)=2 from rfl]
       have HIr:=Lib.hid (HI.out.below HB.out)
       have m2:=cell_heap (k:=2) HW.out.tile rfl
       have q2:=frozen_heap HW.out.tile 2
       have m3:=cell_heap (k:=3) HW.out.tile rfl
       have q3:=frozen_heap HW.out.tile 3
       have m0:=cell_heap (k:=0) HW.out.tile rfl
       have m1:=cell_heap (k:=1) HW.out.tile rfl
       have r0:=cell_heap (k:=0) HW.out.res rfl
       have r1:=cell_heap (k:=1) HW.out.res rfl
       have r2:=cell_heap (k:=2) HW.out.res rfl
       have r3:=cell_heap (k:=3) HW.out.res rfl
       have s0:=frozen_heap HW.out.res 0
       have s1:=frozen_heap HW.out.res 1
       have s2:=frozen_heap HW.out.res 2
       have s3:=frozen_heap HW.out.res 3
       have hne:gr≠gc:=HSEP.out.ne.1
       have hlog:w.heap.size≤gc:=by have:=HGR.out;omega
       have hlor:w.heap.size≤gr:=by have:=HGR.out;omega
       go_wp2_with fail
       refine (sget_lit A n c ws (5 * M+60) 2 _ 2 _ (by omega) rfl HIr.out HIN.out (by omega) (by omega) (by omega)).mono ?_
       rintro e w' ⟨rfl,rfl⟩
       go_wp2_with fail
       refine (sget_lit A n c ws (5 * M+62) 5 _ 5 _ (by omega) rfl (HI.out.below (HB.out.setCell (p:=⟨gc,2,none⟩) hlog _)) HIN.out (by omega) (by omega) (by omega)).mono ?_
       rintro e w' ⟨rfl,rfl⟩
       go_wp2_with fail
       have X:=(HW.out.setPad HSEP.out (getW ws (5 * M+60) 2)).setRam HSEP.out (getW ws (5 * M+62) 5)
       have hx:=box_sets (v0 := .slice (some ⟨gm,0,none⟩) M M) (v1 := .slice (some ⟨gl,0,none⟩) 2 2) (v2 := .int .i64 (getW ws (5 * M+60) 2)) (v3 := .int .i64 (getW ws (5 * M+62) 5)) X.res
       obtain ⟨t1,t2,t3,t4⟩:=HSEP.out.lt
       obtain ⟨n1,n2,n3,n4,n5,n6⟩:=HSEP.out.ne
       have LL:=(((((HL.out.far (p:=⟨gc,2,none⟩) t2 (.int .i64 (getW ws (5 * M+60) 2))).far (p:=⟨gc,3,none⟩) t2 (.int .i64 (getW ws (5 * M+62) 5))).far (p:=⟨gr,0,none⟩) t1 (.slice (some ⟨gm,0,none⟩) M M)).far (p:=⟨gr,1,none⟩) t1 (.slice (some ⟨gl,0,none⟩) 2 2)).far (p:=⟨gr,2,none⟩) t1 (.int .i64 (getW ws (5 * M+60) 2))).far (p:=⟨gr,3,none⟩) t1 (.int .i64 (getW ws (5 * M+62) 5))
       have MM:=heap_st (p:=⟨gr,3,none⟩) (.int .i64 (getW ws (5 * M+62) 5)) (heap_st (p:=⟨gr,2,none⟩) (.int .i64 (getW ws (5 * M+60) 2)) (heap_st (p:=⟨gr,1,none⟩) (.slice (some ⟨gl,0,none⟩) 2 2) (heap_st (p:=⟨gr,0,none⟩) (.slice (some ⟨gm,0,none⟩) M M) X.mux n2.symm) n2.symm) n2.symm) n2.symm
       have EE:=heap_st (p:=⟨gr,3,none⟩) (.int .i64 (getW ws (5 * M+62) 5)) (heap_st (p:=⟨gr,2,none⟩) (.int .i64 (getW ws (5 * M+60) 2)) (heap_st (p:=⟨gr,1,none⟩) (.slice (some ⟨gl,0,none⟩) 2 2) (heap_st (p:=⟨gr,0,none⟩) (.slice (some ⟨gm,0,none⟩) M M) X.les n3.symm) n3.symm) n3.symm) n3.symm
       have hB:=(((((HB.out.setCell (p:=⟨gc,2,none⟩) hlog (.int .i64 (getW ws (5 * M+60) 2))).setCell (p:=⟨gc,3,none⟩) hlog (.int .i64 (getW ws (5 * M+62) 5))).setCell (p:=⟨gr,0,none⟩) hlor (.slice (some ⟨gm,0,none⟩) M M)).setCell (p:=⟨gr,1,none⟩) hlor (.slice (some ⟨gl,0,none⟩) 2 2)).setCell (p:=⟨gr,2,none⟩) hlor (.int .i64 (getW ws (5 * M+60) 2))).setCell (p:=⟨gr,3,none⟩) hlor (.int .i64 (getW ws (5 * M+62) 5))
       have O:=DS.done (pad:=getW ws (5 * M+60) 2) (ram:=getW ws (5 * M+62) 5) MM EE HSEP.out LL hSg (numTo_length (Nat.le_refl _)) (by unfold maxLen;omega)
       have eT:T=_:=tile_of HDT.out
       generalize (((((wr.setCell ⟨gc,2,none⟩ (.int .i64 (getW ws (5 * M+60) 2))).setCell ⟨gc,3,none⟩ (.int .i64 (getW ws (5 * M+62) 5))).setCell ⟨gr,0,none⟩ (.slice (some ⟨gm,0,none⟩) M M)).setCell ⟨gr,1,none⟩ (.slice (some ⟨gl,0,none⟩) 2 2)).setCell ⟨gr,2,none⟩ (.int .i64 (getW ws (5 * M+60) 2))).setCell ⟨gr,3,none⟩ (.int .i64 (getW ws (5 * M+62) 5))=w5 at *
       have d0:=cell_heap (k:=0) hx rfl
       have d1:=cell_heap (k:=1) hx rfl
       have d2:=cell_heap (k:=2) hx rfl
       have d3:=cell_heap (k:=3) hx rfl
       exact bodyPost_ret (v := .tuple #[.agg #[.slice (some ⟨gm,0,none⟩) M M,.slice (some ⟨gl,0,none⟩) 2 2,.int .i64 (getW ws (5 * M+60) 2),.int .i64 (getW ws (5 * M+62) 5)],.bool true]) (by simp [results,Tryz.results135,go_sem,d0,d1,d2,d3]) rfl (HP.out _ _ _ eT ⟨_,_,rfl,O⟩ hB)
end Go.Proofs.YtignkfhdkcgkgaaGreat
