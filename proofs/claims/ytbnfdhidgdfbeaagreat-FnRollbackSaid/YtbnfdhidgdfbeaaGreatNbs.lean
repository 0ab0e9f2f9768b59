/- Results that lie in a cell. Boards in cells: blocks of twelve cells; results that lie in a cell. NewBoard of both: the program's and the reference's answers are one. How long frames are. NewBoard: how much a new board holds. -/
import Derived.Laws.CopyOwn
import Derived.Laws.Rows
import Derived.Laws.Tables
import Derived.Lib.SmallJoins
import Derived.Test.YtbnfdhidgdfbeaaGreatBk
import Derived.Test.YtbnfdhidgdfbeaaGreatData
import Derived.Test.YtbnfdhidgdfbeaaGreatDeco
import Derived.Test.YtbnfdhidgdfbeaaGreatEmpty
import Derived.Test.YtbnfdhidgdfbeaaGreatHar
import Derived.Test.YtbnfdhidgdfbeaaGreatStart
import Derived.Test.YtbnfdhidgdfbeaaGreatStartS
namespace Go.Proofs.YtbnfdhidgdfbeaaGreat
set_option maxRecDepth 100000
open Go.RowKit

theorem Chg.set {lo hi g k:Nat} {w w':World} (h:Chg lo hi w w') (h1:lo≤g) (h2:g<hi) (v:Value):Chg lo hi w (w'.setCell ⟨g,k,none⟩ v):=by
 have b:=(Below.refl g w').setCell (p:=⟨g,k,none⟩) (Nat.le_refl g) v
 exact ⟨b.os.trans h.os,b.tape.trans h.tape,b.output.trans h.output,Nat.le_trans h.size b.size,fun i hi' hn=>(Below.heap_setCell w' ⟨g,k,none⟩ v i (by show i≠g;omega)).trans (h.block i hi' hn)⟩
theorem heap_setFar {w:World} {g:Nat} {o:Obj} (h:w.heap[g]?=some o) {p:Addr} (hp:g≠p.block) (v:Value):(w.setCell p v).heap[g]?=some o:=(Below.heap_setCell w p v g hp).trans h
theorem heap_setAt {w:World} {g k:Nat} {cs cs':Array Value} {t:TypeId} (h:w.heap[g]?=some (.cells cs t (0,0))) (v:Value) (e:cs.setIfInBounds k v=cs'):(w.setCell ⟨g,k,none⟩ v).heap[g]?=some (.cells cs' t (0,0)):=by
 rw [←e];exact Go.Joins.block_setCell h v
theorem results_cell1 {fn:Func} {p:Tmp} {ty t:TypeId} {tmps cs:Array Value} {P:Program} {w:World} {g:Nat} {fs:Array Field} (h:fn.results=#[.cell p ty]) (ht:tmps.getD p undef = .pointer (some ⟨g,0,none⟩)) (hg:w.heap[g]?=some (.cells cs t (0,0)))
  (hu:P.underlying ty=some (.struct fs)) (hi:(P.info? ty).map (·.size)=some cs.size):(results fn tmps).run P w = .ok (.agg cs) w:=by
 have hl:(loadVar ty ⟨g,0,none⟩).run P w = .ok (.agg cs) w:=run_loadVar_row w g t ty cs (0,0) (.struct fs) hg hu rfl hi
 simp only [results,h]
 simp only [Array.getD_eq_getD_getElem?] at ht
 simp [ht,asAddr,hl]
theorem results_cell2 {fn:Func} {p u:Tmp} {ty t:TypeId} {tmps cs:Array Value} {P:Program} {w:World} {g:Nat} {fs:Array Field} (h:fn.results=#[.cell p ty,.tmp u]) (ht:tmps.getD p undef = .pointer (some ⟨g,0,none⟩)) (hg:w.heap[g]?=some (.cells cs t (0,0)))
  (hu:P.underlying ty=some (.struct fs)) (hi:(P.info? ty).map (·.size)=some cs.size):(results fn tmps).run P w = .ok (.tuple #[.agg cs,tmps.getD u undef]) w:=by
 have hl:(loadVar ty ⟨g,0,none⟩).run P w = .ok (.agg cs) w:=run_loadVar_row w g t ty cs (0,0) (.struct fs) hg hu rfl hi
 simp only [results,h]
 simp only [Array.getD_eq_getD_getElem?] at ht
 simp [ht,asAddr,hl]
end Go.Proofs.YtbnfdhidgdfbeaaGreat

namespace Go.Proofs.YtbnfdhidgdfbeaaGreat
set_option maxRecDepth 100000
open Go.RowKit

theorem cells12 {w:World} {g:Nat} {v0 v1 v2 v3 v4 v5 v6 v7 v8 v9 v10 v11:Value} {t:TypeId} (h:w.heap[g]?=some (.cells #[v0,v1,v2,v3,v4,v5,v6,v7,v8,v9,v10,v11] t (0,0))):w.cell? ⟨g,0,none⟩=some v0∧w.cell? ⟨g,1,none⟩=some v1∧w.cell? ⟨g,2,none⟩=some v2∧w.cell? ⟨g,3,none⟩=some v3∧w.cell? ⟨g,4,none⟩=some v4∧w.cell? ⟨g,5,none⟩=some v5∧w.cell? ⟨g,6,none⟩=some v6∧w.cell? ⟨g,7,none⟩=some v7∧w.cell? ⟨g,8,none⟩=some v8∧w.cell? ⟨g,9,none⟩=some v9∧w.cell? ⟨g,10,none⟩=some v10∧w.cell? ⟨g,11,none⟩=some v11 :=
 ⟨cell_heap h rfl,cell_heap h rfl,cell_heap h rfl,cell_heap h rfl,cell_heap h rfl,cell_heap h rfl,cell_heap h rfl,cell_heap h rfl,cell_heap h rfl,cell_heap h rfl,cell_heap h rfl,cell_heap h rfl⟩
/-- A board's box g0, the result's block g1, and the block g of the board that the call makes. -/
def Three (w:World) (g0 g1 g:Nat) (cs cs1 cs':Array Value):Prop:=w.heap[g0]?=some (.cells cs 57 (0,0))∧w.heap[g1]?=some (.cells cs1 31 (0,0))∧w.heap[g]?=some (.cells cs' 31 (0,0))
theorem Three.tr {w w':World} {g0 g1 g:Nat} {cs cs1 cs':Array Value} (h:Three w g0 g1 g cs cs1 cs') (hb:Below w.heap.size w w'):Three w' g0 g1 g cs cs1 cs':=⟨heap_tr hb h.1,heap_tr hb h.2.1,heap_tr hb h.2.2⟩
theorem Three.set {w:World} {g0 g1 g k:Nat} {cs cs1 cs' cs2:Array Value} (h:Three w g0 g1 g cs cs1 cs') (hn:g0≠g) (hn1:g1≠g) (v:Value) (e:cs'.setIfInBounds k v=cs2):Three (w.setCell ⟨g,k,none⟩ v) g0 g1 g cs cs1 cs2:=⟨heap_setFar h.1 hn v,heap_setFar h.2.1 hn1 v,heap_setAt h.2.2 v e⟩
theorem boardAt_mk {lo hi l1 h1 l2 h2 l3 h3:Nat} {w:World} {b:Bd} {s:Sl3} (k1:Own2 l1 h1 w s.A1 s.n1 s.c1 b.frames) (k2:Own l2 w s.A2 s.n2 s.c2 b.state) (l:Lies s.A2 l2 h2) (k3:Own2 l3 h3 w s.A3 s.n3 s.c3 b.saved)
  (e0:lo≤l1∧l1≤h1∧h1≤l2∧l2≤h2∧h2≤l3∧l3≤h3∧h3≤hi):BoardAt lo hi w b s :=
 ⟨l1,h1,l2,h2,l3,h3,k1,k2,l,k3,.inl e0.2.2.1,.inl (by omega),.inl e0.2.2.2.2.1,⟨e0.1,by omega⟩,⟨by omega,by omega⟩,⟨by omega,by omega⟩⟩
theorem set12 {w:World} {g:Nat} {v0 v1 v2 v3 v4 v5 v6 v7 v8 v9 v10 v11 u0 u1 u2 u3 u4 u5 u6 u7 u8 u9 u10 u11:Value} {t:TypeId} (h:w.heap[g]?=some (.cells #[v0,v1,v2,v3,v4,v5,v6,v7,v8,v9,v10,v11] t (0,0))):((((((((((((w.setCell ⟨g,0,none⟩ u0).setCell ⟨g,1,none⟩ u1).setCell ⟨g,2,none⟩ u2).setCell ⟨g,3,none⟩ u3).setCell ⟨g,4,none⟩ u4).setCell ⟨g,5,none⟩ u5).setCell ⟨g,6,none⟩ u6).setCell ⟨g,7,none⟩ u7).setCell ⟨g,8,none⟩ u8).setCell ⟨g,9,none⟩ u9).setCell ⟨g,10,none⟩ u10).setCell ⟨g,11,none⟩ u11).heap[g]?=some (.cells #[u0,u1,u2,u3,u4,u5,u6,u7,u8,u9,u10,u11] t (0,0)):=by
 have h1:=heap_setAt (k:=0) (cs':=#[u0,v1,v2,v3,v4,v5,v6,v7,v8,v9,v10,v11]) h u0 rfl
 have h2:=heap_setAt (k:=1) (cs':=#[u0,u1,v2,v3,v4,v5,v6,v7,v8,v9,v10,v11]) h1 u1 rfl
 have h3:=heap_setAt (k:=2) (cs':=#[u0,u1,u2,v3,v4,v5,v6,v7,v8,v9,v10,v11]) h2 u2 rfl
 have h4:=heap_setAt (k:=3) (cs':=#[u0,u1,u2,u3,v4,v5,v6,v7,v8,v9,v10,v11]) h3 u3 rfl
 have h5:=heap_setAt (k:=4) (cs':=#[u0,u1,u2,u3,u4,v5,v6,v7,v8,v9,v10,v11]) h4 u4 rfl
 have h6:=heap_setAt (k:=5) (cs':=#[u0,u1,u2,u3,u4,u5,v6,v7,v8,v9,v10,v11]) h5 u5 rfl
 have h7:=heap_setAt (k:=6) (cs':=#[u0,u1,u2,u3,u4,u5,u6,v7,v8,v9,v10,v11]) h6 u6 rfl
 have h8:=heap_setAt (k:=7) (cs':=#[u0,u1,u2,u3,u4,u5,u6,u7,v8,v9,v10,v11]) h7 u7 rfl
 have h9:=heap_setAt (k:=8) (cs':=#[u0,u1,u2,u3,u4,u5,u6,u7,u8,v9,v10,v11]) h8 u8 rfl
 have h10:=heap_setAt (k:=9) (cs':=#[u0,u1,u2,u3,u4,u5,u6,u7,u8,u9,v10,v11]) h9 u9 rfl
 have h11:=heap_setAt (k:=10) (cs':=#[u0,u1,u2,u3,u4,u5,u6,u7,u8,u9,u10,v11]) h10 u10 rfl
 have h12:=heap_setAt (k:=11) (cs':=#[u0,u1,u2,u3,u4,u5,u6,u7,u8,u9,u10,u11]) h11 u11 rfl
 exact h12
end Go.Proofs.YtbnfdhidgdfbeaaGreat

namespace Go.Proofs.YtbnfdhidgdfbeaaGreat
set_option maxRecDepth 100000
open Go.RowKit

def zBd:Bd:=⟨⟨0,0,0,0⟩,[],[],0,⟨0,0,0,0⟩,[]⟩
def newB (d:Dev) (fs:List (List Int)):Bd:=if framesOk d fs=true then ⟨d,fs,startF d fs,0,⟨0,0,0,0⟩,[]⟩ else zBd
theorem newB_bad {d:Dev} {fs:List (List Int)} (h:framesOk d fs=false):newB d fs=zBd:=by unfold newB;rw [h];rfl
theorem newB_good {d:Dev} {fs:List (List Int)} (h:framesOk d fs=true):newB d fs=⟨d,fs,startF d fs,0,⟨0,0,0,0⟩,[]⟩:=by unfold newB;rw [h];rfl
theorem zBd_at (lo hi:Nat) (w:World) (h:lo≤hi):BoardAt lo hi w zBd ⟨none,0,0,none,0,0,none,0,0⟩ :=
 ⟨lo,lo,lo,lo,lo,lo,Own2.nil,Own.nil,by rintro a ⟨⟩,Own2.nil,.inl (Nat.le_refl _),.inl (Nat.le_refl _),.inl (Nat.le_refl _),⟨Nat.le_refl _,h⟩,⟨Nat.le_refl _,h⟩,⟨Nat.le_refl _,h⟩⟩
theorem keep4s {w:World} {g:Nat} {p:Addr} {v v0 v1 v2 v3:Value} (hne:g≠p.block) (h:w.cell? ⟨g,0,none⟩=some v0∧w.cell? ⟨g,1,none⟩=some v1∧w.cell? ⟨g,2,none⟩=some v2∧w.cell? ⟨g,3,none⟩=some v3):(w.setCell p v).cell? ⟨g,0,none⟩=some v0∧(w.setCell p v).cell? ⟨g,1,none⟩=some v1∧(w.setCell p v).cell? ⟨g,2,none⟩=some v2∧(w.setCell p v).cell? ⟨g,3,none⟩=some v3 :=
 ⟨(World.cell?_of_block (a:=⟨g,0,none⟩) (Below.heap_setCell w p v g hne)).trans h.1,(World.cell?_of_block (a:=⟨g,1,none⟩) (Below.heap_setCell w p v g hne)).trans h.2.1,(World.cell?_of_block (a:=⟨g,2,none⟩) (Below.heap_setCell w p v g hne)).trans h.2.2.1,(World.cell?_of_block (a:=⟨g,3,none⟩) (Below.heap_setCell w p v g hne)).trans h.2.2.2⟩
theorem keep4s12 {w:World} {g gw:Nat} {v0 v1 v2 v3 u0 u1 u2 u3 u4 u5 u6 u7 u8 u9 u10 u11:Value} (hne:g≠gw) (h:w.cell? ⟨g,0,none⟩=some v0∧w.cell? ⟨g,1,none⟩=some v1∧w.cell? ⟨g,2,none⟩=some v2∧w.cell? ⟨g,3,none⟩=some v3):((((((((((((w.setCell ⟨gw,0,none⟩ u0).setCell ⟨gw,1,none⟩ u1).setCell ⟨gw,2,none⟩ u2).setCell ⟨gw,3,none⟩ u3).setCell ⟨gw,4,none⟩ u4).setCell ⟨gw,5,none⟩ u5).setCell ⟨gw,6,none⟩ u6).setCell ⟨gw,7,none⟩ u7).setCell ⟨gw,8,none⟩ u8).setCell ⟨gw,9,none⟩ u9).setCell ⟨gw,10,none⟩ u10).setCell ⟨gw,11,none⟩ u11).cell? ⟨g,0,none⟩=some v0∧((((((((((((w.setCell ⟨gw,0,none⟩ u0).setCell ⟨gw,1,none⟩ u1).setCell ⟨gw,2,none⟩ u2).setCell ⟨gw,3,none⟩ u3).setCell ⟨gw,4,none⟩ u4).setCell ⟨gw,5,none⟩ u5).setCell ⟨gw,6,none⟩ u6).setCell ⟨gw,7,none⟩ u7).setCell ⟨gw,8,none⟩ u8).setCell ⟨gw,9,none⟩ u9).setCell ⟨gw,10,none⟩ u10).setCell ⟨gw,11,none⟩ u11).cell? ⟨g,1,none⟩=some v1∧((((((((((((w.setCell ⟨gw,0,none⟩ u0).setCell ⟨gw,1,none⟩ u1).setCell ⟨gw,2,none⟩ u2).setCell ⟨gw,3,none⟩ u3).setCell ⟨gw,4,none⟩ u4).setCell ⟨gw,5,none⟩ u5).setCell ⟨gw,6,none⟩ u6).setCell ⟨gw,7,none⟩ u7).setCell ⟨gw,8,none⟩ u8).setCell ⟨gw,9,none⟩ u9).setCell ⟨gw,10,none⟩ u10).setCell ⟨gw,11,none⟩ u11).cell? ⟨g,2,none⟩=some v2∧((((((((((((w.setCell ⟨gw,0,none⟩ u0).setCell ⟨gw,1,none⟩ u1).setCell ⟨gw,2,none⟩ u2).setCell ⟨gw,3,none⟩ u3).setCell ⟨gw,4,none⟩ u4).setCell ⟨gw,5,none⟩ u5).setCell ⟨gw,6,none⟩ u6).setCell ⟨gw,7,none⟩ u7).setCell ⟨gw,8,none⟩ u8).setCell ⟨gw,9,none⟩ u9).setCell ⟨gw,10,none⟩ u10).setCell ⟨gw,11,none⟩ u11).cell? ⟨g,3,none⟩=some v3 :=
 keep4s hne (keep4s hne (keep4s hne (keep4s hne (keep4s hne (keep4s hne (keep4s hne (keep4s hne (keep4s hne (keep4s hne (keep4s hne (keep4s hne h)))))))))))
set_option maxHeartbeats 4000000 in
theorem snewBoard_any (d:Dev) (A:Option Addr) (n c:Nat) (fs:List (List Int)) (w:World) (hA:Rows2 w A n fs) (hz:size2 fs≤1099511627776) :
  Calls Tryz.prog 12 #[.agg #[.int .i64 d.W,.int .i64 d.H,.int .i64 d.T,.int .i64 d.R],.slice A n c] w fun e w'=>∃s,e = .returned (.tuple #[.agg (bdArr (newB d fs) s),.bool (framesOk d fs)])∧BoardAt w.heap.size w'.heap.size w' (newB d fs) s∧Below w.heap.size w w':=by
 have hB0:Below w.heap.size w (w.alloc (.cells #[.int .i64 d.W,.int .i64 d.H,.int .i64 d.T,.int .i64 d.R] 25)):=below_new (Below.refl _ _) _
 have HI:=Lib.hid hA
 have HX:=Lib.hid hA.1
 clear hA
 go_enter Tryz.func12,Tryz.ntmps12
 go_wp2_with fail
 refine (sframesOk_any d A n c fs _ (HI.out.below (below_new hB0 _)) hz).mono ?_
 rintro e w1 ⟨rfl,b1⟩
 have hs1:=b1.size
 simp only [World.size_alloc] at hs1
 have B1:=Lib.hid (below_tr (below_new hB0 _) b1)
 have HZ:Hid (w1.heap[w.heap.size+1]?=some (.cells (bdArr zBd ⟨none,0,0,none,0,0,none,0,0⟩) 31 (0,0))):=heap_tr b1 (heap_newAt (by simp))
 have HW1:=B1
 have HQ:=Lib.hid (keep4 b1 (by simp;omega) (keep4 (below_new (Below.refl _ _) _) (by simp) (box4 w d)))
 obtain ⟨z0,z1,z2,z3,z4,z5,z6,z7,z8,z9,z10,z11⟩:=cells12 HZ.out
 have y0:=fun k=>frozen_heap HZ.out k
 clear b1
 cases hf:framesOk d fs with
 | false =>
  have HF:=Lib.hid hf
  clear hf
  go_wp2_with fail
  generalize hWF:World.setCell _ _ _=WF
  have hb:WF.heap[w.heap.size+1]?=some (.cells (bdArr zBd ⟨none,0,0,none,0,0,none,0,0⟩) 31 (0,0)):=by rw [←hWF];exact set12 HZ.out
  have hsz:WF.heap.size=w1.heap.size:=by rw [←hWF];simp only [World.size_setCell]
  have hB:Below w.heap.size w WF:=by
   rw [←hWF]
   repeat (first|with_reducible exact B1.out|with_reducible refine Below.setCell ?_ (by simp only;omega) _)
  clear hWF z0 z1 z2 z3 z4 z5 z6 z7 z8 z9 z10 z11 y0
  refine bodyPost_ret (v := .tuple #[.agg (bdArr zBd ⟨none,0,0,none,0,0,none,0,0⟩),.bool false]) (results_cell2 Tryz.results12 rfl hb Tryz.underlying31 (by kernel_rfl)) rfl ⟨⟨none,0,0,none,0,0,none,0,0⟩,by rw [newB_bad HF.out,HF.out],by rw [newB_bad HF.out];exact zBd_at _ _ _ hB.size,hB⟩
 | true =>
  have HF:=Lib.hid hf
  have hww:w.heap.size<w1.heap.size:=by omega
  have hD:=Below.refl w1.heap.size w1
  have hne:w.heap.size≠w.heap.size+1:=by omega
  have hw11:w.heap.size+1<w1.heap.size:=by omega
  clear hf z0 z1 z2 z3 z4 z5 z6 z7 z8 z9 z10 z11 y0
  go_wp2_with fail
  go_region_held3 (fun w'=>w'.cell? ⟨w.heap.size,0,none⟩=some (.int .i64 d.W)∧w'.cell? ⟨w.heap.size,1,none⟩=some (.int .i64 d.H)∧w'.cell? ⟨w.heap.size,2,none⟩=some (.int .i64 d.T)∧w'.cell? ⟨w.heap.size,3,none⟩=some (.int .i64 d.R))
   (first|with_reducible exact keep4s12 hne (keep4 hD hww HQ.out)|with_reducible exact keep4s12 hne (keep4 hD.drew hww HQ.out)|with_reducible exact keep4 hD hww HQ.out|with_reducible exact keep4 hD.drew hww HQ.out)
   (first
    | (go_at_call 48;(with_reducible refine (l19Copy_any A n c fs _ (HI.out.below (below_tr B1.out (by first|with_reducible exact hD|with_reducible exact hD.drew))) hz).mono ?_);rintro e w2 ⟨A2,c2,rfl,o2,b2⟩;have O2:=Lib.hid o2;have hb2:=Lib.hid b2;have hD2:=below_tr (a:=w1) (by first|with_reducible exact hD|with_reducible exact hD.drew) b2;clear b2 o2;replace hD:=hD2;(try clear z0 z1 z2 z3 z4 z5 z6 z7 z8 z9 z10 z11 y0);have HZc:=heap_tr hD HZ.out;obtain ⟨z0,z1,z2,z3,z4,z5,z6,z7,z8,z9,z10,z11⟩:=cells12 HZc;have y0:=fun k=>frozen_heap HZc k;clear HZc)
    | (go_at_call 28;(with_reducible refine (semuStart_any d A n c fs _ (HI.out.below (below_tr B1.out (by first|with_reducible exact hD|with_reducible exact hD.drew))) hz).mono ?_);rintro e w3 ⟨A3,n3,c3,rfl,o3,b3⟩;have O3:=Lib.hid o3;have hb3:=Lib.hid b3;have hD2:=below_tr (a:=w1) (by first|with_reducible exact hD|with_reducible exact hD.drew) b3;clear b3 o3;replace hD:=hD2;(try clear z0 z1 z2 z3 z4 z5 z6 z7 z8 z9 z10 z11 y0);have HZc:=heap_tr hD HZ.out;obtain ⟨z0,z1,z2,z3,z4,z5,z6,z7,z8,z9,z10,z11⟩:=cells12 HZc;have y0:=fun k=>frozen_heap HZc k;clear HZc))
  ·clear z0 z1 z2 z3 z4 z5 z6 z7 z8 z9 z10 z11 y0
   go_wp2_with fail
   have hs9:=hD.size
   have hs2:=hb2.out.size
   have hs3:=hb3.out.size
   have hs4:=HW1.out.size
   have e1:w1.drew.heap.size=w1.heap.size:=rfl
   (try rw [e1] at hs2)
   (try rw [e1] at hs3)
   generalize hWF:World.setCell _ _ _=WF
   have hb:WF.heap[w.heap.size+1]?=some (.cells (bdArr (newB d fs) ⟨A2,n,c2,A3,n3,c3,none,0,0⟩) 31 (0,0)):=by
    rw [←hWF,newB_good HF.out]
    exact set12 (heap_tr hD HZ.out)
   have hC:Chg (w.heap.size+1) (w.heap.size+2) w3 WF:=by
    rw [←hWF]
    repeat (first|with_reducible exact Chg.refl _ _ _|with_reducible refine Chg.set ?_ (by omega) (by omega) _)
   have hB:Below w.heap.size w WF:=by
    have h0:=below_tr B1.out hD
    rw [←hWF]
    repeat (first|with_reducible exact h0|with_reducible refine Below.setCell ?_ (by simp only;omega) _)
   have hsz:=hC.size
   have K2:=(O2.out.below hb3.out).chg hC (.inr (by first|omega|(simp only [World.size_drew];omega)))
   have K3:=(O3.out).chg hC O3.out.lies (.inr (by first|omega|(simp only [World.size_drew];omega)))
   have l3:=O3.out.lies
   (try rw [e1] at K2);(try rw [e1] at K3);(try rw [e1] at l3)
   clear hWF
   refine bodyPost_ret (v := .tuple #[.agg (bdArr (newB d fs) ⟨A2,n,c2,A3,n3,c3,none,0,0⟩),.bool true]) (results_cell2 Tryz.results12 rfl hb Tryz.underlying31 (by kernel_rfl)) rfl ⟨⟨A2,n,c2,A3,n3,c3,none,0,0⟩,by rw [HF.out],?_,hB⟩
   rw [newB_good HF.out]
   exact ⟨_,_,_,_,w.heap.size,w.heap.size,K2,K3,l3,Own2.nil,by unfold Ap;omega,by unfold Ap;omega,by unfold Ap;omega,⟨by omega,by omega⟩,⟨by omega,by omega⟩,⟨Nat.le_refl _,by omega⟩⟩
end Go.Proofs.YtbnfdhidgdfbeaaGreat

namespace Go.Proofs.YtbnfdhidgdfbeaaGreat
set_option maxRecDepth 100000
open Go.RowKit

theorem size2_le_of {xss:List (List Int)} {M:Nat} (h:∀j,j<xss.length→(xss[j]?.getD []).length≤M):size2 xss≤xss.length * (M+1)∧sizeTo xss xss.length≤xss.length * M:=by
 have key:∀k,k≤xss.length→sizeTo xss k≤k * M:=by
  intro k hk
  induction k with
  | zero=>exact Nat.zero_le _
  | succ k ih =>
   have hl:=h k (by omega)
   rw [sizeTo,Nat.succ_mul]
   have:=ih (by omega)
   omega
 have:=key xss.length (Nat.le_refl _)
 refine ⟨?_,this⟩
 unfold size2
 rw [Nat.mul_succ]
 omega
theorem rows_le {fs:List (List Int)} (h:∀j,j<fs.length→(fs[j]?.getD []).length≤11) (hn:fs.length≤36):size2 fs≤432:=by
 have h1:=(size2_le_of h).1
 have h3:fs.length * (11+1)≤36 * 12:=Nat.mul_le_mul_right _ hn
 omega
theorem frame_len {d:Dev} {fs:List (List Int)} (hf:framesOk d fs=true) (j:Nat):(fs[j]?.getD []).length≤11:=by
 rcases Nat.lt_or_ge j fs.length with hj|hj
 ·have h1:=(frames_in hf hj).2
  have h2:=fwI_bd (framesOk_iff hf).1
  omega
 ·rw [List.getElem?_eq_none hj];simp

end Go.Proofs.YtbnfdhidgdfbeaaGreat

namespace Go.Proofs.YtbnfdhidgdfbeaaGreat
set_option maxRecDepth 100000
open Go.RowKit

theorem cells4 {w:World} {g:Nat} {v0 v1 v2 v3:Value} {t:TypeId} (h:w.heap[g]?=some (.cells #[v0,v1,v2,v3] t (0,0))):w.cell? ⟨g,0,none⟩=some v0∧w.cell? ⟨g,1,none⟩=some v1∧w.cell? ⟨g,2,none⟩=some v2∧w.cell? ⟨g,3,none⟩=some v3:=⟨cell_heap h rfl,cell_heap h rfl,cell_heap h rfl,cell_heap h rfl⟩
end Go.Proofs.YtbnfdhidgdfbeaaGreat
