/- Acts that come in: how they read; the laws' copy, count and comparison of an act. Marks in an act that the call owns. -/
import Derived.Test.YtbnfdhidgdfbeaaGreatNbs
import Derived.Test.YtbnfdhidgdfbeaaGreatObn
namespace Go.Proofs.YtbnfdhidgdfbeaaGreat
set_option maxRecDepth 100000
open Go.RowKit Go.ChangeShapes Go.WideShapes Go.ChangeAt

structure Ac where
 kind:Int
 A:Int
 B:Int
 C:Int
 reg:Reg
 words:List Int
abbrev acArr (x:Ac) (A:Option Addr) (n c:Nat):Array Value:=#[.int .i64 x.kind,.int .i64 x.A,.int .i64 x.B,.int .i64 x.C,.int .i64 x.reg.X0,.int .i64 x.reg.Y0,.int .i64 x.reg.X1,.int .i64 x.reg.Y1,.slice A n c]
theorem array9 {α:Type} {cs:Array α} (h:cs.size=9):∃c0 c1 c2 c3 c4 c5 c6 c7 c8,cs=#[c0,c1,c2,c3,c4,c5,c6,c7,c8]:=by
 obtain ⟨l⟩:=cs
 match l,h with
 | [c0,c1,c2,c3,c4,c5,c6,c7,c8],_=>exact ⟨c0,c1,c2,c3,c4,c5,c6,c7,c8,rfl⟩
theorem cells9 {w:World} {g:Nat} {v0 v1 v2 v3 v4 v5 v6 v7 v8:Value} {t:TypeId} (h:w.heap[g]?=some (.cells #[v0,v1,v2,v3,v4,v5,v6,v7,v8] t (0,0))):w.cell? ⟨g,0,none⟩=some v0∧w.cell? ⟨g,1,none⟩=some v1∧w.cell? ⟨g,2,none⟩=some v2∧w.cell? ⟨g,3,none⟩=some v3∧w.cell? ⟨g,4,none⟩=some v4∧w.cell? ⟨g,5,none⟩=some v5∧w.cell? ⟨g,6,none⟩=some v6∧w.cell? ⟨g,7,none⟩=some v7∧w.cell? ⟨g,8,none⟩=some v8 :=
 ⟨cell_heap h rfl,cell_heap h rfl,cell_heap h rfl,cell_heap h rfl,cell_heap h rfl,cell_heap h rfl,cell_heap h rfl,cell_heap h rfl,cell_heap h rfl⟩
theorem set9 {w:World} {g:Nat} {v0 v1 v2 v3 v4 v5 v6 v7 v8 u0 u1 u2 u3 u4 u5 u6 u7 u8:Value} {t:TypeId} (h:w.heap[g]?=some (.cells #[v0,v1,v2,v3,v4,v5,v6,v7,v8] t (0,0))):(((((((((w.setCell ⟨g,0,none⟩ u0).setCell ⟨g,1,none⟩ u1).setCell ⟨g,2,none⟩ u2).setCell ⟨g,3,none⟩ u3).setCell ⟨g,4,none⟩ u4).setCell ⟨g,5,none⟩ u5).setCell ⟨g,6,none⟩ u6).setCell ⟨g,7,none⟩ u7).setCell ⟨g,8,none⟩ u8).heap[g]?=some (.cells #[u0,u1,u2,u3,u4,u5,u6,u7,u8] t (0,0)):=by
 have h1:=heap_setAt (k:=0) (cs':=#[u0,v1,v2,v3,v4,v5,v6,v7,v8]) h u0 rfl
 have h2:=heap_setAt (k:=1) (cs':=#[u0,u1,v2,v3,v4,v5,v6,v7,v8]) h1 u1 rfl
 have h3:=heap_setAt (k:=2) (cs':=#[u0,u1,u2,v3,v4,v5,v6,v7,v8]) h2 u2 rfl
 have h4:=heap_setAt (k:=3) (cs':=#[u0,u1,u2,u3,v4,v5,v6,v7,v8]) h3 u3 rfl
 have h5:=heap_setAt (k:=4) (cs':=#[u0,u1,u2,u3,u4,v5,v6,v7,v8]) h4 u4 rfl
 have h6:=heap_setAt (k:=5) (cs':=#[u0,u1,u2,u3,u4,u5,v6,v7,v8]) h5 u5 rfl
 have h7:=heap_setAt (k:=6) (cs':=#[u0,u1,u2,u3,u4,u5,u6,v7,v8]) h6 u6 rfl
 have h8:=heap_setAt (k:=7) (cs':=#[u0,u1,u2,u3,u4,u5,u6,u7,v8]) h7 u7 rfl
 have h9:=heap_setAt (k:=8) (cs':=#[u0,u1,u2,u3,u4,u5,u6,u7,u8]) h8 u8 rfl
 exact h9
section
variable {H:Type} {enc:TypeId × Value→H} {W:World} {b0 base:Nat} {held:Bool}
theorem open_act {v:Value} {d:DataW H} {p:List MemPlace} (hv:Value.okWide Tryz.prog W .any b0 59 v) (h:DataW.Trod enc Tryz.prog W base (fun _=>true) held 59 v d p) :
  ∃(x:Ac) (A:Option Addr) (n c:Nat),v = .agg (acArr x A n c)∧Ints W A n x.words∧n≤maxLen:=by
 obtain ⟨cs,rfl,hsz⟩:=okWide_struct Tryz.underlying59 hv
 have hsz':cs.size=9:=hsz.trans (by kernel_rfl)
 obtain ⟨c0,c1,c2,c3,c4,c5,c6,c7,c8,rfl⟩:=array9 hsz'
 obtain ⟨fuel,hf⟩:=h
 obtain ⟨y0,y1,y2,y3,y4,y5,n,h0,h1,h2,h3,h4,h5⟩:=trod_struct6 Tryz.underlying59 hf
 have k2:Tryz.prog.cellsOf 27=1:=by kernel_rfl
 have k3:Tryz.prog.cellsOf 3=1:=by kernel_rfl
 have k4:Tryz.prog.cellsOf 55=4:=by kernel_rfl
 simp only [Value.cells,k2,k3,k4,List.drop,List.take] at h0 h1 h2 h3 h4 h5
 obtain ⟨a0,e0,_,w0⟩:=DataW.trod_int Tryz.underlying3 h0
 obtain ⟨a1,e1,_,w1⟩:=DataW.trod_int Tryz.underlying3 h1
 obtain ⟨a2,e2,_,w2⟩:=DataW.trod_int Tryz.underlying3 h2
 obtain ⟨a3,e3,_,w3⟩:=DataW.trod_int Tryz.underlying3 h3
 obtain ⟨rg,rfl,rfl,rfl,rfl⟩:=trod_reg h4
 obtain ⟨A5,n5,m5,xs5,rfl,r5,l5⟩:=trod_ints h5
 simp only [List.cons.injEq,and_true] at e0 e1 e2 e3
 subst e0 e1 e2 e3
 exact ⟨⟨a0,a1,a2,a3,rg,xs5⟩,A5,n5,m5,rfl,r5,l5⟩
end
set_option maxHeartbeats 1000000 in
theorem szAct_any (x:Ac) (A:Option Addr) (n c:Nat) (L:Int) (w:World) (h0:0≤L) (h1:L≤1048576) (m1:n≤9223372036854775807) :
  Calls Tryz.prog 31 #[.agg (acArr x A n c),.int .i64 L] w fun e w'=>∃y:Int,e = .returned (.int .i64 y)∧(y<0∨0≤y∧n≤1048576)∧Below w.heap.size w w':=by
 have HB:=Lib.hid (below_new (Below.refl w.heap.size w) (.cells (acArr x A n c) 59))
 go_enter Tryz.func31,Tryz.ntmps31
 go_wp2_with fail
 refine (szIntS_any A n c L _ (by omega) (by omega) (by omega)).mono ?_
 rintro e w' ⟨rfl,rfl⟩
 by_cases g1:(n:Int)≤L
 ·rw [leftOf_pos g1]
  have e1:decide (L - (n:Int)<0)=false:=by simp;omega
  go_wp2_with fail
  go_ret
  exact ⟨_,rfl,.inr ⟨by omega,by omega⟩,HB.out⟩
 ·rw [leftOf_neg g1]
  go_wp2_with fail
  go_ret
  exact ⟨_,rfl,.inl (by decide),HB.out⟩
set_option maxHeartbeats 1000000 in
theorem eqAct_same (x:Ac) (A B:Option Addr) (n m c e:Nat) (w:World) (hA:Ints w A n x.words) (hB:Ints w B m x.words) (hn:n≤1099511627776) :
  Calls Tryz.prog 37 #[.agg (acArr x A n c),.agg (acArr x B m e)] w fun e w'=>e = .returned (.bool true)∧Below w.heap.size w w':=by
 have HA:=Lib.hid hA
 have HB:=Lib.hid hB
 have hb0:Below w.heap.size w ((w.alloc (.cells (acArr x A n c) 66)).alloc (.cells (acArr x B m e) 66)):=below_new (below_new (Below.refl _ _) _) _
 clear hA hB
 go_enter Tryz.func37,Tryz.ntmps37
 go_wp2_with fail
 refine (eqRegion_same x.reg _).mono ?_
 rintro e w1 ⟨rfl,b1⟩
 obtain ⟨hcc,hff⟩:=bcell b1
 have B1:=Lib.hid (below_tr hb0 b1)
 clear b1 hb0
 go_wp2_with fail
 refine (eqIntS_same _ _ _ _ _ _ x.words _ (HA.out.below B1.out) (HB.out.below B1.out) hn).mono ?_
 rintro e w2 ⟨rfl,b2⟩
 have B2:=Lib.hid (below_tr B1.out b2)
 clear hcc hff b2
 go_wp2_with fail
 go_ret
 exact ⟨rfl,B2.out⟩
/-- An act's box g0, the result's block g1, and the block g of the act that the call makes. -/
def ThreeA (w:World) (g0 g1 g:Nat) (cs cs1 cs':Array Value):Prop:=w.heap[g0]?=some (.cells cs 59 (0,0))∧w.heap[g1]?=some (.cells cs1 66 (0,0))∧w.heap[g]?=some (.cells cs' 66 (0,0))
theorem ThreeA.tr {w w':World} {g0 g1 g:Nat} {cs cs1 cs':Array Value} (h:ThreeA w g0 g1 g cs cs1 cs') (hb:Below w.heap.size w w'):ThreeA w' g0 g1 g cs cs1 cs':=⟨heap_tr hb h.1,heap_tr hb h.2.1,heap_tr hb h.2.2⟩
theorem ThreeA.set {w:World} {g0 g1 g k:Nat} {cs cs1 cs' cs2:Array Value} (h:ThreeA w g0 g1 g cs cs1 cs') (hn:g0≠g) (hn1:g1≠g) (v:Value) (e:cs'.setIfInBounds k v=cs2):ThreeA (w.setCell ⟨g,k,none⟩ v) g0 g1 g cs cs1 cs2:=⟨heap_setFar h.1 hn v,heap_setFar h.2.1 hn1 v,heap_setAt h.2.2 v e⟩
set_option maxHeartbeats 4000000 in
theorem toAct_any (x:Ac) (A:Option Addr) (n cc:Nat) (w:World) (h:Ints w A n x.words) (zs:n≤16777216) :
  Calls Tryz.prog 34 #[.agg (acArr x A n cc)] w fun e w'=>∃B,e = .returned (.agg (acArr x B n n))∧Own w.heap.size w' B n n x.words∧Below w.heap.size w w':=by
 obtain ⟨k,a,b,c,r,ws⟩:=x
 have HI:=Lib.hid h
 clear h
 have hg:w.heap.size≠w.heap.size+1+1:=by omega
 have hg1:w.heap.size+1≠w.heap.size+1+1:=by omega
 go_enter Tryz.func34,Tryz.ntmps34
 go_wp2_with fail
 refine (toRegion_any r _).mono ?_
 rintro e w1 ⟨rfl,b1⟩
 have hs1:=b1.size
 simp only [World.size_alloc] at hs1
 have HB:=Lib.hid (below_tr (below_new (below_new (below_new (Below.refl w.heap.size w) _) _) _) b1)
 have HT:Hid (ThreeA w1 w.heap.size (w.heap.size+1) (w.heap.size+1+1) (acArr ⟨k,a,b,c,r,ws⟩ A n cc) #[.int .i64 0,.int .i64 0,.int .i64 0,.int .i64 0,.int .i64 0,.int .i64 0,.int .i64 0,.int .i64 0,.slice none 0 0] #[.int .i64 k,.int .i64 a,.int .i64 b,.int .i64 c,.int .i64 0,.int .i64 0,.int .i64 0,.int .i64 0,.slice none 0 0]) :=
  ⟨heap_tr b1 (heap_al _ (heap_al _ (heap_new _ _))),heap_tr b1 (heap_al _ (heap_newAt (by simp))),heap_tr b1 (heap_newAt (by simp))⟩
 obtain ⟨x0,x1,x2,x3,x4,x5,x6,x7,x8⟩:=cells9 HT.out.1
 obtain ⟨z0,z1,z2,z3,z4,z5,z6,z7,z8⟩:=cells9 HT.out.2.2
 obtain ⟨u0,u1,u2,u3,u4,u5,u6,u7,u8⟩:=cells9 HT.out.2.1
 have y0:=fun k=>frozen_heap HT.out.1 k
 have y1:=fun k=>frozen_heap HT.out.2.1 k
 have y2:=fun k=>frozen_heap HT.out.2.2 k
 clear b1
 go_wp2_with fail
 refine (toIntS_any A n cc ws _ (HI.out.below (by repeat (first|with_reducible exact HB.out|with_reducible refine Below.setCell ?_ (by simp only;omega) _|with_reducible refine below_new ?_ _|with_reducible exact Below.refl _ _))) zs).mono ?_
 rintro e w2 ⟨B2,rfl,o2,b2⟩
 have hs2:=b2.size
 simp only [World.size_setCell] at hs2
 replace HB:=Lib.hid (below_tr (a:=w) (by repeat (first|with_reducible exact HB.out|with_reducible refine Below.setCell ?_ (by simp only;omega) _|with_reducible refine below_new ?_ _|with_reducible exact Below.refl _ _)) b2)
 replace HT:Hid (ThreeA w2 w.heap.size (w.heap.size+1) (w.heap.size+1+1) (acArr ⟨k,a,b,c,r,ws⟩ A n cc) #[.int .i64 0,.int .i64 0,.int .i64 0,.int .i64 0,.int .i64 0,.int .i64 0,.int .i64 0,.int .i64 0,.slice none 0 0] #[.int .i64 k,.int .i64 a,.int .i64 b,.int .i64 c,.int .i64 r.X0,.int .i64 r.Y0,.int .i64 r.X1,.int .i64 r.Y1,.slice none 0 0]):=ThreeA.tr ((((HT.out.set hg hg1 (.int .i64 r.X0) rfl).set hg hg1 (.int .i64 r.Y0) rfl).set hg hg1 (.int .i64 r.X1) rfl).set hg hg1 (.int .i64 r.Y1) rfl) b2
 have lO:=o2.lies
 simp only [World.size_setCell] at lO o2
 have O2:=Lib.hid o2
 clear x0 x1 x2 x3 x4 x5 x6 x7 x8 z0 z1 z2 z3 z4 z5 z6 z7 z8 u0 u1 u2 u3 u4 u5 u6 u7 u8 y0 y1 y2
 obtain ⟨x0,x1,x2,x3,x4,x5,x6,x7,x8⟩:=cells9 HT.out.1
 obtain ⟨z0,z1,z2,z3,z4,z5,z6,z7,z8⟩:=cells9 HT.out.2.2
 obtain ⟨u0,u1,u2,u3,u4,u5,u6,u7,u8⟩:=cells9 HT.out.2.1
 have y0:=fun k=>frozen_heap HT.out.1 k
 have y1:=fun k=>frozen_heap HT.out.2.1 k
 have y2:=fun k=>frozen_heap HT.out.2.2 k
 clear b2 o2
 go_wp2_with fail
 generalize hWF:World.setCell _ _ _=WF
 have hb:WF.heap[w.heap.size+1]?=some (.cells (acArr ⟨k,a,b,c,r,ws⟩ B2 n n) 66 (0,0)):=by
  rw [←hWF]
  exact set9 (heap_setFar HT.out.2.1 hg1 _)
 have hB:Below w.heap.size w WF:=by rw [←hWF];repeat (first|with_reducible exact HB.out|with_reducible refine Below.setCell ?_ (by simp only;omega) _|with_reducible refine below_new ?_ _|with_reducible exact Below.refl _ _)
 have hC:Chg (w.heap.size+1) (w.heap.size+3) w2 WF:=by
  rw [←hWF]
  repeat (first|with_reducible exact Chg.refl _ _ _|with_reducible refine Chg.set ?_ (by omega) (by omega) _)
 clear hWF x0 x1 x2 x3 x4 x5 x6 x7 x8 z0 z1 z2 z3 z4 z5 z6 z7 z8 u0 u1 u2 u3 u4 u5 u6 u7 u8 y0 y1 y2
 refine bodyPost_ret (v := .agg (acArr ⟨k,a,b,c,r,ws⟩ B2 n n)) (results_cell1 Tryz.results34 rfl hb Tryz.underlying66 (by kernel_rfl)) rfl ⟨B2,rfl,?_,hB⟩
 exact (O2.out.chg hC lO (.inr (by omega))).more (by omega)
end Go.Proofs.YtbnfdhidgdfbeaaGreat

namespace Go.Proofs.YtbnfdhidgdfbeaaGreat
set_option maxRecDepth 100000
open Go.RowKit

set_option maxHeartbeats 1000000 in
theorem markAct_chg (base lo hi:Nat) (x:Ac) (A:Option Addr) (n c:Nat) (k0:Int) (w:World) (h:Own base w A n c x.words) (l:Lies A lo hi) (hk0:0≤k0) (hk1:k0≤1152921504606846976) (hn:n≤1099511627776) :
  Calls Tryz.prog 39 #[.agg (acArr x A n c),.int .i64 k0] w fun e w'=>e = .returned (.int .i64 (k0+n))∧Own base w' A n c (iota k0 n)∧Chg lo hi w w':=by
 have hb0:Below w.heap.size w (w.alloc (.cells (acArr x A n c) 66)):=below_new (Below.refl _ _) _
 have HC:=Lib.hid (show Chg lo hi w (w.alloc (.cells (acArr x A n c) 66)) from ⟨hb0.os,hb0.tape,hb0.output,hb0.size,fun i hi' _=>hb0.block i hi'⟩)
 have HO:=Lib.hid (h.below hb0)
 have HL:=Lib.hid l
 clear h l hb0
 go_enter Tryz.func39,Tryz.ntmps39
 go_wp2_with fail
 refine (markIntS_chg base lo hi A n c x.words k0 _ HO.out HL.out hk0 hk1 hn).mono ?_
 rintro e w1 ⟨rfl,o1,c1⟩
 have O1:=Lib.hid o1
 have C1:=Lib.hid (HC.out.trans c1)
 clear o1 c1
 go_wp2_with fail
 go_ret
 exact ⟨rfl,O1.out,C1.out⟩
end Go.Proofs.YtbnfdhidgdfbeaaGreat
