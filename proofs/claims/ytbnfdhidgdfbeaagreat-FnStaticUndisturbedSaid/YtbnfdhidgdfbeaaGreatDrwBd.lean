/- Drawing a place and a region, of the reference. BeginRegion of the reference (printed by mkop.py). Drawing a board, of the reference. DrawBoard of the reference. -/
import Derived.Deep.CutRange
import Derived.Deep.DeepCutAuto
import Derived.Test.YtbnfdhidgdfbeaaGreatBrd
import Derived.Test.YtbnfdhidgdfbeaaGreatDrwQ
import Derived.Test.YtbnfdhidgdfbeaaGreatDrwR
import Derived.Test.YtbnfdhidgdfbeaaGreatOps
import Derived.Test.YtbnfdhidgdfbeaaGreatRbPure
import Derived.Test.YtbnfdhidgdfbeaaGreatRq
import Derived.Test.YtbnfdhidgdfbeaaGreatSpS
import Derived.Test.YtbnfdhidgdfbeaaGreatWrS
namespace Go.Proofs.YtbnfdhidgdfbeaaGreat
set_option maxRecDepth 100000
open Go.RowKit

set_option maxHeartbeats 400000 in
theorem sclamp1_in (x:Int) (w:World) (h:1≤x∧x≤6) :
  Calls Tryz.prog 112 #[.int .i64 x,.int .i64 1,.int .i64 6] w fun e w'=>e = .returned (.int .i64 x)∧w=w':=by
 have h0:decide (x<1)=false:=by simp;omega
 have h1:decide (x>6)=false:=by simp;omega
 go_enter Tryz.func112,Tryz.ntmps112
 go_wp2_with fail
 go_ret
 exact ⟨rfl,rfl⟩
theorem place_cells {w:World} {a b c d f:Int} (j:Nat) (hj:j<5):∃y:Int,True∧(w.alloc (.cells #[.int .i64 a,.int .i64 b,.int .i64 c,.int .i64 d,.int .i64 f] 3)).cell? ⟨w.heap.size,j,none⟩=some (.int .i64 y):=by
 have h:j=0∨j=1∨j=2∨j=3∨j=4:=by omega
 rcases h with rfl|rfl|rfl|rfl|rfl
 ·exact ⟨_,trivial,cell_heap (heap_new _ _) rfl⟩
 ·exact ⟨_,trivial,cell_heap (heap_new _ _) rfl⟩
 ·exact ⟨_,trivial,cell_heap (heap_new _ _) rfl⟩
 ·exact ⟨_,trivial,cell_heap (heap_new _ _) rfl⟩
 ·exact ⟨_,trivial,cell_heap (heap_new _ _) rfl⟩
set_option maxHeartbeats 1000000 in
theorem l01Place_any (m:Nat) (g B:Nat) (A:Option Addr) (n c:Nat) (bs:List Int) (w:World) (h:Cur w g B A n c bs) (hn:n≤1099511627776) (hm:0<m∧m≤100) :
  Calls Tryz.prog 155 #[.pointer (some ⟨g,0,none⟩),.int .i64 m] w fun e w'=>∃x:Int,e = .returned (.int .i64 x)∧Cur w' g B A n c bs∧w.grownBy w' (some g):=by
 have hgw:g<w.heap.size:=h.lt
 have HC:=Lib.hid h
 clear h
 go_enter Tryz.func155,Tryz.ntmps155
 go_wp2_with fail
 refine (l01Once_any g B A n c bs 15 _ HC.out hn (by omega) (by omega)).mono ?_
 rintro e w1 ⟨b,rfl,k1,g1⟩
 have K1:=Lib.hid k1
 have G1:=Lib.hid g1
 have hs1:=g1.size
 clear k1 g1
 cases b with
 | false =>
  go_wp2_with fail
  refine (l01Below_any g B A n c bs m _ K1.out hn (by omega) (by omega)).mono ?_
  rintro e w2 ⟨x,rfl,hx0,hx1,k2,g2⟩
  have K2:=Lib.hid k2
  have G2:=Lib.hid g2
  clear k2 g2
  go_wp2_with fail
  go_ret
  exact ⟨_,rfl,K2.out,grownBy_trans G1.out G2.out⟩
 | true =>
  have a1:IntKind.i64.wrap ((m:Int)+1)=(m:Int)+1:=IntWalk.i64_in _ (by omega)
  have HP:=Lib.hid (fun j hj=>place_cells (w:=w1) (a:=-1) (b:=(m:Int)) (c:=(m:Int)+1) (d:=9223372036854775807) (f:=-9223372036854775808) j hj)
  have HB2:=Lib.hid (below_new (Below.refl w1.heap.size w1) (.cells #[.int .i64 (-1),.int .i64 (m:Int),.int .i64 ((m:Int)+1),.int .i64 9223372036854775807,.int .i64 (-9223372036854775808)] 3))
  go_wp2_with fail
  refine (l01PickInt_in (fun _=>True) g B A n c bs w1.heap.size 5 5 _ (K1.out.below HB2.out) hn (by omega) (by omega) (by omega) (by simp) HP.out).mono ?_
  rintro e w2 ⟨x,rfl,-,k2,g2⟩
  have K2:=Lib.hid k2
  have G2:=Lib.hid (grownBy_trans (grown_then G1.out HB2.out (by omega)) g2)
  clear k2 g2
  go_wp2_with fail
  go_ret
  exact ⟨_,rfl,K2.out,G2.out⟩
set_option maxHeartbeats 4000000 in
theorem l44Region_any (g B:Nat) (A:Option Addr) (n c:Nat) (bs:List Int) (d:Dev) (w:World) (h:Cur w g B A n c bs) (hn:n≤1099511627776) (hd:devOk d=true) :
  Calls Tryz.prog 106 #[.pointer (some ⟨g,0,none⟩),.agg #[.int .i64 d.W,.int .i64 d.H,.int .i64 d.T,.int .i64 d.R]] w fun e w'=>∃r:Reg,e = .returned (.agg #[.int .i64 r.X0,.int .i64 r.Y0,.int .i64 r.X1,.int .i64 r.Y1])∧Cur w' g B A n c bs∧w.grownBy w' (some g):=by
 have hgw:g<w.heap.size:=h.lt
 have HC:=Lib.hid h
 have hb:=devOk_bd hd
 have B0:=Lib.hid (below_new (below_new (Below.refl w.heap.size w) (.cells #[.int .i64 d.W,.int .i64 d.H,.int .i64 d.T,.int .i64 d.R] 25)) (.cells #[.int .i64 0,.int .i64 0,.int .i64 0,.int .i64 0] 29))
 have X0:=Lib.hid (heap_al (.cells #[.int .i64 0,.int .i64 0,.int .i64 0,.int .i64 0] 29) (heap_new w (.cells #[.int .i64 d.W,.int .i64 d.H,.int .i64 d.T,.int .i64 d.R] 25)))
 have Y0:Hid (((w.alloc (.cells #[.int .i64 d.W,.int .i64 d.H,.int .i64 d.T,.int .i64 d.R] 25)).alloc (.cells #[.int .i64 0,.int .i64 0,.int .i64 0,.int .i64 0] 29)).heap[w.heap.size+1]?=some (.cells #[.int .i64 0,.int .i64 0,.int .i64 0,.int .i64 0] 29 (0,0))):=heap_newAt (by simp)
 clear h hd
 go_enter Tryz.func106,Tryz.ntmps106
 go_wp2_with fail
 refine (sclamp1_in d.W _ (by omega)).mono ?_
 rintro e w1 ⟨rfl,rfl⟩
 go_wp2_with fail
 refine (l01Below_any g B A n c bs d.W _ (HC.out.below B0.out) hn (by omega) (by omega)).mono ?_
 rintro e w1 ⟨x,rfl,hx0,hx1,k1,g1⟩
 have hs1:=g1.size
 simp only [World.size_alloc] at hs1
 have X1:=Lib.hid ((grown_far g1 (heap_lt0 X0.out) (by omega)).trans X0.out)
 have Y1:=Lib.hid ((grown_far g1 (heap_lt0 Y0.out) (by omega)).trans Y0.out)
 have K1:=Lib.hid k1
 have G1:=Lib.hid (grownBy_trans (grownBy_of_below B0.out _) g1)
 clear k1 g1
 obtain ⟨z0,z1,z2,z3⟩:=cell4 X1.out
 go_wp2_with fail
 refine (sclamp1_in d.H _ (by omega)).mono ?_
 rintro e w2 ⟨rfl,rfl⟩
 go_wp2_with fail
 refine (l01Below_any g B A n c bs d.H _ K1.out hn (by omega) (by omega)).mono ?_
 rintro e w2 ⟨y,rfl,hy0,hy1,k2,g2⟩
 have hs2:=g2.size
 have Y2:=Lib.hid ((grown_far g2 (heap_lt0 Y1.out) (by omega)).trans Y1.out)
 have K2:=Lib.hid k2
 have G2:=Lib.hid (grownBy_trans G1.out g2)
 clear k2 g2 z0 z1 z2 z3
 go_wp2_with fail
 refine (l01Below_any g B A n c bs 2 _ K2.out hn (by omega) (by omega)).mono ?_
 rintro e w3 ⟨x1,rfl,hp0,hp1,k3,g3⟩
 have hs3:=g3.size
 have Y3:=Lib.hid ((grown_far g3 (heap_lt0 Y2.out) (by omega)).trans Y2.out)
 have K3:=Lib.hid k3
 have G3:=Lib.hid (grownBy_trans G2.out g3)
 clear k3 g3
 go_wp2_with fail
 refine (l01Below_any g B A n c bs 2 _ K3.out hn (by omega) (by omega)).mono ?_
 rintro e w4 ⟨y1,rfl,hq0,hq1,k4,g4⟩
 have hs4:=g4.size
 have Y4:=Lib.hid ((grown_far g4 (heap_lt0 Y3.out) (by omega)).trans Y3.out)
 have a1:IntKind.i64.wrap (x+x1)=x+x1:=IntWalk.i64_in _ (by omega)
 have a2:IntKind.i64.wrap (y+y1)=y+y1:=IntWalk.i64_in _ (by omega)
 have K4:=Lib.hid k4
 have G4:=Lib.hid (grownBy_trans G3.out g4)
 clear k4 g4
 go_wp2_with fail
 generalize hr1:x+x1=rx at *
 generalize hr2:y+y1=ry at *
 clear a1 a2 hr1 hr2
 have hb5:Below w4.heap.size w4 (w4.alloc (.cells #[.int .i64 x,.int .i64 y,.int .i64 rx,.int .i64 ry] 29)):=below_new (Below.refl _ _) _
 have hsz5:(w4.alloc (.cells #[.int .i64 x,.int .i64 y,.int .i64 rx,.int .i64 ry] 29)).heap.size=w4.heap.size+1:=by simp
 have Z5:=Lib.hid (heap_new w4 (.cells #[.int .i64 x,.int .i64 y,.int .i64 rx,.int .i64 ry] 29))
 have Y5:=Lib.hid (heap_tr hb5 Y4.out)
 have K5:=Lib.hid (K4.out.below hb5)
 have G5:=Lib.hid (grown_then G4.out hb5 (by omega))
 clear hb5
 generalize hW5:(w4.alloc (.cells #[.int .i64 x,.int .i64 y,.int .i64 rx,.int .i64 ry] 29))=w5 at *
 generalize hgr:w4.heap.size=gr at *
 clear hW5 hgr
 refine (l01Once_any g B A n c bs 14 _ K5.out hn (by omega) (by omega)).mono ?_
 rintro e w6 ⟨q,rfl,k6,g6⟩
 have hs6:=g6.size
 have Z6:=Lib.hid ((grown_far g6 (heap_lt0 Z5.out) (by omega)).trans Z5.out)
 have Y6:=Lib.hid ((grown_far g6 (heap_lt0 Y5.out) (by omega)).trans Y5.out)
 have K6:=Lib.hid k6
 have G6:=Lib.hid (grownBy_trans G5.out g6)
 clear k6 g6
 cases q with
 | false =>
  obtain ⟨p0,p1,p2,p3⟩:=cell4 Z6.out
  obtain ⟨y0,y1,y2,y3⟩:=cell4 Y6.out
  have f0:=fun k=>frozen_heap Y6.out k
  have f00:=f0 0
  have f01:=f0 1
  have f02:=f0 2
  have f03:=f0 3
  have l1:=heap_lt0 Y6.out
  clear f0
  go_wp2_with fail
  have hE:=set4c (u0 := .int .i64 x) (u1 := .int .i64 y) (u2 := .int .i64 rx) (u3 := .int .i64 ry) Y6.out
  have hw1:w.heap.size≤w.heap.size+1:=Nat.le_succ _
  have hg1:g<w.heap.size+1:=by omega
  refine bodyPost_ret (v := .agg #[.int .i64 x,.int .i64 y,.int .i64 rx,.int .i64 ry]) (results_cell1 Tryz.results106 rfl hE Tryz.underlying29 (by kernel_rfl)) rfl ⟨⟨x,y,rx,ry⟩,rfl,?_,?_⟩
  ·exact (((K6.out.setNew hg1 _ _).setNew hg1 _ _).setNew hg1 _ _).setNew hg1 _ _
  ·exact grownBy_setNew (grownBy_setNew (grownBy_setNew (grownBy_setNew G6.out hw1 _ _) hw1 _ _) hw1 _ _) hw1 _ _
 | true =>
  go_wp2_with fail
  refine (l01Place_any 4 g B A n c bs _ K6.out hn (by omega)).mono ?_
  rintro e w7 ⟨xp,rfl,k7,g7⟩
  have hs7:=g7.size
  replace Z6:=Lib.hid ((grown_far g7 (heap_lt0 Z6.out) (by omega)).trans Z6.out)
  replace Y6:=Lib.hid ((grown_far g7 (heap_lt0 Y6.out) (by omega)).trans Y6.out)
  replace K6:=Lib.hid k7
  replace G6:=Lib.hid (grownBy_trans G6.out g7)
  clear k7 g7
  have ZA:=Lib.hid (heap_setAt (k:=0) (cs':=#[.int .i64 xp,.int .i64 y,.int .i64 rx,.int .i64 ry]) Z6.out (.int .i64 xp) rfl)
  have YA:=Lib.hid (heap_setFar (p:=⟨gr,0,none⟩) Y6.out (by show w.heap.size+1≠gr;omega) (.int .i64 xp))
  have KA:=Lib.hid (K6.out.setNew (b:=gr) (by omega) 0 (.int .i64 xp))
  have GA:=Lib.hid (grownBy_setNew G6.out (b:=gr) (by omega) 0 (.int .i64 xp))
  have hsA:(w7.setCell ⟨gr,0,none⟩ (.int .i64 xp)).heap.size=w7.heap.size:=by simp [World.setCell]
  have p0:=cell_heap (k:=0) Z6.out rfl
  have q0:=frozen_heap Z6.out 0
  have l0:=heap_lt0 Z6.out
  go_upto_region 6 with fail
  clear p0 q0 l0 Z6 Y6 K6 G6
  generalize hW8:(w7.setCell ⟨gr,0,none⟩ (.int .i64 xp))=w8 at *
  clear hW8
  have Z6:=ZA
  have Y6:=YA
  have K6:=KA
  have G6:=GA
  clear ZA YA KA GA
  obtain ⟨p0,p1,p2,p3⟩:=cell4 Z6.out
  obtain ⟨y0,y1,y2,y3⟩:=cell4 Y6.out
  have f0:=fun k=>frozen_heap Y6.out k
  have f00:=f0 0
  have f01:=f0 1
  have f02:=f0 2
  have f03:=f0 3
  have l1:=heap_lt0 Y6.out
  clear f0
  go_wp2_with fail
  have hE:=set4c (u0 := .int .i64 xp) (u1 := .int .i64 y) (u2 := .int .i64 rx) (u3 := .int .i64 ry) Y6.out
  have hw1:w.heap.size≤w.heap.size+1:=Nat.le_succ _
  have hg1:g<w.heap.size+1:=by omega
  refine bodyPost_ret (v := .agg #[.int .i64 xp,.int .i64 y,.int .i64 rx,.int .i64 ry]) (results_cell1 Tryz.results106 rfl hE Tryz.underlying29 (by kernel_rfl)) rfl ⟨⟨xp,y,rx,ry⟩,rfl,?_,?_⟩
  ·exact (((K6.out.setNew hg1 _ _).setNew hg1 _ _).setNew hg1 _ _).setNew hg1 _ _
  ·exact grownBy_setNew (grownBy_setNew (grownBy_setNew (grownBy_setNew G6.out hw1 _ _) hw1 _ _) hw1 _ _) hw1 _ _
set_option maxHeartbeats 4000000 in
theorem l44Words_any (g B:Nat) (A:Option Addr) (n c:Nat) (bs:List Int) (d:Dev) (w:World) (h:Cur w g B A n c bs) (hn:n≤1099511627776) (hd:devOk d=true) :
  Calls Tryz.prog 111 #[.pointer (some ⟨g,0,none⟩),.agg #[.int .i64 d.W,.int .i64 d.H,.int .i64 d.T,.int .i64 d.R]] w fun e w'=>∃(ws:List Int) (A':Option Addr) (n' c':Nat),e = .returned (.slice A' n' c')∧n'≤11∧Own w.heap.size w' A' n' c' ws∧Cur w' g B A n c bs∧w.grownBy w' (some g):=by
 have hgw:g<w.heap.size:=h.lt
 have HC:=Lib.hid h
 have HD:=Lib.hid hd
 have hfb:=fwI_bd hd
 have HFW:=Lib.hid (fun w=>sframeWords_any d w hd)
 obtain ⟨M,hM⟩:∃M:Nat,fwI d=(M:Int):=⟨(fwI d).toNat,by omega⟩
 rw [hM] at hfb HFW
 have B0:=Lib.hid (below_new (Below.refl w.heap.size w) (.cells #[.int .i64 d.W,.int .i64 d.H,.int .i64 d.T,.int .i64 d.R] 25))
 have X0:=Lib.hid (heap_al (.cells #[] 3) (heap_new w (.cells #[.int .i64 d.W,.int .i64 d.H,.int .i64 d.T,.int .i64 d.R] 25)))
 have B1:=Lib.hid (below_new B0.out (.cells #[] 3))
 have N1:=Lib.hid (Own.newAt (w:=(w.alloc (.cells #[.int .i64 d.W,.int .i64 d.H,.int .i64 d.T,.int .i64 d.R] 25))) (base:=w.heap.size+1) (g:=w.heap.size+1) (by simp) (by simp))
 clear h hd hM
 go_enter Tryz.func111,Tryz.ntmps111
 go_wp2_with fail
 go_loopw [5,6] (fun v i wr=>∃(k:Nat) (ps:List Int) (A':Option Addr) (c':Nat),k≤M∧i = .int .i64 k∧v = .slice A' k c'∧ps.length=k∧Own (w.heap.size+1) wr A' k c' ps∧Cur wr g B A n c bs∧w.grownBy wr (some g)∧wr.heap[w.heap.size]?=some (.cells #[.int .i64 d.W,.int .i64 d.H,.int .i64 d.T,.int .i64 d.R] 25 (0,0))∧w.heap.size+1<wr.heap.size) (fun _ i _=>M - (intOf i).toNat)
 case atStart=>exact ⟨0,[],_,0,Nat.zero_le _,rfl,rfl,rfl,N1.out,HC.out.below B1.out,grownBy_of_below B1.out _,X0.out,by simp⟩
 case round =>
  obtain ⟨k,ps,A',c',hk,rfl,rfl,hpl,ho,hcu,hgw',hx,hsz⟩:=hrel
  have HO:=Lib.hid ho
  have KC:=Lib.hid hcu
  have HG:=Lib.hid hgw'
  have HX:=Lib.hid hx
  have HPL:=Lib.hid hpl
  clear ho hcu hgw' hx hpl
  obtain ⟨z0,z1,z2,z3⟩:=cell4 HX.out
  by_cases hlt:k<M
  ·have hdk:decide ((k:Int)<(M:Int))=true:=by simp;omega
   go_wp2_with fail
   refine (HFW.out _).mono ?_
   rintro e w4 ⟨rfl,b4⟩
   have hs4:=b4.size
   replace KC:=Lib.hid (KC.out.below b4)
   replace HO:=Lib.hid (HO.out.below b4)
   replace HG:=Lib.hid (grown_then HG.out b4 (by omega))
   replace HX:=Lib.hid (heap_tr b4 HX.out)
   clear b4 z0 z1 z2 z3
   go_wp2_with fail
   refine (l01Below_any g B A n c bs 65536 _ KC.out hn (by omega) (by omega)).mono ?_
   rintro e w5 ⟨x,rfl,hx,hx',k5,g5⟩
   replace HO:=Lib.hid (HO.out.grownC g5 (by omega))
   replace HG:=Lib.hid (grownBy_trans HG.out g5)
   replace HX:=Lib.hid ((grown_far g5 (heap_lt0 HX.out) (by omega)).trans HX.out)
   replace KC:=Lib.hid k5
   have hs5:=g5.size
   clear k5 g5
   go_wp2_with (at_builtin;refine wpList_push rfl _ _ rfl (w.heap.size+1) A' k c' ps _ rfl HO.out rfl (by omega) (by omega) (Below.refl (w.heap.size+1) _) ?_;rintro g4 cap w4 o4 b4 gr4 hat4)
   go_roundw
   case rel=>exact ⟨k+1,ps++[x],_,_,by omega,by go_num,rfl,by rw [List.length_append,HPL.out];rfl,o4,KC.out.keepB b4 (by omega),grown_then HG.out b4 (by omega),(b4.block _ (by omega)).trans HX.out,by have:=b4.size;omega⟩
   case measure=>simp [intOf];omega
  ·have hkm:k=M:=by omega
   subst hkm
   have hdk:decide ((k:Int)<(k:Int))=false:=by simp
   clear hlt hk
   go_wp2_with fail
   refine (HFW.out _).mono ?_
   rintro e w4 ⟨rfl,b4⟩
   replace KC:=Lib.hid (KC.out.below b4)
   replace HO:=Lib.hid (HO.out.below b4)
   replace HG:=Lib.hid (grown_then HG.out b4 (by omega))
   clear b4 z0 z1 z2 z3
   go_wp2_with fail
   go_ret
   exact ⟨ps,_,_,_,rfl,by omega,HO.out.more (by omega),KC.out,HG.out⟩
set_option maxHeartbeats 4000000 in
theorem l44Tile_any (g B:Nat) (A:Option Addr) (n c:Nat) (bs:List Int) (b:Bd) (s:Sl3) (w:World) (h:Cur w g B A n c bs) (hn:n≤1099511627776) :
  Calls Tryz.prog 110 #[.pointer (some ⟨g,0,none⟩),.agg (bdArr b s)] w fun e w'=>∃t:Int,e = .returned (.int .i64 t)∧Cur w' g B A n c bs∧w.grownBy w' (some g):=by
 have hgw:g<w.heap.size:=h.lt
 have HC:=Lib.hid h
 have B0:=Lib.hid (below_new (Below.refl w.heap.size w) (.cells (bdArr b s) 31))
 clear h
 obtain ⟨d,fs,st,ph,r,sv⟩:=b
 obtain ⟨A1,n1,c1,A2,n2,c2,A3,n3,c3⟩:=s
 go_enter Tryz.func110,Tryz.ntmps110
 go_wp2_with fail
 refine (sregionTiles_any d r _).mono ?_
 rintro e w1 ⟨A4,m4,c4,rfl,o4,b4⟩
 have hs4:=b4.size
 simp only [World.size_alloc] at hs4
 have hl4:=o4.ints.1
 have hm4:m4≤36:=by have:=regTiles_le d r;omega
 have B1:=Lib.hid (below_tr B0.out b4)
 have K1:=Lib.hid (HC.out.below B1.out)
 have O1:=Lib.hid (o4.more (base':=w.heap.size+1) (by simp))
 clear b4 o4 hl4
 by_cases h0:m4=0
 ·subst h0
  go_wp2_with fail
  refine (l01Place_any 9 g B A n c bs _ K1.out hn (by omega)).mono ?_
  rintro e w2 ⟨x,rfl,k2,g2⟩
  have K2:=Lib.hid k2
  have G2:=Lib.hid (grownBy_trans (grownBy_of_below B1.out _) g2)
  clear k2 g2
  go_wp2_with fail
  go_ret
  exact ⟨_,rfl,K2.out,G2.out⟩
 ·have hm0:((m4:Int)==0)=false:=by simp;omega
  go_wp2_with fail
  refine (l01Once_any g B A n c bs 6 _ K1.out hn (by omega) (by omega)).mono ?_
  rintro e w2 ⟨q,rfl,k2,g2⟩
  have hs2:=g2.size
  have K2:=Lib.hid k2
  have O2:=Lib.hid (O1.out.grownC g2 (by omega))
  have G2:=Lib.hid (grownBy_trans (grownBy_of_below B1.out _) g2)
  clear k2 g2
  cases q with
  | true =>
   go_wp2_with fail
   refine (l01Place_any 9 g B A n c bs _ K2.out hn (by omega)).mono ?_
   rintro e w3 ⟨x,rfl,k3,g3⟩
   have K3:=Lib.hid k3
   have G3:=Lib.hid (grownBy_trans G2.out g3)
   clear k3 g3
   go_wp2_with fail
   go_ret
   exact ⟨_,rfl,K3.out,G3.out⟩
  | false =>
   go_wp2_with fail
   refine (l01Below_any g B A n c bs m4 _ K2.out hn (by omega) (by omega)).mono ?_
   rintro e w3 ⟨x,rfl,hx0,hx1,k3,g3⟩
   have O3:=Lib.hid (O2.out.grownC g3 (by omega))
   have K3:=Lib.hid k3
   have G3:=Lib.hid (grownBy_trans G2.out g3)
   clear k3 g3
   obtain ⟨ba,oa,rfl,hbl,hc⟩:=O3.out.ints.2 (by omega)
   obtain ⟨k,rfl⟩:∃k:Nat,x=k:=⟨x.toNat,by omega⟩
   have hck:=hc k (by omega)
   clear hc
   go_wp2_with fail
   go_ret
   exact ⟨_,rfl,K3.out,G3.out⟩
end Go.Proofs.YtbnfdhidgdfbeaaGreat

namespace Go.Proofs.YtbnfdhidgdfbeaaGreat
set_option maxRecDepth 100000
open Go.RowKit
set_option maxHeartbeats 4000000 in
theorem sbeginRegion_any (b:Bd) (s:Sl3) (r:Reg) (w:World) (hA:BoardRd w b s) (hz1:size2 b.frames≤1099511627776) (h2:s.n2≤16777216) (h3:size2 b.saved≤1099511627776) :
  Calls Tryz.prog 81 #[.agg (bdArr b s),.agg #[.int .i64 r.X0,.int .i64 r.Y0,.int .i64 r.X1,.int .i64 r.Y1]] w fun e w'=>∃R,e = .returned (.tuple #[.agg (bdArr (beB b r) R),.bool (beO b r)])∧BoardFp w.heap.size w'.heap.size w' (beB b r) R∧Below w.heap.size w w':=by
 have hz:BdOk b:=⟨hz1,by have:=hA.state.1;omega,h3⟩
 have HI:=Lib.hid hA
 have HB:=Lib.hid (below_new (below_new (below_new (Below.refl w.heap.size w) (.cells (bdArr b s) 31)) (.cells #[.int .i64 r.X0,.int .i64 r.Y0,.int .i64 r.X1,.int .i64 r.Y1] 29)) (.cells z12 31))
 have HX:Hid (BkAt (((w.alloc (.cells (bdArr b s) 31)).alloc (.cells #[.int .i64 r.X0,.int .i64 r.Y0,.int .i64 r.X1,.int .i64 r.Y1] 29)).alloc (.cells z12 31)) w.heap.size b s):=heap_al _ (heap_al _ (heap_new _ _))
 have HZ:Hid (BkAt (((w.alloc (.cells (bdArr b s) 31)).alloc (.cells #[.int .i64 r.X0,.int .i64 r.Y0,.int .i64 r.X1,.int .i64 r.Y1] 29)).alloc (.cells z12 31)) (w.heap.size+2) zBd zSl):=heap_newAt (by simp)
 have hsz:w.heap.size+3≤(((w.alloc (.cells (bdArr b s) 31)).alloc (.cells #[.int .i64 r.X0,.int .i64 r.Y0,.int .i64 r.X1,.int .i64 r.Y1] 29)).alloc (.cells z12 31)).heap.size:=by simp
 have HRg:Hid ((((w.alloc (.cells (bdArr b s) 31)).alloc (.cells #[.int .i64 r.X0,.int .i64 r.Y0,.int .i64 r.X1,.int .i64 r.Y1] 29)).alloc (.cells z12 31)).heap[w.heap.size+1]?=some (.cells #[.int .i64 r.X0,.int .i64 r.Y0,.int .i64 r.X1,.int .i64 r.Y1] 29 (0,0))):=heap_al _ (heap_newAt (by simp))
 clear hA
 go_enter Tryz.func81,Tryz.ntmps81
 go_wp2_with fail
 generalize hW:(((w.alloc (.cells (bdArr b s) 31)).alloc (.cells #[.int .i64 r.X0,.int .i64 r.Y0,.int .i64 r.X1,.int .i64 r.Y1] 29)).alloc (.cells z12 31))=W at *
 clear hW
 refine (sl44Copy_any b s _ (HI.out.below HB.out) hz).mono ?_
 rintro e w1 ⟨R,rfl,a1,b1⟩
 have HF:=Lib.hid a1.fp
 have hs0:=b1.size
 replace HB:=Lib.hid (below_tr HB.out b1)
 replace HX:=Lib.hid (HX.out.tr b1)
 replace HZ:=Lib.hid (HZ.out.tr b1)
 replace HRg:=Lib.hid (heap_tr b1 HRg.out)
 clear a1 b1
 have b2:Below w1.heap.size w1 (w1.alloc (.cells (bdArr b R) 31)):=below_new (Below.refl _ _) _
 have HO:Hid (BkAt (w1.alloc (.cells (bdArr b R) 31)) w1.heap.size b R):=heap_new _ _
 have hs2:w1.heap.size<(w1.alloc (.cells (bdArr b R) 31)).heap.size:=by simp
 replace HF:=Lib.hid (HF.out.below b2)
 replace HB:=Lib.hid (below_tr HB.out b2)
 replace HX:=Lib.hid (HX.out.tr b2)
 replace HZ:=Lib.hid (HZ.out.tr b2)
 replace HRg:=Lib.hid (heap_tr b2 HRg.out)
 obtain ⟨x0,x1,x2,x3,x4,x5,x6,x7,x8,x9,x10,x11⟩:=HX.out.cells
 go_wp2_with fail
 generalize hW2:(w1.alloc (.cells (bdArr b R) 31))=W2 at *
 clear x0 x1 x2 x3 x4 x5 x6 x7 x8 x9 x10 x11
 clear hW2 b2
 refine (sboardOk_any b s _ (HI.out.below HB.out) hz1 h2 h3).mono ?_
 rintro e w3 ⟨rfl,b3⟩
 have hs2:=b3.size
 replace HB:=Lib.hid (below_tr HB.out b3)
 replace HX:=Lib.hid (HX.out.tr b3)
 replace HZ:=Lib.hid (HZ.out.tr b3)
 replace HO:=Lib.hid (HO.out.tr b3)
 replace HF:=Lib.hid (HF.out.below b3)
 replace HRg:=Lib.hid (heap_tr b3 HRg.out)
 clear b3
 cases hb:bkF b with
 | false =>
  have hO:beO b r=false:=by unfold beO;rw [hb];rfl
  clear hb
  have HU:Hid (beB b r=b):=by show _=_;unfold beB;rw [hO];rfl
  have HV:Hid (beO b r=false):=hO
  clear hO
  obtain ⟨z0,z1,z2,z3,z4,z5,z6,z7,z8,z9,z10,z11⟩:=HZ.out.cells
  have yz:=HZ.out.soft
  obtain ⟨o0,o1,o2,o3,o4,o5,o6,o7,o8,o9,o10,o11⟩:=HO.out.cells
  have yo:=HO.out.soft
  go_wp2_with fail
  clear z0 z1 z2 z3 z4 z5 z6 z7 z8 z9 z10 z11 yz o0 o1 o2 o3 o4 o5 o6 o7 o8 o9 o10 o11 yo
  generalize hWF:World.setCell _ _ _=WF
  obtain ⟨hbk,hszF,hBF,hCF⟩:=fin12 (W:=w3) (b':=b) (s':=R) hWF (HZ.out) (HB.out) (by omega)
  have hR:BoardFp w.heap.size WF.heap.size WF b R:=((HF.out).chg hCF (.inr (by omega))).widen (by omega) (by omega)
  clear hWF
  refine bodyPost_ret (v := .tuple #[.agg (bdArr b R),.bool false]) (results_cell2 Tryz.results81 rfl hbk Tryz.underlying31 (by kernel_rfl)) rfl ⟨R,by rw [HU.out,HV.out],by rw [HU.out];exact hR,hBF⟩
 | true =>
  by_cases hp:b.phase=0
  ·have HP:=Lib.hid hp
   have hp0:(b.phase != 0)=false:=by rw [hp];rfl
   clear hp
   cases hq:rqF b.dev b.frames r with
   | false =>
    have HQ:Hid (∀w',Rows2 w' s.A1 s.n1 b.frames→Calls Tryz.prog 133 #[.agg #[.int .i64 b.dev.W,.int .i64 b.dev.H,.int .i64 b.dev.T,.int .i64 b.dev.R],.slice s.A1 s.n1 s.c1,.agg #[.int .i64 r.X0,.int .i64 r.Y0,.int .i64 r.X1,.int .i64 r.Y1]] w' fun e w''=>e = .returned (.bool false)∧Below w'.heap.size w' w''):=fun w' hw=>by have h:=sregionQuiet_any b.dev s.A1 s.n1 s.c1 b.frames r w' hw hz1;rwa [hq] at h
    have hO:beO b r=false:=by unfold beO;rw [hb,hq,HP.out];rfl
    clear hb hq
    have HO1:=Lib.hid hO
    clear hO
    obtain ⟨x0,x1,x2,x3,x4,x5,x6,x7,x8,x9,x10,x11⟩:=HX.out.cells
    obtain ⟨r0,r1,r2,r3⟩:=cells4 HRg.out
    go_wp2_with fail
    clear x0 x1 x2 x3 x4 x5 x6 x7 x8 x9 x10 x11
    clear r0 r1 r2 r3
    refine (HQ.out _ (HI.out.frames.below HB.out)).mono ?_
    rintro e w4 ⟨rfl,b4⟩
    have hs3:=b4.size
    replace HB:=Lib.hid (below_tr HB.out b4)
    replace HX:=Lib.hid (HX.out.tr b4)
    replace HZ:=Lib.hid (HZ.out.tr b4)
    replace HO:=Lib.hid (HO.out.tr b4)
    replace HF:=Lib.hid (HF.out.below b4)
    replace HRg:=Lib.hid (heap_tr b4 HRg.out)
    clear b4
    have hO:=HO1.out
    have HU:Hid (beB b r=b):=by show _=_;unfold beB;rw [hO];rfl
    have HV:Hid (beO b r=false):=hO
    clear hO
    obtain ⟨z0,z1,z2,z3,z4,z5,z6,z7,z8,z9,z10,z11⟩:=HZ.out.cells
    have yz:=HZ.out.soft
    obtain ⟨o0,o1,o2,o3,o4,o5,o6,o7,o8,o9,o10,o11⟩:=HO.out.cells
    have yo:=HO.out.soft
    go_wp2_with fail
    clear z0 z1 z2 z3 z4 z5 z6 z7 z8 z9 z10 z11 yz o0 o1 o2 o3 o4 o5 o6 o7 o8 o9 o10 o11 yo
    generalize hWF:World.setCell _ _ _=WF
    obtain ⟨hbk,hszF,hBF,hCF⟩:=fin12 (W:=w4) (b':=b) (s':=R) hWF (HZ.out) (HB.out) (by omega)
    have hR:BoardFp w.heap.size WF.heap.size WF b R:=((HF.out).chg hCF (.inr (by omega))).widen (by omega) (by omega)
    clear hWF
    refine bodyPost_ret (v := .tuple #[.agg (bdArr b R),.bool false]) (results_cell2 Tryz.results81 rfl hbk Tryz.underlying31 (by kernel_rfl)) rfl ⟨R,by rw [HU.out,HV.out],by rw [HU.out];exact hR,hBF⟩
   | true =>
    have HQ:Hid (∀w',Rows2 w' s.A1 s.n1 b.frames→Calls Tryz.prog 133 #[.agg #[.int .i64 b.dev.W,.int .i64 b.dev.H,.int .i64 b.dev.T,.int .i64 b.dev.R],.slice s.A1 s.n1 s.c1,.agg #[.int .i64 r.X0,.int .i64 r.Y0,.int .i64 r.X1,.int .i64 r.Y1]] w' fun e w''=>e = .returned (.bool true)∧Below w'.heap.size w' w''):=fun w' hw=>by have h:=sregionQuiet_any b.dev s.A1 s.n1 s.c1 b.frames r w' hw hz1;rwa [hq] at h
    have hO:beO b r=true:=by unfold beO;rw [hb,hq,HP.out];rfl
    clear hb hq
    have HO1:=Lib.hid hO
    clear hO
    obtain ⟨x0,x1,x2,x3,x4,x5,x6,x7,x8,x9,x10,x11⟩:=HX.out.cells
    obtain ⟨r0,r1,r2,r3⟩:=cells4 HRg.out
    go_wp2_with fail
    clear x0 x1 x2 x3 x4 x5 x6 x7 x8 x9 x10 x11
    clear r0 r1 r2 r3
    refine (HQ.out _ (HI.out.frames.below HB.out)).mono ?_
    rintro e w4 ⟨rfl,b4⟩
    have hs3:=b4.size
    replace HB:=Lib.hid (below_tr HB.out b4)
    replace HX:=Lib.hid (HX.out.tr b4)
    replace HZ:=Lib.hid (HZ.out.tr b4)
    replace HRg:=Lib.hid (heap_tr b4 HRg.out)
    replace HO:=Lib.hid (HO.out.tr b4)
    replace HF:=Lib.hid (HF.out.below b4)
    clear b4
    have HU:Hid (beB b r=⟨b.dev,b.frames,b.state,1,r,b.frames⟩):=by show _=_;unfold beB;rw [HO1.out];rfl
    obtain ⟨x0,x1,x2,x3,x4,x5,x6,x7,x8,x9,x10,x11⟩:=HX.out.cells
    obtain ⟨o0,o1,o2,o3,o4,o5,o6,o7,o8,o9,o10,o11⟩:=HO.out.cells
    have yo:=HO.out.soft
    obtain ⟨r0,r1,r2,r3⟩:=cells4 HRg.out
    go_wp2_with fail
    clear x0 x1 x2 x3 x4 x5 x6 x7 x8 x9 x10 x11 o0 o1 o2 o3 o4 o5 o6 o7 o8 o9 o10 o11 yo
    clear r0 r1 r2 r3
    have hC5:Chg w1.heap.size (w1.heap.size+1) w4 (((((w4.setCell ⟨w1.heap.size,6,none⟩ (.int .i64 1)).setCell ⟨w1.heap.size,7,none⟩ (.int .i64 r.X0)).setCell ⟨w1.heap.size,8,none⟩ (.int .i64 r.Y0)).setCell ⟨w1.heap.size,9,none⟩ (.int .i64 r.X1)).setCell ⟨w1.heap.size,10,none⟩ (.int .i64 r.Y1)):=(Chg.set (Chg.set (Chg.set (Chg.set (Chg.set (Chg.refl _ _ _) (Nat.le_refl _) (Nat.lt_succ_self _) _) (Nat.le_refl _) (Nat.lt_succ_self _) _) (Nat.le_refl _) (Nat.lt_succ_self _) _) (Nat.le_refl _) (Nat.lt_succ_self _) _) (Nat.le_refl _) (Nat.lt_succ_self _) _)
    have ho5:BkAt (((((w4.setCell ⟨w1.heap.size,6,none⟩ (.int .i64 1)).setCell ⟨w1.heap.size,7,none⟩ (.int .i64 r.X0)).setCell ⟨w1.heap.size,8,none⟩ (.int .i64 r.Y0)).setCell ⟨w1.heap.size,9,none⟩ (.int .i64 r.X1)).setCell ⟨w1.heap.size,10,none⟩ (.int .i64 r.Y1)) w1.heap.size { b with phase:=1,reg:=r } R:=(heap_setAt (k:=10) (heap_setAt (k:=9) (heap_setAt (k:=8) (heap_setAt (k:=7) (heap_setAt (k:=6) HO.out _ rfl) _ rfl) _ rfl) _ rfl) _ rfl)
    generalize hW5:(((((w4.setCell ⟨w1.heap.size,6,none⟩ (.int .i64 1)).setCell ⟨w1.heap.size,7,none⟩ (.int .i64 r.X0)).setCell ⟨w1.heap.size,8,none⟩ (.int .i64 r.Y0)).setCell ⟨w1.heap.size,9,none⟩ (.int .i64 r.X1)).setCell ⟨w1.heap.size,10,none⟩ (.int .i64 r.Y1))=W5 at *
    clear hW5
    have hs5:=hC5.size
    replace HF:=Lib.hid (HF.out.chg hC5 (.inl (Nat.le_refl _)))
    replace HB:=Lib.hid (below_chg HB.out hC5 (by omega))
    replace HX:=Lib.hid (HX.out.chg hC5 (.inl (by omega)))
    replace HZ:=Lib.hid (HZ.out.chg hC5 (.inl (by omega)))
    replace HO:=Lib.hid ho5
    clear hC5 ho5 HRg
    refine (l19Copy_any s.A1 s.n1 s.c1 b.frames _ (HI.out.frames.below HB.out) hz1).mono ?_
    rintro e w6 ⟨A6,c6,rfl,o6,b6⟩
    have O6:=Lib.hid o6
    have hs4:=b6.size
    replace HB:=Lib.hid (below_tr HB.out b6)
    replace HX:=Lib.hid (HX.out.tr b6)
    replace HZ:=Lib.hid (HZ.out.tr b6)
    replace HO:=Lib.hid (HO.out.tr b6)
    replace HF:=Lib.hid (HF.out.below b6)
    clear b6 o6
    obtain ⟨z0,z1,z2,z3,z4,z5,z6,z7,z8,z9,z10,z11⟩:=HZ.out.cells
    have yz:=HZ.out.soft
    obtain ⟨o0,o1,o2,o3,o4,o5,o6,o7,o8,o9,o10,o11⟩:=HO.out.cells
    have yo:=HO.out.soft
    go_wp2_with fail
    clear z0 z1 z2 z3 z4 z5 z6 z7 z8 z9 z10 z11 yz o0 o1 o2 o3 o4 o5 o6 o7 o8 o9 o10 o11 yo
    have hC6:Chg w1.heap.size (w1.heap.size+1) w6 (w6.setCell ⟨w1.heap.size,11,none⟩ (.slice A6 s.n1 c6)):=(Chg.set (Chg.refl _ _ _) (Nat.le_refl _) (Nat.lt_succ_self _) _)
    have hsW:=hC6.size
    have hF6:BoardFp W.heap.size w6.heap.size (w6.setCell ⟨w1.heap.size,11,none⟩ (.slice A6 s.n1 c6)) ⟨b.dev,b.frames,b.state,1,r,b.frames⟩ ⟨R.A1,R.n1,R.c1,R.A2,R.n2,R.c2,A6,s.n1,c6⟩:=(HF.out.chg hC6 (.inl (Nat.le_refl _))).setSaved (b':=⟨b.dev,b.frames,b.state,1,r,b.frames⟩) (O6.out.chg hC6 (.inr (by omega))) (by omega) (by omega) (by omega) rfl rfl
    generalize hWF:World.setCell _ _ _=WF
    obtain ⟨hbk,hszF,hBF,hCF⟩:=fin12 (W:=(w6.setCell ⟨w1.heap.size,11,none⟩ (.slice A6 s.n1 c6))) (b':=⟨b.dev,b.frames,b.state,1,r,b.frames⟩) (s':=⟨R.A1,R.n1,R.c1,R.A2,R.n2,R.c2,A6,s.n1,c6⟩) hWF (HZ.out.chg hC6 (.inl (by omega))) (HB.out.setCell (p:=⟨w1.heap.size,11,none⟩) (by simp only;omega) _) (by omega)
    have hR:BoardFp w.heap.size WF.heap.size WF ⟨b.dev,b.frames,b.state,1,r,b.frames⟩ ⟨R.A1,R.n1,R.c1,R.A2,R.n2,R.c2,A6,s.n1,c6⟩:=((hF6).chg hCF (.inr (by omega))).widen (by omega) (by omega)
    clear hWF
    refine bodyPost_ret (v := .tuple #[.agg (bdArr ⟨b.dev,b.frames,b.state,1,r,b.frames⟩ ⟨R.A1,R.n1,R.c1,R.A2,R.n2,R.c2,A6,s.n1,c6⟩),.bool true]) (results_cell2 Tryz.results81 rfl hbk Tryz.underlying31 (by kernel_rfl)) rfl ⟨⟨R.A1,R.n1,R.c1,R.A2,R.n2,R.c2,A6,s.n1,c6⟩,by rw [HU.out,HO1.out],by rw [HU.out];exact hR,hBF⟩
  ·have hp0:(b.phase != 0)=true:=by simp [hp]
   have hO:beO b r=false:=by unfold beO;rw [hb,decide_eq_false hp];rfl
   clear hb hp
   obtain ⟨x0,x1,x2,x3,x4,x5,x6,x7,x8,x9,x10,x11⟩:=HX.out.cells
   have hO2:=hO
   clear hO
   have HOO:=Lib.hid hO2
   clear hO2
   have hO:=HOO.out
   have HU:Hid (beB b r=b):=by show _=_;unfold beB;rw [hO];rfl
   have HV:Hid (beO b r=false):=hO
   clear hO
   obtain ⟨z0,z1,z2,z3,z4,z5,z6,z7,z8,z9,z10,z11⟩:=HZ.out.cells
   have yz:=HZ.out.soft
   obtain ⟨o0,o1,o2,o3,o4,o5,o6,o7,o8,o9,o10,o11⟩:=HO.out.cells
   have yo:=HO.out.soft
   go_wp2_with fail
   clear z0 z1 z2 z3 z4 z5 z6 z7 z8 z9 z10 z11 yz o0 o1 o2 o3 o4 o5 o6 o7 o8 o9 o10 o11 yo x0 x1 x2 x3 x4 x5 x6 x7 x8 x9 x10 x11
   generalize hWF:World.setCell _ _ _=WF
   obtain ⟨hbk,hszF,hBF,hCF⟩:=fin12 (W:=w3) (b':=b) (s':=R) hWF (HZ.out) (HB.out) (by omega)
   have hR:BoardFp w.heap.size WF.heap.size WF b R:=((HF.out).chg hCF (.inr (by omega))).widen (by omega) (by omega)
   clear hWF
   refine bodyPost_ret (v := .tuple #[.agg (bdArr b R),.bool false]) (results_cell2 Tryz.results81 rfl hbk Tryz.underlying31 (by kernel_rfl)) rfl ⟨R,by rw [HU.out,HV.out],by rw [HU.out];exact hR,hBF⟩
end Go.Proofs.YtbnfdhidgdfbeaaGreat

namespace Go.Proofs.YtbnfdhidgdfbeaaGreat
set_option maxRecDepth 100000
open Go.RowKit

theorem bk_small {b:Bd} (h:bkF b=true):BdB 432 b:=by
 obtain ⟨hf,hs,-,h1,h2⟩:=bk_parts h
 have hn:=frames_n hf
 refine ⟨rows_le (fun j _=>frame_len hf j) hn.2,?_,?_⟩
 ·have e1:=stOk_len hs
  have e2:=hn.1
  have e3:=hn.2
  omega
 ·rcases Decidable.em (b.phase=1) with hp|hp
  ·have hs:=(rq_parts (h1 hp)).1
   exact rows_le (fun j _=>frame_len hs j) (frames_n hs).2
  ·rw [(h2 hp).2]
   simp [size2,sizeTo]
theorem BoardFp.toO {g0 lo hi:Nat} {w:World} {b:Bd} {s:Sl3} (h:BoardFp lo hi w b s) (hg:g0<lo∨hi≤g0):BoardFpN g0 lo hi w b s:=by
 obtain ⟨S1,S2,S3,q⟩:=h
 exact ⟨S1,S2,S3,q,fun x=>by have:=q.i1 _ x;omega,fun x=>by have:=q.i2 _ x;omega,fun x=>by have:=q.i3 _ x;omega⟩
theorem BoardFpN.keepO {g0 lo hi:Nat} {w w':World} {b:Bd} {s:Sl3} (h:BoardFpN g0 lo hi w b s) (hk:∀i,i<w.heap.size→i≠g0→lo≤i→w'.heap[i]?=w.heap[i]?):BoardFpN g0 lo hi w' b s:=by
 obtain ⟨S1,S2,S3,q,n1,n2,n3⟩:=h
 refine ⟨S1,S2,S3,q.keep fun i hi hS=>?_,n1,n2,n3⟩
 rcases hS with x|x|x
 ·exact hk i hi (by rintro rfl;exact n1 x) (q.i1 _ x).1
 ·exact hk i hi (by rintro rfl;exact n2 x) (q.i2 _ x).1
 ·exact hk i hi (by rintro rfl;exact n3 x) (q.i3 _ x).1
theorem BoardFpN.wide {g0 lo hi lo' hi':Nat} {w:World} {b:Bd} {s:Sl3} (h:BoardFpN g0 lo hi w b s) (e1:lo'≤lo) (e2:hi≤hi'):BoardFpN g0 lo' hi' w b s:=by
 obtain ⟨S1,S2,S3,k,n⟩:=h
 have j1:=k.i1
 have j2:=k.i2
 have j3:=k.i3
 exact ⟨S1,S2,S3,⟨k.frames.widen e1 e2,k.f1,k.state.more e1,k.f2,k.saved.widen e1 e2,k.f3,k.d12,k.d13,k.d23,fun i h=>by have:=j1 i h;omega,fun i h=>by have:=j2 i h;omega,fun i h=>by have:=j3 i h;omega⟩,n⟩
/-- The world while a board is drawn: the cursor g, the boxes of the device, the region and the board b. -/
structure BSt (w wr:World) (g B:Nat) (A:Option Addr) (n c:Nat) (bs:List Int) (d:Dev) (r:Reg) (gd gr gb:Nat) (b:Bd) (s:Sl3):Prop where
 cur:Cur wr g B A n c bs
 grown:w.grownBy wr (some g)
 res:BkAt wr w.heap.size zBd zSl
 dev:wr.heap[gd]?=some (.cells #[.int .i64 d.W,.int .i64 d.H,.int .i64 d.T,.int .i64 d.R] 25 (0,0))
 reg:wr.heap[gr]?=some (.cells #[.int .i64 r.X0,.int .i64 r.Y0,.int .i64 r.X1,.int .i64 r.Y1] 29 (0,0))
 at_:BkAt wr gb b s
 fp:BoardFpN gb (w.heap.size+1) wr.heap.size wr b s
 good:Good b
 dv:b.dev=d
 o1:g<w.heap.size
 o2:w.heap.size<gd
 o3:gd<gr
 o4:gr<gb
section
variable {w wr w':World} {g B:Nat} {A:Option Addr} {n c:Nat} {bs:List Int} {d:Dev} {r:Reg} {gd gr gb:Nat} {b b':Bd} {s R:Sl3}
theorem BSt.below (h:BSt w wr g B A n c bs d r gd gr gb b s) (hb:Below wr.heap.size wr w'):BSt w w' g B A n c bs d r gd gr gb b s :=
 ⟨h.cur.below hb,grown_then h.grown hb h.grown.size,h.res.tr hb,heap_tr hb h.dev,heap_tr hb h.reg,h.at_.tr hb,(h.fp.below hb).wide (Nat.le_refl _) hb.size,h.good,h.dv,h.o1,h.o2,h.o3,h.o4⟩
theorem BSt.drewd (h:BSt w wr g B A n c bs d r gd gr gb b s):BSt w wr.drew g B A n c bs d r gd gr gb b s:=h.below (Below.refl _ _).drew
theorem BSt.go (h:BSt w wr g B A n c bs d r gd gr gb b s) (hg:wr.grownBy w' (some g)) (hc:Cur w' g B A n c bs):BSt w w' g B A n c bs d r gd gr gb b s:=by
 have o1:=h.o1
 have o2:=h.o2
 have o3:=h.o3
 have o4:=h.o4
 exact ⟨hc,grownBy_trans h.grown hg,(grown_far hg (heap_lt0 h.res) (by omega)).trans h.res,(grown_far hg (heap_lt0 h.dev) (by omega)).trans h.dev,(grown_far hg (heap_lt0 h.reg) (by omega)).trans h.reg,(grown_far hg (heap_lt0 h.at_) (by omega)).trans h.at_,
  (h.fp.keepO fun k hk _ h1=>grown_far hg hk (by omega)).wide (Nat.le_refl _) hg.size,h.good,h.dv,o1,o2,o3,o4⟩
theorem BSt.put {lo hi:Nat} {WE:World} (h:BSt w wr g B A n c bs d r gd gr gb b s) (hf:BoardFp lo hi wr b' R) (hlo:gb+1≤lo) (hhi:hi≤wr.heap.size) (hg:Good b') (hd:b'.dev=d) (hs:SameH (put12 wr gb b' R) WE):BSt w WE g B A n c bs d r gd gr gb b' R:=by
 have o1:=h.o1
 have o2:=h.o2
 have o3:=h.o3
 have o4:=h.o4
 generalize hWF:put12 wr gb b' R=WF at hs
 obtain ⟨e1,e2,e3,e4⟩:=fin12 hWF h.at_ (Below.refl gb wr) (Nat.le_refl _)
 have e5:=hs.below e3
 have hk:∀k,k<gb→WE.heap[k]?=wr.heap[k]?:=fun k hk=>e5.block k hk
 have hsz:WF.heap.size≤WE.heap.size:=by rw [hs.heap];exact Nat.le_refl _
 refine ⟨h.cur.keepB e5 (by omega),grown_then h.grown e5 (by omega),(hk _ (by omega)).trans h.res,(hk _ (by omega)).trans h.dev,(hk _ (by omega)).trans h.reg,by show WE.heap[gb]?=_;rw [hs.heap];exact e1,?_,hg,hd,o1,o2,o3,o4⟩
 exact ((hs.fp (hf.chg e4 (.inr hlo))).toO (.inl hlo)).wide (by omega) (by omega)
theorem BSt.putE {lo hi:Nat} {WE:World} (h:BSt w wr g B A n c bs d r gd gr gb b s) (hf:BoardFp lo hi wr b' R) (hlo:gb+1≤lo) (hhi:hi≤wr.heap.size) (hg:Good b') (hd:b'.dev=d) (e:put12 wr gb b' R=WE):BSt w WE g B A n c bs d r gd gr gb b' R :=
 h.put hf hlo hhi hg hd (by rw [e];exact ⟨rfl,rfl,rfl,rfl⟩)
theorem BSt.small (h:BSt w wr g B A n c bs d r gd gr gb b s):size2 b.frames≤1099511627776∧s.n2≤16777216∧size2 b.saved≤1099511627776:=by
 obtain ⟨h1,h2,h3⟩:=bk_small h.good.bk
 have h4:=h.fp.fp.rd.state.1
 omega
end
def QCut (w w5:World) (d:Dev) (v:Value) (w':World):Prop:=∃(ts:List Tile) (A:Option Addr) (c:Nat) (wx:World),v = .slice A (tiles d) c∧ts.length=tiles d∧Own2 (w.heap.size+1) wx.heap.size wx A (tiles d) c (buildF d ts)∧Below w5.heap.size w5 wx∧wx=w'
theorem small_frames {d:Dev} {fs:List (List Int)} (h:framesOk d fs=true):size2 fs≤1099511627776:=Nat.le_trans (rows_le (fun j _=>frame_len h j) (frames_n h).2) (by omega)
set_option maxHeartbeats 8000000 in
theorem l44Board_any (g B:Nat) (A:Option Addr) (n c:Nat) (bs:List Int) (w:World) (h:Cur w g B A n c bs) (hn:n≤1099511627776) :
  Calls Tryz.prog 42 #[.pointer (some ⟨g,0,none⟩)] w fun e w'=>∃(b:Bd) (s:Sl3),e = .returned (.agg (bdArr b s))∧Good b∧BoardFp w.heap.size w'.heap.size w' b s∧Cur w' g B A n c bs∧w.grownBy w' (some g):=by
 have hgw:g<w.heap.size:=h.lt
 have HC:=Lib.hid h
 have B0:=Lib.hid (below_new (Below.refl w.heap.size w) (.cells z12 31))
 have HZ:Hid (BkAt (w.alloc (.cells z12 31)) w.heap.size zBd zSl):=heap_new _ _
 clear h
 go_enter Tryz.func42,Tryz.ntmps42
 go_wp2_with fail
 refine (l40Frames_any g B A n c bs _ (HC.out.below B0.out) hn).mono ?_
 rintro e w1 ⟨d,ts,A1,c1,rfl,hd,htl,hto,o1,k1,g1⟩
 have hs1:=g1.size
 simp only [World.size_alloc] at hs1
 have HD:=Lib.hid hd
 have hb1:Below w1.heap.size w1 (w1.alloc (.cells #[.int .i64 d.W,.int .i64 d.H,.int .i64 d.T,.int .i64 d.R] 25)):=below_new (Below.refl _ _) _
 have HF1:=Lib.hid ((o1.below hb1).widen (show w.heap.size+1≤_ by simp) (Nat.le_refl _))
 have HTL:=Lib.hid htl
 have KC:=Lib.hid (k1.below hb1)
 have HG:=Lib.hid (grown_then (grownBy_trans (grownBy_of_below B0.out _) g1) hb1 (by omega))
 replace HZ:=Lib.hid (heap_tr hb1 ((grown_far g1 (heap_lt0 HZ.out) (by omega)).trans HZ.out))
 have HX:=Lib.hid (heap_new w1 (.cells #[.int .i64 d.W,.int .i64 d.H,.int .i64 d.T,.int .i64 d.R] 25))
 have hs2:(w1.alloc (.cells #[.int .i64 d.W,.int .i64 d.H,.int .i64 d.T,.int .i64 d.R] 25)).heap.size=w1.heap.size+1:=by simp
 clear hb1 g1 k1 o1 hd htl hto
 obtain ⟨d0,d1,d2,d3⟩:=cell4 HX.out
 go_wp2_with fail
 generalize hW2:(w1.alloc (.cells #[.int .i64 d.W,.int .i64 d.H,.int .i64 d.T,.int .i64 d.R] 25))=w2 at *
 generalize hgd:w1.heap.size=gd at *
 clear hW2 hgd d0 d1 d2 d3
 refine (l44Region_any g B A n c bs d _ KC.out hn HD.out).mono ?_
 rintro e w3 ⟨r,rfl,k3,g3⟩
 have hs3:=g3.size
 have hb3:Below w3.heap.size w3 (w3.alloc (.cells #[.int .i64 r.X0,.int .i64 r.Y0,.int .i64 r.X1,.int .i64 r.Y1] 29)):=below_new (Below.refl _ _) _
 replace KC:=Lib.hid (k3.below hb3)
 replace HG:=Lib.hid (grown_then (grownBy_trans HG.out g3) hb3 (by omega))
 replace HZ:=Lib.hid (heap_tr hb3 ((grown_far g3 (heap_lt0 HZ.out) (by omega)).trans HZ.out))
 replace HX:=Lib.hid (heap_tr hb3 ((grown_far g3 (heap_lt0 HX.out) (by omega)).trans HX.out))
 replace HF1:=Lib.hid ((HF1.out.grownC g3 (by omega)).below hb3)
 have HY:=Lib.hid (heap_new w3 (.cells #[.int .i64 r.X0,.int .i64 r.Y0,.int .i64 r.X1,.int .i64 r.Y1] 29))
 have hs4:(w3.alloc (.cells #[.int .i64 r.X0,.int .i64 r.Y0,.int .i64 r.X1,.int .i64 r.Y1] 29)).heap.size=w3.heap.size+1:=by simp
 clear hb3 g3 k3
 obtain ⟨d0,d1,d2,d3⟩:=cell4 HX.out
 obtain ⟨r0,r1,r2,r3⟩:=cell4 HY.out
 go_wp2_with fail
 generalize hW4:(w3.alloc (.cells #[.int .i64 r.X0,.int .i64 r.Y0,.int .i64 r.X1,.int .i64 r.Y1] 29))=w4 at *
 generalize hgr:w3.heap.size=gr at *
 clear hW4 hgr d0 d1 d2 d3 r0 r1 r2 r3
 refine (sregionOk_any d r _).mono ?_
 rintro e w5 ⟨rfl,b5⟩
 have hs5:=b5.size
 replace KC:=Lib.hid (KC.out.below b5)
 replace HG:=Lib.hid (grown_then HG.out b5 (by omega))
 replace HZ:=Lib.hid (heap_tr b5 HZ.out)
 replace HX:=Lib.hid (heap_tr b5 HX.out)
 replace HY:=Lib.hid (heap_tr b5 HY.out)
 replace HF1:=Lib.hid (HF1.out.below b5)
 clear b5
 have HOK1:Hid (framesOk d (buildF d ts)=true):=buildF_ok HD.out HTL.out
 have hgg:g<gd:=by omega
 have hdr:gd<gr:=by omega
 have hs6:gr<w5.heap.size:=by omega
 have hwgd:w.heap.size<gd:=by omega
 obtain ⟨d0,d1,d2,d3⟩:=cell4 HX.out
 obtain ⟨r0,r1,r2,r3⟩:=cell4 HY.out
 go_upto_if 20 with fail
 go_cut [4] (fun v w'=>QCut w w5 d v w')
 case first =>
  cases hr:regOk d r with
  | false =>
   go_wp2_with fail
   go_meet
   exact ⟨ts,A1,c1,_,rfl,HTL.out,HF1.out.widen (Nat.le_refl _) (by omega),Below.refl _ _,rfl⟩
  | true =>
   go_wp2_with fail
   refine (l44Quiet_any d A1 (tiles d) c1 (buildF d ts) r _ HF1.out.rd (small_frames HOK1.out) HOK1.out).mono ?_
   rintro e w6 ⟨ts',A',c',rfl,htl',o',b6⟩
   have HQ:Hid (QCut w w5 d (.slice A' (tiles d) c') w6):=⟨ts',A',c',w6,rfl,htl',o'.widen (by omega) (Nat.le_refl _),b6,rfl⟩
   clear o' b6
   go_wp2_with fail
   go_meet
   exact HQ.out
 obtain ⟨ts2,A2,c2,w6,rfl,htl2,o2,b6,rfl⟩:=hcut
 have hs7:=b6.size
 have HOK2:Hid (framesOk d (buildF d ts2)=true):=buildF_ok HD.out htl2
 have HCR:=Lib.hid (fun j=>codeRow_build (d:=d) (ts:=ts2) j)
 generalize buildF d ts2=fs at *
 replace KC:=Lib.hid (KC.out.below b6)
 replace HG:=Lib.hid (grown_then HG.out b6 (by omega))
 replace HZ:=Lib.hid (heap_tr b6 HZ.out)
 replace HX:=Lib.hid (heap_tr b6 HX.out)
 replace HY:=Lib.hid (heap_tr b6 HY.out)
 have HF:=Lib.hid o2
 clear b6 o2 htl2 HF1 HOK1 HTL d0 d1 d2 d3 r0 r1 r2 r3
 obtain ⟨d0,d1,d2,d3⟩:=cell4 HX.out
 go_wp2_with fail
 refine (snewBoard_any d A2 (tiles d) c2 fs _ HF.out.rd (small_frames HOK2.out)).mono ?_
 rintro e w8 ⟨s,rfl,a8,b8⟩
 have HGD:=Lib.hid (good_new HOK2.out HCR.out)
 have HDV:Hid ((newB d fs).dev=d):=by show _=_;rw [newB_good HOK2.out]
 have HF8:=Lib.hid a8.fp
 generalize newB d fs=b at *
 have hs8:=b8.size
 have hb9:Below w8.heap.size w8 (w8.alloc (.cells (bdArr b s) 31)):=below_new (Below.refl _ _) _
 have b9:=below_tr b8 hb9
 have HS:Hid (BSt w (w8.alloc (.cells (bdArr b s) 31)) g B A n c bs d r gd gr w8.heap.size b s):=⟨KC.out.below b9,grown_then HG.out b9 (by omega),heap_tr b9 HZ.out,heap_tr b9 HX.out,heap_tr b9 HY.out,heap_new w8 _,((HF8.out.below hb9).toO (.inr (Nat.le_refl _))).wide (by omega) (by have:=hb9.size;omega),HGD.out,HDV.out,hgw,hwgd,hdr,by omega⟩
 clear KC HG HZ HX HY HF HF8 HGD HDV hb9 b8 b9 a8 HOK2 HCR d0 d1 d2 d3 HC B0
 go_wp2_with fail
 generalize hW9:(w8.alloc (.cells (bdArr b s) 31))=w9 at *
 generalize hgb:w8.heap.size=gb at *
 clear hW9 hgb hs1 hs2 hs3 hs4 hs5 hs6 hs7 hs8
 refine (l01Below_any g B A n c bs 3 _ HS.out.cur hn (by omega) (by omega)).mono ?_
 rintro e w10 ⟨x,rfl,hx0,hx1,k10,g10⟩
 replace HS:=Lib.hid (HS.out.go g10 k10)
 clear k10 g10
 obtain ⟨k,rfl⟩:∃k:Nat,x=k:=⟨x.toNat,by omega⟩
 go_wp2_with fail
 go_loopw [8] (fun i wr=>∃(k:Nat) (b:Bd) (s:Sl3),k≤3∧i = .int .i64 k∧BSt w wr g B A n c bs d r gd gr gb b s) (fun i _=>(intOf i).toNat)
 case atStart=>exact ⟨k,b,s,by omega,rfl,HS.out⟩
 case round =>
  obtain ⟨k,b,s,hk,rfl,hs⟩:=hrel
  have HS:=Lib.hid hs
  clear hs
  by_cases hk0:k=0
  ·have hdk:decide ((k:Int)>0)=false:=by simp;omega
   have hdn:decide (0<k)=false:=by simp;omega
   clear hk0
   go_wp2_with fail
   refine (l01Once_any g B A n c bs 2 _ HS.out.cur hn (by omega) (by omega)).mono ?_
   rintro e w11 ⟨q,rfl,k11,g11⟩
   replace HS:=Lib.hid (HS.out.go g11 k11)
   clear k11 g11
   cases q with
   | false =>
    obtain ⟨o0,o1,o2,o3,o4,o5,o6,o7,o8,o9,o10,o11⟩:=HS.out.at_.cells
    obtain ⟨p0,p1,p2,p3,p4,p5,p6,p7,p8,p9,p10,p11⟩:=HS.out.res.cells
    have yp:=HS.out.res.soft
    have lp:=heap_lt0 HS.out.res
    go_wp2_with fail
    clear o0 o1 o2 o3 o4 o5 o6 o7 o8 o9 o10 o11 p0 p1 p2 p3 p4 p5 p6 p7 p8 p9 p10 p11 yp lp
    generalize hWE:World.setCell _ _ _=WE
    obtain ⟨e1,e2,e3,e4⟩:=fin12 hWE HS.out.res (Below.refl w.heap.size _) (Nat.le_refl _)
    refine bodyPost_ret (v := .agg (bdArr b s)) (results_cell1 Tryz.results42 rfl e1 Tryz.underlying31 (by kernel_rfl)) rfl ⟨b,s,rfl,HS.out.good,?_,HS.out.cur.keepB e3 hgw,grown_then HS.out.grown e3 (Nat.le_refl _)⟩
    exact (HS.out.fp.fp.chg e4 (.inr (Nat.le_refl _))).widen (Nat.le_succ _) e2
   | true =>
    obtain ⟨z1,z2,z3⟩:=HS.out.small
    obtain ⟨o0,o1,o2,o3,o4,o5,o6,o7,o8,o9,o10,o11⟩:=HS.out.at_.cells
    obtain ⟨d0,d1,d2,d3⟩:=cell4 HS.out.reg
    have yo:=HS.out.at_.soft
    have lb:=heap_lt0 HS.out.at_
    go_wp2_with fail
    refine (sbeginRegion_any b s r _ HS.out.fp.fp.rd z1 z2 z3).mono ?_
    rintro e w12 ⟨R,rfl,f12,b12⟩
    have lb4:=lb
    have HFp:=Lib.hid f12
    replace HS:=Lib.hid (HS.out.below b12)
    clear f12 b12
    clear o0 o1 o2 o3 o4 o5 o6 o7 o8 o9 o10 o11 d0 d1 d2 d3 yo lb;obtain ⟨o0,o1,o2,o3,o4,o5,o6,o7,o8,o9,o10,o11⟩:=HS.out.at_.cells;obtain ⟨d0,d1,d2,d3⟩:=cell4 HS.out.dev;have yo:=HS.out.at_.soft;have lb:=heap_lt0 HS.out.at_
    go_wp2_with fail
    generalize hWE:World.setCell _ _ _=WE
    replace HS:=Lib.hid (HS.out.putE HFp.out lb4 (Nat.le_refl _) (good_be HS.out.good r) ((be_dev b r).trans HS.out.dv) hWE)
    clear hWE HFp
    generalize beB b r=b at *
    clear o0 o1 o2 o3 o4 o5 o6 o7 o8 o9 o10 o11 d0 d1 d2 d3 yo lb lb4 z1 z2 z3
    refine (l01Below_any g B A n c bs 3 _ HS.out.cur hn (by omega) (by omega)).mono ?_
    rintro e w13 ⟨x,rfl,hx0,hx1,k13,g13⟩
    replace HS:=Lib.hid (HS.out.go g13 k13)
    clear k13 g13
    obtain ⟨k,rfl⟩:∃k:Nat,x=k:=⟨x.toNat,by omega⟩
    go_wp2_with fail
    go_loopw [9] (fun i wr=>∃(k:Nat) (b:Bd) (s:Sl3),k≤3∧i = .int .i64 k∧BSt w wr g B A n c bs d r gd gr gb b s) (fun i _=>(intOf i).toNat)
    case atStart=>exact ⟨k,b,R,by omega,rfl,HS.out⟩
    case round =>
     obtain ⟨k,b,s,hk,rfl,hs⟩:=hrel
     have HS:=Lib.hid hs
     clear hs
     by_cases hk0:k=0
     ·have hdk:decide ((k:Int)>0)=false:=by simp;omega
      have hdn:decide (0<k)=false:=by simp;omega
      clear hk0
      obtain ⟨o0,o1,o2,o3,o4,o5,o6,o7,o8,o9,o10,o11⟩:=HS.out.at_.cells
      obtain ⟨p0,p1,p2,p3,p4,p5,p6,p7,p8,p9,p10,p11⟩:=HS.out.res.cells
      have yp:=HS.out.res.soft
      have lp:=heap_lt0 HS.out.res
      go_wp2_with fail
      clear o0 o1 o2 o3 o4 o5 o6 o7 o8 o9 o10 o11 p0 p1 p2 p3 p4 p5 p6 p7 p8 p9 p10 p11 yp lp
      generalize hWE:World.setCell _ _ _=WE
      obtain ⟨e1,e2,e3,e4⟩:=fin12 hWE HS.out.res (Below.refl w.heap.size _) (Nat.le_refl _)
      refine bodyPost_ret (v := .agg (bdArr b s)) (results_cell1 Tryz.results42 rfl e1 Tryz.underlying31 (by kernel_rfl)) rfl ⟨b,s,rfl,HS.out.good,?_,HS.out.cur.keepB e3 hgw,grown_then HS.out.grown e3 (Nat.le_refl _)⟩
      exact (HS.out.fp.fp.chg e4 (.inr (Nat.le_refl _))).widen (Nat.le_succ _) e2
     ·have hdk:decide ((k:Int)>0)=true:=by simp;omega
      obtain ⟨k',hk'⟩:∃j:Nat,k=j+1:=⟨k - 1,by omega⟩
      subst hk'
      have a8:IntKind.i64.wrap (((k'+1:Nat):Int) - 1)=(k':Int):=(IntWalk.i64_in _ (by omega)).trans (by omega)
      clear hk0
      obtain ⟨z1,z2,z3⟩:=HS.out.small
      obtain ⟨o0,o1,o2,o3,o4,o5,o6,o7,o8,o9,o10,o11⟩:=HS.out.at_.cells
      obtain ⟨d0,d1,d2,d3⟩:=cell4 HS.out.dev
      have yo:=HS.out.at_.soft
      have lb:=heap_lt0 HS.out.at_
      have HWD:Hid True:=Lib.hid trivial
      go_wp2_with fail
      go_region_with ((first
       | (go_at_call 110;(first|(with_reducible refine (l44Tile_any g B A n c bs b s _ HS.out.cur hn).mono ?_)|(with_reducible refine (l44Tile_any g B A n c bs b s _ HS.out.drewd.cur hn).mono ?_));rintro e w4 ⟨t,rfl,k4,g4⟩;(first|replace HWD:=Lib.hid (HWD.out.grownC g4 hgw)|skip);(first|replace HS:=Lib.hid (HS.out.go g4 k4)|replace HS:=Lib.hid (HS.out.drewd.go g4 k4));clear k4 g4;clear o0 o1 o2 o3 o4 o5 o6 o7 o8 o9 o10 o11 d0 d1 d2 d3 yo lb;obtain ⟨o0,o1,o2,o3,o4,o5,o6,o7,o8,o9,o10,o11⟩:=HS.out.at_.cells;obtain ⟨d0,d1,d2,d3⟩:=cell4 HS.out.dev;have yo:=HS.out.at_.soft;have lb:=heap_lt0 HS.out.at_)
       | (go_at_call 111;(first|(with_reducible refine (l44Words_any g B A n c bs d _ HS.out.cur hn HD.out).mono ?_)|(with_reducible refine (l44Words_any g B A n c bs d _ HS.out.drewd.cur hn HD.out).mono ?_));rintro e w4 ⟨ws,WA,wn,wc,rfl,hwn,oW,k4,g4⟩;have HWN:=Lib.hid hwn;replace HWD:=Lib.hid (oW.more (show w.heap.size≤_ from HS.out.grown.size));(first|replace HS:=Lib.hid (HS.out.go g4 k4)|replace HS:=Lib.hid (HS.out.drewd.go g4 k4));clear hwn oW k4 g4;clear o0 o1 o2 o3 o4 o5 o6 o7 o8 o9 o10 o11 d0 d1 d2 d3 yo lb;obtain ⟨o0,o1,o2,o3,o4,o5,o6,o7,o8,o9,o10,o11⟩:=HS.out.at_.cells;obtain ⟨d0,d1,d2,d3⟩:=cell4 HS.out.dev;have yo:=HS.out.at_.soft;have lb:=heap_lt0 HS.out.at_)
       | (go_at_call 82;(first|(with_reducible refine (swriteRegion_any b s t WA wn wc ws _ HS.out.fp.fp.rd HWD.out.ints z1 z2 z3 (by have:=HWN.out;omega)).mono ?_)|(with_reducible refine (swriteRegion_any b s t WA wn wc ws _ HS.out.drewd.fp.fp.rd (HWD.out.ints.below (Below.refl _ _).drew) z1 z2 z3 (by have:=HWN.out;omega)).mono ?_));rintro e w5 ⟨R,rfl,f5,b5⟩;have lb4:=lb;have HFp:=Lib.hid f5;(first|replace HS:=Lib.hid (HS.out.below b5)|replace HS:=Lib.hid (HS.out.drewd.below b5));clear f5 b5;clear o0 o1 o2 o3 o4 o5 o6 o7 o8 o9 o10 o11 d0 d1 d2 d3 yo lb;obtain ⟨o0,o1,o2,o3,o4,o5,o6,o7,o8,o9,o10,o11⟩:=HS.out.at_.cells;obtain ⟨d0,d1,d2,d3⟩:=cell4 HS.out.dev;have yo:=HS.out.at_.soft;have lb:=heap_lt0 HS.out.at_)))
      all_goals
       go_wp2_with fail
       try simp only [drew_set,drew_alloc]
       generalize hWE:World.setCell _ _ _=WE
       replace HS:=Lib.hid (HS.out.putE HFp.out lb4 (Nat.le_refl _) (good_wr HS.out.good t ws) ((wr_dev b t ws).trans HS.out.dv) hWE)
       clear hWE HFp
       go_roundw
       case rel=>exact ⟨k',_,R,by omega,rfl,HS.out⟩
       case measure=>simp [intOf]
  ·have hdk:decide ((k:Int)>0)=true:=by simp;omega
   obtain ⟨k',hk'⟩:∃j:Nat,k=j+1:=⟨k - 1,by omega⟩
   subst hk'
   have a8:IntKind.i64.wrap (((k'+1:Nat):Int) - 1)=(k':Int):=(IntWalk.i64_in _ (by omega)).trans (by omega)
   clear hk0
   obtain ⟨z1,z2,z3⟩:=HS.out.small
   obtain ⟨o0,o1,o2,o3,o4,o5,o6,o7,o8,o9,o10,o11⟩:=HS.out.at_.cells
   obtain ⟨d0,d1,d2,d3⟩:=cell4 HS.out.dev
   have yo:=HS.out.at_.soft
   have lb:=heap_lt0 HS.out.at_
   have HTH:=Lib.hid (tiles_eq HD.out).2.2
   go_wp2_with fail
   go_region_with ((first
    | (go_at_call 43;(first|(with_reducible refine (l41PadsOf_any g B A n c bs d _ HS.out.cur hn HD.out).mono ?_)|(with_reducible refine (l41PadsOf_any g B A n c bs d _ HS.out.drewd.cur hn HD.out).mono ?_));rintro e w4 ⟨ps,PA,pc,rfl,hpl,hpu,oP,k4,g4⟩;replace HS:=Lib.hid (HS.out.go (show wr.grownBy w4 (some g) from ⟨g4.os,g4.tape,g4.output,g4.size,g4.block⟩) k4);have HP:=Lib.hid oP.ints;clear hpl hpu oP k4 g4;clear o0 o1 o2 o3 o4 o5 o6 o7 o8 o9 o10 o11 d0 d1 d2 d3 yo lb;obtain ⟨o0,o1,o2,o3,o4,o5,o6,o7,o8,o9,o10,o11⟩:=HS.out.at_.cells;obtain ⟨d0,d1,d2,d3⟩:=cell4 HS.out.dev;have yo:=HS.out.at_.soft;have lb:=heap_lt0 HS.out.at_)
    | (go_at_call 15;(first|(with_reducible refine (sstepBoard_any b s PA _ pc ps _ HS.out.fp.fp.rd HP.out z1 z2 z3 (by have:=HTH.out;omega)).mono ?_)|(with_reducible refine (sstepBoard_any b s PA _ pc ps _ HS.out.drewd.fp.fp.rd (HP.out.below (Below.refl _ _).drew) z1 z2 z3 (by have:=HTH.out;omega)).mono ?_));rintro e w5 ⟨R,NA,nn,nc,rfl,md,f5,_,⟨u1,u2,_⟩,b5⟩;have lb4:=lb;have HFp:=Lib.hid f5;(first|replace HS:=Lib.hid (HS.out.below b5)|replace HS:=Lib.hid (HS.out.drewd.below b5));clear f5 b5;clear o0 o1 o2 o3 o4 o5 o6 o7 o8 o9 o10 o11 d0 d1 d2 d3 yo lb;obtain ⟨o0,o1,o2,o3,o4,o5,o6,o7,o8,o9,o10,o11⟩:=HS.out.at_.cells;obtain ⟨d0,d1,d2,d3⟩:=cell4 HS.out.dev;have yo:=HS.out.at_.soft;have lb:=heap_lt0 HS.out.at_)))
   all_goals
    go_wp2_with fail
    try simp only [drew_set,drew_alloc]
    generalize hWE:World.setCell _ _ _=WE
    replace HS:=Lib.hid (HS.out.putE HFp.out lb4 u2 (good_sp HS.out.good ps) ((sp_dev b ps).trans HS.out.dv) hWE)
    clear hWE HFp
    go_roundw
    case rel=>exact ⟨k',_,R,by omega,rfl,HS.out⟩
    case measure=>simp [intOf]
end Go.Proofs.YtbnfdhidgdfbeaaGreat

namespace Go.Proofs.YtbnfdhidgdfbeaaGreat
set_option maxRecDepth 100000
open Go.RowKit

set_option maxHeartbeats 4000000 in
theorem drawBoard_any (A:Option Addr) (n c:Nat) (bs:List Int) (w:World) (h:Bytes w w.heap.size A n bs) (hn:n≤1099511627776) :
  Calls Tryz.prog 10 #[.slice A n c] w fun e w'=>∃(b:Bd) (s:Sl3) (ps:List Int) (PA:Option Addr) (pc:Nat),e = .returned (.tuple #[.agg (bdArr b s),.slice PA (tiles b.dev) pc])∧Good b∧(ps.length=tiles b.dev∧Upto 1 ps)∧BoardRd w' b s∧Ints w' PA (tiles b.dev) ps∧Below w.heap.size w w':=by
 have HB:=Lib.hid h
 have B0:=Lib.hid (below_new (Below.refl w.heap.size w) (.cells z12 31))
 have HZ:Hid (BkAt (w.alloc (.cells z12 31)) w.heap.size zBd zSl):=heap_new _ _
 clear h
 go_enter Tryz.func10,Tryz.ntmps10
 go_wp2_with fail
 refine (l01New_any A n c bs _ ((HB.out.below B0.out).more (by simp)) hn).mono ?_
 rintro e w1 ⟨g,rfl,hg,k1,b1⟩
 simp only [World.size_alloc] at hg
 have hs1:=b1.size
 simp only [World.size_alloc] at hs1
 replace HZ:=Lib.hid (heap_tr b1 HZ.out)
 have B1:=Lib.hid (below_tr B0.out b1)
 have K1:=Lib.hid k1
 clear k1 b1
 go_wp2_with fail
 refine (l44Board_any g _ A n c bs _ K1.out hn).mono ?_
 rintro e w2 ⟨b,s,rfl,hgood,hf,k2,g2⟩
 have hs2:=g2.size
 have hgl:=K1.out.lt
 have hb3:Below w2.heap.size w2 (w2.alloc (.cells (bdArr b s) 31)):=below_new (Below.refl _ _) _
 replace HZ:=Lib.hid (heap_tr hb3 ((grown_far g2 (heap_lt0 HZ.out) (by omega)).trans HZ.out))
 have HX:Hid (BkAt (w2.alloc (.cells (bdArr b s) 31)) w2.heap.size b s):=heap_new _ _
 have B2:=Lib.hid (below_tr (B1.out.grown g2 (by omega) (by rintro z ⟨⟩;omega):Below w.heap.size w w2) hb3)
 have HF:=Lib.hid ((hf.below hb3).widen (show g+1≤_ by omega) (Nat.le_refl _))
 have HGD:=Lib.hid hgood
 have HD:Hid (devOk b.dev=true):=(framesOk_iff (bk_parts hgood.bk).1).1
 have KC:=Lib.hid (k2.below hb3)
 have hsX:(w2.alloc (.cells (bdArr b s) 31)).heap.size=w2.heap.size+1:=by simp
 clear k2 g2 hf hgood hb3
 obtain ⟨x0,x1,x2,x3,x4,x5,x6,x7,x8,x9,x10,x11⟩:=HX.out.cells
 go_wp2_with fail
 generalize hW3:(w2.alloc (.cells (bdArr b s) 31))=w3 at *
 generalize hgb:w2.heap.size=gb at *
 clear hW3 hgb x0 x1 x2 x3 x4 x5 x6 x7 x8 x9 x10 x11
 have hgg:g<gb:=by omega
 obtain ⟨x0,x1,x2,x3,x4,x5,x6,x7,x8,x9,x10,x11⟩:=HX.out.cells
 obtain ⟨z0,z1,z2,z3,z4,z5,z6,z7,z8,z9,z10,z11⟩:=BkAt.cells (b:=zBd) (s:=zSl) HZ.out
 have yz:=BkAt.soft (b:=zBd) (s:=zSl) HZ.out
 have lz:=heap_lt0 HZ.out
 go_region_with (go_at_call 43;(first|(with_reducible refine (l41PadsOf_any g _ A n c bs b.dev _ KC.out hn HD.out).mono ?_)|(with_reducible refine (l41PadsOf_any g _ A n c bs b.dev _ (KC.out.below (Below.refl _ _).drew) hn HD.out).mono ?_));rintro e w4 ⟨ps,PA,pc,rfl,hpl,hpu,o4,k4,g4⟩;have G4:=Lib.hid (show w3.grownBy w4 (some g) from ⟨g4.os,g4.tape,g4.output,g4.size,g4.block⟩);have hs4:w3.heap.size≤w4.heap.size:=G4.out.size;have HZ4:=Lib.hid ((grown_far G4.out (heap_lt0 HZ.out) (by omega)).trans HZ.out);have HX4:=Lib.hid ((grown_far G4.out (heap_lt0 HX.out) (by omega)).trans HX.out);have O4:=Lib.hid (o4.more (base':=w.heap.size+1) (by show w.heap.size+1≤w3.heap.size;omega));have HPS:=Lib.hid (And.intro hpl hpu);clear x0 x1 x2 x3 x4 x5 x6 x7 x8 x9 x10 x11 z0 z1 z2 z3 z4 z5 z6 z7 z8 z9 z10 z11 yz lz;obtain ⟨x0,x1,x2,x3,x4,x5,x6,x7,x8,x9,x10,x11⟩:=BkAt.cells HX4.out;obtain ⟨z0,z1,z2,z3,z4,z5,z6,z7,z8,z9,z10,z11⟩:=BkAt.cells HZ4.out;have yz:=BkAt.soft HZ4.out;have lz:=heap_lt0 HZ4.out;clear g4 o4 hpl hpu k4)
 all_goals
  go_wp2_with fail
  try simp only [drew_set,drew_alloc]
  clear x0 x1 x2 x3 x4 x5 x6 x7 x8 x9 x10 x11 z0 z1 z2 z3 z4 z5 z6 z7 z8 z9 z10 z11 yz lz
  have HB4:=Lib.hid (B2.out.grown G4.out (by omega) (by rintro z ⟨⟩;omega):Below w.heap.size w w4)
  have HF4:=Lib.hid (HF.out.keep (w':=w4) fun k hk h1 _=>grown_far G4.out hk (by omega))
  generalize hWE:World.setCell _ _ _=WE
  obtain ⟨e1,e2,e3,e4⟩:=fin12 hWE HZ4.out HB4.out (Nat.le_refl _)
  refine bodyPost_ret (v := .tuple #[.agg (bdArr b s),.slice PA (tiles b.dev) pc]) (results_cell2 Tryz.results10 rfl e1 Tryz.underlying31 (by kernel_rfl)) rfl ⟨b,s,ps,PA,pc,rfl,HGD.out,HPS.out,?_,?_,?_⟩
  ·exact (HF4.out.chg e4 (.inr (by omega))).rd
  ·exact (O4.out.keepS e4 (Nat.le_refl _)).ints
  ·exact e3
end Go.Proofs.YtbnfdhidgdfbeaaGreat
