/- RegionQuiet of the reference. Drawing frames of which a region is quiet, of the reference. Drawing devices with few selections, and inputs, of the reference. -/
import Derived.Test.YtignkfhdkcgkgaaGreatDrvS
import Derived.Test.YtignkfhdkcgkgaaGreatDrwR
import Derived.Test.YtignkfhdkcgkgaaGreatFrKeep
import Derived.Test.YtignkfhdkcgkgaaGreatRq
import Derived.Test.YtignkfhdkcgkgaaGreatTileHar
namespace Go.Proofs.YtignkfhdkcgkgaaGreat
set_option maxRecDepth 100000
open Go.RowKit

end Go.Proofs.YtignkfhdkcgkgaaGreat

namespace Go.Proofs.YtignkfhdkcgkgaaGreat
set_option maxRecDepth 100000
open Go.RowKit

theorem OwnT.setMux {lo hi:Nat} {w:World} {n c i j:Nat} {A:Option Addr} {ts:List Tile} {t:Tile} (h:OwnT lo hi w (celT ts) (.slice A n c)) (hx:ts[i]?=some t) (hj:j<t.mux.length) :
  ∃g gm p,A=some ⟨g,0,none⟩∧g<w.heap.size∧w.cell? ⟨g,i * 4,none⟩=some (.slice (some ⟨gm,0,none⟩) t.mux.length p)∧lo≤gm∧gm<hi∧gm<w.heap.size∧w.cell? ⟨gm,j,none⟩=some (.int .i64 (t.mux[j]?.getD 0))∧w.frozen? ⟨gm,j,none⟩=false ∧
   ∀y:Int,OwnT lo hi (w.setCell ⟨gm,j,none⟩ (.int .i64 y)) (celT (ts.set i { t with mux:=t.mux.set j y })) (.slice A n c):=by
 obtain ⟨F,ho,hF,hin⟩:=h
 obtain ⟨g,S,m,p,rfl,hc,hs,hsub,hup⟩:=ho.tMux hF hx
 have hm:=hs.len
 subst hm
 obtain ⟨gm,cur,rfl,_,hgl,hh,_⟩:=hs.block (by omega)
 have hk:=hin gm (hsub gm (by simp [blk]))
 obtain ⟨c1,c2⟩:=hs.cellAt hj
 exact ⟨g,gm,p,rfl,cell_lt hc,hc,hk.1,hk.2,hgl,c1,c2,fun y=>⟨F,hup _ _ (hs.stored hj y) (only_set (by simp [blk]) _),hF,hin⟩⟩
theorem tile_mux0 {d:Dev} {t:Tile} (h:tileOk d t=true) (j:Nat):tileOk d { t with mux:=t.mux.set j 0 }=true:=by
 unfold tileOk at h ⊢
 simp only [Bool.and_eq_true,decide_eq_true_eq] at h ⊢
 obtain ⟨h1,h2,h3,h4,h5,h6,h7⟩:=h
 refine ⟨h1,by rw [List.length_set];exact h2,h3,h4,h5,allIn_good fun i hi=>inR_iff.2 ?_,h7⟩
 rw [List.length_set] at hi
 rw [getD_set]
 split
 ·omega
 ·exact allIn_get h6 hi
theorem getD_setT {l:List Tile} {i j:Nat} {v:Tile}:(l.set i v)[j]?.getD Tile.zero=if i=j∧i<l.length then v else l[j]?.getD Tile.zero:=by
 by_cases h:i=j
 ·subst h
  by_cases h2:i<l.length
  ·rw [if_pos ⟨rfl,h2⟩];simp [h2]
  ·rw [if_neg (fun h=>h2 h.2),List.set_eq_of_length_le (by omega)]
 ·rw [if_neg (fun h2=>h h2.1),List.getElem?_set_ne h]
/-- Valid tiles of a device. -/
def TsOk (d:Dev) (ts:List Tile):Prop:=ts.length=tiles d∧∀j,j<ts.length→tileOk d (ts[j]?.getD Tile.zero)=true
theorem TsOk.mux0 {d:Dev} {ts:List Tile} (h:TsOk d ts) (i j:Nat) (hi:i<ts.length):TsOk d (ts.set i { (ts[i]?.getD Tile.zero) with mux:=(ts[i]?.getD Tile.zero).mux.set j 0 }):=by
 refine ⟨by rw [List.length_set];exact h.1,fun k hk=>?_⟩
 rw [List.length_set] at hk
 rw [getD_setT]
 split
 ·exact tile_mux0 (h.2 i hi) j
 ·exact h.2 k hk
theorem tileOk_mux {d:Dev} {t:Tile} (h:tileOk d t=true):t.mux.length=muxN d:=by
 unfold tileOk at h
 simp only [Bool.and_eq_true,decide_eq_true_eq] at h
 exact h.2.1
end Go.Proofs.YtignkfhdkcgkgaaGreat

namespace Go.Proofs.YtignkfhdkcgkgaaGreat
set_option maxRecDepth 100000
open Go.RowKit

set_option maxHeartbeats 8000000 in
theorem l42Sparse_any (g B:Nat) (A:Option Addr) (n c:Nat) (bs:List Int) (w:World) (h:Cur w g B A n c bs) (hn:n≤1099511627776) :
  Calls Tryz.prog 62 #[.pointer (some ⟨g,0,none⟩)] w fun e w'=>∃(d:Dev) (ts:List Tile) (A':Option Addr) (c':Nat),e = .returned (.tuple #[.agg #[.int .i64 d.W,.int .i64 d.H,.int .i64 d.T,.int .i64 d.R],.slice A' (tiles d) c'])∧devOk d=true∧TsOk d ts∧Own2 w.heap.size w'.heap.size w' A' (tiles d) c' (buildF d ts)∧Cur w' g B A n c bs∧w.grownBy w' (some g):=by
 have HC:=Lib.hid h
 have hgw:g<w.heap.size:=h.lt
 have B0:=Lib.hid (below_new (Below.refl w.heap.size w) (.cells #[.int .i64 0,.int .i64 0,.int .i64 0,.int .i64 0] 25))
 have HR:=Lib.hid (heap_new w (.cells #[.int .i64 0,.int .i64 0,.int .i64 0,.int .i64 0] 25))
 clear h
 go_enter Tryz.func62,Tryz.ntmps62
 go_wp2_with fail
 refine (l40Small_any g B A n c bs _ (HC.out.below B0.out) hn).mono ?_
 rintro e w1 ⟨d,rfl,hd,k1,g1⟩
 have HD:=Lib.hid hd
 have hs1:=g1.size
 simp only [World.size_alloc] at hs1
 have hb1:Below w1.heap.size w1 (w1.alloc (.cells #[.int .i64 d.W,.int .i64 d.H,.int .i64 d.T,.int .i64 d.R] 25)):=below_new (Below.refl _ _) _
 replace HR:=Lib.hid (heap_tr hb1 ((grown_far g1 (heap_lt0 HR.out) (by omega)).trans HR.out))
 have HX:=Lib.hid (heap_new w1 (.cells #[.int .i64 d.W,.int .i64 d.H,.int .i64 d.T,.int .i64 d.R] 25))
 have HG:=Lib.hid (grown_then (grownBy_trans (grownBy_of_below B0.out _) g1) hb1 (by omega))
 have KC:=Lib.hid (k1.below hb1)
 have hsX:(w1.alloc (.cells #[.int .i64 d.W,.int .i64 d.H,.int .i64 d.T,.int .i64 d.R] 25)).heap.size=w1.heap.size+1:=by simp
 clear k1 g1 hb1
 go_upto_region 2 with fail
 generalize hW2:(w1.alloc (.cells #[.int .i64 d.W,.int .i64 d.H,.int .i64 d.T,.int .i64 d.R] 25))=w2 at *
 generalize hgd:w1.heap.size=gd at *
 clear hW2 hgd
 have hgd:g<gd:=by omega
 have lR:=heap_lt0 HR.out
 have HSX:=Lib.hid hsX
 have hsx1:gd+1≤w2.heap.size:=by omega
 obtain ⟨hN,hN1,hN2⟩:=tiles_eq hd
 obtain ⟨z0,z1,z2,z3⟩:=cell4 HX.out
 have lX:=heap_lt0 HX.out
 have hT4:=devOk_bd hd
 have hmx:muxN d≤21:=by unfold muxN;omega
 generalize hTT:tiles d=N at *
 have HTT:=Lib.hid hTT
 clear hsX hTT hd
 go_wp2_with fail
 refine (l40Tiles_any g B A n c bs d _ KC.out hn HD.out).mono ?_
 rw [HTT.out]
 rintro e w3 ⟨ts,A3,c3,rfl,htl,hto,ho,k3,g3⟩
 have G3:=Lib.hid g3
 have O3:=Lib.hid ho
 have K3:=Lib.hid k3
 have HOK:=Lib.hid (show TsOk d ts from ⟨by rw [HTT.out];exact htl,fun j hj=>hto _ (by rw [getD_some_eq hj];exact List.getElem_mem _)⟩)
 have hs3:w2.heap.size≤w3.heap.size:=g3.size
 clear g3 ho k3 htl hto z0 z1 z2 z3
 go_wp2_with fail
 go_loopw [6] (fun v wr=>∃(i:Nat) (ts:List Tile),i≤N∧v = .int .i64 (i:Int)∧TsOk d ts∧OwnT w2.heap.size w3.heap.size wr (celT ts) (.slice A3 N c3)∧Cur wr g B A n c bs∧w2.grownBy wr (some g)) (fun v _=>N - (intOf v).toNat)
 case atStart=>exact ⟨0,ts,by omega,rfl,HOK.out,O3.out,K3.out,G3.out⟩
 case round =>
  obtain ⟨i,ts,hi,rfl,hok,ho,hk,hg⟩:=hrel
  have HO:=Lib.hid ho
  have HOKK:=Lib.hid hok
  have HK:=Lib.hid hk
  have HGG:=Lib.hid hg
  clear hok ho hk hg
  by_cases hlt:i<N
  ·have hdi:decide ((i:Int)<(N:Int))=true:=by simp;omega
   have i0:(0:Int)≤(i:Int):=by omega
   have i1:(i:Int)<(N:Int):=by omega
   obtain ⟨wo,rfl⟩:∃y,y=wr:=⟨wr,rfl⟩
   go_wp2_with fail
   go_loopw [7] (fun v wr=>∃(j:Nat) (ts:List Tile),j≤muxN d∧v = .int .i64 (j:Int)∧TsOk d ts∧OwnT w2.heap.size w3.heap.size wr (celT ts) (.slice A3 N c3)∧Cur wr g B A n c bs∧w2.grownBy wr (some g)) (fun v _=>muxN d - (intOf v).toNat)
   case atStart=>exact ⟨0,ts,by omega,rfl,HOKK.out,HO.out,HK.out,HGG.out⟩
   case round =>
    obtain ⟨j,ts,hj,rfl,hok,ho,hk,hg⟩:=hrel
    have hil:i<ts.length:=by rw [hok.1,HTT.out];exact hlt
    have hti:ts[i]?=some (ts[i]?.getD Tile.zero):=by rw [List.getElem?_eq_getElem hil];rfl
    have hml:(ts[i]?.getD Tile.zero).mux.length=muxN d:=tileOk_mux (hok.2 i hil)
    have hm0:0<muxN d:=by unfold muxN;omega
    have HO:=Lib.hid ho
    have HOKK:=Lib.hid hok
    have HK:=Lib.hid hk
    have HGG:=Lib.hid hg
    have HTI:=Lib.hid hti
    have HML:=Lib.hid hml
    have HM0:=Lib.hid (hok.mux0 i j hil)
    obtain ⟨ga,gm,p,rfl,hga,hca,-,-,hgm,-⟩:=ho.setMux hti (j:=0) (by omega)
    rw [hml] at hca
    clear hok ho hk hg hti hml hm0
    by_cases hlt2:j<muxN d
    ·have hdj:decide ((j:Int)<(muxN d:Int))=true:=by simp;omega
     have j0:(0:Int)≤(j:Int):=by omega
     have j1:(j:Int)<(muxN d:Int):=by omega
     generalize hM:muxN d=M at *
     have HMM:=Lib.hid hM
     clear hM
     go_wp2_with fail
     refine (l01Once_any g B A n c bs 3 _ HK.out hn (by omega) (by omega)).mono ?_
     rintro _ w5 ⟨b,rfl,k5,g5⟩
     have O5:=Lib.hid (HO.out.grownC g5 (by omega))
     have G5:=Lib.hid (grownBy_trans HGG.out g5)
     have K5:=Lib.hid k5
     clear k5 g5 hga hca hgm
     cases b with
     | true =>
      obtain ⟨ga',gm',p',hA',hga,hca,hlo,-,hgm,hcm,hfm,hup⟩:=O5.out.setMux HTI.out (j:=j) (by rw [HML.out];exact hlt2)
      injection hA' with hA'
      injection hA' with hA'
      subst hA'
      rw [HML.out] at hca
      have HUP:=Lib.hid (hup 0)
      clear hup
      go_wp2_with fail
      go_roundw
      case rel=>exact ⟨j+1,_,by omega,by go_num,HM0.out,HUP.out,K5.out.setNew (by omega) _ _,grownBy_setNew G5.out hlo _ _⟩
      case measure=>simp [intOf];omega
     | false =>
      go_wp2_with fail
      go_roundw
      case rel=>exact ⟨j+1,ts,by omega,by go_num,HOKK.out,O5.out,K5.out,G5.out⟩
      case measure=>simp [intOf];omega
    ·have hjm:j=muxN d:=by omega
     have hdj:decide ((j:Int)<(muxN d:Int))=false:=by simp;omega
     generalize hM:muxN d=M at *
     clear hjm hM
     go_wp2_with fail
     go_roundw
     case rel=>exact ⟨i+1,ts,by omega,by go_num,HOKK.out,HO.out,HK.out,HGG.out⟩
     case measure=>simp [intOf];omega
  ·have hin:i=N:=by omega
   have hdi:decide ((i:Int)<(N:Int))=false:=by simp;omega
   have X4:=Lib.hid ((grown_far HGG.out lX (by omega)).trans HX.out)
   have R4:=Lib.hid ((grown_far HGG.out (heap_lt0 HR.out) (by omega)).trans HR.out)
   obtain ⟨z0,z1,z2,z3⟩:=cell4 X4.out
   have lX4:=heap_lt0 X4.out
   clear hin
   go_wp2_with fail
   refine (sbuildFrames_yes d A3 N c3 ts _ HO.out.rd HD.out HOKK.out.1 (fun j hj=>HOKK.out.2 j (by rw [HOKK.out.1,HTT.out];exact hj))).mono ?_
   rintro e w4 ⟨A4,c4,rfl,o4,b4⟩
   have HS4:=Lib.hid b4
   have O4:=Lib.hid o4
   have hs4:=b4.size
   have hsr:=HGG.out.size
   obtain ⟨y0,y1,y2,y3⟩:=cell4 (heap_tr b4 X4.out)
   obtain ⟨r0,r1,r2,r3⟩:=cell4 (heap_tr b4 R4.out)
   have HRR:=Lib.hid (heap_tr b4 R4.out)
   have lX5:=heap_lt0 (heap_tr b4 X4.out)
   have f0:=fun k=>frozen_heap HRR.out k
   have f00:=f0 0
   have f01:=f0 1
   have f02:=f0 2
   have f03:=f0 3
   have l1:=heap_lt0 HRR.out
   clear f0 o4 b4 z0 z1 z2 z3
   go_wp2_with fail
   have hE:=set4c (u0 := .int .i64 d.W) (u1 := .int .i64 d.H) (u2 := .int .i64 d.T) (u3 := .int .i64 d.R) HRR.out
   have hC:=Chg.set (k:=3) (Chg.set (k:=2) (Chg.set (k:=1) (Chg.set (k:=0) (Chg.refl w.heap.size (w.heap.size+1) w4) (Nat.le_refl _) (Nat.lt_succ_self _) (.int .i64 d.W)) (Nat.le_refl _) (Nat.lt_succ_self _) (.int .i64 d.H)) (Nat.le_refl _) (Nat.lt_succ_self _) (.int .i64 d.T)) (Nat.le_refl _) (Nat.lt_succ_self _) (.int .i64 d.R)
   refine bodyPost_ret (v := .tuple #[.agg #[.int .i64 d.W,.int .i64 d.H,.int .i64 d.T,.int .i64 d.R],.slice A4 N c4]) (results_cell2 Tryz.results62 rfl hE Tryz.underlying25 (by kernel_rfl)) rfl ⟨d,ts,A4,c4,by rw [HTT.out],HD.out,HOKK.out,?_,?_,?_⟩
   ·rw [HTT.out];exact (O4.out.chg hC (.inr (by omega))).widen (by omega) (by have:=hC.size;omega)
   ·exact ((((HK.out.below HS4.out).setNew hgw _ _).setNew hgw _ _).setNew hgw _ _).setNew hgw _ _
   ·exact grownBy_setNew (grownBy_setNew (grownBy_setNew (grownBy_setNew (grown_then (grownBy_trans HG.out HGG.out) HS4.out (by omega)) (Nat.le_refl _) _ _) (Nat.le_refl _) _ _) (Nat.le_refl _) _ _) (Nat.le_refl _) _ _
set_option maxHeartbeats 4000000 in
theorem drawSparse_any (A:Option Addr) (n c:Nat) (bs:List Int) (w:World) (h:Bytes w w.heap.size A n bs) (hn:n≤1099511627776) :
  Calls Tryz.prog 27 #[.slice A n c] w fun e w'=>∃(d:Dev) (ts:List Tile) (A':Option Addr) (c':Nat),e = .returned (.tuple #[.agg #[.int .i64 d.W,.int .i64 d.H,.int .i64 d.T,.int .i64 d.R],.slice A' (tiles d) c'])∧devOk d=true∧TsOk d ts∧Own2 w.heap.size w'.heap.size w' A' (tiles d) c' (buildF d ts)∧Below w.heap.size w w':=by
 have HB:=Lib.hid h
 have B0:=Lib.hid (below_new (Below.refl w.heap.size w) (.cells #[.int .i64 0,.int .i64 0,.int .i64 0,.int .i64 0] 25))
 have HR:=Lib.hid (heap_new w (.cells #[.int .i64 0,.int .i64 0,.int .i64 0,.int .i64 0] 25))
 clear h
 go_enter Tryz.func27,Tryz.ntmps27
 go_wp2_with fail
 refine (l01New_any A n c bs _ ((HB.out.below B0.out).more (by simp)) hn).mono ?_
 rintro e w1 ⟨g,rfl,hg,k1,b1⟩
 simp only [World.size_alloc] at hg
 have hs1:=b1.size
 simp only [World.size_alloc] at hs1
 replace HR:=Lib.hid (heap_tr b1 HR.out)
 have B1:=Lib.hid (below_tr B0.out b1)
 have K1:=Lib.hid k1
 clear k1 b1
 go_wp2_with fail
 refine (l42Sparse_any g _ A n c bs _ K1.out hn).mono ?_
 rintro e w2 ⟨d,ts,A2,c2,rfl,hd,hto,o2,k2,g2⟩
 have hs2:=g2.size
 replace HR:=Lib.hid ((grown_far g2 (heap_lt0 HR.out) (by omega)).trans HR.out)
 have B2:=Lib.hid (B1.out.grown g2 (by omega) (by rintro z ⟨⟩;omega):Below w.heap.size w w2)
 have O2:=Lib.hid o2
 have HP:=Lib.hid (And.intro hd hto)
 clear k2 g2 o2 hd hto
 obtain ⟨r0,r1,r2,r3⟩:=cell4 HR.out
 have f0:=fun k=>frozen_heap HR.out k
 have f00:=f0 0
 have f01:=f0 1
 have f02:=f0 2
 have f03:=f0 3
 have l1:=heap_lt0 HR.out
 clear f0
 go_wp2_with fail
 have hE:=set4c (u0 := .int .i64 d.W) (u1 := .int .i64 d.H) (u2 := .int .i64 d.T) (u3 := .int .i64 d.R) HR.out
 have hC:=Chg.set (k:=3) (Chg.set (k:=2) (Chg.set (k:=1) (Chg.set (k:=0) (Chg.refl w.heap.size (w.heap.size+1) w2) (Nat.le_refl _) (Nat.lt_succ_self _) (.int .i64 d.W)) (Nat.le_refl _) (Nat.lt_succ_self _) (.int .i64 d.H)) (Nat.le_refl _) (Nat.lt_succ_self _) (.int .i64 d.T)) (Nat.le_refl _) (Nat.lt_succ_self _) (.int .i64 d.R)
 refine bodyPost_ret (v := .tuple #[.agg #[.int .i64 d.W,.int .i64 d.H,.int .i64 d.T,.int .i64 d.R],.slice A2 (tiles d) c2]) (results_cell2 Tryz.results27 rfl hE Tryz.underlying25 (by kernel_rfl)) rfl ⟨d,ts,A2,c2,rfl,HP.out.1,HP.out.2,?_,?_⟩
 ·exact (O2.out.chg hC (.inr (by omega))).widen (by omega) (by have:=hC.size;omega)
 ·exact sets4 B2.out (Nat.le_refl _)
set_option maxHeartbeats 4000000 in
theorem l09Masks_any (g B:Nat) (A:Option Addr) (n c:Nat) (bs:List Int) (K:Nat) (w:World) (h:Cur w g B A n c bs) (hn:n≤1099511627776) (hK:K≤1000) :
  Calls Tryz.prog 63 #[.pointer (some ⟨g,0,none⟩),.int .i64 (K:Int)] w fun e w'=>∃(xs:List Int) (A':Option Addr) (c':Nat),e = .returned (.slice A' K c')∧Own w.heap.size w' A' K c' xs∧Cur w' g B A n c bs∧w.grownBy w' (some g):=by
 have hgw:g<w.heap.size:=h.lt
 have B1:=Lib.hid (below_new (Below.refl w.heap.size w) (.cells #[] 3))
 have HC:=Lib.hid (h.below B1.out)
 have N1:=Lib.hid (Own.newAt (w:=w) (base:=w.heap.size) (g:=w.heap.size) rfl (Nat.le_refl _))
 have hs0:w.heap.size≤(w.alloc (.cells #[] 3)).heap.size:=by simp
 clear h
 go_enter Tryz.func63,Tryz.ntmps63
 go_wp2_with fail
 go_loopw [5,6] (fun v i wr=>∃(k:Nat) (xs:List Int) (A':Option Addr) (c':Nat),k≤K∧i = .int .i64 (k:Int)∧v = .slice A' k c'∧Own w.heap.size wr A' k c' xs∧Cur wr g B A n c bs∧w.grownBy wr (some g)) (fun _ i _=>K - (intOf i).toNat)
 case atStart=>exact ⟨0,[],_,0,Nat.zero_le _,rfl,rfl,N1.out,HC.out,grownBy_of_below B1.out _⟩
 case round =>
  obtain ⟨k,xs,A',c',hk,rfl,rfl,ho,hcu,hgw'⟩:=hrel
  have HO:=Lib.hid ho
  have KC:=Lib.hid hcu
  have HG:=Lib.hid hgw'
  have hsz:=hgw'.size
  clear ho hcu hgw' hs0
  by_cases hlt:k<K
  ·have hdk:decide ((k:Int)<(K:Int))=true:=by simp;omega
   go_wp2_with fail
   refine (l01Below_any g B A n c bs 256 _ KC.out hn (by omega) (by omega)).mono ?_
   rintro _ w5 ⟨x,rfl,hx,hx',k5,g5⟩
   replace HO:=Lib.hid (HO.out.grownC g5 hgw)
   replace HG:=Lib.hid (grownBy_trans HG.out g5)
   replace KC:=Lib.hid k5
   have hs5:=g5.size
   clear k5 g5
   go_wp2_with fail
   refine (l01Once_any g B A n c bs 12 _ KC.out hn (by omega) (by omega)).mono ?_
   rintro _ w6 ⟨b,rfl,k6,g6⟩
   replace HO:=Lib.hid (HO.out.grownC g6 hgw)
   replace HG:=Lib.hid (grownBy_trans HG.out g6)
   replace KC:=Lib.hid k6
   have hs6:=g6.size
   clear k6 g6
   cases b with
   | true =>
    have hb7:Below w6.heap.size w6 (w6.alloc (.cells #[.int .i64 (-1),.int .i64 1048575,.int .i64 1048576,.int .i64 9223372036854775807,.int .i64 (-9223372036854775808)] 3)):=below_new (Below.refl _ _) _
    have HL:=Lib.hid (heap_new w6 (.cells #[.int .i64 (-1),.int .i64 1048575,.int .i64 1048576,.int .i64 9223372036854775807,.int .i64 (-9223372036854775808)] 3))
    replace HO:=Lib.hid (HO.out.below hb7)
    replace HG:=Lib.hid (grown_then HG.out hb7 (by omega))
    replace KC:=Lib.hid (KC.out.below hb7)
    have hg6:g<w6.heap.size:=by omega
    have hl6:=heap_lt0 HL.out
    clear hb7
    go_upto_region 7 with fail
    have HPI:=Lib.hid (l01PickInt_any g B A n c bs w6.heap.size 0 5 5 _ KC.out hn (by omega) (by omega) (by omega) hl6 (fun j hj=>by
     have:j=0∨j=1∨j=2∨j=3∨j=4:=by omega
     rcases this with rfl|rfl|rfl|rfl|rfl
     ·exact ⟨_,cell_heap (k:=0) HL.out rfl⟩
     ·exact ⟨_,cell_heap (k:=1) HL.out rfl⟩
     ·exact ⟨_,cell_heap (k:=2) HL.out rfl⟩
     ·exact ⟨_,cell_heap (k:=3) HL.out rfl⟩
     ·exact ⟨_,cell_heap (k:=4) HL.out rfl⟩))
    go_wp2_with fail
    refine HPI.out.mono ?_
    rintro _ w7 ⟨y,rfl,k7,g7⟩
    replace HO:=Lib.hid (HO.out.grownC g7 hgw)
    replace HG:=Lib.hid (grownBy_trans HG.out g7)
    replace KC:=Lib.hid k7
    have hs7:=g7.size
    simp only [World.size_alloc] at hs7
    clear k7 g7
    go_wp2_with (at_builtin;refine wpList_push rfl _ _ rfl w.heap.size A' k c' xs y rfl HO.out rfl (by omega) (by omega) (Below.refl w.heap.size _) ?_;rintro g4 cap w4 o4 b4 gr4 hat4)
    go_roundw
    case rel=>exact ⟨k+1,xs++[y],_,_,by omega,by go_num,rfl,o4,KC.out.keepB b4 (by omega),grown_then HG.out b4 (by omega)⟩
    case measure=>simp [intOf];omega
   | false =>
    go_wp2_with (at_builtin;refine wpList_push rfl _ _ rfl w.heap.size A' k c' xs x rfl HO.out rfl (by omega) (by omega) (Below.refl w.heap.size _) ?_;rintro g4 cap w4 o4 b4 gr4 hat4)
    go_roundw
    case rel=>exact ⟨k+1,xs++[x],_,_,by omega,by go_num,rfl,o4,KC.out.keepB b4 (by omega),grown_then HG.out b4 (by omega)⟩
    case measure=>simp [intOf];omega
  ·have hkn:k=K:=by omega
   have hdk:decide ((k:Int)<(K:Int))=false:=by simp;omega
   subst hkn
   go_wp2_with fail
   go_ret
   exact ⟨xs,A',c',rfl,HO.out,KC.out,HG.out⟩
set_option maxHeartbeats 4000000 in
theorem drawMasks_any (A:Option Addr) (n c:Nat) (bs:List Int) (w:World) (h:Bytes w w.heap.size A n bs) (hn:n≤1099511627776) :
  Calls Tryz.prog 28 #[.slice A n c] w fun e w'=>∃(xs:List Int) (K:Nat) (A':Option Addr) (c':Nat),e = .returned (.slice A' K c')∧K≤12∧Own w.heap.size w' A' K c' xs∧Below w.heap.size w w':=by
 have HB:=Lib.hid h
 clear h
 go_enter Tryz.func28,Tryz.ntmps28
 go_wp2_with fail
 refine (l01New_any A n c bs _ HB.out hn).mono ?_
 rintro e w1 ⟨g,rfl,hg,k1,b1⟩
 have hs1:=b1.size
 have B1:=Lib.hid b1
 have K1:=Lib.hid k1
 have hgl:=k1.lt
 clear k1 b1
 go_wp2_with fail
 refine (l01Below_any g _ A n c bs 12 _ K1.out hn (by omega) (by omega)).mono ?_
 rintro _ w2 ⟨x,rfl,hx,hx',k2,g2⟩
 have hs2:=g2.size
 have B2:=Lib.hid (B1.out.grown g2 (by omega) (by rintro z ⟨⟩;omega):Below w.heap.size w w2)
 have K2:=Lib.hid k2
 clear k2 g2
 obtain ⟨K,hK⟩:∃K:Nat,1+x=(K:Int):=⟨(1+x).toNat,by omega⟩
 have hK12:K≤12:=by omega
 go_wp2_with fail
 refine (l09Masks_any g _ A n c bs K _ K2.out hn (by omega)).mono ?_
 rintro _ w3 ⟨xs,A3,c3,rfl,o3,k3,g3⟩
 have B3:=Lib.hid (B2.out.grown g3 (by omega) (by rintro z ⟨⟩;omega):Below w.heap.size w w3)
 have O3:=Lib.hid o3
 clear o3 k3 g3
 go_wp2_with fail
 go_ret
 exact ⟨xs,K,A3,c3,rfl,hK12,O3.out.more (by omega),B3.out⟩
end Go.Proofs.YtignkfhdkcgkgaaGreat
