/- Results that lie in a cell. Drawing frames of valid tiles, of the reference. Drawing a device with frames, a state and pads, of the reference. -/
import Derived.Laws.Rows
import Derived.Lib.SmallJoins
import Derived.Test.YtignkfhdkcgkgaaGreatBldS
import Derived.Test.YtignkfhdkcgkgaaGreatDrwT
import Derived.Test.YtignkfhdkcgkgaaGreatHar
import Derived.Test.YtignkfhdkcgkgaaGreatRunPure
import Derived.Test.YtignkfhdkcgkgaaGreatStartS
namespace Go.Proofs.YtignkfhdkcgkgaaGreat
set_option maxRecDepth 100000
open Go.RowKit

theorem Chg.set {lo hi g k:Nat} {w w':World} (h:Chg lo hi w w') (h1:lo≤g) (h2:g<hi) (v:Value):Chg lo hi w (w'.setCell ⟨g,k,none⟩ v):=by
 have b:=(Below.refl g w').setCell (p:=⟨g,k,none⟩) (Nat.le_refl g) v
 exact ⟨b.os.trans h.os,b.tape.trans h.tape,b.output.trans h.output,Nat.le_trans h.size b.size,fun i hi' hn=>(Below.heap_setCell w' ⟨g,k,none⟩ v i (by show i≠g;omega)).trans (h.block i hi' hn)⟩
theorem results_cell1 {fn:Func} {p:Tmp} {ty t:TypeId} {tmps cs:Array Value} {P:Program} {w:World} {g:Nat} {fs:Array Field} (h:fn.results=#[.cell p ty]) (ht:tmps.getD p undef = .pointer (some ⟨g,0,none⟩)) (hg:w.heap[g]?=some (.cells cs t (0,0)))
  (hu:P.underlying ty=some (.struct fs)) (hi:(P.info? ty).map (·.size)=some cs.size):(results fn tmps).run P w = .ok (.agg cs) w:=by
 have hl:(loadVar ty ⟨g,0,none⟩).run P w = .ok (.agg cs) w:=run_loadVar_row w g t ty cs (0,0) (.struct fs) hg hu rfl hi
 simp only [results,h]
 simp only [Array.getD_eq_getD_getElem?] at ht
 simp [ht,asAddr,hl]
theorem results_cell2 {fn:Func} {p u:Tmp} {ty t:TypeId} {tmps cs:Array Value} {P:Program} {w:World} {g:Nat} {fs:Array Field} (h:fn.results=#[.cell p ty,.tmp u]) (ht:tmps.getD p undef = .pointer (some ⟨g,0,none⟩)) (hg:w.heap[g]?=some (.cells cs t (0,0)))
  (hu:P.underlying ty=some (.struct fs)) (hi:(P.info? ty).map (·.size)=some cs.size):(results fn tmps).run P w = .ok (.tuple #[.agg cs,tmps.getD u undef]) w:=by
 have hl:(loadVar ty ⟨g,0,none⟩).run P w = .ok (.agg cs) w:=run_loadVar_row w g t ty cs (0,0) (.struct fs) hg hu rfl hi
 simp only [results,h]
 simp only [Array.getD_eq_getD_getElem?] at ht
 simp [ht,asAddr,hl]
end Go.Proofs.YtignkfhdkcgkgaaGreat

namespace Go.Proofs.YtignkfhdkcgkgaaGreat
set_option maxRecDepth 100000
open Go.RowKit

theorem OwnT.grownC {lo hi g:Nat} {w w':World} {c:Cel} {v:Value} (h:OwnT lo hi w c v) (k:w.grownBy w' (some g)) (hg:g<lo):OwnT lo hi w' c v:=h.keep fun _ h1 _ h3=>grown_far k h3 (by omega)
theorem OwnsL.grownC {lo hi g:Nat} {w w':World} {c:List Cel} {v:List Value} (h:OwnsL lo hi w c v) (k:w.grownBy w' (some g)) (hg:g<lo):OwnsL lo hi w' c v:=h.keep fun _ h1 _ h3=>grown_far k h3 (by omega)
theorem Own2.grownC {lo hi g:Nat} {w w':World} {A:Option Addr} {n c:Nat} {xss:List (List Int)} (h:Own2 lo hi w A n c xss) (k:w.grownBy w' (some g)) (hg:g<lo):Own2 lo hi w' A n c xss :=
 h.chg (lo':=g) (hi':=g+1) ⟨k.os,k.tape,k.output,k.size,fun i hi hne=>grown_far k hi (by omega)⟩ (.inr (by omega))
theorem getD_some_eq {α:Type} {xs:List α} {d:α} {j:Nat} (h:j<xs.length):xs[j]?.getD d=xs[j]:=by rw [List.getElem?_eq_getElem h];rfl
set_option maxHeartbeats 4000000 in
theorem l40Tiles_any (g B:Nat) (A:Option Addr) (n c:Nat) (bs:List Int) (d:Dev) (w:World) (h:Cur w g B A n c bs) (hn:n≤1099511627776) (hd:devOk d=true) :
  Calls Tryz.prog 132 #[.pointer (some ⟨g,0,none⟩),.agg #[.int .i64 d.W,.int .i64 d.H,.int .i64 d.T,.int .i64 d.R]] w fun e w'=>∃(ts:List Tile) (A':Option Addr) (c':Nat),e = .returned (.slice A' (tiles d) c')∧ts.length=tiles d∧(∀t∈ts,tileOk d t=true)∧OwnT w.heap.size w'.heap.size w' (celT ts) (.slice A' (tiles d) c')∧Cur w' g B A n c bs∧w.grownBy w' (some g):=by
 have hgw:g<w.heap.size:=h.lt
 have HC:=Lib.hid h
 have HD:=Lib.hid hd
 obtain ⟨hN,hN1,hN2⟩:=tiles_eq hd
 obtain ⟨i0,hi,hz0,hz1,hz2⟩:=info_parts tile_info
 have HI0:=Lib.hid hi
 have HZ0:=Lib.hid hz0
 have HZ1:=Lib.hid hz1
 have HZ2:=Lib.hid hz2
 have HTW:=Lib.hid (fun (k:Nat) (hk:k<tiles d)=>(show 0≤(k:Int)∧(k:Int)<d.W * d.H from by omega))
 generalize hM:tiles d=M at *
 have a3:IntKind.i64.wrap (M:Int)=(M:Int):=IntWalk.i64_in _ (by omega)
 have B0:=Lib.hid (below_new (Below.refl w.heap.size w) (.cells #[.int .i64 d.W,.int .i64 d.H,.int .i64 d.T,.int .i64 d.R] 25))
 have X0:=Lib.hid (heap_al (.cells #[] 103) (heap_new w (.cells #[.int .i64 d.W,.int .i64 d.H,.int .i64 d.T,.int .i64 d.R] 25)))
 have B1:=Lib.hid (below_new B0.out (.cells #[] 103))
 have N1:=Lib.hid (ownT_new (w:=(w.alloc (.cells #[.int .i64 d.W,.int .i64 d.H,.int .i64 d.T,.int .i64 d.R] 25))) 103 4 (g:=w.heap.size+1) (by simp))
 clear h hd hi hz0 hz1 hz2 hM
 go_enter Tryz.func132,Tryz.ntmps132
 go_wp2_with fail
 go_loopw [5,6] (fun v i wr=>∃(k:Nat) (ts:List Tile) (A':Option Addr) (c':Nat),k≤M∧i = .int .i64 k∧v = .slice A' k c'∧ts.length=k∧(∀t∈ts,tileOk d t=true)∧OwnT (w.heap.size+1) wr.heap.size wr (celT ts) (.slice A' k c')∧Cur wr g B A n c bs∧w.grownBy wr (some g)∧wr.heap[w.heap.size]?=some (.cells #[.int .i64 d.W,.int .i64 d.H,.int .i64 d.T,.int .i64 d.R] 25 (0,0))∧w.heap.size+1<wr.heap.size) (fun _ i _=>M - (intOf i).toNat)
 case atStart=>exact ⟨0,[],_,0,Nat.zero_le _,rfl,rfl,rfl,by simp,N1.out.widen (Nat.le_refl _) (by simp),HC.out.below B1.out,grownBy_of_below B1.out _,X0.out,by simp⟩
 case round =>
  obtain ⟨k,ts,A',c',hk,rfl,rfl,htl,hto,ho,hcu,hgw',hx,hsz⟩:=hrel
  have HO:=Lib.hid ho
  have KC:=Lib.hid hcu
  have HG:=Lib.hid hgw'
  have HX:=Lib.hid hx
  have HTL:=Lib.hid htl
  have HTO:=Lib.hid hto
  clear htl hto ho hcu hgw' hx
  obtain ⟨z0,z1,z2,z3⟩:=cell4 HX.out
  by_cases hlt:k<M
  ·have hdk:decide ((k:Int)<(M:Int))=true:=by simp;omega
   go_wp2_with fail
   refine (l38Tile_any g B A n c bs d (k:Int) _ KC.out hn HD.out (HTW.out k hlt)).mono ?_
   rintro e w5 ⟨T,v,rfl,hT,⟨v0,v1,rfl,hown⟩,k5,g5⟩
   have OW:=Lib.hid hown
   have OO:=Lib.hid (HO.out.grownC g5 (by omega))
   replace HG:=Lib.hid (grownBy_trans HG.out g5)
   replace HX:=Lib.hid ((grown_far g5 (heap_lt0 HX.out) (by omega)).trans HX.out)
   replace KC:=Lib.hid k5
   have hs5:=g5.size
   clear z0 z1 z2 z3 hown k5 g5
   go_wp2_with (at_builtin;refine wpList_pushC (W:=w5) rfl _ _ 96 103 rfl i0 _ 4 64 Tryz.underlying96 HI0.out HZ0.out HZ1.out HZ2.out rfl (by omega) (by omega) (w.heap.size+1) wr.heap.size A' k c' _ wr.heap.size _ #[v0,v1,.int .i64 T.pad,.int .i64 T.ram] rfl OO.out OW.out rfl rfl (by omega) (by omega) (by omega) (by omega) (by omega) (Below.refl _ _) ?_;rintro g6 cap w6 o6 b6 _ hs6)
   go_roundw
   case rel =>
    refine ⟨k+1,ts++[T],_,_,by omega,by go_num,rfl,by rw [List.length_append,HTL.out];rfl,?_,?_,KC.out.keepB b6 (by omega),grown_then HG.out b6 (by omega),(b6.block _ (by omega)).trans HX.out,by omega⟩
    ·intro t ht
     rw [List.mem_append] at ht
     rcases ht with ht|ht
     ·exact HTO.out t ht
     ·obtain rfl:=List.mem_singleton.1 ht
      exact hT
    ·unfold celT
     rw [cells_snoc]
     exact o6
   case measure=>simp [intOf];omega
  ·have hkm:k=M:=by omega
   subst hkm
   have hdk:decide ((k:Int)<(k:Int))=false:=by simp
   go_wp2_with fail
   go_ret
   exact ⟨ts,_,_,rfl,HTL.out,HTO.out,HO.out.widen (by omega) (Nat.le_refl _),KC.out,HG.out⟩
theorem set4c {w:World} {g:Nat} {v0 v1 v2 v3 u0 u1 u2 u3:Value} {t:TypeId} (h:w.heap[g]?=some (.cells #[v0,v1,v2,v3] t (0,0))):((((w.setCell ⟨g,0,none⟩ u0).setCell ⟨g,1,none⟩ u1).setCell ⟨g,2,none⟩ u2).setCell ⟨g,3,none⟩ u3).heap[g]?=some (.cells #[u0,u1,u2,u3] t (0,0)) :=
 (heap_set (heap_set (heap_set (heap_set h 0 u0) 1 u1) 2 u2) 3 u3).trans rfl
set_option maxHeartbeats 4000000 in
theorem l40Small_any (g B:Nat) (A:Option Addr) (n c:Nat) (bs:List Int) (w:World) (h:Cur w g B A n c bs) (hn:n≤1099511627776) :
  Calls Tryz.prog 131 #[.pointer (some ⟨g,0,none⟩)] w fun e w'=>∃d:Dev,e = .returned (.agg #[.int .i64 d.W,.int .i64 d.H,.int .i64 d.T,.int .i64 d.R])∧devOk d=true∧Cur w' g B A n c bs∧w.grownBy w' (some g):=by
 have HC:=Lib.hid h
 have hgw:g<w.heap.size:=h.lt
 clear h
 go_enter Tryz.func131,Tryz.ntmps131
 go_wp2_with fail
 refine (l01Below_any g B A n c bs 2 _ (HC.out.below (below_new (Below.refl _ _) _)) hn (by omega) (by omega)).mono ?_
 rintro e w1 ⟨x1,rfl,hx1,hx1',k1,g1⟩
 have K1:=Lib.hid k1
 have G1:=Lib.hid g1
 clear k1 g1
 go_wp2_with fail
 refine (l01Below_any g B A n c bs 2 _ K1.out hn (by omega) (by omega)).mono ?_
 rintro e w2 ⟨x2,rfl,hx2,hx2',k2,g2⟩
 have K2:=Lib.hid k2
 have G2:=Lib.hid (grownBy_trans G1.out g2)
 clear k2 g2
 go_wp2_with fail
 refine (l01Below_any g B A n c bs 2 _ K2.out hn (by omega) (by omega)).mono ?_
 rintro e w3 ⟨x3,rfl,hx3,hx3',k3,g3⟩
 have G3:=grownBy_trans G2.out g3
 have hs3:=G3.size
 simp only [World.size_alloc] at hs3
 have hb3:Below w3.heap.size w3 (w3.alloc (.cells #[.int .i64 (3+x1),.int .i64 (3+x2),.int .i64 (1+x3),.int .i64 (-1)] 25)):=below_new (Below.refl _ _) _
 have HR:=Lib.hid (heap_tr hb3 ((grown_far G3 (by simp) (by omega)).trans (heap_new w (.cells #[.int .i64 0,.int .i64 0,.int .i64 0,.int .i64 0] 25))))
 have HX:=Lib.hid (heap_new w3 (.cells #[.int .i64 (3+x1),.int .i64 (3+x2),.int .i64 (1+x3),.int .i64 (-1)] 25))
 have HG:=Lib.hid (grown_then (grownBy_trans (grownBy_of_below (below_new (Below.refl w.heap.size w) (.cells #[.int .i64 0,.int .i64 0,.int .i64 0,.int .i64 0] 25)) (some g)) G3) hb3 (by omega))
 have KC:=Lib.hid (k3.below hb3)
 have hgl:=k3.lt
 clear k3 g3 G3 hb3 K1 K2 G1 G2 HC
 have hne:w.heap.size≠w3.heap.size:=by omega
 by_cases h4:x1=1
 ·have hq4:(3+x1==4)=true:=by simp;omega
  have H1:=Lib.hid h4
  clear h4
  obtain ⟨z0,z1,z2,z3⟩:=cell4 HX.out
  go_wp2_with fail
  refine (l01Once_any g B A n c bs 2 _ KC.out hn (by omega) (by omega)).mono ?_
  rintro e w5 ⟨y,rfl,k5,g5⟩
  replace HR:=Lib.hid ((grown_far g5 (heap_lt0 HR.out) (by omega)).trans HR.out)
  replace HX:=Lib.hid ((grown_far g5 (heap_lt0 HX.out) (by omega)).trans HX.out)
  replace HG:=Lib.hid (grownBy_trans HG.out g5)
  replace KC:=Lib.hid k5
  clear k5 g5 z0 z1 z2 z3
  obtain ⟨z0,z1,z2,z3⟩:=cell4 HX.out
  obtain ⟨r0,r1,r2,r3⟩:=cell4 HR.out
  have f0:=fun k=>frozen_heap HR.out k
  have f00:=f0 0
  have f01:=f0 1
  have f02:=f0 2
  have f03:=f0 3
  have q3:=frozen_heap HX.out 3
  have l1:=heap_lt0 HR.out
  have l2:=heap_lt0 HX.out
  clear f0
  cases y with
  | false =>
   go_wp2_with fail
   have hE:=set4c (u0 := .int .i64 (3+x1)) (u1 := .int .i64 (3+x2)) (u2 := .int .i64 (1+x3)) (u3 := .int .i64 (-1)) (HR.out)
   refine bodyPost_ret (v := .agg #[.int .i64 (3+x1),.int .i64 (3+x2),.int .i64 (1+x3),.int .i64 (-1)]) (results_cell1 Tryz.results131 rfl hE Tryz.underlying25 (by kernel_rfl)) rfl ⟨⟨3+x1,3+x2,1+x3,(-1)⟩,rfl,?_,?_,?_⟩
   ·simp [devOk,inR];omega
   ·exact (((KC.out.setNew hgw _ _).setNew hgw _ _).setNew hgw _ _).setNew hgw _ _
   ·exact grownBy_setNew (grownBy_setNew (grownBy_setNew (grownBy_setNew HG.out (Nat.le_refl _) _ _) (Nat.le_refl _) _ _) (Nat.le_refl _) _ _) (Nat.le_refl _) _ _
  | true =>
   go_wp2_with fail
   have hE:=set4c (u0 := .int .i64 (3+x1)) (u1 := .int .i64 (3+x2)) (u2 := .int .i64 (1+x3)) (u3 := .int .i64 2) (heap_st (p:=⟨w3.heap.size,3,none⟩) (.int .i64 2) HR.out hne)
   refine bodyPost_ret (v := .agg #[.int .i64 (3+x1),.int .i64 (3+x2),.int .i64 (1+x3),.int .i64 2]) (results_cell1 Tryz.results131 rfl hE Tryz.underlying25 (by kernel_rfl)) rfl ⟨⟨3+x1,3+x2,1+x3,2⟩,rfl,?_,?_,?_⟩
   ·have:=H1.out;simp [devOk,inR];omega
   ·exact ((((KC.out.setNew hgl 3 (.int .i64 2)).setNew hgw _ _).setNew hgw _ _).setNew hgw _ _).setNew hgw _ _
   ·exact grownBy_setNew (grownBy_setNew (grownBy_setNew (grownBy_setNew (grownBy_setNew HG.out (show w.heap.size≤w3.heap.size by omega) 3 (.int .i64 2)) (Nat.le_refl _) _ _) (Nat.le_refl _) _ _) (Nat.le_refl _) _ _) (Nat.le_refl _) _ _
 ·have hq4:(3+x1==4)=false:=by simp;omega
  obtain ⟨z0,z1,z2,z3⟩:=cell4 HX.out
  obtain ⟨r0,r1,r2,r3⟩:=cell4 HR.out
  have f0:=fun k=>frozen_heap HR.out k
  have f00:=f0 0
  have f01:=f0 1
  have f02:=f0 2
  have f03:=f0 3
  have l1:=heap_lt0 HR.out
  clear f0
  go_wp2_with fail
  have hE:=set4c (u0 := .int .i64 (3+x1)) (u1 := .int .i64 (3+x2)) (u2 := .int .i64 (1+x3)) (u3 := .int .i64 (-1)) (HR.out)
  refine bodyPost_ret (v := .agg #[.int .i64 (3+x1),.int .i64 (3+x2),.int .i64 (1+x3),.int .i64 (-1)]) (results_cell1 Tryz.results131 rfl hE Tryz.underlying25 (by kernel_rfl)) rfl ⟨⟨3+x1,3+x2,1+x3,(-1)⟩,rfl,?_,?_,?_⟩
  ·simp [devOk,inR];omega
  ·exact (((KC.out.setNew hgw _ _).setNew hgw _ _).setNew hgw _ _).setNew hgw _ _
  ·exact grownBy_setNew (grownBy_setNew (grownBy_setNew (grownBy_setNew HG.out (Nat.le_refl _) _ _) (Nat.le_refl _) _ _) (Nat.le_refl _) _ _) (Nat.le_refl _) _ _
end Go.Proofs.YtignkfhdkcgkgaaGreat

namespace Go.Proofs.YtignkfhdkcgkgaaGreat
set_option maxRecDepth 100000
open Go.RowKit

end Go.Proofs.YtignkfhdkcgkgaaGreat
