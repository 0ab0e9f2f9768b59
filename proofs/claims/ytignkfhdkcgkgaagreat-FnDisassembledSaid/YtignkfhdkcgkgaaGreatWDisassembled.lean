/- FnDisassembled, the walk. -/
import Derived.Test.YtignkfhdkcgkgaaGreatDisLaw4
import Derived.Test.YtignkfhdkcgkgaaGreatDisRM
import Derived.Test.YtignkfhdkcgkgaaGreatDrwSp
import Derived.Test.YtignkfhdkcgkgaaGreatLawR
import Derived.Test.YtignkfhdkcgkgaaGreatLnP3
import Derived.Test.YtignkfhdkcgkgaaGreatRunT
namespace Go.Proofs.YtignkfhdkcgkgaaGreat
set_option maxRecDepth 100000
open Go.RowKit

set_option maxRecDepth 100000 in
set_option maxHeartbeats 8000000 in
theorem law_disassembled (A:Option Addr) (n c:Nat) (bs:List Int) (w:World) (h:Bytes w w.heap.size A n bs) (_hm:n≤maxLen) :
  Calls Tryz.prog 6 #[.slice A n c] w fun e w'=>e = .returned (.bool true)∧Below w.heap.size w w':=by
 by_cases g:n≤1048576
 rotate_left
 ·have d:decide ((n:Int)>1048576)=true:=by simp;omega
  go_enter Tryz.func6,Tryz.ntmps6
  go_wp2_with (go_at_call 7;refine (big_any _ _ _ _).mono ?_;rintro e w' ⟨rfl,rfl⟩)
  go_ret
  exact ⟨rfl,Below.refl _ _⟩
 have d:decide ((n:Int)>1048576)=false:=by simp;omega
 have HB:=Lib.hid h
 clear h
 go_enter Tryz.func6,Tryz.ntmps6
 go_wp2_with (go_at_call 7;refine (big_any _ _ _ _).mono ?_;rintro e w' ⟨rfl,rfl⟩)
 refine (drawSparse_any A n c bs _ HB.out (by omega)).mono ?_
 rintro e w1 ⟨d,ts,A1,c1,rfl,hd,hto,r1,b1⟩
 have hb2:Below w1.heap.size w1 (w1.alloc (.cells #[.int .i64 d.W,.int .i64 d.H,.int .i64 d.T,.int .i64 d.R] 25)):=below_new (Below.refl _ _) _
 have HX:=Lib.hid (heap_new w1 (.cells #[.int .i64 d.W,.int .i64 d.H,.int .i64 d.T,.int .i64 d.R] 25))
 have HW:=Lib.hid (below_tr b1 hb2)
 have HR:=Lib.hid (r1.rd.below hb2)
 have HFO:=Lib.hid (buildF_ok hd hto.1)
 have HSZ:Hid (size2 (buildF d ts)≤1099511627776):=by show _≤_;exact Nat.le_trans (rows_le (fun j _=>frame_len HFO.out j) (frames_n HFO.out).2) (by omega)
 clear r1 b1 hb2 hto hd
 generalize buildF d ts=fs at *
 generalize tiles d=m at *
 go_upto_region 4 with fail
 generalize hgd:w1.heap.size=gd at *
 generalize w1.alloc (.cells #[.int .i64 d.W,.int .i64 d.H,.int .i64 d.T,.int .i64 d.R] 25)=w2 at *
 clear hgd
 go_wp2_with fail
 refine (drawMasks_any A n c bs _ ((HB.out.below HW.out).more (by have:=HW.out.size;omega)) (by omega)).mono ?_
 rintro e w3 ⟨xs,K,X1,xc,rfl,hK,r3,b3⟩
 have HX3:=Lib.hid (heap_tr b3 HX.out)
 have HW3:=Lib.hid (below_tr HW.out b3)
 have HR3:=Lib.hid (HR.out.below b3)
 have HXS:=Lib.hid r3.ints
 obtain ⟨z0,z1,z2,z3⟩:=cell4 HX3.out
 have lz:=heap_lt0 HX3.out
 clear r3 b3
 go_wp2_with fail
 refine (sdisassemble_any d A1 m c1 fs _ HR3.out HSZ.out).mono ?_
 rintro e w4 ⟨SA,sn,sc,LA,ln,lc,OA,on,oc,IA,ni,ic,UA,nu,uc,rfl,-,-,-,-,-,b4⟩
 have hb5:Below w4.heap.size w4 (w4.alloc (.cells #[.int .i64 (disF d fs).1.inputs,.slice SA sn sc,.slice LA ln lc,.slice OA on oc] 61)):=below_new (Below.refl _ _) _
 have HX5:=Lib.hid (heap_tr (below_tr b4 hb5) HX3.out)
 have HW5:=Lib.hid (below_tr HW3.out (below_tr b4 hb5))
 have HR5:=Lib.hid (HR3.out.below (below_tr b4 hb5))
 have HXS5:=Lib.hid (HXS.out.below (below_tr b4 hb5))
 clear b4 hb5 z0 z1 z2 z3 lz
 go_upto_region 6 with fail
 generalize w4.alloc (.cells #[.int .i64 (disF d fs).1.inputs,.slice SA sn sc,.slice LA ln lc,.slice OA on oc] 61)=w5 at *
 obtain ⟨z0,z1,z2,z3⟩:=cell4 HX5.out
 have lz:=heap_lt0 HX5.out
 go_wp2_with fail
 refine (disassemble_any d A1 m c1 fs _ HR5.out HSZ.out).mono ?_
 rintro e w6 ⟨SB,sm,sd,LB,lm,ld,OB,om,od,IB,ni,id,UB,nu,ud,rfl,hs⟩
 have HS6:=Lib.hid (hs.pushBlk #[.int .i64 (disF d fs).1.inputs,.slice SB sm sd,.slice LB lm ld,.slice OB om od] 61)
 have HY:=Lib.hid (heap_new w6 (.cells #[.int .i64 (disF d fs).1.inputs,.slice SB sm sd,.slice LB lm ld,.slice OB om od] 61))
 clear hs z0 z1 z2 z3 lz
 go_upto_region 7 with fail
 have HTT:=Lib.hid (show disT d (tilesOf d fs)=disT d (tilesOf d fs) from rfl)
 generalize w6.alloc (.cells #[.int .i64 (disF d fs).1.inputs,.slice SB sm sd,.slice LB lm ld,.slice OB om od] 61)=w7 at *
 have HW7:=Lib.hid (below_tr HW5.out HS6.out.bel)
 have hsl:=(HS6.out.rd 0 rfl).lutN'
 have hol:=(HS6.out.ints 2 rfl).1
 have hil:=(HS6.out.ints 3 rfl).1
 have hul:=(HS6.out.ints 4 rfl).1
 cases hdt:disT d (tilesOf d fs) with
 | none =>
  have HF:=Lib.hid (disF_none HFO.out hdt)
  rw [HF.out] at hsl hil HY ⊢
  obtain rfl:(0:Nat)=lm:=hsl
  obtain rfl:(0:Nat)=ni:=hil
  have y2:=cell_heap (k:=2) HY.out rfl
  have ly:=heap_lt0 HY.out
  clear hdt hol hul
  go_wp2_with fail
  go_ret
  exact ⟨rfl,HW7.out⟩
 | some l =>
  have HF:=Lib.hid (disF_some HFO.out hdt)
  obtain ⟨hfit,hinp,hout⟩:=net_fit (cfg_of_frames HFO.out) hdt
  have hrun:=run_eq HFO.out hdt xs (by rw [HXS.out.1];omega)
  rw [HF.out] at hsl hol hil hul HY HS6 ⊢
  obtain ⟨I,hI⟩:∃I:Nat,l.inputs=(I:Int):=⟨_,hinp⟩
  obtain rfl:I=ni:=by have h1:(insL d (tilesOf d fs)).length=ni:=hil;omega
  have hon:om=nu:=by have h1:l.outs.length=om:=hol;have h2:(outL d (tilesOf d fs)).length=nu:=hul;omega
  subst hon
  have HNR:=Lib.hid (show NetRd w7 l SB LB OB sm sd lm ld om od from ⟨HS6.out.rd 1 rfl,HS6.out.rd 0 rfl,HS6.out.rd 2 rfl⟩)
  have HFIT:=Lib.hid hfit
  have HI:=Lib.hid hI
  have HRUN:=Lib.hid hrun
  have HIN:=Lib.hid (HS6.out.ints 3 rfl)
  have HUN:=Lib.hid (HS6.out.ints 4 rfl)
  have hni:I≤20:=by have:=hfit.inp;omega
  have hom:om≤16:=by have h1:l.outs.length=om:=hol;have:=hfit.nout;omega
  have HR7:=Lib.hid (HR5.out.below HS6.out.bel)
  have HXS7:=Lib.hid (HXS5.out.below HS6.out.bel)
  have HX7:=Lib.hid (heap_tr HS6.out.bel HX5.out)
  change Hid (w7.heap[w6.heap.size]?=some (.cells #[.int .i64 l.inputs,.slice SB sm sd,.slice LB lm ld,.slice OB om od] 61 (0,0))) at HY
  rw [hI] at HY
  clear hdt hsl hol hil hul hfit hinp hout hrun HS6
  change Code.wp _ _ _ ⟨#[_,_,_,_,_,_,_,_,_,.bool true,_,_,_,.bool true,_,_,_,_,_,_,_,_,_,_,_,_,_,_,_,_,_,_,_,_,_,_,_,_,_,_,_,_,_,_,_,_,_,_,_,_,_,_,_,_,_,_,_,_,_,_,_,_,_,_,_,_,_,_,_,_,_,_,_,_,_,_,_,_,_,_,_,_,_,_,_,_,_,_,_,_,_],_⟩ _
  generalize insL d (tilesOf d fs)=ins at *
  generalize outL d (tilesOf d fs)=ous at *
  have HOK:=Lib.hid (fun (w':World) (hb:Below w7.heap.size w7 w')=>(by
   have hh:=lutNetOk_yes l SB LB OB sm sd lm ld om od w' (HNR.out.below hb) HFIT.out
   unfold netV at hh
   rwa [HI.out] at hh:Calls Tryz.prog 31 #[netI I SB LB OB sm sd lm ld om od] w' fun e w''=>e = .returned (.bool true)∧Below w'.heap.size w' w''))
  have HLR:=Lib.hid (fun (w':World) (hb:Below w7.heap.size w7 w')=>lutRun_any l I SB LB OB sm sd lm ld om od X1 K xc xs w' (HNR.out.below hb) HFIT.out HI.out (HXS7.out.below hb) (by omega))
  have HRT:=Lib.hid (fun (w':World) (hb:Below w7.heap.size w7 w')=>prunTiles_any d A1 m c1 fs IB I id ins UB om ud ous X1 K xc xs w' (HR7.out.below hb) (HIN.out.below hb) (HUN.out.below hb) (HXS7.out.below hb) HSZ.out (by omega) (by omega) (by omega))
  have HKC:=Lib.hid (fun (w':World) (hb:Below w7.heap.size w7 w')=>(show (fun w'=>w'.cell? ⟨gd,0,none⟩=some (.int .i64 d.W)∧w'.cell? ⟨gd,1,none⟩=some (.int .i64 d.H)∧w'.cell? ⟨gd,2,none⟩=some (.int .i64 d.T)∧w'.cell? ⟨gd,3,none⟩=some (.int .i64 d.R)∧w'.cell? ⟨w6.heap.size,0,none⟩=some (.int .i64 (I:Int))∧w'.cell? ⟨w6.heap.size,1,none⟩=some (.slice SB sm sd)∧w'.cell? ⟨w6.heap.size,2,none⟩=some (.slice LB lm ld)∧w'.cell? ⟨w6.heap.size,3,none⟩=some (.slice OB om od)) w' from ⟨(cell4 (heap_tr hb HX7.out)).1,(cell4 (heap_tr hb HX7.out)).2.1,(cell4 (heap_tr hb HX7.out)).2.2.1,(cell4 (heap_tr hb HX7.out)).2.2.2,cell_heap (k:=0) (heap_tr hb HY.out) rfl,cell_heap (k:=1) (heap_tr hb HY.out) rfl,cell_heap (k:=2) (heap_tr hb HY.out) rfl,cell_heap (k:=3) (heap_tr hb HY.out) rfl⟩))
  have HRL:=Lib.hid (rtF_le d fs ins ous xs)
  have lz:=heap_lt0 HX7.out
  have ly:=heap_lt0 HY.out
  go_upto_region 11 with fail
  have hD:=Below.refl w7.heap.size w7
  go_region_held3 (fun w'=>w'.cell? ⟨gd,0,none⟩=some (.int .i64 d.W)∧w'.cell? ⟨gd,1,none⟩=some (.int .i64 d.H)∧w'.cell? ⟨gd,2,none⟩=some (.int .i64 d.T)∧w'.cell? ⟨gd,3,none⟩=some (.int .i64 d.R)∧w'.cell? ⟨w6.heap.size,0,none⟩=some (.int .i64 (I:Int))∧w'.cell? ⟨w6.heap.size,1,none⟩=some (.slice SB sm sd)∧w'.cell? ⟨w6.heap.size,2,none⟩=some (.slice LB lm ld)∧w'.cell? ⟨w6.heap.size,3,none⟩=some (.slice OB om od))
   (first|with_reducible exact HKC.out _ hD|with_reducible exact HKC.out _ hD.drew)
   (first
    | (go_at_call 31;(with_reducible refine (HOK.out _ (by first|with_reducible exact hD|with_reducible exact hD.drew)).mono ?_);rintro _ w8 ⟨rfl,b8⟩;have hD2:=below_tr (a:=w7) (by first|with_reducible exact hD|with_reducible exact hD.drew) b8;clear b8;replace hD:=hD2)
    | (go_at_call 32;(with_reducible refine (HRT.out _ (by first|with_reducible exact hD|with_reducible exact hD.drew)).mono ?_);rintro _ w8 ⟨RA,rn,rc,rfl,o8,b8⟩;have hD2:=below_tr (a:=w7) (by first|with_reducible exact hD|with_reducible exact hD.drew) b8;have HRA:=Lib.hid o8.ints;have HRN:=Lib.hid (show rn≤1099511627776 from by have h1:=o8.ints.1;have h2:=HRL.out;omega);(try (replace HLA:=Lib.hid (HLA.out.below b8)));clear b8 o8;replace hD:=hD2)
    | (go_at_call 33;(with_reducible refine (HLR.out _ (by first|with_reducible exact hD|with_reducible exact hD.drew)).mono ?_);rintro _ w8 ⟨TA,tc,rfl,o8,b8⟩;have hD2:=below_tr (a:=w7) (by first|with_reducible exact hD|with_reducible exact hD.drew) b8;have HLA:=Lib.hid o8.ints;(try (replace HRA:=Lib.hid (HRA.out.below b8)));clear b8 o8;replace hD:=hD2)
    | (go_at_call 13;(with_reducible refine (sameInts_any _ _ _ _ _ _ _ _ _ HRA.out HLA.out HRN.out).mono ?_);rw [HRUN.out,decide_eq_true rfl];rintro _ w8 ⟨rfl,b8⟩;have hD2:=below_tr (a:=w7) (by first|with_reducible exact hD|with_reducible exact hD.drew) b8;clear b8;replace hD:=hD2))
  all_goals
   go_wp2_with fail
   go_ret
   exact ⟨rfl,below_tr HW7.out hD⟩
end Go.Proofs.YtignkfhdkcgkgaaGreat
