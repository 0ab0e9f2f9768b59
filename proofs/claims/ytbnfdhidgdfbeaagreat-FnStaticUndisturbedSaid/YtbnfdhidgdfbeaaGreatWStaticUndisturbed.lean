/- FnStaticUndisturbed, the walk (printed by mkwb.py). -/
import Derived.Test.YtbnfdhidgdfbeaaGreatDrwBd
import Derived.Test.YtbnfdhidgdfbeaaGreatDrwN
import Derived.Test.YtbnfdhidgdfbeaaGreatRt3
import Derived.Test.YtbnfdhidgdfbeaaGreatSamB
import Derived.Test.YtbnfdhidgdfbeaaGreatSp
import Derived.Test.YtbnfdhidgdfbeaaGreatSpS
import Derived.Test.YtbnfdhidgdfbeaaGreatStaPure
import Derived.Test.YtbnfdhidgdfbeaaGreatStaW
namespace Go.Proofs.YtbnfdhidgdfbeaaGreat
set_option maxRecDepth 100000
open Go.RowKit
attribute [local go_sem ↓] Go.wp_at_zero Go.wp_at_succ

set_option maxHeartbeats 8000000 in
theorem law_staticUndisturbed (A:Option Addr) (n c:Nat) (bs:List Int) (w:World) (h:Bytes w w.heap.size A n bs) (_hm:n≤maxLen) :
  Calls Tryz.prog 3 #[.slice A n c] w fun e w'=>e = .returned (.bool true)∧Below w.heap.size w w':=by
 by_cases g:n≤1048576
 ·have d:decide ((n:Int)>1048576)=false:=by simp;omega
  have HB:=Lib.hid h
  clear h
  go_enter Tryz.func3,Tryz.ntmps3
  go_wp2_with (go_at_call 9;refine (big_any _ _ _ _).mono ?_;rintro e w' ⟨rfl,rfl⟩)
  refine (drawBoard_any A n c bs _ HB.out (by omega)).mono ?_
  rintro e w1 ⟨b,s,ps,PA,pc,rfl,hgood,hps,hrd,hpi,b1⟩
  have hb2:Below w1.heap.size w1 (w1.alloc (.cells (bdArr b s) 31)):=below_new (Below.refl _ _) _
  have HX0:Hid (BkAt (w1.alloc (.cells (bdArr b s) 31)) w1.heap.size b s):=heap_new _ _
  have HW:=Lib.hid (below_tr b1 hb2)
  have HR0:=Lib.hid (BoardRd.below hrd hb2)
  have HP:=Lib.hid (hpi.below hb2)
  have HGD:=Lib.hid hgood
  have HPS:=Lib.hid hps
  have hts:=(tiles_eq (framesOk_iff (bk_parts hgood.bk).1).1).2
  have HTS:Hid (tiles b.dev≤36):=hts.2
  obtain ⟨z1,z2,z3⟩:=bk_small hgood.bk
  have hz1:size2 b.frames≤1099511627776:=by omega
  have hz3:size2 b.saved≤1099511627776:=by omega
  have hst:=hrd.state.1
  have hz2:s.n2≤16777216:=by omega
  have hszA:(w1.alloc (.cells (bdArr b s) 31)).heap.size=w1.heap.size+1:=by simp
  have hgb:w1.heap.size<(w1.alloc (.cells (bdArr b s) 31)).heap.size:=by omega
  clear b1 hb2 hrd hpi hgood hps z1 z2 z3 hst hts
  have HPO:=Lib.hid (pads_ok (framesOk_iff (bk_parts HGD.out.bk).1).1 HPS.out.1 HPS.out.2)
  have HSL:Hid (b.state.length=2 * tiles b.dev):=stOk_len (bk_parts HGD.out.bk).2.1
  by_cases hp:b.phase=1
  ·have hq:(b.phase != 1)=false:=by rw [hp];rfl
   have HST0:=Lib.hid (still_start HGD.out hp)
   have HSTEP:=Lib.hid (fun (L C:Bd) (h:Still b L C)=>still_step HGD.out hp h HPO.out)
   have HRQ:=Lib.hid ((bk_parts HGD.out.bk).2.2.2.1 hp)
   have HSV:=Lib.hid (rq_parts HRQ.out).1
   have HMR:=Lib.hid (fun (j:Nat)=>mem_regTiles (d:=b.dev) (r:=b.reg) (rq_parts HRQ.out).2 (j:=j))
   have HFN:=Lib.hid (bk_new HSV.out)
   clear hp
   obtain ⟨x0,x1,x2,x3,x4,x5,x6,x7,x8,x9,x10,x11⟩:=HX0.out.cells
   go_wp2_with fail
   generalize hW2:(w1.alloc (.cells (bdArr b s) 31))=w2 at *
   generalize hg0:w1.heap.size=g0 at *
   clear hW2 hg0 hszA x0 x1 x2 x3 x4 x5 x6 x7 x8 x9 x10 x11
   have HXA:=HX0
   have HW2:=HW
   refine (snewBoard_any b.dev s.A3 s.n3 s.c3 b.saved _ HR0.out.saved hz3).mono ?_
   rintro e w3 ⟨R1,he,f1,b1⟩
   rw [HSV.out] at he
   subst he
   generalize hNB:newB b.dev b.saved=NB at *
   have hs1:=b1.size
   have hb1:Below w3.heap.size w3 (w3.alloc (.cells (bdArr NB R1) 31)):=below_new (Below.refl _ _) _
   have hbb1:=below_tr b1 hb1
   have HX1:Hid (BkAt (w3.alloc (.cells (bdArr NB R1) 31)) w3.heap.size NB R1):=heap_new _ _
   have HF1:=Lib.hid (f1.fp.below hb1)
   have hgb1:(w3.alloc (.cells (bdArr NB R1) 31)).heap.size=w3.heap.size+1:=by simp
   have HBZ:=Lib.hid hbb1
   have HR2:=HR0
   have HP2:=HP
   replace HW:=Lib.hid (below_tr HW.out hbb1)
   replace HP:=Lib.hid (HP.out.below hbb1)
   replace HX0:=Lib.hid (HX0.out.tr hbb1)
   replace HR0:=Lib.hid (BoardRd.below HR0.out hbb1)
   go_upto_region 7 with fail
   generalize hW4:(w3.alloc (.cells (bdArr NB R1) 31))=w4 at *
   generalize hg1:w3.heap.size=g1 at *
   clear hW4 hg1 hb1 hbb1 b1 f1 hNB
   obtain ⟨x0,x1,x2,x3,x4,x5,x6,x7,x8,x9,x10,x11⟩:=HX0.out.cells
   have hst0:=HR0.out.state.1
   have hgx:g0<w4.heap.size:=by omega
   have HGB:=Lib.hid hgb1
   clear hgb1
   go_upto_region 8 with (at_builtin;refine wpList_append_ints rfl _ _ rfl w4.heap.size (some ⟨w4.heap.size,0,none⟩) 0 0 [] rfl (Own.newAt (w:=w4) rfl (Nat.le_refl _)) s.A2 s.n2 s.c2 b.state rfl (HR0.out.state.below (below_new (Below.refl _ _) _)) (by omega) (by simp) (below_new (Below.refl _ _) _) ?_;rintro A7 c7 w5 o7 b7 -;rw [Nat.zero_add,List.nil_append] at o7;rw [Nat.zero_add];clear x0 x1 x2 x3 x4 x5 x6 x7 x8 x9 x10 x11;have HX5:=Lib.hid (HX1.out.tr b7);obtain ⟨y0,y1,y2,y3,y4,y5,y6,y7,y8,y9,y10,y11⟩:=HX5.out.cells;have yz:=HX5.out.soft)
   have hs7:=b7.size
   have hgb1:=HGB.out
   have hC:Chg g1 (g1+1) w5 (w5.setCell ⟨g1,5,none⟩ (.slice A7 s.n2 c7)):=Chg.set (Chg.refl _ _ _) (Nat.le_refl _) (Nat.lt_succ_self _) _
   have hl7:Lies A7 w4.heap.size w5.heap.size:=o7.lies
   have HX6:Hid (BkAt (w5.setCell ⟨g1,5,none⟩ (.slice A7 s.n2 c7)) g1 { NB with state:=b.state } ⟨R1.A1,R1.n1,R1.c1,A7,s.n2,c7,R1.A3,R1.n3,R1.c3⟩):=heap_setAt (k:=5) HX5.out _ rfl
   have HB6:Hid (Below w2.heap.size w2 (w5.setCell ⟨g1,5,none⟩ (.slice A7 s.n2 c7))):=below_chg (below_tr HBZ.out b7) hC (by omega)
   have hs6:w5.heap.size≤(w5.setCell ⟨g1,5,none⟩ (.slice A7 s.n2 c7)).heap.size:=hC.size
   have HF6:Hid (FpOut (Two g1 (w5.setCell ⟨g1,5,none⟩ (.slice A7 s.n2 c7)).heap.size) w2.heap.size w5.heap.size (w5.setCell ⟨g1,5,none⟩ (.slice A7 s.n2 c7)) { NB with state:=b.state } ⟨R1.A1,R1.n1,R1.c1,A7,s.n2,c7,R1.A3,R1.n3,R1.c3⟩) :=
    FpOut.setState (b':={ NB with state:=b.state }) ((HF1.out.below b7).chg hC (.inl (Nat.le_refl _))) (o7.chg hC hl7 (.inr (by omega))) hl7 (by omega) (by omega) (by omega) rfl rfl (fun k hk=>by unfold Two at hk;omega)
   clear o7 b7 hl7 hC HX5 HX1 HF1 HBZ y0 y1 y2 y3 y4 y5 y6 y7 y8 y9 y10 y11 yz
   replace HX0:Hid (BkAt (w5.setCell ⟨g1,5,none⟩ (.slice A7 s.n2 c7)) g0 b s):=HXA.out.tr HB6.out
   generalize hW6:(w5.setCell ⟨g1,5,none⟩ (.slice A7 s.n2 c7))=w6 at *
   clear hW6
   have hs8:=HB6.out.size
   have hb8:Below w6.heap.size w6 (w6.alloc (.cells (bdArr b s) 31)):=below_new (Below.refl _ _) _
   have HXL:Hid (BkAt (w6.alloc (.cells (bdArr b s) 31)) w6.heap.size b s):=heap_new _ _
   have HXC:=Lib.hid (HX6.out.tr hb8)
   have HFC:=Lib.hid (HF6.out.same hb8)
   have HB8:=Lib.hid (below_tr HB6.out hb8)
   have hs9:(w6.alloc (.cells (bdArr b s) 31)).heap.size=w6.heap.size+1:=by simp
   obtain ⟨x0,x1,x2,x3,x4,x5,x6,x7,x8,x9,x10,x11⟩:=HX0.out.cells
   replace HX0:=Lib.hid (HX0.out.tr hb8)
   go_upto_region 9 with fail
   clear x0 x1 x2 x3 x4 x5 x6 x7 x8 x9 x10 x11
   generalize hW7:(w6.alloc (.cells (bdArr b s) 31))=w7 at *
   generalize hg2:w6.heap.size=g2 at *
   clear hW7 hb8 HX6 HF6 HB6
   obtain ⟨x0,x1,x2,x3,x4,x5,x6,x7,x8,x9,x10,x11⟩:=HX0.out.cells
   go_wp2_with fail
   clear x0 x1 x2 x3 x4 x5 x6 x7 x8 x9 x10 x11
   refine (sregionTiles_any b.dev b.reg _).mono ?_
   rintro e w9 ⟨TA,m,tc,rfl,oT,b9⟩
   have hs10:=b9.size
   have HT:=Lib.hid oT.ints
   have HTL:=Lib.hid oT.ints.1
   have HTN:Hid (∀a,TA=some a→a.block≠g1∧a.block≠g2):=fun a ha=>by have:=oT.lies a ha;omega
   have hml:=regTiles_le b.dev b.reg
   rw [HTL.out] at hml
   have hmm:=HTS.out
   replace HXL:=Lib.hid (HXL.out.tr b9)
   replace HXC:=Lib.hid (HXC.out.tr b9)
   replace HFC:=Lib.hid (HFC.out.same b9)
   replace HX0:=Lib.hid (HX0.out.tr b9)
   replace HB8:=Lib.hid (below_tr HB8.out b9)
   clear oT b9
   go_wp2_with fail
   go_loopw [9] (fun i wr=>∃(k:Nat) (L C:Bd) (sL sC:Sl3),k≤3∧i = .int .i64 k∧Still b L C∧BkAt wr g2 L sL∧BkAt wr g1 C sC∧(BoardRd w2 L sL∨∃lo hi,FpOut (Two g1 g2) lo hi wr L sL)∧(∃lo hi,FpOut (Two g1 g2) lo hi wr C sC)∧Ints wr TA m (regTiles b.dev b.reg)∧Below w2.heap.size w2 wr) (fun i _=>3 - (intOf i).toNat)
   case atStart=>exact ⟨0,b,_,s,_,Nat.zero_le _,rfl,HST0.out,HXL.out,HXC.out,.inl HR2.out,⟨_,_,HFC.out⟩,HT.out,HB8.out⟩
   case round =>
    obtain ⟨k,L,C,sL,sC,hk,rfl,hstl,hxl,hxc,hrl,hrc,hti,hbe⟩:=hrel
    have HSTL:=Lib.hid hstl
    have HXLr:=Lib.hid hxl
    have HXCr:=Lib.hid hxc
    have HBE:=Lib.hid hbe
    have HTI:=Lib.hid hti
    have HRL:Hid (BoardRd wr L sL):=by
     rcases hrl with h|⟨lo,hi,h⟩
     ·exact BoardRd.below h hbe
     ·exact h.rd
    have HRC:Hid (BoardRd wr C sC):=by
     obtain ⟨lo,hi,h⟩:=hrc
     exact h.rd
    have HX0r:Hid (BkAt wr g0 b s):=HXA.out.tr hbe
    have HR0r:=Lib.hid (BoardRd.below HR2.out hbe)
    have HPr:=Lib.hid (HP2.out.below hbe)
    have hsw:=hbe.size
    have hlw2:=heap_lt0 hxl
    have hlw1:=heap_lt0 hxc
    clear hstl hxl hxc hrl hrc hti hbe
    by_cases hlt:k<3
    ·have hdk:decide ((k:Int)<3)=true:=by simp;omega
     obtain ⟨l1,l2,l3⟩:=bk_small HSTL.out.bkL
     obtain ⟨c1,c2,c3⟩:=bk_small HSTL.out.bkC
     have hln:=HRL.out.state.1
     have hcn:=HRC.out.state.1
     obtain ⟨y0,y1,y2,y3,y4,y5,y6,y7,y8,y9,y10,y11⟩:=HXLr.out.cells
     go_wp2_with fail
     clear y0 y1 y2 y3 y4 y5 y6 y7 y8 y9 y10 y11
     refine (stepBoard_any L sL PA (tiles b.dev) pc ps _ HRL.out HPr.out (by omega) (by omega) (by omega) (by omega)).mono ?_
     rintro e w11 ⟨R4,NA,nn,nc,rfl,md4,f4,o4,q4,b4⟩
     have HSO:=Lib.hid (HSTEP.out L C HSTL.out)
     generalize spB L ps=L' at *
     generalize spN L ps=oL at *
     have hs4:=b4.size
     have hb4:Below w11.heap.size w11 (w11.alloc (.cells (bdArr L' R4) 31)):=below_new (Below.refl _ _) _
     have hbb4:=below_tr b4 hb4
     have HX4:Hid (BkAt (w11.alloc (.cells (bdArr L' R4) 31)) w11.heap.size L' R4):=heap_new _ _
     have HF4:Hid (FpOut (Two g1 g2) wr.heap.size md4 (w11.alloc (.cells (bdArr L' R4) 31)) L' R4):=FpOut.of (f4.below hb4) (fun k hk=>by unfold Two at hk;omega)
     have HON:=Lib.hid (o4.ints.below hb4)
     have hgb4:(w11.alloc (.cells (bdArr L' R4) 31)).heap.size=w11.heap.size+1:=by simp
     replace HXLr:=Lib.hid (HXLr.out.tr hbb4)
     replace HXCr:=Lib.hid (HXCr.out.tr hbb4)
     replace HX0r:=Lib.hid (HX0r.out.tr hbb4)
     replace HRC:=Lib.hid (BoardRd.below HRC.out hbb4)
     replace HR0r:=Lib.hid (BoardRd.below HR0r.out hbb4)
     replace HPr:=Lib.hid (HPr.out.below hbb4)
     replace HTI:=Lib.hid (HTI.out.below hbb4)
     replace HBE:=Lib.hid (below_tr HBE.out hbb4)
     obtain ⟨y0,y1,y2,y3,y4,y5,y6,y7,y8,y9,y10,y11⟩:=HXCr.out.cells
     go_wp2_with fail
     clear y0 y1 y2 y3 y4 y5 y6 y7 y8 y9 y10 y11
     generalize hW12:(w11.alloc (.cells (bdArr L' R4) 31))=w12 at *
     generalize hg4:w11.heap.size=g4 at *
     clear hW12 hg4 hb4 hbb4 b4 f4 o4 q4
     refine (sstepBoard_any C sC PA (tiles b.dev) pc ps _ HRC.out HPr.out (by omega) (by omega) (by omega) (by omega)).mono ?_
     rintro e w13 ⟨R5,MA,nm,mc,rfl,md5,f5,o5,q5,b5⟩
     generalize spB C ps=C' at *
     generalize spN C ps=oC at *
     have hs5:=b5.size
     have hb5:Below w13.heap.size w13 (w13.alloc (.cells (bdArr C' R5) 31)):=below_new (Below.refl _ _) _
     have hbb5:=below_tr b5 hb5
     have HX5:Hid (BkAt (w13.alloc (.cells (bdArr C' R5) 31)) w13.heap.size C' R5):=heap_new _ _
     have HF5:Hid (FpOut (Two g1 g2) w12.heap.size md5 (w13.alloc (.cells (bdArr C' R5) 31)) C' R5):=FpOut.of (f5.below hb5) (fun k hk=>by unfold Two at hk;omega)
     have HOM:=Lib.hid (o5.ints.below hb5)
     have hgb5:(w13.alloc (.cells (bdArr C' R5) 31)).heap.size=w13.heap.size+1:=by simp
     replace HON:=Lib.hid (HON.out.below hbb5)
     replace HXLr:=Lib.hid (HXLr.out.tr hbb5)
     replace HXCr:=Lib.hid (HXCr.out.tr hbb5)
     replace HX0r:=Lib.hid (HX0r.out.tr hbb5)
     replace HX4:=Lib.hid (HX4.out.tr hbb5)
     replace HF4:=Lib.hid (HF4.out.same hbb5)
     replace HR0r:=Lib.hid (BoardRd.below HR0r.out hbb5)
     replace HPr:=Lib.hid (HPr.out.below hbb5)
     replace HTI:=Lib.hid (HTI.out.below hbb5)
     replace HBE:=Lib.hid (below_tr HBE.out hbb5)
     have hnn:nn=tiles b.dev:=by rw [←HON.out.1];exact HSO.out.lenL
     have hnm:nm=tiles b.dev:=by rw [←HOM.out.1];exact HSO.out.lenC
     subst hnn hnm
     have hrd4:=HF4.out.rd.state
     have hrd5:=HF5.out.rd.state
     have hr4:R4.n2=2 * tiles b.dev:=by rw [←hrd4.1,HSO.out.still.len,HSL.out]
     have hr5:R5.n2=2 * tiles b.dev:=by rw [←hrd5.1,←HSO.out.still.sta.1,HSO.out.still.len,HSL.out]
     have hr0:s.n2=2 * tiles b.dev:=by rw [←HR0r.out.state.1,HSL.out]
     have hN4:(R4.n2:Int)=(R5.n2:Int):=by omega
     have HB4:=Lib.hid hrd4
     have HB5:=Lib.hid hrd5
     have HB0:=Lib.hid HR0r.out.state
     have HN4:=Lib.hid hr4
     have HN5:=Lib.hid hr5
     have HN0:=Lib.hid hr0
     clear hrd4 hrd5 hr4 hr5 hr0
     have hne1:((R4.n2:Int) != (R5.n2:Int))=false:=by rw [hN4];simp
     obtain ⟨u0,u1,u2,u3,u4,u5,u6,u7,u8,u9,u10,u11⟩:=HX4.out.cells
     obtain ⟨v0,v1,v2,v3,v4,v5,v6,v7,v8,v9,v10,v11⟩:=HX5.out.cells
     go_wp2_with fail
     clear u0 u1 u2 u3 u4 u5 u6 u7 u8 u9 u10 u11 v0 v1 v2 v3 v4 v5 v6 v7 v8 v9 v10 v11 hN4 hne1
     generalize hW14:(w13.alloc (.cells (bdArr C' R5) 31))=w14 at *
     generalize hg5:w13.heap.size=g5 at *
     clear hW14 hg5 hb5 hbb5 b5 f5 o5 q5
     go_loopw [14] (fun i wx=>∃t:Nat,t≤tiles b.dev∧i = .int .i64 t∧Below w14.heap.size w14 wx) (fun i _=>tiles b.dev - (intOf i).toNat)
     case atStart=>exact ⟨0,Nat.zero_le _,rfl,Below.refl _ _⟩
     case round =>
      obtain ⟨t,ht,rfl,hbx⟩:=hrel
      have HBX:=Lib.hid hbx
      have HX4x:=Lib.hid (HX4.out.tr hbx)
      have HX5x:=Lib.hid (HX5.out.tr hbx)
      have HX0x:=Lib.hid (HX0r.out.tr hbx)
      have HTx:=Lib.hid (HTI.out.below hbx)
      have HNx:=Lib.hid (HON.out.below hbx)
      have HMx:=Lib.hid (HOM.out.below hbx)
      have HB4x:=Lib.hid (HB4.out.below hbx)
      have HB5x:=Lib.hid (HB5.out.below hbx)
      have HB0x:=Lib.hid (HB0.out.below hbx)
      have hsx:=hbx.size
      clear hbx
      by_cases htl:t<tiles b.dev
      ·have hdt:decide ((t:Int)<(tiles b.dev:Int))=true:=by simp;omega
       have hmem:=HMR.out t
       go_wp2_with fail
       refine (has_any TA m tc (regTiles b.dev b.reg) (t:Int) _ HTx.out (by omega)).mono ?_
       rintro e w' ⟨he,rfl⟩
       obtain ⟨j2,hj2⟩:∃j:Nat,j=2 * t:=⟨_,rfl⟩
       have a2:IntKind.i64.wrap (2 * (t:Int))=(j2:Int):=(IntWalk.i64_in _ (by omega)).trans (by omega)
       have a3:IntKind.i64.wrap ((j2:Int)+1)=((j2+1:Nat):Int):=(IntWalk.i64_in _ (by omega)).trans (by omega)
       have hn4:=HN4.out
       have hn5:=HN5.out
       have hn0:=HN0.out
       obtain ⟨x0,x1,x2,x3,x4,x5,x6,x7,x8,x9,x10,x11⟩:=HX0x.out.cells
       obtain ⟨u0,u1,u2,u3,u4,u5,u6,u7,u8,u9,u10,u11⟩:=HX4x.out.cells
       obtain ⟨v0,v1,v2,v3,v4,v5,v6,v7,v8,v9,v10,v11⟩:=HX5x.out.cells
       obtain ⟨A1,n1,c1',A2,n2,c2',A3,n3,c3'⟩:=s
       obtain ⟨D1,d1,e1,D2,d2,e2,D3,d3,e3⟩:=R4
       obtain ⟨E1,p1,r1,E2,p2,r2,E3,p3,r3⟩:=R5
       simp only at hn4 hn5 hn0 x0 x1 x2 x3 x4 x5 x6 x7 x8 x9 x10 x11 u0 u1 u2 u3 u4 u5 u6 u7 u8 u9 u10 u11 v0 v1 v2 v3 v4 v5 v6 v7 v8 v9 v10 v11
       obtain ⟨sb,so,hsA,hsb,hsc⟩:=HB0x.out.2 (by simp only;omega)
       obtain ⟨ub,uo,huA,hub,huc⟩:=HB4x.out.2 (by simp only;omega)
       obtain ⟨vb,vo,hvA,hvb,hvc⟩:=HB5x.out.2 (by simp only;omega)
       obtain ⟨nb,no,hnA,hnb,hnc⟩:=HNx.out.2 (by omega)
       obtain ⟨mb,mo,hmA,hmb,hmc⟩:=HMx.out.2 (by omega)
       simp only at hsA huA hvA
       subst hsA huA hvA hnA hmA
       have hs2:=hsc j2 (by simp only;omega)
       have hs3:=hsc (j2+1) (by simp only;omega)
       have hu2:=huc j2 (by simp only;omega)
       have hu3:=huc (j2+1) (by simp only;omega)
       have hv2:=hvc j2 (by simp only;omega)
       have hv3:=hvc (j2+1) (by simp only;omega)
       have hnt:=hnc t htl
       have hmt:=hmc t htl
       have q1:j2<n2:=by omega
       have q2:j2+1<n2:=by omega
       have q3:j2<d2:=by omega
       have q4:j2+1<d2:=by omega
       have q5:j2<p2:=by omega
       have q6:j2+1<p2:=by omega
       have i0:(0:Int)≤(t:Int):=by omega
       have i1:(t:Int)<(tiles b.dev:Int):=by omega
       have l0:=heap_lt0 HX0x.out
       have l4:=heap_lt0 HX4x.out
       have l5:=heap_lt0 HX5x.out
       have HHJ:=Lib.hid hj2
       clear hsc huc hvc hnc hmc hn4 hn5 hn0
       cases hin:inReg b.dev b.reg (t:Int) with
       | true =>
        have hz:=HSO.out.zero t htl hin
        have w2':=HSO.out.still.same j2 (by rw [show ((j2 / 2:Nat):Int)=(t:Int) by omega];exact hin)
        have w3':=HSO.out.still.same (j2+1) (by rw [show (((j2+1) / 2:Nat):Int)=(t:Int) by omega];exact hin)
        rw [decide_eq_true (hmem.2 ⟨htl,hin⟩)] at he
        rw [hz] at hnt
        rw [w2'] at hu2
        rw [w3'] at hu3
        subst he
        clear hj2 hmem hz w2' w3' hv2 hv3 hmt hin
        generalize b.state[j2]?.getD 0=kk2 at *
        generalize b.state[j2+1]?.getD 0=kk3 at *
        go_wp2_with fail
        have hsub:=sub_ne wr
        have hsc:=sub_cell wr
        refine wp_region_below wr (by kernel_rfl) (by kernel_rfl) (Below.refl _ _) ?_
        repeat (go_big_quiet_step (fail))
        refine wpQuiet_nil ?_
        rintro _ ⟨⟨w4,hD⟩,rfl⟩
        clear hsub hsc
        have HBY:=Lib.hid (below_tr HBX.out hD)
        clear hD x0 x1 x2 x3 x4 x5 x6 x7 x8 x9 x10 x11 u0 u1 u2 u3 u4 u5 u6 u7 u8 u9 u10 u11 v0 v1 v2 v3 v4 v5 v6 v7 v8 v9 v10 v11
        go_wp2_with fail
        go_roundw
        case rel=>exact ⟨t+1,by omega,by go_num,HBY.out⟩
        case measure=>simp [intOf];omega
       | false =>
        have hz:=HSO.out.same t hin
        have w2':=HSO.out.still.sta.2 j2 (by rw [show ((j2 / 2:Nat):Int)=(t:Int) by omega];exact hin)
        have w3':=HSO.out.still.sta.2 (j2+1) (by rw [show (((j2+1) / 2:Nat):Int)=(t:Int) by omega];exact hin)
        rw [decide_eq_false (fun h=>by have:=(hmem.1 h).2;rw [hin] at this;cases this)] at he
        rw [hz] at hnt
        rw [w2'] at hu2
        rw [w3'] at hu3
        subst he
        clear hj2 hmem hz w2' w3' hs2 hs3 hin
        generalize oC[t]?.getD 0=kk1 at *
        generalize C'.state[j2]?.getD 0=kk2 at *
        generalize C'.state[j2+1]?.getD 0=kk3 at *
        go_wp2_with fail
        have hsub:=sub_ne wr
        have hsc:=sub_cell wr
        refine wp_region_below wr (by kernel_rfl) (by kernel_rfl) (Below.refl _ _) ?_
        repeat (go_big_quiet_step (fail))
        refine wpQuiet_nil ?_
        rintro _ ⟨⟨w4,hD⟩,rfl⟩
        clear hsub hsc
        have HBY:=Lib.hid (below_tr HBX.out hD)
        clear hD x0 x1 x2 x3 x4 x5 x6 x7 x8 x9 x10 x11 u0 u1 u2 u3 u4 u5 u6 u7 u8 u9 u10 u11 v0 v1 v2 v3 v4 v5 v6 v7 v8 v9 v10 v11
        go_wp2_with fail
        go_roundw
        case rel=>exact ⟨t+1,by omega,by go_num,HBY.out⟩
        case measure=>simp [intOf];omega
      ·have htn:t=tiles b.dev:=by omega
       subst htn
       have hdt:decide ((tiles b.dev:Int)<(tiles b.dev:Int))=false:=by simp
       have HXLx:=Lib.hid (HXLr.out.tr HBX.out)
       have HXCx:=Lib.hid (HXCr.out.tr HBX.out)
       have HBEx:=Lib.hid (below_tr HBE.out HBX.out)
       have HF4x:=Lib.hid (HF4.out.same HBX.out)
       have HF5x:=Lib.hid (HF5.out.same HBX.out)
       obtain ⟨u0,u1,u2,u3,u4,u5,u6,u7,u8,u9,u10,u11⟩:=HX4x.out.cells
       have lz:=heap_lt0 HXLx.out
       have yz:=HXLx.out.soft
       obtain ⟨y0,y1,y2,y3,y4,y5,y6,y7,y8,y9,y10,y11⟩:=HXLx.out.cells
       go_upto_region 26 with fail
       generalize hWE:World.setCell _ _ _=WE
       obtain ⟨e1,e2,e3,e4⟩:=fin12 hWE HXLx.out HBEx.out (by omega)
       have HE1:=Lib.hid e1
       have HE3:=Lib.hid e3
       have HX5y:=Lib.hid (HX5x.out.chg e4 (by omega))
       have HXCy:=Lib.hid (HXCx.out.chg e4 (by omega))
       have HTy:=Lib.hid (HTx.out.chg1 e4 (fun a ha=>(HTN.out a ha).2))
       have HF4y:=Lib.hid (HF4x.out.chg1 e4 (.inr rfl))
       have HF5y:=Lib.hid (HF5x.out.chg1 e4 (.inr rfl))
       clear hWE e1 e3 e4 u0 u1 u2 u3 u4 u5 u6 u7 u8 u9 u10 u11 y0 y1 y2 y3 y4 y5 y6 y7 y8 y9 y10 y11 yz lz
       obtain ⟨v0,v1,v2,v3,v4,v5,v6,v7,v8,v9,v10,v11⟩:=HX5y.out.cells
       obtain ⟨y0,y1,y2,y3,y4,y5,y6,y7,y8,y9,y10,y11⟩:=HXCy.out.cells
       have lz:=heap_lt0 HXCy.out
       have yz:=HXCy.out.soft
       go_wp2_with fail
       generalize hWE:World.setCell _ _ _=WF
       obtain ⟨e1,e5,e3,e4⟩:=fin12 hWE HXCy.out HE3.out (by omega)
       have HE5:=Lib.hid (HE1.out.chg e4 (by omega))
       have HTz:=Lib.hid (HTy.out.chg1 e4 (fun a ha=>(HTN.out a ha).1))
       have HF4z:=Lib.hid (HF4y.out.chg1 e4 (.inl rfl))
       have HF5z:=Lib.hid (HF5y.out.chg1 e4 (.inl rfl))
       clear hWE e4 v0 v1 v2 v3 v4 v5 v6 v7 v8 v9 v10 v11 y0 y1 y2 y3 y4 y5 y6 y7 y8 y9 y10 y11 yz lz
       go_roundw
       case rel=>exact ⟨k+1,L',C',R4,R5,by omega,by go_num,HSO.out.still,HE5.out,e1,.inr ⟨_,_,HF4z.out⟩,⟨_,_,HF5z.out⟩,HTz.out,e3⟩
       case measure=>simp [intOf];omega
    ·have hk3:k=3:=by omega
     subst hk3
     have hdk:decide (((3:Nat):Int)<3)=false:=by decide
     obtain ⟨x0,x1,x2,x3,x4,x5,x6,x7,x8,x9,x10,x11⟩:=HX0r.out.cells
     go_wp2_with fail
     clear x0 x1 x2 x3 x4 x5 x6 x7 x8 x9 x10 x11
     refine (regionQuiet_any b.dev s.A3 s.n3 s.c3 b.saved b.reg _ HR0r.out.saved hz3).mono ?_
     rintro e w15 ⟨he,b15⟩
     rw [HRQ.out] at he
     subst he
     have HB15:=Lib.hid (below_tr HBE.out b15)
     clear b15
     go_wp2_with fail
     go_ret
     exact ⟨rfl,below_tr HW2.out HB15.out⟩
  ·have hq:(b.phase != 1)=true:=by simp;exact hp
   have h0:b.phase=0:=by rcases HGD.out.ph with h|h;exact h;exact absurd h hp
   have hq2:(b.phase==0)=true:=by rw [h0];rfl
   clear hp h0
   obtain ⟨x0,x1,x2,x3,x4,x5,x6,x7,x8,x9,x10,x11⟩:=HX0.out.cells
   go_wp2_with fail
   generalize hW2:(w1.alloc (.cells (bdArr b s) 31))=w2 at *
   generalize hg0:w1.heap.size=g0 at *
   clear hW2 hg0 hszA x0 x1 x2 x3 x4 x5 x6 x7 x8 x9 x10 x11
   refine (boardOk_any b s _ HR0.out hz1 hz2 hz3).mono ?_
   rintro e w3 ⟨he,b3⟩
   rw [HGD.out.bk] at he
   subst he
   have HX3:=Lib.hid (HX0.out.tr b3)
   have HW3:=Lib.hid (below_tr HW.out b3)
   clear b3
   obtain ⟨x0,x1,x2,x3,x4,x5,x6,x7,x8,x9,x10,x11⟩:=HX3.out.cells
   go_wp2_with fail
   go_ret
   exact ⟨rfl,HW3.out⟩
 ·have d:decide ((n:Int)>1048576)=true:=by simp;omega
  go_enter Tryz.func3,Tryz.ntmps3
  go_wp2_with (go_at_call 9;refine (big_any _ _ _ _).mono ?_;rintro e w' ⟨rfl,rfl⟩)
  go_ret
  exact ⟨rfl,Below.refl _ _⟩
end Go.Proofs.YtbnfdhidgdfbeaaGreat
