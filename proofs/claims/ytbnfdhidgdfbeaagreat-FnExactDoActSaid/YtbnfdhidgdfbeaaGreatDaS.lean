/- DoAct of the reference (printed by mkop.py). -/
import Derived.Test.YtbnfdhidgdfbeaaGreatAbS
import Derived.Test.YtbnfdhidgdfbeaaGreatAcS
import Derived.Test.YtbnfdhidgdfbeaaGreatBeS
import Derived.Test.YtbnfdhidgdfbeaaGreatCoS
import Derived.Test.YtbnfdhidgdfbeaaGreatDa
import Derived.Test.YtbnfdhidgdfbeaaGreatScS
import Derived.Test.YtbnfdhidgdfbeaaGreatSpS
import Derived.Test.YtbnfdhidgdfbeaaGreatUpS
import Derived.Test.YtbnfdhidgdfbeaaGreatWrS
namespace Go.Proofs.YtbnfdhidgdfbeaaGreat
set_option maxRecDepth 100000
open Go.RowKit
theorem l07Bit_i (c:Bool) (w:World) :
  Calls Tryz.prog 85 #[.bool c] w fun e w'=>e = .returned (.int .i64 (bitI c))∧w=w':=l07Bit_any c w
set_option maxHeartbeats 4000000 in
theorem sdoAct_any (b:Bd) (s:Sl3) (x:Ac) (WA:Option Addr) (wn wc:Nat) (w:World) (hA:BoardRd w b s) (hI:Ints w WA wn x.words) (hz1:size2 b.frames≤1099511627776) (h2:s.n2≤16777216) (h3:size2 b.saved≤1099511627776) (hwn:wn≤1099511627776) :
  Calls Tryz.prog 32 #[.agg (bdArr b s),.agg (acArr x WA wn wc)] w fun e w'=>∃R,e = .returned (.tuple #[.agg (bdArr (daB b x) R),.int .i64 (daN b x)])∧BoardFp w.heap.size w'.heap.size w' (daB b x) R∧Below w.heap.size w w':=by
 have hz:BdOk b:=⟨hz1,by have:=hA.state.1;omega,h3⟩
 have HI:=Lib.hid hA
 have HB:=Lib.hid (below_new (below_new (below_new (Below.refl w.heap.size w) (.cells (bdArr b s) 31)) (.cells (acArr x WA wn wc) 66)) (.cells z12 31))
 have HX:Hid (BkAt (((w.alloc (.cells (bdArr b s) 31)).alloc (.cells (acArr x WA wn wc) 66)).alloc (.cells z12 31)) w.heap.size b s):=heap_al _ (heap_al _ (heap_new _ _))
 have HZ:Hid (BkAt (((w.alloc (.cells (bdArr b s) 31)).alloc (.cells (acArr x WA wn wc) 66)).alloc (.cells z12 31)) (w.heap.size+2) zBd zSl):=heap_newAt (by simp)
 have hsz:w.heap.size+3≤(((w.alloc (.cells (bdArr b s) 31)).alloc (.cells (acArr x WA wn wc) 66)).alloc (.cells z12 31)).heap.size:=by simp
 have HIW:=Lib.hid hI
 clear hI
 have HAc:Hid ((((w.alloc (.cells (bdArr b s) 31)).alloc (.cells (acArr x WA wn wc) 66)).alloc (.cells z12 31)).heap[w.heap.size+1]?=some (.cells (acArr x WA wn wc) 66 (0,0))):=heap_al _ (heap_newAt (by simp))
 clear hA
 go_enter Tryz.func32,Tryz.ntmps32
 go_wp2_with fail
 generalize hW:(((w.alloc (.cells (bdArr b s) 31)).alloc (.cells (acArr x WA wn wc) 66)).alloc (.cells z12 31))=W at *
 clear hW
 refine (sactOk_any b s x WA wn wc _ (HI.out.below HB.out) (HIW.out.below HB.out) hz1 h2 h3 hwn).mono ?_
 rintro e w3 ⟨rfl,b3⟩
 have hs0:=b3.size
 replace HB:=Lib.hid (below_tr HB.out b3)
 replace HX:=Lib.hid (HX.out.tr b3)
 replace HZ:=Lib.hid (HZ.out.tr b3)
 replace HAc:=Lib.hid (heap_tr b3 HAc.out)
 clear b3
 cases hok:actOk b x with
 | false =>
  have HU:Hid (daB b x=b):=by show _=_;unfold daB;rw [hok];rfl
  have HV:Hid (daN b x=-1):=by show _=_;unfold daN;rw [hok];rfl
  clear hok
  obtain ⟨x0,x1,x2,x3,x4,x5,x6,x7,x8,x9,x10,x11⟩:=HX.out.cells
  go_wp2_with fail
  clear x0 x1 x2 x3 x4 x5 x6 x7 x8 x9 x10 x11
  refine (sl44Copy_any b s _ (HI.out.below HB.out) hz).mono ?_
  rintro e w5 ⟨R,rfl,a5,b5⟩
  have HF:=Lib.hid a5.fp
  have hs1:=b5.size
  replace HB:=Lib.hid (below_tr HB.out b5)
  replace HX:=Lib.hid (HX.out.tr b5)
  replace HZ:=Lib.hid (HZ.out.tr b5)
  replace HAc:=Lib.hid (heap_tr b5 HAc.out)
  clear a5 b5
  obtain ⟨z0,z1,z2,z3,z4,z5,z6,z7,z8,z9,z10,z11⟩:=HZ.out.cells
  have yz:=HZ.out.soft
  go_wp2_with fail
  clear z0 z1 z2 z3 z4 z5 z6 z7 z8 z9 z10 z11 yz
  generalize hWF:World.setCell _ _ _=WF
  obtain ⟨hbk,hszF,hBF,hCF⟩:=fin12 (W:=w5) (b':=b) (s':=R) hWF (HZ.out) (HB.out) (by omega)
  have hR:BoardFp w.heap.size WF.heap.size WF b R:=((HF.out).chg hCF (.inr (by omega))).widen (by omega) (by omega)
  clear hWF
  refine bodyPost_ret (v := .tuple #[.agg (bdArr b R),.int .i64 (-1)]) (results_cell2 Tryz.results32 rfl hbk Tryz.underlying31 (by kernel_rfl)) rfl ⟨R,by rw [HU.out,HV.out],by rw [HU.out];exact hR,hBF⟩
 | true =>
  obtain ⟨hbk0,hkk⟩:=act_kind hok
  have HOK:=Lib.hid hok
  have HBK:=Lib.hid hbk0
  clear hok hbk0
  obtain ⟨x0,x1,x2,x3,x4,x5,x6,x7,x8,x9,x10,x11⟩:=HX.out.cells
  go_upto_region 5 with fail
  clear x0 x1 x2 x3 x4 x5 x6 x7 x8 x9 x10 x11
  have b2:Below w3.heap.size w3 (w3.alloc (.cells (bdArr b s) 31)):=below_new (Below.refl _ _) _
  have HO:Hid (BkAt (w3.alloc (.cells (bdArr b s) 31)) w3.heap.size b s):=heap_new _ _
  have hsO:w3.heap.size<(w3.alloc (.cells (bdArr b s) 31)).heap.size:=by simp
  replace HB:=Lib.hid (below_tr HB.out b2)
  replace HX:=Lib.hid (HX.out.tr b2)
  replace HZ:=Lib.hid (HZ.out.tr b2)
  replace HAc:=Lib.hid (heap_tr b2 HAc.out)
  generalize hW2:(w3.alloc (.cells (bdArr b s) 31))=W2 at *
  clear hW2 b2
  rcases hkk with hk|hk|hk|hk|hk|hk|hk
  ·have HKK:=Lib.hid hk
   have q0:(x.kind==0)=true:=by rw [hk];rfl
   have q2:(x.kind==2)=false:=by rw [hk];rfl
   have q1:(x.kind==1)=false:=by rw [hk];rfl
   have q3:(x.kind==3)=false:=by rw [hk];rfl
   have q4:(x.kind==4)=false:=by rw [hk];rfl
   have q5:(x.kind==5)=false:=by rw [hk];rfl
   clear hk
   have HU:Hid (daB b x=spB b (daP b x)):=by show _=_;unfold daB;rw [HOK.out];simp [HKK.out]
   have HV:Hid (daN b x=bitsAt (spN b (daP b x)) (tofF b.dev 0)):=by show _=_;unfold daN;rw [HOK.out];simp [HKK.out]
   have HDP:Hid (daP b x=padsFor b.dev (tofF b.dev 0) x.A):=rfl
   obtain ⟨x0,x1,x2,x3,x4,x5,x6,x7,x8,x9,x10,x11⟩:=HX.out.cells
   obtain ⟨a0,a1,a2,a3,a4,a5,a6,a7,a8⟩:=cells9 HAc.out
   go_wp2_with fail
   clear x0 x1 x2 x3 x4 x5 x6 x7 x8 x9 x10 x11
   clear a0 a1 a2 a3 a4 a5 a6 a7 a8
   refine (stilesOf_kd b.dev 0 _).mono ?_
   rintro e w4 ⟨TA,m,tc,rfl,o4,b4⟩
   have hmb:m≤36:=by have h1:=tofF_le b.dev 0;have h2:=o4.len;omega
   have HT:=Lib.hid o4.ints
   have hs2:=b4.size
   replace HB:=Lib.hid (below_tr HB.out b4)
   replace HX:=Lib.hid (HX.out.tr b4)
   replace HZ:=Lib.hid (HZ.out.tr b4)
   replace HAc:=Lib.hid (heap_tr b4 HAc.out)
   replace HO:=Lib.hid (HO.out.tr b4)
   clear b4 o4
   have hpl:(daP b x).length≤36:=padsFor_le _ _ _
   have hnl:=spN_le b (daP b x)
   have HPF:=Lib.hid (fun (w':World) (h:Ints w' TA m (tofF b.dev 0))=>spadsFor_any b.dev TA m tc (tofF b.dev 0) x.A w' h (by omega))
   rw [←HDP.out] at HPF
   generalize daP b x=ps at *
   generalize tofF b.dev 0=T0 at *
   obtain ⟨x0,x1,x2,x3,x4,x5,x6,x7,x8,x9,x10,x11⟩:=HX.out.cells
   obtain ⟨a0,a1,a2,a3,a4,a5,a6,a7,a8⟩:=cells9 HAc.out
   go_upto_region 9 with fail
   go_cut [9,10] (fun p u w'=>StepCut w4 (spB b ps) (spN b ps) p u w')
   case first =>
    have hD:=Below.refl w4.heap.size w4
    have hlx:w.heap.size<w4.heap.size:=by omega
    have hla:w.heap.size+1<w4.heap.size:=by omega
    have hdr:w4.heap.size≤w4.drew.heap.size:=Nat.le_refl _
    go_wp2_with fail
    go_region_held3 (fun w'=>Below w4.heap.size w4 w'∧∀b o,b<w4.heap.size→w'.cell? ⟨b,o,none⟩=w4.cell? ⟨b,o,none⟩)
     (first|with_reducible exact ⟨hD,(bcell hD).1⟩|with_reducible exact ⟨hD.drew,(bcell hD.drew).1⟩|(refine ⟨?_,(bcell ?_).1⟩ <;> (repeat (first|with_reducible exact hD|with_reducible exact hD.drew|with_reducible refine below_new ?_ _|with_reducible refine Below.drew ?_|with_reducible refine Below.setCell ?_ (by simp only;omega) _))))
     (first
      | (go_at_call 77;(with_reducible refine (HPF.out _ (HT.out.below (by first|with_reducible exact hD|with_reducible exact hD.drew|with_reducible exact below_new hD _|with_reducible exact (below_new hD _).drew|with_reducible exact below_new hD.drew _|with_reducible exact (below_new hD.drew _).drew))).mono ?_);rintro e wk ⟨PA,pn,pc,rfl,oP,bw⟩;have hpn:pn≤1099511627776:=(by have h1:=oP.len;omega);have HPI:=Lib.hid oP.ints;have hD2:=below_tr (a:=w4) (by first|with_reducible exact hD|with_reducible exact hD.drew|with_reducible exact below_new hD _|with_reducible exact (below_new hD _).drew|with_reducible exact below_new hD.drew _|with_reducible exact (below_new hD.drew _).drew) bw;have hbP:=Lib.hid bw;have hBP:=Below.refl wk.heap.size wk;have hsz:=hD2.size;have hsz2:=bw.size;(try simp only [World.size_drew] at hsz2);(try simp only [World.size_alloc] at hsz2);(try have hlt2:=Nat.lt_of_succ_le hsz2);obtain ⟨hcc,hff⟩:=bcell bw;clear bw oP;replace hD:=hD2)
      | (go_at_call 15;(with_reducible refine (sstepBoard_any b s PA pn pc ps _ (HI.out.below (below_tr HB.out (by first|with_reducible exact hD|with_reducible exact hD.drew|with_reducible exact below_new hD _|with_reducible exact (below_new hD _).drew|with_reducible exact below_new hD.drew _|with_reducible exact (below_new hD.drew _).drew))) (HPI.out.below (by first|with_reducible exact hBP|with_reducible exact hBP.drew|with_reducible exact below_new hBP _|with_reducible exact (below_new hBP _).drew|with_reducible exact below_new hBP.drew _|with_reducible exact (below_new hBP.drew _).drew)) hz1 h2 h3 hpn).mono ?_);rintro e wk ⟨R,A,n,c,rfl,md,f,oN,⟨u1,u2,lN⟩,bw⟩;have HFK:=Lib.hid f;have HOK2:=Lib.hid oN;have HBK2:=Lib.hid bw;have hD2:=below_tr (a:=w4) (by first|with_reducible exact hD|with_reducible exact hD.drew|with_reducible exact below_new hD _|with_reducible exact (below_new hD _).drew|with_reducible exact below_new hD.drew _|with_reducible exact (below_new hD.drew _).drew) bw;have hsz:=hD2.size;have hsz2:=bw.size;(try simp only [World.size_drew] at hsz2);(try simp only [World.size_alloc] at hsz2);(try have hlt2:=Nat.lt_of_succ_le hsz2);obtain ⟨hcc,hff⟩:=bcell bw;clear bw f oN lN;replace hD:=hD2))
    all_goals
     go_wp2_with fail
     go_meet
     try simp only [drew_set,drew_alloc]
     first|((with_reducible refine (stepA hD HFK.out HOK2.out ?_ ?_)) <;> first|omega|(simp;omega))|((with_reducible refine StepCut.drew (stepA hD HFK.out HOK2.out ?_ ?_)) <;> first|omega|(simp;omega))|((with_reducible refine StepCut.drews (stepA hD HFK.out HOK2.out ?_ ?_)) <;> first|omega|(simp;omega))|((with_reducible refine (stepB (b0:=zBd) (R0:=zSl) ?_ HBK2.out HFK.out HOK2.out hD ?_ ?_ ?_)) <;> first|omega|(simp;omega)|exact heap_new _ _|exact heap_tr hbP.out (heap_new _ _))|((with_reducible refine StepCut.drew (stepB (b0:=zBd) (R0:=zSl) ?_ HBK2.out HFK.out HOK2.out hD ?_ ?_ ?_)) <;> first|omega|(simp;omega)|exact heap_new _ _|exact heap_tr hbP.out (heap_new _ _))|((with_reducible refine StepCut.drews (stepB (b0:=zBd) (R0:=zSl) ?_ HBK2.out HFK.out HOK2.out hD ?_ ?_ ?_)) <;> first|omega|(simp;omega)|exact heap_new _ _|exact heap_tr hbP.out (heap_new _ _))
   clear x0 x1 x2 x3 x4 x5 x6 x7 x8 x9 x10 x11
   clear a0 a1 a2 a3 a4 a5 a6 a7 a8
   obtain ⟨w5,g5,R,lo5,hi5,A5,n5,c5,rfl,rfl,hbk5,hg5,hlo5,hhi5,hF5,hN5,hD5,rfl⟩:=hcut
   have hs5:=hD5.size
   have hgl5:=heap_lt0 hbk5
   have HF:=Lib.hid hF5
   have HN:=Lib.hid hN5
   have HG:=Lib.hid hbk5
   have hn5:n5≤1000000:=by have h1:=hN5.1;omega
   have hs3:=hD5.size
   replace HB:=Lib.hid (below_tr HB.out hD5)
   replace HX:=Lib.hid (HX.out.tr hD5)
   replace HZ:=Lib.hid (HZ.out.tr hD5)
   replace HAc:=Lib.hid (heap_tr hD5 HAc.out)
   replace HO:=Lib.hid (HO.out.tr hD5)
   replace HT:=Lib.hid (HT.out.below hD5)
   clear hD5 hF5 hN5 hbk5
   generalize spB b ps=B9 at *
   generalize spN b ps=N9 at *
   have HEND:Hid (∀w8:World,Below w5.heap.size w5 w8→∀W0:World,put12 w8 (w.heap.size+2) B9 R=W0→∀WE:World,SameH W0 WE→BkAt WE (w.heap.size+2) B9 R∧BoardFp w.heap.size WE.heap.size WE B9 R∧Below w.heap.size w WE):=fun w8 b8 W0 h0 WE hWE=>by
    have hs8:=b8.size
    exact daEnd (HZ.out.tr b8) (below_tr HB.out b8) (by omega) (HF.out.below b8) (by omega) (by omega) (by omega) (by rw [h0];exact hWE)
   have hr4:(w.heap.size+2)<w5.heap.size:=by omega
   have hD:=Below.refl w5.heap.size w5
   obtain ⟨o0,o1,o2,o3,o4,o5,o6,o7,o8,o9,o10,o11⟩:=HG.out.cells
   obtain ⟨z0,z1,z2,z3,z4,z5,z6,z7,z8,z9,z10,z11⟩:=HZ.out.cells
   have yz:=HZ.out.soft
   have hne5:g5≠(w.heap.size+2):=by omega
   go_wp2_with fail
   go_region_held3 (fun w'=>∀o,w'.cell? ⟨g5,o,none⟩=w5.cell? ⟨g5,o,none⟩)
    (first|with_reducible exact fun o=>(far12 hne5 o).trans ((hD).cell (p:=⟨g5,o,none⟩) hgl5)|with_reducible exact fun o=>(far12 hne5 o).trans ((hD.drew).cell (p:=⟨g5,o,none⟩) hgl5)|with_reducible exact fun o=>(hD).cell (p:=⟨g5,o,none⟩) hgl5|with_reducible exact fun o=>(hD.drew).cell (p:=⟨g5,o,none⟩) hgl5)
    ((go_at_call 78;(with_reducible refine (sbitsAt_any A5 n5 c5 N9 TA m tc T0 _ (HN.out.below (by first|with_reducible exact hD|with_reducible exact hD.drew)) (HT.out.below (by first|with_reducible exact hD|with_reducible exact hD.drew)) (by omega) (by omega)).mono ?_);rintro e w8 ⟨rfl,b8⟩;have hD2:=below_tr (a:=w5) (by first|with_reducible exact hD|with_reducible exact hD.drew) b8;clear b8;replace hD:=hD2;clear z0 z1 z2 z3 z4 z5 z6 z7 z8 z9 z10 z11 yz;have HZc:=HZ.out.tr hD;obtain ⟨z0,z1,z2,z3,z4,z5,z6,z7,z8,z9,z10,z11⟩:=HZc.cells;have yz:=HZc.soft;clear HZc))
   all_goals
    clear o0 o1 o2 o3 o4 o5 o6 o7 o8 o9 o10 o11 z0 z1 z2 z3 z4 z5 z6 z7 z8 z9 z10 z11 yz
    go_wp2_with fail
    try simp only [drew_set,drew_alloc]
    generalize hWE:World.setCell _ _ _=WE
    have HE:=HEND.out w8 hD WE hWE
    clear hWE HEND
    refine bodyPost_ret (v := .tuple #[.agg (bdArr B9 R),.int .i64 (bitsAt N9 T0)]) (results_cell2 Tryz.results32 rfl (HE _ ⟨rfl,rfl,rfl,rfl⟩).1 Tryz.underlying31 (by kernel_rfl)) rfl ?_
    exact ⟨R,by rw [HU.out,HV.out],by rw [HU.out];exact (HE _ (by exact ⟨rfl,rfl,rfl,rfl⟩)).2⟩
  ·have HKK:=Lib.hid hk
   have q0:(x.kind==0)=false:=by rw [hk];rfl
   have q2:(x.kind==2)=false:=by rw [hk];rfl
   have q1:(x.kind==1)=true:=by rw [hk];rfl
   have q3:(x.kind==3)=false:=by rw [hk];rfl
   have q4:(x.kind==4)=false:=by rw [hk];rfl
   have q5:(x.kind==5)=false:=by rw [hk];rfl
   clear hk
   have HU:Hid (daB b x=upB b x.A x.B x.C):=by show _=_;unfold daB;rw [HOK.out];simp [HKK.out]
   have HV:Hid (daN b x=bitI (upO b x.A x.B x.C)):=by show _=_;unfold daN;rw [HOK.out];simp [HKK.out]
   obtain ⟨x0,x1,x2,x3,x4,x5,x6,x7,x8,x9,x10,x11⟩:=HX.out.cells
   obtain ⟨a0,a1,a2,a3,a4,a5,a6,a7,a8⟩:=cells9 HAc.out
   go_wp2_with fail
   clear x0 x1 x2 x3 x4 x5 x6 x7 x8 x9 x10 x11
   clear a0 a1 a2 a3 a4 a5 a6 a7 a8
   refine (supsetBit_any b s x.A x.B x.C _ (HI.out.below HB.out) hz1 h2 h3).mono ?_
   rintro e w5 ⟨R,rfl,f5,b5⟩
   have HF:=Lib.hid f5
   have hs2:=b5.size
   replace HB:=Lib.hid (below_tr HB.out b5)
   replace HX:=Lib.hid (HX.out.tr b5)
   replace HZ:=Lib.hid (HZ.out.tr b5)
   replace HAc:=Lib.hid (heap_tr b5 HAc.out)
   replace HO:=Lib.hid (HO.out.tr b5)
   clear f5 b5
   generalize upB b x.A x.B x.C=B9 at *
   generalize upO b x.A x.B x.C=C9 at *
   obtain ⟨o0,o1,o2,o3,o4,o5,o6,o7,o8,o9,o10,o11⟩:=HO.out.cells
   have yo:=HO.out.soft
   go_upto_region 22 with fail
   clear o0 o1 o2 o3 o4 o5 o6 o7 o8 o9 o10 o11 yo
   generalize hW6:World.setCell _ _ _=W6
   obtain ⟨hb6,hs6,hB6,hC6⟩:=fin12 (W:=w5) (b':=B9) (s':=R) hW6 HO.out HB.out (by omega)
   have HB6:=Lib.hid hB6
   have HO6:=Lib.hid hb6
   have HZ6:=Lib.hid (HZ.out.chg hC6 (.inl (by omega)))
   have HF6:=Lib.hid (HF.out.chg hC6 (.inr (by omega)))
   clear hW6 hb6 hB6 hC6
   have HEND:Hid (∀W0:World,put12 W6 (w.heap.size+2) B9 R=W0→∀WE:World,SameH W0 WE→BkAt WE (w.heap.size+2) B9 R∧BoardFp w.heap.size WE.heap.size WE B9 R∧Below w.heap.size w WE):=fun W0 h0 WE hWE=>daEnd HZ6.out HB6.out (by omega) HF6.out (by omega) (by omega) (by omega) (by rw [h0];exact hWE)
   have hr4:(w.heap.size+2)<W6.heap.size:=by omega
   have hr5:w3.heap.size<W6.heap.size:=by omega
   obtain ⟨o0,o1,o2,o3,o4,o5,o6,o7,o8,o9,o10,o11⟩:=HO6.out.cells
   obtain ⟨z0,z1,z2,z3,z4,z5,z6,z7,z8,z9,z10,z11⟩:=HZ6.out.cells
   have yz:=HZ6.out.soft
   go_wp2_with fail
   go_region_with ((go_at_call 85;refine (l07Bit_i _ _).mono ?_;rintro e w' ⟨rfl,rfl⟩))
   all_goals
    clear o0 o1 o2 o3 o4 o5 o6 o7 o8 o9 o10 o11 z0 z1 z2 z3 z4 z5 z6 z7 z8 z9 z10 z11 yz
    go_wp2_with fail
    try simp only [drew_set,drew_alloc]
    generalize hWE:World.setCell _ _ _=WE
    have HE:=HEND.out WE hWE
    clear hWE HEND
    refine bodyPost_ret (v := .tuple #[.agg (bdArr B9 R),.int .i64 (bitI C9)]) (results_cell2 Tryz.results32 rfl (HE _ ⟨rfl,rfl,rfl,rfl⟩).1 Tryz.underlying31 (by kernel_rfl)) rfl ?_
    exact ⟨R,by rw [HU.out,HV.out],by rw [HU.out];exact (HE _ (by exact ⟨rfl,rfl,rfl,rfl⟩)).2⟩
  ·have HKK:=Lib.hid hk
   have q0:(x.kind==0)=false:=by rw [hk];rfl
   have q2:(x.kind==2)=true:=by rw [hk];rfl
   have q1:(x.kind==1)=false:=by rw [hk];rfl
   have q3:(x.kind==3)=false:=by rw [hk];rfl
   have q4:(x.kind==4)=false:=by rw [hk];rfl
   have q5:(x.kind==5)=false:=by rw [hk];rfl
   clear hk
   have HU:Hid (daB b x=scB b):=by show _=_;unfold daB;rw [HOK.out];simp [HKK.out]
   have HV:Hid (daN b x=scN b 1+1000 * scN b 2):=by show _=_;unfold daN;rw [HOK.out];simp [HKK.out]
   obtain ⟨c1a,c1b⟩:=scN_bd HBK.out 1
   obtain ⟨c2a,c2b⟩:=scN_bd HBK.out 2
   obtain ⟨x0,x1,x2,x3,x4,x5,x6,x7,x8,x9,x10,x11⟩:=HX.out.cells
   obtain ⟨a0,a1,a2,a3,a4,a5,a6,a7,a8⟩:=cells9 HAc.out
   go_wp2_with fail
   clear x0 x1 x2 x3 x4 x5 x6 x7 x8 x9 x10 x11
   clear a0 a1 a2 a3 a4 a5 a6 a7 a8
   refine (sscrubBoard_any b s _ (HI.out.below HB.out) hz1 h2 h3).mono ?_
   rintro e w5 ⟨R,rfl,f5,b5⟩
   have HF:=Lib.hid f5
   have hs2:=b5.size
   replace HB:=Lib.hid (below_tr HB.out b5)
   replace HX:=Lib.hid (HX.out.tr b5)
   replace HZ:=Lib.hid (HZ.out.tr b5)
   replace HAc:=Lib.hid (heap_tr b5 HAc.out)
   replace HO:=Lib.hid (HO.out.tr b5)
   clear f5 b5
   generalize scB b=B9 at *
   generalize scN b 1=c1 at *
   generalize scN b 2=c2 at *
   go_upto_region 13 with fail
   generalize hW6:World.alloc w5 _=W6
   have hb6:BkAt W6 w5.heap.size B9 R:=by rw [←hW6];exact heap_new _ _
   have hB6:Below w5.heap.size w5 W6:=by rw [←hW6];exact below_new (Below.refl _ _) _
   clear hW6
   have hs6:=hB6.size
   have HO6:=Lib.hid hb6
   have HB6:=Lib.hid (below_tr HB.out hB6)
   have HZ6:=Lib.hid (HZ.out.tr hB6)
   have HF6:=Lib.hid (HF.out.below hB6)
   clear hb6 hB6
   obtain ⟨o0,o1,o2,o3,o4,o5,o6,o7,o8,o9,o10,o11⟩:=HO6.out.cells
   obtain ⟨z0,z1,z2,z3,z4,z5,z6,z7,z8,z9,z10,z11⟩:=HZ6.out.cells
   have yz:=HZ6.out.soft
   go_wp2_with fail
   clear o0 o1 o2 o3 o4 o5 o6 o7 o8 o9 o10 o11 z0 z1 z2 z3 z4 z5 z6 z7 z8 z9 z10 z11 yz
   generalize hWF:World.setCell _ _ _=WF
   obtain ⟨hbk,hszF,hBF,hCF⟩:=fin12 (W:=W6) (b':=B9) (s':=R) hWF (HZ6.out) (HB6.out) (by omega)
   have hR:BoardFp w.heap.size WF.heap.size WF B9 R:=((HF6.out).chg hCF (.inr (by omega))).widen (by omega) (by omega)
   clear hWF
   refine bodyPost_ret (v := .tuple #[.agg (bdArr B9 R),.int .i64 (c1+1000 * c2)]) (results_cell2 Tryz.results32 rfl hbk Tryz.underlying31 (by kernel_rfl)) rfl ⟨R,by rw [HU.out,HV.out],by rw [HU.out];exact hR,hBF⟩
  ·have HKK:=Lib.hid hk
   have q0:(x.kind==0)=false:=by rw [hk];rfl
   have q2:(x.kind==2)=false:=by rw [hk];rfl
   have q1:(x.kind==1)=false:=by rw [hk];rfl
   have q3:(x.kind==3)=true:=by rw [hk];rfl
   have q4:(x.kind==4)=false:=by rw [hk];rfl
   have q5:(x.kind==5)=false:=by rw [hk];rfl
   clear hk
   have HU:Hid (daB b x=beB b x.reg):=by show _=_;unfold daB;rw [HOK.out];simp [HKK.out]
   have HV:Hid (daN b x=bitI (beO b x.reg)):=by show _=_;unfold daN;rw [HOK.out];simp [HKK.out]
   obtain ⟨x0,x1,x2,x3,x4,x5,x6,x7,x8,x9,x10,x11⟩:=HX.out.cells
   obtain ⟨a0,a1,a2,a3,a4,a5,a6,a7,a8⟩:=cells9 HAc.out
   go_wp2_with fail
   clear x0 x1 x2 x3 x4 x5 x6 x7 x8 x9 x10 x11
   clear a0 a1 a2 a3 a4 a5 a6 a7 a8
   refine (sbeginRegion_any b s x.reg _ (HI.out.below HB.out) hz1 h2 h3).mono ?_
   rintro e w5 ⟨R,rfl,f5,b5⟩
   have HF:=Lib.hid f5
   have hs2:=b5.size
   replace HB:=Lib.hid (below_tr HB.out b5)
   replace HX:=Lib.hid (HX.out.tr b5)
   replace HZ:=Lib.hid (HZ.out.tr b5)
   replace HAc:=Lib.hid (heap_tr b5 HAc.out)
   replace HO:=Lib.hid (HO.out.tr b5)
   clear f5 b5
   generalize beB b x.reg=B9 at *
   generalize beO b x.reg=C9 at *
   obtain ⟨o0,o1,o2,o3,o4,o5,o6,o7,o8,o9,o10,o11⟩:=HO.out.cells
   have yo:=HO.out.soft
   go_upto_region 22 with fail
   clear o0 o1 o2 o3 o4 o5 o6 o7 o8 o9 o10 o11 yo
   generalize hW6:World.setCell _ _ _=W6
   obtain ⟨hb6,hs6,hB6,hC6⟩:=fin12 (W:=w5) (b':=B9) (s':=R) hW6 HO.out HB.out (by omega)
   have HB6:=Lib.hid hB6
   have HO6:=Lib.hid hb6
   have HZ6:=Lib.hid (HZ.out.chg hC6 (.inl (by omega)))
   have HF6:=Lib.hid (HF.out.chg hC6 (.inr (by omega)))
   clear hW6 hb6 hB6 hC6
   have HEND:Hid (∀W0:World,put12 W6 (w.heap.size+2) B9 R=W0→∀WE:World,SameH W0 WE→BkAt WE (w.heap.size+2) B9 R∧BoardFp w.heap.size WE.heap.size WE B9 R∧Below w.heap.size w WE):=fun W0 h0 WE hWE=>daEnd HZ6.out HB6.out (by omega) HF6.out (by omega) (by omega) (by omega) (by rw [h0];exact hWE)
   have hr4:(w.heap.size+2)<W6.heap.size:=by omega
   have hr5:w3.heap.size<W6.heap.size:=by omega
   obtain ⟨o0,o1,o2,o3,o4,o5,o6,o7,o8,o9,o10,o11⟩:=HO6.out.cells
   obtain ⟨z0,z1,z2,z3,z4,z5,z6,z7,z8,z9,z10,z11⟩:=HZ6.out.cells
   have yz:=HZ6.out.soft
   go_wp2_with fail
   go_region_with ((go_at_call 85;refine (l07Bit_i _ _).mono ?_;rintro e w' ⟨rfl,rfl⟩))
   all_goals
    clear o0 o1 o2 o3 o4 o5 o6 o7 o8 o9 o10 o11 z0 z1 z2 z3 z4 z5 z6 z7 z8 z9 z10 z11 yz
    go_wp2_with fail
    try simp only [drew_set,drew_alloc]
    generalize hWE:World.setCell _ _ _=WE
    have HE:=HEND.out WE hWE
    clear hWE HEND
    refine bodyPost_ret (v := .tuple #[.agg (bdArr B9 R),.int .i64 (bitI C9)]) (results_cell2 Tryz.results32 rfl (HE _ ⟨rfl,rfl,rfl,rfl⟩).1 Tryz.underlying31 (by kernel_rfl)) rfl ?_
    exact ⟨R,by rw [HU.out,HV.out],by rw [HU.out];exact (HE _ (by exact ⟨rfl,rfl,rfl,rfl⟩)).2⟩
  ·have HKK:=Lib.hid hk
   have q0:(x.kind==0)=false:=by rw [hk];rfl
   have q2:(x.kind==2)=false:=by rw [hk];rfl
   have q1:(x.kind==1)=false:=by rw [hk];rfl
   have q3:(x.kind==3)=false:=by rw [hk];rfl
   have q4:(x.kind==4)=true:=by rw [hk];rfl
   have q5:(x.kind==5)=false:=by rw [hk];rfl
   clear hk
   have HU:Hid (daB b x=wrB b x.A x.words):=by show _=_;unfold daB;rw [HOK.out];simp [HKK.out]
   have HV:Hid (daN b x=bitI (wrO b x.A x.words)):=by show _=_;unfold daN;rw [HOK.out];simp [HKK.out]
   obtain ⟨x0,x1,x2,x3,x4,x5,x6,x7,x8,x9,x10,x11⟩:=HX.out.cells
   obtain ⟨a0,a1,a2,a3,a4,a5,a6,a7,a8⟩:=cells9 HAc.out
   go_wp2_with fail
   clear x0 x1 x2 x3 x4 x5 x6 x7 x8 x9 x10 x11
   clear a0 a1 a2 a3 a4 a5 a6 a7 a8
   refine (swriteRegion_any b s x.A WA wn wc x.words _ (HI.out.below HB.out) (HIW.out.below HB.out) hz1 h2 h3 hwn).mono ?_
   rintro e w5 ⟨R,rfl,f5,b5⟩
   have HF:=Lib.hid f5
   have hs2:=b5.size
   replace HB:=Lib.hid (below_tr HB.out b5)
   replace HX:=Lib.hid (HX.out.tr b5)
   replace HZ:=Lib.hid (HZ.out.tr b5)
   replace HAc:=Lib.hid (heap_tr b5 HAc.out)
   replace HO:=Lib.hid (HO.out.tr b5)
   clear f5 b5
   generalize wrB b x.A x.words=B9 at *
   generalize wrO b x.A x.words=C9 at *
   obtain ⟨o0,o1,o2,o3,o4,o5,o6,o7,o8,o9,o10,o11⟩:=HO.out.cells
   have yo:=HO.out.soft
   go_upto_region 22 with fail
   clear o0 o1 o2 o3 o4 o5 o6 o7 o8 o9 o10 o11 yo
   generalize hW6:World.setCell _ _ _=W6
   obtain ⟨hb6,hs6,hB6,hC6⟩:=fin12 (W:=w5) (b':=B9) (s':=R) hW6 HO.out HB.out (by omega)
   have HB6:=Lib.hid hB6
   have HO6:=Lib.hid hb6
   have HZ6:=Lib.hid (HZ.out.chg hC6 (.inl (by omega)))
   have HF6:=Lib.hid (HF.out.chg hC6 (.inr (by omega)))
   clear hW6 hb6 hB6 hC6
   have HEND:Hid (∀W0:World,put12 W6 (w.heap.size+2) B9 R=W0→∀WE:World,SameH W0 WE→BkAt WE (w.heap.size+2) B9 R∧BoardFp w.heap.size WE.heap.size WE B9 R∧Below w.heap.size w WE):=fun W0 h0 WE hWE=>daEnd HZ6.out HB6.out (by omega) HF6.out (by omega) (by omega) (by omega) (by rw [h0];exact hWE)
   have hr4:(w.heap.size+2)<W6.heap.size:=by omega
   have hr5:w3.heap.size<W6.heap.size:=by omega
   obtain ⟨o0,o1,o2,o3,o4,o5,o6,o7,o8,o9,o10,o11⟩:=HO6.out.cells
   obtain ⟨z0,z1,z2,z3,z4,z5,z6,z7,z8,z9,z10,z11⟩:=HZ6.out.cells
   have yz:=HZ6.out.soft
   go_wp2_with fail
   go_region_with ((go_at_call 85;refine (l07Bit_i _ _).mono ?_;rintro e w' ⟨rfl,rfl⟩))
   all_goals
    clear o0 o1 o2 o3 o4 o5 o6 o7 o8 o9 o10 o11 z0 z1 z2 z3 z4 z5 z6 z7 z8 z9 z10 z11 yz
    go_wp2_with fail
    try simp only [drew_set,drew_alloc]
    generalize hWE:World.setCell _ _ _=WE
    have HE:=HEND.out WE hWE
    clear hWE HEND
    refine bodyPost_ret (v := .tuple #[.agg (bdArr B9 R),.int .i64 (bitI C9)]) (results_cell2 Tryz.results32 rfl (HE _ ⟨rfl,rfl,rfl,rfl⟩).1 Tryz.underlying31 (by kernel_rfl)) rfl ?_
    exact ⟨R,by rw [HU.out,HV.out],by rw [HU.out];exact (HE _ (by exact ⟨rfl,rfl,rfl,rfl⟩)).2⟩
  ·have HKK:=Lib.hid hk
   have q0:(x.kind==0)=false:=by rw [hk];rfl
   have q2:(x.kind==2)=false:=by rw [hk];rfl
   have q1:(x.kind==1)=false:=by rw [hk];rfl
   have q3:(x.kind==3)=false:=by rw [hk];rfl
   have q4:(x.kind==4)=false:=by rw [hk];rfl
   have q5:(x.kind==5)=true:=by rw [hk];rfl
   clear hk
   have HU:Hid (daB b x=coB b x.A):=by show _=_;unfold daB;rw [HOK.out];simp [HKK.out]
   have HV:Hid (daN b x=bitI (coO b x.A)):=by show _=_;unfold daN;rw [HOK.out];simp [HKK.out]
   obtain ⟨x0,x1,x2,x3,x4,x5,x6,x7,x8,x9,x10,x11⟩:=HX.out.cells
   obtain ⟨a0,a1,a2,a3,a4,a5,a6,a7,a8⟩:=cells9 HAc.out
   go_wp2_with fail
   clear x0 x1 x2 x3 x4 x5 x6 x7 x8 x9 x10 x11
   clear a0 a1 a2 a3 a4 a5 a6 a7 a8
   refine (scommitRegion_any b s x.A _ (HI.out.below HB.out) hz1 h2 h3).mono ?_
   rintro e w5 ⟨R,rfl,f5,b5⟩
   have HF:=Lib.hid f5
   have hs2:=b5.size
   replace HB:=Lib.hid (below_tr HB.out b5)
   replace HX:=Lib.hid (HX.out.tr b5)
   replace HZ:=Lib.hid (HZ.out.tr b5)
   replace HAc:=Lib.hid (heap_tr b5 HAc.out)
   replace HO:=Lib.hid (HO.out.tr b5)
   clear f5 b5
   generalize coB b x.A=B9 at *
   generalize coO b x.A=C9 at *
   obtain ⟨o0,o1,o2,o3,o4,o5,o6,o7,o8,o9,o10,o11⟩:=HO.out.cells
   have yo:=HO.out.soft
   go_upto_region 22 with fail
   clear o0 o1 o2 o3 o4 o5 o6 o7 o8 o9 o10 o11 yo
   generalize hW6:World.setCell _ _ _=W6
   obtain ⟨hb6,hs6,hB6,hC6⟩:=fin12 (W:=w5) (b':=B9) (s':=R) hW6 HO.out HB.out (by omega)
   have HB6:=Lib.hid hB6
   have HO6:=Lib.hid hb6
   have HZ6:=Lib.hid (HZ.out.chg hC6 (.inl (by omega)))
   have HF6:=Lib.hid (HF.out.chg hC6 (.inr (by omega)))
   clear hW6 hb6 hB6 hC6
   have HEND:Hid (∀W0:World,put12 W6 (w.heap.size+2) B9 R=W0→∀WE:World,SameH W0 WE→BkAt WE (w.heap.size+2) B9 R∧BoardFp w.heap.size WE.heap.size WE B9 R∧Below w.heap.size w WE):=fun W0 h0 WE hWE=>daEnd HZ6.out HB6.out (by omega) HF6.out (by omega) (by omega) (by omega) (by rw [h0];exact hWE)
   have hr4:(w.heap.size+2)<W6.heap.size:=by omega
   have hr5:w3.heap.size<W6.heap.size:=by omega
   obtain ⟨o0,o1,o2,o3,o4,o5,o6,o7,o8,o9,o10,o11⟩:=HO6.out.cells
   obtain ⟨z0,z1,z2,z3,z4,z5,z6,z7,z8,z9,z10,z11⟩:=HZ6.out.cells
   have yz:=HZ6.out.soft
   go_wp2_with fail
   go_region_with ((go_at_call 85;refine (l07Bit_i _ _).mono ?_;rintro e w' ⟨rfl,rfl⟩))
   all_goals
    clear o0 o1 o2 o3 o4 o5 o6 o7 o8 o9 o10 o11 z0 z1 z2 z3 z4 z5 z6 z7 z8 z9 z10 z11 yz
    go_wp2_with fail
    try simp only [drew_set,drew_alloc]
    generalize hWE:World.setCell _ _ _=WE
    have HE:=HEND.out WE hWE
    clear hWE HEND
    refine bodyPost_ret (v := .tuple #[.agg (bdArr B9 R),.int .i64 (bitI C9)]) (results_cell2 Tryz.results32 rfl (HE _ ⟨rfl,rfl,rfl,rfl⟩).1 Tryz.underlying31 (by kernel_rfl)) rfl ?_
    exact ⟨R,by rw [HU.out,HV.out],by rw [HU.out];exact (HE _ (by exact ⟨rfl,rfl,rfl,rfl⟩)).2⟩
  ·have HKK:=Lib.hid hk
   have q0:(x.kind==0)=false:=by rw [hk];rfl
   have q2:(x.kind==2)=false:=by rw [hk];rfl
   have q1:(x.kind==1)=false:=by rw [hk];rfl
   have q3:(x.kind==3)=false:=by rw [hk];rfl
   have q4:(x.kind==4)=false:=by rw [hk];rfl
   have q5:(x.kind==5)=false:=by rw [hk];rfl
   clear hk
   have HU:Hid (daB b x=abB b):=by show _=_;unfold daB;rw [HOK.out];simp [HKK.out]
   have HV:Hid (daN b x=bitI (abO b)):=by show _=_;unfold daN;rw [HOK.out];simp [HKK.out]
   obtain ⟨x0,x1,x2,x3,x4,x5,x6,x7,x8,x9,x10,x11⟩:=HX.out.cells
   obtain ⟨a0,a1,a2,a3,a4,a5,a6,a7,a8⟩:=cells9 HAc.out
   go_wp2_with fail
   clear x0 x1 x2 x3 x4 x5 x6 x7 x8 x9 x10 x11
   clear a0 a1 a2 a3 a4 a5 a6 a7 a8
   refine (sabortRegion_any b s _ (HI.out.below HB.out) hz1 h2 h3).mono ?_
   rintro e w5 ⟨R,rfl,f5,b5⟩
   have HF:=Lib.hid f5
   have hs2:=b5.size
   replace HB:=Lib.hid (below_tr HB.out b5)
   replace HX:=Lib.hid (HX.out.tr b5)
   replace HZ:=Lib.hid (HZ.out.tr b5)
   replace HAc:=Lib.hid (heap_tr b5 HAc.out)
   replace HO:=Lib.hid (HO.out.tr b5)
   clear f5 b5
   generalize abB b=B9 at *
   generalize abO b=C9 at *
   obtain ⟨o0,o1,o2,o3,o4,o5,o6,o7,o8,o9,o10,o11⟩:=HO.out.cells
   have yo:=HO.out.soft
   go_upto_region 22 with fail
   clear o0 o1 o2 o3 o4 o5 o6 o7 o8 o9 o10 o11 yo
   generalize hW6:World.setCell _ _ _=W6
   obtain ⟨hb6,hs6,hB6,hC6⟩:=fin12 (W:=w5) (b':=B9) (s':=R) hW6 HO.out HB.out (by omega)
   have HB6:=Lib.hid hB6
   have HO6:=Lib.hid hb6
   have HZ6:=Lib.hid (HZ.out.chg hC6 (.inl (by omega)))
   have HF6:=Lib.hid (HF.out.chg hC6 (.inr (by omega)))
   clear hW6 hb6 hB6 hC6
   have HEND:Hid (∀W0:World,put12 W6 (w.heap.size+2) B9 R=W0→∀WE:World,SameH W0 WE→BkAt WE (w.heap.size+2) B9 R∧BoardFp w.heap.size WE.heap.size WE B9 R∧Below w.heap.size w WE):=fun W0 h0 WE hWE=>daEnd HZ6.out HB6.out (by omega) HF6.out (by omega) (by omega) (by omega) (by rw [h0];exact hWE)
   have hr4:(w.heap.size+2)<W6.heap.size:=by omega
   have hr5:w3.heap.size<W6.heap.size:=by omega
   obtain ⟨o0,o1,o2,o3,o4,o5,o6,o7,o8,o9,o10,o11⟩:=HO6.out.cells
   obtain ⟨z0,z1,z2,z3,z4,z5,z6,z7,z8,z9,z10,z11⟩:=HZ6.out.cells
   have yz:=HZ6.out.soft
   go_wp2_with fail
   go_region_with ((go_at_call 85;refine (l07Bit_i _ _).mono ?_;rintro e w' ⟨rfl,rfl⟩))
   all_goals
    clear o0 o1 o2 o3 o4 o5 o6 o7 o8 o9 o10 o11 z0 z1 z2 z3 z4 z5 z6 z7 z8 z9 z10 z11 yz
    go_wp2_with fail
    try simp only [drew_set,drew_alloc]
    generalize hWE:World.setCell _ _ _=WE
    have HE:=HEND.out WE hWE
    clear hWE HEND
    refine bodyPost_ret (v := .tuple #[.agg (bdArr B9 R),.int .i64 (bitI C9)]) (results_cell2 Tryz.results32 rfl (HE _ ⟨rfl,rfl,rfl,rfl⟩).1 Tryz.underlying31 (by kernel_rfl)) rfl ?_
    exact ⟨R,by rw [HU.out,HV.out],by rw [HU.out];exact (HE _ (by exact ⟨rfl,rfl,rfl,rfl⟩)).2⟩
end Go.Proofs.YtbnfdhidgdfbeaaGreat
