/- StepBoard of the reference (printed by mkop.py). -/
import Derived.Test.YtbnfdhidgdfbeaaGreatEsS
import Derived.Test.YtbnfdhidgdfbeaaGreatSp
namespace Go.Proofs.YtbnfdhidgdfbeaaGreat
set_option maxRecDepth 100000
open Go.RowKit
set_option maxHeartbeats 4000000 in
theorem sstepBoard_any (b:Bd) (s:Sl3) (PA:Option Addr) (pn pc:Nat) (ps:List Int) (w:World) (hA:BoardRd w b s) (hI:Ints w PA pn ps) (hz1:size2 b.frames≤1099511627776) (h2:s.n2≤16777216) (h3:size2 b.saved≤1099511627776) (hpn:pn≤1099511627776) :
  Calls Tryz.prog 15 #[.agg (bdArr b s),.slice PA pn pc] w fun e w'=>∃R A n c,e = .returned (.tuple #[.agg (bdArr (spB b ps) R),.slice A n c])∧∃md,BoardFp w.heap.size md w' (spB b ps) R∧Own w.heap.size w' A n c (spN b ps)∧(w.heap.size≤md∧md≤w'.heap.size∧Lies A md w'.heap.size)∧Below w.heap.size w w':=by
 have hz:BdOk b:=⟨hz1,by have:=hA.state.1;omega,h3⟩
 have HI:=Lib.hid hA
 have HB:=Lib.hid (below_new (below_new (Below.refl w.heap.size w) (.cells (bdArr b s) 31)) (.cells z12 31))
 have HX:Hid (BkAt ((w.alloc (.cells (bdArr b s) 31)).alloc (.cells z12 31)) w.heap.size b s):=heap_al _ (heap_new _ _)
 have HZ:Hid (BkAt ((w.alloc (.cells (bdArr b s) 31)).alloc (.cells z12 31)) (w.heap.size+1) zBd zSl):=heap_newAt (by simp)
 have hsz:w.heap.size+2≤((w.alloc (.cells (bdArr b s) 31)).alloc (.cells z12 31)).heap.size:=by simp
 have HIP:=Lib.hid hI
 clear hI
 clear hA
 go_enter Tryz.func15,Tryz.ntmps15
 go_wp2_with fail
 generalize hW:((w.alloc (.cells (bdArr b s) 31)).alloc (.cells z12 31))=W at *
 clear hW
 refine (sl44Copy_any b s _ (HI.out.below HB.out) hz).mono ?_
 rintro e w1 ⟨R,rfl,a1,b1⟩
 have HF:=Lib.hid a1.fp
 have hs0:=b1.size
 replace HB:=Lib.hid (below_tr HB.out b1)
 replace HX:=Lib.hid (HX.out.tr b1)
 replace HZ:=Lib.hid (HZ.out.tr b1)
 clear a1 b1
 have b2:Below w1.heap.size w1 (w1.alloc (.cells (bdArr b R) 31)):=below_new (Below.refl _ _) _
 have HO:Hid (BkAt (w1.alloc (.cells (bdArr b R) 31)) w1.heap.size b R):=heap_new _ _
 have hs2:w1.heap.size<(w1.alloc (.cells (bdArr b R) 31)).heap.size:=by simp
 replace HF:=Lib.hid (HF.out.below b2)
 replace HB:=Lib.hid (below_tr HB.out b2)
 replace HX:=Lib.hid (HX.out.tr b2)
 replace HZ:=Lib.hid (HZ.out.tr b2)
 obtain ⟨x0,x1,x2,x3,x4,x5,x6,x7,x8,x9,x10,x11⟩:=HX.out.cells
 go_wp2_with fail
 generalize hW2:(w1.alloc (.cells (bdArr b R) 31))=W2 at *
 clear x0 x1 x2 x3 x4 x5 x6 x7 x8 x9 x10 x11
 clear hW2 b2
 refine (sboardOk_any b s _ (HI.out.below HB.out) hz1 h2 h3).mono ?_
 rintro e w3 ⟨rfl,b3⟩
 have hs2:=b3.size
 replace HB:=Lib.hid (below_tr HB.out b3)
 replace HX:=Lib.hid (HX.out.tr b3)
 replace HZ:=Lib.hid (HZ.out.tr b3)
 replace HO:=Lib.hid (HO.out.tr b3)
 replace HF:=Lib.hid (HF.out.below b3)
 clear b3
 cases hb:bkF b with
 | false =>
  have hO:spO b ps=false:=by unfold spO;rw [hb];rfl
  have HU:Hid (spB b ps=b):=by show _=_;unfold spB;rw [hO];rfl
  have HV:Hid (spN b ps=[]):=by show _=_;unfold spN;rw [hO];rfl
  clear hb hO
  have hl4:w1.heap.size<w3.heap.size:=by omega
  have hr4:w.heap.size+1<w3.heap.size:=by omega
  obtain ⟨z0,z1,z2,z3,z4,z5,z6,z7,z8,z9,z10,z11⟩:=HZ.out.cells
  have yz:=HZ.out.soft
  obtain ⟨o0,o1,o2,o3,o4,o5,o6,o7,o8,o9,o10,o11⟩:=HO.out.cells
  have yo:=HO.out.soft
  obtain ⟨x0,x1,x2,x3,x4,x5,x6,x7,x8,x9,x10,x11⟩:=HX.out.cells
  go_wp2_with fail
  clear z0 z1 z2 z3 z4 z5 z6 z7 z8 z9 z10 z11 yz o0 o1 o2 o3 o4 o5 o6 o7 o8 o9 o10 o11 yo x0 x1 x2 x3 x4 x5 x6 x7 x8 x9 x10 x11
  generalize hWE:World.alloc _ _=WE
  obtain ⟨h1,hh2,hh3,-,h4,h5,h6⟩:=spEnd (WE:=WE) (n:=0) (gr:=(w.heap.size+1)) HZ.out HB.out (by omega) HF.out (by omega) (by omega) (by omega) (by decide) (by rw [←hWE];exact ⟨rfl,rfl,rfl,rfl⟩)
  clear hWE
  refine bodyPost_ret (v := .tuple #[.agg (bdArr b R),.slice (some ⟨w3.heap.size,0,none⟩) 0 0]) (results_cell2 Tryz.results15 rfl h1 Tryz.underlying31 (by kernel_rfl)) rfl ⟨R,_,_,_,by rw [HU.out],w1.heap.size,by rw [HU.out];exact hh2,by rw [HV.out];exact hh3,⟨by omega,h4,h5⟩,h6⟩
 | true =>
  have hdv:=(framesOk_iff (bk_parts hb).1).1
  obtain ⟨x0,x1,x2,x3,x4,x5,x6,x7,x8,x9,x10,x11⟩:=HX.out.cells
  go_wp2_with fail
  clear x0 x1 x2 x3 x4 x5 x6 x7 x8 x9 x10 x11
  refine (sl41Pads_any b.dev PA pn pc ps _ (HIP.out.below HB.out) hpn hdv).mono ?_
  rintro e w5 ⟨rfl,b5⟩
  have hs3:=b5.size
  replace HB:=Lib.hid (below_tr HB.out b5)
  replace HX:=Lib.hid (HX.out.tr b5)
  replace HZ:=Lib.hid (HZ.out.tr b5)
  replace HO:=Lib.hid (HO.out.tr b5)
  replace HF:=Lib.hid (HF.out.below b5)
  clear b5 hdv
  cases hp:padsOk b.dev ps with
  | false =>
   have hO:spO b ps=false:=by unfold spO;rw [hp];simp
   have HU:Hid (spB b ps=b):=by show _=_;unfold spB;rw [hO];rfl
   have HV:Hid (spN b ps=[]):=by show _=_;unfold spN;rw [hO];rfl
   clear hb hp hO
   have hl4:w1.heap.size<w5.heap.size:=by omega
   have hr4:w.heap.size+1<w5.heap.size:=by omega
   obtain ⟨z0,z1,z2,z3,z4,z5,z6,z7,z8,z9,z10,z11⟩:=HZ.out.cells
   have yz:=HZ.out.soft
   obtain ⟨o0,o1,o2,o3,o4,o5,o6,o7,o8,o9,o10,o11⟩:=HO.out.cells
   have yo:=HO.out.soft
   obtain ⟨x0,x1,x2,x3,x4,x5,x6,x7,x8,x9,x10,x11⟩:=HX.out.cells
   go_wp2_with fail
   clear z0 z1 z2 z3 z4 z5 z6 z7 z8 z9 z10 z11 yz o0 o1 o2 o3 o4 o5 o6 o7 o8 o9 o10 o11 yo x0 x1 x2 x3 x4 x5 x6 x7 x8 x9 x10 x11
   generalize hWE:World.alloc _ _=WE
   obtain ⟨h1,hh2,hh3,-,h4,h5,h6⟩:=spEnd (WE:=WE) (n:=0) (gr:=(w.heap.size+1)) HZ.out HB.out (by omega) HF.out (by omega) (by omega) (by omega) (by decide) (by rw [←hWE];exact ⟨rfl,rfl,rfl,rfl⟩)
   clear hWE
   refine bodyPost_ret (v := .tuple #[.agg (bdArr b R),.slice (some ⟨w5.heap.size,0,none⟩) 0 0]) (results_cell2 Tryz.results15 rfl h1 Tryz.underlying31 (by kernel_rfl)) rfl ⟨R,_,_,_,by rw [HU.out],w1.heap.size,by rw [HU.out];exact hh2,by rw [HV.out];exact hh3,⟨by omega,h4,h5⟩,h6⟩
  | true =>
   have hO:spO b ps=true:=by unfold spO;rw [hb,hp];rfl
   have HBK:=Lib.hid hb
   have HPT:=Lib.hid (sp_parts hb hp)
   have HOK:=Lib.hid hO
   have hn1:pn=tiles b.dev:=by have h:=HIP.out.1;have h2:=HPT.out.2.2.2.2.1;omega
   have HN1:=Lib.hid hn1
   have htb:=HPT.out.2.2.2.2.2.2.2.1
   clear hb hp hO hn1
   by_cases h2:b.phase=2
   ·have HU:Hid (spB b ps=b):=by show _=_;unfold spB;rw [HOK.out,if_pos rfl,if_pos h2]
    have HV:Hid (spN b ps=List.replicate pn 0):=by show _=_;unfold spN;rw [HOK.out,if_pos rfl,if_pos h2,HN1.out]
    have hq2:(b.phase==2)=true:=by simp [h2]
    clear h2
    have hnb:pn≤36:=by have:=HN1.out;omega
    obtain ⟨i0,hi,hz0,hz1,hz2⟩:=info_parts int_info
    have hmk:=fun W=>run_make_rowN (P:=Tryz.prog) 27 3 i0 _ Tryz.underlying27 hi hz0 .i64 .i64 pn pn (Nat.le_refl _) (by rw [hz2];omega) (by omega) W
    rw [hz1,Nat.mul_one] at hmk
    have hmz:madeCells (Value.int .i64 0).cells pn=arr (List.replicate pn 0):=arr_made pn
    rw [hmz] at hmk
    clear hmz hi hz0 hz1 hz2
    have hl4:w1.heap.size<w5.heap.size:=by omega
    have hr4:w.heap.size+1<w5.heap.size:=by omega
    have hr5:w.heap.size<w5.heap.size:=by omega
    have HEND:Hid (∀W0:World,(put12 w5 (w.heap.size+1) b R).alloc (.cells (arr (List.replicate pn 0)) 3)=W0→∀WE:World,SameH W0 WE→BkAt WE (w.heap.size+1) b R∧∃R' A n c,Ending.returned (.tuple #[.agg (bdArr b R),.slice (some ⟨w5.heap.size,0,none⟩) pn pn]) = .returned (.tuple #[.agg (bdArr (spB b ps) R'),.slice A n c])∧∃md,BoardFp w.heap.size md WE (spB b ps) R'∧Own w.heap.size WE A n c (spN b ps)∧(w.heap.size≤md∧md≤WE.heap.size∧Lies A md WE.heap.size)∧Below w.heap.size w WE):=fun W0 h0 WE hWE=>by
     obtain ⟨h1,h2,h3,-,h4,h5,h6⟩:=spEnd (n:=pn) HZ.out HB.out (by omega) HF.out (by omega) (by omega) (by omega) (by unfold maxLen;omega) (by rw [h0];exact hWE)
     exact ⟨h1,R,_,_,_,by rw [HU.out],w1.heap.size,by rw [HU.out];exact h2,by rw [HV.out];exact h3,⟨by omega,h4,h5⟩,h6⟩
    obtain ⟨z0,z1,z2,z3,z4,z5,z6,z7,z8,z9,z10,z11⟩:=HZ.out.cells
    have yz:=HZ.out.soft
    obtain ⟨o0,o1,o2,o3,o4,o5,o6,o7,o8,o9,o10,o11⟩:=HO.out.cells
    have yo:=HO.out.soft
    obtain ⟨x0,x1,x2,x3,x4,x5,x6,x7,x8,x9,x10,x11⟩:=HX.out.cells
    go_wp2_with fail
    go_region_with (fail)
    all_goals
     clear z0 z1 z2 z3 z4 z5 z6 z7 z8 z9 z10 z11 yz o0 o1 o2 o3 o4 o5 o6 o7 o8 o9 o10 o11 yo x0 x1 x2 x3 x4 x5 x6 x7 x8 x9 x10 x11
     go_wp2_with fail
     try simp only [drew_set,drew_alloc]
     generalize hWE:World.alloc _ _=WE
     have HE:=HEND.out WE hWE
     clear hWE HEND
     refine bodyPost_ret (v := .tuple #[.agg (bdArr b R),.slice (some ⟨w5.heap.size,0,none⟩) pn pn]) (results_cell2 Tryz.results15 rfl (HE _ ⟨rfl,rfl,rfl,rfl⟩).1 Tryz.underlying31 (by kernel_rfl)) rfl ?_
     exact (HE _ (by exact ⟨rfl,rfl,rfl,rfl⟩)).2
   have hq2:(b.phase==2)=false:=by simp [h2]
   have H2:=Lib.hid h2
   clear h2
   have HSN:Hid ((s.n2:Int)=2 * (b.dev.W * b.dev.H)):=by show _=_;have e1:=HI.out.state.1;have e2:=HPT.out.2.2.2.1;have e3:=HPT.out.2.2.2.2.2.2.1;omega
   have HPN:Hid ((pn:Int)=b.dev.W * b.dev.H):=by show _=_;have e1:=HIP.out.1;have e2:=HPT.out.2.2.2.2.1;have e3:=HPT.out.2.2.2.2.2.2.1;omega
   have HRF:Hid (readF b.dev b.frames=tilesOf b.dev b.frames):=by show _=_;rw [readF,if_pos HPT.out.1]
   have HVS:Hid (∀(TA:Option Addr) (m3 c3:Nat) (w':World),Below w5.heap.size w5 w'→RdC w' w'.heap.size (celT (readF b.dev b.frames)) (.slice TA m3 c3) →
     Calls Tryz.prog 58 #[.agg #[.int .i64 b.dev.W,.int .i64 b.dev.H,.int .i64 b.dev.T,.int .i64 b.dev.R],.slice TA m3 c3,.slice s.A2 s.n2 s.c2,.slice PA pn pc] w' fun e' w''=>∃A1 c1 A2 mid,e' = .returned (.tuple #[.slice A1 s.n2 c1,.slice A2 m3 m3])∧Own w'.heap.size w'' A1 s.n2 c1 (nextF b.dev (tilesOf b.dev b.frames) b.state ps)∧Own w'.heap.size w'' A2 m3 m3 (outF b.dev (tilesOf b.dev b.frames) b.state ps)∧(w'.heap.size≤mid∧mid≤w''.heap.size∧Lies A1 w'.heap.size mid∧Lies A2 mid w''.heap.size)∧Below w'.heap.size w' w''):=by
    intro TA m3 c3 w' hb hr
    exact sl41Step_any b.dev (tilesOf b.dev b.frames) TA m3 c3 s.A2 s.n2 s.c2 b.state PA pn pc ps w' (by rw [←HRF.out];exact hr) (HI.out.state.below (below_tr HB.out hb)) (HIP.out.below (below_tr HB.out hb)) HSN.out HPN.out HPT.out.2.1 HPT.out.2.2.1
   have hwr:w.heap.size<w5.heap.size:=by omega
   have hD:=(Below.refl w5.heap.size w5).drew
   have HBD:=HB
   obtain ⟨x0,x1,x2,x3,x4,x5,x6,x7,x8,x9,x10,x11⟩:=HX.out.cells
   go_wp2_with fail
   go_region_held3 (fun w'=>Below w5.heap.size w5 w'∧∀b o,b<w5.heap.size→w'.cell? ⟨b,o,none⟩=w5.cell? ⟨b,o,none⟩)
    (first|exact ⟨hD,(bcell hD).1⟩)
    (first
     | (go_at_call 59;(with_reducible refine (sreadFrames_any b.dev s.A1 s.n1 s.c1 b.frames _ (HI.out.frames.below (below_tr HB.out hD)) hz1).mono ?_);rintro e w6 ⟨TA,m3,c3,rfl,o6,b6⟩;have R6:=Lib.hid o6.rd;have hD6:=Lib.hid (below_tr hD b6);replace hD:=below_tr hD b6;clear b6 o6)
     | (go_at_call 58;(with_reducible refine (HVS.out _ _ _ _ hD R6.out).mono ?_);rintro e w7 ⟨A7,c7,A8,mid,rfl,o7,o8,hap,b7⟩;have O7:=Lib.hid o7;have O8:=Lib.hid o8;have hs7:=b7.size;replace hD:=below_tr hD b7;clear b7 o7 o8))
   all_goals
    have HEM:=R6
    clear x0 x1 x2 x3 x4 x5 x6 x7 x8 x9 x10 x11
    rename Below w5.heap.size w5 w7∧_=>hHeld
    clear hHeld
    obtain ⟨hm1,hm2,l7,l8⟩:=hap
    have L7:=Lib.hid l7
    have L8:=Lib.hid l8
    have hs6:=hD6.out.size
    have hsD:=hD.size
    replace HB:=Lib.hid (below_tr HB.out hD)
    replace HX:=Lib.hid (HX.out.tr hD)
    replace HZ:=Lib.hid (HZ.out.tr hD)
    replace HO:=Lib.hid (HO.out.tr hD)
    replace HF:=Lib.hid (HF.out.below hD)
    clear hD hD6 HEM l7 l8 HBD
    have HNX:Hid (nxB b ps=nextF b.dev (tilesOf b.dev b.frames) b.state ps):=rfl
    have HOU:Hid (ouB b ps=outF b.dev (tilesOf b.dev b.frames) b.state ps):=rfl
    generalize nextF b.dev (tilesOf b.dev b.frames) b.state ps=NX at *
    generalize outF b.dev (tilesOf b.dev b.frames) b.state ps=OU at *
    by_cases h1:b.phase=1
    rotate_left
    ·have hq1:(b.phase==1)=false:=by simp [h1]
     have HU:Hid (spB b ps={ b with state:=NX }):=by show _=_;unfold spB;rw [HOK.out,if_pos rfl,if_neg H2.out,if_neg h1,HNX.out]
     have HV:Hid (spN b ps=OU):=by show _=_;unfold spN;rw [HOK.out,if_pos rfl,if_neg H2.out,if_neg h1,HOU.out]
     clear h1
     have hm3:m3=pn:=by have h1:=O8.out.len;have h2:=ouB_len HBK.out ps;rw [HOU.out] at h2;have h3:=HN1.out;omega
     subst hm3
     obtain ⟨x0,x1,x2,x3,x4,x5,x6,x7,x8,x9,x10,x11⟩:=HX.out.cells
     go_wp2_with fail
     go_loop [9] (fun i=>∃k:Nat,k≤m3∧i = .int .i64 k) (fun i=>m3 - (intOf i).toNat)
     case atStart=>exact ⟨0,Nat.zero_le _,rfl⟩
     case round =>
      obtain ⟨k,hk,rfl⟩:=hrel
      by_cases hlt:k<m3
      ·have hdk:decide ((k:Int)<(m3:Int))=true:=by simp;omega
       go_wp2_with fail
       go_round
       case rel=>exact ⟨k+1,by omega,by go_num⟩
       case measure=>simp [intOf];omega
      ·have hkm:k=m3:=by omega
       subst hkm
       have hdk:decide ((k:Int)<(k:Int))=false:=by simp
       clear x0 x1 x2 x3 x4 x5 x6 x7 x8 x9 x10 x11
       have hC4:Chg w1.heap.size (w1.heap.size+1) w7 (w7.setCell ⟨w1.heap.size,5,none⟩ (.slice A7 s.n2 c7)):=(Chg.set (Chg.refl _ _ _) (Nat.le_refl _) (Nat.lt_succ_self _) _)
       have hsW:=hC4.size
       have HF4:Hid (BoardFp W.heap.size mid (w7.setCell ⟨w1.heap.size,5,none⟩ (.slice A7 s.n2 c7)) { b with state:=NX } ⟨R.A1,R.n1,R.c1,A7,s.n2,c7,R.A3,R.n3,R.c3⟩):=(HF.out.chg hC4 (.inl (Nat.le_refl _))).setState (b':={ b with state:=NX }) (O7.out.chg hC4 L7.out (.inr (by omega))) L7.out (by omega) (by omega) (by omega) rfl rfl
       have HO8:=Lib.hid (O8.out.chg hC4 L8.out (.inr (by omega)))
       have HZ4:=Lib.hid (HZ.out.chg hC4 (.inl (by omega)))
       have HB4:=Lib.hid (below_chg HB.out hC4 (by omega))
       clear hC4
       obtain ⟨z0,z1,z2,z3,z4,z5,z6,z7,z8,z9,z10,z11⟩:=HZ.out.cells
       have yz:=HZ.out.soft
       obtain ⟨o0,o1,o2,o3,o4,o5,o6,o7,o8,o9,o10,o11⟩:=HO.out.cells
       have yo:=HO.out.soft
       go_wp2_with fail
       clear z0 z1 z2 z3 z4 z5 z6 z7 z8 z9 z10 z11 yz o0 o1 o2 o3 o4 o5 o6 o7 o8 o9 o10 o11 yo
       generalize hWF:World.setCell _ _ _=WF
       obtain ⟨hbk,hszF,hBF,hCF⟩:=fin12 (W:=(w7.setCell ⟨w1.heap.size,5,none⟩ (.slice A7 s.n2 c7))) (b':={ b with state:=NX }) (s':=⟨R.A1,R.n1,R.c1,A7,s.n2,c7,R.A3,R.n3,R.c3⟩) hWF (HZ4.out) (HB4.out) (by omega)
       have hR:BoardFp w.heap.size mid WF { b with state:=NX } ⟨R.A1,R.n1,R.c1,A7,s.n2,c7,R.A3,R.n3,R.c3⟩:=((HF4.out).chg hCF (.inr (by omega))).widen (by omega) (Nat.le_refl _)
       have hO:Own w.heap.size WF (A8) (k) (k) (OU):=((HO8.out).chg hCF (L8.out) (.inr (by omega))).more (by omega)
       have hL:Lies (A8) mid WF.heap.size:=lies_wide (L8.out) (by omega) (by omega)
       clear hWF
       refine bodyPost_ret (v := .tuple #[.agg (bdArr { b with state:=NX } ⟨R.A1,R.n1,R.c1,A7,s.n2,c7,R.A3,R.n3,R.c3⟩),.slice (A8) (k) (k)]) (results_cell2 Tryz.results15 rfl hbk Tryz.underlying31 (by kernel_rfl)) rfl ⟨⟨R.A1,R.n1,R.c1,A7,s.n2,c7,R.A3,R.n3,R.c3⟩,A8,k,k,by rw [HU.out],mid,by rw [HU.out];exact hR,by rw [HV.out];exact hO,⟨by omega,by omega,hL⟩,hBF⟩
    have hq1:(b.phase==1)=true:=by simp [h1]
    have H1:=Lib.hid h1
    clear h1
    have hm3:m3=pn:=by have h1:=O8.out.len;have h2:=ouB_len HBK.out ps;rw [HOU.out] at h2;have h3:=HN1.out;omega
    subst hm3
    have hRG:regTiles b.dev b.reg=regTo b.dev b.reg m3:=by unfold regTiles;rw [if_pos (rq_parts ((bk_parts HBK.out).2.2.2.1 H1.out)).2,HN1.out]
    have HU1:Hid (spB b ps={ b with state:=ovS b.state (regTo b.dev b.reg m3) NX }):=by show _=_;unfold spB;rw [HOK.out,if_pos rfl,if_neg H2.out,if_pos H1.out,HNX.out,hRG]
    have HV1:Hid (spN b ps=zS (regTo b.dev b.reg m3) OU):=by show _=_;unfold spN;rw [HOK.out,if_pos rfl,if_neg H2.out,if_pos H1.out,HOU.out,hRG]
    clear hRG
    have hdb:=devOk_bd (framesOk_iff HPT.out.1).1
    go_wp2_with fail
    go_loopw [9] (fun i wr=>∃k:Nat,k≤m3∧i = .int .i64 k∧Below w.heap.size w wr∧BkAt wr w.heap.size b s∧BkAt wr (w.heap.size+1) zBd zSl∧BkAt wr w1.heap.size b R∧BoardFp W.heap.size w1.heap.size wr b R∧Own w6.heap.size wr A7 s.n2 c7 (ovS b.state (regTo b.dev b.reg k) NX)∧Own w6.heap.size wr A8 m3 m3 (zS (regTo b.dev b.reg k) OU)∧w7.heap.size≤wr.heap.size) (fun i _=>m3 - (intOf i).toNat)
    case atStart=>exact ⟨0,Nat.zero_le _,rfl,HB.out,HX.out,HZ.out,HO.out,HF.out,O7.out,O8.out,Nat.le_refl _⟩
    case round =>
     obtain ⟨k,hk,rfl,hb1,hx1r,hz1r,ho1,hf1,ho7,ho8,hsr⟩:=hrel
     have HBr:=Lib.hid hb1
     have HXr:=Lib.hid hx1r
     have HZr:=Lib.hid hz1r
     have HOr:=Lib.hid ho1
     have HFr:=Lib.hid hf1
     have O7r:=Lib.hid ho7
     have O8r:=Lib.hid ho8
     clear hb1 hx1r hz1r ho1 hf1 ho7 ho8
     by_cases hlt:k<m3
     ·have hdk:decide ((k:Int)<(m3:Int))=true:=by simp;omega
      obtain ⟨x0,x1,x2,x3,x4,x5,x6,x7,x8,x9,x10,x11⟩:=HXr.out.cells
      have HRS:Hid (regTo b.dev b.reg (k+1)=regTo b.dev b.reg k++if inReg b.dev b.reg (k:Int) then [(k:Int)] else []):=rfl
      have hwrO:w.heap.size<wr.heap.size:=by omega
      cases hC2:inReg b.dev b.reg (k:Int) with
      | false =>
       have HC2:Hid (∀w',Calls Tryz.prog 50 #[.agg #[.int .i64 b.dev.W,.int .i64 b.dev.H,.int .i64 b.dev.T,.int .i64 b.dev.R],.agg #[.int .i64 b.reg.X0,.int .i64 b.reg.Y0,.int .i64 b.reg.X1,.int .i64 b.reg.Y1],.int .i64 (k:Int)] w' fun e w''=>e = .returned (.bool false)∧Below w'.heap.size w' w''):=fun w'=>by have h:=sinRegion_any b.dev b.reg (k:Int) w' (by omega) (by omega) (by omega) (by omega);rwa [hC2] at h
       have HRE:Hid (regTo b.dev b.reg (k+1)=regTo b.dev b.reg k):=by show _=_;rw [HRS.out,hC2];simp
       clear hC2
       go_wp2_with fail
       refine (HC2.out _).mono ?_
       rintro e w9 ⟨rfl,b9⟩
       have hs9:=b9.size
       have HB9:=Lib.hid (below_tr HBr.out b9)
       have HX9:=Lib.hid (HXr.out.tr b9)
       have HZ9:=Lib.hid (HZr.out.tr b9)
       have HO9:=Lib.hid (HOr.out.tr b9)
       have HF9:=Lib.hid (HFr.out.below b9)
       have O79:=Lib.hid (O7r.out.below b9)
       have O89:=Lib.hid (O8r.out.below b9)
       clear b9 x0 x1 x2 x3 x4 x5 x6 x7 x8 x9 x10 x11
       go_wp2_with fail
       go_roundw
       case rel=>exact ⟨k+1,by omega,by go_num,HB9.out,HX9.out,HZ9.out,HO9.out,HF9.out,by rw [HRE.out];exact O79.out,by rw [HRE.out];exact O89.out,by omega⟩
       case measure=>simp [intOf];omega
      | true =>
       have HC2:Hid (∀w',Calls Tryz.prog 50 #[.agg #[.int .i64 b.dev.W,.int .i64 b.dev.H,.int .i64 b.dev.T,.int .i64 b.dev.R],.agg #[.int .i64 b.reg.X0,.int .i64 b.reg.Y0,.int .i64 b.reg.X1,.int .i64 b.reg.Y1],.int .i64 (k:Int)] w' fun e w''=>e = .returned (.bool true)∧Below w'.heap.size w' w''):=fun w'=>by have h:=sinRegion_any b.dev b.reg (k:Int) w' (by omega) (by omega) (by omega) (by omega);rwa [hC2] at h
       have HST:Hid (ovS b.state (regTo b.dev b.reg (k+1)) NX=((ovS b.state (regTo b.dev b.reg k) NX).set (2 * k) (b.state[2 * k]?.getD 0)).set (2 * k+1) (b.state[2 * k+1]?.getD 0)):=by show _=_;rw [HRS.out,hC2,if_pos rfl,ovS_snoc,Int.toNat_natCast]
       have HSZ:Hid (zS (regTo b.dev b.reg (k+1)) OU=(zS (regTo b.dev b.reg k) OU).set k 0):=by show _=_;rw [HRS.out,hC2,if_pos rfl,zS_snoc,Int.toNat_natCast]
       clear hC2
       obtain ⟨wo,hwo⟩:∃x,x=wr:=⟨wr,rfl⟩
       subst hwo
       go_wp2_with fail
       refine (HC2.out _).mono ?_
       rintro e wr ⟨rfl,b9⟩
       have hs9:=b9.size
       replace HBr:=Lib.hid (below_tr HBr.out b9)
       replace HXr:=Lib.hid (HXr.out.tr b9)
       replace HZr:=Lib.hid (HZr.out.tr b9)
       replace HOr:=Lib.hid (HOr.out.tr b9)
       replace HFr:=Lib.hid (HFr.out.below b9)
       replace O7r:=Lib.hid (O7r.out.below b9)
       replace O8r:=Lib.hid (O8r.out.below b9)
       clear b9 x0 x1 x2 x3 x4 x5 x6 x7 x8 x9 x10 x11
       obtain ⟨-,-,-,p4,p5,p6,p7,p8,-⟩:=HPT.out
       have q1:s.n2=2 * tiles b.dev:=by have h:=HI.out.state.1;omega
       have q2:m3=tiles b.dev:=HN1.out
       obtain ⟨g7,-,hA7,h7a,h7b,-⟩:=O7r.out.block (by omega)
       obtain ⟨g8,-,hA8,h8a,h8b,-⟩:=O8r.out.block (by omega)
       have l7:=L7.out _ hA7
       have l8:=L8.out _ hA8
       simp only at l7 l8
       subst hA7 hA8
       obtain ⟨hc70,hf70⟩:=O7r.out.cellAt (k:=2 * k) (by omega)
       obtain ⟨hc71,hf71⟩:=O7r.out.cellAt (k:=2 * k+1) (by omega)
       obtain ⟨hc8,hf8⟩:=O8r.out.cellAt (k:=k) (by omega)
       obtain ⟨bs,os,hSA,hbs,hcs⟩:=(HI.out.state.below HBr.out).2 (by omega)
       have hbs0:bs<w.heap.size:=by obtain ⟨b1,o1,h1,h2,-⟩:=HI.out.state.2 (by omega);rw [hSA] at h1;injection h1 with h1;injection h1 with h1;omega
       have hs0:=hcs (2 * k) (by omega)
       have hs1:=hcs (2 * k+1) (by omega)
       have e1:IntKind.i64.wrap (2 * (k:Int))=2 * (k:Int):=IntWalk.i64_in _ (by omega)
       have f1:(2 * (k:Int)).toNat=2 * k:=by omega
       have f2:(2 * (k:Int)+1).toNat=2 * k+1:=by omega
       have k0:(0:Int)≤(k:Int):=by omega
       have i0:(0:Int)≤2 * (k:Int):=by omega
       have i1:2 * (k:Int)<(s.n2:Int):=by omega
       have j0:(0:Int)≤2 * (k:Int)+1:=by omega
       have j1:2 * (k:Int)+1<(s.n2:Int):=by omega
       have HQ:=Lib.hid (show 2 * k+1<s.n2∧k<m3 from ⟨by omega,by omega⟩)
       have HSA:=Lib.hid hSA
       clear p4 p5 p6 p7 p8 q1 q2 hcs
       generalize (ovS b.state (regTo b.dev b.reg k) NX)[2 * k]?.getD 0=og0 at hc70
       generalize (ovS b.state (regTo b.dev b.reg k) NX)[2 * k+1]?.getD 0=og1 at hc71
       generalize (zS (regTo b.dev b.reg k) OU)[k]?.getD 0=og2 at hc8
       generalize b.state[2 * k]?.getD 0=y0 at *
       generalize b.state[2 * k+1]?.getD 0=y1 at *
       obtain ⟨-,-,-,-,-,x5,-⟩:=HXr.out.cells
       rw [hSA] at x5
       clear hSA
       go_upto_region 12 with fail
       generalize hwx:World.setCell wr _ _=wx at *
       have hP:PutH wr g7 (2 * k) (.int .i64 y0) wx:=by rw [←hwx];exact ⟨rfl,rfl,rfl,rfl⟩
       clear hwx
       have HPx:=Lib.hid hP
       have n0:w.heap.size≠g7:=by omega
       have n1:w1.heap.size≠g7:=by omega
       have n2:bs≠g7:=by omega
       have n8:g8≠g7:=by omega
       rw [←World.cell?_of_block (a:=⟨bs,os+(2 * k+1),none⟩) (HPx.out.far n2)] at hs1
       rw [←World.cell?_of_block (a:=⟨w.heap.size,5,none⟩) (HPx.out.far n0)] at x5
       rw [←World.cell?_of_block (a:=⟨g8,k,none⟩) (HPx.out.far n8)] at hc8
       rw [←PutH.frozen HPx.out] at hf71 hf8
       have hc71':wx.cell? ⟨g7,2 * k+1,none⟩=some (.int .i64 og1):=by rw [PutH.other HPx.out (by omega)];exact hc71
       have hsx:wr.heap.size≤wx.heap.size:=by rw [HPx.out.size];exact Nat.le_refl _
       have hb7x:g7<wx.heap.size:=by omega
       have hb8x:g8<wx.heap.size:=by omega
       have hbsx:bs<wx.heap.size:=by omega
       clear hP hc70 hf70 hs0 hc71
       go_upto_region 13 with fail
       generalize hwy:World.setCell wx _ _=wy at *
       have hP:PutH wx g7 (2 * k+1) (.int .i64 y1) wy:=by rw [←hwy];exact ⟨rfl,rfl,rfl,rfl⟩
       clear hwy
       have HPy:=Lib.hid hP
       rw [←World.cell?_of_block (a:=⟨g8,k,none⟩) (HPy.out.far n8)] at hc8
       rw [←PutH.frozen HPy.out] at hf8
       have hsy:wx.heap.size≤wy.heap.size:=by rw [HPy.out.size];exact Nat.le_refl _
       have hb8y:g8<wy.heap.size:=by omega
       clear hP hc71' hf71 hs1 x5
       go_upto_region 9 with fail
       generalize hwq:World.setCell wy _ _=wq at *
       have hP:PutH wy g8 k (.int .i64 0) wq:=by rw [←hwq];exact ⟨rfl,rfl,rfl,rfl⟩
       clear hwq
       have HPq:=Lib.hid hP
       have hsq:wy.heap.size≤wq.heap.size:=by rw [HPq.out.size];exact Nat.le_refl _
       clear hP hc8 hf8
       have HB9:=Lib.hid (HPq.out.below (HPy.out.below (HPx.out.below HBr.out (lo:=w.heap.size) (by omega)) (by omega)) (by omega))
       have HX9:=Lib.hid (HPq.out.bk (HPy.out.bk (HPx.out.bk HXr.out n0) n0) (by omega))
       have HZ9:=Lib.hid (HPq.out.bk (HPy.out.bk (HPx.out.bk HZr.out (by omega)) (by omega)) (by omega))
       have HO9:=Lib.hid (HPq.out.bk (HPy.out.bk (HPx.out.bk HOr.out n1) n1) (by omega))
       have HF9:=Lib.hid (HPq.out.fpFar (HPy.out.fpFar (HPx.out.fpFar HFr.out (.inr (by omega))) (.inr (by omega))) (.inr (by omega)))
       have O79:Hid (Own w6.heap.size wq (some ⟨g7,0,none⟩) s.n2 c7 (ovS b.state (regTo b.dev b.reg (k+1)) NX)):=by
        show Own _ _ _ _ _ _
        rw [HST.out]
        exact HPq.out.ownFar (HPy.out.own (HPx.out.own O7r.out (by have:=HQ.out;omega)) (by have:=HQ.out;omega)) (by rintro a ⟨⟩;simp only;omega)
       have O89:Hid (Own w6.heap.size wq (some ⟨g8,0,none⟩) m3 m3 (zS (regTo b.dev b.reg (k+1)) OU)):=by
        show Own _ _ _ _ _ _
        rw [HSZ.out]
        exact HPq.out.own (HPy.out.ownFar (HPx.out.ownFar O8r.out (by rintro a ⟨⟩;simp only;omega)) (by rintro a ⟨⟩;simp only;omega)) HQ.out.2
       clear e1 f1 f2
       go_wp2_with fail
       go_roundw
       case rel=>exact ⟨k+1,by omega,by go_num,HB9.out,HX9.out,HZ9.out,HO9.out,HF9.out,O79.out,O89.out,by omega⟩
       case measure=>simp [intOf];omega
     ·have hkm:k=m3:=by omega
      subst hkm
      have hdk:decide ((k:Int)<(k:Int))=false:=by simp
      have HU:=HU1
      have HV:=HV1
      have hC4:Chg w1.heap.size (w1.heap.size+1) wr (wr.setCell ⟨w1.heap.size,5,none⟩ (.slice A7 s.n2 c7)):=(Chg.set (Chg.refl _ _ _) (Nat.le_refl _) (Nat.lt_succ_self _) _)
      have hsW:=hC4.size
      have HF4:Hid (BoardFp W.heap.size mid (wr.setCell ⟨w1.heap.size,5,none⟩ (.slice A7 s.n2 c7)) { b with state:=(ovS b.state (regTo b.dev b.reg k) NX) } ⟨R.A1,R.n1,R.c1,A7,s.n2,c7,R.A3,R.n3,R.c3⟩):=(HFr.out.chg hC4 (.inl (Nat.le_refl _))).setState (b':={ b with state:=(ovS b.state (regTo b.dev b.reg k) NX) }) (O7r.out.chg hC4 L7.out (.inr (by omega))) L7.out (by omega) (by omega) (by omega) rfl rfl
      have HO8:=Lib.hid (O8r.out.chg hC4 L8.out (.inr (by omega)))
      have HZ4:=Lib.hid (HZr.out.chg hC4 (.inl (by omega)))
      have HB4:=Lib.hid (below_chg HBr.out hC4 (by omega))
      clear hC4
      obtain ⟨z0,z1,z2,z3,z4,z5,z6,z7,z8,z9,z10,z11⟩:=HZr.out.cells
      have yz:=HZr.out.soft
      obtain ⟨o0,o1,o2,o3,o4,o5,o6,o7,o8,o9,o10,o11⟩:=HOr.out.cells
      have yo:=HOr.out.soft
      go_wp2_with fail
      clear z0 z1 z2 z3 z4 z5 z6 z7 z8 z9 z10 z11 yz o0 o1 o2 o3 o4 o5 o6 o7 o8 o9 o10 o11 yo
      generalize hWF:World.setCell _ _ _=WF
      obtain ⟨hbk,hszF,hBF,hCF⟩:=fin12 (W:=(wr.setCell ⟨w1.heap.size,5,none⟩ (.slice A7 s.n2 c7))) (b':={ b with state:=(ovS b.state (regTo b.dev b.reg k) NX) }) (s':=⟨R.A1,R.n1,R.c1,A7,s.n2,c7,R.A3,R.n3,R.c3⟩) hWF (HZ4.out) (HB4.out) (by omega)
      have hR:BoardFp w.heap.size mid WF { b with state:=(ovS b.state (regTo b.dev b.reg k) NX) } ⟨R.A1,R.n1,R.c1,A7,s.n2,c7,R.A3,R.n3,R.c3⟩:=((HF4.out).chg hCF (.inr (by omega))).widen (by omega) (Nat.le_refl _)
      have hO:Own w.heap.size WF (A8) (k) (k) ((zS (regTo b.dev b.reg k) OU)):=((HO8.out).chg hCF (L8.out) (.inr (by omega))).more (by omega)
      have hL:Lies (A8) mid WF.heap.size:=lies_wide (L8.out) (by omega) (by omega)
      clear hWF
      refine bodyPost_ret (v := .tuple #[.agg (bdArr { b with state:=(ovS b.state (regTo b.dev b.reg k) NX) } ⟨R.A1,R.n1,R.c1,A7,s.n2,c7,R.A3,R.n3,R.c3⟩),.slice (A8) (k) (k)]) (results_cell2 Tryz.results15 rfl hbk Tryz.underlying31 (by kernel_rfl)) rfl ⟨⟨R.A1,R.n1,R.c1,A7,s.n2,c7,R.A3,R.n3,R.c3⟩,A8,k,k,by rw [HU.out],mid,by rw [HU.out];exact hR,by rw [HV.out];exact hO,⟨by omega,by omega,hL⟩,hBF⟩
end Go.Proofs.YtbnfdhidgdfbeaaGreat
