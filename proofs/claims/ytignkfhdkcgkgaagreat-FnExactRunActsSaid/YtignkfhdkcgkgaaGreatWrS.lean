/- WriteRegion of the reference (printed by mkop.py). -/
import Derived.Test.YtignkfhdkcgkgaaGreatWr
namespace Go.Proofs.YtignkfhdkcgkgaaGreat
set_option maxHeartbeats 4000000
set_option maxRecDepth 100000
open Go.RowKit
theorem uJ (b:Bd) (s:Sl3) (t:Int) (WA:Option Addr) (wn wc:Nat) (ws:List Int) (w:World) (hA:bV w b s) (hI:bH w WA wn ws) (hz1:af b.frames<=1099511627776) (h2:s.n2<=16777216) (h3:af b.saved<=1099511627776) (hwn:wn<=1099511627776) :
  Calls Tryz.prog 96 #[.agg (aD b s),.int .i64 t,.slice WA wn wc] w fun e w'=>∃R,e = .returned (.tuple #[.agg (aD (wrB b t ws) R),.bool (wrO b t ws)])/\aG w.heap.size w'.heap.size w' (wrB b t ws) R/\Below w.heap.size w w':=by
 have hz:kF b:=⟨hz1,by have:=hA.state.1;omega,h3⟩
 have HI:=Hd hA
 have HB:=Hd (aB (aB (Below.refl w.heap.size w) (.cells (aD b s) 31)) (.cells z12 31))
 have HX:Hid (bC ((w.alloc (.cells (aD b s) 31)).alloc (.cells z12 31)) w.heap.size b s):=aR _ (aL _ _)
 have HZ:Hid (bC ((w.alloc (.cells (aD b s) 31)).alloc (.cells z12 31)) (w.heap.size+1) zBd zSl):=ae (by simp)
 have hsz:w.heap.size+2<=((w.alloc (.cells (aD b s) 31)).alloc (.cells z12 31)).heap.size:=by simp
 have HIW:=Hd hI
 clear hI
 have HFN:Hid (b.frames.length=s.n1):=hA.frames.1
 have hN1:s.n1<=1099511627776:=(dz hA.frames.1 hz1).1
 clear hA
 go_enter Tryz.func96,Tryz.ntmps96
 go_wp2_with fail
 generalize hW:((w.alloc (.cells (aD b s) 31)).alloc (.cells z12 31))=W at *
 clear hW
 refine (fA b s _ (HI.out.below HB.out) hz).mono ?_
 rintro e w1 ⟨R,rfl,a1,b1⟩
 have HF:=Hd a1.fp
 have hs0:=b1.size
 replace HB:=Hd (aA HB.out b1)
 replace HX:=Hd (HX.out.tr b1)
 replace HZ:=Hd (HZ.out.tr b1)
 clear a1 b1
 have b2:Below w1.heap.size w1 (w1.alloc (.cells (aD b R) 31)):=aB (Below.refl _ _) _
 have HO:Hid (bC (w1.alloc (.cells (aD b R) 31)) w1.heap.size b R):=aL _ _
 have hs2:w1.heap.size<(w1.alloc (.cells (aD b R) 31)).heap.size:=by simp
 replace HF:=Hd (HF.out.below b2)
 replace HB:=Hd (aA HB.out b2)
 replace HX:=Hd (HX.out.tr b2)
 replace HZ:=Hd (HZ.out.tr b2)
 obtain ⟨x0,x1,x2,x3,x4,x5,x6,x7,x8,x9,x10,x11⟩:=HX.out.cells
 go_wp2_with fail
 generalize hW2:(w1.alloc (.cells (aD b R) 31))=W2 at *
 clear x0 x1 x2 x3 x4 x5 x6 x7 x8 x9 x10 x11
 clear hW2 b2
 refine (ek b s _ (HI.out.below HB.out) hz1 h2 h3).mono ?_
 rintro e w3 ⟨rfl,b3⟩
 have hs2:=b3.size
 replace HB:=Hd (aA HB.out b3)
 replace HX:=Hd (HX.out.tr b3)
 replace HZ:=Hd (HZ.out.tr b3)
 replace HO:=Hd (HO.out.tr b3)
 replace HF:=Hd (HF.out.below b3)
 clear b3
 cases hb:bkF b with
 | false =>
  have hO:wrO b t ws=false:=by unfold wrO;rw [hb];rfl
  clear hb
  have HU:Hid (wrB b t ws=b):=by show _=_;unfold wrB;rw [hO];rfl
  have HV:Hid (wrO b t ws=false):=hO
  clear hO
  obtain ⟨z0,z1,z2,z3,z4,z5,z6,z7,z8,z9,z10,z11⟩:=HZ.out.cells
  have yz:=HZ.out.soft
  obtain ⟨o0,o1,o2,o3,o4,o5,o6,o7,o8,o9,o10,o11⟩:=HO.out.cells
  have yo:=HO.out.soft
  obtain ⟨x0,x1,x2,x3,x4,x5,x6,x7,x8,x9,x10,x11⟩:=HX.out.cells
  go_wp2_with fail
  clear z0 z1 z2 z3 z4 z5 z6 z7 z8 z9 z10 z11 yz o0 o1 o2 o3 o4 o5 o6 o7 o8 o9 o10 o11 yo x0 x1 x2 x3 x4 x5 x6 x7 x8 x9 x10 x11
  generalize hWF:World.setCell _ _ _=WF
  obtain ⟨hbk,hszF,hBF,hCF⟩:=bK (W:=w3) (b':=b) (s':=R) hWF (HZ.out) (HB.out) (by omega)
  have hR:aG w.heap.size WF.heap.size WF b R:=((HF.out).chg hCF (.inr (by omega))).widen (by omega) (by omega)
  clear hWF
  refine bodyPost_ret (v := .tuple #[.agg (aD b R),.bool false]) (aI Tryz.results96 rfl hbk Tryz.underlying31 (by kernel_rfl)) rfl ⟨R,by rw [HU.out,HV.out],by rw [HU.out];exact hR,hBF⟩
 | true =>
  by_cases hp:b.phase=1
  ·have HP:=Hd hp
   have hp0:(b.phase != 1)=false:=by rw [hp];rfl
   clear hp
   have hbk:=(dV hb).1
   have hdv:=(aj hbk).1
   have hdb:=aY hdv
   have HDV:=Hd hdv
   clear hbk hdv
   by_cases ht0:t<0
   ·have hd0:decide (t<0)=true:=by simpa using ht0
    have hir:inR t 0 ((b.frames.length:Int) - 1)=false:=fT.2 (.inl ht0)
    have hO:wrO b t ws=false:=by unfold wrO;rw [hir];simp
    clear hb hir
    have HU:Hid (wrB b t ws=b):=by show _=_;unfold wrB;rw [hO];rfl
    have HV:Hid (wrO b t ws=false):=hO
    clear hO
    obtain ⟨z0,z1,z2,z3,z4,z5,z6,z7,z8,z9,z10,z11⟩:=HZ.out.cells
    have yz:=HZ.out.soft
    obtain ⟨o0,o1,o2,o3,o4,o5,o6,o7,o8,o9,o10,o11⟩:=HO.out.cells
    have yo:=HO.out.soft
    obtain ⟨x0,x1,x2,x3,x4,x5,x6,x7,x8,x9,x10,x11⟩:=HX.out.cells
    go_wp2_with fail
    clear z0 z1 z2 z3 z4 z5 z6 z7 z8 z9 z10 z11 yz o0 o1 o2 o3 o4 o5 o6 o7 o8 o9 o10 o11 yo x0 x1 x2 x3 x4 x5 x6 x7 x8 x9 x10 x11
    generalize hWF:World.setCell _ _ _=WF
    obtain ⟨hbk,hszF,hBF,hCF⟩:=bK (W:=w3) (b':=b) (s':=R) hWF (HZ.out) (HB.out) (by omega)
    have hR:aG w.heap.size WF.heap.size WF b R:=((HF.out).chg hCF (.inr (by omega))).widen (by omega) (by omega)
    clear hWF
    refine bodyPost_ret (v := .tuple #[.agg (aD b R),.bool false]) (aI Tryz.results96 rfl hbk Tryz.underlying31 (by kernel_rfl)) rfl ⟨R,by rw [HU.out,HV.out],by rw [HU.out];exact hR,hBF⟩
   by_cases ht1:(s.n1:Int)<=t
   ·have hd0:decide (t<0)=false:=by simp;omega
    have hd1:decide (t≥(s.n1:Int))=true:=by simpa using ht1
    have hir:inR t 0 ((b.frames.length:Int) - 1)=false:=fT.2 (.inr (by rw [HFN.out];omega))
    have hO:wrO b t ws=false:=by unfold wrO;rw [hir];simp
    clear hb hir
    have HU:Hid (wrB b t ws=b):=by show _=_;unfold wrB;rw [hO];rfl
    have HV:Hid (wrO b t ws=false):=hO
    clear hO
    obtain ⟨z0,z1,z2,z3,z4,z5,z6,z7,z8,z9,z10,z11⟩:=HZ.out.cells
    have yz:=HZ.out.soft
    obtain ⟨o0,o1,o2,o3,o4,o5,o6,o7,o8,o9,o10,o11⟩:=HO.out.cells
    have yo:=HO.out.soft
    obtain ⟨x0,x1,x2,x3,x4,x5,x6,x7,x8,x9,x10,x11⟩:=HX.out.cells
    go_wp2_with fail
    clear z0 z1 z2 z3 z4 z5 z6 z7 z8 z9 z10 z11 yz o0 o1 o2 o3 o4 o5 o6 o7 o8 o9 o10 o11 yo x0 x1 x2 x3 x4 x5 x6 x7 x8 x9 x10 x11
    generalize hWF:World.setCell _ _ _=WF
    obtain ⟨hbk,hszF,hBF,hCF⟩:=bK (W:=w3) (b':=b) (s':=R) hWF (HZ.out) (HB.out) (by omega)
    have hR:aG w.heap.size WF.heap.size WF b R:=((HF.out).chg hCF (.inr (by omega))).widen (by omega) (by omega)
    clear hWF
    refine bodyPost_ret (v := .tuple #[.agg (aD b R),.bool false]) (aI Tryz.results96 rfl hbk Tryz.underlying31 (by kernel_rfl)) rfl ⟨R,by rw [HU.out,HV.out],by rw [HU.out];exact hR,hBF⟩
   have hd0:decide (t<0)=false:=by simp;omega
   have hd1:decide (t≥(s.n1:Int))=false:=by simp;omega
   have HIR:Hid (inR t 0 ((b.frames.length:Int) - 1)=true):=ak.2 (by rw [HFN.out];omega)
   obtain ⟨tn,rfl⟩:=Int.eq_ofNat_of_zero_le (show (0:Int)<=t by omega)
   have hd2:decide (s.n1<=tn)=false:=by simp;omega
   cases hC2:gY b.dev b.reg (tn:Int) with
   | false =>
    have HC2:Hid (∀w',Calls Tryz.prog 155 #[.agg #[.int .i64 b.dev.W,.int .i64 b.dev.H,.int .i64 b.dev.T,.int .i64 b.dev.R],.agg #[.int .i64 b.reg.X0,.int .i64 b.reg.Y0,.int .i64 b.reg.X1,.int .i64 b.reg.Y1],.int .i64 (tn:Int)] w' fun e w''=>e = .returned (.bool false)/\Below w'.heap.size w' w''):=fun w'=>by have h:=iH b.dev b.reg (tn:Int) w' (by omega) (by omega) (by omega) (by omega);rwa [hC2] at h
    have hO0:wrO b (tn:Int) ws=false:=by unfold wrO;rw [hC2];simp
    have HO0:=Hd hO0
    clear hb hC2 hO0
    obtain ⟨x0,x1,x2,x3,x4,x5,x6,x7,x8,x9,x10,x11⟩:=HX.out.cells
    obtain ⟨o0,o1,o2,o3,o4,o5,o6,o7,o8,o9,o10,o11⟩:=HO.out.cells
    have yo:=HO.out.soft
    go_wp2_with fail
    clear x0 x1 x2 x3 x4 x5 x6 x7 x8 x9 x10 x11 o0 o1 o2 o3 o4 o5 o6 o7 o8 o9 o10 o11 yo
    refine (HC2.out _).mono ?_
    rintro e w4 ⟨rfl,b4⟩
    have hs3:=b4.size
    replace HB:=Hd (aA HB.out b4)
    replace HX:=Hd (HX.out.tr b4)
    replace HZ:=Hd (HZ.out.tr b4)
    replace HO:=Hd (HO.out.tr b4)
    replace HF:=Hd (HF.out.below b4)
    clear b4
    have hO:=HO0.out
    have HU:Hid (wrB b (tn:Int) ws=b):=by show _=_;unfold wrB;rw [hO];rfl
    have HV:Hid (wrO b (tn:Int) ws=false):=hO
    clear hO
    obtain ⟨z0,z1,z2,z3,z4,z5,z6,z7,z8,z9,z10,z11⟩:=HZ.out.cells
    have yz:=HZ.out.soft
    obtain ⟨o0,o1,o2,o3,o4,o5,o6,o7,o8,o9,o10,o11⟩:=HO.out.cells
    have yo:=HO.out.soft
    go_wp2_with fail
    clear z0 z1 z2 z3 z4 z5 z6 z7 z8 z9 z10 z11 yz o0 o1 o2 o3 o4 o5 o6 o7 o8 o9 o10 o11 yo
    generalize hWF:World.setCell _ _ _=WF
    obtain ⟨hbk,hszF,hBF,hCF⟩:=bK (W:=w4) (b':=b) (s':=R) hWF (HZ.out) (HB.out) (by omega)
    have hR:aG w.heap.size WF.heap.size WF b R:=((HF.out).chg hCF (.inr (by omega))).widen (by omega) (by omega)
    clear hWF
    refine bodyPost_ret (v := .tuple #[.agg (aD b R),.bool false]) (aI Tryz.results96 rfl hbk Tryz.underlying31 (by kernel_rfl)) rfl ⟨R,by rw [HU.out,HV.out],by rw [HU.out];exact hR,hBF⟩
   | true =>
    have HC2:Hid (∀w',Calls Tryz.prog 155 #[.agg #[.int .i64 b.dev.W,.int .i64 b.dev.H,.int .i64 b.dev.T,.int .i64 b.dev.R],.agg #[.int .i64 b.reg.X0,.int .i64 b.reg.Y0,.int .i64 b.reg.X1,.int .i64 b.reg.Y1],.int .i64 (tn:Int)] w' fun e w''=>e = .returned (.bool true)/\Below w'.heap.size w' w''):=fun w'=>by have h:=iH b.dev b.reg (tn:Int) w' (by omega) (by omega) (by omega) (by omega);rwa [hC2] at h
    have HR2:=Hd hC2
    clear hC2
    obtain ⟨x0,x1,x2,x3,x4,x5,x6,x7,x8,x9,x10,x11⟩:=HX.out.cells
    obtain ⟨o0,o1,o2,o3,o4,o5,o6,o7,o8,o9,o10,o11⟩:=HO.out.cells
    have yo:=HO.out.soft
    go_wp2_with fail
    clear x0 x1 x2 x3 x4 x5 x6 x7 x8 x9 x10 x11 o0 o1 o2 o3 o4 o5 o6 o7 o8 o9 o10 o11 yo
    refine (HC2.out _).mono ?_
    rintro e w4 ⟨rfl,b4⟩
    have hs3:=b4.size
    replace HB:=Hd (aA HB.out b4)
    replace HX:=Hd (HX.out.tr b4)
    replace HZ:=Hd (HZ.out.tr b4)
    replace HO:=Hd (HO.out.tr b4)
    replace HF:=Hd (HF.out.below b4)
    clear b4
    obtain ⟨x0,x1,x2,x3,x4,x5,x6,x7,x8,x9,x10,x11⟩:=HX.out.cells
    obtain ⟨o0,o1,o2,o3,o4,o5,o6,o7,o8,o9,o10,o11⟩:=HO.out.cells
    have yo:=HO.out.soft
    go_wp2_with fail
    clear x0 x1 x2 x3 x4 x5 x6 x7 x8 x9 x10 x11 o0 o1 o2 o3 o4 o5 o6 o7 o8 o9 o10 o11 yo
    refine (ko b.dev _ HDV.out).mono ?_
    rintro e w5 ⟨rfl,b5⟩
    have hs4:=b5.size
    replace HB:=Hd (aA HB.out b5)
    replace HX:=Hd (HX.out.tr b5)
    replace HZ:=Hd (HZ.out.tr b5)
    replace HO:=Hd (HO.out.tr b5)
    replace HF:=Hd (HF.out.below b5)
    clear b5
    cases hC3:bN ws (fwI b.dev) 65535 with
    | false =>
     have HC3:Hid (∀w',bH w' WA wn ws→Calls Tryz.prog 159 #[.slice WA wn wc,.int .i64 (fwI b.dev),.int .i64 65535] w' fun e w''=>e = .returned (.bool false)/\Below w'.heap.size w' w''):=fun w' hi=>by have h:=AB WA wn wc ws (fwI b.dev) 65535 w' hi hwn;rwa [hC3] at h
     have hO0:wrO b (tn:Int) ws=false:=by unfold wrO;rw [hC3];simp
     have HO0:=Hd hO0
     clear hb hC3 hO0
     obtain ⟨x0,x1,x2,x3,x4,x5,x6,x7,x8,x9,x10,x11⟩:=HX.out.cells
     go_wp2_with fail
     clear x0 x1 x2 x3 x4 x5 x6 x7 x8 x9 x10 x11
     refine (HC3.out _ (HIW.out.below HB.out)).mono ?_
     rintro e w6 ⟨rfl,b6⟩
     have hs5:=b6.size
     replace HB:=Hd (aA HB.out b6)
     replace HX:=Hd (HX.out.tr b6)
     replace HZ:=Hd (HZ.out.tr b6)
     replace HO:=Hd (HO.out.tr b6)
     replace HF:=Hd (HF.out.below b6)
     clear b6
     have hO:=HO0.out
     have HU:Hid (wrB b (tn:Int) ws=b):=by show _=_;unfold wrB;rw [hO];rfl
     have HV:Hid (wrO b (tn:Int) ws=false):=hO
     clear hO
     obtain ⟨z0,z1,z2,z3,z4,z5,z6,z7,z8,z9,z10,z11⟩:=HZ.out.cells
     have yz:=HZ.out.soft
     obtain ⟨o0,o1,o2,o3,o4,o5,o6,o7,o8,o9,o10,o11⟩:=HO.out.cells
     have yo:=HO.out.soft
     go_wp2_with fail
     clear z0 z1 z2 z3 z4 z5 z6 z7 z8 z9 z10 z11 yz o0 o1 o2 o3 o4 o5 o6 o7 o8 o9 o10 o11 yo
     generalize hWF:World.setCell _ _ _=WF
     obtain ⟨hbk,hszF,hBF,hCF⟩:=bK (W:=w6) (b':=b) (s':=R) hWF (HZ.out) (HB.out) (by omega)
     have hR:aG w.heap.size WF.heap.size WF b R:=((HF.out).chg hCF (.inr (by omega))).widen (by omega) (by omega)
     clear hWF
     refine bodyPost_ret (v := .tuple #[.agg (aD b R),.bool false]) (aI Tryz.results96 rfl hbk Tryz.underlying31 (by kernel_rfl)) rfl ⟨R,by rw [HU.out,HV.out],by rw [HU.out];exact hR,hBF⟩
    | true =>
     have HC3:Hid (∀w',bH w' WA wn ws→Calls Tryz.prog 159 #[.slice WA wn wc,.int .i64 (fwI b.dev),.int .i64 65535] w' fun e w''=>e = .returned (.bool true)/\Below w'.heap.size w' w''):=fun w' hi=>by have h:=AB WA wn wc ws (fwI b.dev) 65535 w' hi hwn;rwa [hC3] at h
     have hO0:wrO b (tn:Int) ws=true:=by unfold wrO;rw [hb,hC3,HP.out,HIR.out,HR2.out];rfl
     have HO0:=Hd hO0
     obtain ⟨hin,hwl⟩:=sN hC3
     have HIN:=Hd hin
     have hwb:wn<=11:=by have h1:=jq HDV.out;have h2:=HIW.out.1;omega
     clear hb hC3 hO0 hin hwl
     obtain ⟨x0,x1,x2,x3,x4,x5,x6,x7,x8,x9,x10,x11⟩:=HX.out.cells
     go_wp2_with fail
     clear x0 x1 x2 x3 x4 x5 x6 x7 x8 x9 x10 x11
     refine (HC3.out _ (HIW.out.below HB.out)).mono ?_
     rintro e w6 ⟨rfl,b6⟩
     have hs5:=b6.size
     replace HB:=Hd (aA HB.out b6)
     replace HX:=Hd (HX.out.tr b6)
     replace HZ:=Hd (HZ.out.tr b6)
     replace HO:=Hd (HO.out.tr b6)
     replace HF:=Hd (HF.out.below b6)
     clear b6
     have HU:Hid (wrB b (tn:Int) ws={ b with frames:=b.frames.set tn (kC ws) }):=by show _=_;unfold wrB;rw [HO0.out];rfl
     have HV:=HO0
     have hq1:R.n1=s.n1:=by have h:=HF.out.rd.frames.1;have h2:=HFN.out;omega
     have t0:(0:Int)<=(tn:Int):=by omega
     have t1:(tn:Int)<(R.n1:Int):=by omega
     have HQ1:=Hd hq1
     clear hq1
     have R0:=Hd (Own.new0 (w:=w6) (base:=w6.heap.size) (Nat.le_refl _))
     have RB:=Hd (aB (Below.refl w6.heap.size w6) (.cells #[] 3))
     have HWL:=Hd HIW.out.1
     go_wp2_with fail
     go_loopw [9,10] (fun v i wx=>∃(j:Nat) (A2:Option Addr) (c2:Nat),j<=wn/\i = .int .i64 j/\v = .slice A2 j c2/\Own w6.heap.size wx A2 j c2 (kC (ws.take j))/\Below w6.heap.size w6 wx) (fun _ i _=>wn - (intOf i).toNat)
     case atStart=>exact ⟨0,_,0,Nat.zero_le _,rfl,rfl,by simpa [kC] using R0.out,RB.out⟩
     case round =>
      obtain ⟨j,A2,c2,hj,rfl,rfl,ho,hb2⟩:=hrel
      have HO2:=Hd ho
      have HB2:=Hd hb2
      have hs2:=hb2.size
      by_cases hjl:j<wn
      ·have hdj:decide ((j:Int)<(wn:Int))=true:=by simp;omega
       obtain ⟨bw,ow,rfl,hbw,hcw⟩:=(HIW.out.below HB.out).2 (by omega)
       have hck:=hcw j hjl
       rw [←hb2.cell (p:=⟨bw,ow+j,none⟩) hbw] at hck
       have hx:=HIN.out j (by rw [HWL.out];exact hjl)
       have HSM:=Hd (xU (ws:=ws) (k:=j) (by rw [HWL.out];exact hjl))
       have j0:(0:Int)<=(j:Int):=by omega
       have j1:(j:Int)<(wn:Int):=by omega
       clear hcw ho hb2
       generalize ws[j]?.getD 0=x at *
       obtain ⟨x,rfl⟩:=Int.eq_ofNat_of_zero_le hx.1
       have HT2:=HSM.out
       rw [Int.toNat_natCast] at HT2
       replace HSM:=Hd HT2
       clear HT2
       go_wp2_with fail
       refine (oW x _ (by omega)).mono ?_
       rintro e w8 ⟨rfl,b8⟩
       have B8:=Hd b8
       have hs8:=b8.size
       clear b8
       go_wp2_with (at_builtin;refine ax rfl _ _ rfl w6.heap.size A2 j c2 (kC (ws.take j)) _ rfl (HO2.out.below B8.out) rfl (by omega) (by omega) (aA HB2.out B8.out) ?_;rintro g9 cap w9 o9 b9 - -)
       go_roundw
       case rel=>exact ⟨j+1,_,_,by omega,by go_num,rfl,by rw [HSM.out];exact o9,b9⟩
       case measure=>simp [intOf];omega
      ·have hjn:j=wn:=by omega
       subst hjn
       have hdj:decide ((j:Int)<(j:Int))=false:=by simp
       have O7:Hid (Own w6.heap.size wr A2 j c2 (kC ws)):=by
        have h:=HO2.out
        rwa [Ea HWL.out] at h
       have hD:=HB2.out
       obtain ⟨g,G1,g1,g2,hA1,hgc,hgf,-,hg1,hg2,hg3⟩:=(HF.out.below hD).row (k:=tn) (by have h:=HQ1.out;have h2:=HFN.out;omega)
       have n2:w1.heap.size≠g:=by omega
       have n1:w.heap.size+1≠g:=by omega
       have HA1:=Hd hA1
       have HO7:=Hd (HO.out.tr hD)
       clear ho hb2 hj hjl
       have HK:Hid (aG W.heap.size wr.heap.size (wr.setCell ⟨g,tn,none⟩ (.slice A2 j c2)) { b with frames:=b.frames.set tn (kC ws) } R):=(HF.out.below hD).setRow (k:=tn) (by have h:=HQ1.out;omega) HA1.out O7.out (by omega) (by omega) (by omega) rfl rfl rfl
       have HB6:=Hd ((aA HB.out hD).setCell (p:=⟨g,tn,none⟩) (by simp only;omega) (.slice A2 j c2))
       have HZ6:=Hd ((HZ.out.tr hD).far (p:=⟨g,tn,none⟩) (by simp only;omega) (.slice A2 j c2))
       have HO6:=Hd ((HO.out.tr hD).far (p:=⟨g,tn,none⟩) (by simp only;omega) (.slice A2 j c2))
       have hs7:wr.heap.size<=(wr.setCell ⟨g,tn,none⟩ (.slice A2 j c2)).heap.size:=by simp
       clear hD
       obtain ⟨-,-,-,-,o4,-⟩:=HO7.out.cells
       rw [hA1] at o4
       clear hA1
       go_upto_region 10 with fail
       generalize hW7:wr.setCell ⟨g,tn,none⟩ (.slice A2 j c2)=W7 at *
       clear hW7 o4 hgc hgf
       obtain ⟨o0,o1,o2,o3,o4,o5,o6,o7,o8,o9,o10,o11⟩:=HO6.out.cells
       obtain ⟨z0,z1,z2,z3,z4,z5,z6,z7,z8,z9,z10,z11⟩:=HZ6.out.cells
       have yz:=HZ6.out.soft
       go_wp2_with fail
       clear o0 o1 o2 o3 o4 o5 o6 o7 o8 o9 o10 o11 z0 z1 z2 z3 z4 z5 z6 z7 z8 z9 z10 z11 yz
       generalize hWF:World.setCell _ _ _=WF
       obtain ⟨hbk,hszF,hBF,hCF⟩:=bK (W:=W7) (b':={ b with frames:=b.frames.set tn (kC ws) }) (s':=R) hWF (HZ6.out) (HB6.out) (by omega)
       have hR:aG w.heap.size WF.heap.size WF { b with frames:=b.frames.set tn (kC ws) } R:=((HK.out).chg hCF (.inr (by omega))).widen (by omega) (by omega)
       clear hWF
       refine bodyPost_ret (v := .tuple #[.agg (aD { b with frames:=b.frames.set tn (kC ws) } R),.bool true]) (aI Tryz.results96 rfl hbk Tryz.underlying31 (by kernel_rfl)) rfl ⟨R,by rw [HU.out,HV.out],by rw [HU.out];exact hR,hBF⟩
  ·have hp0:(b.phase != 1)=true:=by simp [hp]
   have hO:wrO b t ws=false:=by unfold wrO;rw [hb,decide_eq_false hp];rfl
   clear hb hp
   have HU:Hid (wrB b t ws=b):=by show _=_;unfold wrB;rw [hO];rfl
   have HV:Hid (wrO b t ws=false):=hO
   clear hO
   obtain ⟨z0,z1,z2,z3,z4,z5,z6,z7,z8,z9,z10,z11⟩:=HZ.out.cells
   have yz:=HZ.out.soft
   obtain ⟨o0,o1,o2,o3,o4,o5,o6,o7,o8,o9,o10,o11⟩:=HO.out.cells
   have yo:=HO.out.soft
   obtain ⟨x0,x1,x2,x3,x4,x5,x6,x7,x8,x9,x10,x11⟩:=HX.out.cells
   go_wp2_with fail
   clear z0 z1 z2 z3 z4 z5 z6 z7 z8 z9 z10 z11 yz o0 o1 o2 o3 o4 o5 o6 o7 o8 o9 o10 o11 yo x0 x1 x2 x3 x4 x5 x6 x7 x8 x9 x10 x11
   generalize hWF:World.setCell _ _ _=WF
   obtain ⟨hbk,hszF,hBF,hCF⟩:=bK (W:=w3) (b':=b) (s':=R) hWF (HZ.out) (HB.out) (by omega)
   have hR:aG w.heap.size WF.heap.size WF b R:=((HF.out).chg hCF (.inr (by omega))).widen (by omega) (by omega)
   clear hWF
   refine bodyPost_ret (v := .tuple #[.agg (aD b R),.bool false]) (aI Tryz.results96 rfl hbk Tryz.underlying31 (by kernel_rfl)) rfl ⟨R,by rw [HU.out,HV.out],by rw [HU.out];exact hR,hBF⟩
end Go.Proofs.YtignkfhdkcgkgaaGreat
