/- BeginRegion of the program (printed by mkop.py). -/
import Derived.Test.YtignkfhdkcgkgaaGreatOps
namespace Go.Proofs.YtignkfhdkcgkgaaGreat
set_option maxHeartbeats 4000000
set_option maxRecDepth 100000
open Go.RowKit
theorem uu (b:Bd) (s:Sl3) (r:Reg) (w:World) (hA:bV w b s) (hz1:af b.frames<=1099511627776) (h2:s.n2<=16777216) (h3:af b.saved<=1099511627776) :
  Calls Tryz.prog 108 #[.agg (aD b s),.agg #[.int .i64 r.X0,.int .i64 r.Y0,.int .i64 r.X1,.int .i64 r.Y1]] w fun e w'=>∃R,e = .returned (.tuple #[.agg (aD (beB b r) R),.bool (beO b r)])/\aG w.heap.size w'.heap.size w' (beB b r) R/\Below w.heap.size w w':=by
 have hz:kF b:=⟨hz1,by have:=hA.state.1;omega,h3⟩
 have HI:=Hd hA
 have HB:=Hd (aB (aB (aB (Below.refl w.heap.size w) (.cells (aD b s) 31)) (.cells #[.int .i64 r.X0,.int .i64 r.Y0,.int .i64 r.X1,.int .i64 r.Y1] 29)) (.cells z12 31))
 have HX:Hid (bC (((w.alloc (.cells (aD b s) 31)).alloc (.cells #[.int .i64 r.X0,.int .i64 r.Y0,.int .i64 r.X1,.int .i64 r.Y1] 29)).alloc (.cells z12 31)) w.heap.size b s):=aR _ (aR _ (aL _ _))
 have HZ:Hid (bC (((w.alloc (.cells (aD b s) 31)).alloc (.cells #[.int .i64 r.X0,.int .i64 r.Y0,.int .i64 r.X1,.int .i64 r.Y1] 29)).alloc (.cells z12 31)) (w.heap.size+2) zBd zSl):=ae (by simp)
 have hsz:w.heap.size+3<=(((w.alloc (.cells (aD b s) 31)).alloc (.cells #[.int .i64 r.X0,.int .i64 r.Y0,.int .i64 r.X1,.int .i64 r.Y1] 29)).alloc (.cells z12 31)).heap.size:=by simp
 have HRg:Hid ((((w.alloc (.cells (aD b s) 31)).alloc (.cells #[.int .i64 r.X0,.int .i64 r.Y0,.int .i64 r.X1,.int .i64 r.Y1] 29)).alloc (.cells z12 31)).heap[w.heap.size+1]?=some (.cells #[.int .i64 r.X0,.int .i64 r.Y0,.int .i64 r.X1,.int .i64 r.Y1] 29 (0,0))):=aR _ (ae (by simp))
 clear hA
 go_enter Tryz.func108,Tryz.ntmps108
 go_wp2_with fail
 generalize hW:(((w.alloc (.cells (aD b s) 31)).alloc (.cells #[.int .i64 r.X0,.int .i64 r.Y0,.int .i64 r.X1,.int .i64 r.Y1] 29)).alloc (.cells z12 31))=W at *
 clear hW
 refine (cB b s _ (HI.out.below HB.out) hz).mono ?_
 rintro e w1 ⟨R,rfl,a1,b1⟩
 have HF:=Hd a1.fp
 have hs0:=b1.size
 replace HB:=Hd (aA HB.out b1)
 replace HX:=Hd (HX.out.tr b1)
 replace HZ:=Hd (HZ.out.tr b1)
 replace HRg:=Hd (aF b1 HRg.out)
 clear a1 b1
 have b2:Below w1.heap.size w1 (w1.alloc (.cells (aD b R) 31)):=aB (Below.refl _ _) _
 have HO:Hid (bC (w1.alloc (.cells (aD b R) 31)) w1.heap.size b R):=aL _ _
 have hs2:w1.heap.size<(w1.alloc (.cells (aD b R) 31)).heap.size:=by simp
 replace HF:=Hd (HF.out.below b2)
 replace HB:=Hd (aA HB.out b2)
 replace HX:=Hd (HX.out.tr b2)
 replace HZ:=Hd (HZ.out.tr b2)
 replace HRg:=Hd (aF b2 HRg.out)
 obtain ⟨x0,x1,x2,x3,x4,x5,x6,x7,x8,x9,x10,x11⟩:=HX.out.cells
 go_wp2_with fail
 generalize hW2:(w1.alloc (.cells (aD b R) 31))=W2 at *
 clear x0 x1 x2 x3 x4 x5 x6 x7 x8 x9 x10 x11
 clear hW2 b2
 refine (fq b s _ (HI.out.below HB.out) hz1 h2 h3).mono ?_
 rintro e w3 ⟨rfl,b3⟩
 have hs2:=b3.size
 replace HB:=Hd (aA HB.out b3)
 replace HX:=Hd (HX.out.tr b3)
 replace HZ:=Hd (HZ.out.tr b3)
 replace HO:=Hd (HO.out.tr b3)
 replace HF:=Hd (HF.out.below b3)
 replace HRg:=Hd (aF b3 HRg.out)
 clear b3
 cases hb:bkF b with
 | false =>
  have hO:beO b r=false:=by unfold beO;rw [hb];rfl
  clear hb
  have HU:Hid (beB b r=b):=by show _=_;unfold beB;rw [hO];rfl
  have HV:Hid (beO b r=false):=hO
  clear hO
  obtain ⟨z0,z1,z2,z3,z4,z5,z6,z7,z8,z9,z10,z11⟩:=HZ.out.cells
  have yz:=HZ.out.soft
  obtain ⟨o0,o1,o2,o3,o4,o5,o6,o7,o8,o9,o10,o11⟩:=HO.out.cells
  have yo:=HO.out.soft
  go_wp2_with fail
  clear z0 z1 z2 z3 z4 z5 z6 z7 z8 z9 z10 z11 yz o0 o1 o2 o3 o4 o5 o6 o7 o8 o9 o10 o11 yo
  generalize hWF:World.setCell _ _ _=WF
  obtain ⟨hbk,hszF,hBF,hCF⟩:=bK (W:=w3) (b':=b) (s':=R) hWF (HZ.out) (HB.out) (by omega)
  have hR:aG w.heap.size WF.heap.size WF b R:=((HF.out).chg hCF (.inr (by omega))).widen (by omega) (by omega)
  clear hWF
  refine bodyPost_ret (v := .tuple #[.agg (aD b R),.bool false]) (aI Tryz.results108 rfl hbk Tryz.underlying31 (by kernel_rfl)) rfl ⟨R,by rw [HU.out,HV.out],by rw [HU.out];exact hR,hBF⟩
 | true =>
  by_cases hp:b.phase=0
  ·have HP:=Hd hp
   have hp0:(b.phase != 0)=false:=by rw [hp];rfl
   clear hp
   cases hq:rqF b.dev b.frames r with
   | false =>
    have HQ:Hid (∀w',dZ w' s.A1 s.n1 b.frames→Calls Tryz.prog 43 #[.agg #[.int .i64 b.dev.W,.int .i64 b.dev.H,.int .i64 b.dev.T,.int .i64 b.dev.R],.slice s.A1 s.n1 s.c1,.agg #[.int .i64 r.X0,.int .i64 r.Y0,.int .i64 r.X1,.int .i64 r.Y1]] w' fun e w''=>e = .returned (.bool false)/\Below w'.heap.size w' w''):=fun w' hw=>by have h:=kW b.dev s.A1 s.n1 s.c1 b.frames r w' hw hz1;rwa [hq] at h
    have hO:beO b r=false:=by unfold beO;rw [hb,hq,HP.out];rfl
    clear hb hq
    have HO1:=Hd hO
    clear hO
    obtain ⟨x0,x1,x2,x3,x4,x5,x6,x7,x8,x9,x10,x11⟩:=HX.out.cells
    obtain ⟨r0,r1,r2,r3⟩:=tu HRg.out
    go_wp2_with fail
    clear x0 x1 x2 x3 x4 x5 x6 x7 x8 x9 x10 x11
    clear r0 r1 r2 r3
    refine (HQ.out _ (HI.out.frames.below HB.out)).mono ?_
    rintro e w4 ⟨rfl,b4⟩
    have hs3:=b4.size
    replace HB:=Hd (aA HB.out b4)
    replace HX:=Hd (HX.out.tr b4)
    replace HZ:=Hd (HZ.out.tr b4)
    replace HO:=Hd (HO.out.tr b4)
    replace HF:=Hd (HF.out.below b4)
    replace HRg:=Hd (aF b4 HRg.out)
    clear b4
    have hO:=HO1.out
    have HU:Hid (beB b r=b):=by show _=_;unfold beB;rw [hO];rfl
    have HV:Hid (beO b r=false):=hO
    clear hO
    obtain ⟨z0,z1,z2,z3,z4,z5,z6,z7,z8,z9,z10,z11⟩:=HZ.out.cells
    have yz:=HZ.out.soft
    obtain ⟨o0,o1,o2,o3,o4,o5,o6,o7,o8,o9,o10,o11⟩:=HO.out.cells
    have yo:=HO.out.soft
    go_wp2_with fail
    clear z0 z1 z2 z3 z4 z5 z6 z7 z8 z9 z10 z11 yz o0 o1 o2 o3 o4 o5 o6 o7 o8 o9 o10 o11 yo
    generalize hWF:World.setCell _ _ _=WF
    obtain ⟨hbk,hszF,hBF,hCF⟩:=bK (W:=w4) (b':=b) (s':=R) hWF (HZ.out) (HB.out) (by omega)
    have hR:aG w.heap.size WF.heap.size WF b R:=((HF.out).chg hCF (.inr (by omega))).widen (by omega) (by omega)
    clear hWF
    refine bodyPost_ret (v := .tuple #[.agg (aD b R),.bool false]) (aI Tryz.results108 rfl hbk Tryz.underlying31 (by kernel_rfl)) rfl ⟨R,by rw [HU.out,HV.out],by rw [HU.out];exact hR,hBF⟩
   | true =>
    have HQ:Hid (∀w',dZ w' s.A1 s.n1 b.frames→Calls Tryz.prog 43 #[.agg #[.int .i64 b.dev.W,.int .i64 b.dev.H,.int .i64 b.dev.T,.int .i64 b.dev.R],.slice s.A1 s.n1 s.c1,.agg #[.int .i64 r.X0,.int .i64 r.Y0,.int .i64 r.X1,.int .i64 r.Y1]] w' fun e w''=>e = .returned (.bool true)/\Below w'.heap.size w' w''):=fun w' hw=>by have h:=kW b.dev s.A1 s.n1 s.c1 b.frames r w' hw hz1;rwa [hq] at h
    have hO:beO b r=true:=by unfold beO;rw [hb,hq,HP.out];rfl
    clear hb hq
    have HO1:=Hd hO
    clear hO
    obtain ⟨x0,x1,x2,x3,x4,x5,x6,x7,x8,x9,x10,x11⟩:=HX.out.cells
    obtain ⟨r0,r1,r2,r3⟩:=tu HRg.out
    go_wp2_with fail
    clear x0 x1 x2 x3 x4 x5 x6 x7 x8 x9 x10 x11
    clear r0 r1 r2 r3
    refine (HQ.out _ (HI.out.frames.below HB.out)).mono ?_
    rintro e w4 ⟨rfl,b4⟩
    have hs3:=b4.size
    replace HB:=Hd (aA HB.out b4)
    replace HX:=Hd (HX.out.tr b4)
    replace HZ:=Hd (HZ.out.tr b4)
    replace HRg:=Hd (aF b4 HRg.out)
    replace HO:=Hd (HO.out.tr b4)
    replace HF:=Hd (HF.out.below b4)
    clear b4
    have HU:Hid (beB b r=⟨b.dev,b.frames,b.state,1,r,b.frames⟩):=by show _=_;unfold beB;rw [HO1.out];rfl
    obtain ⟨x0,x1,x2,x3,x4,x5,x6,x7,x8,x9,x10,x11⟩:=HX.out.cells
    obtain ⟨o0,o1,o2,o3,o4,o5,o6,o7,o8,o9,o10,o11⟩:=HO.out.cells
    have yo:=HO.out.soft
    obtain ⟨r0,r1,r2,r3⟩:=tu HRg.out
    go_wp2_with fail
    clear x0 x1 x2 x3 x4 x5 x6 x7 x8 x9 x10 x11 o0 o1 o2 o3 o4 o5 o6 o7 o8 o9 o10 o11 yo
    clear r0 r1 r2 r3
    have hC5:Chg w1.heap.size (w1.heap.size+1) w4 (((((w4.setCell ⟨w1.heap.size,6,none⟩ (.int .i64 1)).setCell ⟨w1.heap.size,7,none⟩ (.int .i64 r.X0)).setCell ⟨w1.heap.size,8,none⟩ (.int .i64 r.Y0)).setCell ⟨w1.heap.size,9,none⟩ (.int .i64 r.X1)).setCell ⟨w1.heap.size,10,none⟩ (.int .i64 r.Y1)):=(Chg.set (Chg.set (Chg.set (Chg.set (Chg.set (Chg.refl _ _ _) (Nat.le_refl _) (Nat.lt_succ_self _) _) (Nat.le_refl _) (Nat.lt_succ_self _) _) (Nat.le_refl _) (Nat.lt_succ_self _) _) (Nat.le_refl _) (Nat.lt_succ_self _) _) (Nat.le_refl _) (Nat.lt_succ_self _) _)
    have ho5:bC (((((w4.setCell ⟨w1.heap.size,6,none⟩ (.int .i64 1)).setCell ⟨w1.heap.size,7,none⟩ (.int .i64 r.X0)).setCell ⟨w1.heap.size,8,none⟩ (.int .i64 r.Y0)).setCell ⟨w1.heap.size,9,none⟩ (.int .i64 r.X1)).setCell ⟨w1.heap.size,10,none⟩ (.int .i64 r.Y1)) w1.heap.size { b with phase:=1,reg:=r } R:=(bD (k:=10) (bD (k:=9) (bD (k:=8) (bD (k:=7) (bD (k:=6) HO.out _ rfl) _ rfl) _ rfl) _ rfl) _ rfl)
    generalize hW5:(((((w4.setCell ⟨w1.heap.size,6,none⟩ (.int .i64 1)).setCell ⟨w1.heap.size,7,none⟩ (.int .i64 r.X0)).setCell ⟨w1.heap.size,8,none⟩ (.int .i64 r.Y0)).setCell ⟨w1.heap.size,9,none⟩ (.int .i64 r.X1)).setCell ⟨w1.heap.size,10,none⟩ (.int .i64 r.Y1))=W5 at *
    clear hW5
    have hs5:=hC5.size
    replace HF:=Hd (HF.out.chg hC5 (.inl (Nat.le_refl _)))
    replace HB:=Hd (dR HB.out hC5 (by omega))
    replace HX:=Hd (HX.out.chg hC5 (.inl (by omega)))
    replace HZ:=Hd (HZ.out.chg hC5 (.inl (by omega)))
    replace HO:=Hd ho5
    clear hC5 ho5 HRg
    refine (jB s.A1 s.n1 s.c1 b.frames _ (HI.out.frames.below HB.out) hz1).mono ?_
    rintro e w6 ⟨A6,c6,rfl,o6,b6⟩
    have O6:=Hd o6
    have hs4:=b6.size
    replace HB:=Hd (aA HB.out b6)
    replace HX:=Hd (HX.out.tr b6)
    replace HZ:=Hd (HZ.out.tr b6)
    replace HO:=Hd (HO.out.tr b6)
    replace HF:=Hd (HF.out.below b6)
    clear b6 o6
    obtain ⟨z0,z1,z2,z3,z4,z5,z6,z7,z8,z9,z10,z11⟩:=HZ.out.cells
    have yz:=HZ.out.soft
    obtain ⟨o0,o1,o2,o3,o4,o5,o6,o7,o8,o9,o10,o11⟩:=HO.out.cells
    have yo:=HO.out.soft
    go_wp2_with fail
    clear z0 z1 z2 z3 z4 z5 z6 z7 z8 z9 z10 z11 yz o0 o1 o2 o3 o4 o5 o6 o7 o8 o9 o10 o11 yo
    have hC6:Chg w1.heap.size (w1.heap.size+1) w6 (w6.setCell ⟨w1.heap.size,11,none⟩ (.slice A6 s.n1 c6)):=(Chg.set (Chg.refl _ _ _) (Nat.le_refl _) (Nat.lt_succ_self _) _)
    have hsW:=hC6.size
    have hF6:aG W.heap.size w6.heap.size (w6.setCell ⟨w1.heap.size,11,none⟩ (.slice A6 s.n1 c6)) ⟨b.dev,b.frames,b.state,1,r,b.frames⟩ ⟨R.A1,R.n1,R.c1,R.A2,R.n2,R.c2,A6,s.n1,c6⟩:=(HF.out.chg hC6 (.inl (Nat.le_refl _))).setSaved (b':=⟨b.dev,b.frames,b.state,1,r,b.frames⟩) (O6.out.chg hC6 (.inr (by omega))) (by omega) (by omega) (by omega) rfl rfl
    generalize hWF:World.setCell _ _ _=WF
    obtain ⟨hbk,hszF,hBF,hCF⟩:=bK (W:=(w6.setCell ⟨w1.heap.size,11,none⟩ (.slice A6 s.n1 c6))) (b':=⟨b.dev,b.frames,b.state,1,r,b.frames⟩) (s':=⟨R.A1,R.n1,R.c1,R.A2,R.n2,R.c2,A6,s.n1,c6⟩) hWF (HZ.out.chg hC6 (.inl (by omega))) (HB.out.setCell (p:=⟨w1.heap.size,11,none⟩) (by simp only;omega) _) (by omega)
    have hR:aG w.heap.size WF.heap.size WF ⟨b.dev,b.frames,b.state,1,r,b.frames⟩ ⟨R.A1,R.n1,R.c1,R.A2,R.n2,R.c2,A6,s.n1,c6⟩:=((hF6).chg hCF (.inr (by omega))).widen (by omega) (by omega)
    clear hWF
    refine bodyPost_ret (v := .tuple #[.agg (aD ⟨b.dev,b.frames,b.state,1,r,b.frames⟩ ⟨R.A1,R.n1,R.c1,R.A2,R.n2,R.c2,A6,s.n1,c6⟩),.bool true]) (aI Tryz.results108 rfl hbk Tryz.underlying31 (by kernel_rfl)) rfl ⟨⟨R.A1,R.n1,R.c1,R.A2,R.n2,R.c2,A6,s.n1,c6⟩,by rw [HU.out,HO1.out],by rw [HU.out];exact hR,hBF⟩
  ·have hp0:(b.phase != 0)=true:=by simp [hp]
   have hO:beO b r=false:=by unfold beO;rw [hb,decide_eq_false hp];rfl
   clear hb hp
   obtain ⟨x0,x1,x2,x3,x4,x5,x6,x7,x8,x9,x10,x11⟩:=HX.out.cells
   have hO2:=hO
   clear hO
   have HOO:=Hd hO2
   clear hO2
   have hO:=HOO.out
   have HU:Hid (beB b r=b):=by show _=_;unfold beB;rw [hO];rfl
   have HV:Hid (beO b r=false):=hO
   clear hO
   obtain ⟨z0,z1,z2,z3,z4,z5,z6,z7,z8,z9,z10,z11⟩:=HZ.out.cells
   have yz:=HZ.out.soft
   obtain ⟨o0,o1,o2,o3,o4,o5,o6,o7,o8,o9,o10,o11⟩:=HO.out.cells
   have yo:=HO.out.soft
   go_wp2_with fail
   clear z0 z1 z2 z3 z4 z5 z6 z7 z8 z9 z10 z11 yz o0 o1 o2 o3 o4 o5 o6 o7 o8 o9 o10 o11 yo x0 x1 x2 x3 x4 x5 x6 x7 x8 x9 x10 x11
   generalize hWF:World.setCell _ _ _=WF
   obtain ⟨hbk,hszF,hBF,hCF⟩:=bK (W:=w3) (b':=b) (s':=R) hWF (HZ.out) (HB.out) (by omega)
   have hR:aG w.heap.size WF.heap.size WF b R:=((HF.out).chg hCF (.inr (by omega))).widen (by omega) (by omega)
   clear hWF
   refine bodyPost_ret (v := .tuple #[.agg (aD b R),.bool false]) (aI Tryz.results108 rfl hbk Tryz.underlying31 (by kernel_rfl)) rfl ⟨R,by rw [HU.out,HV.out],by rw [HU.out];exact hR,hBF⟩
end Go.Proofs.YtignkfhdkcgkgaaGreat
