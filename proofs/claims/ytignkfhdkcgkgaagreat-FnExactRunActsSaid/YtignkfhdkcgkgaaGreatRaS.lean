/- RunActs of the program (printed by mkop.py). -/
import Derived.Deep.CutBlock
import Derived.Deep.CutRange
import Derived.Deep.DeepCutAuto
import Derived.Test.YtignkfhdkcgkgaaGreatDaS
namespace Go.Proofs.YtignkfhdkcgkgaaGreat
set_option maxHeartbeats 4000000
set_option maxRecDepth 100000
open Go.RowKit
theorem ui (b:Bd) (s:Sl3) (XA:Option Addr) (xn xc:Nat) (xs:List Ac) (w:World) (hA:bV w b s) (hI:iM w XA xn xs) (hz1:af b.frames<=1099511627776) (h2:s.n2<=16777216) (h3:af b.saved<=1099511627776) (hxw:∀j:Nat,((xs[j]?.getD Ac.zero).words).length<=1099511627776) :
  Calls Tryz.prog 9 #[.agg (aD b s),.slice XA xn xc] w fun e w'=>∃R A n c,e = .returned (.tuple #[.agg (aD (raB b xs) R),.slice A n c])/\dD (fun k=>∃a:Addr,A=some a/\a.block=k) w.heap.size w'.heap.size w' (raB b xs) R/\Own w.heap.size w' A n c (raN b xs)/\Below w.heap.size w w':=by
 have hz:kF b:=⟨hz1,by have:=hA.state.1;omega,h3⟩
 have HI:=Hd hA
 have HB:=Hd (aB (aB (Below.refl w.heap.size w) (.cells (aD b s) 31)) (.cells z12 31))
 have HX:Hid (bC ((w.alloc (.cells (aD b s) 31)).alloc (.cells z12 31)) w.heap.size b s):=aR _ (aL _ _)
 have HZ:Hid (bC ((w.alloc (.cells (aD b s) 31)).alloc (.cells z12 31)) (w.heap.size+1) zBd zSl):=ae (by simp)
 have hsz:w.heap.size+2<=((w.alloc (.cells (aD b s) 31)).alloc (.cells z12 31)).heap.size:=by simp
 have HIX:=Hd hI
 have HXL:=Hd hI.1
 have HXW:=Hd hxw
 clear hI hxw
 clear hA
 go_enter Tryz.func9,Tryz.ntmps9
 go_wp2_with fail
 generalize hW:((w.alloc (.cells (aD b s) 31)).alloc (.cells z12 31))=W at *
 clear hW
 refine (cB b s _ (HI.out.below HB.out) hz).mono ?_
 rintro e w1 ⟨R,rfl,a1,b1⟩
 have HF:=Hd a1.fp
 have hs0:=b1.size
 replace HB:=Hd (aA HB.out b1)
 replace HX:=Hd (HX.out.tr b1)
 replace HZ:=Hd (HZ.out.tr b1)
 clear a1 b1
 have b2:Below w1.heap.size w1 (w1.alloc (.cells (aD b R) 31)):=aB (Below.refl _ _) _
 have HO:Hid (bC (w1.alloc (.cells (aD b R) 31)) w1.heap.size b R):=aL _ _
 have hs2:w1.heap.size<(w1.alloc (.cells (aD b R) 31)).heap.size:=by simp
 replace HF:=Hd (HF.out.below b2)
 replace HB:=Hd (aA HB.out b2)
 replace HX:=Hd (HX.out.tr b2)
 replace HZ:=Hd (HZ.out.tr b2)
 obtain ⟨x0,x1,x2,x3,x4,x5,x6,x7,x8,x9,x10,x11⟩:=HX.out.cells
 go_wp2_with fail
 generalize hW2:(w1.alloc (.cells (aD b R) 31))=W2 at *
 clear x0 x1 x2 x3 x4 x5 x6 x7 x8 x9 x10 x11
 clear hW2 b2
 refine (fq b s _ (HI.out.below HB.out) hz1 h2 h3).mono ?_
 rintro e w3 ⟨rfl,b3⟩
 have hs2:=b3.size
 replace HB:=Hd (aA HB.out b3)
 replace HX:=Hd (HX.out.tr b3)
 replace HZ:=Hd (HZ.out.tr b3)
 replace HO:=Hd (HO.out.tr b3)
 replace HF:=Hd (HF.out.below b3)
 clear b3
 cases hb:bkF b with
 | false =>
  have hO:raO b xs=false:=by unfold raO;rw [hb];rfl
  clear hb
  have HU:Hid (raB b xs=b):=by show _=_;unfold raB;rw [hO];rfl
  have HV:Hid (raN b xs=[]):=by show _=_;unfold raN;rw [hO];rfl
  clear hO
  obtain ⟨z0,z1,z2,z3,z4,z5,z6,z7,z8,z9,z10,z11⟩:=HZ.out.cells
  have yz:=HZ.out.soft
  obtain ⟨o0,o1,o2,o3,o4,o5,o6,o7,o8,o9,o10,o11⟩:=HO.out.cells
  have yo:=HO.out.soft
  obtain ⟨x0,x1,x2,x3,x4,x5,x6,x7,x8,x9,x10,x11⟩:=HX.out.cells
  go_wp2_with fail
  clear z0 z1 z2 z3 z4 z5 z6 z7 z8 z9 z10 z11 yz o0 o1 o2 o3 o4 o5 o6 o7 o8 o9 o10 o11 yo x0 x1 x2 x3 x4 x5 x6 x7 x8 x9 x10 x11
  generalize hWF:World.setCell _ _ _=WF
  obtain ⟨hbk,hszF,hBF,hCF⟩:=bK (W:=w3) (b':=b) (s':=R) hWF (HZ.out) (HB.out) (by omega)
  have hR:dD (fun k=>∃a:Addr,none=some a/\a.block=k) w.heap.size WF.heap.size WF b R:=(((dD.of (P:=uq (w.heap.size+1) none) HF.out (fun k hk=>by rcases hk with rfl|⟨a,h,_⟩ <;> first|omega|cases h))).keep fun k hk h1 _ _=>hCF.block k hk (.inr (by omega))).weak (by omega) (by omega) (fun k hk => .inl (.inr hk))
  have hO:Own w.heap.size WF (none) (0) (0) ([]):=Own.nil
  clear hWF
  refine bodyPost_ret (v := .tuple #[.agg (aD b R),.slice (none) (0) (0)]) (aI Tryz.results9 rfl hbk Tryz.underlying31 (by kernel_rfl)) rfl ⟨R,none,0,0,by rw [HU.out],by rw [HU.out];exact hR,by rw [HV.out];exact hO,hBF⟩
 | true =>
  by_cases hx24:24<xn
  ·have hd24:decide ((xn:Int)>24)=true:=by simp;omega
   have hO:raO b xs=false:=by unfold raO;rw [HXL.out,decide_eq_false (by omega)];simp
   clear hb
   have HU:Hid (raB b xs=b):=by show _=_;unfold raB;rw [hO];rfl
   have HV:Hid (raN b xs=[]):=by show _=_;unfold raN;rw [hO];rfl
   clear hO
   obtain ⟨z0,z1,z2,z3,z4,z5,z6,z7,z8,z9,z10,z11⟩:=HZ.out.cells
   have yz:=HZ.out.soft
   obtain ⟨o0,o1,o2,o3,o4,o5,o6,o7,o8,o9,o10,o11⟩:=HO.out.cells
   have yo:=HO.out.soft
   obtain ⟨x0,x1,x2,x3,x4,x5,x6,x7,x8,x9,x10,x11⟩:=HX.out.cells
   go_wp2_with fail
   clear z0 z1 z2 z3 z4 z5 z6 z7 z8 z9 z10 z11 yz o0 o1 o2 o3 o4 o5 o6 o7 o8 o9 o10 o11 yo x0 x1 x2 x3 x4 x5 x6 x7 x8 x9 x10 x11
   generalize hWF:World.setCell _ _ _=WF
   obtain ⟨hbk,hszF,hBF,hCF⟩:=bK (W:=w3) (b':=b) (s':=R) hWF (HZ.out) (HB.out) (by omega)
   have hR:dD (fun k=>∃a:Addr,none=some a/\a.block=k) w.heap.size WF.heap.size WF b R:=(((dD.of (P:=uq (w.heap.size+1) none) HF.out (fun k hk=>by rcases hk with rfl|⟨a,h,_⟩ <;> first|omega|cases h))).keep fun k hk h1 _ _=>hCF.block k hk (.inr (by omega))).weak (by omega) (by omega) (fun k hk => .inl (.inr hk))
   have hO:Own w.heap.size WF (none) (0) (0) ([]):=Own.nil
   clear hWF
   refine bodyPost_ret (v := .tuple #[.agg (aD b R),.slice (none) (0) (0)]) (aI Tryz.results9 rfl hbk Tryz.underlying31 (by kernel_rfl)) rfl ⟨R,none,0,0,by rw [HU.out],by rw [HU.out];exact hR,by rw [HV.out];exact hO,hBF⟩
  have hd24:decide ((xn:Int)>24)=false:=by simp;omega
  have hO:raO b xs=true:=by unfold raO;rw [hb,HXL.out,decide_eq_true (by omega)];rfl
  have HU:Hid (raB b xs=(gu b xs xn).1):=by show _=_;unfold raB;rw [if_pos hO,HXL.out]
  have HV:Hid (raN b xs=(gu b xs xn).2):=by show _=_;unfold raN;rw [if_pos hO,HXL.out]
  have HBB:=Hd (fun k=>yU hb xs k)
  clear hO hb
  go_wp2_with fail
  go_loopw [7,25] (fun v i wr=>∃(k:Nat) (NA:Option Addr) (c:Nat) (R':Sl3),k<=xn/\i = .int .i64 k/\v = .slice NA k c/\Below w.heap.size w wr/\bC wr (w.heap.size+1) zBd zSl/\bC wr w1.heap.size (gu b xs k).1 R'/\Own w3.heap.size wr NA k c (gu b xs k).2/\dD (uq w1.heap.size NA) W.heap.size wr.heap.size wr (gu b xs k).1 R'/\w3.heap.size<=wr.heap.size) (fun _ i _=>xn - (intOf i).toNat)
  case atStart=>exact ⟨0,none,0,R,Nat.zero_le _,rfl,rfl,HB.out,HZ.out,HO.out,Own.nil,(dD.of HF.out (fun k hk=>by rcases hk with rfl|⟨a,h,_⟩ <;> first|omega|cases h)).weak (P:=uq w1.heap.size none) (Nat.le_refl _) (by omega) (fun k hk => .inl hk),Nat.le_refl _⟩
  case round =>
   obtain ⟨k,NA,c,R',hk,rfl,rfl,hb1,hz1r,ho1,hn1,hf1,hsr⟩:=hrel
   have HBr:=Hd hb1
   have HZr:=Hd hz1r
   have HOr:=Hd ho1
   have HNr:=Hd hn1
   have HFr:=Hd hf1
   clear hb1 hz1r ho1 hn1 hf1
   by_cases hlt:k<xn
   ·have hdk:decide ((k:Int)<(xn:Int))=true:=by simp;omega
    obtain ⟨zb1,zb2,zb3⟩:=HBB.out k
    have HST:Hid (gu b xs (k+1)=(daB (gu b xs k).1 (xs[k]?.getD Ac.zero),(gu b xs k).2++[daN (gu b xs k).1 (xs[k]?.getD Ac.zero)])):=rfl
    have hxwk:=HXW.out k
    obtain ⟨xb,xo,hXA,hxb,hxc⟩:=(HIX.out.below HBr.out).2 (by omega)
    obtain ⟨WA,wn,wc,a0,a1,a2,a3,a4,a5,a6,a7,a8,hwi⟩:=hxc k hlt
    have HWI:=Hd hwi
    have hwn:wn<=1099511627776:=by have h:=hwi.1;omega
    subst hXA
    clear hxc hwi
    generalize (gu b xs k).1=bk at *
    generalize (gu b xs k).2=nk at *
    generalize xs[k]?.getD Ac.zero=x at *
    have k0:(0:Int)<=(k:Int):=by omega
    have k1:(k:Int)<(xn:Int):=by omega
    have hR2:R'.n2<=16777216:=by have h:=HFr.out.fp.rd.state.1;omega
    obtain ⟨o0,o1,o2,o3,o4,o5,o6,o7,o8,o9,o10,o11⟩:=HOr.out.cells
    have hxo:w1.heap.size<wr.heap.size:=by omega
    go_wp2_with fail
    have hb9:Below wr.heap.size wr (wr.alloc (.cells (dJ x WA wn wc) 74)):=aB (Below.refl _ _) _
    refine (FF bk R' x WA wn wc _ (HFr.out.fp.rd.below hb9) (HWI.out.below hb9) (by omega) hR2 (by omega) hwn).mono ?_
    rintro e w9 ⟨R2,rfl,f9,b9⟩
    clear o0 o1 o2 o3 o4 o5 o6 o7 o8 o9 o10 o11 a0 a1 a2 a3 a4 a5 a6 a7 a8
    have hbb:Below wr.heap.size wr w9:=aA hb9 b9
    have hs9:=b9.size
    simp only [World.size_alloc] at hs9 f9
    have HB9:=Hd (aA HBr.out hbb)
    have HZ9:=Hd (HZr.out.tr hbb)
    have HO9:=Hd (HOr.out.tr hbb)
    have HN9:=Hd (HNr.out.below hbb)
    have HF9:=Hd f9
    clear b9 hb9 hbb f9
    generalize daB bk x=B2 at *
    generalize daN bk x=N2 at *
    go_upto_region 9 with fail
    generalize hWA:World.alloc w9 _=WA
    have hbA:Below w9.heap.size w9 WA:=by rw [←hWA];exact aB (Below.refl _ _) _
    have HT10:Hid (bC WA w9.heap.size B2 R2):=by show bC _ _ _ _;rw [←hWA];exact aL _ _
    have hsA:=hbA.size
    have HBA:=Hd (aA HB9.out hbA)
    have HOA:=Hd (HO9.out.tr hbA)
    have HZA:=Hd (HZ9.out.tr hbA)
    have HNA:=Hd (HN9.out.below hbA)
    have HFA:=Hd (HF9.out.below hbA)
    clear hWA hbA
    obtain ⟨o0,o1,o2,o3,o4,o5,o6,o7,o8,o9,o10,o11⟩:=HOA.out.cells
    obtain ⟨x0,x1,x2,x3,x4,x5,x6,x7,x8,x9,x10,x11⟩:=HT10.out.cells
    have yo:=HOA.out.soft
    go_upto_region 10 with fail
    clear o0 o1 o2 o3 o4 o5 o6 o7 o8 o9 o10 o11 x0 x1 x2 x3 x4 x5 x6 x7 x8 x9 x10 x11 yo
    generalize hW10:World.setCell _ _ _=W10
    obtain ⟨g1,g2,g3,g4⟩:=bK (W:=WA) (b':=B2) (s':=R2) hW10 HOA.out HBA.out (by omega)
    have HB10:=Hd g3
    have HO10:=Hd g1
    have HZ10:=Hd (HZA.out.chg g4 (.inl (by omega)))
    have HN10:=Hd (HNA.out.chg g4 (lo:=w3.heap.size) (hi:=WA.heap.size) (fun a ha=>HNA.out.lt a ha) (.inr (by omega)))
    have HF10:=Hd (HFA.out.chg g4 (.inr (by omega)))
    have hs10:w9.heap.size<=W10.heap.size:=by omega
    clear hW10 g1 g2 g3 g4
    go_wp2_with (at_builtin;refine ax rfl _ _ rfl w3.heap.size NA k c nk _ rfl HN10.out rfl (by omega) (by omega) (Below.refl w3.heap.size W10) ?_;rintro g4 cap w4 q4 b4 gr4 hat4)
    have hs4:=b4.size
    have HB4:=Hd (HB10.out.trans (b4.mono (show w.heap.size<=w3.heap.size by omega)))
    have HZ4:Hid (bC w4 (w.heap.size+1) zBd zSl):=(b4.block _ (by omega)).trans HZ10.out
    have HO4:Hid (bC w4 w1.heap.size B2 R2):=(b4.block _ (by omega)).trans HO10.out
    have HF4:Hid (dD (uq w1.heap.size (some ⟨g4,0,none⟩)) W.heap.size w4.heap.size w4 B2 R2):=by
     have h1:aG (wr.heap.size+1) w9.heap.size w4 B2 R2:=HF10.out.keep fun q hq h1 h2=>(qB gr4 (by simp;omega) (fun a ha=>by have:=HNr.out.lt a ha;omega)).trans (Below.heap_alloc _ _ _ hq)
     refine (dD.of (P:=uq w1.heap.size (some ⟨g4,0,none⟩)) h1 (fun q hq=>?_)).weak (by omega) (by omega) (fun q hq => .inl hq)
     rcases hq with rfl|⟨a,ha,rfl⟩
     ·omega
     ·injection ha with ha
      subst ha
      rcases hat4 with h|h
      ·cases hNA:NA with
       | none=>rw [hNA] at h;cases h
       | some a2=>rw [hNA] at h;simp only [Option.map_some,Option.some.injEq] at h;have:=HNr.out.lt a2 hNA;simp only;omega
      ·simp only;omega
    clear b4 gr4 hat4
    go_roundw
    case rel=>exact ⟨k+1,some ⟨g4,0,none⟩,cap,R2,by omega,by go_num,rfl,HB4.out,HZ4.out,by rw [HST.out];exact HO4.out,by rw [HST.out];exact q4,by rw [HST.out];exact HF4.out,by omega⟩
    case measure=>simp [intOf];omega
   ·have hkm:k=xn:=by omega
    subst hkm
    have hdk:decide ((k:Int)<(k:Int))=false:=by simp
    obtain ⟨o0,o1,o2,o3,o4,o5,o6,o7,o8,o9,o10,o11⟩:=HOr.out.cells
    obtain ⟨z0,z1,z2,z3,z4,z5,z6,z7,z8,z9,z10,z11⟩:=HZr.out.cells
    have yz:=HZr.out.soft
    go_wp2_with fail
    clear o0 o1 o2 o3 o4 o5 o6 o7 o8 o9 o10 o11 z0 z1 z2 z3 z4 z5 z6 z7 z8 z9 z10 z11 yz
    generalize hWF:World.setCell _ _ _=WF
    obtain ⟨hbk,hszF,hBF,hCF⟩:=bK (W:=wr) (b':=(gu b xs k).1) (s':=R') hWF (HZr.out) (HBr.out) (by omega)
    have hR:dD (fun k=>∃a:Addr,NA=some a/\a.block=k) w.heap.size WF.heap.size WF (gu b xs k).1 R':=((HFr.out).keep fun k hk h1 _ _=>hCF.block k hk (.inr (by omega))).weak (by omega) (by omega) (fun k hk => .inl (.inr hk))
    have hO:Own w.heap.size WF (NA) (k) (c) ((gu b xs k).2):=(HNr.out.chg hCF (lo:=w3.heap.size) (hi:=wr.heap.size) (fun a ha=>HNr.out.lt a ha) (.inr (by omega))).more (by omega)
    clear hWF
    refine bodyPost_ret (v := .tuple #[.agg (aD (gu b xs k).1 R'),.slice (NA) (k) (c)]) (aI Tryz.results9 rfl hbk Tryz.underlying31 (by kernel_rfl)) rfl ⟨R',NA,k,c,by rw [HU.out],by rw [HU.out];exact hR,by rw [HV.out];exact hO,hBF⟩
theorem zY (b:Bd) (s:Sl3) (XA:Option Addr) (xn xc:Nat) (xs:List Ac) (w:World) (hA:bV w b s) (hI:iM w XA xn xs) (hz1:af b.frames<=1099511627776) (h2:s.n2<=16777216) (h3:af b.saved<=1099511627776) (hxw:∀j:Nat,((xs[j]?.getD Ac.zero).words).length<=1099511627776) :
  Calls Tryz.prog 16 #[.agg (aD b s),.slice XA xn xc] w fun e w'=>∃R A n c,e = .returned (.tuple #[.agg (aD (raB b xs) R),.slice A n c])/\dD (fun k=>∃a:Addr,A=some a/\a.block=k) w.heap.size w'.heap.size w' (raB b xs) R/\Own w.heap.size w' A n c (raN b xs)/\Below w.heap.size w w':=by
 have hz:kF b:=⟨hz1,by have:=hA.state.1;omega,h3⟩
 have HI:=Hd hA
 have HB:=Hd (aB (aB (Below.refl w.heap.size w) (.cells (aD b s) 31)) (.cells z12 31))
 have HX:Hid (bC ((w.alloc (.cells (aD b s) 31)).alloc (.cells z12 31)) w.heap.size b s):=aR _ (aL _ _)
 have HZ:Hid (bC ((w.alloc (.cells (aD b s) 31)).alloc (.cells z12 31)) (w.heap.size+1) zBd zSl):=ae (by simp)
 have hsz:w.heap.size+2<=((w.alloc (.cells (aD b s) 31)).alloc (.cells z12 31)).heap.size:=by simp
 have HIX:=Hd hI
 have HL:Hid (Own (w.heap.size+2) (((w.alloc (.cells (aD b s) 31)).alloc (.cells z12 31)).alloc (.cells #[] 3)) (some ⟨w.heap.size+1+1,0,none⟩) 0 0 []):=by have h:=Own.new0 (w:=((w.alloc (.cells (aD b s) 31)).alloc (.cells z12 31))) (base:=w.heap.size+2) (by simp);show Own _ _ _ _ _ _;simpa using h
 have HXL:=Hd hI.1
 have HXW:=Hd hxw
 clear hI hxw
 clear hA
 go_enter Tryz.func16,Tryz.ntmps16
 go_wp2_with fail
 generalize hW:((w.alloc (.cells (aD b s) 31)).alloc (.cells z12 31))=W at *
 clear hW
 have bL:Below W.heap.size W (W.alloc (.cells #[] 3)):=aB (Below.refl _ _) _
 have hsL:W.heap.size<(W.alloc (.cells #[] 3)).heap.size:=by simp
 replace HB:=Hd (aA HB.out bL)
 replace HX:=Hd (HX.out.tr bL)
 replace HZ:=Hd (HZ.out.tr bL)
 generalize hWL:(W.alloc (.cells #[] 3))=WL at *
 clear hWL bL
 refine (fA b s _ (HI.out.below HB.out) hz).mono ?_
 rintro e w1 ⟨R,rfl,a1,b1⟩
 have HF:=Hd a1.fp
 have hs1:=b1.size
 replace HB:=Hd (aA HB.out b1)
 replace HX:=Hd (HX.out.tr b1)
 replace HZ:=Hd (HZ.out.tr b1)
 replace HL:=Hd (HL.out.below b1)
 clear a1 b1
 have b2:Below w1.heap.size w1 (w1.alloc (.cells (aD b R) 31)):=aB (Below.refl _ _) _
 have HO:Hid (bC (w1.alloc (.cells (aD b R) 31)) w1.heap.size b R):=aL _ _
 have hs2:w1.heap.size<(w1.alloc (.cells (aD b R) 31)).heap.size:=by simp
 replace HF:=Hd (HF.out.below b2)
 replace HB:=Hd (aA HB.out b2)
 replace HX:=Hd (HX.out.tr b2)
 replace HZ:=Hd (HZ.out.tr b2)
 replace HL:=Hd (HL.out.below b2)
 obtain ⟨x0,x1,x2,x3,x4,x5,x6,x7,x8,x9,x10,x11⟩:=HX.out.cells
 go_wp2_with fail
 generalize hW2:(w1.alloc (.cells (aD b R) 31))=W2 at *
 clear x0 x1 x2 x3 x4 x5 x6 x7 x8 x9 x10 x11
 clear hW2 b2
 refine (ek b s _ (HI.out.below HB.out) hz1 h2 h3).mono ?_
 rintro e w3 ⟨rfl,b3⟩
 have hs3:=b3.size
 replace HB:=Hd (aA HB.out b3)
 replace HX:=Hd (HX.out.tr b3)
 replace HZ:=Hd (HZ.out.tr b3)
 replace HO:=Hd (HO.out.tr b3)
 replace HF:=Hd (HF.out.below b3)
 replace HL:=Hd (HL.out.below b3)
 clear b3
 cases hb:bkF b with
 | false =>
  have hO:raO b xs=false:=by unfold raO;rw [hb];rfl
  clear hb
  have HU:Hid (raB b xs=b):=by show _=_;unfold raB;rw [hO];rfl
  have HV:Hid (raN b xs=[]):=by show _=_;unfold raN;rw [hO];rfl
  clear hO
  obtain ⟨z0,z1,z2,z3,z4,z5,z6,z7,z8,z9,z10,z11⟩:=HZ.out.cells
  have yz:=HZ.out.soft
  obtain ⟨o0,o1,o2,o3,o4,o5,o6,o7,o8,o9,o10,o11⟩:=HO.out.cells
  have yo:=HO.out.soft
  obtain ⟨x0,x1,x2,x3,x4,x5,x6,x7,x8,x9,x10,x11⟩:=HX.out.cells
  go_wp2_with fail
  clear z0 z1 z2 z3 z4 z5 z6 z7 z8 z9 z10 z11 yz o0 o1 o2 o3 o4 o5 o6 o7 o8 o9 o10 o11 yo x0 x1 x2 x3 x4 x5 x6 x7 x8 x9 x10 x11
  generalize hWF:World.setCell _ _ _=WF
  obtain ⟨hbk,hszF,hBF,hCF⟩:=bK (W:=w3) (b':=b) (s':=R) hWF (HZ.out) (HB.out) (by omega)
  have hR:dD (fun k=>∃a:Addr,some ⟨w.heap.size+1+1,0,none⟩=some a/\a.block=k) w.heap.size WF.heap.size WF b R:=(((dD.of (P:=uq (w.heap.size+1) (some ⟨w.heap.size+1+1,0,none⟩)) HF.out (fun k hk=>by rcases hk with rfl|⟨a,h,rfl⟩;exact .inl (by omega);injection h with h;subst h;exact .inl (by simp only;omega)))).keep fun k hk h1 _ _=>hCF.block k hk (.inr (by omega))).weak (by omega) (by omega) (fun k hk => .inl (.inr hk))
  have hO:Own w.heap.size WF (some ⟨w.heap.size+1+1,0,none⟩) (0) (0) ([]):=((HL.out.chg hCF (lo:=w.heap.size+2) (hi:=w3.heap.size) (fun a ha=>HL.out.lt a ha) (.inr (by omega))).more (by omega))
  clear hWF
  refine bodyPost_ret (v := .tuple #[.agg (aD b R),.slice (some ⟨w.heap.size+1+1,0,none⟩) (0) (0)]) (aI Tryz.results16 rfl hbk Tryz.underlying31 (by kernel_rfl)) rfl ⟨R,some ⟨w.heap.size+1+1,0,none⟩,0,0,by rw [HU.out],by rw [HU.out];exact hR,by rw [HV.out];exact hO,hBF⟩
 | true =>
  by_cases hx24:24<xn
  ·have hd24:decide ((xn:Int)>24)=true:=by simp;omega
   have hO:raO b xs=false:=by unfold raO;rw [HXL.out,decide_eq_false (by omega)];simp
   clear hb
   have HU:Hid (raB b xs=b):=by show _=_;unfold raB;rw [hO];rfl
   have HV:Hid (raN b xs=[]):=by show _=_;unfold raN;rw [hO];rfl
   clear hO
   obtain ⟨z0,z1,z2,z3,z4,z5,z6,z7,z8,z9,z10,z11⟩:=HZ.out.cells
   have yz:=HZ.out.soft
   obtain ⟨o0,o1,o2,o3,o4,o5,o6,o7,o8,o9,o10,o11⟩:=HO.out.cells
   have yo:=HO.out.soft
   obtain ⟨x0,x1,x2,x3,x4,x5,x6,x7,x8,x9,x10,x11⟩:=HX.out.cells
   go_wp2_with fail
   clear z0 z1 z2 z3 z4 z5 z6 z7 z8 z9 z10 z11 yz o0 o1 o2 o3 o4 o5 o6 o7 o8 o9 o10 o11 yo x0 x1 x2 x3 x4 x5 x6 x7 x8 x9 x10 x11
   generalize hWF:World.setCell _ _ _=WF
   obtain ⟨hbk,hszF,hBF,hCF⟩:=bK (W:=w3) (b':=b) (s':=R) hWF (HZ.out) (HB.out) (by omega)
   have hR:dD (fun k=>∃a:Addr,some ⟨w.heap.size+1+1,0,none⟩=some a/\a.block=k) w.heap.size WF.heap.size WF b R:=(((dD.of (P:=uq (w.heap.size+1) (some ⟨w.heap.size+1+1,0,none⟩)) HF.out (fun k hk=>by rcases hk with rfl|⟨a,h,rfl⟩;exact .inl (by omega);injection h with h;subst h;exact .inl (by simp only;omega)))).keep fun k hk h1 _ _=>hCF.block k hk (.inr (by omega))).weak (by omega) (by omega) (fun k hk => .inl (.inr hk))
   have hO:Own w.heap.size WF (some ⟨w.heap.size+1+1,0,none⟩) (0) (0) ([]):=((HL.out.chg hCF (lo:=w.heap.size+2) (hi:=w3.heap.size) (fun a ha=>HL.out.lt a ha) (.inr (by omega))).more (by omega))
   clear hWF
   refine bodyPost_ret (v := .tuple #[.agg (aD b R),.slice (some ⟨w.heap.size+1+1,0,none⟩) (0) (0)]) (aI Tryz.results16 rfl hbk Tryz.underlying31 (by kernel_rfl)) rfl ⟨R,some ⟨w.heap.size+1+1,0,none⟩,0,0,by rw [HU.out],by rw [HU.out];exact hR,by rw [HV.out];exact hO,hBF⟩
  have hd24:decide ((xn:Int)>24)=false:=by simp;omega
  have hO:raO b xs=true:=by unfold raO;rw [hb,HXL.out,decide_eq_true (by omega)];rfl
  have HU:Hid (raB b xs=(gu b xs xn).1):=by show _=_;unfold raB;rw [if_pos hO,HXL.out]
  have HV:Hid (raN b xs=(gu b xs xn).2):=by show _=_;unfold raN;rw [if_pos hO,HXL.out]
  have HBB:=Hd (fun k=>yU hb xs k)
  clear hO hb
  go_wp2_with fail
  go_loopw [6,8] (fun v i wr=>∃(k:Nat) (NA:Option Addr) (c:Nat) (R':Sl3),k<=xn/\i = .int .i64 k/\v = .slice NA k c/\Below w.heap.size w wr/\bC wr (w.heap.size+1) zBd zSl/\bC wr w1.heap.size (gu b xs k).1 R'/\Own (w.heap.size+2) wr NA k c (gu b xs k).2/\(∀a,NA=some a→a.block≠w1.heap.size)/\dD (uq w1.heap.size NA) W.heap.size wr.heap.size wr (gu b xs k).1 R'/\w3.heap.size<=wr.heap.size) (fun _ i _=>xn - (intOf i).toNat)
  case atStart=>exact ⟨0,some ⟨w.heap.size+1+1,0,none⟩,0,R,Nat.zero_le _,rfl,rfl,HB.out,HZ.out,HO.out,HL.out,(by rintro a ⟨⟩;simp only;omega),(dD.of (P:=uq w1.heap.size (some ⟨w.heap.size+1+1,0,none⟩)) HF.out (fun k hk=>by rcases hk with rfl|⟨a,h,rfl⟩;exact .inr (Nat.le_refl _);injection h with h;subst h;exact .inl (by simp only;omega))).weak (by omega) (by omega) (fun k hk => .inl hk),Nat.le_refl _⟩
  case round =>
   obtain ⟨k,NA,c,R',hk,rfl,rfl,hb1,hz1r,ho1,hn1,hno,hf1,hsr⟩:=hrel
   have HBr:=Hd hb1
   have HZr:=Hd hz1r
   have HOr:=Hd ho1
   have HNr:=Hd hn1
   have HFr:=Hd hf1
   have HNO:=Hd hno
   clear hb1 hz1r ho1 hn1 hf1 hno
   by_cases hlt:k<xn
   ·have hdk:decide ((k:Int)<(xn:Int))=true:=by simp;omega
    obtain ⟨zb1,zb2,zb3⟩:=HBB.out k
    have HST:Hid (gu b xs (k+1)=(daB (gu b xs k).1 (xs[k]?.getD Ac.zero),(gu b xs k).2++[daN (gu b xs k).1 (xs[k]?.getD Ac.zero)])):=rfl
    have hxwk:=HXW.out k
    obtain ⟨xb,xo,hXA,hxb,hxc⟩:=(HIX.out.below HBr.out).2 (by omega)
    obtain ⟨WA,wn,wc,a0,a1,a2,a3,a4,a5,a6,a7,a8,hwi⟩:=hxc k hlt
    have HWI:=Hd hwi
    have hwn:wn<=1099511627776:=by have h:=hwi.1;omega
    subst hXA
    clear hxc hwi
    have hR2:R'.n2<=16777216:=by have h:=HFr.out.fp.rd.state.1;omega
    have HDA:=Hd (fun (w':World) (hw:Below wr.heap.size wr w')=>CB (gu b xs k).1 R' (xs[k]?.getD Ac.zero) WA wn wc w' (HFr.out.fp.rd.below hw) (HWI.out.below hw) (by omega) hR2 (by omega) hwn)
    generalize (gu b xs k).1=bk at *
    generalize (gu b xs k).2=nk at *
    generalize xs[k]?.getD Ac.zero=x at *
    generalize daB bk x=B2 at *
    generalize daN bk x=N2 at *
    have k0:(0:Int)<=(k:Int):=by omega
    have k1:(k:Int)<(xn:Int):=by omega
    have hxo:w1.heap.size<wr.heap.size:=by omega
    obtain ⟨o0,o1,o2,o3,o4,o5,o6,o7,o8,o9,o10,o11⟩:=HOr.out.cells
    go_upto_region 8 with fail
    go_cut [9,10] (fun p u w'=>nD wr B2 (.int .i64 N2) p u w')
    case first =>
     have hD:=Below.refl wr.heap.size wr
     go_wp2_with fail
     go_region_held3 (fun w'=>Below wr.heap.size wr w'/\∀b o,b<wr.heap.size→w'.cell? ⟨b,o,none⟩=wr.cell? ⟨b,o,none⟩)
      (first|with_reducible exact ⟨hD,(aO hD).1⟩|with_reducible exact ⟨hD.drew,(aO hD.drew).1⟩|(refine ⟨?_,(aO ?_).1⟩ <;> (repeat (first|with_reducible exact hD|with_reducible exact hD.drew|with_reducible refine aB ?_ _|with_reducible refine Below.drew ?_|with_reducible refine Below.setCell ?_ (by simp only;omega) _))))
      ((go_at_call 50;(with_reducible refine (HDA.out _ (by first|with_reducible exact hD|with_reducible exact hD.drew|with_reducible exact aB hD _|with_reducible exact (aB hD _).drew|with_reducible exact aB hD.drew _|with_reducible exact (aB hD.drew _).drew)).mono ?_);rintro e wk ⟨R,rfl,f,bw⟩;have HFq:=Hd f;have HBq:=Hd bw;have hD2:=aA (a:=wr) (by first|with_reducible exact hD|with_reducible exact hD.drew|with_reducible exact aB hD _|with_reducible exact (aB hD _).drew|with_reducible exact aB hD.drew _|with_reducible exact (aB hD.drew _).drew) bw;have hsz:=hD2.size;have hsz2:=bw.size;(try simp only [World.size_drew] at hsz2);(try simp only [World.size_alloc] at hsz2);(try have hlt2:=Nat.lt_of_succ_le hsz2);obtain ⟨hcc,hff⟩:=aO bw;clear bw f;replace hD:=hD2))
     ·go_wp2_with fail
      go_meet
      exact IJ hD HFq.out (Nat.le_refl _) (Nat.le_refl _)
     all_goals
      go_wp2_with fail
      go_meet
      exact IL hD HFq.out HBq.out (Nat.le_refl _)
    obtain ⟨w6,g6,R6,lo6,hi6,rfl,rfl,hbk6,hg6,hsp6,hlo6,hhi6,hF6,hD6,rfl⟩:=hcut
    have hs6:=hD6.size
    have HB6:=Hd (aA HBr.out hD6)
    have HZ6:=Hd (HZr.out.tr hD6)
    have HO6:=Hd (HOr.out.tr hD6)
    have HN6:=Hd (HNr.out.below hD6)
    have HF6:=Hd hF6
    have HK6:=Hd hbk6
    clear o0 o1 o2 o3 o4 o5 o6 o7 o8 o9 o10 o11 a0 a1 a2 a3 a4 a5 a6 a7 a8 hbk6 hF6 hD6 HDA
    obtain ⟨o0,o1,o2,o3,o4,o5,o6,o7,o8,o9,o10,o11⟩:=HO6.out.cells
    obtain ⟨x0,x1,x2,x3,x4,x5,x6,x7,x8,x9,x10,x11⟩:=HK6.out.cells
    have yo:=HO6.out.soft
    have lo:=aX HO6.out
    go_upto_region 10 with fail
    clear o0 o1 o2 o3 o4 o5 o6 o7 o8 o9 o10 o11 x0 x1 x2 x3 x4 x5 x6 x7 x8 x9 x10 x11 yo lo
    generalize hW10:World.setCell _ _ _=W10
    obtain ⟨g1,g2,g3,g4⟩:=bK (W:=w6) (b':=B2) (s':=R6) hW10 HO6.out HB6.out (by omega)
    have HB10:=Hd g3
    have HO10:=Hd g1
    have HZ10:=Hd (HZ6.out.chg g4 (.inl (by omega)))
    have HN10:Hid (Own (w.heap.size+2) W10 NA k c nk):=aa HN6.out fun a ha=>g4.block _ (HN6.out.lt a ha).2 (by have:=HNO.out a ha;omega)
    have HF10:=Hd (HF6.out.chg g4 (.inr (by omega)))
    clear hW10 g1 g3 g4
    go_wp2_with (at_builtin;refine ax rfl _ _ rfl (w.heap.size+2) NA k c nk _ rfl HN10.out rfl (by omega) (by omega) (Below.refl (w.heap.size+2) W10) ?_;rintro g4 cap w4 q4 b4 gr4 hat4)
    have hs4:=b4.size
    have hblk:∀i,i<W10.heap.size→(∀a,NA=some a→a.block≠i)→w4.heap[i]?=W10.heap[i]?:=fun i hi hne=>(qB gr4 (by simp;omega) (fun a ha=>hne a ha)).trans (Below.heap_alloc _ _ _ hi)
    have HB4:=Hd (HB10.out.trans (b4.mono (show w.heap.size<=w.heap.size+2 by omega)))
    have HZ4:Hid (bC w4 (w.heap.size+1) zBd zSl):=(b4.block _ (by omega)).trans HZ10.out
    have HO4:Hid (bC w4 w1.heap.size B2 R6):=(hblk _ (by omega) (fun a ha=>HNO.out a ha)).trans HO10.out
    have hg4:(∃a,NA=some a/\a.block=g4)∨W10.heap.size<=g4:=by
     rcases hat4 with h|h
     ·cases hNA:NA with
      | none=>rw [hNA] at h;cases h
      | some a2=>rw [hNA] at h;simp only [Option.map_some,Option.some.injEq] at h;exact .inl ⟨a2,rfl,h⟩
     ·right;omega
    have HF4:Hid (dD (uq w1.heap.size (some ⟨g4,0,none⟩)) W.heap.size w4.heap.size w4 B2 R6):=by
     have h1:aG lo6 hi6 w4 B2 R6:=HF10.out.keep fun q hq h1 h2=>hblk q hq (fun a ha=>by have:=(HNr.out.lt a ha).2;omega)
     refine (dD.of (P:=uq w1.heap.size (some ⟨g4,0,none⟩)) h1 (fun q hq=>?_)).weak (by omega) (by omega) (fun q hq => .inl hq)
     rcases hq with rfl|⟨a,ha,rfl⟩
     ·omega
     ·injection ha with ha
      subst ha
      rcases hg4 with ⟨a2,h2,h3⟩|h2
      ·have:=(HNr.out.lt a2 h2).2;simp only;omega
      ·simp only;omega
    have HNO4:Hid (∀a,(some ⟨g4,0,none⟩:Option Addr)=some a→a.block≠w1.heap.size):=fun a ha=>by
     injection ha with ha
     subst ha
     rcases hg4 with ⟨a2,h2,h3⟩|h2
     ·have:=HNO.out a2 h2;simp only;omega
     ·simp only;omega
    clear b4 gr4 hat4 hblk hg4
    go_roundw
    case rel=>exact ⟨k+1,some ⟨g4,0,none⟩,cap,R6,by omega,by go_num,rfl,HB4.out,HZ4.out,by rw [HST.out];exact HO4.out,by rw [HST.out];exact q4,HNO4.out,by rw [HST.out];exact HF4.out,by omega⟩
    case measure=>simp [intOf];omega
   ·have hkm:k=xn:=by omega
    subst hkm
    have hdk:decide ((k:Int)<(k:Int))=false:=by simp
    obtain ⟨o0,o1,o2,o3,o4,o5,o6,o7,o8,o9,o10,o11⟩:=HOr.out.cells
    obtain ⟨z0,z1,z2,z3,z4,z5,z6,z7,z8,z9,z10,z11⟩:=HZr.out.cells
    have yz:=HZr.out.soft
    go_wp2_with fail
    clear o0 o1 o2 o3 o4 o5 o6 o7 o8 o9 o10 o11 z0 z1 z2 z3 z4 z5 z6 z7 z8 z9 z10 z11 yz
    generalize hWF:World.setCell _ _ _=WF
    obtain ⟨hbk,hszF,hBF,hCF⟩:=bK (W:=wr) (b':=(gu b xs k).1) (s':=R') hWF (HZr.out) (HBr.out) (by omega)
    have hR:dD (fun k=>∃a:Addr,NA=some a/\a.block=k) w.heap.size WF.heap.size WF (gu b xs k).1 R':=((HFr.out).keep fun k hk h1 _ _=>hCF.block k hk (.inr (by omega))).weak (by omega) (by omega) (fun k hk => .inl (.inr hk))
    have hO:Own w.heap.size WF NA k c (gu b xs k).2:=Own.more (base:=w.heap.size+2) (aa HNr.out fun a ha=>hCF.block _ (HNr.out.lt a ha).2 (.inr (by have:=(HNr.out.lt a ha).1;omega))) (by omega)
    clear hWF
    exact bodyPost_ret (v := .tuple #[.agg (aD (gu b xs k).1 R'),.slice NA k c]) (aI Tryz.results16 rfl hbk Tryz.underlying31 (by kernel_rfl)) rfl ⟨R',NA,k,c,by rw [HU.out],by rw [HU.out];exact hR,by rw [HV.out];exact hO,hBF⟩
end Go.Proofs.YtignkfhdkcgkgaaGreat
