/- RunActs of the program (printed by mkop.py). -/
import Derived.Test.YtignkfhdkcgkgaaGreatDa
namespace Go.Proofs.YtignkfhdkcgkgaaGreat
set_option maxHeartbeats 4000000
set_option maxRecDepth 100000
open Go.RowKit
theorem ni (b:Bd) (s:Sl3) (XA:Option Addr) (xn xc:Nat) (xs:List Ac) (w:World) (hA:bT w b s) (hI:kU w XA xn xs) (hz1:bF b.frames<=1099511627776) (h2:s.n2<=16777216) (h3:bF b.saved<=1099511627776) (hxw:∀j:Nat,((xs[j]?.getD Ac.zero).words).length<=1099511627776) :
  Calls Tryz.prog 9 #[.agg (aD b s),.slice XA xn xc] w fun e w'=>∃R A n c,e = .returned (.tuple #[.agg (aD (raB b xs) R),.slice A n c])/\fQ (fun k=>∃a:Addr,A=some a/\a.block=k) w.heap.size w'.heap.size w' (raB b xs) R/\Own w.heap.size w' A n c (raN b xs)/\Below w.heap.size w w':=by
 have hz:oD b:=⟨hz1,by have:=hA.state.1;omega,h3⟩
 have HI:=Hd hA
 have HB:=Hd (aB (aB (Below.refl w.heap.size w) (.cells (aD b s) 31)) (.cells z12 31))
 have HX:Hid (bD ((w.alloc (.cells (aD b s) 31)).alloc (.cells z12 31)) w.heap.size b s):=aW _ (aK _ _)
 have HZ:Hid (bD ((w.alloc (.cells (aD b s) 31)).alloc (.cells z12 31)) (w.heap.size+1) zBd zSl):=ax (by simp)
 have hsz:w.heap.size+2<=((w.alloc (.cells (aD b s) 31)).alloc (.cells z12 31)).heap.size:=by simp
 have HIX:=Hd hI
 have HXL:=Hd hI.1
 have HXW:=Hd hxw
 clear hI hxw
 clear hA
 go_enter Tryz.func9,Tryz.ntmps9
 go_wp2_with fail
 generalize hW:((w.alloc (.cells (aD b s) 31)).alloc (.cells z12 31))=W at *
 clear hW
 refine (dI b s _ (HI.out.below HB.out) hz).mono ?_
 rintro e w1 ⟨R,rfl,a1,b1⟩
 have HF:=Hd a1.fp
 have hs0:=b1.size
 replace HB:=Hd (aA HB.out b1)
 replace HX:=Hd (HX.out.tr b1)
 replace HZ:=Hd (HZ.out.tr b1)
 clear a1 b1
 have b2:Below w1.heap.size w1 (w1.alloc (.cells (aD b R) 31)):=aB (Below.refl _ _) _
 have HO:Hid (bD (w1.alloc (.cells (aD b R) 31)) w1.heap.size b R):=aK _ _
 have hs2:w1.heap.size<(w1.alloc (.cells (aD b R) 31)).heap.size:=by simp
 replace HF:=Hd (HF.out.below b2)
 replace HB:=Hd (aA HB.out b2)
 replace HX:=Hd (HX.out.tr b2)
 replace HZ:=Hd (HZ.out.tr b2)
 obtain ⟨x0,x1,x2,x3,x4,x5,x6,x7,x8,x9,x10,x11⟩:=HX.out.cells
 go_wp2_with fail
 generalize hW2:(w1.alloc (.cells (aD b R) 31))=W2 at *
 clear x0 x1 x2 x3 x4 x5 x6 x7 x8 x9 x10 x11
 clear hW2 b2
 refine (fA b s _ (HI.out.below HB.out) hz1 h2 h3).mono ?_
 rintro e w3 ⟨rfl,b3⟩
 have hs2:=b3.size
 replace HB:=Hd (aA HB.out b3)
 replace HX:=Hd (HX.out.tr b3)
 replace HZ:=Hd (HZ.out.tr b3)
 replace HO:=Hd (HO.out.tr b3)
 replace HF:=Hd (HF.out.below b3)
 clear b3
 cases hb:bkF b with
 | false =>
  have hO:raO b xs=false:=by unfold raO;rw [hb];rfl
  clear hb
  have HU:Hid (raB b xs=b):=by show _=_;unfold raB;rw [hO];rfl
  have HV:Hid (raN b xs=[]):=by show _=_;unfold raN;rw [hO];rfl
  clear hO
  obtain ⟨z0,z1,z2,z3,z4,z5,z6,z7,z8,z9,z10,z11⟩:=HZ.out.cells
  have yz:=HZ.out.soft
  obtain ⟨o0,o1,o2,o3,o4,o5,o6,o7,o8,o9,o10,o11⟩:=HO.out.cells
  have yo:=HO.out.soft
  obtain ⟨x0,x1,x2,x3,x4,x5,x6,x7,x8,x9,x10,x11⟩:=HX.out.cells
  go_wp2_with fail
  clear z0 z1 z2 z3 z4 z5 z6 z7 z8 z9 z10 z11 yz o0 o1 o2 o3 o4 o5 o6 o7 o8 o9 o10 o11 yo x0 x1 x2 x3 x4 x5 x6 x7 x8 x9 x10 x11
  generalize hWF:World.setCell _ _ _=WF
  obtain ⟨hbk,hszF,hBF,hCF⟩:=bS (W:=w3) (b':=b) (s':=R) hWF (HZ.out) (HB.out) (by omega)
  have hR:fQ (fun k=>∃a:Addr,none=some a/\a.block=k) w.heap.size WF.heap.size WF b R:=(((fQ.of (P:=GQ (w.heap.size+1) none) HF.out (fun k hk=>by rcases hk with rfl|⟨a,h,_⟩ <;> first|omega|cases h))).keep fun k hk h1 _ _=>hCF.block k hk (.inr (by omega))).weak (by omega) (by omega) (fun k hk => .inl (.inr hk))
  have hO:Own w.heap.size WF (none) (0) (0) ([]):=Own.nil
  clear hWF
  refine bodyPost_ret (v := .tuple #[.agg (aD b R),.slice (none) (0) (0)]) (aL Tryz.results9 rfl hbk Tryz.underlying31 (by kernel_rfl)) rfl ⟨R,none,0,0,by rw [HU.out],by rw [HU.out];exact hR,by rw [HV.out];exact hO,hBF⟩
 | true =>
  by_cases hx24:24<xn
  ·have hd24:decide ((xn:Int)>24)=true:=by simp;omega
   have hO:raO b xs=false:=by unfold raO;rw [HXL.out,decide_eq_false (by omega)];simp
   clear hb
   have HU:Hid (raB b xs=b):=by show _=_;unfold raB;rw [hO];rfl
   have HV:Hid (raN b xs=[]):=by show _=_;unfold raN;rw [hO];rfl
   clear hO
   obtain ⟨z0,z1,z2,z3,z4,z5,z6,z7,z8,z9,z10,z11⟩:=HZ.out.cells
   have yz:=HZ.out.soft
   obtain ⟨o0,o1,o2,o3,o4,o5,o6,o7,o8,o9,o10,o11⟩:=HO.out.cells
   have yo:=HO.out.soft
   obtain ⟨x0,x1,x2,x3,x4,x5,x6,x7,x8,x9,x10,x11⟩:=HX.out.cells
   go_wp2_with fail
   clear z0 z1 z2 z3 z4 z5 z6 z7 z8 z9 z10 z11 yz o0 o1 o2 o3 o4 o5 o6 o7 o8 o9 o10 o11 yo x0 x1 x2 x3 x4 x5 x6 x7 x8 x9 x10 x11
   generalize hWF:World.setCell _ _ _=WF
   obtain ⟨hbk,hszF,hBF,hCF⟩:=bS (W:=w3) (b':=b) (s':=R) hWF (HZ.out) (HB.out) (by omega)
   have hR:fQ (fun k=>∃a:Addr,none=some a/\a.block=k) w.heap.size WF.heap.size WF b R:=(((fQ.of (P:=GQ (w.heap.size+1) none) HF.out (fun k hk=>by rcases hk with rfl|⟨a,h,_⟩ <;> first|omega|cases h))).keep fun k hk h1 _ _=>hCF.block k hk (.inr (by omega))).weak (by omega) (by omega) (fun k hk => .inl (.inr hk))
   have hO:Own w.heap.size WF (none) (0) (0) ([]):=Own.nil
   clear hWF
   refine bodyPost_ret (v := .tuple #[.agg (aD b R),.slice (none) (0) (0)]) (aL Tryz.results9 rfl hbk Tryz.underlying31 (by kernel_rfl)) rfl ⟨R,none,0,0,by rw [HU.out],by rw [HU.out];exact hR,by rw [HV.out];exact hO,hBF⟩
  have hd24:decide ((xn:Int)>24)=false:=by simp;omega
  have hO:raO b xs=true:=by unfold raO;rw [hb,HXL.out,decide_eq_true (by omega)];rfl
  have HU:Hid (raB b xs=(iR b xs xn).1):=by show _=_;unfold raB;rw [if_pos hO,HXL.out]
  have HV:Hid (raN b xs=(iR b xs xn).2):=by show _=_;unfold raN;rw [if_pos hO,HXL.out]
  have HBB:=Hd (fun k=>JH hb xs k)
  clear hO hb
  go_wp2_with fail
  go_loopw [7,25] (fun v i wr=>∃(k:Nat) (NA:Option Addr) (c:Nat) (R':Sl3),k<=xn/\i = .int .i64 k/\v = .slice NA k c/\Below w.heap.size w wr/\bD wr (w.heap.size+1) zBd zSl/\bD wr w1.heap.size (iR b xs k).1 R'/\Own w3.heap.size wr NA k c (iR b xs k).2/\fQ (GQ w1.heap.size NA) W.heap.size wr.heap.size wr (iR b xs k).1 R'/\w3.heap.size<=wr.heap.size) (fun _ i _=>xn - (intOf i).toNat)
  case atStart=>exact ⟨0,none,0,R,Nat.zero_le _,rfl,rfl,HB.out,HZ.out,HO.out,Own.nil,(fQ.of HF.out (fun k hk=>by rcases hk with rfl|⟨a,h,_⟩ <;> first|omega|cases h)).weak (P:=GQ w1.heap.size none) (Nat.le_refl _) (by omega) (fun k hk => .inl hk),Nat.le_refl _⟩
  case round =>
   obtain ⟨k,NA,c,R',hk,rfl,rfl,hb1,hz1r,ho1,hn1,hf1,hsr⟩:=hrel
   have HBr:=Hd hb1
   have HZr:=Hd hz1r
   have HOr:=Hd ho1
   have HNr:=Hd hn1
   have HFr:=Hd hf1
   clear hb1 hz1r ho1 hn1 hf1
   by_cases hlt:k<xn
   ·have hdk:decide ((k:Int)<(xn:Int))=true:=by simp;omega
    obtain ⟨zb1,zb2,zb3⟩:=HBB.out k
    have HST:Hid (iR b xs (k+1)=(daB (iR b xs k).1 (xs[k]?.getD Ac.zero),(iR b xs k).2++[daN (iR b xs k).1 (xs[k]?.getD Ac.zero)])):=rfl
    have hxwk:=HXW.out k
    obtain ⟨xb,xo,hXA,hxb,hxc⟩:=(HIX.out.below HBr.out).2 (by omega)
    obtain ⟨WA,wn,wc,a0,a1,a2,a3,a4,a5,a6,a7,a8,hwi⟩:=hxc k hlt
    have HWI:=Hd hwi
    have hwn:wn<=1099511627776:=by have h:=hwi.1;omega
    subst hXA
    clear hxc hwi
    generalize (iR b xs k).1=bk at *
    generalize (iR b xs k).2=nk at *
    generalize xs[k]?.getD Ac.zero=x at *
    have k0:(0:Int)<=(k:Int):=by omega
    have k1:(k:Int)<(xn:Int):=by omega
    have hR2:R'.n2<=16777216:=by have h:=HFr.out.fp.rd.state.1;omega
    obtain ⟨o0,o1,o2,o3,o4,o5,o6,o7,o8,o9,o10,o11⟩:=HOr.out.cells
    have hxo:w1.heap.size<wr.heap.size:=by omega
    go_wp2_with fail
    have hb9:Below wr.heap.size wr (wr.alloc (.cells (dS x WA wn wc) 74)):=aB (Below.refl _ _) _
    refine (Gz bk R' x WA wn wc _ (HFr.out.fp.rd.below hb9) (HWI.out.below hb9) (by omega) hR2 (by omega) hwn).mono ?_
    rintro e w9 ⟨R2,rfl,f9,b9⟩
    clear o0 o1 o2 o3 o4 o5 o6 o7 o8 o9 o10 o11 a0 a1 a2 a3 a4 a5 a6 a7 a8
    have hbb:Below wr.heap.size wr w9:=aA hb9 b9
    have hs9:=b9.size
    simp only [World.size_alloc] at hs9 f9
    have HB9:=Hd (aA HBr.out hbb)
    have HZ9:=Hd (HZr.out.tr hbb)
    have HO9:=Hd (HOr.out.tr hbb)
    have HN9:=Hd (HNr.out.below hbb)
    have HF9:=Hd f9
    clear b9 hb9 hbb f9
    generalize daB bk x=B2 at *
    generalize daN bk x=N2 at *
    go_upto_region 9 with fail
    generalize hWA:World.alloc w9 _=WA
    have hbA:Below w9.heap.size w9 WA:=by rw [←hWA];exact aB (Below.refl _ _) _
    have HT10:Hid (bD WA w9.heap.size B2 R2):=by show bD _ _ _ _;rw [←hWA];exact aK _ _
    have hsA:=hbA.size
    have HBA:=Hd (aA HB9.out hbA)
    have HOA:=Hd (HO9.out.tr hbA)
    have HZA:=Hd (HZ9.out.tr hbA)
    have HNA:=Hd (HN9.out.below hbA)
    have HFA:=Hd (HF9.out.below hbA)
    clear hWA hbA
    obtain ⟨o0,o1,o2,o3,o4,o5,o6,o7,o8,o9,o10,o11⟩:=HOA.out.cells
    obtain ⟨x0,x1,x2,x3,x4,x5,x6,x7,x8,x9,x10,x11⟩:=HT10.out.cells
    have yo:=HOA.out.soft
    go_upto_region 10 with fail
    clear o0 o1 o2 o3 o4 o5 o6 o7 o8 o9 o10 o11 x0 x1 x2 x3 x4 x5 x6 x7 x8 x9 x10 x11 yo
    generalize hW10:World.setCell _ _ _=W10
    obtain ⟨g1,g2,g3,g4⟩:=bS (W:=WA) (b':=B2) (s':=R2) hW10 HOA.out HBA.out (by omega)
    have HB10:=Hd g3
    have HO10:=Hd g1
    have HZ10:=Hd (HZA.out.chg g4 (.inl (by omega)))
    have HN10:=Hd (HNA.out.chg g4 (lo:=w3.heap.size) (hi:=WA.heap.size) (fun a ha=>HNA.out.lt a ha) (.inr (by omega)))
    have HF10:=Hd (HFA.out.chg g4 (.inr (by omega)))
    have hs10:w9.heap.size<=W10.heap.size:=by omega
    clear hW10 g1 g2 g3 g4
    go_wp2_with (at_builtin;refine av rfl _ _ rfl w3.heap.size NA k c nk _ rfl HN10.out rfl (by omega) (by omega) (Below.refl w3.heap.size W10) ?_;rintro g4 cap w4 q4 b4 gr4 hat4)
    have hs4:=b4.size
    have HB4:=Hd (HB10.out.trans (b4.mono (show w.heap.size<=w3.heap.size by omega)))
    have HZ4:Hid (bD w4 (w.heap.size+1) zBd zSl):=(b4.block _ (by omega)).trans HZ10.out
    have HO4:Hid (bD w4 w1.heap.size B2 R2):=(b4.block _ (by omega)).trans HO10.out
    have HF4:Hid (fQ (GQ w1.heap.size (some ⟨g4,0,none⟩)) W.heap.size w4.heap.size w4 B2 R2):=by
     have h1:aH (wr.heap.size+1) w9.heap.size w4 B2 R2:=HF10.out.keep fun q hq h1 h2=>(DZ gr4 (by simp;omega) (fun a ha=>by have:=HNr.out.lt a ha;omega)).trans (Below.heap_alloc _ _ _ hq)
     refine (fQ.of (P:=GQ w1.heap.size (some ⟨g4,0,none⟩)) h1 (fun q hq=>?_)).weak (by omega) (by omega) (fun q hq => .inl hq)
     rcases hq with rfl|⟨a,ha,rfl⟩
     ·omega
     ·injection ha with ha
      subst ha
      rcases hat4 with h|h
      ·cases hNA:NA with
       | none=>rw [hNA] at h;cases h
       | some a2=>rw [hNA] at h;simp only [Option.map_some,Option.some.injEq] at h;have:=HNr.out.lt a2 hNA;simp only;omega
      ·simp only;omega
    clear b4 gr4 hat4
    go_roundw
    case rel=>exact ⟨k+1,some ⟨g4,0,none⟩,cap,R2,by omega,by go_num,rfl,HB4.out,HZ4.out,by rw [HST.out];exact HO4.out,by rw [HST.out];exact q4,by rw [HST.out];exact HF4.out,by omega⟩
    case measure=>simp [intOf];omega
   ·have hkm:k=xn:=by omega
    subst hkm
    have hdk:decide ((k:Int)<(k:Int))=false:=by simp
    obtain ⟨o0,o1,o2,o3,o4,o5,o6,o7,o8,o9,o10,o11⟩:=HOr.out.cells
    obtain ⟨z0,z1,z2,z3,z4,z5,z6,z7,z8,z9,z10,z11⟩:=HZr.out.cells
    have yz:=HZr.out.soft
    go_wp2_with fail
    clear o0 o1 o2 o3 o4 o5 o6 o7 o8 o9 o10 o11 z0 z1 z2 z3 z4 z5 z6 z7 z8 z9 z10 z11 yz
    generalize hWF:World.setCell _ _ _=WF
    obtain ⟨hbk,hszF,hBF,hCF⟩:=bS (W:=wr) (b':=(iR b xs k).1) (s':=R') hWF (HZr.out) (HBr.out) (by omega)
    have hR:fQ (fun k=>∃a:Addr,NA=some a/\a.block=k) w.heap.size WF.heap.size WF (iR b xs k).1 R':=((HFr.out).keep fun k hk h1 _ _=>hCF.block k hk (.inr (by omega))).weak (by omega) (by omega) (fun k hk => .inl (.inr hk))
    have hO:Own w.heap.size WF (NA) (k) (c) ((iR b xs k).2):=(HNr.out.chg hCF (lo:=w3.heap.size) (hi:=wr.heap.size) (fun a ha=>HNr.out.lt a ha) (.inr (by omega))).more (by omega)
    clear hWF
    refine bodyPost_ret (v := .tuple #[.agg (aD (iR b xs k).1 R'),.slice (NA) (k) (c)]) (aL Tryz.results9 rfl hbk Tryz.underlying31 (by kernel_rfl)) rfl ⟨R',NA,k,c,by rw [HU.out],by rw [HU.out];exact hR,by rw [HV.out];exact hO,hBF⟩
end Go.Proofs.YtignkfhdkcgkgaaGreat
