/- UpsetBit of the program (printed by mkop.py). -/
import Derived.Test.YtignkfhdkcgkgaaGreatBe
import Derived.Test.YtignkfhdkcgkgaaGreatSp
import Derived.Test.YtignkfhdkcgkgaaGreatStaW
import Derived.Test.YtignkfhdkcgkgaaGreatWr
namespace Go.Proofs.YtignkfhdkcgkgaaGreat
set_option maxHeartbeats 4000000
set_option maxRecDepth 100000
open Go.RowKit
theorem zT (b:Bd) (s:Sl3) (t k i:Int) (w:World) (hA:bV w b s) (hz1:af b.frames<=1099511627776) (h2:s.n2<=16777216) (h3:af b.saved<=1099511627776) :
  Calls Tryz.prog 107 #[.agg (aD b s),.int .i64 t,.int .i64 k,.int .i64 i] w fun e w'=>∃R,e = .returned (.tuple #[.agg (aD (upB b t k i) R),.bool (upO b t k i)])/\aG w.heap.size w'.heap.size w' (upB b t k i) R/\Below w.heap.size w w':=by
 have hz:kF b:=⟨hz1,by have:=hA.state.1;omega,h3⟩
 have HI:=Hd hA
 have HB:=Hd (aB (aB (Below.refl w.heap.size w) (.cells (aD b s) 31)) (.cells z12 31))
 have HX:Hid (bC ((w.alloc (.cells (aD b s) 31)).alloc (.cells z12 31)) w.heap.size b s):=aR _ (aL _ _)
 have HZ:Hid (bC ((w.alloc (.cells (aD b s) 31)).alloc (.cells z12 31)) (w.heap.size+1) zBd zSl):=ae (by simp)
 have hsz:w.heap.size+2<=((w.alloc (.cells (aD b s) 31)).alloc (.cells z12 31)).heap.size:=by simp
 clear hA
 go_enter Tryz.func107,Tryz.ntmps107
 go_wp2_with fail
 generalize hW:((w.alloc (.cells (aD b s) 31)).alloc (.cells z12 31))=W at *
 clear hW
 refine (cB b s _ (HI.out.below HB.out) hz).mono ?_
 rintro e w1 ⟨R,rfl,a1,b1⟩
 have HF:=Hd a1.fp
 have hs0:=b1.size
 replace HB:=Hd (aA HB.out b1)
 replace HX:=Hd (HX.out.tr b1)
 replace HZ:=Hd (HZ.out.tr b1)
 clear a1 b1
 have b2:Below w1.heap.size w1 (w1.alloc (.cells (aD b R) 31)):=aB (Below.refl _ _) _
 have HO:Hid (bC (w1.alloc (.cells (aD b R) 31)) w1.heap.size b R):=aL _ _
 have hs2:w1.heap.size<(w1.alloc (.cells (aD b R) 31)).heap.size:=by simp
 replace HF:=Hd (HF.out.below b2)
 replace HB:=Hd (aA HB.out b2)
 replace HX:=Hd (HX.out.tr b2)
 replace HZ:=Hd (HZ.out.tr b2)
 obtain ⟨x0,x1,x2,x3,x4,x5,x6,x7,x8,x9,x10,x11⟩:=HX.out.cells
 go_wp2_with fail
 generalize hW2:(w1.alloc (.cells (aD b R) 31))=W2 at *
 clear x0 x1 x2 x3 x4 x5 x6 x7 x8 x9 x10 x11
 clear hW2 b2
 refine (fq b s _ (HI.out.below HB.out) hz1 h2 h3).mono ?_
 rintro e w3 ⟨rfl,b3⟩
 have hs2:=b3.size
 replace HB:=Hd (aA HB.out b3)
 replace HX:=Hd (HX.out.tr b3)
 replace HZ:=Hd (HZ.out.tr b3)
 replace HO:=Hd (HO.out.tr b3)
 replace HF:=Hd (HF.out.below b3)
 clear b3
 cases hb:bkF b with
 | false =>
  have HU:Hid (upB b t k i=b):=by show _=_;unfold upB;rw [hb];rfl
  have HV:Hid (upO b t k i=false):=by show _=_;unfold upO;rw [hb];rfl
  clear hb
  obtain ⟨z0,z1,z2,z3,z4,z5,z6,z7,z8,z9,z10,z11⟩:=HZ.out.cells
  have yz:=HZ.out.soft
  obtain ⟨o0,o1,o2,o3,o4,o5,o6,o7,o8,o9,o10,o11⟩:=HO.out.cells
  have yo:=HO.out.soft
  go_wp2_with fail
  clear z0 z1 z2 z3 z4 z5 z6 z7 z8 z9 z10 z11 yz o0 o1 o2 o3 o4 o5 o6 o7 o8 o9 o10 o11 yo
  generalize hWF:World.setCell _ _ _=WF
  obtain ⟨hbk,hszF,hBF,hCF⟩:=bK (W:=w3) (b':=b) (s':=R) hWF (HZ.out) (HB.out) (by omega)
  have hR:aG w.heap.size WF.heap.size WF b R:=((HF.out).chg hCF (.inr (by omega))).widen (by omega) (by omega)
  clear hWF
  refine bodyPost_ret (v := .tuple #[.agg (aD b R),.bool false]) (aI Tryz.results107 rfl hbk Tryz.underlying31 (by kernel_rfl)) rfl ⟨R,by rw [HU.out,HV.out],by rw [HU.out];exact hR,hBF⟩
 | true =>
  have HU:Hid (upB b t k i={ b with frames:=bX b.dev b.frames t k i }):=by show _=_;unfold upB;rw [hb];rfl
  have HV:Hid (upO b t k i=dU b.dev b.frames t k i):=by show _=_;unfold upO;rw [hb];rfl
  clear hb
  obtain ⟨x0,x1,x2,x3,x4,x5,x6,x7,x8,x9,x10,x11⟩:=HX.out.cells
  go_wp2_with fail
  clear x0 x1 x2 x3 x4 x5 x6 x7 x8 x9 x10 x11
  refine (wu b.dev s.A1 s.n1 s.c1 b.frames t k i _ (HI.out.frames.below HB.out) hz1).mono ?_
  rintro e w4 ⟨A4,n4,c4,rfl,o4,b4⟩
  have O4:=Hd o4
  have hs3:=b4.size
  replace HB:=Hd (aA HB.out b4)
  replace HX:=Hd (HX.out.tr b4)
  replace HZ:=Hd (HZ.out.tr b4)
  replace HO:=Hd (HO.out.tr b4)
  replace HF:=Hd (HF.out.below b4)
  clear b4 o4
  obtain ⟨z0,z1,z2,z3,z4,z5,z6,z7,z8,z9,z10,z11⟩:=HZ.out.cells
  have yz:=HZ.out.soft
  obtain ⟨o0,o1,o2,o3,o4,o5,o6,o7,o8,o9,o10,o11⟩:=HO.out.cells
  have yo:=HO.out.soft
  go_wp2_with fail
  clear z0 z1 z2 z3 z4 z5 z6 z7 z8 z9 z10 z11 yz o0 o1 o2 o3 o4 o5 o6 o7 o8 o9 o10 o11 yo
  have hC4:Chg w1.heap.size (w1.heap.size+1) w4 (w4.setCell ⟨w1.heap.size,4,none⟩ (.slice A4 n4 c4)):=Chg.set (Chg.refl _ _ _) (Nat.le_refl _) (Nat.lt_succ_self _) _
  have hF4:aG W.heap.size w4.heap.size (w4.setCell ⟨w1.heap.size,4,none⟩ (.slice A4 n4 c4)) { b with frames:=bX b.dev b.frames t k i } ⟨A4,n4,c4,R.A2,R.n2,R.c2,R.A3,R.n3,R.c3⟩:=(HF.out.chg hC4 (.inl (Nat.le_refl _))).setFrames (b':={ b with frames:=bX b.dev b.frames t k i }) (O4.out.chg hC4 (.inr (by omega))) (by omega) (by omega) (by omega) rfl rfl
  have hsW:=hC4.size
  generalize hWF:World.setCell _ _ _=WF
  obtain ⟨hbk,hszF,hBF,hCF⟩:=bK (W:=(w4.setCell ⟨w1.heap.size,4,none⟩ (.slice A4 n4 c4))) (b':={ b with frames:=bX b.dev b.frames t k i }) (s':=⟨A4,n4,c4,R.A2,R.n2,R.c2,R.A3,R.n3,R.c3⟩) hWF (HZ.out.chg hC4 (.inl (by omega))) (HB.out.setCell (p:=⟨w1.heap.size,4,none⟩) (by simp only;omega) _) (by omega)
  have hR:aG w.heap.size WF.heap.size WF { b with frames:=bX b.dev b.frames t k i } ⟨A4,n4,c4,R.A2,R.n2,R.c2,R.A3,R.n3,R.c3⟩:=((hF4).chg hCF (.inr (by omega))).widen (by omega) (by omega)
  clear hWF
  refine bodyPost_ret (v := .tuple #[.agg (aD { b with frames:=bX b.dev b.frames t k i } ⟨A4,n4,c4,R.A2,R.n2,R.c2,R.A3,R.n3,R.c3⟩),.bool (dU b.dev b.frames t k i)]) (aI Tryz.results107 rfl hbk Tryz.underlying31 (by kernel_rfl)) rfl ⟨⟨A4,n4,c4,R.A2,R.n2,R.c2,R.A3,R.n3,R.c3⟩,by rw [HU.out,HV.out],by rw [HU.out];exact hR,hBF⟩
theorem vC (b:Bd) (s:Sl3) (w:World) (hA:bV w b s) (hz1:af b.frames<=1099511627776) (h2:s.n2<=16777216) (h3:af b.saved<=1099511627776) :
  Calls Tryz.prog 111 #[.agg (aD b s)] w fun e w'=>∃R,e = .returned (.tuple #[.agg (aD (abB b) R),.bool (abO b)])/\aG w.heap.size w'.heap.size w' (abB b) R/\Below w.heap.size w w':=by
 have hz:kF b:=⟨hz1,by have:=hA.state.1;omega,h3⟩
 have HI:=Hd hA
 have HB:=Hd (aB (aB (Below.refl w.heap.size w) (.cells (aD b s) 31)) (.cells z12 31))
 have HX:Hid (bC ((w.alloc (.cells (aD b s) 31)).alloc (.cells z12 31)) w.heap.size b s):=aR _ (aL _ _)
 have HZ:Hid (bC ((w.alloc (.cells (aD b s) 31)).alloc (.cells z12 31)) (w.heap.size+1) zBd zSl):=ae (by simp)
 have hsz:w.heap.size+2<=((w.alloc (.cells (aD b s) 31)).alloc (.cells z12 31)).heap.size:=by simp
 clear hA
 go_enter Tryz.func111,Tryz.ntmps111
 go_wp2_with fail
 generalize hW:((w.alloc (.cells (aD b s) 31)).alloc (.cells z12 31))=W at *
 clear hW
 refine (fq b s _ (HI.out.below HB.out) hz1 h2 h3).mono ?_
 rintro e w3 ⟨rfl,b3⟩
 have hs0:=b3.size
 replace HB:=Hd (aA HB.out b3)
 replace HX:=Hd (HX.out.tr b3)
 replace HZ:=Hd (HZ.out.tr b3)
 clear b3
 cases hb:bkF b with
 | false =>
  have hO:abO b=false:=by unfold abO;rw [hb];rfl
  clear hb
  have HU:Hid (abB b=b):=by show _=_;unfold abB;rw [hO];rfl
  have HV:Hid (abO b=false):=hO
  clear hO
  obtain ⟨x0,x1,x2,x3,x4,x5,x6,x7,x8,x9,x10,x11⟩:=HX.out.cells
  go_wp2_with fail
  clear x0 x1 x2 x3 x4 x5 x6 x7 x8 x9 x10 x11
  refine (cB b s _ (HI.out.below HB.out) hz).mono ?_
  rintro e w5 ⟨R,rfl,a5,b5⟩
  have HF:=Hd a5.fp
  have hs1:=b5.size
  replace HB:=Hd (aA HB.out b5)
  replace HX:=Hd (HX.out.tr b5)
  replace HZ:=Hd (HZ.out.tr b5)
  clear a5 b5
  obtain ⟨z0,z1,z2,z3,z4,z5,z6,z7,z8,z9,z10,z11⟩:=HZ.out.cells
  have yz:=HZ.out.soft
  go_wp2_with fail
  clear z0 z1 z2 z3 z4 z5 z6 z7 z8 z9 z10 z11 yz
  generalize hWF:World.setCell _ _ _=WF
  obtain ⟨hbk,hszF,hBF,hCF⟩:=bK (W:=w5) (b':=b) (s':=R) hWF (HZ.out) (HB.out) (by omega)
  have hR:aG w.heap.size WF.heap.size WF b R:=((HF.out).chg hCF (.inr (by omega))).widen (by omega) (by omega)
  clear hWF
  refine bodyPost_ret (v := .tuple #[.agg (aD b R),.bool false]) (aI Tryz.results111 rfl hbk Tryz.underlying31 (by kernel_rfl)) rfl ⟨R,by rw [HU.out,HV.out],by rw [HU.out];exact hR,hBF⟩
 | true =>
  by_cases hp:b.phase=1
  ·have HP:=Hd hp
   have hp0:(b.phase != 1)=false:=by rw [hp];rfl
   clear hp
   have hO:abO b=true:=by unfold abO;rw [hb,HP.out];rfl
   have HU:Hid (abB b=rbB b):=by show _=_;unfold abB;rw [hO];rfl
   have HV:=Hd hO
   clear hO hb
   obtain ⟨x0,x1,x2,x3,x4,x5,x6,x7,x8,x9,x10,x11⟩:=HX.out.cells
   go_wp2_with fail
   clear x0 x1 x2 x3 x4 x5 x6 x7 x8 x9 x10 x11
   refine (qA b s _ (HI.out.below HB.out) HV.out hz1 h2 h3).mono ?_
   rintro e w5 ⟨R,rfl,f5,b5⟩
   have HF:=Hd f5
   have hs1:=b5.size
   replace HB:=Hd (aA HB.out b5)
   replace HX:=Hd (HX.out.tr b5)
   replace HZ:=Hd (HZ.out.tr b5)
   clear f5 b5
   obtain ⟨z0,z1,z2,z3,z4,z5,z6,z7,z8,z9,z10,z11⟩:=HZ.out.cells
   have yz:=HZ.out.soft
   go_wp2_with fail
   clear z0 z1 z2 z3 z4 z5 z6 z7 z8 z9 z10 z11 yz
   generalize hWF:World.setCell _ _ _=WF
   obtain ⟨hbk,hszF,hBF,hCF⟩:=bK (W:=w5) (b':=(rbB b)) (s':=R) hWF (HZ.out) (HB.out) (by omega)
   have hR:aG w.heap.size WF.heap.size WF (rbB b) R:=((HF.out).chg hCF (.inr (by omega))).widen (by omega) (by omega)
   clear hWF
   refine bodyPost_ret (v := .tuple #[.agg (aD (rbB b) R),.bool true]) (aI Tryz.results111 rfl hbk Tryz.underlying31 (by kernel_rfl)) rfl ⟨R,by rw [HU.out,HV.out],by rw [HU.out];exact hR,hBF⟩
  ·have hp0:(b.phase != 1)=true:=by simp [hp]
   have hO:abO b=false:=by unfold abO;rw [hb,decide_eq_false hp];rfl
   clear hb hp
   have HU:Hid (abB b=b):=by show _=_;unfold abB;rw [hO];rfl
   have HV:Hid (abO b=false):=hO
   clear hO
   obtain ⟨x0,x1,x2,x3,x4,x5,x6,x7,x8,x9,x10,x11⟩:=HX.out.cells
   go_wp2_with fail
   clear x0 x1 x2 x3 x4 x5 x6 x7 x8 x9 x10 x11
   refine (cB b s _ (HI.out.below HB.out) hz).mono ?_
   rintro e w5 ⟨R,rfl,a5,b5⟩
   have HF:=Hd a5.fp
   have hs2:=b5.size
   replace HB:=Hd (aA HB.out b5)
   replace HX:=Hd (HX.out.tr b5)
   replace HZ:=Hd (HZ.out.tr b5)
   clear a5 b5
   obtain ⟨z0,z1,z2,z3,z4,z5,z6,z7,z8,z9,z10,z11⟩:=HZ.out.cells
   have yz:=HZ.out.soft
   go_wp2_with fail
   clear z0 z1 z2 z3 z4 z5 z6 z7 z8 z9 z10 z11 yz
   generalize hWF:World.setCell _ _ _=WF
   obtain ⟨hbk,hszF,hBF,hCF⟩:=bK (W:=w5) (b':=b) (s':=R) hWF (HZ.out) (HB.out) (by omega)
   have hR:aG w.heap.size WF.heap.size WF b R:=((HF.out).chg hCF (.inr (by omega))).widen (by omega) (by omega)
   clear hWF
   refine bodyPost_ret (v := .tuple #[.agg (aD b R),.bool false]) (aI Tryz.results111 rfl hbk Tryz.underlying31 (by kernel_rfl)) rfl ⟨R,by rw [HU.out,HV.out],by rw [HU.out];exact hR,hBF⟩
def fJ (W:World) (b:Bd) (xs:List Int) (p u:Value) (w':World):Prop:=∃(wx:World) (g:Nat) (R:Sl3) (lo hi:Nat) (A:Option Addr) (n c:Nat),p = .pointer (some ⟨g,0,none⟩)/\u = .slice A n c/\bC wx g b R/\W.heap.size<=g/\W.heap.size<=lo/\hi<=wx.heap.size/\aG lo hi wx b R/\bH wx A n xs/\Below W.heap.size W wx/\wx=w'
theorem FE {w:World} {A:Option Addr} {n:Nat} {xs:List Int} (h:bH w A n xs):bH w.drew A n xs:=h
theorem fJ.drew {W w1:World} {b:Bd} {xs:List Int} {p u:Value} (h:fJ W b xs p u w1):fJ W b xs p u w1.drew:=by
 obtain ⟨wx,g,R,lo,hi,A,n,c,h1,h2,h3,h4,h6,h7,h8,h9,h10,rfl⟩:=h
 exact ⟨wx.drew,g,R,lo,hi,A,n,c,h1,h2,h3,h4,h6,h7,h8.drewd,FE h9,h10.drew,rfl⟩
theorem fJ.drews {W w1:World} {b:Bd} {xs:List Int} {p u:Value} (h:fJ W b xs p u w1):fJ W b xs p u w1.drew.drew:=h.drew.drew
theorem yE {W w1:World} {b:Bd} {R:Sl3} {xs:List Int} {lo hi n c base:Nat} {A:Option Addr} (hB:Below W.heap.size W w1) (hF:aG lo hi w1 b R) (hO:Own base w1 A n c xs) (hlo:W.heap.size<=lo) (hhi:hi<=w1.heap.size):fJ W b xs (.pointer (some ⟨w1.heap.size,0,none⟩)) (.slice A n c) (w1.alloc (.cells (aD b R) 31)):=by
 have hb:=aB (Below.refl w1.heap.size w1) (.cells (aD b R) 31)
 exact ⟨_,w1.heap.size,R,lo,hi,A,n,c,rfl,rfl,aL _ _,hB.size,hlo,Nat.le_trans hhi hb.size,hF.below hb,hO.ints.below hb,aB hB _,rfl⟩
theorem yF {W w0 w1:World} {b b0:Bd} {R R0:Sl3} {xs:List Int} {g hi n c:Nat} {A:Option Addr} (hz:bC w0 g b0 R0) (hb:Below w0.heap.size w0 w1) (hF:aG w0.heap.size hi w1 b R) (hO:Own w0.heap.size w1 A n c xs) (hB:Below W.heap.size W w1) (hg:W.heap.size<=g) (hhi:hi<=w1.heap.size) (h0:W.heap.size<=w0.heap.size) :
  fJ W b xs (.pointer (some ⟨g,0,none⟩)) (.slice A n c) (put12 w1 g b R):=by
 have hgl:=aX hz
 obtain ⟨h1,h2,h3,h4⟩:=bK (WF:=put12 w1 g b R) rfl (hz.tr hb) hB hg
 exact ⟨_,g,R,w0.heap.size,hi,A,n,c,rfl,rfl,h1,hg,h0,Nat.le_trans hhi h2,hF.chg h4 (.inr (by omega)),(hO.chg h4 (lo:=w0.heap.size) (hi:=w1.heap.size) (fun a ha=>(hO.lt a ha)) (.inr (by omega))).ints,h3,rfl⟩
theorem oz {w W6 WE:World} {gr lo hi:Nat} {b' b0:Bd} {R s0:Sl3} (hz:bC W6 gr b0 s0) (hB:Below w.heap.size w W6) (hl:w.heap.size<=gr) (hF:aG lo hi W6 b' R) (hg:gr+1<=lo) (hlo:w.heap.size<=lo) (hh:hi<=W6.heap.size) (h:gW (put12 W6 gr b' R) WE) :
  bC WE gr b' R/\aG w.heap.size WE.heap.size WE b' R/\Below w.heap.size w WE:=by
 generalize hWF:put12 W6 gr b' R=WF at h
 obtain ⟨hbk,hsz,hBF,hCF⟩:=bK hWF hz hB hl
 have e:=h.heap
 refine ⟨by show WE.heap[gr]?=_;rw [e];exact hbk,?_,h.below hBF⟩
 exact h.fp ((hF.chg hCF (.inr hg)).widen hlo (by rw [e];omega))
theorem Bo {b:Bd} {x:Ac} (h:jT b x=true):bkF b=true/\(x.kind=0∨x.kind=1∨x.kind=2∨x.kind=3∨x.kind=4∨x.kind=5∨x.kind=6):=by
 unfold jT at h
 rw [Bool.and_eq_true,decide_eq_true_eq] at h
 obtain ⟨h1,h2⟩:=h
 unfold acF at h2
 exact ⟨h1,by omega⟩
theorem zU {b:Bd} (h:bkF b=true) (k:Int):0<=scN b k/\scN b k<=400:=by
 obtain ⟨hf,-⟩:=dV h
 have h1:=nJ hf k b.frames.length
 have h2:=(dW hf).2
 unfold scN dF
 rw [if_pos h,if_pos hf]
 omega
theorem nX (c:Bool) (w:World) :
  Calls Tryz.prog 112 #[.bool c] w fun e w'=>e = .returned (.int .i64 (j6 c))/\w=w':=by
 cases c with
 | false =>
  go_enter Tryz.func112,Tryz.ntmps112
  go_wp2_with fail
  go_ret
  exact ⟨rfl,rfl⟩
 | true =>
  go_enter Tryz.func112,Tryz.ntmps112
  go_wp2_with fail
  go_ret
  exact ⟨rfl,rfl⟩
theorem FF (b:Bd) (s:Sl3) (x:Ac) (WA:Option Addr) (wn wc:Nat) (w:World) (hA:bV w b s) (hI:bH w WA wn x.words) (hz1:af b.frames<=1099511627776) (h2:s.n2<=16777216) (h3:af b.saved<=1099511627776) (hwn:wn<=1099511627776) :
  Calls Tryz.prog 39 #[.agg (aD b s),.agg (dJ x WA wn wc)] w fun e w'=>∃R,e = .returned (.tuple #[.agg (aD (daB b x) R),.int .i64 (daN b x)])/\aG w.heap.size w'.heap.size w' (daB b x) R/\Below w.heap.size w w':=by
 have hz:kF b:=⟨hz1,by have:=hA.state.1;omega,h3⟩
 have HI:=Hd hA
 have HB:=Hd (aB (aB (aB (Below.refl w.heap.size w) (.cells (aD b s) 31)) (.cells (dJ x WA wn wc) 74)) (.cells z12 31))
 have HX:Hid (bC (((w.alloc (.cells (aD b s) 31)).alloc (.cells (dJ x WA wn wc) 74)).alloc (.cells z12 31)) w.heap.size b s):=aR _ (aR _ (aL _ _))
 have HZ:Hid (bC (((w.alloc (.cells (aD b s) 31)).alloc (.cells (dJ x WA wn wc) 74)).alloc (.cells z12 31)) (w.heap.size+2) zBd zSl):=ae (by simp)
 have hsz:w.heap.size+3<=(((w.alloc (.cells (aD b s) 31)).alloc (.cells (dJ x WA wn wc) 74)).alloc (.cells z12 31)).heap.size:=by simp
 have HIW:=Hd hI
 clear hI
 have HAc:Hid ((((w.alloc (.cells (aD b s) 31)).alloc (.cells (dJ x WA wn wc) 74)).alloc (.cells z12 31)).heap[w.heap.size+1]?=some (.cells (dJ x WA wn wc) 74 (0,0))):=aR _ (ae (by simp))
 clear hA
 go_enter Tryz.func39,Tryz.ntmps39
 go_wp2_with fail
 generalize hW:(((w.alloc (.cells (aD b s) 31)).alloc (.cells (dJ x WA wn wc) 74)).alloc (.cells z12 31))=W at *
 clear hW
 refine (Cj b s x WA wn wc _ (HI.out.below HB.out) (HIW.out.below HB.out) hz1 h2 h3 hwn).mono ?_
 rintro e w3 ⟨rfl,b3⟩
 have hs0:=b3.size
 replace HB:=Hd (aA HB.out b3)
 replace HX:=Hd (HX.out.tr b3)
 replace HZ:=Hd (HZ.out.tr b3)
 replace HAc:=Hd (aF b3 HAc.out)
 clear b3
 cases hok:jT b x with
 | false =>
  have HU:Hid (daB b x=b):=by show _=_;unfold daB;rw [hok];rfl
  have HV:Hid (daN b x=-1):=by show _=_;unfold daN;rw [hok];rfl
  clear hok
  obtain ⟨x0,x1,x2,x3,x4,x5,x6,x7,x8,x9,x10,x11⟩:=HX.out.cells
  go_wp2_with fail
  clear x0 x1 x2 x3 x4 x5 x6 x7 x8 x9 x10 x11
  refine (cB b s _ (HI.out.below HB.out) hz).mono ?_
  rintro e w5 ⟨R,rfl,a5,b5⟩
  have HF:=Hd a5.fp
  have hs1:=b5.size
  replace HB:=Hd (aA HB.out b5)
  replace HX:=Hd (HX.out.tr b5)
  replace HZ:=Hd (HZ.out.tr b5)
  replace HAc:=Hd (aF b5 HAc.out)
  clear a5 b5
  obtain ⟨z0,z1,z2,z3,z4,z5,z6,z7,z8,z9,z10,z11⟩:=HZ.out.cells
  have yz:=HZ.out.soft
  go_wp2_with fail
  clear z0 z1 z2 z3 z4 z5 z6 z7 z8 z9 z10 z11 yz
  generalize hWF:World.setCell _ _ _=WF
  obtain ⟨hbk,hszF,hBF,hCF⟩:=bK (W:=w5) (b':=b) (s':=R) hWF (HZ.out) (HB.out) (by omega)
  have hR:aG w.heap.size WF.heap.size WF b R:=((HF.out).chg hCF (.inr (by omega))).widen (by omega) (by omega)
  clear hWF
  refine bodyPost_ret (v := .tuple #[.agg (aD b R),.int .i64 (-1)]) (aI Tryz.results39 rfl hbk Tryz.underlying31 (by kernel_rfl)) rfl ⟨R,by rw [HU.out,HV.out],by rw [HU.out];exact hR,hBF⟩
 | true =>
  obtain ⟨hbk0,hkk⟩:=Bo hok
  have HOK:=Hd hok
  have HBK:=Hd hbk0
  clear hok hbk0
  obtain ⟨x0,x1,x2,x3,x4,x5,x6,x7,x8,x9,x10,x11⟩:=HX.out.cells
  go_upto_region 4 with fail
  clear x0 x1 x2 x3 x4 x5 x6 x7 x8 x9 x10 x11
  have b2:Below w3.heap.size w3 (w3.alloc (.cells (aD b s) 31)):=aB (Below.refl _ _) _
  have HO:Hid (bC (w3.alloc (.cells (aD b s) 31)) w3.heap.size b s):=aL _ _
  have hsO:w3.heap.size<(w3.alloc (.cells (aD b s) 31)).heap.size:=by simp
  replace HB:=Hd (aA HB.out b2)
  replace HX:=Hd (HX.out.tr b2)
  replace HZ:=Hd (HZ.out.tr b2)
  replace HAc:=Hd (aF b2 HAc.out)
  generalize hW2:(w3.alloc (.cells (aD b s) 31))=W2 at *
  clear hW2 b2
  rcases hkk with hk|hk|hk|hk|hk|hk|hk
  ·have HKK:=Hd hk
   have q0:(x.kind==0)=true:=by rw [hk];rfl
   have q2:(x.kind==2)=false:=by rw [hk];rfl
   have q1:(x.kind==1)=false:=by rw [hk];rfl
   have q3:(x.kind==3)=false:=by rw [hk];rfl
   have q4:(x.kind==4)=false:=by rw [hk];rfl
   have q5:(x.kind==5)=false:=by rw [hk];rfl
   clear hk
   have HU:Hid (daB b x=spB b (daP b x)):=by show _=_;unfold daB;rw [HOK.out];simp [HKK.out]
   have HV:Hid (daN b x=lX (spN b (daP b x)) (nM b.dev 0)):=by show _=_;unfold daN;rw [HOK.out];simp [HKK.out]
   have HDP:Hid (daP b x=fw b.dev (nM b.dev 0) x.A):=rfl
   obtain ⟨x0,x1,x2,x3,x4,x5,x6,x7,x8,x9,x10,x11⟩:=HX.out.cells
   obtain ⟨a0,a1,a2,a3,a4,a5,a6,a7,a8⟩:=eu HAc.out
   go_wp2_with fail
   clear x0 x1 x2 x3 x4 x5 x6 x7 x8 x9 x10 x11
   clear a0 a1 a2 a3 a4 a5 a6 a7 a8
   refine (CR b.dev 0 _).mono ?_
   rintro e w4 ⟨TA,m,tc,rfl,o4,b4⟩
   have hmb:m<=36:=by have h1:=Dq b.dev 0;have h2:=o4.len;omega
   have HT:=Hd o4.ints
   have hs2:=b4.size
   replace HB:=Hd (aA HB.out b4)
   replace HX:=Hd (HX.out.tr b4)
   replace HZ:=Hd (HZ.out.tr b4)
   replace HAc:=Hd (aF b4 HAc.out)
   replace HO:=Hd (HO.out.tr b4)
   clear b4 o4
   have hpl:(daP b x).length<=36:=wK _ _ _
   have hnl:=Fa b (daP b x)
   have HPF:=Hd (fun (w':World) (h:bH w' TA m (nM b.dev 0))=>BV b.dev TA m tc (nM b.dev 0) x.A w' h (by omega))
   rw [←HDP.out] at HPF
   generalize daP b x=ps at *
   generalize nM b.dev 0=T0 at *
   obtain ⟨x0,x1,x2,x3,x4,x5,x6,x7,x8,x9,x10,x11⟩:=HX.out.cells
   obtain ⟨a0,a1,a2,a3,a4,a5,a6,a7,a8⟩:=eu HAc.out
   go_upto_region 8 with fail
   go_cut [9,10] (fun p u w'=>fJ w4 (spB b ps) (spN b ps) p u w')
   case first =>
    have hD:=Below.refl w4.heap.size w4
    have hlx:w.heap.size<w4.heap.size:=by omega
    have hla:w.heap.size+1<w4.heap.size:=by omega
    have hdr:w4.heap.size<=w4.drew.heap.size:=Nat.le_refl _
    go_wp2_with fail
    go_region_held3 (fun w'=>Below w4.heap.size w4 w'/\∀b o,b<w4.heap.size→w'.cell? ⟨b,o,none⟩=w4.cell? ⟨b,o,none⟩)
     (first|with_reducible exact ⟨hD,(aO hD).1⟩|with_reducible exact ⟨hD.drew,(aO hD.drew).1⟩|(refine ⟨?_,(aO ?_).1⟩ <;> (repeat (first|with_reducible exact hD|with_reducible exact hD.drew|with_reducible refine aB ?_ _|with_reducible refine Below.drew ?_|with_reducible refine Below.setCell ?_ (by simp only;omega) _))))
     (first
      | (go_at_call 82;(with_reducible refine (HPF.out _ (HT.out.below (by first|with_reducible exact hD|with_reducible exact hD.drew|with_reducible exact aB hD _|with_reducible exact (aB hD _).drew|with_reducible exact aB hD.drew _|with_reducible exact (aB hD.drew _).drew))).mono ?_);rintro e wk ⟨PA,pn,pc,rfl,oP,bw⟩;have hpn:pn<=1099511627776:=(by have h1:=oP.len;omega);have HPI:=Hd oP.ints;have hD2:=aA (a:=w4) (by first|with_reducible exact hD|with_reducible exact hD.drew|with_reducible exact aB hD _|with_reducible exact (aB hD _).drew|with_reducible exact aB hD.drew _|with_reducible exact (aB hD.drew _).drew) bw;have hbP:=Hd bw;have hBP:=Below.refl wk.heap.size wk;have hsz:=hD2.size;have hsz2:=bw.size;(try simp only [World.size_drew] at hsz2);(try simp only [World.size_alloc] at hsz2);(try have hlt2:=Nat.lt_of_succ_le hsz2);obtain ⟨hcc,hff⟩:=aO bw;clear bw oP;replace hD:=hD2)
      | (go_at_call 105;(with_reducible refine (xH b s PA pn pc ps _ (HI.out.below (aA HB.out (by first|with_reducible exact hD|with_reducible exact hD.drew|with_reducible exact aB hD _|with_reducible exact (aB hD _).drew|with_reducible exact aB hD.drew _|with_reducible exact (aB hD.drew _).drew))) (HPI.out.below (by first|with_reducible exact hBP|with_reducible exact hBP.drew|with_reducible exact aB hBP _|with_reducible exact (aB hBP _).drew|with_reducible exact aB hBP.drew _|with_reducible exact (aB hBP.drew _).drew)) hz1 h2 h3 hpn).mono ?_);rintro e wk ⟨R,A,n,c,rfl,md,f,oN,⟨u1,u2,lN⟩,bw⟩;have HFK:=Hd f;have HOK2:=Hd oN;have HBK2:=Hd bw;have hD2:=aA (a:=w4) (by first|with_reducible exact hD|with_reducible exact hD.drew|with_reducible exact aB hD _|with_reducible exact (aB hD _).drew|with_reducible exact aB hD.drew _|with_reducible exact (aB hD.drew _).drew) bw;have hsz:=hD2.size;have hsz2:=bw.size;(try simp only [World.size_drew] at hsz2);(try simp only [World.size_alloc] at hsz2);(try have hlt2:=Nat.lt_of_succ_le hsz2);obtain ⟨hcc,hff⟩:=aO bw;clear bw f oN lN;replace hD:=hD2))
    all_goals
     go_wp2_with fail
     go_meet
     try simp only [eY,dH]
     first|((with_reducible refine (yE hD HFK.out HOK2.out ?_ ?_)) <;> first|omega|(simp;omega))|((with_reducible refine fJ.drew (yE hD HFK.out HOK2.out ?_ ?_)) <;> first|omega|(simp;omega))|((with_reducible refine fJ.drews (yE hD HFK.out HOK2.out ?_ ?_)) <;> first|omega|(simp;omega))|((with_reducible refine (yF (b0:=zBd) (R0:=zSl) ?_ HBK2.out HFK.out HOK2.out hD ?_ ?_ ?_)) <;> first|omega|(simp;omega)|exact aL _ _|exact aF hbP.out (aL _ _))|((with_reducible refine fJ.drew (yF (b0:=zBd) (R0:=zSl) ?_ HBK2.out HFK.out HOK2.out hD ?_ ?_ ?_)) <;> first|omega|(simp;omega)|exact aL _ _|exact aF hbP.out (aL _ _))|((with_reducible refine fJ.drews (yF (b0:=zBd) (R0:=zSl) ?_ HBK2.out HFK.out HOK2.out hD ?_ ?_ ?_)) <;> first|omega|(simp;omega)|exact aL _ _|exact aF hbP.out (aL _ _))
   clear x0 x1 x2 x3 x4 x5 x6 x7 x8 x9 x10 x11
   clear a0 a1 a2 a3 a4 a5 a6 a7 a8
   obtain ⟨w5,g5,R,lo5,hi5,A5,n5,c5,rfl,rfl,hbk5,hg5,hlo5,hhi5,hF5,hN5,hD5,rfl⟩:=hcut
   have hs5:=hD5.size
   have hgl5:=aX hbk5
   have HF:=Hd hF5
   have HN:=Hd hN5
   have HG:=Hd hbk5
   have hn5:n5<=1000000:=by have h1:=hN5.1;omega
   have hs3:=hD5.size
   replace HB:=Hd (aA HB.out hD5)
   replace HX:=Hd (HX.out.tr hD5)
   replace HZ:=Hd (HZ.out.tr hD5)
   replace HAc:=Hd (aF hD5 HAc.out)
   replace HO:=Hd (HO.out.tr hD5)
   replace HT:=Hd (HT.out.below hD5)
   clear hD5 hF5 hN5 hbk5
   generalize spB b ps=B9 at *
   generalize spN b ps=N9 at *
   have HEND:Hid (∀w8:World,Below w5.heap.size w5 w8→∀W0:World,put12 w8 (w.heap.size+2) B9 R=W0→∀WE:World,gW W0 WE→bC WE (w.heap.size+2) B9 R/\aG w.heap.size WE.heap.size WE B9 R/\Below w.heap.size w WE):=fun w8 b8 W0 h0 WE hWE=>by
    have hs8:=b8.size
    exact oz (HZ.out.tr b8) (aA HB.out b8) (by omega) (HF.out.below b8) (by omega) (by omega) (by omega) (by rw [h0];exact hWE)
   have hr4:(w.heap.size+2)<w5.heap.size:=by omega
   have hD:=Below.refl w5.heap.size w5
   obtain ⟨o0,o1,o2,o3,o4,o5,o6,o7,o8,o9,o10,o11⟩:=HG.out.cells
   obtain ⟨z0,z1,z2,z3,z4,z5,z6,z7,z8,z9,z10,z11⟩:=HZ.out.cells
   have yz:=HZ.out.soft
   have hne5:g5≠(w.heap.size+2):=by omega
   go_wp2_with fail
   go_region_held3 (fun w'=>∀o,w'.cell? ⟨g5,o,none⟩=w5.cell? ⟨g5,o,none⟩)
    (first|with_reducible exact fun o=>(oo hne5 o).trans ((hD).cell (p:=⟨g5,o,none⟩) hgl5)|with_reducible exact fun o=>(oo hne5 o).trans ((hD.drew).cell (p:=⟨g5,o,none⟩) hgl5)|with_reducible exact fun o=>(hD).cell (p:=⟨g5,o,none⟩) hgl5|with_reducible exact fun o=>(hD.drew).cell (p:=⟨g5,o,none⟩) hgl5)
    ((go_at_call 84;(with_reducible refine (CS A5 n5 c5 N9 TA m tc T0 _ (HN.out.below (by first|with_reducible exact hD|with_reducible exact hD.drew)) (HT.out.below (by first|with_reducible exact hD|with_reducible exact hD.drew)) (by omega) (by omega)).mono ?_);rintro e w8 ⟨rfl,b8⟩;have hD2:=aA (a:=w5) (by first|with_reducible exact hD|with_reducible exact hD.drew) b8;clear b8;replace hD:=hD2;clear z0 z1 z2 z3 z4 z5 z6 z7 z8 z9 z10 z11 yz;have HZc:=HZ.out.tr hD;obtain ⟨z0,z1,z2,z3,z4,z5,z6,z7,z8,z9,z10,z11⟩:=HZc.cells;have yz:=HZc.soft;clear HZc))
   all_goals
    clear o0 o1 o2 o3 o4 o5 o6 o7 o8 o9 o10 o11 z0 z1 z2 z3 z4 z5 z6 z7 z8 z9 z10 z11 yz
    go_wp2_with fail
    try simp only [eY,dH]
    generalize hWE:World.setCell _ _ _=WE
    have HE:=HEND.out w8 hD WE hWE
    clear hWE HEND
    refine bodyPost_ret (v := .tuple #[.agg (aD B9 R),.int .i64 (lX N9 T0)]) (aI Tryz.results39 rfl (HE _ ⟨rfl,rfl,rfl,rfl⟩).1 Tryz.underlying31 (by kernel_rfl)) rfl ?_
    exact ⟨R,by rw [HU.out,HV.out],by rw [HU.out];exact (HE _ (by exact ⟨rfl,rfl,rfl,rfl⟩)).2⟩
  ·have HKK:=Hd hk
   have q0:(x.kind==0)=false:=by rw [hk];rfl
   have q2:(x.kind==2)=false:=by rw [hk];rfl
   have q1:(x.kind==1)=true:=by rw [hk];rfl
   have q3:(x.kind==3)=false:=by rw [hk];rfl
   have q4:(x.kind==4)=false:=by rw [hk];rfl
   have q5:(x.kind==5)=false:=by rw [hk];rfl
   clear hk
   have HU:Hid (daB b x=upB b x.A x.B x.C):=by show _=_;unfold daB;rw [HOK.out];simp [HKK.out]
   have HV:Hid (daN b x=j6 (upO b x.A x.B x.C)):=by show _=_;unfold daN;rw [HOK.out];simp [HKK.out]
   obtain ⟨x0,x1,x2,x3,x4,x5,x6,x7,x8,x9,x10,x11⟩:=HX.out.cells
   obtain ⟨a0,a1,a2,a3,a4,a5,a6,a7,a8⟩:=eu HAc.out
   go_wp2_with fail
   clear x0 x1 x2 x3 x4 x5 x6 x7 x8 x9 x10 x11
   clear a0 a1 a2 a3 a4 a5 a6 a7 a8
   refine (zT b s x.A x.B x.C _ (HI.out.below HB.out) hz1 h2 h3).mono ?_
   rintro e w5 ⟨R,rfl,f5,b5⟩
   have HF:=Hd f5
   have hs2:=b5.size
   replace HB:=Hd (aA HB.out b5)
   replace HX:=Hd (HX.out.tr b5)
   replace HZ:=Hd (HZ.out.tr b5)
   replace HAc:=Hd (aF b5 HAc.out)
   replace HO:=Hd (HO.out.tr b5)
   clear f5 b5
   generalize upB b x.A x.B x.C=B9 at *
   generalize upO b x.A x.B x.C=C9 at *
   obtain ⟨o0,o1,o2,o3,o4,o5,o6,o7,o8,o9,o10,o11⟩:=HO.out.cells
   have yo:=HO.out.soft
   go_upto_region 21 with fail
   clear o0 o1 o2 o3 o4 o5 o6 o7 o8 o9 o10 o11 yo
   generalize hW6:World.setCell _ _ _=W6
   obtain ⟨hb6,hs6,hB6,hC6⟩:=bK (W:=w5) (b':=B9) (s':=R) hW6 HO.out HB.out (by omega)
   have HB6:=Hd hB6
   have HO6:=Hd hb6
   have HZ6:=Hd (HZ.out.chg hC6 (.inl (by omega)))
   have HF6:=Hd (HF.out.chg hC6 (.inr (by omega)))
   clear hW6 hb6 hB6 hC6
   have HEND:Hid (∀W0:World,put12 W6 (w.heap.size+2) B9 R=W0→∀WE:World,gW W0 WE→bC WE (w.heap.size+2) B9 R/\aG w.heap.size WE.heap.size WE B9 R/\Below w.heap.size w WE):=fun W0 h0 WE hWE=>oz HZ6.out HB6.out (by omega) HF6.out (by omega) (by omega) (by omega) (by rw [h0];exact hWE)
   have hr4:(w.heap.size+2)<W6.heap.size:=by omega
   have hr5:w3.heap.size<W6.heap.size:=by omega
   obtain ⟨o0,o1,o2,o3,o4,o5,o6,o7,o8,o9,o10,o11⟩:=HO6.out.cells
   obtain ⟨z0,z1,z2,z3,z4,z5,z6,z7,z8,z9,z10,z11⟩:=HZ6.out.cells
   have yz:=HZ6.out.soft
   go_wp2_with fail
   go_region_with ((go_at_call 112;refine (nX _ _).mono ?_;rintro e w' ⟨rfl,rfl⟩))
   all_goals
    clear o0 o1 o2 o3 o4 o5 o6 o7 o8 o9 o10 o11 z0 z1 z2 z3 z4 z5 z6 z7 z8 z9 z10 z11 yz
    go_wp2_with fail
    try simp only [eY,dH]
    generalize hWE:World.setCell _ _ _=WE
    have HE:=HEND.out WE hWE
    clear hWE HEND
    refine bodyPost_ret (v := .tuple #[.agg (aD B9 R),.int .i64 (j6 C9)]) (aI Tryz.results39 rfl (HE _ ⟨rfl,rfl,rfl,rfl⟩).1 Tryz.underlying31 (by kernel_rfl)) rfl ?_
    exact ⟨R,by rw [HU.out,HV.out],by rw [HU.out];exact (HE _ (by exact ⟨rfl,rfl,rfl,rfl⟩)).2⟩
  ·have HKK:=Hd hk
   have q0:(x.kind==0)=false:=by rw [hk];rfl
   have q2:(x.kind==2)=true:=by rw [hk];rfl
   have q1:(x.kind==1)=false:=by rw [hk];rfl
   have q3:(x.kind==3)=false:=by rw [hk];rfl
   have q4:(x.kind==4)=false:=by rw [hk];rfl
   have q5:(x.kind==5)=false:=by rw [hk];rfl
   clear hk
   have HU:Hid (daB b x=scB b):=by show _=_;unfold daB;rw [HOK.out];simp [HKK.out]
   have HV:Hid (daN b x=scN b 1+1000 * scN b 2):=by show _=_;unfold daN;rw [HOK.out];simp [HKK.out]
   obtain ⟨c1a,c1b⟩:=zU HBK.out 1
   obtain ⟨c2a,c2b⟩:=zU HBK.out 2
   obtain ⟨x0,x1,x2,x3,x4,x5,x6,x7,x8,x9,x10,x11⟩:=HX.out.cells
   obtain ⟨a0,a1,a2,a3,a4,a5,a6,a7,a8⟩:=eu HAc.out
   go_wp2_with fail
   clear x0 x1 x2 x3 x4 x5 x6 x7 x8 x9 x10 x11
   clear a0 a1 a2 a3 a4 a5 a6 a7 a8
   refine (wD b s _ (HI.out.below HB.out) hz1 h2 h3).mono ?_
   rintro e w5 ⟨R,rfl,f5,b5⟩
   have HF:=Hd f5
   have hs2:=b5.size
   replace HB:=Hd (aA HB.out b5)
   replace HX:=Hd (HX.out.tr b5)
   replace HZ:=Hd (HZ.out.tr b5)
   replace HAc:=Hd (aF b5 HAc.out)
   replace HO:=Hd (HO.out.tr b5)
   clear f5 b5
   generalize scB b=B9 at *
   generalize scN b 1=c1 at *
   generalize scN b 2=c2 at *
   go_upto_region 12 with fail
   generalize hW6:World.alloc w5 _=W6
   have hb6:bC W6 w5.heap.size B9 R:=by rw [←hW6];exact aL _ _
   have hB6:Below w5.heap.size w5 W6:=by rw [←hW6];exact aB (Below.refl _ _) _
   clear hW6
   have hs6:=hB6.size
   have HO6:=Hd hb6
   have HB6:=Hd (aA HB.out hB6)
   have HZ6:=Hd (HZ.out.tr hB6)
   have HF6:=Hd (HF.out.below hB6)
   clear hb6 hB6
   obtain ⟨o0,o1,o2,o3,o4,o5,o6,o7,o8,o9,o10,o11⟩:=HO6.out.cells
   obtain ⟨z0,z1,z2,z3,z4,z5,z6,z7,z8,z9,z10,z11⟩:=HZ6.out.cells
   have yz:=HZ6.out.soft
   go_wp2_with fail
   clear o0 o1 o2 o3 o4 o5 o6 o7 o8 o9 o10 o11 z0 z1 z2 z3 z4 z5 z6 z7 z8 z9 z10 z11 yz
   generalize hWF:World.setCell _ _ _=WF
   obtain ⟨hbk,hszF,hBF,hCF⟩:=bK (W:=W6) (b':=B9) (s':=R) hWF (HZ6.out) (HB6.out) (by omega)
   have hR:aG w.heap.size WF.heap.size WF B9 R:=((HF6.out).chg hCF (.inr (by omega))).widen (by omega) (by omega)
   clear hWF
   refine bodyPost_ret (v := .tuple #[.agg (aD B9 R),.int .i64 (c1+1000 * c2)]) (aI Tryz.results39 rfl hbk Tryz.underlying31 (by kernel_rfl)) rfl ⟨R,by rw [HU.out,HV.out],by rw [HU.out];exact hR,hBF⟩
  ·have HKK:=Hd hk
   have q0:(x.kind==0)=false:=by rw [hk];rfl
   have q2:(x.kind==2)=false:=by rw [hk];rfl
   have q1:(x.kind==1)=false:=by rw [hk];rfl
   have q3:(x.kind==3)=true:=by rw [hk];rfl
   have q4:(x.kind==4)=false:=by rw [hk];rfl
   have q5:(x.kind==5)=false:=by rw [hk];rfl
   clear hk
   have HU:Hid (daB b x=beB b x.reg):=by show _=_;unfold daB;rw [HOK.out];simp [HKK.out]
   have HV:Hid (daN b x=j6 (beO b x.reg)):=by show _=_;unfold daN;rw [HOK.out];simp [HKK.out]
   obtain ⟨x0,x1,x2,x3,x4,x5,x6,x7,x8,x9,x10,x11⟩:=HX.out.cells
   obtain ⟨a0,a1,a2,a3,a4,a5,a6,a7,a8⟩:=eu HAc.out
   go_wp2_with fail
   clear x0 x1 x2 x3 x4 x5 x6 x7 x8 x9 x10 x11
   clear a0 a1 a2 a3 a4 a5 a6 a7 a8
   refine (uu b s x.reg _ (HI.out.below HB.out) hz1 h2 h3).mono ?_
   rintro e w5 ⟨R,rfl,f5,b5⟩
   have HF:=Hd f5
   have hs2:=b5.size
   replace HB:=Hd (aA HB.out b5)
   replace HX:=Hd (HX.out.tr b5)
   replace HZ:=Hd (HZ.out.tr b5)
   replace HAc:=Hd (aF b5 HAc.out)
   replace HO:=Hd (HO.out.tr b5)
   clear f5 b5
   generalize beB b x.reg=B9 at *
   generalize beO b x.reg=C9 at *
   obtain ⟨o0,o1,o2,o3,o4,o5,o6,o7,o8,o9,o10,o11⟩:=HO.out.cells
   have yo:=HO.out.soft
   go_upto_region 21 with fail
   clear o0 o1 o2 o3 o4 o5 o6 o7 o8 o9 o10 o11 yo
   generalize hW6:World.setCell _ _ _=W6
   obtain ⟨hb6,hs6,hB6,hC6⟩:=bK (W:=w5) (b':=B9) (s':=R) hW6 HO.out HB.out (by omega)
   have HB6:=Hd hB6
   have HO6:=Hd hb6
   have HZ6:=Hd (HZ.out.chg hC6 (.inl (by omega)))
   have HF6:=Hd (HF.out.chg hC6 (.inr (by omega)))
   clear hW6 hb6 hB6 hC6
   have HEND:Hid (∀W0:World,put12 W6 (w.heap.size+2) B9 R=W0→∀WE:World,gW W0 WE→bC WE (w.heap.size+2) B9 R/\aG w.heap.size WE.heap.size WE B9 R/\Below w.heap.size w WE):=fun W0 h0 WE hWE=>oz HZ6.out HB6.out (by omega) HF6.out (by omega) (by omega) (by omega) (by rw [h0];exact hWE)
   have hr4:(w.heap.size+2)<W6.heap.size:=by omega
   have hr5:w3.heap.size<W6.heap.size:=by omega
   obtain ⟨o0,o1,o2,o3,o4,o5,o6,o7,o8,o9,o10,o11⟩:=HO6.out.cells
   obtain ⟨z0,z1,z2,z3,z4,z5,z6,z7,z8,z9,z10,z11⟩:=HZ6.out.cells
   have yz:=HZ6.out.soft
   go_wp2_with fail
   go_region_with ((go_at_call 112;refine (nX _ _).mono ?_;rintro e w' ⟨rfl,rfl⟩))
   all_goals
    clear o0 o1 o2 o3 o4 o5 o6 o7 o8 o9 o10 o11 z0 z1 z2 z3 z4 z5 z6 z7 z8 z9 z10 z11 yz
    go_wp2_with fail
    try simp only [eY,dH]
    generalize hWE:World.setCell _ _ _=WE
    have HE:=HEND.out WE hWE
    clear hWE HEND
    refine bodyPost_ret (v := .tuple #[.agg (aD B9 R),.int .i64 (j6 C9)]) (aI Tryz.results39 rfl (HE _ ⟨rfl,rfl,rfl,rfl⟩).1 Tryz.underlying31 (by kernel_rfl)) rfl ?_
    exact ⟨R,by rw [HU.out,HV.out],by rw [HU.out];exact (HE _ (by exact ⟨rfl,rfl,rfl,rfl⟩)).2⟩
  ·have HKK:=Hd hk
   have q0:(x.kind==0)=false:=by rw [hk];rfl
   have q2:(x.kind==2)=false:=by rw [hk];rfl
   have q1:(x.kind==1)=false:=by rw [hk];rfl
   have q3:(x.kind==3)=false:=by rw [hk];rfl
   have q4:(x.kind==4)=true:=by rw [hk];rfl
   have q5:(x.kind==5)=false:=by rw [hk];rfl
   clear hk
   have HU:Hid (daB b x=wrB b x.A x.words):=by show _=_;unfold daB;rw [HOK.out];simp [HKK.out]
   have HV:Hid (daN b x=j6 (wrO b x.A x.words)):=by show _=_;unfold daN;rw [HOK.out];simp [HKK.out]
   obtain ⟨x0,x1,x2,x3,x4,x5,x6,x7,x8,x9,x10,x11⟩:=HX.out.cells
   obtain ⟨a0,a1,a2,a3,a4,a5,a6,a7,a8⟩:=eu HAc.out
   go_wp2_with fail
   clear x0 x1 x2 x3 x4 x5 x6 x7 x8 x9 x10 x11
   clear a0 a1 a2 a3 a4 a5 a6 a7 a8
   refine (ut b s x.A WA wn wc x.words _ (HI.out.below HB.out) (HIW.out.below HB.out) hz1 h2 h3 hwn).mono ?_
   rintro e w5 ⟨R,rfl,f5,b5⟩
   have HF:=Hd f5
   have hs2:=b5.size
   replace HB:=Hd (aA HB.out b5)
   replace HX:=Hd (HX.out.tr b5)
   replace HZ:=Hd (HZ.out.tr b5)
   replace HAc:=Hd (aF b5 HAc.out)
   replace HO:=Hd (HO.out.tr b5)
   clear f5 b5
   generalize wrB b x.A x.words=B9 at *
   generalize wrO b x.A x.words=C9 at *
   obtain ⟨o0,o1,o2,o3,o4,o5,o6,o7,o8,o9,o10,o11⟩:=HO.out.cells
   have yo:=HO.out.soft
   go_upto_region 21 with fail
   clear o0 o1 o2 o3 o4 o5 o6 o7 o8 o9 o10 o11 yo
   generalize hW6:World.setCell _ _ _=W6
   obtain ⟨hb6,hs6,hB6,hC6⟩:=bK (W:=w5) (b':=B9) (s':=R) hW6 HO.out HB.out (by omega)
   have HB6:=Hd hB6
   have HO6:=Hd hb6
   have HZ6:=Hd (HZ.out.chg hC6 (.inl (by omega)))
   have HF6:=Hd (HF.out.chg hC6 (.inr (by omega)))
   clear hW6 hb6 hB6 hC6
   have HEND:Hid (∀W0:World,put12 W6 (w.heap.size+2) B9 R=W0→∀WE:World,gW W0 WE→bC WE (w.heap.size+2) B9 R/\aG w.heap.size WE.heap.size WE B9 R/\Below w.heap.size w WE):=fun W0 h0 WE hWE=>oz HZ6.out HB6.out (by omega) HF6.out (by omega) (by omega) (by omega) (by rw [h0];exact hWE)
   have hr4:(w.heap.size+2)<W6.heap.size:=by omega
   have hr5:w3.heap.size<W6.heap.size:=by omega
   obtain ⟨o0,o1,o2,o3,o4,o5,o6,o7,o8,o9,o10,o11⟩:=HO6.out.cells
   obtain ⟨z0,z1,z2,z3,z4,z5,z6,z7,z8,z9,z10,z11⟩:=HZ6.out.cells
   have yz:=HZ6.out.soft
   go_wp2_with fail
   go_region_with ((go_at_call 112;refine (nX _ _).mono ?_;rintro e w' ⟨rfl,rfl⟩))
   all_goals
    clear o0 o1 o2 o3 o4 o5 o6 o7 o8 o9 o10 o11 z0 z1 z2 z3 z4 z5 z6 z7 z8 z9 z10 z11 yz
    go_wp2_with fail
    try simp only [eY,dH]
    generalize hWE:World.setCell _ _ _=WE
    have HE:=HEND.out WE hWE
    clear hWE HEND
    refine bodyPost_ret (v := .tuple #[.agg (aD B9 R),.int .i64 (j6 C9)]) (aI Tryz.results39 rfl (HE _ ⟨rfl,rfl,rfl,rfl⟩).1 Tryz.underlying31 (by kernel_rfl)) rfl ?_
    exact ⟨R,by rw [HU.out,HV.out],by rw [HU.out];exact (HE _ (by exact ⟨rfl,rfl,rfl,rfl⟩)).2⟩
  ·have HKK:=Hd hk
   have q0:(x.kind==0)=false:=by rw [hk];rfl
   have q2:(x.kind==2)=false:=by rw [hk];rfl
   have q1:(x.kind==1)=false:=by rw [hk];rfl
   have q3:(x.kind==3)=false:=by rw [hk];rfl
   have q4:(x.kind==4)=false:=by rw [hk];rfl
   have q5:(x.kind==5)=true:=by rw [hk];rfl
   clear hk
   have HU:Hid (daB b x=coB b x.A):=by show _=_;unfold daB;rw [HOK.out];simp [HKK.out]
   have HV:Hid (daN b x=j6 (coO b x.A)):=by show _=_;unfold daN;rw [HOK.out];simp [HKK.out]
   obtain ⟨x0,x1,x2,x3,x4,x5,x6,x7,x8,x9,x10,x11⟩:=HX.out.cells
   obtain ⟨a0,a1,a2,a3,a4,a5,a6,a7,a8⟩:=eu HAc.out
   go_wp2_with fail
   clear x0 x1 x2 x3 x4 x5 x6 x7 x8 x9 x10 x11
   clear a0 a1 a2 a3 a4 a5 a6 a7 a8
   refine (uE b s x.A _ (HI.out.below HB.out) hz1 h2 h3).mono ?_
   rintro e w5 ⟨R,rfl,f5,b5⟩
   have HF:=Hd f5
   have hs2:=b5.size
   replace HB:=Hd (aA HB.out b5)
   replace HX:=Hd (HX.out.tr b5)
   replace HZ:=Hd (HZ.out.tr b5)
   replace HAc:=Hd (aF b5 HAc.out)
   replace HO:=Hd (HO.out.tr b5)
   clear f5 b5
   generalize coB b x.A=B9 at *
   generalize coO b x.A=C9 at *
   obtain ⟨o0,o1,o2,o3,o4,o5,o6,o7,o8,o9,o10,o11⟩:=HO.out.cells
   have yo:=HO.out.soft
   go_upto_region 21 with fail
   clear o0 o1 o2 o3 o4 o5 o6 o7 o8 o9 o10 o11 yo
   generalize hW6:World.setCell _ _ _=W6
   obtain ⟨hb6,hs6,hB6,hC6⟩:=bK (W:=w5) (b':=B9) (s':=R) hW6 HO.out HB.out (by omega)
   have HB6:=Hd hB6
   have HO6:=Hd hb6
   have HZ6:=Hd (HZ.out.chg hC6 (.inl (by omega)))
   have HF6:=Hd (HF.out.chg hC6 (.inr (by omega)))
   clear hW6 hb6 hB6 hC6
   have HEND:Hid (∀W0:World,put12 W6 (w.heap.size+2) B9 R=W0→∀WE:World,gW W0 WE→bC WE (w.heap.size+2) B9 R/\aG w.heap.size WE.heap.size WE B9 R/\Below w.heap.size w WE):=fun W0 h0 WE hWE=>oz HZ6.out HB6.out (by omega) HF6.out (by omega) (by omega) (by omega) (by rw [h0];exact hWE)
   have hr4:(w.heap.size+2)<W6.heap.size:=by omega
   have hr5:w3.heap.size<W6.heap.size:=by omega
   obtain ⟨o0,o1,o2,o3,o4,o5,o6,o7,o8,o9,o10,o11⟩:=HO6.out.cells
   obtain ⟨z0,z1,z2,z3,z4,z5,z6,z7,z8,z9,z10,z11⟩:=HZ6.out.cells
   have yz:=HZ6.out.soft
   go_wp2_with fail
   go_region_with ((go_at_call 112;refine (nX _ _).mono ?_;rintro e w' ⟨rfl,rfl⟩))
   all_goals
    clear o0 o1 o2 o3 o4 o5 o6 o7 o8 o9 o10 o11 z0 z1 z2 z3 z4 z5 z6 z7 z8 z9 z10 z11 yz
    go_wp2_with fail
    try simp only [eY,dH]
    generalize hWE:World.setCell _ _ _=WE
    have HE:=HEND.out WE hWE
    clear hWE HEND
    refine bodyPost_ret (v := .tuple #[.agg (aD B9 R),.int .i64 (j6 C9)]) (aI Tryz.results39 rfl (HE _ ⟨rfl,rfl,rfl,rfl⟩).1 Tryz.underlying31 (by kernel_rfl)) rfl ?_
    exact ⟨R,by rw [HU.out,HV.out],by rw [HU.out];exact (HE _ (by exact ⟨rfl,rfl,rfl,rfl⟩)).2⟩
  ·have HKK:=Hd hk
   have q0:(x.kind==0)=false:=by rw [hk];rfl
   have q2:(x.kind==2)=false:=by rw [hk];rfl
   have q1:(x.kind==1)=false:=by rw [hk];rfl
   have q3:(x.kind==3)=false:=by rw [hk];rfl
   have q4:(x.kind==4)=false:=by rw [hk];rfl
   have q5:(x.kind==5)=false:=by rw [hk];rfl
   clear hk
   have HU:Hid (daB b x=abB b):=by show _=_;unfold daB;rw [HOK.out];simp [HKK.out]
   have HV:Hid (daN b x=j6 (abO b)):=by show _=_;unfold daN;rw [HOK.out];simp [HKK.out]
   obtain ⟨x0,x1,x2,x3,x4,x5,x6,x7,x8,x9,x10,x11⟩:=HX.out.cells
   obtain ⟨a0,a1,a2,a3,a4,a5,a6,a7,a8⟩:=eu HAc.out
   go_wp2_with fail
   clear x0 x1 x2 x3 x4 x5 x6 x7 x8 x9 x10 x11
   clear a0 a1 a2 a3 a4 a5 a6 a7 a8
   refine (vC b s _ (HI.out.below HB.out) hz1 h2 h3).mono ?_
   rintro e w5 ⟨R,rfl,f5,b5⟩
   have HF:=Hd f5
   have hs2:=b5.size
   replace HB:=Hd (aA HB.out b5)
   replace HX:=Hd (HX.out.tr b5)
   replace HZ:=Hd (HZ.out.tr b5)
   replace HAc:=Hd (aF b5 HAc.out)
   replace HO:=Hd (HO.out.tr b5)
   clear f5 b5
   generalize abB b=B9 at *
   generalize abO b=C9 at *
   obtain ⟨o0,o1,o2,o3,o4,o5,o6,o7,o8,o9,o10,o11⟩:=HO.out.cells
   have yo:=HO.out.soft
   go_upto_region 21 with fail
   clear o0 o1 o2 o3 o4 o5 o6 o7 o8 o9 o10 o11 yo
   generalize hW6:World.setCell _ _ _=W6
   obtain ⟨hb6,hs6,hB6,hC6⟩:=bK (W:=w5) (b':=B9) (s':=R) hW6 HO.out HB.out (by omega)
   have HB6:=Hd hB6
   have HO6:=Hd hb6
   have HZ6:=Hd (HZ.out.chg hC6 (.inl (by omega)))
   have HF6:=Hd (HF.out.chg hC6 (.inr (by omega)))
   clear hW6 hb6 hB6 hC6
   have HEND:Hid (∀W0:World,put12 W6 (w.heap.size+2) B9 R=W0→∀WE:World,gW W0 WE→bC WE (w.heap.size+2) B9 R/\aG w.heap.size WE.heap.size WE B9 R/\Below w.heap.size w WE):=fun W0 h0 WE hWE=>oz HZ6.out HB6.out (by omega) HF6.out (by omega) (by omega) (by omega) (by rw [h0];exact hWE)
   have hr4:(w.heap.size+2)<W6.heap.size:=by omega
   have hr5:w3.heap.size<W6.heap.size:=by omega
   obtain ⟨o0,o1,o2,o3,o4,o5,o6,o7,o8,o9,o10,o11⟩:=HO6.out.cells
   obtain ⟨z0,z1,z2,z3,z4,z5,z6,z7,z8,z9,z10,z11⟩:=HZ6.out.cells
   have yz:=HZ6.out.soft
   go_wp2_with fail
   go_region_with ((go_at_call 112;refine (nX _ _).mono ?_;rintro e w' ⟨rfl,rfl⟩))
   all_goals
    clear o0 o1 o2 o3 o4 o5 o6 o7 o8 o9 o10 o11 z0 z1 z2 z3 z4 z5 z6 z7 z8 z9 z10 z11 yz
    go_wp2_with fail
    try simp only [eY,dH]
    generalize hWE:World.setCell _ _ _=WE
    have HE:=HEND.out WE hWE
    clear hWE HEND
    refine bodyPost_ret (v := .tuple #[.agg (aD B9 R),.int .i64 (j6 C9)]) (aI Tryz.results39 rfl (HE _ ⟨rfl,rfl,rfl,rfl⟩).1 Tryz.underlying31 (by kernel_rfl)) rfl ?_
    exact ⟨R,by rw [HU.out,HV.out],by rw [HU.out];exact (HE _ (by exact ⟨rfl,rfl,rfl,rfl⟩)).2⟩
end Go.Proofs.YtignkfhdkcgkgaaGreat
