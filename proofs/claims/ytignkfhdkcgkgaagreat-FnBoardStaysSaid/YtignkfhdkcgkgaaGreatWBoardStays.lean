/- FnBoardStays, the walk (printed by mkacs.py). -/
import Derived.Test.YtignkfhdkcgkgaaGreatDrwAd
import Derived.Test.YtignkfhdkcgkgaaGreatRa
namespace Go.Proofs.YtignkfhdkcgkgaaGreat
set_option maxHeartbeats 8000000
set_option maxRecDepth 100000
open Go.RowKit
attribute [local go_sem ↓] Go.wp_at_zero Go.wp_at_succ
theorem xe (A:Option Addr) (n c:Nat) (bs:List Int) (w:World) (h:kr w w.heap.size A n bs) (_hm:n<=maxLen) :
  Calls Tryz.prog 3 #[.slice A n c] w fun e w'=>e = .returned (.bool true)/\Below w.heap.size w w':=by
 by_cases g:n<=1048576
 ·have d:decide ((n:Int)>1048576)=false:=by simp;omega
  have HB:=Hd h
  clear h
  go_enter Tryz.func3,Tryz.ntmps3
  go_wp2_with (go_at_call 7;refine (wZ _ _ _ _).mono ?_;rintro e w' ⟨rfl,rfl⟩)
  refine (tZ A n c bs _ HB.out (by omega)).mono ?_
  rintro e w1 ⟨b,s,xs,q,xg,xc,rfl,hgood,⟨hq8,hqc,hxw⟩,hrd,hxi,b1⟩
  have hb2:Below w1.heap.size w1 (w1.alloc (.cells (aD b s) 31)):=aB (Below.refl _ _) _
  have HX0:Hid (bD (w1.alloc (.cells (aD b s) 31)) w1.heap.size b s):=aK _ _
  have HW:=Hd (aA b1 hb2)
  have HR0:=Hd (bT.below hrd hb2)
  have HXI:=Hd (hxi.below hb2)
  have HXL:Hid (xs.length=q):=hxi.1
  have HGD:=Hd hgood
  have HWD:Hid (∀j:Nat,((xs[j]?.getD Ac.zero).words).length<=1099511627776):=fun j=>by
   rcases Nat.lt_or_ge j xs.length with hj|hj
   ·rw [List.getElem?_eq_getElem hj]
    have:=hxw _ (List.getElem_mem hj)
    simp only [Option.getD_some]
    omega
   ·rw [List.getElem?_eq_none hj]
    simp [Ac.zero]
  obtain ⟨z1,z2,z3⟩:=mi hgood.bk
  have hz1:bF b.frames<=1099511627776:=by omega
  have hz3:bF b.saved<=1099511627776:=by omega
  have hst:=hrd.state.1
  have hz2:s.n2<=16777216:=by omega
  have hszA:(w1.alloc (.cells (aD b s) 31)).heap.size=w1.heap.size+1:=by simp
  clear b1 hb2 hrd hxi hgood hxw z1 z2 z3 hst
  have HST:=Hd (tY HGD.out.bk (xs:=xs) (by rw [HXL.out];omega))
  obtain ⟨x0,x1,x2,x3,x4,x5,x6,x7,x8,x9,x10,x11⟩:=HX0.out.cells
  go_wp2_with fail
  generalize hW2:(w1.alloc (.cells (aD b s) 31))=w2 at *
  generalize hg0:w1.heap.size=g0 at *
  clear hW2 hg0 hszA x0 x1 x2 x3 x4 x5 x6 x7 x8 x9 x10 x11
  refine (ni b s (some ⟨xg,0,none⟩) q xc xs _ HR0.out HXI.out hz1 hz2 hz3 HWD.out).mono ?_
  rintro e w3 ⟨R1,N1,n1,c1,rfl,f1,o1,b1⟩
  have hn1:n1=q:=by rw [←o1.ints.1,HST.out.2.2,HXL.out]
  subst hn1
  generalize raB b xs=X at *
  have hb3:Below w3.heap.size w3 (w3.alloc (.cells (aD X R1) 31)):=aB (Below.refl _ _) _
  have hbb1:=aA b1 hb3
  have HX1:Hid (bD (w3.alloc (.cells (aD X R1) 31)) w3.heap.size X R1):=aK _ _
  have HR1:=Hd (bT.below f1.fp.rd hb3)
  replace HX0:=Hd (HX0.out.tr hbb1)
  replace HR0:=Hd (bT.below HR0.out hbb1)
  replace HW:=Hd (aA HW.out hbb1)
  obtain ⟨x0,x1,x2,x3,x4,x5,x6,x7,x8,x9,x10,x11⟩:=HX0.out.cells
  go_wp2_with fail
  generalize hW4:(w3.alloc (.cells (aD X R1) 31))=w4 at *
  generalize hg1:w3.heap.size=g1 at *
  clear hW4 hg1 x0 x1 x2 x3 x4 x5 x6 x7 x8 x9 x10 x11 hb3 hbb1 b1 f1 o1
  refine (fA b s _ HR0.out hz1 hz2 hz3).mono ?_
  rintro e w5 ⟨he,b5⟩
  rw [HGD.out.bk] at he
  subst he
  replace HX0:=Hd (HX0.out.tr b5)
  replace HX1:=Hd (HX1.out.tr b5)
  replace HR1:=Hd (bT.below HR1.out b5)
  replace HW:=Hd (aA HW.out b5)
  clear b5
  obtain ⟨y0,y1,y2,y3,y4,y5,y6,y7,y8,y9,y10,y11⟩:=HX1.out.cells
  go_wp2_with fail
  clear y0 y1 y2 y3 y4 y5 y6 y7 y8 y9 y10 y11
  obtain ⟨z1,z2,z3⟩:=mi HST.out.1
  have hst:=HR1.out.state.1
  refine (fA X R1 _ HR1.out (by omega) (by omega) (by omega)).mono ?_
  rintro e w6 ⟨he,b6⟩
  rw [HST.out.1] at he
  subst he
  replace HX0:=Hd (HX0.out.tr b6)
  replace HX1:=Hd (HX1.out.tr b6)
  replace HW:=Hd (aA HW.out b6)
  clear b6 z1 z2 z3 hst
  obtain ⟨x0,x1,x2,x3,x4,x5,x6,x7,x8,x9,x10,x11⟩:=HX0.out.cells
  obtain ⟨y0,y1,y2,y3,y4,y5,y6,y7,y8,y9,y10,y11⟩:=HX1.out.cells
  rw [HST.out.2.1] at y0 y1 y2 y3
  go_wp2_with fail
  go_ret
  exact ⟨rfl,HW.out⟩
 ·have d:decide ((n:Int)>1048576)=true:=by simp;omega
  go_enter Tryz.func3,Tryz.ntmps3
  go_wp2_with (go_at_call 7;refine (wZ _ _ _ _).mono ?_;rintro e w' ⟨rfl,rfl⟩)
  go_ret
  exact ⟨rfl,Below.refl _ _⟩
end Go.Proofs.YtignkfhdkcgkgaaGreat
