/- Routing nodes of connections in the reference (printed by mksns.py). -/
import Derived.Test.YtofihjoanjkdmaaGreatLayG6
import Derived.Test.YtofihjoanjkdmaaGreatLayS12
namespace Go.Proofs.YtofihjoanjkdmaaGreat
set_option maxHeartbeats 8000000
set_option maxRecDepth 100000
open Go.RowKit
theorem zG (d:Dev) (t p:Int) (w:World) :
  Calls Tryz.prog 209 #[.agg #[.int .i64 d.W,.int .i64 d.H,.int .i64 d.T,.int .i64 d.R],.int .i64 t,.int .i64 p] w fun e w'=>e = .returned (.int .i64 (dZ d t p))/\Below w.heap.size w w':=by
 have HO:Hid (dZ d t p=if au d t=true/\0<=p/\p<dV (bA d t) then t * aX d+5+p else -1):=rfl
 have HB0:=Hd (aF (Below.refl w.heap.size w) (.cells #[.int .i64 d.W,.int .i64 d.H,.int .i64 d.T,.int .i64 d.R] 36))
 by_cases hp0:p<0
 ·have HR:Hid (dZ d t p=-1):=by show _=_;rw [HO.out,if_neg];rintro ⟨_,h0,_⟩;omega
  have dp:decide (p<0)=true:=decide_eq_true hp0
  clear hp0
  go_enter Tryz.func209,Tryz.ntmps209
  go_wp2_with fail
  go_ret
  exact ⟨aQ HR.out.symm,HB0.out⟩
 ·have dp:decide (p<0)=false:=decide_eq_false hp0
  cases ht:au d t with
  | false =>
   have HR:Hid (dZ d t p=-1):=by show _=_;rw [HO.out,if_neg];rintro ⟨h0,_⟩;rw [ht] at h0;cases h0
   have HTK:Hid (jd d t=-1):=by show _=_;unfold jd;rw [ht];rfl
   have dq:decide (p≥0)=true:=decide_eq_true (by omega)
   have dq':decide (0<=p)=true:=decide_eq_true (by omega)
   clear hp0 ht
   go_enter Tryz.func209,Tryz.ntmps209
   go_wp2_with fail
   refine (mH d t _).mono ?_
   rw [HTK.out]
   rintro _ w2 ⟨rfl,b2⟩
   have HB2:=Hd (aB HB0.out b2)
   clear b2
   go_wp2_with fail
   refine (jX (-1) _).mono ?_
   rw [show dV (-1)=0 from rfl]
   rintro _ w3 ⟨rfl,rfl⟩
   go_wp2_with fail
   go_ret
   exact ⟨aQ HR.out.symm,HB2.out⟩
  | true =>
   have HTK:Hid (jd d t=bA d t):=by show _=_;unfold jd;rw [if_pos ht]
   obtain ⟨hd,ht0,ht1⟩:=aW.1 ht
   have hWH:=eG hd
   have hT:=bC hd
   have hp:=dw hd
   have hop:=gG d t
   have HM:=Hd (iM ht0 (show t<=35 by omega) (show 0<=aX d by omega) hp.2)
   have HT:=Hd ht
   clear ht hd
   go_enter Tryz.func209,Tryz.ntmps209
   go_wp2_with fail
   refine (mH d t _).mono ?_
   rw [HTK.out]
   rintro _ w2 ⟨rfl,b2⟩
   have HB2:=Hd (aB HB0.out b2)
   have hs2:=b2.size
   simp only [World.size_alloc] at hs2
   obtain ⟨hcc,hff⟩:=bI b2
   clear b2
   generalize bA d t=K at *
   go_wp2_with fail
   refine (jX K _).mono ?_
   generalize dV K=Q at *
   rintro _ w3 ⟨rfl,rfl⟩
   by_cases hin:p<Q
   ·have hh:decide (p≥Q)=false:=by simp;omega
    have HR:Hid (dZ d t p=t * aX d+5+p):=by show _=_;rw [HO.out,if_pos ⟨HT.out,by omega,hin⟩]
    go_wp2_with fail
    refine (dh d _ (by omega) (by omega)).mono ?_
    rintro _ w3 ⟨rfl,b3⟩
    have HB3:=Hd (aB HB2.out b3)
    have hM:=HM.out
    clear b3 hcc hff
    go_wp2_with fail
    go_ret
    exact ⟨aQ HR.out.symm,HB3.out⟩
   ·have hh:decide (p≥Q)=true:=by simp;omega
    have HR:Hid (dZ d t p=-1):=by show _=_;rw [HO.out,if_neg];rintro ⟨_,_,h1⟩;exact hin h1
    go_wp2_with fail
    go_ret
    exact ⟨aQ HR.out.symm,HB2.out⟩
theorem pU (d:Dev) (place:List Int) (N a b:Int) (ss:List bQ) (PA SA:Option Addr) (pn pc m mc:Nat) (w:World) (hp:dA w PA pn place) (hpn:pn<=1048576) :
  Calls Tryz.prog 119 #[.agg #[.int .i64 d.W,.int .i64 d.H,.int .i64 d.T,.int .i64 d.R],.slice PA pn pc,.agg #[.int .i64 N,.int .i64 a,.int .i64 b,.slice SA m mc]] w fun e w'=>e = .returned (.int .i64 (eP d place ⟨N,⟨a,b⟩,ss⟩))/\Below w.heap.size w w':=by
 have HP:=Hd hp
 have hS:eP d place ⟨N,⟨a,b⟩,ss⟩=if 0<=a/\a<(place.length:Int) then dZ d (place[a.toNat]?.getD 0) b else -1:=rfl
 rw [hp.1] at hS
 clear hp
 have HB0:=Hd (aF (aF (Below.refl w.heap.size w) (.cells #[.int .i64 d.W,.int .i64 d.H,.int .i64 d.T,.int .i64 d.R] 36)) (.cells #[.int .i64 N,.int .i64 a,.int .i64 b,.slice SA m mc] 158))
 have hx:=bg (.cells #[.int .i64 N,.int .i64 a,.int .i64 b,.slice SA m mc] 158) (aK w (.cells #[.int .i64 d.W,.int .i64 d.H,.int .i64 d.T,.int .i64 d.R] 36))
 have hy:=aK (w.alloc (.cells #[.int .i64 d.W,.int .i64 d.H,.int .i64 d.T,.int .i64 d.R] 36)) (.cells #[.int .i64 N,.int .i64 a,.int .i64 b,.slice SA m mc] 158)
 simp only [World.size_alloc] at hy
 have HXB:=Hd hx
 have HYB:=Hd hy
 clear hx hy
 by_cases h1:a<0
 ·have dz:decide (a<0)=true:=decide_eq_true h1
  have HS:Hid (eP d place ⟨N,⟨a,b⟩,ss⟩=-1):=by show _=_;rw [hS,if_neg fun h=>by omega]
  clear hS
  go_enter Tryz.func119,Tryz.ntmps119
  go_upto_region 1 with fail
  generalize (w.alloc (.cells #[.int .i64 d.W,.int .i64 d.H,.int .i64 d.T,.int .i64 d.R] 36)).alloc (.cells #[.int .i64 N,.int .i64 a,.int .i64 b,.slice SA m mc] 158)=W9 at *
  have hx:=HXB.out
  have hy:=HYB.out
  have x0:=aA (k:=0) hx rfl
  have x1:=aA (k:=1) hx rfl
  have x2:=aA (k:=2) hx rfl
  have x3:=aA (k:=3) hx rfl
  have y0:=aA (k:=0) hy rfl
  have y1:=aA (k:=1) hy rfl
  have y2:=aA (k:=2) hy rfl
  have y3:=aA (k:=3) hy rfl
  have lx:=aC hx
  have ly:=aC hy
  clear hx hy
  go_wp2_with fail
  go_ret
  exact ⟨aQ HS.out.symm,HB0.out⟩
 ·have dz:decide (a<0)=false:=decide_eq_false h1
  by_cases h2:(pn:Int)<=a
  ·have dp:decide ((pn:Int)<=a)=true:=decide_eq_true h2
   have dp':decide (a≥(pn:Int))=true:=decide_eq_true h2
   have HS:Hid (eP d place ⟨N,⟨a,b⟩,ss⟩=-1):=by show _=_;rw [hS,if_neg fun h=>by omega]
   clear hS
   go_enter Tryz.func119,Tryz.ntmps119
   go_upto_region 1 with fail
   generalize (w.alloc (.cells #[.int .i64 d.W,.int .i64 d.H,.int .i64 d.T,.int .i64 d.R] 36)).alloc (.cells #[.int .i64 N,.int .i64 a,.int .i64 b,.slice SA m mc] 158)=W9 at *
   have hx:=HXB.out
   have hy:=HYB.out
   have x0:=aA (k:=0) hx rfl
   have x1:=aA (k:=1) hx rfl
   have x2:=aA (k:=2) hx rfl
   have x3:=aA (k:=3) hx rfl
   have y0:=aA (k:=0) hy rfl
   have y1:=aA (k:=1) hy rfl
   have y2:=aA (k:=2) hy rfl
   have y3:=aA (k:=3) hy rfl
   have lx:=aC hx
   have ly:=aC hy
   clear hx hy
   go_wp2_with fail
   go_ret
   exact ⟨aQ HS.out.symm,HB0.out⟩
  ·have dp:decide ((pn:Int)<=a)=false:=decide_eq_false h2
   have dp':decide (a≥(pn:Int))=false:=decide_eq_false h2
   obtain ⟨X,rfl⟩:∃X:Nat,a=(X:Int):=⟨a.toNat,by omega⟩
   have hX:X<pn:=by omega
   rw [if_pos ⟨by omega,by omega⟩,Int.toNat_natCast] at hS
   obtain ⟨bp,op,rfl,hbp,hcp⟩:=HP.out.2 (by omega)
   have cp:=(HB0.out.cell (p:=⟨bp,op+X,none⟩) hbp).trans (hcp X hX)
   have lbp:=aL HB0.out hbp
   generalize place[X]?.getD 0=t at *
   have HS:=Hd hS
   have iX:(X:Int)<(pn:Int):=by omega
   have i0:(0:Int)<=(X:Int):=by omega
   clear hS hcp
   go_enter Tryz.func119,Tryz.ntmps119
   go_upto_region 1 with fail
   generalize (w.alloc (.cells #[.int .i64 d.W,.int .i64 d.H,.int .i64 d.T,.int .i64 d.R] 36)).alloc (.cells #[.int .i64 N,.int .i64 (X:Int),.int .i64 b,.slice SA m mc] 158)=W9 at *
   have hx:=HXB.out
   have hy:=HYB.out
   have x0:=aA (k:=0) hx rfl
   have x1:=aA (k:=1) hx rfl
   have x2:=aA (k:=2) hx rfl
   have x3:=aA (k:=3) hx rfl
   have y0:=aA (k:=0) hy rfl
   have y1:=aA (k:=1) hy rfl
   have y2:=aA (k:=2) hy rfl
   have y3:=aA (k:=3) hy rfl
   have lx:=aC hx
   have ly:=aC hy
   clear hx hy
   have HOP:=Hd (fun (x:Sub W9)=>zG d t b x.v)
   go_upto_region 3 with fail
   have hsub:=aZ W9
   have hsc:=aR W9
   refine aI W9 (by kernel_rfl) (by kernel_rfl) (Below.refl _ _) ?_
   repeat (go_big_quiet_step ((first
    | (go_at_call 209;with_reducible exact aO (HOP.out _)))))
   refine wpQuiet_nil ?_
   rintro _ ⟨⟨w5,hD⟩,rfl⟩
   clear hsub hsc
   have HD:=Hd (aB HB0.out hD)
   clear hD x0 x1 x2 x3 y0 y1 y2 y3 lx ly cp lbp
   go_wp2_with fail
   go_ret
   exact ⟨aQ HS.out.symm,HD.out⟩
theorem qW (d:Dev) (place:List Int) (N a b:Int) (ss:List bQ) (PA SA:Option Addr) (pn pc m mc:Nat) (w:World) (hp:dA w PA pn place) (hs:RdC w w.heap.size (bM ss) (.slice SA m mc)) (hpn:pn<=1048576) (hm:m<=1048576) :
  Calls Tryz.prog 117 #[.agg #[.int .i64 d.W,.int .i64 d.H,.int .i64 d.T,.int .i64 d.R],.slice PA pn pc,.agg #[.int .i64 N,.int .i64 a,.int .i64 b,.slice SA m mc]] w fun e w'=>(fK d place ⟨N,⟨a,b⟩,ss⟩/\(∃A c,e = .returned (.slice A m c)/\Own w.heap.size w' A m c (bZ d place ⟨N,⟨a,b⟩,ss⟩))∨¬fK d place ⟨N,⟨a,b⟩,ss⟩/\∃A c,e = .returned (.slice A 0 c))/\Below w.heap.size w w':=by
 have HP:=Hd hp
 have HSS:=Hd hs
 have HSL:Hid (ss.length=m):=hs.pinN
 clear hp hs
 have HB0:=Hd (aF (aF (Below.refl w.heap.size w) (.cells #[.int .i64 d.W,.int .i64 d.H,.int .i64 d.T,.int .i64 d.R] 36)) (.cells #[.int .i64 N,.int .i64 a,.int .i64 b,.slice SA m mc] 158))
 have hx:=bg (.cells #[.int .i64 N,.int .i64 a,.int .i64 b,.slice SA m mc] 158) (aK w (.cells #[.int .i64 d.W,.int .i64 d.H,.int .i64 d.T,.int .i64 d.R] 36))
 have hy:=aK (w.alloc (.cells #[.int .i64 d.W,.int .i64 d.H,.int .i64 d.T,.int .i64 d.R] 36)) (.cells #[.int .i64 N,.int .i64 a,.int .i64 b,.slice SA m mc] 158)
 simp only [World.size_alloc] at hy
 have HXB:=Hd hx
 have HYB:=Hd hy
 clear hx hy
 go_enter Tryz.func117,Tryz.ntmps117
 go_upto_region 1 with fail
 generalize (w.alloc (.cells #[.int .i64 d.W,.int .i64 d.H,.int .i64 d.T,.int .i64 d.R] 36)).alloc (.cells #[.int .i64 N,.int .i64 a,.int .i64 b,.slice SA m mc] 158)=W9 at *
 go_wp2_with fail
 go_loopw [7,8] (fun v i wr=>∃(k:Nat) (A:Option Addr) (c:Nat),k<=m/\i = .int .i64 (k:Int)/\v = .slice A k c/\aM W9 wr [.cel (aJ ((ss.take k).map (bV d place))) (.slice A k c)]/\∀j,j<k→0<=bV d place (ss[j]?.getD bQ.zero)) (fun _ i _=>m - (intOf i).toNat)
 case atStart=>exact ⟨0,_,_,by omega,rfl,rfl,(aM.refl W9).pushNew 3 1,fun j hj=>by omega⟩
 case round =>
  obtain ⟨k,A1,c1,hk,rfl,rfl,hs,hall⟩:=hrel
  have HS:=Hd hs
  have HALL:=Hd hall
  have HBW:=Hd (aB HB0.out hs.bel)
  clear hs hall
  have hx:=aD HS.out.bel HXB.out
  have x0:=aA (k:=0) hx rfl
  have x1:=aA (k:=1) hx rfl
  have x2:=aA (k:=2) hx rfl
  have x3:=aA (k:=3) hx rfl
  have lx:=aC hx
  clear hx
  have y3:=aA (k:=3) (aD HS.out.bel HYB.out) rfl
  have ly:=aC (aD HS.out.bel HYB.out)
  have i0:(0:Int)<=(k:Int):=by omega
  by_cases hlt:k<m
  ·have hdk:decide ((k:Int)<(m:Int))=true:=by simp;omega
   have hkl:k<ss.length:=by rw [HSL.out];exact hlt
   obtain ⟨bs,os,hSA,hbs,d0,d1⟩:=HSS.out.pin (k:=k) hkl
   have HSA:=Hd hSA
   have lbs:=aL HBW.out hbs
   rw [←HBW.out.cell (p:=⟨bs,os+k * 2,none⟩) hbs] at d0
   rw [←HBW.out.cell (p:=⟨bs,os+k * 2+1,none⟩) hbs] at d1
   have HG:Hid (0<=bV d place (ss[k]?.getD bQ.zero)→∀j,j<k+1→0<=bV d place (ss[j]?.getD bQ.zero)):=fun h=>bS HALL.out h
   have HNO:Hid (¬0<=bV d place (ss[k]?.getD bQ.zero)→¬fK d place ⟨N,⟨a,b⟩,ss⟩):=fun h h'=>h (by rw [List.getElem?_eq_getElem hkl];exact h' _ (List.getElem_mem hkl))
   have HTK:=Hd (show (ss.take (k+1)).map (bV d place)=(ss.take k).map (bV d place)++[bV d place (ss[k]?.getD bQ.zero)] from by rw [bJ (z:=bQ.zero) hkl,List.map_append];rfl)
   clear hkl hSA
   obtain rfl:=HSA.out
   generalize ss[k]?.getD bQ.zero=p at *
   obtain ⟨x,y⟩:=p
   simp only at d0 d1
   have hS:bV d place ⟨x,y⟩=if 0<=x/\x<(place.length:Int) then lL d (place[x.toNat]?.getD 0) y else -1:=rfl
   rw [HP.out.1] at hS
   have i1:(k:Int)<(m:Int):=by omega
   by_cases h1:x<0
   ·have dz:decide (x<0)=true:=decide_eq_true h1
    have hSN:bV d place ⟨x,y⟩=-1:=by rw [hS,if_neg fun h=>by omega]
    have HR:=Hd (HNO.out (by omega))
    clear hS hSN HG HNO HTK
    go_upto_region 6 with fail
    clear x0 x1 x2 x3 lx y3 ly d0 d1 lbs
    go_wp2_with fail
    go_ret
    exact ⟨.inr ⟨HR.out,_,_,rfl⟩,aF HBW.out _⟩
   ·have dz:decide (x<0)=false:=decide_eq_false h1
    by_cases h2:(pn:Int)<=x
    ·have dp:decide ((pn:Int)<=x)=true:=decide_eq_true h2
     have dp':decide (x≥(pn:Int))=true:=decide_eq_true h2
     have hSN:bV d place ⟨x,y⟩=-1:=by rw [hS,if_neg fun h=>by omega]
     have HR:=Hd (HNO.out (by omega))
     clear hS hSN HG HNO HTK
     go_upto_region 6 with fail
     clear x0 x1 x2 x3 lx y3 ly d0 d1 lbs
     go_wp2_with fail
     go_ret
     exact ⟨.inr ⟨HR.out,_,_,rfl⟩,aF HBW.out _⟩
    ·have dp:decide ((pn:Int)<=x)=false:=decide_eq_false h2
     have dp':decide (x≥(pn:Int))=false:=decide_eq_false h2
     obtain ⟨X,rfl⟩:∃X:Nat,x=(X:Int):=⟨x.toNat,by omega⟩
     have hX:X<pn:=by omega
     rw [if_pos ⟨by omega,by omega⟩,Int.toNat_natCast] at hS
     obtain ⟨bp,op,hPA,hbp,hcp⟩:=HP.out.2 (by omega)
     have HPA:=Hd hPA
     have cp:=(HBW.out.cell (p:=⟨bp,op+X,none⟩) hbp).trans (hcp X hX)
     have lbp:=aL HBW.out hbp
     clear hPA
     obtain rfl:=HPA.out
     generalize place[X]?.getD 0=t at *
     have HSN:=Hd hS
     have iX:(X:Int)<(pn:Int):=by omega
     have iX0:(0:Int)<=(X:Int):=by omega
     have HIP:=Hd (fun (x:Sub wr)=>wL d t y x.v)
     clear hS hcp
     go_upto_region 8 with fail
     have hsub:=aZ wr
     have hsc:=aR wr
     refine aI wr (by kernel_rfl) (by kernel_rfl) (Below.refl _ _) ?_
     repeat (go_big_quiet_step ((first
      | (go_at_call 206;with_reducible exact aO (HIP.out _)))))
     refine wpQuiet_nil ?_
     rintro _ ⟨⟨w5,hD⟩,rfl⟩
     clear hsub hsc
     have HS5:=Hd (HS.out.below hD)
     have HB5:=Hd (aB HBW.out hD)
     clear hD x0 x1 x2 x3 lx y3 ly d0 d1 lbs cp lbp
     rw [HSN.out] at HG HNO HTK
     generalize lL d t y=z at *
     by_cases hz:0<=z
     ·have dq:decide (z<0)=false:=decide_eq_false (by omega)
      have HG2:=Hd (HG.out hz)
      clear HG HNO
      go_wp2_with (at_builtin;refine fB rfl _ _ rfl _ (HS5.out.alloc _) 0 A1 k c1 ((ss.take k).map (bV d place)) z _ (0,0) rfl rfl rfl (aK _ _) (by omega) ?_;intro g9 cap w9 S9 hz9;have HS9:=Hd S9;clear S9 hz9)
      go_roundw
      case rel=>exact ⟨k+1,_,_,by omega,by go_num,rfl,by rw [HTK.out];exact HS9.out,HG2.out⟩
      case measure=>simp [intOf];omega
     ·have dq:decide (z<0)=true:=decide_eq_true (by omega)
      have HR:=Hd (HNO.out (by omega))
      clear HG HNO HTK
      go_wp2_with fail
      go_ret
      exact ⟨.inr ⟨HR.out,_,_,rfl⟩,aF HB5.out _⟩
  ·have hkm:k=m:=by omega
   have hdk:decide ((k:Int)<(m:Int))=false:=by simp;omega
   have HR:Hid (fK d place ⟨N,⟨a,b⟩,ss⟩):=fun p hp=>by
    obtain ⟨j,hj,rfl⟩:=List.getElem_of_mem hp
    have h:=HALL.out j (by rw [hkm,←HSL.out];exact hj)
    rwa [List.getElem?_eq_getElem hj] at h
   have HD:Hid (aM W9 wr [.cel (aJ (bZ d place ⟨N,⟨a,b⟩,ss⟩)) (.slice A1 m c1)]):=by
    have h:=HS.out
    rwa [hkm,List.take_of_length_le (by rw [HSL.out];exact Nat.le_refl _)] at h
   subst hkm
   clear HS HALL
   go_wp2_with fail
   go_ret
   exact ⟨.inl ⟨HR.out,_,_,rfl,(HD.out.owned 0 rfl).more HB0.out.size⟩,HBW.out⟩
theorem qX (n a b:Int) (w:World) :
  Calls Tryz.prog 205 #[.agg #[.int .i64 a,.int .i64 b],.int .i64 n] w fun e w'=>e = .returned (.bool (tb (fD n ⟨a,b⟩)))/\Below w.heap.size w w':=by
 have HB0:=Hd (aF (Below.refl w.heap.size w) (.cells #[.int .i64 a,.int .i64 b] 100))
 have HP:Hid (fD n ⟨a,b⟩↔(0<=a/\a<n)/\0<=b/\b<=4):=Iff.rfl
 by_cases h1:0<=a
 ·have d1:decide (0<=a)=true:=decide_eq_true h1
  by_cases h2:a<n
  ·have d2:decide (a<n)=true:=decide_eq_true h2
   have HR:Hid (inR b 0 4=tb (fD n ⟨a,b⟩)):=yN (by rw [aV,HP.out];omega)
   clear h1 h2
   go_enter Tryz.func205,Tryz.ntmps205
   go_wp2_with fail
   refine (af b 0 4 _).mono ?_
   rintro _ w' ⟨rfl,rfl⟩
   go_wp2_with fail
   go_ret
   exact ⟨bT HR.out,HB0.out⟩
  ·have d2:decide (a<n)=false:=decide_eq_false h2
   have HR:Hid (¬fD n ⟨a,b⟩):=fun h=>h2 (HP.out.1 h).1.2
   clear h1 h2
   go_enter Tryz.func205,Tryz.ntmps205
   go_wp2_with fail
   go_ret
   exact ⟨aP HR.out,HB0.out⟩
 ·have d1:decide (0<=a)=false:=decide_eq_false h1
  have HR:Hid (¬fD n ⟨a,b⟩):=fun h=>h1 (HP.out.1 h).1.1
  clear h1
  go_enter Tryz.func205,Tryz.ntmps205
  go_wp2_with fail
  go_ret
  exact ⟨aP HR.out,HB0.out⟩
theorem mR (n:Int) (cs:List Cn) (CA:Option Addr) (cn cc:Nat) (w:World) (hC:RdC w w.heap.size (bD cs) (.slice CA cn cc)) (hbd:∀c∈cs,c.sinks.length<=1048576) :
  Calls Tryz.prog 115 #[.int .i64 n,.slice CA cn cc] w fun e w'=>e = .returned (.bool (tb (gY n cs)))/\Below w.heap.size w w':=by
 have hcl:=hC.cnN
 have HCL:=Hd hcl
 have HC:=Hd hC
 have HBD:=Hd hbd
 clear hC hbd
 cases hr:inR n 0 64 with
 | false =>
  have HR:Hid (¬gY n cs):=fun h=>by rw [aV.2 h.blocks] at hr;cases hr
  have H1:=Hd hr
  clear hr
  go_enter Tryz.func115,Tryz.ntmps115
  go_wp2_with fail
  refine (af n 0 64 _).mono ?_
  rw [H1.out]
  rintro _ w' ⟨rfl,rfl⟩
  go_wp2_with fail
  go_ret
  exact ⟨aP HR.out,Below.refl _ _⟩
 | true =>
  have hn:=aV.1 hr
  have H1:=Hd hr
  clear hr
  by_cases h100:cn<=100
  ·have d100:decide ((100:Int)<(cn:Int))=false:=decide_eq_false (by omega)
   clear hcl
   go_enter Tryz.func115,Tryz.ntmps115
   go_wp2_with fail
   refine (af n 0 64 _).mono ?_
   rw [H1.out]
   rintro _ w' ⟨rfl,rfl⟩
   go_wp2_with fail
   go_loopw [5] (fun i wr=>∃k:Nat,k<=cn/\i = .int .i64 (k:Int)/\Below w.heap.size w wr/\∀j,j<k→lw n (cs[j]?.getD Cn.zero)) (fun i _=>cn - (intOf i).toNat)
   case atStart=>exact ⟨0,by omega,rfl,Below.refl _ _,fun j hj=>by omega⟩
   case round =>
    obtain ⟨k,hk,rfl,hb,hall⟩:=hrel
    have HB1:=Hd hb
    have HALL:=Hd hall
    clear hb hall
    by_cases hlt:k<cn
    ·have hdk:decide ((k:Int)<(cn:Int))=true:=by simp;omega
     have hkl:k<cs.length:=by rw [HCL.out];exact hlt
     obtain ⟨bc,oc,SA,m,mc,hCA,hbc,c0,c1,c2,c3,rs⟩:=HC.out.cn (k:=k) hkl
     have HCA:=Hd hCA
     have hg:lw n (cs[k]?.getD Cn.zero)→∀j,j<k+1→lw n (cs[j]?.getD Cn.zero):=fun h=>bS HALL.out h
     have hno:gY n cs→lw n (cs[k]?.getD Cn.zero):=fun h=>by rw [List.getElem?_eq_getElem hkl];exact h.fit _ (List.getElem_mem hkl)
     have hbd1:=HBD.out _ (List.getElem_mem hkl)
     rw [show cs[k]=cs[k]?.getD Cn.zero by rw [List.getElem?_eq_getElem hkl];rfl] at hbd1
     have HG:=Hd hg
     have HNC:=Hd hno
     clear hkl hg hno hCA
     obtain rfl:=HCA.out
     generalize cs[k]?.getD Cn.zero=c at *
     obtain ⟨N,⟨a,b⟩,ss⟩:=c
     simp only at c0 c1 c2 c3 hbd1
     have HSS:=Hd (show RdC w w.heap.size (bM ss) (.slice SA m mc) from rs)
     have HSL:Hid (ss.length=m):=HSS.out.pinN
     have hm:m<=1048576:=by rw [←HSL.out];exact hbd1
     have i0:(0:Int)<=(k:Int):=by omega
     have i1:(k:Int)<(cn:Int):=by omega
     have HC1:=Hd c1
     have HC2:=Hd c2
     have HC3:=Hd c3
     clear rs hbd1 c0 c1 c2 c3
     have lbc:=aL HB1.out hbc
     have c1:=(HB1.out.cell (p:=⟨bc,oc+k * 4+1,none⟩) hbc).trans HC1.out
     have c2:=(HB1.out.cell (p:=⟨bc,oc+k * 4+2,none⟩) hbc).trans HC2.out
     have c3:=(HB1.out.cell (p:=⟨bc,oc+k * 4+3,none⟩) hbc).trans HC3.out
     cases hr2:inR (m:Int) 1 120 with
     | false =>
      have HR:Hid (¬gY n cs):=fun h=>by
       have h2:=(HNC.out h).len
       change 1<=ss.length/\ss.length<=120 at h2
       rw [HSL.out] at h2
       rw [aV.2 (by omega)] at hr2
       cases hr2
      have H2:=Hd hr2
      clear hr2 HG HNC
      go_wp2_with fail
      refine (af (m:Int) 1 120 _).mono ?_
      rw [H2.out]
      rintro _ w' ⟨rfl,rfl⟩
      clear c1 c2 c3 lbc
      go_wp2_with fail
      go_ret
      exact ⟨aP HR.out,HB1.out⟩
     | true =>
      have hm2:=aV.1 hr2
      have H2:=Hd hr2
      clear hr2
      go_wp2_with fail
      refine (af (m:Int) 1 120 _).mono ?_
      rw [H2.out]
      rintro _ w' ⟨rfl,rfl⟩
      go_wp2_with fail
      refine (qX n a b _).mono ?_
      by_cases hf:fD n ⟨a,b⟩
      ·rw [aa hf]
       have HGC:Hid ((∀p∈ss,fD n p)→∀j,j<k+1→lw n (cs[j]?.getD Cn.zero)):=fun h=>HG.out ⟨⟨by show 1<=ss.length;rw [HSL.out];omega,by show ss.length<=120;rw [HSL.out];omega⟩,hf,h⟩
       rintro _ w4 ⟨rfl,b4⟩
       have HB2:=Hd (aB HB1.out b4)
       clear b4 c1 c2 c3 lbc HG hf
       go_wp2_with fail
       go_loopw [6] (fun i wr=>∃j:Nat,j<=m/\i = .int .i64 (j:Int)/\Below w.heap.size w wr/\∀q,q<j→fD n (ss[q]?.getD bQ.zero)) (fun i _=>m - (intOf i).toNat)
       case atStart=>exact ⟨0,by omega,rfl,HB2.out,fun q hq=>by omega⟩
       case round =>
        obtain ⟨j,hj,rfl,hb,hall⟩:=hrel
        have HB3:=Hd hb
        have HA3:=Hd hall
        clear hb hall
        have lbc:=aL HB3.out hbc
        have c1:=(HB3.out.cell (p:=⟨bc,oc+k * 4+1,none⟩) hbc).trans HC1.out
        have c2:=(HB3.out.cell (p:=⟨bc,oc+k * 4+2,none⟩) hbc).trans HC2.out
        have c3:=(HB3.out.cell (p:=⟨bc,oc+k * 4+3,none⟩) hbc).trans HC3.out
        have i2:(0:Int)<=(j:Int):=by omega
        by_cases hltj:j<m
        ·have hdj:decide ((j:Int)<(m:Int))=true:=by simp;omega
         have hjl:j<ss.length:=by rw [HSL.out];exact hltj
         obtain ⟨bp,op,hSA,hbp,d0,d1⟩:=HSS.out.pin (k:=j) hjl
         have HSA:=Hd hSA
         have lbp:=aL HB3.out hbp
         rw [←HB3.out.cell (p:=⟨bp,op+j * 2,none⟩) hbp] at d0
         rw [←HB3.out.cell (p:=⟨bp,op+j * 2+1,none⟩) hbp] at d1
         have HG:Hid (fD n (ss[j]?.getD bQ.zero)→∀q,q<j+1→fD n (ss[q]?.getD bQ.zero)):=fun h=>bS HA3.out h
         have HN:Hid (¬fD n (ss[j]?.getD bQ.zero)→¬gY n cs):=fun h h'=>h (by
          rw [List.getElem?_eq_getElem hjl]
          exact (HNC.out h').sinks _ (List.getElem_mem hjl))
         clear hjl hSA
         obtain rfl:=HSA.out
         generalize ss[j]?.getD bQ.zero=s at *
         obtain ⟨x,y⟩:=s
         simp only at d0 d1
         have i3:(j:Int)<(m:Int):=by omega
         go_wp2_with fail
         refine (qX n x y _).mono ?_
         by_cases hf:fD n ⟨x,y⟩
         ·rw [aa hf]
          have HG2:=Hd (HG.out hf)
          rintro _ w4 ⟨rfl,b4⟩
          have HB4:=Hd (aB HB3.out b4)
          clear b4 d0 d1 HG HN hf lbp c1 c2 c3 lbc
          go_wp2_with fail
          go_roundw
          case rel=>exact ⟨j+1,by omega,by go_num,HB4.out,HG2.out⟩
          case measure=>simp [intOf];omega
         ·rw [bF hf]
          have HR:=Hd (HN.out hf)
          rintro _ w4 ⟨rfl,b4⟩
          have HB4:=Hd (aB HB3.out b4)
          clear b4 d0 d1 HG HN hf lbp c1 c2 c3 lbc
          go_wp2_with fail
          go_ret
          exact ⟨aP HR.out,HB4.out⟩
        ·have hjm:j=m:=by omega
         have hdj:decide ((j:Int)<(m:Int))=false:=by simp;omega
         have HG2:=Hd (HGC.out (fun p hp=>by
          obtain ⟨q,hq,rfl⟩:=List.getElem_of_mem hp
          have h:=HA3.out q (by rw [hjm,←HSL.out];exact hq)
          rwa [List.getElem?_eq_getElem hq] at h))
         clear HA3 hjm
         go_wp2_with fail
         go_roundw
         case rel=>exact ⟨k+1,by omega,by go_num,HB3.out,HG2.out⟩
         case measure=>simp [intOf];omega
      ·rw [bF hf]
       have HR:Hid (¬gY n cs):=fun h=>hf (HNC.out h).src
       rintro _ w4 ⟨rfl,b4⟩
       have HB2:=Hd (aB HB1.out b4)
       clear b4 c1 c2 c3 lbc HG hf
       go_wp2_with fail
       go_ret
       exact ⟨aP HR.out,HB2.out⟩
    ·have hkn:k=cn:=by omega
     have hdk:decide ((k:Int)<(cn:Int))=false:=by simp;omega
     have HR:Hid (gY n cs):=⟨hn,by rw [HCL.out];exact h100,fun c hc=>by
      obtain ⟨j,hj,rfl⟩:=List.getElem_of_mem hc
      have h:=HALL.out j (by rw [hkn,←HCL.out];exact hj)
      rwa [List.getElem?_eq_getElem hj] at h⟩
     clear HALL hkn
     go_wp2_with fail
     go_ret
     exact ⟨cO HR.out,HB1.out⟩
  ·have HR:Hid (¬gY n cs):=fun h=>h100 (by rw [←hcl];exact h.len)
   have d100:decide ((100:Int)<(cn:Int))=true:=decide_eq_true (by omega)
   clear hcl
   go_enter Tryz.func115,Tryz.ntmps115
   go_wp2_with fail
   refine (af n 0 64 _).mono ?_
   rw [H1.out]
   rintro _ w' ⟨rfl,rfl⟩
   go_wp2_with fail
   go_ret
   exact ⟨aP HR.out,Below.refl _ _⟩
theorem xh (d:Dev) (place:List Int) (N a b:Int) (ss:List bQ) (PA SA:Option Addr) (pn pc m mc:Nat) (w:World) (hp:dA w PA pn place) (hs:RdC w w.heap.size (bM ss) (.slice SA m mc)) (hpn:pn<=1048576) (hm:m<=1048576) :
  Calls Tryz.prog 117 #[.agg #[.int .i64 d.W,.int .i64 d.H,.int .i64 d.T,.int .i64 d.R],.slice PA pn pc,.agg #[.int .i64 N,.int .i64 a,.int .i64 b,.slice SA m mc]] w fun e w'=>∃A m' c,e = .returned (.slice A m' c)/\(fK d place ⟨N,⟨a,b⟩,ss⟩/\m=m'/\dA w' A m (bZ d place ⟨N,⟨a,b⟩,ss⟩)∨¬fK d place ⟨N,⟨a,b⟩,ss⟩/\m'=0)/\Below w.heap.size w w' :=
 (qW d place N a b ss PA SA pn pc m mc w hp hs hpn hm).mono fun e w' ⟨h,hb⟩=>by
  rcases h with ⟨h1,A,c,h2,h3⟩|⟨h1,A,c,h2⟩
  ·exact ⟨A,m,c,h2,.inl ⟨h1,rfl,h3.ints⟩,hb⟩
  ·exact ⟨A,0,c,h2,.inr ⟨h1,rfl⟩,hb⟩
theorem nR (d:Dev) (place:List Int) (cs:List Cn) (rs:List Rou) (PA CA RA:Option Addr) (pn pc cn cc rn rc:Nat) (w:World) (hp:dA w PA pn place) (hC:RdC w w.heap.size (bD cs) (.slice CA cn cc)) (hR:RdC w w.heap.size (bR rs) (.slice RA rn rc)) (hpn:pn<=1048576) (hbc:∀c∈cs,c.sinks.length<=1048576) (hbr:∀r∈rs,r.nodes.length<=1048576/\r.from_.length<=1048576) :
  Calls Tryz.prog 40 #[.agg #[.int .i64 d.W,.int .i64 d.H,.int .i64 d.T,.int .i64 d.R],.slice PA pn pc,.slice CA cn cc,.slice RA rn rc] w fun e w'=>e = .returned (.bool (tb (eD d place cs rs)))/\Below w.heap.size w w':=by
 have HP:=Hd hp
 have HC:=Hd hC
 have HCL:=Hd hC.cnN
 have HRR:=Hd hR
 have hrl:=hR.rouN
 have HBC:=Hd hbc
 have HBR':=Hd hbr
 clear hp hC hR hbc hbr
 have hpl:(place.length:Int)=(pn:Int):=by rw [HP.out.1]
 have HB0:=Hd (aF (Below.refl w.heap.size w) (.cells #[.int .i64 d.W,.int .i64 d.H,.int .i64 d.T,.int .i64 d.R] 36))
 have HXB:=Hd (aK w (.cells #[.int .i64 d.W,.int .i64 d.H,.int .i64 d.T,.int .i64 d.R] 36))
 have hx:=HXB.out
 have x0:=aA (k:=0) hx rfl
 have x1:=aA (k:=1) hx rfl
 have x2:=aA (k:=2) hx rfl
 have x3:=aA (k:=3) hx rfl
 have lx:=aC hx
 clear hx
 by_cases hcf:gY (place.length:Int) cs
 ·have HCF:=Hd hcf
  rw [hpl] at hcf
  by_cases h1:rn=cn
  ·subst h1
   obtain ⟨cn,rfl⟩:∃x,x=rn:=⟨rn,rfl⟩
   have HRL:=Hd hrl
   have hc100:cn<=100:=by rw [←HCL.out];exact hcf.len
   have d1:((cn:Int) != (cn:Int))=false:=by simp
   clear hrl
   go_enter Tryz.func40,Tryz.ntmps40
   go_upto_region 1 with fail
   generalize w.alloc (.cells #[.int .i64 d.W,.int .i64 d.H,.int .i64 d.T,.int .i64 d.R] 36)=W9 at *
   clear x0 x1 x2 x3 lx
   go_wp2_with fail
   refine (mR (pn:Int) cs CA cn cc _ (HC.out.below HB0.out) HBC.out).mono ?_
   rw [aa hcf]
   rintro _ wq ⟨rfl,hD⟩
   have HX5:=Hd (aD hD HXB.out)
   have HD:=Hd (aB HB0.out hD)
   clear hD
   obtain ⟨NR,hN⟩:∃N:Nat,gK d=(N:Int):=by
    cases hd:dQ d with
    | true=>have:=fT hd;exact ⟨(gK d).toNat,by unfold gK;rw [if_pos hd];omega⟩
    | false=>exact ⟨0,by unfold gK;rw [hd];rfl⟩
   have hNb:NR<=828:=by
    have h:=hN
    unfold gK at h
    split at h
    ·rename_i hdv
     have:=fT hdv
     omega
    ·omega
   have HRNV:=Hd hN
   clear hN
   have hx:=HX5.out
   have x0:=aA (k:=0) hx rfl
   have x1:=aA (k:=1) hx rfl
   have x2:=aA (k:=2) hx rfl
   have x3:=aA (k:=3) hx rfl
   have lx:=aC hx
   clear hx
   go_wp2_with fail
   refine (fE d _).mono ?_
   rw [HRNV.out]
   rintro _ W0 ⟨rfl,bz⟩
   have HX6:=Hd (aD bz HX5.out)
   have HD':=Hd (aB HD.out bz)
   clear bz x0 x1 x2 x3 lx
   clear HD
   have HD:=HD'
   have hmk:=lD NR (by omega)
   have HS0:=Hd ((aM.refl W0).pushRowB NR)
   go_wp2_with fail
   clear hmk
   go_loopw [10] (fun i wr=>∃k:Nat,k<=cn/\i = .int .i64 (k:Int)/\aM W0 wr [ni W0.heap.size NR ((rs.take k).flatMap Rou.nodes)]/\(∀j,j<k→fK d place (cs[j]?.getD Cn.zero)/\bU d (eP d place (cs[j]?.getD Cn.zero)) (bZ d place (cs[j]?.getD Cn.zero)) (rs[j]?.getD Rou.zero))/\((rs.take k).flatMap Rou.nodes).Nodup) (fun i _=>cn - (intOf i).toNat)
   case atStart=>exact ⟨0,by omega,rfl,HS0.out,fun j hj=>by omega,by simp⟩
   case round =>
    obtain ⟨k,hk,rfl,hs,hall,hnd⟩:=hrel
    have HS:=Hd hs
    have HALL:=Hd hall
    have HND:=Hd hnd
    have HBW:=Hd (aB HD.out hs.bel)
    have HXR:=Hd (aD hs.bel HX6.out)
    clear hs hall hnd
    by_cases hlt:k<cn
    ·have hdk:decide ((k:Int)<(cn:Int))=true:=by simp;omega
     have hkl:k<cs.length:=by rw [HCL.out];exact hlt
     have hkr:k<rs.length:=by rw [HRL.out];exact hlt
     obtain ⟨bc,oc,SA,m,mc,hCA,hbc,c0,c1,c2,c3,rsn⟩:=HC.out.cn (k:=k) hkl
     obtain ⟨br,ob,NA,nn,nc,FA,fn,fc,hRA,hbr,e0,e1,rns,rfs⟩:=HRR.out.rou (k:=k) hkr
     have HCA:=Hd hCA
     have HRA:=Hd hRA
     have HR0:Hid (∀v,Below w.heap.size w v→v.cell? ⟨br,ob+k * 2,none⟩=some (.slice NA nn nc)):=fun v hv=>(hv.cell (p:=⟨br,ob+k * 2,none⟩) hbr).trans e0
     have HR1:Hid (∀v,Below w.heap.size w v→v.cell? ⟨br,ob+k * 2+1,none⟩=some (.slice FA fn fc)):=fun v hv=>(hv.cell (p:=⟨br,ob+k * 2+1,none⟩) hbr).trans e1
     have hcf:lw (place.length:Int) (cs[k]?.getD Cn.zero):=by rw [List.getElem?_eq_getElem hkl];exact HCF.out.fit _ (List.getElem_mem hkl)
     have hg:fK d place (cs[k]?.getD Cn.zero)/\bU d (eP d place (cs[k]?.getD Cn.zero)) (bZ d place (cs[k]?.getD Cn.zero)) (rs[k]?.getD Rou.zero)→∀j,j<k+1→fK d place (cs[j]?.getD Cn.zero)/\bU d (eP d place (cs[j]?.getD Cn.zero)) (bZ d place (cs[j]?.getD Cn.zero)) (rs[j]?.getD Rou.zero):=fun h=>bS HALL.out h
     have hno:eD d place cs rs→fK d place (cs[k]?.getD Cn.zero)/\bU d (eP d place (cs[k]?.getD Cn.zero)) (bZ d place (cs[k]?.getD Cn.zero)) (rs[k]?.getD Rou.zero):=fun h=>h.fit k hkl
     have hbs:=HBC.out _ (List.getElem_mem hkl)
     rw [show cs[k]=cs[k]?.getD Cn.zero by rw [List.getElem?_eq_getElem hkl];rfl] at hbs
     have hbrs:=HBR'.out _ (List.getElem_mem hkr)
     rw [show rs[k]=rs[k]?.getD Rou.zero by rw [List.getElem?_eq_getElem hkr];rfl] at hbrs
     have htk:(rs.take (k+1)).flatMap Rou.nodes=(rs.take k).flatMap Rou.nodes++(rs[k]?.getD Rou.zero).nodes:=by
      rw [bJ (z:=Rou.zero) hkr,List.flatMap_append,List.flatMap_singleton]
     have hon:eD d place cs rs→((rs.take k).flatMap Rou.nodes++(rs[k]?.getD Rou.zero).nodes).Nodup:=fun h=>by
      have h1:=h.once
      rw [←List.take_append_drop (k+1) rs,List.flatMap_append,htk] at h1
      exact (List.nodup_append.1 h1).1
     have HG:=Hd hg
     have HNO:=Hd hno
     have HTK:=Hd htk
     have HON:=Hd hon
     clear hkl hkr hg hno hCA hRA htk hon e0 e1
     obtain rfl:=HCA.out
     obtain rfl:=HRA.out
     generalize cs[k]?.getD Cn.zero=cx at *
     generalize rs[k]?.getD Rou.zero=rx at *
     obtain ⟨N,⟨a,b⟩,ss⟩:=cx
     obtain ⟨ns,fs⟩:=rx
     simp only at c0 c1 c2 c3 hbs hbrs HTK HON rns rfs
     have HC0:=Hd (fun (v:World) (hv:Below w.heap.size w v)=>(hv.cell (p:=⟨bc,oc+k * 4,none⟩) hbc).trans c0)
     have HC1:=Hd (fun (v:World) (hv:Below w.heap.size w v)=>(hv.cell (p:=⟨bc,oc+k * 4+1,none⟩) hbc).trans c1)
     have HC2:=Hd (fun (v:World) (hv:Below w.heap.size w v)=>(hv.cell (p:=⟨bc,oc+k * 4+2,none⟩) hbc).trans c2)
     have HC3:=Hd (fun (v:World) (hv:Below w.heap.size w v)=>(hv.cell (p:=⟨bc,oc+k * 4+3,none⟩) hbc).trans c3)
     clear c0 c1 c2 c3
     have HSS:=Hd (show RdC w w.heap.size (bM ss) (.slice SA m mc) from rsn)
     have HSL:Hid (ss.length=m):=HSS.out.pinN
     have hm:m<=1048576:=by rw [←HSL.out];exact hbs
     have hm1:1<=m:=by have h1:=hcf.len.1;rw [show (⟨N,⟨a,b⟩,ss⟩:Cn).sinks=ss from rfl,HSL.out] at h1;exact h1
     have HN:=Hd (rns.ints)
     have HF:=Hd (rfs.ints)
     have hnn:nn<=1048576:=by rw [←HN.out.1];exact hbrs.1
     have hfn:fn<=1048576:=by rw [←HF.out.1];exact hbrs.2
     have i0:(0:Int)<=(k:Int):=by omega
     have i1:(k:Int)<(cn:Int):=by omega
     clear rsn rns rfs hbs hbrs hcf
     have c0:=HC0.out _ HBW.out
     have c1:=HC1.out _ HBW.out
     have c2:=HC2.out _ HBW.out
     have c3:=HC3.out _ HBW.out
     have lbc:=aL HBW.out hbc
     have hx:=HXR.out
     have x0:=aA (k:=0) hx rfl
     have x1:=aA (k:=1) hx rfl
     have x2:=aA (k:=2) hx rfl
     have x3:=aA (k:=3) hx rfl
     have lx:=aC hx
     clear hx
     have HSK:=Hd (fun (v:World) (hv:Below wr.heap.size wr v)=>xh d place N a b ss PA SA pn pc m mc v (HP.out.below (aB HBW.out hv)) (HSS.out.below (aB HBW.out hv)) hpn hm)
     have HKEEP:Hid (∀w',Below wr.heap.size wr w'→(w'.cell? ⟨w.heap.size,0,none⟩=some (.int .i64 d.W)/\w'.cell? ⟨w.heap.size,1,none⟩=some (.int .i64 d.H)/\w'.cell? ⟨w.heap.size,2,none⟩=some (.int .i64 d.T)/\w'.cell? ⟨w.heap.size,3,none⟩=some (.int .i64 d.R)/\w'.cell? ⟨bc,oc+k * 4,none⟩=some (.int .i64 N)/\w'.cell? ⟨bc,oc+k * 4+1,none⟩=some (.int .i64 a)/\w'.cell? ⟨bc,oc+k * 4+2,none⟩=some (.int .i64 b)/\w'.cell? ⟨bc,oc+k * 4+3,none⟩=some (.slice SA m mc))):=fun v hv=>⟨(hv.cell (p:=⟨w.heap.size,0,none⟩) lx).trans x0,(hv.cell (p:=⟨w.heap.size,1,none⟩) lx).trans x1,(hv.cell (p:=⟨w.heap.size,2,none⟩) lx).trans x2,(hv.cell (p:=⟨w.heap.size,3,none⟩) lx).trans x3,(hv.cell (p:=⟨bc,oc+k * 4,none⟩) lbc).trans c0,(hv.cell (p:=⟨bc,oc+k * 4+1,none⟩) lbc).trans c1,(hv.cell (p:=⟨bc,oc+k * 4+2,none⟩) lbc).trans c2,(hv.cell (p:=⟨bc,oc+k * 4+3,none⟩) lbc).trans c3⟩
     have hD:=(Below.refl wr.heap.size wr).drew
     go_upto_region 7 with fail
     go_region_held3 (fun w'=>w'.cell? ⟨w.heap.size,0,none⟩=some (.int .i64 d.W)/\w'.cell? ⟨w.heap.size,1,none⟩=some (.int .i64 d.H)/\w'.cell? ⟨w.heap.size,2,none⟩=some (.int .i64 d.T)/\w'.cell? ⟨w.heap.size,3,none⟩=some (.int .i64 d.R)/\w'.cell? ⟨bc,oc+k * 4,none⟩=some (.int .i64 N)/\w'.cell? ⟨bc,oc+k * 4+1,none⟩=some (.int .i64 a)/\w'.cell? ⟨bc,oc+k * 4+2,none⟩=some (.int .i64 b)/\w'.cell? ⟨bc,oc+k * 4+3,none⟩=some (.slice SA m mc))
      (first|exact HKEEP.out _ hD)
      ((first
       | (go_at_call 117;(with_reducible refine (HSK.out _ hD).mono ?_);rintro e5 w5 ⟨A,m',c,rfl,o5,b5⟩;have O5:=Hd o5;replace hD:=aB hD b5;clear b5 o5)))
     obtain ⟨w7,rfl⟩:∃x,x=w5:=⟨w5,rfl⟩
     have HS7:=Hd (HS.out.below hD)
     have HX7:=Hd (aD hD HXR.out)
     have HB7:=Hd (aB HD.out HS7.out.bel)
     clear x0 x1 x2 x3 lx c0 c1 c2 c3 lbc hD HKEEP
     have c0:=HC0.out _ HB7.out
     have c1:=HC1.out _ HB7.out
     have c2:=HC2.out _ HB7.out
     have c3:=HC3.out _ HB7.out
     have lbc:=aL HB7.out hbc
     have d0:=HR0.out _ HB7.out
     have d1:=HR1.out _ HB7.out
     have lbr:=aL HB7.out hbr
     have hx:=HX7.out
     have x0:=aA (k:=0) hx rfl
     have x1:=aA (k:=1) hx rfl
     have x2:=aA (k:=2) hx rfl
     have x3:=aA (k:=3) hx rfl
     have lx:=aC hx
     clear hx
     rcases O5.out with ⟨hsi,rfl,o7⟩|⟨hsi,rfl⟩
     ·have O7:=Hd o7
      have HSI:=Hd hsi
      clear o7 hsi
      have HRF:Hid (eD d place cs rs→bU d (eP d place ⟨N,⟨a,b⟩,ss⟩) (bZ d place ⟨N,⟨a,b⟩,ss⟩) ⟨ns,fs⟩):=fun h=>(HNO.out h).2
      have dm:((m:Int)==0)=false:=by simp;omega
      have hHS:=(fun (x:Sub w7)=>pU d place N a b ss PA SA pn pc m mc x.v (HP.out.below (aB HB7.out x.h)) hpn)
      have HSO:=Hd hHS
      clear hHS
      have H64:Hid (∀s∈bZ d place ⟨N,⟨a,b⟩,ss⟩,j4 s):=fun s hs=>by
       unfold bZ at hs
       obtain ⟨p,_,rfl⟩:=List.mem_map.1 hs
       exact yY d place p
      have hHR:=(fun (x:Sub w7)=>tK d (eP d place ⟨N,⟨a,b⟩,ss⟩) (bZ d place ⟨N,⟨a,b⟩,ss⟩) ⟨ns,fs⟩ A NA FA m c nn nc fn fc x.v (O7.out.below x.h) (HN.out.below (aB HB7.out x.h)) (HF.out.below (aB HB7.out x.h)) hm hnn hfn H64.out)
      by_cases hf:bU d (eP d place ⟨N,⟨a,b⟩,ss⟩) (bZ d place ⟨N,⟨a,b⟩,ss⟩) ⟨ns,fs⟩
      ·rw [aa hf] at hHR
       have HRO:=Hd hHR
       have HG2:=Hd (HG.out ⟨HSI.out,hf⟩)
       have HNR:Hid (∀s∈ns,0<=s/\s<(NR:Int)):=fun s hs=>by
        have h1:=hf.node s hs
        unfold bH at h1
        rw [Bool.and_eq_true] at h1
        have h2:=kM.1 h1.1
        rw [HRNV.out] at h2
        exact h2
       clear hHR HG HNO HRF hf
       go_upto_region 8 with fail
       have hsub:=aZ w7
       have hsc:=aR w7
       refine aI w7 (by kernel_rfl) (by kernel_rfl) (Below.refl _ _) ?_
       repeat (go_big_quiet_step ((first
        | (go_at_call 119;with_reducible exact aO (HSO.out _))
        | (go_at_call 118;with_reducible exact aO (HRO.out _)))))
       refine wpQuiet_nil ?_
       rintro wq ⟨⟨w5,hD⟩,hw⟩
       replace hw:wq=w5:=hw
       subst hw
       clear hsub hsc
       have HS8:=Hd (HS7.out.below hD)
       clear hD
       clear x0 x1 x2 x3 lx c0 c1 c2 c3 lbc d0 d1 lbr
       go_wp2_with fail
       go_loopw [12] (fun i wr=>∃q:Nat,q<=nn/\i = .int .i64 (q:Int)/\aM W0 wr [ni W0.heap.size NR ((rs.take k).flatMap Rou.nodes++ns.take q)]/\((rs.take k).flatMap Rou.nodes++ns.take q).Nodup) (fun i _=>nn - (intOf i).toNat)
       case atStart=>exact ⟨0,by omega,rfl,by rw [List.take_zero,List.append_nil];exact HS8.out,by rw [List.take_zero,List.append_nil];exact HND.out⟩
       case round =>
        obtain ⟨q,hq,rfl,hs,hnd⟩:=hrel
        have HS:=Hd hs
        have HNQ:=Hd hnd
        have HBW:=Hd (aB HD.out hs.bel)
        clear hs hnd
        have d0:=HR0.out _ HBW.out
        have lbr:=aL HBW.out hbr
        by_cases hltq:q<nn
        ·have hdq:decide ((q:Int)<(nn:Int))=true:=by simp;omega
         have hql:q<ns.length:=by rw [HN.out.1];exact hltq
         obtain ⟨bn,obn,hNA,hbn,hcn⟩:=HN.out.2 (by omega)
         have HNA:=Hd hNA
         have cq:=(HBW.out.cell (p:=⟨bn,obn+q,none⟩) hbn).trans (hcn q hltq)
         have lbn:=aL HBW.out hbn
         have hR:=HNR.out _ (List.getElem_mem hql)
         rw [show ns[q]=ns[q]?.getD 0 by rw [List.getElem?_eq_getElem hql];rfl] at hR
         have HSN:=Hd (bJ (z:=0) hql)
         clear hcn hql hNA
         obtain rfl:=HNA.out
         generalize ns[q]?.getD 0=n at *
         obtain ⟨X,rfl⟩:∃X:Nat,n=(X:Int):=⟨n.toNat,by omega⟩
         have hXN:X<NR:=by omega
         have iX0:(0:Int)<=(X:Int):=by omega
         have iXN:(X:Int)<(NR:Int):=by omega
         have iq0:(0:Int)<=(q:Int):=by omega
         have iq1:(q:Int)<(nn:Int):=by omega
         obtain ⟨q1,q2,⟨q3a,q3⟩,q4⟩:=HS.out.truth 0 (k:=X) rfl hXN
         have HS4:=Hd q4
         clear q4 hR
         by_cases hm:(X:Int)∈(rs.take k).flatMap Rou.nodes++ns.take q
         ·rw [decide_eq_true hm] at q1
          have HR:Hid (¬eD d place cs rs):=fun h=>by
           have h1:=HON.out h
           have h2:(((rs.take k).flatMap Rou.nodes++ns.take q)++[(X:Int)]).Nodup:=by
            have h3:(((rs.take k).flatMap Rou.nodes++ns.take (q+1))++ns.drop (q+1)).Nodup:=by
             rw [List.append_assoc,List.take_append_drop]
             exact h1
            have h4:=(List.nodup_append.1 h3).1
            rw [HSN.out,←List.append_assoc] at h4
            exact h4
           exact (dG.1 h2).2 hm
          clear hm
          go_wp2_with fail
          go_ret
          exact ⟨aP HR.out,HBW.out⟩
         ·rw [decide_eq_false hm] at q1
          have HM:=Hd hm
          clear hm
          go_wp2_with fail
          go_roundw
          case rel=>exact ⟨q+1,by omega,by go_num,by rw [HSN.out,←List.append_assoc];exact HS4.out,by rw [HSN.out,←List.append_assoc,dG];exact ⟨HNQ.out,HM.out⟩⟩
          case measure=>simp [intOf];omega
        ·have hqn:q=nn:=by omega
         have hdq:decide ((q:Int)<(nn:Int))=false:=by simp;omega
         have HTQ:Hid (ns.take q=ns):=by show _=_;rw [hqn];exact List.take_of_length_le (by rw [HN.out.1];exact Nat.le_refl _)
         rw [HTQ.out] at HS HNQ
         clear hqn
         go_wp2_with fail
         go_roundw
         case rel=>exact ⟨k+1,by omega,by go_num,by rw [HTK.out];exact HS.out,HG2.out,by rw [HTK.out];exact HNQ.out⟩
         case measure=>simp [intOf];omega
      ·rw [bF hf] at hHR
       have HRO:=Hd hHR
       have HR:Hid (¬eD d place cs rs):=fun h=>hf (HRF.out h)
       clear hHR HG HNO HRF hf
       go_upto_region 8 with fail
       have hsub:=aZ w7
       have hsc:=aR w7
       refine aI w7 (by kernel_rfl) (by kernel_rfl) (Below.refl _ _) ?_
       repeat (go_big_quiet_step ((first
        | (go_at_call 119;with_reducible exact aO (HSO.out _))
        | (go_at_call 118;with_reducible exact aO (HRO.out _)))))
       refine wpQuiet_nil ?_
       rintro wq ⟨⟨w5,hD⟩,hw⟩
       replace hw:wq=w5:=hw
       subst hw
       clear hsub hsc
       have HS8:=Hd (HS7.out.below hD)
       clear hD
       clear x0 x1 x2 x3 lx c0 c1 c2 c3 lbc d0 d1 lbr
       have HBR:=Hd (aB HD.out HS8.out.bel)
       go_wp2_with fail
       go_ret
       exact ⟨aP HR.out,HBR.out⟩
     ·have HR:Hid (¬eD d place cs rs):=fun h=>hsi (HNO.out h).1
      clear HG HNO hsi
      go_upto_region 8 with fail
      have hsub:=aZ w7
      have hsc:=aR w7
      refine aI w7 (by kernel_rfl) (by kernel_rfl) (Below.refl _ _) ?_
      repeat (go_big_quiet_step ((fail)))
      refine wpQuiet_nil ?_
      rintro wq ⟨⟨w5,hD⟩,hw⟩
      replace hw:wq=w5:=hw
      subst hw
      clear hsub hsc
      have HS8:=Hd (HS7.out.below hD)
      clear hD
      clear x0 x1 x2 x3 lx c0 c1 c2 c3 lbc d0 d1 lbr
      have HBR:=Hd (aB HD.out HS8.out.bel)
      go_wp2_with fail
      go_ret
      exact ⟨aP HR.out,HBR.out⟩
    ·have hkn:k=cn:=by omega
     have hdk:decide ((k:Int)<(cn:Int))=false:=by simp;omega
     have HR:Hid (eD d place cs rs):=by
      refine ⟨HCF.out,by rw [HRL.out,HCL.out],fun j hj=>HALL.out j (by rw [hkn,←HCL.out];exact hj),?_⟩
      have h:=HND.out
      rwa [List.take_of_length_le (by rw [HRL.out,hkn];exact Nat.le_refl _)] at h
     clear HALL HND hkn
     go_wp2_with fail
     go_ret
     exact ⟨cO HR.out,HBW.out⟩
  ·have HR:Hid (¬eD d place cs rs):=fun h=>h1 (by rw [←hrl,h.len,HCL.out])
   have d1:((rn:Int) != (cn:Int))=true:=by simp;omega
   clear h1 hrl
   go_enter Tryz.func40,Tryz.ntmps40
   go_upto_region 1 with fail
   generalize w.alloc (.cells #[.int .i64 d.W,.int .i64 d.H,.int .i64 d.T,.int .i64 d.R] 36)=W9 at *
   clear x0 x1 x2 x3 lx
   go_wp2_with fail
   refine (mR (pn:Int) cs CA cn cc _ (HC.out.below HB0.out) HBC.out).mono ?_
   rw [aa hcf]
   rintro _ wq ⟨rfl,hD⟩
   have HX5:=Hd (aD hD HXB.out)
   have HD:=Hd (aB HB0.out hD)
   clear hD
   go_wp2_with fail
   go_ret
   exact ⟨aP HR.out,HD.out⟩
 ·have HR:Hid (¬eD d place cs rs):=fun h=>hcf h.conns
  rw [hpl] at hcf
  clear hrl
  go_enter Tryz.func40,Tryz.ntmps40
  go_upto_region 1 with fail
  generalize w.alloc (.cells #[.int .i64 d.W,.int .i64 d.H,.int .i64 d.T,.int .i64 d.R] 36)=W9 at *
  clear x0 x1 x2 x3 lx
  go_wp2_with fail
  refine (mR (pn:Int) cs CA cn cc _ (HC.out.below HB0.out) HBC.out).mono ?_
  rw [bF hcf]
  rintro _ wq ⟨rfl,hD⟩
  have HX5:=Hd (aD hD HXB.out)
  have HD:=Hd (aB HB0.out hD)
  clear hD
  go_wp2_with fail
  go_ret
  exact ⟨aP HR.out,HD.out⟩
end Go.Proofs.YtofihjoanjkdmaaGreat
