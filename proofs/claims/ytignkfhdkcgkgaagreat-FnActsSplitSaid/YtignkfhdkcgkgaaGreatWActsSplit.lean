/- FnActsSplit, the walk (printed by mkacs.py). -/
import Derived.Test.YtignkfhdkcgkgaaGreatDrwAd
import Derived.Test.YtignkfhdkcgkgaaGreatRa
import Derived.Test.YtignkfhdkcgkgaaGreatSamB
namespace Go.Proofs.YtignkfhdkcgkgaaGreat
set_option maxHeartbeats 8000000
set_option maxRecDepth 100000
open Go.RowKit
attribute [local go_sem ↓] Go.wp_at_zero Go.wp_at_succ
theorem yQ (A:Option Addr) (n c:Nat) (bs:List Int) (w:World) (h:kr w w.heap.size A n bs) (_hm:n<=maxLen) :
  Calls Tryz.prog 4 #[.slice A n c] w fun e w'=>e = .returned (.bool true)/\Below w.heap.size w w':=by
 by_cases g:n<=1048576
 ·have d:decide ((n:Int)>1048576)=false:=by simp;omega
  have HB:=Hd h
  have HQ:=Hd (fun i=>Ib h i)
  have HE:=Jy A n c bs w h (by omega)
  clear h
  go_enter Tryz.func4,Tryz.ntmps4
  go_wp2_with (go_at_call 7;refine (wZ _ _ _ _).mono ?_;rintro e w' ⟨rfl,rfl⟩)
  refine (tZ A n c bs _ HB.out (by omega)).mono ?_
  rintro e w1 ⟨b,s,xs,q,xg,xc,rfl,hgood,⟨hq8,hqc,hxw⟩,hrd,hxi,b1⟩
  have hb2:Below w1.heap.size w1 (w1.alloc (.cells (aD b s) 31)):=aB (Below.refl _ _) _
  have HX0:Hid (bD (w1.alloc (.cells (aD b s) 31)) w1.heap.size b s):=aK _ _
  have HW:=Hd (aA b1 hb2)
  have HR0:=Hd (bT.below hrd hb2)
  have HXI:=Hd (hxi.below hb2)
  have HXL:Hid (xs.length=q):=hxi.1
  have HGD:=Hd hgood
  have HWD:Hid (∀j:Nat,((xs[j]?.getD Ac.zero).words).length<=1099511627776):=fun j=>by
   rcases Nat.lt_or_ge j xs.length with hj|hj
   ·rw [List.getElem?_eq_getElem hj]
    have:=hxw _ (List.getElem_mem hj)
    simp only [Option.getD_some]
    omega
   ·rw [List.getElem?_eq_none hj]
    simp [Ac.zero]
  obtain ⟨z1,z2,z3⟩:=mi hgood.bk
  have hz1:bF b.frames<=1099511627776:=by omega
  have hz3:bF b.saved<=1099511627776:=by omega
  have hst:=hrd.state.1
  have hz2:s.n2<=16777216:=by omega
  have hszA:(w1.alloc (.cells (aD b s) 31)).heap.size=w1.heap.size+1:=by simp
  clear b1 hb2 hrd hxi hgood hxw z1 z2 z3 hst
  obtain ⟨kk,hkk⟩:∃kk:Nat,(atN bs 0).tmod ((q:Int)+1)=(kk:Int):=⟨((atN bs 0).tmod ((q:Int)+1)).toNat,by have h1:=(HQ.out 0).1;rw [Int.tmod_eq_emod_of_nonneg h1];have h2:=Int.emod_nonneg (atN bs 0) (show (q:Int)+1≠0 by omega);omega⟩
  have hkq:kk<=q:=by have h1:=(HQ.out 0).1;rw [Int.tmod_eq_emod_of_nonneg h1] at hkk;have h2:=Int.emod_lt_of_pos (atN bs 0) (show 0<(q:Int)+1 by omega);omega
  have HST:=Hd (tY HGD.out.bk (xs:=xs) (by rw [HXL.out];omega))
  have HS1:=Hd (tY HGD.out.bk (xs:=xs.take kk) (by rw [List.length_take];rw [HXL.out];omega))
  have HS2:=Hd (tY HS1.out.1 (xs:=xs.drop kk) (by rw [List.length_drop];rw [HXL.out];omega))
  have HSP:=Hd (G9 HGD.out.bk (xs:=xs) (by rw [HXL.out];omega) (k:=kk) (by rw [HXL.out];exact hkq))
  have HW1:Hid (∀j:Nat,(((xs.take kk)[j]?.getD Ac.zero).words).length<=1099511627776):=fun j=>by
   rw [List.getElem?_take]
   split
   ·exact HWD.out j
   ·simp [Ac.zero]
  have HW2:Hid (∀j:Nat,(((xs.drop kk)[j]?.getD Ac.zero).words).length<=1099511627776):=fun j=>by
   rw [List.getElem?_drop]
   exact HWD.out _
  obtain ⟨x0,x1,x2,x3,x4,x5,x6,x7,x8,x9,x10,x11⟩:=HX0.out.cells
  have a1:IntKind.i64.wrap ((q:Int)+1)=(q:Int)+1:=IntWalk.i64_in _ (by omega)
  have a2:¬(q:Int)+1=0:=by omega
  go_wp2_with fail
  generalize hW2:(w1.alloc (.cells (aD b s) 31))=w2 at *
  generalize hg0:w1.heap.size=g0 at *
  clear hW2 hg0 hszA x0 x1 x2 x3 x4 x5 x6 x7 x8 x9 x10 x11
  refine (HE.out 0 0 w2 rfl (by omega) HW.out).mono ?_
  rintro e w' ⟨rfl,rfl⟩
  obtain ⟨x0,x1,x2,x3,x4,x5,x6,x7,x8,x9,x10,x11⟩:=HX0.out.cells
  go_wp2_with fail
  clear x0 x1 x2 x3 x4 x5 x6 x7 x8 x9 x10 x11 a1 a2
  refine (ni b s (some ⟨xg,0,none⟩) q xc xs _ HR0.out HXI.out hz1 hz2 hz3 HWD.out).mono ?_
  rintro e w3 ⟨R1,N1,n1,c1,rfl,f1,o1,b1⟩
  have hn1:n1=q:=by rw [←o1.ints.1,HST.out.2.2,HXL.out]
  subst hn1
  have HI1:=Hd o1.ints
  have hb3:Below w3.heap.size w3 (w3.alloc (.cells (aD (raB b xs) R1) 31)):=aB (Below.refl _ _) _
  have hbb1:=aA b1 hb3
  have HX1:Hid (bD (w3.alloc (.cells (aD (raB b xs) R1) 31)) w3.heap.size (raB b xs) R1):=aK _ _
  have HR1:=Hd (bT.below f1.fp.rd hb3)
  replace HI1:=Hd (HI1.out.below hb3)
  replace HX0:=Hd (HX0.out.tr hbb1)
  replace HR0:=Hd (bT.below HR0.out hbb1)
  replace HXI:=Hd (HXI.out.below hbb1)
  replace HW:=Hd (aA HW.out hbb1)
  go_upto_region 6 with fail
  generalize hW4:(w3.alloc (.cells (aD (raB b xs) R1) 31))=w4 at *
  generalize hg1:w3.heap.size=g1 at *
  clear hW4 hg1 hb3 hbb1 b1 f1 o1
  have k0:(0:Int)<=(kk:Int):=by omega
  have k1:(kk:Int)<=(n1:Int):=by omega
  have k2:(kk:Int)<=(xc:Int):=by omega
  have k3:kk<=xc:=by omega
  have HRA:=Hd (fun (w':World) (hw:Below w4.heap.size w4 w')=>ni b s (some ⟨xg,0,none⟩) kk xc (xs.take kk) w' (bT.below HR0.out hw) ((HXI.out.below hw).take hkq) hz1 hz2 hz3 HW1.out)
  generalize hY:raB b (xs.take kk)=Y at *
  generalize hys:raN b (xs.take kk)=ys at *
  go_cut [8,9] (fun p u w'=>wX w4 Y ys p u w')
  case first =>
   have hD:=Below.refl w4.heap.size w4
   obtain ⟨x0,x1,x2,x3,x4,x5,x6,x7,x8,x9,x10,x11⟩:=HX0.out.cells
   have lx:=aG HX0.out
   go_wp2_with fail
   go_region_held3 (fun w'=>Below w4.heap.size w4 w'/\∀b o,b<w4.heap.size→w'.cell? ⟨b,o,none⟩=w4.cell? ⟨b,o,none⟩)
    (first|with_reducible exact ⟨hD,(aQ hD).1⟩|with_reducible exact ⟨hD.drew,(aQ hD.drew).1⟩|(refine ⟨?_,(aQ ?_).1⟩ <;> (repeat (first|with_reducible exact hD|with_reducible exact hD.drew|with_reducible refine aB ?_ _|with_reducible refine Below.drew ?_|with_reducible refine Below.setCell ?_ (by simp only;omega) _))))
    ((go_at_call 9;(with_reducible refine (HRA.out _ (by first|with_reducible exact hD|with_reducible exact hD.drew|with_reducible exact aB hD _|with_reducible exact (aB hD _).drew|with_reducible exact aB hD.drew _|with_reducible exact (aB hD.drew _).drew)).mono ?_);rintro e wk ⟨R,N,nn,cc,rfl,f,o,bw⟩;have HFq:=Hd f;have HOq:=Hd o;have HBq:=Hd bw;have hD2:=aA (a:=w4) (by first|with_reducible exact hD|with_reducible exact hD.drew|with_reducible exact aB hD _|with_reducible exact (aB hD _).drew|with_reducible exact aB hD.drew _|with_reducible exact (aB hD.drew _).drew) bw;have hsz:=hD2.size;have hsz2:=bw.size;(try simp only [World.size_drew] at hsz2);(try simp only [World.size_alloc] at hsz2);(try have hlt2:=Nat.lt_of_succ_le hsz2);obtain ⟨hcc,hff⟩:=aQ bw;clear bw f o;replace hD:=hD2))
   ·go_wp2_with fail
    go_meet
    first|exact JZ hD HFq.out.fp.rd HOq.out.ints
   all_goals
    go_wp2_with fail
    go_meet
    first|exact Ja hD HFq.out.fp HOq.out HBq.out
  obtain ⟨w5,g5,R5,N5,n5,c5,rfl,rfl,hbk5,hr5,hi5,hD5,rfl⟩:=hcut
  replace HX1:=Hd (HX1.out.tr hD5)
  replace HR1:=Hd (bT.below HR1.out hD5)
  replace HI1:=Hd (HI1.out.below hD5)
  replace HXI:=Hd (HXI.out.below hD5)
  replace HW:=Hd (aA HW.out hD5)
  have HX5:=Hd hbk5
  have HR5:=Hd hr5
  have HI5:=Hd hi5
  clear hbk5 hr5 hi5 hD5 HRA
  obtain ⟨y1,y2,y3⟩:=mi HS1.out.1
  have hst5:=HR5.out.state.1
  obtain ⟨PX,hPX⟩:∃PX:Option Addr,(if xc=kk then (some ⟨xg,0,none⟩:Option Addr) else some ⟨xg,kk * 9,none⟩)=PX:=⟨_,rfl⟩
  have HPX:Hid (∀w',kU w' (some ⟨xg,0,none⟩) n1 xs→kU w' PX (n1 - kk) (xs.drop kk)):=fun w' hx=>by
   rw [←hPX]
   by_cases hc:xc=kk
   ·rw [if_pos hc]
    exact ⟨by rw [List.length_drop,hx.1],fun h0=>by omega⟩
   ·rw [if_neg hc]
    have h9:=hx.drop hkq
    rwa [Nat.zero_add] at h9
  have HRA:=Hd (fun (w':World) (hw:Below w5.heap.size w5 w')=>ni Y R5 PX (n1 - kk) (xc - kk) (xs.drop kk) w' (bT.below HR5.out hw) (HPX.out w' (HXI.out.below hw)) (by omega) (by omega) (by omega) HW2.out)
  generalize hZ:raB Y (xs.drop kk)=Z at *
  generalize hzs:raN Y (xs.drop kk)=zs at *
  go_upto_region 7 with fail
  go_cut [10,11] (fun p u w'=>wX w5 Z zs p u w')
  case first =>
   have hD:=Below.refl w5.heap.size w5
   obtain ⟨x0,x1,x2,x3,x4,x5,x6,x7,x8,x9,x10,x11⟩:=HX5.out.cells
   have lx:=aG HX5.out
   go_wp2_with fail
   go_region_held3 (fun w'=>Below w5.heap.size w5 w'/\∀b o,b<w5.heap.size→w'.cell? ⟨b,o,none⟩=w5.cell? ⟨b,o,none⟩)
    (first|with_reducible exact ⟨hD,(aQ hD).1⟩|with_reducible exact ⟨hD.drew,(aQ hD.drew).1⟩|(refine ⟨?_,(aQ ?_).1⟩ <;> (repeat (first|with_reducible exact hD|with_reducible exact hD.drew|with_reducible refine aB ?_ _|with_reducible refine Below.drew ?_|with_reducible refine Below.setCell ?_ (by simp only;omega) _))))
    ((go_at_call 9;(with_reducible refine (HRA.out _ (by first|with_reducible exact hD|with_reducible exact hD.drew|with_reducible exact aB hD _|with_reducible exact (aB hD _).drew|with_reducible exact aB hD.drew _|with_reducible exact (aB hD.drew _).drew)).mono ?_);rintro e wk ⟨R,N,nn,cc,rfl,f,o,bw⟩;have HFq:=Hd f;have HOq:=Hd o;have HBq:=Hd bw;have hD2:=aA (a:=w5) (by first|with_reducible exact hD|with_reducible exact hD.drew|with_reducible exact aB hD _|with_reducible exact (aB hD _).drew|with_reducible exact aB hD.drew _|with_reducible exact (aB hD.drew _).drew) bw;have hsz:=hD2.size;have hsz2:=bw.size;(try simp only [World.size_drew] at hsz2);(try simp only [World.size_alloc] at hsz2);(try have hlt2:=Nat.lt_of_succ_le hsz2);obtain ⟨hcc,hff⟩:=aQ bw;clear bw f o;replace hD:=hD2))
   ·go_wp2_with fail
    go_meet
    first|exact JZ hD HFq.out.fp.rd HOq.out.ints
   all_goals
    go_wp2_with fail
    go_meet
    first|exact Ja hD HFq.out.fp HOq.out HBq.out
  obtain ⟨w6,g6,R6,N6,n6,c6,rfl,rfl,hbk6,hr6,hi6,hD6,rfl⟩:=hcut
  have hzx:Z=raB b xs:=HSP.out.1
  have hns:raN b xs=ys++zs:=HSP.out.2
  subst hzx
  replace HX1:=Hd (HX1.out.tr hD6)
  replace HR1:=Hd (bT.below HR1.out hD6)
  replace HI1:=Hd (HI1.out.below hD6)
  replace HI5:=Hd (HI5.out.below hD6)
  replace HW:=Hd (aA HW.out hD6)
  have HR6:=Hd hr6
  have HI6:=Hd hi6
  have hl5:n5<=24:=by have h1:=HI5.out.1;have h2:=HS1.out.2.2;have h3:=HXL.out;rw [List.length_take] at h2;omega
  have hl6:n6<=24:=by have h1:=hi6.1;have h2:=HS2.out.2.2;have h3:=HXL.out;rw [List.length_drop] at h2;omega
  obtain ⟨z1,z2,z3⟩:=mi HST.out.1
  have hst1:=HR1.out.state.1
  obtain ⟨u0,u1,u2,u3,u4,u5,u6,u7,u8,u9,u10,u11⟩:=HX1.out.cells
  obtain ⟨v0,v1,v2,v3,v4,v5,v6,v7,v8,v9,v10,v11⟩:=bD.cells hbk6
  clear hr6 hi6 hD6 HRA
  go_wp2_with fail
  clear u0 u1 u2 u3 u4 u5 u6 u7 u8 u9 u10 u11 v0 v1 v2 v3 v4 v5 v6 v7 v8 v9 v10 v11
  refine (yC (raB b xs) R1 R6 _ HR1.out HR6.out (by omega) (by omega) (by omega)).mono ?_
  rintro e w7 ⟨rfl,b7⟩
  replace HI1:=Hd (HI1.out.below b7)
  replace HI5:=Hd (HI5.out.below b7)
  replace HI6:=Hd (HI6.out.below b7)
  replace HW:=Hd (aA HW.out b7)
  clear b7 hbk6
  go_wp2_with (first
   | (at_builtin;refine qz (by rfl) ?_;refine bP rfl _ _ rfl w7.heap.size (some ⟨w7.heap.size,0,none⟩) 0 0 [] rfl (Own.newAt (w:=w7) rfl (Nat.le_refl _)) N5 n5 c5 ys rfl (HI5.out.below (aB (Below.refl _ _) _)) (by omega) (by simp) (aB (Below.refl _ _) _) ?_;rintro A8 c8 w8 o8 b8 -;rw [Nat.zero_add,List.nil_append] at o8;rw [Nat.zero_add])
   | (at_builtin;refine qz (by rfl) ?_;refine bP rfl _ _ rfl w7.heap.size A8 n5 c8 ys rfl o8 N6 n6 c6 zs rfl (HI6.out.below b8) (by omega) b8.size b8 ?_;rintro A9 c9 w9 o9 b9 -))
  refine (mX N1 A9 n1 (n5+n6) c1 c9 (raN b xs) (ys++zs) _ (HI1.out.below b9) o9.ints (by omega)).mono ?_
  rintro e w10 ⟨he,b10⟩
  rw [decide_eq_true hns] at he
  subst he
  have HB10:=Hd (aA (aA HW.out b9) b10)
  clear b10 b9 b8 o8 o9
  go_wp2_with fail
  go_ret
  exact ⟨rfl,HB10.out⟩
 ·have d:decide ((n:Int)>1048576)=true:=by simp;omega
  go_enter Tryz.func4,Tryz.ntmps4
  go_wp2_with (go_at_call 7;refine (wZ _ _ _ _).mono ?_;rintro e w' ⟨rfl,rfl⟩)
  go_ret
  exact ⟨rfl,Below.refl _ _⟩
end Go.Proofs.YtignkfhdkcgkgaaGreat
