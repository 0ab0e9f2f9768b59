/- FnCommitted, the walk (printed by mkwb.py). -/
import Derived.Test.YtbnfdhidgdfbeaaGreatAbr
import Derived.Test.YtbnfdhidgdfbeaaGreatCmPure
import Derived.Test.YtbnfdhidgdfbeaaGreatCo
import Derived.Test.YtbnfdhidgdfbeaaGreatDrwBd
import Derived.Test.YtbnfdhidgdfbeaaGreatDrwN
import Derived.Test.YtbnfdhidgdfbeaaGreatEsS
import Derived.Test.YtbnfdhidgdfbeaaGreatRt3
import Derived.Test.YtbnfdhidgdfbeaaGreatSamB
import Derived.Test.YtbnfdhidgdfbeaaGreatSp
namespace Go.Proofs.YtbnfdhidgdfbeaaGreat
set_option maxRecDepth 100000
open Go.RowKit
attribute [local go_sem ↓] Go.wp_at_zero Go.wp_at_succ

set_option maxHeartbeats 8000000 in
theorem law_committed (A:Option Addr) (n c:Nat) (bs:List Int) (w:World) (h:Bytes w w.heap.size A n bs) (_hm:n≤maxLen) :
  Calls Tryz.prog 7 #[.slice A n c] w fun e w'=>e = .returned (.bool true)∧Below w.heap.size w w':=by
 by_cases g:n≤1048576
 ·have d:decide ((n:Int)>1048576)=false:=by simp;omega
  have HB:=Lib.hid h
  clear h
  go_enter Tryz.func7,Tryz.ntmps7
  go_wp2_with (go_at_call 9;refine (big_any _ _ _ _).mono ?_;rintro e w' ⟨rfl,rfl⟩)
  refine (drawBoard_any A n c bs _ HB.out (by omega)).mono ?_
  rintro e w1 ⟨b,s,ps,PA,pc,rfl,hgood,hps,hrd,hpi,b1⟩
  have hb2:Below w1.heap.size w1 (w1.alloc (.cells (bdArr b s) 31)):=below_new (Below.refl _ _) _
  have HX0:Hid (BkAt (w1.alloc (.cells (bdArr b s) 31)) w1.heap.size b s):=heap_new _ _
  have HW:=Lib.hid (below_tr b1 hb2)
  have HR0:=Lib.hid (BoardRd.below hrd hb2)
  have HP:=Lib.hid (hpi.below hb2)
  have HGD:=Lib.hid hgood
  have HPS:=Lib.hid hps
  have hts:=(tiles_eq (framesOk_iff (bk_parts hgood.bk).1).1).2
  have HTS:Hid (tiles b.dev≤36):=hts.2
  obtain ⟨z1,z2,z3⟩:=bk_small hgood.bk
  have hz1:size2 b.frames≤1099511627776:=by omega
  have hz3:size2 b.saved≤1099511627776:=by omega
  have hst:=hrd.state.1
  have hz2:s.n2≤16777216:=by omega
  have hszA:(w1.alloc (.cells (bdArr b s) 31)).heap.size=w1.heap.size+1:=by simp
  have hgb:w1.heap.size<(w1.alloc (.cells (bdArr b s) 31)).heap.size:=by omega
  clear b1 hb2 hrd hpi hgood hps z1 z2 z3 hst hts
  by_cases hp:b.phase=1
  ·have HPH:=Lib.hid hp
   have hq:(b.phase != 1)=false:=by rw [hp];rfl
   have hq2:(b.phase==1)=true:=by rw [hp];rfl
   have HCY:=Lib.hid (coB_yes HGD.out hp)
   have HCN:=Lib.hid (coB_no HGD.out hp)
   have HAB:=Lib.hid (abB_yes HGD.out hp)
   have HAO:=Lib.hid (abO_good HGD.out hp)
   have HPO:=Lib.hid (pads_ok (framesOk_iff (bk_parts HGD.out.bk).1).1 HPS.out.1 HPS.out.2)
   have HXO:=Lib.hid (cm_outs HGD.out hp HPO.out)
   have HXB:=Lib.hid (bk_small (cm_bk HGD.out hp))
   have HYB:=Lib.hid (rbB_bb (Nat.le_refl _) (bk_small HGD.out.bk) HAO.out)
   have HXS:=Lib.hid (fun (i:Nat) hi=>cm_state (b:=b) (i:=i) hi)
   have HXL:=Lib.hid (cm_len b)
   have HS0L:Hid (b.state.length=2 * tiles b.dev):=stOk_len (bk_parts HGD.out.bk).2.1
   have HSTL:Hid ((startF b.dev b.frames).length=2 * tiles b.dev):=stOk_len (stOk_start (bk_parts HGD.out.bk).1)
   have HXF:Hid ((cmB b).frames=b.frames):=by show _=_;rfl
   have HXP:Hid ((cmB b).phase=0):=by show _=_;rfl
   have hpl:=HPS.out.1
   clear hp
   obtain ⟨x0,x1,x2,x3,x4,x5,x6,x7,x8,x9,x10,x11⟩:=HX0.out.cells
   go_wp2_with fail
   generalize hW2:(w1.alloc (.cells (bdArr b s) 31))=w2 at *
   generalize hg0:w1.heap.size=g0 at *
   clear hW2 hg0 hszA x0 x1 x2 x3 x4 x5 x6 x7 x8 x9 x10 x11
   refine (regionTiles_any b.dev b.reg _).mono ?_
   rintro e w3 ⟨TA,m,tc,rfl,oT,b3⟩
   have HT:=Lib.hid oT.ints
   have hml:=regTiles_le b.dev b.reg
   rw [oT.ints.1] at hml
   clear oT
   replace HW:=Lib.hid (below_tr HW.out b3)
   replace HP:=Lib.hid (HP.out.below b3)
   replace HX0:=Lib.hid (HX0.out.tr b3)
   replace HR0:=Lib.hid (BoardRd.below HR0.out b3)
   clear b3
   obtain ⟨x0,x1,x2,x3,x4,x5,x6,x7,x8,x9,x10,x11⟩:=HX0.out.cells
   go_wp2_with fail
   clear x0 x1 x2 x3 x4 x5 x6 x7 x8 x9 x10 x11
   refine (frameChecksum_any b.dev s.A1 s.n1 s.c1 b.frames TA m tc (regTiles b.dev b.reg) _ HR0.out.frames HT.out hz1 (by omega)).mono ?_
   rintro e w4 ⟨rfl,b4⟩
   generalize fcsum b.dev b.frames (regTiles b.dev b.reg)=F at *
   replace HW:=Lib.hid (below_tr HW.out b4)
   replace HP:=Lib.hid (HP.out.below b4)
   replace HX0:=Lib.hid (HX0.out.tr b4)
   replace HR0:=Lib.hid (BoardRd.below HR0.out b4)
   replace HT:=Lib.hid (HT.out.below b4)
   clear b4
   obtain ⟨x0,x1,x2,x3,x4,x5,x6,x7,x8,x9,x10,x11⟩:=HX0.out.cells
   go_wp2_with fail
   clear x0 x1 x2 x3 x4 x5 x6 x7 x8 x9 x10 x11
   refine (commitRegion_any b s F _ HR0.out hz1 hz2 hz3).mono ?_
   rintro e w5 ⟨R,he,f1,b1⟩
   rw [HCY.out.1,HCY.out.2] at he
   rw [HCY.out.1] at f1
   subst he
   generalize cmB b=X at *
   have hs1:=b1.size
   have hb1:Below w5.heap.size w5 (w5.alloc (.cells (bdArr (X) R) 31)):=below_new (Below.refl _ _) _
   have hbb1:=below_tr b1 hb1
   have HX1:Hid (BkAt (w5.alloc (.cells (bdArr (X) R) 31)) w5.heap.size (X) R):=heap_new _ _
   have HR1:=Lib.hid (BoardRd.below f1.rd hb1)
   have hgb1:w5.heap.size<(w5.alloc (.cells (bdArr (X) R) 31)).heap.size:=by simp
   replace HW:=Lib.hid (below_tr HW.out hbb1)
   replace HP:=Lib.hid (HP.out.below hbb1)
   replace HX0:=Lib.hid (HX0.out.tr hbb1)
   replace HR0:=Lib.hid (BoardRd.below HR0.out hbb1)
   replace HT:=Lib.hid (HT.out.below hbb1)
   obtain ⟨x0,x1,x2,x3,x4,x5,x6,x7,x8,x9,x10,x11⟩:=HX0.out.cells
   go_wp2_with fail
   generalize hW1:(w5.alloc (.cells (bdArr (X) R) 31))=w6 at *
   generalize hg1:w5.heap.size=g1 at *
   clear hW1 hg1 hb1 hbb1 b1 f1 hs1
   clear x0 x1 x2 x3 x4 x5 x6 x7 x8 x9 x10 x11
   refine (commitRegion_any b s (bits .xor .i64 F 1) _ HR0.out hz1 hz2 hz3).mono ?_
   rintro e w7 ⟨R2,he,f2,b2⟩
   rw [HCN.out.1,HCN.out.2] at he
   rw [HCN.out.1] at f2
   subst he
   have hs2:=b2.size
   have hb2:Below w7.heap.size w7 (w7.alloc (.cells (bdArr (rbB b) R2) 31)):=below_new (Below.refl _ _) _
   have hbb2:=below_tr b2 hb2
   have HX2:Hid (BkAt (w7.alloc (.cells (bdArr (rbB b) R2) 31)) w7.heap.size (rbB b) R2):=heap_new _ _
   have HR2:=Lib.hid (BoardRd.below f2.rd hb2)
   have hgb2:w7.heap.size<(w7.alloc (.cells (bdArr (rbB b) R2) 31)).heap.size:=by simp
   replace HW:=Lib.hid (below_tr HW.out hbb2)
   replace HP:=Lib.hid (HP.out.below hbb2)
   replace HX0:=Lib.hid (HX0.out.tr hbb2)
   replace HX1:=Lib.hid (HX1.out.tr hbb2)
   replace HR0:=Lib.hid (BoardRd.below HR0.out hbb2)
   replace HR1:=Lib.hid (BoardRd.below HR1.out hbb2)
   replace HT:=Lib.hid (HT.out.below hbb2)
   obtain ⟨x0,x1,x2,x3,x4,x5,x6,x7,x8,x9,x10,x11⟩:=HX0.out.cells
   go_wp2_with fail
   generalize hW2:(w7.alloc (.cells (bdArr (rbB b) R2) 31))=w8 at *
   generalize hg2:w7.heap.size=g2 at *
   clear hW2 hg2 hb2 hbb2 b2 f2 hs2
   clear x0 x1 x2 x3 x4 x5 x6 x7 x8 x9 x10 x11
   refine (abortRegion_any b s _ HR0.out hz1 hz2 hz3).mono ?_
   rintro e w9 ⟨R3,he,f3,b3⟩
   rw [HAO.out,HAB.out] at he
   rw [HAB.out] at f3
   subst he
   generalize rbB b=Y at *
   have hs3:=b3.size
   have hb3:Below w9.heap.size w9 (w9.alloc (.cells (bdArr (Y) R3) 31)):=below_new (Below.refl _ _) _
   have hbb3:=below_tr b3 hb3
   have HX3:Hid (BkAt (w9.alloc (.cells (bdArr (Y) R3) 31)) w9.heap.size (Y) R3):=heap_new _ _
   have HR3:=Lib.hid (BoardRd.below f3.rd hb3)
   have hgb3:w9.heap.size<(w9.alloc (.cells (bdArr (Y) R3) 31)).heap.size:=by simp
   replace HW:=Lib.hid (below_tr HW.out hbb3)
   replace HP:=Lib.hid (HP.out.below hbb3)
   replace HX0:=Lib.hid (HX0.out.tr hbb3)
   replace HX1:=Lib.hid (HX1.out.tr hbb3)
   replace HX2:=Lib.hid (HX2.out.tr hbb3)
   replace HR0:=Lib.hid (BoardRd.below HR0.out hbb3)
   replace HR1:=Lib.hid (BoardRd.below HR1.out hbb3)
   replace HR2:=Lib.hid (BoardRd.below HR2.out hbb3)
   replace HT:=Lib.hid (HT.out.below hbb3)
   obtain ⟨x0,x1,x2,x3,x4,x5,x6,x7,x8,x9,x10,x11⟩:=HX2.out.cells
   obtain ⟨y0,y1,y2,y3,y4,y5,y6,y7,y8,y9,y10,y11⟩:=HX3.out.cells
   go_wp2_with fail
   generalize hW3:(w9.alloc (.cells (bdArr (Y) R3) 31))=w10 at *
   generalize hg3:w9.heap.size=g3 at *
   clear hW3 hg3 hb3 hbb3 b3 f3 hs3
   clear x0 x1 x2 x3 x4 x5 x6 x7 x8 x9 x10 x11 y0 y1 y2 y3 y4 y5 y6 y7 y8 y9 y10 y11
   obtain ⟨q1,q2,q3⟩:=HYB.out
   refine (sameBoard_same Y R2 R3 _ HR2.out HR3.out (by omega) (by omega) (by omega)).mono ?_
   rintro e w11 ⟨rfl,b11⟩
   clear q1 q2 q3
   have HXF2:Hid (decide (X.frames=b.frames)=true):=decide_eq_true HXF.out
   replace HW:=Lib.hid (below_tr HW.out b11)
   replace HP:=Lib.hid (HP.out.below b11)
   replace HX0:=Lib.hid (HX0.out.tr b11)
   replace HX1:=Lib.hid (HX1.out.tr b11)
   replace HR0:=Lib.hid (BoardRd.below HR0.out b11)
   replace HR1:=Lib.hid (BoardRd.below HR1.out b11)
   replace HT:=Lib.hid (HT.out.below b11)
   clear b11
   obtain ⟨x0,x1,x2,x3,x4,x5,x6,x7,x8,x9,x10,x11⟩:=HX0.out.cells
   obtain ⟨y0,y1,y2,y3,y4,y5,y6,y7,y8,y9,y10,y11⟩:=HX1.out.cells
   go_wp2_with fail
   clear x0 x1 x2 x3 x4 x5 x6 x7 x8 x9 x10 x11 y0 y1 y2 y3 y4 y5 y6 y7 y8 y9 y10 y11
   refine (sameRows_any R.A1 s.A1 R.n1 s.n1 R.c1 s.c1 X.frames b.frames _ HR1.out.frames HR0.out.frames (by rw [HXF.out];exact hz1)).mono ?_
   rintro e w12 ⟨he,b12⟩
   rw [HXF2.out] at he
   subst he
   have hph1:(X.phase != 0)=false:=by rw [HXP.out];rfl
   have hph2:(X.phase==0)=true:=by rw [HXP.out];rfl
   have hnn:R.n2=s.n2:=by rw [←HR1.out.state.1,←HR0.out.state.1,HXL.out]
   have hn1:((R.n2:Int) != (s.n2:Int))=false:=by rw [hnn];simp
   have hn2:((R.n2:Int)==(s.n2:Int))=true:=by rw [hnn];simp
   have HNN:=Lib.hid hnn
   clear hnn
   replace HW:=Lib.hid (below_tr HW.out b12)
   replace HP:=Lib.hid (HP.out.below b12)
   replace HX0:=Lib.hid (HX0.out.tr b12)
   replace HX1:=Lib.hid (HX1.out.tr b12)
   replace HR0:=Lib.hid (BoardRd.below HR0.out b12)
   replace HR1:=Lib.hid (BoardRd.below HR1.out b12)
   replace HT:=Lib.hid (HT.out.below b12)
   clear b12
   obtain ⟨x0,x1,x2,x3,x4,x5,x6,x7,x8,x9,x10,x11⟩:=HX0.out.cells
   obtain ⟨y0,y1,y2,y3,y4,y5,y6,y7,y8,y9,y10,y11⟩:=HX1.out.cells
   go_wp2_with fail
   clear x0 x1 x2 x3 x4 x5 x6 x7 x8 x9 x10 x11 y0 y1 y2 y3 y4 y5 y6 y7 y8 y9 y10 y11
   clear hph1 hph2 hn1 hn2
   refine (semuStart_any b.dev s.A1 s.n1 s.c1 b.frames _ HR0.out.frames hz1).mono ?_
   rintro e w13 ⟨SA,sn,sc,rfl,oS,b13⟩
   have HS:=Lib.hid oS.ints
   clear oS
   replace HW:=Lib.hid (below_tr HW.out b13)
   replace HP:=Lib.hid (HP.out.below b13)
   replace HX0:=Lib.hid (HX0.out.tr b13)
   replace HX1:=Lib.hid (HX1.out.tr b13)
   replace HR0:=Lib.hid (BoardRd.below HR0.out b13)
   replace HR1:=Lib.hid (BoardRd.below HR1.out b13)
   replace HT:=Lib.hid (HT.out.below b13)
   clear b13
   generalize regTiles b.dev b.reg=ts at *
   generalize startF b.dev b.frames=us at *
   generalize tiles b.dev=M at *
   obtain ⟨A1,n1,c1,A2,n2,c2,A3,n3,c3⟩:=s
   obtain ⟨B1,m1,k1,B2,m2,k2,B3,m3,k3⟩:=R
   have hS0:Ints w13 A2 n2 b.state:=HR0.out.state
   have hS1:Ints w13 B2 m2 X.state:=HR1.out.state
   have hn2:=hS0.1
   rw [HS0L.out] at hn2
   have hnm:m2=n2:=HNN.out
   have hsn:=HS.out.1
   rw [HSTL.out] at hsn
   have HN2:=Lib.hid hn2
   have HNM:=Lib.hid hnm
   have HSN:=Lib.hid hsn
   have HS0:=Lib.hid hS0
   have HS1:=Lib.hid hS1
   clear hS0 hS1 hn2 hnm hsn
   go_wp2_with fail
   go_loopw [16] (fun i wr=>∃k:Nat,k≤M∧i = .int .i64 k∧Below w13.heap.size w13 wr) (fun i _=>M - (intOf i).toNat)
   case atStart=>exact ⟨0,Nat.zero_le _,rfl,Below.refl _ _⟩
   case round =>
    obtain ⟨k,hk,rfl,hb⟩:=hrel
    have HBr:=Lib.hid hb
    have hM36:=HTS.out
    have HX0r:=Lib.hid (HX0.out.tr hb)
    have HX1r:=Lib.hid (HX1.out.tr hb)
    have HR0r:=Lib.hid (BoardRd.below HR0.out hb)
    have HR1r:=Lib.hid (BoardRd.below HR1.out hb)
    have HTr:=Lib.hid (HT.out.below hb)
    have HPr:=Lib.hid (HP.out.below hb)
    have HS0r:=Lib.hid (HS0.out.below hb)
    have HS1r:=Lib.hid (HS1.out.below hb)
    have HSr:=Lib.hid (HS.out.below hb)
    clear hb
    obtain ⟨x0,x1,x2,x3,x4,x5,x6,x7,x8,x9,x10,x11⟩:=HX0r.out.cells
    obtain ⟨y0,y1,y2,y3,y4,y5,y6,y7,y8,y9,y10,y11⟩:=HX1r.out.cells
    by_cases hlt:k<M
    ·have hdk:decide ((k:Int)<(M:Int))=true:=by simp;omega
     go_wp2_with fail
     refine (has_any TA m tc ts (k:Int) _ HTr.out (by omega)).mono ?_
     rintro e w14 ⟨he,rfl⟩
     have hn2:=HN2.out
     have hm2:=HNM.out
     have hsn:=HSN.out
     obtain ⟨j2,hj2⟩:∃j:Nat,j=2 * k:=⟨_,rfl⟩
     have hl2:=HS0L.out
     have e1:=HXS.out j2 (by omega)
     have e2:=HXS.out (j2+1) (by omega)
     rw [show j2 / 2=k by omega] at e1
     rw [show (j2+1) / 2=k by omega] at e2
     obtain ⟨xb,xo,rfl,hxb,hxc⟩:=HS1r.out.2 (by omega)
     have hx2:=hxc j2 (by omega)
     have hx3:=hxc (j2+1) (by omega)
     have a2:IntKind.i64.wrap (2 * (k:Int))=(j2:Int):=(IntWalk.i64_in _ (by omega)).trans (by omega)
     have a3:IntKind.i64.wrap ((j2:Int)+1)=((j2+1:Nat):Int):=(IntWalk.i64_in _ (by omega)).trans (by omega)
     have l0:=heap_lt0 HX0r.out
     have l3:=heap_lt0 HX1r.out
     have q3:j2<m2:=by omega
     have q4:j2+1<m2:=by omega
     by_cases hm:(k:Int)∈ts
     ·rw [decide_eq_true hm] at he
      subst he
      rw [e1,if_pos hm] at hx2
      rw [e2,if_pos hm] at hx3
      obtain ⟨sb,so,rfl,hsb,hsc⟩:=HSr.out.2 (by omega)
      have hs2:=hsc j2 (by omega)
      have hs3:=hsc (j2+1) (by omega)
      generalize us[j2]?.getD 0=u2 at *
      generalize us[j2+1]?.getD 0=u3 at *
      have q1:j2<sn:=by omega
      have q2:j2+1<sn:=by omega
      have HJ:=Lib.hid hj2
      clear hsc hxc hn2 hm2 hsn hl2 hj2 e1 e2 hm
      go_wp2_with fail
      have hsub:=sub_ne wr
      have hsc:=sub_cell wr
      refine wp_region_below wr (by kernel_rfl) (by kernel_rfl) (Below.refl _ _) ?_
      repeat (go_big_quiet_step (fail))
      refine wpQuiet_nil ?_
      rintro _ ⟨⟨w4,hD⟩,rfl⟩
      clear hsub hsc
      have HB4:=Lib.hid (below_tr HBr.out hD)
      clear hD x0 x1 x2 x3 x4 x5 x6 x7 x8 x9 x10 x11 y0 y1 y2 y3 y4 y5 y6 y7 y8 y9 y10 y11 hx2 hx3 hs2 hs3
      go_wp2_with fail
      go_roundw
      case rel=>exact ⟨k+1,by omega,by go_num,HB4.out⟩
      case measure=>simp [intOf];omega
     ·rw [decide_eq_false hm] at he
      subst he
      rw [e1,if_neg hm] at hx2
      rw [e2,if_neg hm] at hx3
      obtain ⟨sb,so,rfl,hsb,hsc⟩:=HS0r.out.2 (by omega)
      have hs2:=hsc j2 (by omega)
      have hs3:=hsc (j2+1) (by omega)
      generalize b.state[j2]?.getD 0=u2 at *
      generalize b.state[j2+1]?.getD 0=u3 at *
      have q1:j2<n2:=by omega
      have q2:j2+1<n2:=by omega
      have HJ:=Lib.hid hj2
      clear hsc hxc hn2 hm2 hsn hl2 hj2 e1 e2 hm
      go_wp2_with fail
      have hsub:=sub_ne wr
      have hsc:=sub_cell wr
      refine wp_region_below wr (by kernel_rfl) (by kernel_rfl) (Below.refl _ _) ?_
      repeat (go_big_quiet_step (fail))
      refine wpQuiet_nil ?_
      rintro _ ⟨⟨w4,hD⟩,rfl⟩
      clear hsub hsc
      have HB4:=Lib.hid (below_tr HBr.out hD)
      clear hD x0 x1 x2 x3 x4 x5 x6 x7 x8 x9 x10 x11 y0 y1 y2 y3 y4 y5 y6 y7 y8 y9 y10 y11 hx2 hx3 hs2 hs3
      go_wp2_with fail
      go_roundw
      case rel=>exact ⟨k+1,by omega,by go_num,HB4.out⟩
      case measure=>simp [intOf];omega
    ·have hkM:k=M:=by omega
     have hdk:decide ((k:Int)<(M:Int))=false:=by simp;omega
     have hR1:=HR1r.out.state.1
     clear hkM
     go_wp2_with fail
     clear x0 x1 x2 x3 x4 x5 x6 x7 x8 x9 x10 x11 y0 y1 y2 y3 y4 y5 y6 y7 y8 y9 y10 y11
     obtain ⟨q1,q2,q3⟩:=HXB.out
     refine (stepBoard_any X ⟨B1,m1,k1,B2,m2,k2,B3,m3,k3⟩ PA M pc ps _ HR1r.out HPr.out (by omega) (by show m2≤16777216;have h1:X.state.length=m2:=hR1;omega) (by omega) (by have:=HTS.out;omega)).mono ?_
     rintro e w15 ⟨R5,NA,nn,nc,rfl,md,f5,o5,_,b5⟩
     have hb6:Below w15.heap.size w15 (w15.alloc (.cells (bdArr (spB X ps) R5) 31)):=below_new (Below.refl _ _) _
     have hbb6:=below_tr b5 hb6
     have HON:=Lib.hid (o5.ints.below hb6)
     have hnn:=o5.ints.1
     rw [HXO.out.2] at hnn
     have hXL:=HXL.out
     have hR0L:=HS0L.out
     have hR1b:X.state.length=m2:=hR1
     replace HX0r:=Lib.hid (HX0r.out.tr hbb6)
     replace HX1r:=Lib.hid (HX1r.out.tr hbb6)
     replace HR0r:=Lib.hid (BoardRd.below HR0r.out hbb6)
     replace HPr:=Lib.hid (HPr.out.below hbb6)
     replace HS1r:=Lib.hid (HS1r.out.below hbb6)
     replace HBr:=Lib.hid (below_tr HBr.out hbb6)
     have HNNN:=Lib.hid hnn
     clear q1 q2 q3 f5 o5 b5 hb6 hbb6 hnn
     obtain ⟨x0,x1,x2,x3,x4,x5,x6,x7,x8,x9,x10,x11⟩:=HX0r.out.cells
     obtain ⟨y0,y1,y2,y3,y4,y5,y6,y7,y8,y9,y10,y11⟩:=HX1r.out.cells
     go_wp2_with fail
     clear x0 x1 x2 x3 x4 x5 x6 x7 x8 x9 x10 x11 y0 y1 y2 y3 y4 y5 y6 y7 y8 y9 y10 y11
     generalize hW6:(w15.alloc (.cells (bdArr (spB X ps) R5) 31))=w16 at *
     clear hW6
     refine (semuStep_any b.dev A1 n1 c1 b.frames B2 m2 k2 X.state PA M pc ps _ HR0r.out.frames HS1r.out HPr.out hz1 (by have:=HTS.out;omega) (by have:=HTS.out;omega)).mono ?_
     rintro e w17 ⟨E1,en1,ec1,E2,en2,ec2,rfl,_,oO,_,b7⟩
     replace HON:=Lib.hid (HON.out.below b7)
     have HOO:=Lib.hid oO.ints
     replace HBr:=Lib.hid (below_tr HBr.out b7)
     clear oO b7
     have HXO2:Hid (decide (spN X ps=esO b.dev b.frames X.state ps)=true):=decide_eq_true HXO.out.1
     go_wp2_with fail
     refine (sameInts_any NA E2 nn en2 nc ec2 (spN X ps) (esO b.dev b.frames X.state ps) _ HON.out HOO.out (by have:=HTS.out;have:=HNNN.out;omega)).mono ?_
     rintro e w18 ⟨he,b8⟩
     rw [HXO2.out] at he
     subst he
     replace HBr:=Lib.hid (below_tr HBr.out b8)
     clear b8
     have hnn:=HNNN.out
     subst hnn
     go_wp2_with fail
     go_ret
     exact ⟨rfl,below_tr HW.out HBr.out⟩
  ·have hq:(b.phase != 1)=true:=by simp;exact hp
   have hq2:(b.phase==1)=false:=by simp;exact hp
   have HCO:=Lib.hid (coO_off hp 0)
   clear hp
   obtain ⟨x0,x1,x2,x3,x4,x5,x6,x7,x8,x9,x10,x11⟩:=HX0.out.cells
   go_wp2_with fail
   generalize hW2:(w1.alloc (.cells (bdArr b s) 31))=w2 at *
   generalize hg0:w1.heap.size=g0 at *
   clear hW2 hg0 hszA x0 x1 x2 x3 x4 x5 x6 x7 x8 x9 x10 x11
   refine (commitRegion_any b s 0 _ HR0.out hz1 hz2 hz3).mono ?_
   rintro e w5 ⟨R,he,f1,b1⟩
   rw [HCO.out.1,HCO.out.2] at he
   rw [HCO.out.1] at f1
   subst he
   have hs1:=b1.size
   have hb1:Below w5.heap.size w5 (w5.alloc (.cells (bdArr (b) R) 31)):=below_new (Below.refl _ _) _
   have hbb1:=below_tr b1 hb1
   have HX1:Hid (BkAt (w5.alloc (.cells (bdArr (b) R) 31)) w5.heap.size (b) R):=heap_new _ _
   have HR1:=Lib.hid (BoardRd.below f1.rd hb1)
   have hgb1:w5.heap.size<(w5.alloc (.cells (bdArr (b) R) 31)).heap.size:=by simp
   replace HW:=Lib.hid (below_tr HW.out hbb1)
   replace HP:=Lib.hid (HP.out.below hbb1)
   replace HX0:=Lib.hid (HX0.out.tr hbb1)
   replace HR0:=Lib.hid (BoardRd.below HR0.out hbb1)
   obtain ⟨x0,x1,x2,x3,x4,x5,x6,x7,x8,x9,x10,x11⟩:=HX0.out.cells
   go_wp2_with fail
   generalize hW1:(w5.alloc (.cells (bdArr (b) R) 31))=w6 at *
   generalize hg1:w5.heap.size=g1 at *
   clear hW1 hg1 hb1 hbb1 b1 f1 hs1
   clear x0 x1 x2 x3 x4 x5 x6 x7 x8 x9 x10 x11
   refine (boardOk_any b s _ HR0.out hz1 hz2 hz3).mono ?_
   rintro e w7 ⟨he,b7⟩
   rw [HGD.out.bk] at he
   subst he
   have HB7:=Lib.hid b7
   clear b7
   go_wp2_with fail
   go_ret
   exact ⟨rfl,below_tr HW.out HB7.out⟩
 ·have d:decide ((n:Int)>1048576)=true:=by simp;omega
  go_enter Tryz.func7,Tryz.ntmps7
  go_wp2_with (go_at_call 9;refine (big_any _ _ _ _).mono ?_;rintro e w' ⟨rfl,rfl⟩)
  go_ret
  exact ⟨rfl,Below.refl _ _⟩
end Go.Proofs.YtbnfdhidgdfbeaaGreat
