/- FnRollback, the walk (printed by mkwb.py). -/
import Derived.Test.YtbnfdhidgdfbeaaGreatAbr
import Derived.Test.YtbnfdhidgdfbeaaGreatDrwBd
import Derived.Test.YtbnfdhidgdfbeaaGreatRbPure
import Derived.Test.YtbnfdhidgdfbeaaGreatRow2W
import Derived.Test.YtbnfdhidgdfbeaaGreatRt3
import Derived.Test.YtbnfdhidgdfbeaaGreatSamB
import Derived.Test.YtbnfdhidgdfbeaaGreatSp
namespace Go.Proofs.YtbnfdhidgdfbeaaGreat
set_option maxRecDepth 100000
open Go.RowKit
attribute [local go_sem ↓] Go.wp_at_zero Go.wp_at_succ

set_option maxHeartbeats 8000000 in
theorem law_rollback (A:Option Addr) (n c:Nat) (bs:List Int) (w:World) (h:Bytes w w.heap.size A n bs) (_hm:n≤maxLen) :
  Calls Tryz.prog 4 #[.slice A n c] w fun e w'=>e = .returned (.bool true)∧Below w.heap.size w w':=by
 by_cases g:n≤1048576
 ·have d:decide ((n:Int)>1048576)=false:=by simp;omega
  have HB:=Lib.hid h
  clear h
  go_enter Tryz.func4,Tryz.ntmps4
  go_wp2_with (go_at_call 9;refine (big_any _ _ _ _).mono ?_;rintro e w' ⟨rfl,rfl⟩)
  refine (drawBoard_any A n c bs _ HB.out (by omega)).mono ?_
  rintro e w1 ⟨b,s,ps,PA,pc,rfl,hgood,hps,hrd,hpi,b1⟩
  have hb2:Below w1.heap.size w1 (w1.alloc (.cells (bdArr b s) 31)):=below_new (Below.refl _ _) _
  have HX0:Hid (BkAt (w1.alloc (.cells (bdArr b s) 31)) w1.heap.size b s):=heap_new _ _
  have HW:=Lib.hid (below_tr b1 hb2)
  have HR0:=Lib.hid (BoardRd.below hrd hb2)
  have HP:=Lib.hid (hpi.below hb2)
  have HGD:=Lib.hid hgood
  have HPS:=Lib.hid hps
  have hts:=(tiles_eq (framesOk_iff (bk_parts hgood.bk).1).1).2
  have HTS:Hid (tiles b.dev≤36):=hts.2
  obtain ⟨z1,z2,z3⟩:=bk_small hgood.bk
  have hz1:size2 b.frames≤1099511627776:=by omega
  have hz3:size2 b.saved≤1099511627776:=by omega
  have hst:=hrd.state.1
  have hz2:s.n2≤16777216:=by omega
  have hszA:(w1.alloc (.cells (bdArr b s) 31)).heap.size=w1.heap.size+1:=by simp
  have hgb:w1.heap.size<(w1.alloc (.cells (bdArr b s) 31)).heap.size:=by omega
  clear b1 hb2 hrd hpi hgood hps z1 z2 z3 hst hts
  obtain ⟨x0,x1,x2,x3,x4,x5,x6,x7,x8,x9,x10,x11⟩:=HX0.out.cells
  go_wp2_with fail
  generalize hW2:(w1.alloc (.cells (bdArr b s) 31))=w2 at *
  generalize hg0:w1.heap.size=g0 at *
  clear hW2 hg0 hszA x0 x1 x2 x3 x4 x5 x6 x7 x8 x9 x10 x11
  by_cases hp:b.phase=1
  ·have HPH:=Lib.hid hp
   have HAO:=Lib.hid (abO_good HGD.out hp)
   have HAB:=Lib.hid (abB_yes HGD.out hp)
   have HRF:=Lib.hid (rb_frames HGD.out hp)
   have hq:(b.phase != 1)=false:=by rw [hp];rfl
   have hq2:(b.phase==1)=true:=by rw [hp];rfl
   clear hp
   refine (abortRegion_any b s _ HR0.out hz1 hz2 hz3).mono ?_
   rintro e w3 ⟨R,he,f1,b1⟩
   rw [HAO.out,HAB.out] at he
   rw [HAB.out] at f1
   subst he
   have HXS:Hid ((rbB b).state=b.state):=by show _=_;rfl
   have HXP:Hid ((rbB b).phase=0):=by show _=_;rfl
   generalize rbB b=X at *
   have hs1:=b1.size
   have hb1:Below w3.heap.size w3 (w3.alloc (.cells (bdArr (X) R) 31)):=below_new (Below.refl _ _) _
   have hbb1:=below_tr b1 hb1
   have HX1:Hid (BkAt (w3.alloc (.cells (bdArr (X) R) 31)) w3.heap.size (X) R):=heap_new _ _
   have HR1:=Lib.hid (BoardRd.below f1.rd hb1)
   have hgb1:w3.heap.size<(w3.alloc (.cells (bdArr (X) R) 31)).heap.size:=by simp
   replace HW:=Lib.hid (below_tr HW.out hbb1)
   replace HP:=Lib.hid (HP.out.below hbb1)
   replace HX0:=Lib.hid (HX0.out.tr hbb1)
   replace HR0:=Lib.hid (BoardRd.below HR0.out hbb1)
   obtain ⟨x0,x1,x2,x3,x4,x5,x6,x7,x8,x9,x10,x11⟩:=HX0.out.cells
   go_wp2_with fail
   generalize hW1:(w3.alloc (.cells (bdArr (X) R) 31))=w4 at *
   generalize hg1:w3.heap.size=g1 at *
   clear hW1 hg1 hb1 hbb1 b1 f1 hs1
   clear x0 x1 x2 x3 x4 x5 x6 x7 x8 x9 x10 x11
   refine (stepBoard_any b s PA (tiles b.dev) pc ps _ HR0.out HP.out hz1 hz2 hz3 (by have:=HTS.out;omega)).mono ?_
   rintro e w5 ⟨R2,NA,nn,nc,rfl,md,f2,o2,_,b2⟩
   have HGS:=Lib.hid (good_sp HGD.out ps)
   have HSP:Hid ((spB b ps).phase=1):=by show _=_;rw [sp_phase];exact HPH.out
   have HSF:Hid ((spB b ps).saved=b.saved):=sp_saved b ps
   have HSL:Hid ((spB b ps).state.length=b.state.length):=sp_len b ps
   have HSS:=Lib.hid (fun (i:Nat) hi hm=>sp_state (b:=b) HPH.out ps (i:=i) hi hm)
   generalize spB b ps=S at *
   have hs2:=b2.size
   have hb2:Below w5.heap.size w5 (w5.alloc (.cells (bdArr (S) R2) 31)):=below_new (Below.refl _ _) _
   have hbb2:=below_tr b2 hb2
   have HX2:Hid (BkAt (w5.alloc (.cells (bdArr (S) R2) 31)) w5.heap.size (S) R2):=heap_new _ _
   have HR2:=Lib.hid (BoardRd.below f2.rd hb2)
   have hgb2:w5.heap.size<(w5.alloc (.cells (bdArr (S) R2) 31)).heap.size:=by simp
   replace HW:=Lib.hid (below_tr HW.out hbb2)
   replace HP:=Lib.hid (HP.out.below hbb2)
   replace HX0:=Lib.hid (HX0.out.tr hbb2)
   replace HX1:=Lib.hid (HX1.out.tr hbb2)
   replace HR0:=Lib.hid (BoardRd.below HR0.out hbb2)
   replace HR1:=Lib.hid (BoardRd.below HR1.out hbb2)
   obtain ⟨x0,x1,x2,x3,x4,x5,x6,x7,x8,x9,x10,x11⟩:=HX0.out.cells
   go_wp2_with fail
   generalize hW2:(w5.alloc (.cells (bdArr (S) R2) 31))=w6 at *
   generalize hg2:w5.heap.size=g2 at *
   clear hW2 hg2 hb2 hbb2 b2 f2 hs2
   clear x0 x1 x2 x3 x4 x5 x6 x7 x8 x9 x10 x11
   obtain ⟨z1,z2,z3⟩:=bk_small HGS.out.bk
   have hst2:=HR2.out.state.1
   refine (abortRegion_any S R2 _ HR2.out (by omega) (by omega) (by omega)).mono ?_
   rintro e w7 ⟨R3,he,f3,b3⟩
   rw [abO_good HGS.out HSP.out,abB_yes HGS.out HSP.out] at he
   rw [abB_yes HGS.out HSP.out] at f3
   subst he
   have HYF:=Lib.hid ((rb_frames HGS.out HSP.out).trans HSF.out)
   have HYS:Hid ((rbB S).state=S.state):=by show _=_;rfl
   generalize rbB S=Y at *
   clear z1 z2 z3
   have hs3:=b3.size
   have hb3:Below w7.heap.size w7 (w7.alloc (.cells (bdArr (Y) R3) 31)):=below_new (Below.refl _ _) _
   have hbb3:=below_tr b3 hb3
   have HX3:Hid (BkAt (w7.alloc (.cells (bdArr (Y) R3) 31)) w7.heap.size (Y) R3):=heap_new _ _
   have HR3:=Lib.hid (BoardRd.below f3.rd hb3)
   have hgb3:w7.heap.size<(w7.alloc (.cells (bdArr (Y) R3) 31)).heap.size:=by simp
   replace HW:=Lib.hid (below_tr HW.out hbb3)
   replace HP:=Lib.hid (HP.out.below hbb3)
   replace HX0:=Lib.hid (HX0.out.tr hbb3)
   replace HX1:=Lib.hid (HX1.out.tr hbb3)
   replace HR0:=Lib.hid (BoardRd.below HR0.out hbb3)
   replace HR1:=Lib.hid (BoardRd.below HR1.out hbb3)
   obtain ⟨x0,x1,x2,x3,x4,x5,x6,x7,x8,x9,x10,x11⟩:=HX0.out.cells
   obtain ⟨y0,y1,y2,y3,y4,y5,y6,y7,y8,y9,y10,y11⟩:=HX1.out.cells
   obtain ⟨v0,v1,v2,v3,v4,v5,v6,v7,v8,v9,v10,v11⟩:=HX3.out.cells
   go_wp2_with fail
   generalize hW3:(w7.alloc (.cells (bdArr (Y) R3) 31))=w8 at *
   generalize hg3:w7.heap.size=g3 at *
   clear hW3 hg3 hb3 hbb3 b3 f3 hs3
   clear x0 x1 x2 x3 x4 x5 x6 x7 x8 x9 x10 x11 y0 y1 y2 y3 y4 y5 y6 y7 y8 y9 y10 y11 v0 v1 v2 v3 v4 v5 v6 v7 v8 v9 v10 v11
   have HRF2:Hid (decide (X.frames=b.saved)=true):=decide_eq_true HRF.out
   have HYF2:Hid (decide (Y.frames=b.saved)=true):=decide_eq_true HYF.out
   refine (sameRows_any R.A1 s.A3 R.n1 s.n3 R.c1 s.c3 X.frames b.saved _ HR1.out.frames HR0.out.saved (by rw [HRF.out];exact hz3)).mono ?_
   rintro e w9 ⟨he,b9⟩
   rw [HRF2.out] at he
   subst he
   replace HW:=Lib.hid (below_tr HW.out b9)
   replace HP:=Lib.hid (HP.out.below b9)
   replace HX0:=Lib.hid (HX0.out.tr b9)
   replace HX1:=Lib.hid (HX1.out.tr b9)
   replace HX3:=Lib.hid (HX3.out.tr b9)
   replace HR0:=Lib.hid (BoardRd.below HR0.out b9)
   replace HR1:=Lib.hid (BoardRd.below HR1.out b9)
   replace HR3:=Lib.hid (BoardRd.below HR3.out b9)
   clear b9
   obtain ⟨x0,x1,x2,x3,x4,x5,x6,x7,x8,x9,x10,x11⟩:=HX0.out.cells
   obtain ⟨y0,y1,y2,y3,y4,y5,y6,y7,y8,y9,y10,y11⟩:=HX1.out.cells
   obtain ⟨v0,v1,v2,v3,v4,v5,v6,v7,v8,v9,v10,v11⟩:=HX3.out.cells
   go_wp2_with fail
   clear x0 x1 x2 x3 x4 x5 x6 x7 x8 x9 x10 x11 y0 y1 y2 y3 y4 y5 y6 y7 y8 y9 y10 y11 v0 v1 v2 v3 v4 v5 v6 v7 v8 v9 v10 v11
   refine (sameRows_any R3.A1 s.A3 R3.n1 s.n3 R3.c1 s.c3 Y.frames b.saved _ HR3.out.frames HR0.out.saved (by rw [HYF.out];exact hz3)).mono ?_
   rintro e w10 ⟨he,b10⟩
   rw [HYF2.out] at he
   subst he
   have hph1:(X.phase != 0)=false:=by rw [HXP.out];rfl
   have hph2:(X.phase==0)=true:=by rw [HXP.out];rfl
   have hnn:R3.n2=s.n2:=by rw [←HR3.out.state.1,←HR0.out.state.1,HYS.out,HSL.out]
   have hn1:((R3.n2:Int) != (s.n2:Int))=false:=by rw [hnn];simp
   have hn2:((R3.n2:Int)==(s.n2:Int))=true:=by rw [hnn];simp
   have HNN:=Lib.hid hnn
   clear hnn
   replace HW:=Lib.hid (below_tr HW.out b10)
   replace HP:=Lib.hid (HP.out.below b10)
   replace HX0:=Lib.hid (HX0.out.tr b10)
   replace HX1:=Lib.hid (HX1.out.tr b10)
   replace HX3:=Lib.hid (HX3.out.tr b10)
   replace HR0:=Lib.hid (BoardRd.below HR0.out b10)
   replace HR1:=Lib.hid (BoardRd.below HR1.out b10)
   replace HR3:=Lib.hid (BoardRd.below HR3.out b10)
   clear b10
   obtain ⟨x0,x1,x2,x3,x4,x5,x6,x7,x8,x9,x10,x11⟩:=HX0.out.cells
   obtain ⟨y0,y1,y2,y3,y4,y5,y6,y7,y8,y9,y10,y11⟩:=HX1.out.cells
   obtain ⟨v0,v1,v2,v3,v4,v5,v6,v7,v8,v9,v10,v11⟩:=HX3.out.cells
   go_wp2_with fail
   clear x0 x1 x2 x3 x4 x5 x6 x7 x8 x9 x10 x11 y0 y1 y2 y3 y4 y5 y6 y7 y8 y9 y10 y11 v0 v1 v2 v3 v4 v5 v6 v7 v8 v9 v10 v11
   clear hph1 hph2 hn1 hn2
   refine (sregionTiles_any b.dev b.reg _).mono ?_
   rintro e w11 ⟨TA,m,tc,rfl,oT,b11⟩
   have HT:=Lib.hid oT.ints
   have HTL:=Lib.hid oT.ints.1
   have hml:=regTiles_le b.dev b.reg
   rw [HTL.out] at hml
   clear oT
   replace HW:=Lib.hid (below_tr HW.out b11)
   replace HP:=Lib.hid (HP.out.below b11)
   replace HX0:=Lib.hid (HX0.out.tr b11)
   replace HX1:=Lib.hid (HX1.out.tr b11)
   replace HX3:=Lib.hid (HX3.out.tr b11)
   replace HR0:=Lib.hid (BoardRd.below HR0.out b11)
   replace HR1:=Lib.hid (BoardRd.below HR1.out b11)
   replace HR3:=Lib.hid (BoardRd.below HR3.out b11)
   clear b11
   have HTI:=Lib.hid (fun (j:Nat) hj=>regTiles_in (d:=b.dev) (r:=b.reg) (j:=j) hj)
   have HS0L:Hid (b.state.length=2 * tiles b.dev):=stOk_len (bk_parts HGD.out.bk).2.1
   have HYB:Hid (∀(i k:Nat),k<m→i<b.state.length→((i / 2:Nat):Int)=(regTiles b.dev b.reg)[k]?.getD 0→Y.state[i]?.getD 0=b.state[i]?.getD 0):=fun i k hk hi he=>by
    rw [HYS.out]
    refine HSS.out i hi ?_
    rw [he,getD_some_eq (by rw [HTL.out];exact hk)]
    exact List.getElem_mem _
   generalize regTiles b.dev b.reg=ts at *
   generalize tiles b.dev=M at *
   have hS0:Ints w11 s.A2 s.n2 b.state:=HR0.out.state
   have hS3:Ints w11 R3.A2 R3.n2 Y.state:=HR3.out.state
   have hX0:=HX0.out
   have hX3:=HX3.out
   obtain ⟨A1,n1,c1,A2,n2,c2,A3,n3,c3⟩:=s
   obtain ⟨B1,m1,k1,B2,m2,k2,B3,m3,k3⟩:=R3
   replace hS0:Ints w11 A2 n2 b.state:=hS0
   replace hS3:Ints w11 B2 m2 Y.state:=hS3
   have HS0:=Lib.hid hS0
   have HS3:=Lib.hid hS3
   have hn2:=hS0.1
   have hm2:=hS3.1
   rw [HS0L.out] at hn2
   have hnm:m2=n2:=HNN.out
   have HN2:=Lib.hid hn2
   have HNM:=Lib.hid hnm
   clear hS0 hS3 hX0 hX3 hm2 hnm hn2
   go_wp2_with fail
   go_loopw [12] (fun i wr=>∃k:Nat,k≤m∧i = .int .i64 k∧Below w11.heap.size w11 wr) (fun i _=>m - (intOf i).toNat)
   case atStart=>exact ⟨0,Nat.zero_le _,rfl,Below.refl _ _⟩
   case round =>
    obtain ⟨k,hk,rfl,hb⟩:=hrel
    have HBr:=Lib.hid hb
    have HX0r:=Lib.hid (HX0.out.tr hb)
    have HX1r:=Lib.hid (HX1.out.tr hb)
    have HR1r:=Lib.hid (BoardRd.below HR1.out hb)
    have HX3r:=Lib.hid (HX3.out.tr hb)
    have HTr:=Lib.hid (HT.out.below hb)
    have HS0r:=Lib.hid (HS0.out.below hb)
    have HS3r:=Lib.hid (HS3.out.below hb)
    clear hb
    by_cases hlt:k<m
    ·have hdk:decide ((k:Int)<(m:Int))=true:=by simp;omega
     obtain ⟨tb,to_,rfl,htb,htc⟩:=HTr.out.2 (by omega)
     have htk:=htc k hlt
     obtain ⟨t0,t1⟩:=HTI.out k (by rw [HTL.out];exact hlt)
     have HYk:=Lib.hid (fun i=>HYB.out i k hlt)
     generalize ts[k]?.getD 0=t at *
     obtain ⟨tq,rfl⟩:∃q:Nat,t=q:=⟨t.toNat,by omega⟩
     have hn2:=HN2.out
     have hm2:=HNM.out
     obtain ⟨sb,so,rfl,hsb,hsc⟩:=HS0r.out.2 (by omega)
     obtain ⟨yb,yo,rfl,hyb,hyc⟩:=HS3r.out.2 (by omega)
     obtain ⟨j2,hj2⟩:∃j:Nat,j=2 * tq:=⟨_,rfl⟩
     have hs2:=hsc j2 (by omega)
     have hs3:=hsc (j2+1) (by omega)
     have hy2:=hyc j2 (by omega)
     have hy3:=hyc (j2+1) (by omega)
     have hl2:=HS0L.out
     rw [HYk.out j2 (by omega) (by omega)] at hy2
     rw [HYk.out (j2+1) (by omega) (by omega)] at hy3
     generalize b.state[j2]?.getD 0=u2 at *
     generalize b.state[j2+1]?.getD 0=u3 at *
     have a2:IntKind.i64.wrap (2 * (tq:Int))=(j2:Int):=(IntWalk.i64_in _ (by omega)).trans (by omega)
     have a3:IntKind.i64.wrap ((j2:Int)+1)=((j2+1:Nat):Int):=(IntWalk.i64_in _ (by omega)).trans (by omega)
     have q1:j2<n2:=by omega
     have q2:j2+1<n2:=by omega
     have q3:j2<m2:=by omega
     have q4:j2+1<m2:=by omega
     have HJ:=Lib.hid hj2
     clear hsc hyc htc hn2 hm2 hl2 hj2
     obtain ⟨x0,x1,x2,x3,x4,x5,x6,x7,x8,x9,x10,x11⟩:=HX0r.out.cells
     obtain ⟨v0,v1,v2,v3,v4,v5,v6,v7,v8,v9,v10,v11⟩:=HX3r.out.cells
     have l0:=heap_lt0 HX0r.out
     have l3:=heap_lt0 HX3r.out
     go_wp2_with fail
     have hsub:=sub_ne wr
     have hsc:=sub_cell wr
     refine wp_region_below wr (by kernel_rfl) (by kernel_rfl) (Below.refl _ _) ?_
     repeat (go_big_quiet_step (fail))
     refine wpQuiet_nil ?_
     rintro _ ⟨⟨w4,hD⟩,rfl⟩
     clear hsub hsc
     have HB4:=Lib.hid (below_tr HBr.out hD)
     clear hD x0 x1 x2 x3 x4 x5 x6 x7 x8 x9 x10 x11 v0 v1 v2 v3 v4 v5 v6 v7 v8 v9 v10 v11 htk hs2 hs3 hy2 hy3
     go_wp2_with fail
     go_roundw
     case rel=>exact ⟨k+1,by omega,by go_num,HB4.out⟩
     case measure=>simp [intOf];omega
    ·have hdk:decide ((k:Int)<(m:Int))=false:=by simp;omega
     obtain ⟨x0,x1,x2,x3,x4,x5,x6,x7,x8,x9,x10,x11⟩:=HX0r.out.cells
     obtain ⟨y0,y1,y2,y3,y4,y5,y6,y7,y8,y9,y10,y11⟩:=HX1r.out.cells
     go_wp2_with fail
     clear x0 x1 x2 x3 x4 x5 x6 x7 x8 x9 x10 x11 y0 y1 y2 y3 y4 y5 y6 y7 y8 y9 y10 y11
     have HXS2:Hid (decide (X.state=b.state)=true):=decide_eq_true HXS.out
     have hR1:=HR1r.out.state.1
     refine (sameInts_any R.A2 A2 R.n2 n2 R.c2 c2 X.state b.state _ HR1r.out.state HS0r.out (by rw [←hR1,HXS.out,HS0L.out];have:=HTS.out;omega)).mono ?_
     rintro e w12 ⟨he,b12⟩
     rw [HXS2.out] at he
     subst he
     have HB12:=Lib.hid (below_tr HBr.out b12)
     clear b12
     go_wp2_with fail
     go_ret
     exact ⟨rfl,below_tr HW.out HB12.out⟩
  ·have hq:(b.phase != 1)=true:=by simp;exact hp
   have hq2:(b.phase==1)=false:=by simp;exact hp
   have HAO:=Lib.hid (abO_no hp)
   have HAB:=Lib.hid (abB_no hp)
   clear hp
   refine (abortRegion_any b s _ HR0.out hz1 hz2 hz3).mono ?_
   rintro e w3 ⟨R,he,f1,b1⟩
   rw [HAO.out,HAB.out] at he
   rw [HAB.out] at f1
   subst he
   have hs1:=b1.size
   have hb1:Below w3.heap.size w3 (w3.alloc (.cells (bdArr (b) R) 31)):=below_new (Below.refl _ _) _
   have hbb1:=below_tr b1 hb1
   have HX1:Hid (BkAt (w3.alloc (.cells (bdArr (b) R) 31)) w3.heap.size (b) R):=heap_new _ _
   have HR1:=Lib.hid (BoardRd.below f1.rd hb1)
   have hgb1:w3.heap.size<(w3.alloc (.cells (bdArr (b) R) 31)).heap.size:=by simp
   replace HW:=Lib.hid (below_tr HW.out hbb1)
   replace HP:=Lib.hid (HP.out.below hbb1)
   replace HX0:=Lib.hid (HX0.out.tr hbb1)
   replace HR0:=Lib.hid (BoardRd.below HR0.out hbb1)
   obtain ⟨x0,x1,x2,x3,x4,x5,x6,x7,x8,x9,x10,x11⟩:=HX0.out.cells
   obtain ⟨y0,y1,y2,y3,y4,y5,y6,y7,y8,y9,y10,y11⟩:=HX1.out.cells
   go_wp2_with fail
   generalize hW1:(w3.alloc (.cells (bdArr (b) R) 31))=w4 at *
   generalize hg1:w3.heap.size=g1 at *
   clear hW1 hg1 hb1 hbb1 b1 f1 hs1
   clear x0 x1 x2 x3 x4 x5 x6 x7 x8 x9 x10 x11 y0 y1 y2 y3 y4 y5 y6 y7 y8 y9 y10 y11
   have hst:=HR0.out.state.1
   refine (sameBoard_same b R s _ HR1.out HR0.out hz1 (by omega) hz3).mono ?_
   rintro e w5 ⟨rfl,b5⟩
   have HB5:=Lib.hid b5
   clear b5 hst
   go_wp2_with fail
   go_ret
   exact ⟨rfl,below_tr HW.out HB5.out⟩
 ·have d:decide ((n:Int)>1048576)=true:=by simp;omega
  go_enter Tryz.func4,Tryz.ntmps4
  go_wp2_with (go_at_call 9;refine (big_any _ _ _ _).mono ?_;rintro e w' ⟨rfl,rfl⟩)
  go_ret
  exact ⟨rfl,Below.refl _ _⟩
end Go.Proofs.YtbnfdhidgdfbeaaGreat
