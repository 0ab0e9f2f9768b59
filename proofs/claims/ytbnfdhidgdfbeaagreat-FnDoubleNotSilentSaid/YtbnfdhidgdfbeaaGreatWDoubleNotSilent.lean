/- FnDoubleNotSilent, the walk (printed by mkwb.py). -/
import Derived.Test.YtbnfdhidgdfbeaaGreatAb
import Derived.Test.YtbnfdhidgdfbeaaGreatCmPure
import Derived.Test.YtbnfdhidgdfbeaaGreatDnPure
import Derived.Test.YtbnfdhidgdfbeaaGreatDrwBd
import Derived.Test.YtbnfdhidgdfbeaaGreatDrwN
import Derived.Test.YtbnfdhidgdfbeaaGreatEsPure
import Derived.Test.YtbnfdhidgdfbeaaGreatRt3
import Derived.Test.YtbnfdhidgdfbeaaGreatSamB
import Derived.Test.YtbnfdhidgdfbeaaGreatSp
import Derived.Test.YtbnfdhidgdfbeaaGreatUp
namespace Go.Proofs.YtbnfdhidgdfbeaaGreat
set_option maxRecDepth 100000
open Go.RowKit
attribute [local go_sem ↓] Go.wp_at_zero Go.wp_at_succ

set_option maxHeartbeats 8000000 in
theorem law_doubleNotSilent (A:Option Addr) (n c:Nat) (bs:List Int) (w:World) (h:Bytes w w.heap.size A n bs) (_hm:n≤maxLen) :
  Calls Tryz.prog 5 #[.slice A n c] w fun e w'=>e = .returned (.bool true)∧Below w.heap.size w w':=by
 by_cases g:n≤1048576
 ·have d:decide ((n:Int)>1048576)=false:=by simp;omega
  have HB:=Lib.hid h
  have HQ:=Lib.hid (fun i=>atN_bd h i)
  have HE:=at_hid A n c bs w h (by omega)
  clear h
  go_enter Tryz.func5,Tryz.ntmps5
  go_wp2_with (go_at_call 9;refine (big_any _ _ _ _).mono ?_;rintro e w' ⟨rfl,rfl⟩)
  refine (drawBoard_any A n c bs _ HB.out (by omega)).mono ?_
  rintro e w1 ⟨b,s,ps,PA,pc,rfl,hgood,hps,hrd,hpi,b1⟩
  have hb2:Below w1.heap.size w1 (w1.alloc (.cells (bdArr b s) 31)):=below_new (Below.refl _ _) _
  have HX0:Hid (BkAt (w1.alloc (.cells (bdArr b s) 31)) w1.heap.size b s):=heap_new _ _
  have HW:=Lib.hid (below_tr b1 hb2)
  have HR0:=Lib.hid (BoardRd.below hrd hb2)
  have HP:=Lib.hid (hpi.below hb2)
  have HGD:=Lib.hid hgood
  have HPS:=Lib.hid hps
  have hts:=(tiles_eq (framesOk_iff (bk_parts hgood.bk).1).1).2
  have HTS:Hid (tiles b.dev≤36):=hts.2
  obtain ⟨z1,z2,z3⟩:=bk_small hgood.bk
  have hz1:size2 b.frames≤1099511627776:=by omega
  have hz3:size2 b.saved≤1099511627776:=by omega
  have hst:=hrd.state.1
  have hz2:s.n2≤16777216:=by omega
  have hszA:(w1.alloc (.cells (bdArr b s) 31)).heap.size=w1.heap.size+1:=by simp
  have hgb:w1.heap.size<(w1.alloc (.cells (bdArr b s) 31)).heap.size:=by omega
  clear b1 hb2 hrd hpi hgood hps z1 z2 z3 hst hts
  obtain ⟨x0,x1,x2,x3,x4,x5,x6,x7,x8,x9,x10,x11⟩:=HX0.out.cells
  go_wp2_with fail
  generalize hW2:(w1.alloc (.cells (bdArr b s) 31))=w2 at *
  generalize hg0:w1.heap.size=g0 at *
  clear hW2 hg0 hszA x0 x1 x2 x3 x4 x5 x6 x7 x8 x9 x10 x11
  have HFR:=Lib.hid ((framesOk_iff (bk_parts HGD.out.bk).1).2)
  have hfw:=fwI_bd (framesOk_iff (bk_parts HGD.out.bk).1).1
  have hM0:=(tiles_eq (framesOk_iff (bk_parts HGD.out.bk).1).1).2
  have HPO:=Lib.hid (pads_ok (framesOk_iff (bk_parts HGD.out.bk).1).1 HPS.out.1 HPS.out.2)
  have HTW0:=Lib.hid (fun (t w i k:Nat) ht hw hi hk hne=>twice HGD.out (t:=t) (w:=w) (i:=i) (k:=k) ht hw hi hk hne)
  have hq0:=HQ.out 0
  have hq1:=HQ.out 1
  have hq2:=HQ.out 2
  have hq3:=HQ.out 3
  have HFL:Hid (b.frames.length=tiles b.dev):=HFR.out.1
  obtain ⟨A1,n1,c1,A2,n2,c2,A3,n3,c3⟩:=s
  have hF0:Rows2 w2 A1 n1 b.frames:=HR0.out.frames
  have hn1:n1=tiles b.dev:=by rw [←hF0.1];exact HFL.out
  subst hn1
  obtain ⟨t,ht⟩:∃t:Nat,(atN bs 0).tmod (tiles b.dev:Int)=(t:Int):=⟨((atN bs 0).tmod (tiles b.dev:Int)).toNat,by have:=Int.tmod_eq_emod_of_nonneg (b:=(tiles b.dev:Int)) hq0.1;have:=Int.emod_nonneg (atN bs 0) (show (tiles b.dev:Int)≠0 by omega);omega⟩
  have htl:t<tiles b.dev:=by have h1:=Int.tmod_eq_emod_of_nonneg (b:=(tiles b.dev:Int)) hq0.1;have h2:=Int.emod_lt_of_pos (atN bs 0) (show (0:Int)<(tiles b.dev:Int) by omega);omega
  obtain ⟨bf,of,rfl,hbf,hrows⟩:=hF0.2 (by omega)
  obtain ⟨RA,m3,rc,hrow,hri⟩:=hrows t htl
  have hm3:(m3:Int)=fwI b.dev:=by
   have h1:=(wordsOk_iff.1 (HFR.out.2 t (by rw [HFL.out];exact htl))).1
   rw [←hri.1];exact h1
  obtain ⟨wq,hw⟩:∃t:Nat,(atN bs 1).tmod (m3:Int)=(t:Int):=⟨((atN bs 1).tmod (m3:Int)).toNat,by have:=Int.tmod_eq_emod_of_nonneg (b:=(m3:Int)) hq1.1;have:=Int.emod_nonneg (atN bs 1) (show (m3:Int)≠0 by omega);omega⟩
  have hwl:wq<m3:=by have h1:=Int.tmod_eq_emod_of_nonneg (b:=(m3:Int)) hq1.1;have h2:=Int.emod_lt_of_pos (atN bs 1) (show (0:Int)<(m3:Int) by omega);omega
  obtain ⟨iq,hi⟩:∃t:Nat,(atN bs 2).tmod 22=(t:Int):=⟨((atN bs 2).tmod 22).toNat,by have:=Int.tmod_eq_emod_of_nonneg (b:=22) hq2.1;omega⟩
  have hil:iq<22:=by have h1:=Int.tmod_eq_emod_of_nonneg (b:=22) hq2.1;omega
  obtain ⟨jq,hj⟩:∃t:Nat,(atN bs 3).tmod 21=(t:Int):=⟨((atN bs 3).tmod 21).toNat,by have:=Int.tmod_eq_emod_of_nonneg (b:=21) hq3.1;omega⟩
  have hjl:jq<21:=by have h1:=Int.tmod_eq_emod_of_nonneg (b:=21) hq3.1;omega
  obtain ⟨kq,hkq⟩:∃k:Nat,k=(iq+1+jq) % 22:=⟨_,rfl⟩
  have hkl:kq<22:=by omega
  have hne:iq≠kq:=by omega
  have a1:IntKind.i64.wrap ((iq:Int)+1)=(iq:Int)+1:=IntWalk.i64_in _ (by omega)
  have a2:IntKind.i64.wrap ((iq:Int)+1+(jq:Int))=(iq:Int)+1+(jq:Int):=IntWalk.i64_in _ (by omega)
  have a3:((iq:Int)+1+(jq:Int)).tmod 22=(kq:Int):=by have h1:=Int.tmod_eq_emod_of_nonneg (a:=(iq:Int)+1+(jq:Int)) (b:=22) (by omega);omega
  have HTW:=Lib.hid (HTW0.out t wq iq kq (by rw [HFL.out];exact htl) (by omega) hil hkl hne)
  have HNE:=Lib.hid hne
  have HKQ:=Lib.hid hkq
  have HM3:=Lib.hid hm3
  have hm0:¬(tiles b.dev:Int)=0:=by omega
  have hm00:¬tiles b.dev=0:=by omega
  have hm1:¬(m3:Int)=0:=by omega
  have hm10:¬m3=0:=by omega
  have HA0:=Lib.hid (fun (x:Sub w2)=>HE.out 0 0 x.v rfl (by omega) (below_tr HW.out x.h))
  clear hne hkq hrows hri hF0 hm3 HTW0 HFR HFL
  generalize hu0:atN bs 0=u0 at *
  generalize hu1:atN bs 1=u1 at *
  generalize hu2:atN bs 2=u2 at *
  generalize hu3:atN bs 3=u3 at *
  clear hu0
  have lb:=heap_lt0 HX0.out
  obtain ⟨x0,x1,x2,x3,x4,x5,x6,x7,x8,x9,x10,x11⟩:=HX0.out.cells
  have hsub:=sub_ne w2
  have hsc:=sub_cell w2
  refine wp_region_below w2 (by kernel_rfl) (by kernel_rfl) (Below.refl _ _) ?_
  repeat (go_big_quiet_step ((go_at_call 22;with_reducible exact calls_sub_same (HA0.out _))))
  refine wpQuiet_nil ?_
  rintro w3 ⟨⟨wq9,hD⟩,hw9⟩
  replace hw9:w3=wq9:=hw9
  subst hw9
  replace hD:Below w2.heap.size w2 w3:=hD
  clear hsub hsc
  replace hrow:=(hD.cell (p:=⟨bf,of+t,none⟩) hbf).trans hrow
  replace hbf:bf<w3.heap.size:=Nat.lt_of_lt_of_le hbf hD.size
  clear x0 x1 x2 x3 x4 x5 x6 x7 x8 x9 x10 x11
  replace HW:=Lib.hid (below_tr HW.out hD)
  replace HP:=Lib.hid (HP.out.below hD)
  replace HX0:=Lib.hid (HX0.out.tr hD)
  replace HR0:=Lib.hid (BoardRd.below HR0.out hD)
  clear hD lb
  have lb:=heap_lt0 HX0.out
  have HA1:=Lib.hid (fun (x:Sub w3)=>HE.out 1 1 x.v rfl (by omega) (below_tr HW.out x.h))
  rw [hu1] at HA1
  obtain ⟨x0,x1,x2,x3,x4,x5,x6,x7,x8,x9,x10,x11⟩:=HX0.out.cells
  go_wp2_with fail
  have hsub:=sub_ne w3
  have hsc:=sub_cell w3
  refine wp_region_below w3 (by kernel_rfl) (by kernel_rfl) (Below.refl _ _) ?_
  repeat (go_big_quiet_step ((go_at_call 22;with_reducible exact calls_sub_same (HA1.out _))))
  refine wpQuiet_nil ?_
  rintro w4 ⟨⟨wq9,hD⟩,hw9⟩
  replace hw9:w4=wq9:=hw9
  subst hw9
  replace hD:Below w3.heap.size w3 w4:=hD
  clear hsub hsc
  replace hrow:=(hD.cell (p:=⟨bf,of+t,none⟩) hbf).trans hrow
  replace hbf:bf<w4.heap.size:=Nat.lt_of_lt_of_le hbf hD.size
  clear x0 x1 x2 x3 x4 x5 x6 x7 x8 x9 x10 x11
  replace HW:=Lib.hid (below_tr HW.out hD)
  replace HP:=Lib.hid (HP.out.below hD)
  replace HX0:=Lib.hid (HX0.out.tr hD)
  replace HR0:=Lib.hid (BoardRd.below HR0.out hD)
  clear hD lb hrow hbf
  have HA2:=HE.out 2 2 w4 rfl (by omega) HW.out
  have HA3:=HE.out 3 3 w4 rfl (by omega) HW.out
  rw [hu2] at HA2
  rw [hu3] at HA3
  have HA2:=Lib.hid HA2
  have HA3:=Lib.hid HA3
  obtain ⟨x0,x1,x2,x3,x4,x5,x6,x7,x8,x9,x10,x11⟩:=HX0.out.cells
  go_wp2_with fail
  refine HA2.out.mono ?_
  rintro e w' ⟨rfl,rfl⟩
  go_wp2_with fail
  refine HA3.out.mono ?_
  rintro e w' ⟨rfl,rfl⟩
  go_wp2_with fail
  clear x0 x1 x2 x3 x4 x5 x6 x7 x8 x9 x10 x11
  clear hu1 hu2 hu3 a1 a2 a3 ht hw hi hj
  refine (upsetBit_any b ⟨some ⟨bf,of,none⟩,tiles b.dev,c1,A2,n2,c2,A3,n3,c3⟩ (t:Int) (wq:Int) (iq:Int) _ HR0.out hz1 hz2 hz3).mono ?_
  rintro e w5 ⟨R,rfl,f1,b1⟩
  generalize upO b t wq iq=o1 at *
  obtain rfl:o1=true:=HTW.out.o1
  generalize upB b t wq iq=X at *
  have hs1:=b1.size
  have hb1:Below w5.heap.size w5 (w5.alloc (.cells (bdArr (X) R) 31)):=below_new (Below.refl _ _) _
  have hbb1:=below_tr b1 hb1
  have HX1:Hid (BkAt (w5.alloc (.cells (bdArr (X) R) 31)) w5.heap.size (X) R):=heap_new _ _
  have HR1:=Lib.hid (BoardRd.below f1.rd hb1)
  have hgb1:w5.heap.size<(w5.alloc (.cells (bdArr (X) R) 31)).heap.size:=by simp
  replace HW:=Lib.hid (below_tr HW.out hbb1)
  replace HP:=Lib.hid (HP.out.below hbb1)
  replace HX0:=Lib.hid (HX0.out.tr hbb1)
  replace HR0:=Lib.hid (BoardRd.below HR0.out hbb1)
  obtain ⟨x0,x1,x2,x3,x4,x5,x6,x7,x8,x9,x10,x11⟩:=HX1.out.cells
  go_wp2_with fail
  generalize hW1:(w5.alloc (.cells (bdArr (X) R) 31))=w6 at *
  generalize hg1:w5.heap.size=g1 at *
  clear hW1 hg1 hb1 hbb1 b1 f1 hs1
  clear x0 x1 x2 x3 x4 x5 x6 x7 x8 x9 x10 x11
  obtain ⟨q1,q2,q3⟩:=bk_small HTW.out.bkX
  have hst:=HR1.out.state.1
  refine (upsetBit_any X R (t:Int) (wq:Int) (kq:Int) _ HR1.out (by omega) (by omega) (by omega)).mono ?_
  rintro e w7 ⟨R2,rfl,f2,b2⟩
  clear q1 q2 q3 hst
  generalize upO X t wq kq=o2 at *
  obtain rfl:o2=true:=HTW.out.o2
  generalize upB X t wq kq=Y at *
  have hs2:=b2.size
  have hb2:Below w7.heap.size w7 (w7.alloc (.cells (bdArr (Y) R2) 31)):=below_new (Below.refl _ _) _
  have hbb2:=below_tr b2 hb2
  have HX2:Hid (BkAt (w7.alloc (.cells (bdArr (Y) R2) 31)) w7.heap.size (Y) R2):=heap_new _ _
  have HR2:=Lib.hid (BoardRd.below f2.rd hb2)
  have hgb2:w7.heap.size<(w7.alloc (.cells (bdArr (Y) R2) 31)).heap.size:=by simp
  replace HW:=Lib.hid (below_tr HW.out hbb2)
  replace HP:=Lib.hid (HP.out.below hbb2)
  obtain ⟨x0,x1,x2,x3,x4,x5,x6,x7,x8,x9,x10,x11⟩:=HX2.out.cells
  go_wp2_with fail
  generalize hW2:(w7.alloc (.cells (bdArr (Y) R2) 31))=w8 at *
  generalize hg2:w7.heap.size=g2 at *
  clear hW2 hg2 hb2 hbb2 b2 f2 hs2
  clear x0 x1 x2 x3 x4 x5 x6 x7 x8 x9 x10 x11
  obtain ⟨q1,q2,q3⟩:=bk_small HTW.out.bkY
  have hst:=HR2.out.state.1
  refine (scrubBoard_any Y R2 _ HR2.out (by omega) (by omega) (by omega)).mono ?_
  rintro e w9 ⟨R3,rfl,f3,b3⟩
  clear q1 q2 q3 hst
  generalize scN Y 1=k1 at *
  generalize scN Y 2=k2 at *
  obtain rfl:k1=0:=HTW.out.c1
  obtain rfl:k2=1:=HTW.out.c2
  generalize scB Y=Z at *
  have hZd:Z.dev=b.dev:=HTW.out.dv
  have HZF:=Lib.hid (sp_failed HTW.out.bkZ HTW.out.ph (ps:=ps) (by rw [hZd];exact HPO.out))
  rw [hZd] at HZF
  have HZD:=Lib.hid hZd
  clear hZd
  have hs3:=b3.size
  have hb3:Below w9.heap.size w9 (w9.alloc (.cells (bdArr (Z) R3) 31)):=below_new (Below.refl _ _) _
  have hbb3:=below_tr b3 hb3
  have HX3:Hid (BkAt (w9.alloc (.cells (bdArr (Z) R3) 31)) w9.heap.size (Z) R3):=heap_new _ _
  have HR3:=Lib.hid (BoardRd.below f3.rd hb3)
  have hgb3:w9.heap.size<(w9.alloc (.cells (bdArr (Z) R3) 31)).heap.size:=by simp
  replace HW:=Lib.hid (below_tr HW.out hbb3)
  replace HP:=Lib.hid (HP.out.below hbb3)
  obtain ⟨x0,x1,x2,x3,x4,x5,x6,x7,x8,x9,x10,x11⟩:=HX3.out.cells
  go_wp2_with fail
  generalize hW3:(w9.alloc (.cells (bdArr (Z) R3) 31))=w10 at *
  generalize hg3:w9.heap.size=g3 at *
  clear hW3 hg3 hb3 hbb3 b3 f3 hs3
  clear x0 x1 x2 x3 x4 x5 x6 x7 x8 x9 x10 x11
  obtain ⟨q1,q2,q3⟩:=bk_small HTW.out.bkZ
  have hst:=HR3.out.state.1
  have hz31:size2 Z.frames≤1099511627776:=by omega
  have hz32:R3.n2≤16777216:=by omega
  have hz33:size2 Z.saved≤1099511627776:=by omega
  refine (stepBoard_any Z R3 PA (tiles b.dev) pc ps _ HR3.out HP.out hz31 hz32 hz33 (by omega)).mono ?_
  rintro e w11 ⟨R4,NA,nn,nc,he,md,f4,o4,_,b4⟩
  rw [HZF.out.1] at he f4
  rw [HZF.out.2] at o4
  subst he
  have hnn:nn=tiles b.dev:=by rw [←o4.ints.1];exact List.length_replicate
  subst hnn
  have HON:=Lib.hid o4.ints
  clear o4
  have hs4:=b4.size
  have hb4:Below w11.heap.size w11 (w11.alloc (.cells (bdArr (Z) R4) 31)):=below_new (Below.refl _ _) _
  have hbb4:=below_tr b4 hb4
  have HX4:Hid (BkAt (w11.alloc (.cells (bdArr (Z) R4) 31)) w11.heap.size (Z) R4):=heap_new _ _
  have HR4:=Lib.hid (BoardRd.below f4.rd hb4)
  have hgb4:w11.heap.size<(w11.alloc (.cells (bdArr (Z) R4) 31)).heap.size:=by simp
  replace HW:=Lib.hid (below_tr HW.out hbb4)
  replace HP:=Lib.hid (HP.out.below hbb4)
  replace HX3:=Lib.hid (HX3.out.tr hbb4)
  replace HR3:=Lib.hid (BoardRd.below HR3.out hbb4)
  replace HON:=Lib.hid (HON.out.below hb4)
  have hph1:(Z.phase==2)=true:=by rw [HTW.out.ph];rfl
  have hph2:(Z.phase != 2)=false:=by rw [HTW.out.ph];rfl
  obtain ⟨i0,hi,hi0,hi1,hi2⟩:=info_parts int_info
  have hmk:=fun W=>run_make_rowN (P:=Tryz.prog) 27 3 i0 _ Tryz.underlying27 hi hi0 .i64 .i64 (tiles b.dev) (tiles b.dev) (Nat.le_refl _) (by rw [hi2];omega) (by omega) W
  rw [hi1,Nat.mul_one,show (Value.int .i64 0).cells=#[Value.int .i64 0] from rfl,arr_made] at hmk
  clear hi hi0 hi1 hi2
  obtain ⟨x0,x1,x2,x3,x4,x5,x6,x7,x8,x9,x10,x11⟩:=HX3.out.cells
  obtain ⟨y0,y1,y2,y3,y4,y5,y6,y7,y8,y9,y10,y11⟩:=HX4.out.cells
  go_wp2_with fail
  have hs5:(w11.alloc (.cells (bdArr Z R4) 31)).heap.size=w11.heap.size+1:=by simp
  generalize hW4:(w11.alloc (.cells (bdArr (Z) R4) 31))=w12 at *
  generalize hg4:w11.heap.size=g4 at *
  clear hW4 hg4 hb4 hbb4 b4 f4 hs4
  clear x0 x1 x2 x3 x4 x5 x6 x7 x8 x9 x10 x11 y0 y1 y2 y3 y4 y5 y6 y7 y8 y9 y10 y11
  clear hmk hph1 hph2
  have hbz:Below w12.heap.size w12 (w12.alloc (.cells (arr (List.replicate (tiles b.dev) 0)) 3)):=below_new (Below.refl _ _) _
  have HZ0:=Lib.hid (ints_made (heap_newAt (w:=w12) (o := .cells (arr (List.replicate (tiles b.dev) 0)) 3) hs5) (by omega))
  replace HON:=Lib.hid (HON.out.below hbz)
  replace HW:=Lib.hid (below_tr HW.out hbz)
  replace HP:=Lib.hid (HP.out.below hbz)
  replace HX3:=Lib.hid (HX3.out.tr hbz)
  replace HX4:=Lib.hid (HX4.out.tr hbz)
  replace HR3:=Lib.hid (BoardRd.below HR3.out hbz)
  replace HR4:=Lib.hid (BoardRd.below HR4.out hbz)
  clear hbz
  generalize hWz:(w12.alloc (.cells (arr (List.replicate (tiles b.dev) 0)) 3))=w13 at *
  clear hWz
  refine (sameInts_any NA (some ⟨g4+1,0,none⟩) (tiles b.dev) (tiles b.dev) nc (tiles b.dev) (List.replicate (tiles b.dev) 0) (List.replicate (tiles b.dev) 0) _ HON.out HZ0.out (by omega)).mono ?_
  rintro e w14 ⟨he,b14⟩
  rw [show decide (List.replicate (tiles b.dev) (0:Int)=List.replicate (tiles b.dev) 0)=true from decide_eq_true rfl] at he
  subst he
  replace HW:=Lib.hid (below_tr HW.out b14)
  replace HP:=Lib.hid (HP.out.below b14)
  replace HX3:=Lib.hid (HX3.out.tr b14)
  replace HX4:=Lib.hid (HX4.out.tr b14)
  replace HR3:=Lib.hid (BoardRd.below HR3.out b14)
  replace HR4:=Lib.hid (BoardRd.below HR4.out b14)
  clear b14
  obtain ⟨x0,x1,x2,x3,x4,x5,x6,x7,x8,x9,x10,x11⟩:=HX3.out.cells
  obtain ⟨y0,y1,y2,y3,y4,y5,y6,y7,y8,y9,y10,y11⟩:=HX4.out.cells
  go_wp2_with fail
  clear x0 x1 x2 x3 x4 x5 x6 x7 x8 x9 x10 x11 y0 y1 y2 y3 y4 y5 y6 y7 y8 y9 y10 y11
  refine (sameBoard_same Z R4 R3 _ HR4.out HR3.out hz31 (by omega) hz33).mono ?_
  rintro e w15 ⟨rfl,b15⟩
  replace HW:=Lib.hid (below_tr HW.out b15)
  replace HP:=Lib.hid (HP.out.below b15)
  replace HX3:=Lib.hid (HX3.out.tr b15)
  replace HR3:=Lib.hid (BoardRd.below HR3.out b15)
  clear b15
  obtain ⟨x0,x1,x2,x3,x4,x5,x6,x7,x8,x9,x10,x11⟩:=HX3.out.cells
  go_wp2_with fail
  clear x0 x1 x2 x3 x4 x5 x6 x7 x8 x9 x10 x11
  refine (boardOk_any Z R3 _ HR3.out hz31 hz32 hz33).mono ?_
  rintro e w16 ⟨he,b16⟩
  rw [HTW.out.bkZ] at he
  subst he
  have HB16:=Lib.hid b16
  clear b16
  go_wp2_with fail
  go_ret
  exact ⟨rfl,below_tr HW.out HB16.out⟩
 ·have d:decide ((n:Int)>1048576)=true:=by simp;omega
  go_enter Tryz.func5,Tryz.ntmps5
  go_wp2_with (go_at_call 9;refine (big_any _ _ _ _).mono ?_;rintro e w' ⟨rfl,rfl⟩)
  go_ret
  exact ⟨rfl,Below.refl _ _⟩
end Go.Proofs.YtbnfdhidgdfbeaaGreat
