/- An instance in a module in the program: valid or not (printed by mksr6.py). Valid modules and designs in the program (printed by mksr7.py). -/
import Derived.Test.YtlinbdkbbhpdpaaGreatSrF5
namespace Go.Proofs.YtlinbdkbbhpdpaaGreat
set_option maxRecDepth 100000
open Go.RowKit

set_option maxHeartbeats 4000000 in
theorem instOk_any (d:List MdT) (DA:Option Addr) (dn dc:Nat) (m:MdT) (SA AA JA MA:Option Addr) (sn sc an ac jn jc mn mc:Nat) (M:Nat) (pa:Int) (po:List Int) (PA:Option Addr) (pn pc:Nat) (w:World) (hd:RdC w w.heap.size (celMd d) (.slice DA dn dc)) (hm:MdRd w m SA AA JA MA sn sc an ac jn jc mn mc) (hp:RdC w w.heap.size (celI po) (.slice PA pn pc)) (hM:M<dn) (_hdn:dn≤4) (hpo:po.length=(portsOf (mdK d M)).length) (hs:sn≤30) :
  Calls Tryz.prog 209 #[.agg #[.slice DA dn dc],.agg #[.slice SA sn sc,.slice AA an ac,.slice JA jn jc,.slice MA mn mc],.agg #[.int .i64 (M:Int),.int .i64 pa,.slice PA pn pc]] w fun e w'=>e = .returned (.bool (tb (InFit d m ⟨(M:Int),pa,po⟩)))∧Below w.heap.size w w':=by
 have HDL:=Lib.hid hd.mdN
 have HD:=Lib.hid hd
 have HM:=Lib.hid hm
 have HL:=Lib.hid hm.lens.1
 have HP:=Lib.hid hp
 have hpl:=hp.ints.1
 have hp30:=portsOf_len (mdK d M)
 clear hd hm hp
 have HB0:=Lib.hid (below_new (below_new (below_new (Below.refl w.heap.size w) (.cells #[.slice DA dn dc] 48)) (.cells #[.slice SA sn sc,.slice AA an ac,.slice JA jn jc,.slice MA mn mc] 108)) (.cells #[.int .i64 (M:Int),.int .i64 pa,.slice PA pn pc] 202))
 have hx1:=heap_al (.cells #[.int .i64 (M:Int),.int .i64 pa,.slice PA pn pc] 202) (heap_al (.cells #[.slice SA sn sc,.slice AA an ac,.slice JA jn jc,.slice MA mn mc] 108) (heap_new w (.cells #[.slice DA dn dc] 48)))
 have hx2:=heap_al (.cells #[.int .i64 (M:Int),.int .i64 pa,.slice PA pn pc] 202) (heap_new (w.alloc (.cells #[.slice DA dn dc] 48)) (.cells #[.slice SA sn sc,.slice AA an ac,.slice JA jn jc,.slice MA mn mc] 108))
 have hx3:=heap_new ((w.alloc (.cells #[.slice DA dn dc] 48)).alloc (.cells #[.slice SA sn sc,.slice AA an ac,.slice JA jn jc,.slice MA mn mc] 108)) (.cells #[.int .i64 (M:Int),.int .i64 pa,.slice PA pn pc] 202)
 simp only [World.size_alloc] at hx2 hx3
 have HX1:=Lib.hid hx1
 have HX2:=Lib.hid hx2
 have HX3:=Lib.hid hx3
 clear hx1 hx2 hx3
 have hE:InFit d m ⟨(M:Int),pa,po⟩↔(0≤pa∧pa≤4)∧∀j,j<(portsOf (mdK d M)).length→PortFit m (mdK d M) po j:=by
  show (_∧∀j,j<(portsOf (mdK d (M:Int).toNat)).length→PortFit m (mdK d (M:Int).toNat) po j)↔_
  rw [Int.toNat_natCast]
 have HE:=Lib.hid hE
 clear hE
 cases h1:inR pa 0 4 with
 | false =>
  have HR:=Lib.hid (fun h=>not_in h1 (HE.out.1 h).1)
  have H1:=Lib.hid h1
  clear h1
  go_enter Tryz.func209,Tryz.ntmps209
  go_upto_region 1 with fail
  generalize ((w.alloc (.cells #[.slice DA dn dc] 48)).alloc (.cells #[.slice SA sn sc,.slice AA an ac,.slice JA jn jc,.slice MA mn mc] 108)).alloc (.cells #[.int .i64 (M:Int),.int .i64 pa,.slice PA pn pc] 202)=W9 at *
  obtain ⟨g1,hg1⟩:∃g,w.heap.size=g:=⟨_,rfl⟩
  rw [hg1] at HX1 HX2 HX3
  (try rw [hg1])
  clear hg1
  obtain ⟨g2,hg2⟩:∃g,g1+1=g:=⟨_,rfl⟩
  rw [hg2] at HX2 HX3
  (try rw [hg2])
  clear hg2
  obtain ⟨g3,hg3⟩:∃g,g2+1=g:=⟨_,rfl⟩
  rw [hg3] at HX3
  (try rw [hg3])
  clear hg3
  have hz:=HX3.out
  have z1:=cell_heap (k:=1) hz rfl
  have lz:=heap_lt0 hz
  clear hz
  go_wp2_with fail
  refine (inRange_any pa 0 4 _).mono ?_
  rw [H1.out]
  rintro _ w' ⟨rfl,rfl⟩
  go_wp2_with fail
  go_ret
  exact ⟨ret_ff HR.out,HB0.out⟩
 | true =>
  have hpa:=inR_iff.1 h1
  have H1:=Lib.hid h1
  clear h1
  obtain ⟨bd2,od2,SA2,AA2,JA2,MA2,sn2,sc2,an2,ac2,jn2,jc2,mn2,mc2,hDA2,hbd2,e02,e12,e22,e32,rm2⟩:=HD.out.md (k:=M) hM
  have HM2:=Lib.hid rm2
  clear rm2
  subst hDA2
  go_enter Tryz.func209,Tryz.ntmps209
  go_upto_region 1 with fail
  generalize ((w.alloc (.cells #[.slice (some ⟨bd2,od2,none⟩) dn dc] 48)).alloc (.cells #[.slice SA sn sc,.slice AA an ac,.slice JA jn jc,.slice MA mn mc] 108)).alloc (.cells #[.int .i64 (M:Int),.int .i64 pa,.slice PA pn pc] 202)=W9 at *
  obtain ⟨g1,hg1⟩:∃g,w.heap.size=g:=⟨_,rfl⟩
  rw [hg1] at HX1 HX2 HX3
  (try rw [hg1])
  clear hg1
  obtain ⟨g2,hg2⟩:∃g,g1+1=g:=⟨_,rfl⟩
  rw [hg2] at HX2 HX3
  (try rw [hg2])
  clear hg2
  obtain ⟨g3,hg3⟩:∃g,g2+1=g:=⟨_,rfl⟩
  rw [hg3] at HX3
  (try rw [hg3])
  clear hg3
  have hz:=HX3.out
  have z0:=cell_heap (k:=0) hz rfl
  have z1:=cell_heap (k:=1) hz rfl
  have lz:=heap_lt0 hz
  clear hz
  have hx:=HX1.out
  have x0:=cell_heap (k:=0) hx rfl
  have lx:=heap_lt0 hx
  clear hx
  rw [←HB0.out.cell (p:=⟨bd2,od2+M * 4,none⟩) hbd2] at e02
  rw [←HB0.out.cell (p:=⟨bd2,od2+M * 4+1,none⟩) hbd2] at e12
  rw [←HB0.out.cell (p:=⟨bd2,od2+M * 4+2,none⟩) hbd2] at e22
  rw [←HB0.out.cell (p:=⟨bd2,od2+M * 4+3,none⟩) hbd2] at e32
  have lbd2:=below_lt HB0.out hbd2
  have i2:(0:Int)≤(M:Int):=by omega
  have i3:(M:Int)<(dn:Int):=by omega
  go_wp2_with fail
  refine (inRange_any pa 0 4 _).mono ?_
  rw [H1.out]
  rintro _ w' ⟨rfl,rfl⟩
  clear z1
  have HB8:=Lib.hid (below_new HB0.out (.cells #[.slice SA2 sn2 sc2,.slice AA2 an2 ac2,.slice JA2 jn2 jc2,.slice MA2 mn2 mc2] 108))
  have C8:=Lib.hid (below_new (Below.refl W9.heap.size W9) (.cells #[.slice SA2 sn2 sc2,.slice AA2 an2 ac2,.slice JA2 jn2 jc2,.slice MA2 mn2 mc2] 108))
  have hu:=heap_new W9 (.cells #[.slice SA2 sn2 sc2,.slice AA2 an2 ac2,.slice JA2 jn2 jc2,.slice MA2 mn2 mc2] 108)
  have HXN:=Lib.hid hu
  have u0:=cell_heap (k:=0) hu rfl
  have u1:=cell_heap (k:=1) hu rfl
  have u2:=cell_heap (k:=2) hu rfl
  have u3:=cell_heap (k:=3) hu rfl
  have lu:=heap_lt0 hu
  clear hu
  go_upto_region 4 with fail
  obtain ⟨gN,hgN⟩:∃g,W9.heap.size=g:=⟨_,rfl⟩
  rw [hgN] at HXN u0 u1 u2 u3
  (try rw [hgN])
  clear hgN
  generalize W9.alloc (.cells #[.slice SA2 sn2 sc2,.slice AA2 an2 ac2,.slice JA2 jn2 jc2,.slice MA2 mn2 mc2] 108)=W8 at *
  clear x0 lx z0 lz e02 e12 e22 e32
  go_wp2_with fail
  refine (portsOf_any (mdK d M) SA2 AA2 JA2 MA2 sn2 sc2 an2 ac2 jn2 jc2 mn2 mc2 _ (HM2.out.below HB8.out)).mono ?_
  rintro _ w4 ⟨A4,n4,rfl,S4⟩
  have HPI:=Lib.hid (S4.ints 0 rfl)
  have HB4:=Lib.hid (below_tr HB8.out S4.bel)
  have HY1:=Lib.hid (heap_tr S4.bel (heap_tr C8.out HX2.out))
  have HY2:=Lib.hid (heap_tr S4.bel (heap_tr C8.out HX3.out))
  have HY3:=Lib.hid (heap_tr S4.bel HXN.out)
  clear S4 u0 u1 u2 u3 lu HX1 HX2 HX3 HXN C8
  go_wp2_with fail
  go_loopw [23] (fun i wr=>∃k:Nat,k≤(portsOf (mdK d M)).length∧i = .int .i64 (k:Int)∧Below w4.heap.size w4 wr∧(∀j,j<k→PortFit m (mdK d M) po j)) (fun i _=>(portsOf (mdK d M)).length - (intOf i).toNat)
  case atStart=>exact ⟨0,by omega,rfl,Below.refl _ _,fun j hj=>by omega⟩
  case round =>
   obtain ⟨k,hk,rfl,hb,hall⟩:=hrel
   have HALL:=Lib.hid hall
   have HBW:=Lib.hid hb
   have HB:=Lib.hid (below_tr HB4.out hb)
   clear hb hall
   by_cases hlt:k<(portsOf (mdK d M)).length
   ·have hdk:decide ((k:Int)<(((portsOf (mdK d M)).length:Nat):Int))=true:=by simp;omega
    have i0:(0:Int)≤(k:Int):=by omega
    have i1:(k:Int)<(((portsOf (mdK d M)).length:Nat):Int):=by omega
    have hpp:=portsOf_at hlt
    obtain ⟨bp,op,rfl,hbp,hcp⟩:=HPI.out.2 (by omega)
    have cp:=(HBW.out.cell (p:=⟨bp,op+k,none⟩) hbp).trans (hcp k hlt)
    have lbp:=below_lt HBW.out hbp
    clear hcp hbp
    obtain ⟨bw,ow,rfl,hbw,hcw⟩:=HP.out.ints.2 (by omega)
    have cw:=(HB.out.cell (p:=⟨bw,ow+k,none⟩) hbw).trans (hcw k (by omega))
    have lbw:=below_lt HB.out hbw
    clear hcw hbw
    have HNO:=Lib.hid (fun (h:¬PortFit m (mdK d M) po k) (h2:InFit d m ⟨(M:Int),pa,po⟩)=>h ((HE.out.1 h2).2 k hlt))
    have HG:=Lib.hid (fun h:PortFit m (mdK d M) po k=>all_succ HALL.out h)
    have HPF:Hid (PortFit m (mdK d M) po k↔InSg m (po[k]?.getD 0)∧((sgK (mdK d M).sigs ((portsOf (mdK d M))[k]?.getD 0).toNat).kind=1→Drives m (po[k]?.getD 0))):=Iff.rfl
    obtain ⟨Q,hQ⟩:∃Q:Nat,(portsOf (mdK d M))[k]?.getD 0=(Q:Int):=⟨((portsOf (mdK d M))[k]?.getD 0).toNat,by omega⟩
    rw [hQ] at hpp cp HPF
    rw [Int.toNat_natCast] at HPF
    have hQs:Q<sn2:=by have h1:=HM2.out.lens.1;omega
    obtain ⟨bs,os,rfl,hbs,c0,c1,c2⟩:=HM2.out.sg.sgE (k:=Q) (by rw [HM2.out.lens.1];exact hQs)
    have c0:=(HB.out.cell (p:=⟨bs,os+Q * 3,none⟩) hbs).trans c0
    have lbs:=below_lt HB.out hbs
    have HKD:Hid ((sgK (mdK d M).sigs Q).kind=((mdK d M).sigs[Q]?.getD SgT.zero).kind):=rfl
    rw [HKD.out] at HPF
    generalize ((mdK d M).sigs[Q]?.getD SgT.zero).kind=kd at *
    generalize po[k]?.getD 0=pj at *
    have HIS:Hid (InSg m pj↔0≤pj∧pj≤(sn:Int) - 1):=by
     show (0≤pj∧pj<(m.sigs.length:Int))↔_
     rw [HL.out]
     omega
    clear hQ c1 c2 hbs HKD
    have q0:(0:Int)≤(Q:Int):=by omega
    have q1:(Q:Int)<(sn2:Int):=by omega
    have j2:(k:Int)<(pn:Int):=by omega
    have hy:=heap_tr HBW.out HY1.out
    have y0:=cell_heap (k:=0) hy rfl
    have y1:=cell_heap (k:=1) hy rfl
    have y2:=cell_heap (k:=2) hy rfl
    have y3:=cell_heap (k:=3) hy rfl
    have ly:=heap_lt0 hy
    clear hy
    have hz:=heap_tr HBW.out HY2.out
    have z2:=cell_heap (k:=2) hz rfl
    have lz:=heap_lt0 hz
    clear hz
    have hu:=heap_tr HBW.out HY3.out
    have u0:=cell_heap (k:=0) hu rfl
    have lu:=heap_lt0 hu
    clear hu
    go_upto_region 7 with fail
    cases h1:inR pj 0 ((sn:Int) - 1) with
    | false =>
     have HR:=Lib.hid (HNO.out fun h=>not_in h1 (HIS.out.1 (HPF.out.1 h).1))
     have HIN:=Lib.hid (fun (v:Sub wr)=>(by have h:=inRange_any pj 0 ((sn:Int) - 1) v.v;rwa [h1] at h:Calls Tryz.prog 90 #[.int .i64 pj,.int .i64 0,.int .i64 ((sn:Int) - 1)] v.v fun e w'=>e = .returned (.bool false)∧v.v=w'))
     clear h1 HG HNO
     have hsub:=sub_ne wr
     have hsc:=sub_cell wr
     refine wp_region_below wr (by kernel_rfl) (by kernel_rfl) (Below.refl _ _) ?_
     repeat (go_big_quiet_step ((first
      | (go_at_call 90;with_reducible exact calls_sub_same (HIN.out _)))))
     refine wpQuiet_nil ?_
     rintro _ ⟨⟨w5,hD⟩,rfl⟩
     clear hsub hsc
     have HB2:=Lib.hid (below_tr HB.out hD)
     clear hD
     go_wp2_with fail
     go_ret
     exact ⟨ret_ff HR.out,HB2.out⟩
    | true =>
     have HI2:=Lib.hid (HIS.out.2 (inR_iff.1 h1))
     have HIN:=Lib.hid (fun (v:Sub wr)=>(by have h:=inRange_any pj 0 ((sn:Int) - 1) v.v;rwa [h1] at h:Calls Tryz.prog 90 #[.int .i64 pj,.int .i64 0,.int .i64 ((sn:Int) - 1)] v.v fun e w'=>e = .returned (.bool true)∧v.v=w'))
     clear h1
     by_cases hk1:kd=1
     ·have d1:(kd==1)=true:=by simp [hk1]
      by_cases hdv:Drives m pj
      ·have HG2:=Lib.hid (HG.out (HPF.out.2 ⟨HI2.out,fun _=>hdv⟩))
       have HDV:=Lib.hid (fun (v:Sub wr)=>(by have h:=drives_any m SA AA JA MA sn sc an ac jn jc mn mc pj v.v (HM.out.below (below_tr HB.out v.h)) (by omega);rwa [tb_true hdv] at h:Calls Tryz.prog 210 #[.agg #[.slice SA sn sc,.slice AA an ac,.slice JA jn jc,.slice MA mn mc],.int .i64 pj] v.v fun e w'=>e = .returned (.bool true)∧Below v.v.heap.size v.v w'))
       clear hk1 hdv HG HNO
       have hsub:=sub_ne wr
       have hsc:=sub_cell wr
       refine wp_region_below wr (by kernel_rfl) (by kernel_rfl) (Below.refl _ _) ?_
       repeat (go_big_quiet_step ((first
        | (go_at_call 90;with_reducible exact calls_sub_same (HIN.out _))
        | (go_at_call 210;with_reducible exact calls_sub (HDV.out _)))))
       refine wpQuiet_nil ?_
       rintro _ ⟨⟨w5,hD⟩,rfl⟩
       clear hsub hsc
       have HB2:=Lib.hid (below_tr HBW.out hD)
       clear hD
       go_wp2_with fail
       go_roundw
       case rel=>exact ⟨k+1,by omega,by go_num,HB2.out,HG2.out⟩
       case measure=>simp [intOf];omega
      ·have HR:=Lib.hid (HNO.out fun h=>hdv ((HPF.out.1 h).2 hk1))
       have HDV:=Lib.hid (fun (v:Sub wr)=>(by have h:=drives_any m SA AA JA MA sn sc an ac jn jc mn mc pj v.v (HM.out.below (below_tr HB.out v.h)) (by omega);rwa [tb_false hdv] at h:Calls Tryz.prog 210 #[.agg #[.slice SA sn sc,.slice AA an ac,.slice JA jn jc,.slice MA mn mc],.int .i64 pj] v.v fun e w'=>e = .returned (.bool false)∧Below v.v.heap.size v.v w'))
       clear hk1 hdv HG HNO
       have hsub:=sub_ne wr
       have hsc:=sub_cell wr
       refine wp_region_below wr (by kernel_rfl) (by kernel_rfl) (Below.refl _ _) ?_
       repeat (go_big_quiet_step ((first
        | (go_at_call 90;with_reducible exact calls_sub_same (HIN.out _))
        | (go_at_call 210;with_reducible exact calls_sub (HDV.out _)))))
       refine wpQuiet_nil ?_
       rintro _ ⟨⟨w5,hD⟩,rfl⟩
       clear hsub hsc
       have HB2:=Lib.hid (below_tr HB.out hD)
       clear hD
       go_wp2_with fail
       go_ret
       exact ⟨ret_ff HR.out,HB2.out⟩
     ·have d1:(kd==1)=false:=by simp [hk1]
      have HG2:=Lib.hid (HG.out (HPF.out.2 ⟨HI2.out,fun h=>absurd h hk1⟩))
      clear hk1 HG HNO
      have hsub:=sub_ne wr
      have hsc:=sub_cell wr
      refine wp_region_below wr (by kernel_rfl) (by kernel_rfl) (Below.refl _ _) ?_
      repeat (go_big_quiet_step ((first
       | (go_at_call 90;with_reducible exact calls_sub_same (HIN.out _)))))
      refine wpQuiet_nil ?_
      rintro _ ⟨⟨w5,hD⟩,rfl⟩
      clear hsub hsc
      have HB2:=Lib.hid (below_tr HBW.out hD)
      clear hD
      go_wp2_with fail
      go_roundw
      case rel=>exact ⟨k+1,by omega,by go_num,HB2.out,HG2.out⟩
      case measure=>simp [intOf];omega
   ·have hkn:k=(portsOf (mdK d M)).length:=by omega
    have hdk:decide ((k:Int)<(((portsOf (mdK d M)).length:Nat):Int))=false:=by simp;omega
    have HR:=Lib.hid (HE.out.2 ⟨hpa,fun j hj=>HALL.out j (by rw [hkn];exact hj)⟩)
    go_wp2_with fail
    go_ret
    exact ⟨ret_tt HR.out,HB.out⟩
end Go.Proofs.YtlinbdkbbhpdpaaGreat

namespace Go.Proofs.YtlinbdkbbhpdpaaGreat
set_option maxRecDepth 100000
open Go.RowKit

set_option maxHeartbeats 16000000 in
theorem moduleOk_any (d:List MdT) (DA:Option Addr) (dn dc kk:Nat) (w:World) (h:RdC w w.heap.size (celMd d) (.slice DA dn dc)) (hkk:kk<dn) (hd20:dn≤1048576) :
  Calls Tryz.prog 161 #[.agg #[.slice DA dn dc],.int .i64 (kk:Int)] w fun e w'=>e = .returned (.bool (tb (MdFit d kk)))∧Below w.heap.size w w':=by
 have HDL:=Lib.hid h.mdN
 have HD:=Lib.hid h
 clear h
 obtain ⟨bd,od,SA,AA,JA,MA,sn,sc,an,ac,jn,jc,mn,mc,rfl,hbd,e0,e1,e2,e3,rm⟩:=HD.out.md (k:=kk) hkk
 have HM:=Lib.hid rm
 clear rm
 have HB0:=Lib.hid (below_new (Below.refl w.heap.size w) (.cells #[.slice (some ⟨bd,od,none⟩) dn dc] 48))
 have HXB:=Lib.hid (heap_new w (.cells #[.slice (some ⟨bd,od,none⟩) dn dc] 48))
 have H1:=Lib.hid (inR_iff.2 (⟨by omega,by omega⟩:(0:Int)≤(kk:Int)∧(kk:Int)≤(dn:Int) - 1))
 have j0:(0:Int)≤(kk:Int):=by omega
 have j1:(kk:Int)<(dn:Int):=by omega
 by_cases hcf:CntFit d
 ·have HC:=Lib.hid (tb_true hcf)
  have hdn:dn≤4:=by have:=hcf.1;rw [HDL.out] at this;exact this
  have hcn:=hcf.2 kk (by rw [HDL.out];exact hkk)
  have hs30:sn≤30:=by have h1:=hcn.sg;rw [HM.out.lens.1] at h1;exact h1
  have ha30:an≤30:=by have h1:=hcn.asg;rw [HM.out.lens.2.1] at h1;exact h1
  have hj3:jn≤3:=by have h1:=hcn.ins;rw [HM.out.lens.2.2.1] at h1;exact h1
  have hm2:mn≤2:=by have h1:=hcn.mm;rw [HM.out.lens.2.2.2] at h1;exact h1
  clear hcn
  by_cases hif:InsFit d kk
  ·have HI:=Lib.hid (tb_true hif)
   go_enter Tryz.func161,Tryz.ntmps161
   go_upto_region 1 with fail
   generalize w.alloc (.cells #[.slice (some ⟨bd,od,none⟩) dn dc] 48)=W9 at *
   have hx:=HXB.out
   have x0:=cell_heap (k:=0) hx rfl
   have lx:=heap_lt0 hx
   clear hx
   go_wp2_with fail
   refine (inRange_any (kk:Int) 0 ((dn:Int) - 1) _).mono ?_
   rw [H1.out]
   rintro _ w' ⟨rfl,rfl⟩
   go_wp2_with fail
   refine (countsOk_any d _ dn dc _ (HD.out.below HB0.out)).mono ?_
   rw [HC.out]
   rintro _ w1 ⟨rfl,b1⟩
   have HB1:=Lib.hid (below_tr HB0.out b1)
   have HX1:=Lib.hid (heap_tr b1 HXB.out)
   clear b1 x0 lx
   have hx:=HX1.out
   have x0:=cell_heap (k:=0) hx rfl
   have lx:=heap_lt0 hx
   clear hx
   go_wp2_with fail
   refine (instsOk_any d _ dn dc kk _ (HD.out.below HB1.out) hkk hdn hcf).mono ?_
   rw [HI.out]
   rintro _ w2 ⟨rfl,b2⟩
   have HB2:=Lib.hid (below_tr HB1.out b2)
   have HX2:=Lib.hid (heap_tr b2 HX1.out)
   clear b2 x0 lx
   have hx:=HX2.out
   have x0:=cell_heap (k:=0) hx rfl
   have lx:=heap_lt0 hx
   clear hx
   rw [←HB2.out.cell (p:=⟨bd,od+kk * 4,none⟩) hbd] at e0
   rw [←HB2.out.cell (p:=⟨bd,od+kk * 4+1,none⟩) hbd] at e1
   rw [←HB2.out.cell (p:=⟨bd,od+kk * 4+2,none⟩) hbd] at e2
   rw [←HB2.out.cell (p:=⟨bd,od+kk * 4+3,none⟩) hbd] at e3
   have lbd:=below_lt HB2.out hbd
   have HB8:=Lib.hid (below_new HB2.out (.cells #[.slice SA sn sc,.slice AA an ac,.slice JA jn jc,.slice MA mn mc] 108))
   have HXD:=Lib.hid (heap_al (.cells #[.slice SA sn sc,.slice AA an ac,.slice JA jn jc,.slice MA mn mc] 108) HX2.out)
   have hm:=heap_new w2 (.cells #[.slice SA sn sc,.slice AA an ac,.slice JA jn jc,.slice MA mn mc] 108)
   have HXM:=Lib.hid hm
   have m0:=cell_heap (k:=0) hm rfl
   have lm:=heap_lt0 hm
   clear hm
   go_upto_region 4 with fail
   obtain ⟨gM,hgM⟩:∃g,w2.heap.size=g:=⟨_,rfl⟩
   rw [hgM] at HXM m0
   (try rw [hgM])
   clear hgM
   generalize w2.alloc (.cells #[.slice SA sn sc,.slice AA an ac,.slice JA jn jc,.slice MA mn mc] 108)=W8 at *
   clear x0 lx e0 e1 e2 e3
   go_wp2_with fail
   clear m0 lm
   go_loopw [46] (fun i wr=>∃k:Nat,k≤sn∧i = .int .i64 (k:Int)∧Below W8.heap.size W8 wr∧(∀s,s<k→SgFit (sgK (mdK d kk).sigs s))) (fun i _=>sn - (intOf i).toNat)
   case atStart=>exact ⟨0,by omega,rfl,Below.refl _ _,fun s hs=>by omega⟩
   case round =>
    obtain ⟨k,hk,rfl,hb,hall⟩:=hrel
    have HALL:=Lib.hid hall
    have HBW:=Lib.hid hb
    have HB:=Lib.hid (below_tr HB8.out hb)
    clear hb hall
    by_cases hlt:k<sn
    ·have hdk:decide ((k:Int)<(sn:Int))=true:=by simp;omega
     have i0:(0:Int)≤(k:Int):=by omega
     have i1:(k:Int)<(sn:Int):=by omega
     have hkl:k<(mdK d kk).sigs.length:=by rw [HM.out.lens.1];exact hlt
     obtain ⟨bs,os,rfl,hbs,c0,c1,c2⟩:=HM.out.sg.sgE (k:=k) hkl
     rw [←HB.out.cell (p:=⟨bs,os+k * 3,none⟩) hbs] at c0
     rw [←HB.out.cell (p:=⟨bs,os+k * 3+1,none⟩) hbs] at c1
     rw [←HB.out.cell (p:=⟨bs,os+k * 3+2,none⟩) hbs] at c2
     have lbs:=below_lt HB.out hbs
     have HNO:=Lib.hid (fun (h:¬SgFit (sgK (mdK d kk).sigs k)) (h2:MdFit d kk)=>h (h2.sig k hkl))
     have HG:=Lib.hid (fun h:SgFit (sgK (mdK d kk).sigs k)=>all_succ HALL.out h)
     unfold sgK at HNO HG
     generalize (mdK d kk).sigs[k]?.getD SgT.zero=q at *
     obtain ⟨kd,wd,it⟩:=q
     simp only at c0 c1 c2
     clear hkl hbs
     have HBV:=Lib.hid (below_new HBW.out (.cells #[.int .i64 kd,.int .i64 wd,.int .i64 it] 155))
     have HB1:=Lib.hid (below_new HB.out (.cells #[.int .i64 kd,.int .i64 wd,.int .i64 it] 155))
     have hy:=heap_new wr (.cells #[.int .i64 kd,.int .i64 wd,.int .i64 it] 155)
     have HY:=Lib.hid hy
     have y0:=cell_heap (k:=0) hy rfl
     have y1:=cell_heap (k:=1) hy rfl
     have y2:=cell_heap (k:=2) hy rfl
     have ly:=heap_lt0 hy
     clear hy
     go_upto_region 8 with fail
     generalize wr.alloc (.cells #[.int .i64 kd,.int .i64 wd,.int .i64 it] 155)=W5 at *
     go_wp2_with fail
     refine (signalOk_any kd wd it _).mono ?_
     by_cases hf:SgFit ⟨kd,wd,it⟩
     ·have HG2:=Lib.hid (HG.out hf)
      rw [tb_true hf]
      clear hf HG HNO
      rintro _ w6 ⟨rfl,b6⟩
      have HB6:=Lib.hid (below_tr HBV.out b6)
      clear b6 c0 c1 c2 y0 y1 y2 ly
      go_wp2_with fail
      go_roundw
      case rel=>exact ⟨k+1,by omega,by go_num,HB6.out,HG2.out⟩
      case measure=>simp [intOf];omega
     ·have HR:=Lib.hid (HNO.out hf)
      rw [tb_false hf]
      clear hf HG HNO
      rintro _ w6 ⟨rfl,b6⟩
      have HB6:=Lib.hid (below_tr HB1.out b6)
      clear b6 c0 c1 c2 y0 y1 y2 ly
      go_wp2_with fail
      go_ret
      exact ⟨ret_ff HR.out,HB6.out⟩
    ·have hkn:k=sn:=by omega
     have hdk:decide ((k:Int)<(sn:Int))=false:=by simp;omega
     clear hlt
     subst k
     have HF1:Hid (∀s,s<(mdK d kk).sigs.length→SgFit (sgK (mdK d kk).sigs s)):=fun i hi=>HALL.out i (by rw [HM.out.lens.1] at hi;exact hi)
     have hx:=heap_tr HBW.out HXM.out
     have x1:=cell_heap (k:=1) hx rfl
     have lx:=heap_lt0 hx
     clear hx
     go_wp2_with fail
     clear x1 lx
     go_loopw [57] (fun i wr=>∃k:Nat,k≤an∧i = .int .i64 (k:Int)∧Below W8.heap.size W8 wr∧(∀i,i<k→AsFit (mdK d kk) ((mdK d kk).asgs[i]?.getD AsT.zero))) (fun i _=>an - (intOf i).toNat)
     case atStart=>exact ⟨0,by omega,rfl,HBW.out,fun i hi=>by omega⟩
     case round =>
      obtain ⟨k,hk,rfl,hb,hall⟩:=hrel
      have HALL:=Lib.hid hall
      have HBW:=Lib.hid hb
      have HB:=Lib.hid (below_tr HB8.out hb)
      clear hb hall
      by_cases hlt:k<an
      ·have hdk:decide ((k:Int)<(an:Int))=true:=by simp;omega
       have i0:(0:Int)≤(k:Int):=by omega
       have i1:(k:Int)<(an:Int):=by omega
       have hkl:k<(mdK d kk).asgs.length:=by rw [HM.out.lens.2.1];exact hlt
       obtain ⟨ba,oa,QA,qn,qc,hAA,hba,c0,c1,r0⟩:=HM.out.asg.asE (k:=k) hkl
       subst hAA
       rw [←HB.out.cell (p:=⟨ba,oa+k * 2,none⟩) hba] at c0
       rw [←HB.out.cell (p:=⟨ba,oa+k * 2+1,none⟩) hba] at c1
       have lba:=below_lt HB.out hba
       have HR0:=Lib.hid r0
       have HNO:=Lib.hid (fun (h:¬AsFit (mdK d kk) ((mdK d kk).asgs[k]?.getD AsT.zero)) (h2:MdFit d kk)=>h (h2.asg k hkl))
       have HG:=Lib.hid (fun h:AsFit (mdK d kk) ((mdK d kk).asgs[k]?.getD AsT.zero)=>all_succ HALL.out h)
       generalize (mdK d kk).asgs[k]?.getD AsT.zero=q at *
       obtain ⟨tg,ops⟩:=q
       simp only at c0 c1 HR0
       clear hkl hba r0
       have HAF:Hid (AsFit (mdK d kk) ⟨tg,ops⟩↔(InSg (mdK d kk) tg∧Driven (sgK (mdK d kk).sigs tg.toNat).kind)∧OpsFit ops (sn:Int)):=by
        show ((_∧_)∧OpsFit ops ((mdK d kk).sigs.length:Int))↔_
        rw [HM.out.lens.1]
       have hx:=heap_tr HBW.out HXM.out
       have x0:=cell_heap (k:=0) hx rfl
       have lx:=heap_lt0 hx
       clear hx
       rw [←(below_new (Below.refl wr.heap.size wr) (.cells #[.int .i64 tg,.slice QA qn qc] 196)).cell lx] at x0
       have lx:=below_lt (below_new (Below.refl wr.heap.size wr) (.cells #[.int .i64 tg,.slice QA qn qc] 196)) lx
       cases h3:inR tg 0 ((sn:Int) - 1) with
       | false =>
        have HR:=Lib.hid (HNO.out fun h=>not_in h3 ⟨(HAF.out.1 h).1.1.1,by have h4:=(HAF.out.1 h).1.1.2;rw [HM.out.lens.1] at h4;omega⟩)
        have H3:=Lib.hid h3
        clear h3 HG HNO
        have HBV:=Lib.hid (below_new HBW.out (.cells #[.int .i64 tg,.slice QA qn qc] 196))
        have HB1:=Lib.hid (below_new HB.out (.cells #[.int .i64 tg,.slice QA qn qc] 196))
        have hy:=heap_new wr (.cells #[.int .i64 tg,.slice QA qn qc] 196)
        have HY:=Lib.hid hy
        have y0:=cell_heap (k:=0) hy rfl
        have y1:=cell_heap (k:=1) hy rfl
        have ly:=heap_lt0 hy
        clear hy
        go_upto_region 14 with fail
        generalize wr.alloc (.cells #[.int .i64 tg,.slice QA qn qc] 196)=W5 at *
        go_wp2_with fail
        refine (inRange_any tg 0 ((sn:Int) - 1) _).mono ?_
        rw [H3.out]
        rintro _ w' ⟨rfl,rfl⟩
        go_wp2_with fail
        go_ret
        exact ⟨ret_ff HR.out,HB1.out⟩
       | true =>
        have htg:=inR_iff.1 h3
        have H3:=Lib.hid h3
        have HIS:Hid (InSg (mdK d kk) tg):=⟨htg.1,by rw [HM.out.lens.1];omega⟩
        clear h3
        obtain ⟨Q,rfl⟩:∃Q:Nat,tg=(Q:Int):=⟨tg.toNat,by omega⟩
        rw [Int.toNat_natCast] at HAF
        have hQs:Q<sn:=by omega
        obtain ⟨bs,os,hSA,hbs,s0,s1,s2⟩:=HM.out.sg.sgE (k:=Q) (by rw [HM.out.lens.1];exact hQs)
        have HKD:Hid ((sgK (mdK d kk).sigs Q).kind=((mdK d kk).sigs[Q]?.getD SgT.zero).kind):=rfl
        rw [HKD.out] at HAF
        generalize ((mdK d kk).sigs[Q]?.getD SgT.zero).kind=kd at *
        subst hSA
        have s0:=((below_new HB.out (.cells #[.int .i64 (Q:Int),.slice QA qn qc] 196)).cell (p:=⟨bs,os+Q * 3,none⟩) hbs).trans s0
        have lbs:=below_lt (below_new HB.out (.cells #[.int .i64 (Q:Int),.slice QA qn qc] 196)) hbs
        clear s1 s2 hbs HKD
        have q0:(0:Int)≤(Q:Int):=by omega
        have q1:(Q:Int)<(sn:Int):=by omega
        by_cases hdv:Driven kd
        ·have HT:=Lib.hid (tb_true hdv)
         by_cases hof:OpsFit ops (sn:Int)
         ·have HG2:=Lib.hid (HG.out (HAF.out.2 ⟨⟨HIS.out,hdv⟩,hof⟩))
          have HO:=Lib.hid (tb_true hof)
          clear hdv hof HG HNO
          have HBV:=Lib.hid (below_new HBW.out (.cells #[.int .i64 (Q:Int),.slice QA qn qc] 196))
          have HB1:=Lib.hid (below_new HB.out (.cells #[.int .i64 (Q:Int),.slice QA qn qc] 196))
          have hy:=heap_new wr (.cells #[.int .i64 (Q:Int),.slice QA qn qc] 196)
          have HY:=Lib.hid hy
          have y0:=cell_heap (k:=0) hy rfl
          have y1:=cell_heap (k:=1) hy rfl
          have ly:=heap_lt0 hy
          clear hy
          go_upto_region 14 with fail
          generalize wr.alloc (.cells #[.int .i64 (Q:Int),.slice QA qn qc] 196)=W5 at *
          go_wp2_with fail
          refine (inRange_any (Q:Int) 0 ((sn:Int) - 1) _).mono ?_
          rw [H3.out]
          rintro _ w' ⟨rfl,rfl⟩
          go_wp2_with fail
          refine (isDriven_any kd _).mono ?_
          rw [HT.out]
          rintro _ w' ⟨rfl,rfl⟩
          go_wp2_with fail
          refine (opsOk_any ops QA qn qc (sn:Int) _ (HR0.out.below HB1.out)).mono ?_
          rw [HO.out]
          rintro _ w6 ⟨rfl,b6⟩
          have HB6:=Lib.hid (below_tr HBV.out b6)
          clear b6 c0 c1 y0 y1 ly x0 lx s0 lbs
          go_wp2_with fail
          go_roundw
          case rel=>exact ⟨k+1,by omega,by go_num,HB6.out,HG2.out⟩
          case measure=>simp [intOf];omega
         ·have HR:=Lib.hid (HNO.out fun h=>hof (HAF.out.1 h).2)
          have HO:=Lib.hid (tb_false hof)
          clear hdv hof HG HNO
          have HBV:=Lib.hid (below_new HBW.out (.cells #[.int .i64 (Q:Int),.slice QA qn qc] 196))
          have HB1:=Lib.hid (below_new HB.out (.cells #[.int .i64 (Q:Int),.slice QA qn qc] 196))
          have hy:=heap_new wr (.cells #[.int .i64 (Q:Int),.slice QA qn qc] 196)
          have HY:=Lib.hid hy
          have y0:=cell_heap (k:=0) hy rfl
          have y1:=cell_heap (k:=1) hy rfl
          have ly:=heap_lt0 hy
          clear hy
          go_upto_region 14 with fail
          generalize wr.alloc (.cells #[.int .i64 (Q:Int),.slice QA qn qc] 196)=W5 at *
          go_wp2_with fail
          refine (inRange_any (Q:Int) 0 ((sn:Int) - 1) _).mono ?_
          rw [H3.out]
          rintro _ w' ⟨rfl,rfl⟩
          go_wp2_with fail
          refine (isDriven_any kd _).mono ?_
          rw [HT.out]
          rintro _ w' ⟨rfl,rfl⟩
          go_wp2_with fail
          refine (opsOk_any ops QA qn qc (sn:Int) _ (HR0.out.below HB1.out)).mono ?_
          rw [HO.out]
          rintro _ w6 ⟨rfl,b6⟩
          have HB6:=Lib.hid (below_tr HB1.out b6)
          clear b6 c0 c1 y0 y1 ly x0 lx s0 lbs
          go_wp2_with fail
          go_ret
          exact ⟨ret_ff HR.out,HB6.out⟩
        ·have HT:=Lib.hid (tb_false hdv)
         have HR:=Lib.hid (HNO.out fun h=>hdv (HAF.out.1 h).1.2)
         clear hdv HG HNO
         have HBV:=Lib.hid (below_new HBW.out (.cells #[.int .i64 (Q:Int),.slice QA qn qc] 196))
         have HB1:=Lib.hid (below_new HB.out (.cells #[.int .i64 (Q:Int),.slice QA qn qc] 196))
         have hy:=heap_new wr (.cells #[.int .i64 (Q:Int),.slice QA qn qc] 196)
         have HY:=Lib.hid hy
         have y0:=cell_heap (k:=0) hy rfl
         have y1:=cell_heap (k:=1) hy rfl
         have ly:=heap_lt0 hy
         clear hy
         go_upto_region 14 with fail
         generalize wr.alloc (.cells #[.int .i64 (Q:Int),.slice QA qn qc] 196)=W5 at *
         go_wp2_with fail
         refine (inRange_any (Q:Int) 0 ((sn:Int) - 1) _).mono ?_
         rw [H3.out]
         rintro _ w' ⟨rfl,rfl⟩
         go_wp2_with fail
         refine (isDriven_any kd _).mono ?_
         rw [HT.out]
         rintro _ w' ⟨rfl,rfl⟩
         go_wp2_with fail
         go_ret
         exact ⟨ret_ff HR.out,HB1.out⟩
      ·have hkn:k=an:=by omega
       have hdk:decide ((k:Int)<(an:Int))=false:=by simp;omega
       clear hlt
       subst k
       have HF2:Hid (∀i,i<(mdK d kk).asgs.length→AsFit (mdK d kk) ((mdK d kk).asgs[i]?.getD AsT.zero)):=fun i hi=>HALL.out i (by rw [HM.out.lens.2.1] at hi;exact hi)
       have hx:=heap_tr HBW.out HXM.out
       have x2:=cell_heap (k:=2) hx rfl
       have lx:=heap_lt0 hx
       clear hx
       go_wp2_with fail
       clear x2 lx
       go_loopw [89] (fun i wr=>∃k:Nat,k≤jn∧i = .int .i64 (k:Int)∧Below W8.heap.size W8 wr∧(∀i,i<k→InFit d (mdK d kk) ((mdK d kk).insts[i]?.getD InT.zero))) (fun i _=>jn - (intOf i).toNat)
       case atStart=>exact ⟨0,by omega,rfl,HBW.out,fun i hi=>by omega⟩
       case round =>
        obtain ⟨k,hk,rfl,hb,hall⟩:=hrel
        have HALL:=Lib.hid hall
        have HBW:=Lib.hid hb
        have HB:=Lib.hid (below_tr HB8.out hb)
        clear hb hall
        by_cases hlt:k<jn
        ·have hdk:decide ((k:Int)<(jn:Int))=true:=by simp;omega
         have i0:(0:Int)≤(k:Int):=by omega
         have i1:(k:Int)<(jn:Int):=by omega
         have hkl:k<(mdK d kk).insts.length:=by rw [HM.out.lens.2.2.1];exact hlt
         obtain ⟨bi,oi,PA,pn,pc,hJA,hbi,c0,c1,c2,r0⟩:=HM.out.ins.inE (k:=k) hkl
         subst hJA
         rw [←HB.out.cell (p:=⟨bi,oi+k * 3,none⟩) hbi] at c0
         rw [←HB.out.cell (p:=⟨bi,oi+k * 3+1,none⟩) hbi] at c1
         rw [←HB.out.cell (p:=⟨bi,oi+k * 3+2,none⟩) hbi] at c2
         have lbi:=below_lt HB.out hbi
         have HR0:=Lib.hid r0
         have hin:=hif k hkl
         have HNO:=Lib.hid (fun (h:¬InFit d (mdK d kk) ((mdK d kk).insts[k]?.getD InT.zero)) (h2:MdFit d kk)=>h (h2.inst k hkl))
         have HG:=Lib.hid (fun h:InFit d (mdK d kk) ((mdK d kk).insts[k]?.getD InT.zero)=>all_succ HALL.out h)
         generalize (mdK d kk).insts[k]?.getD InT.zero=q at *
         obtain ⟨mo,pa,po⟩:=q
         simp only at c0 c1 c2 HR0
         obtain ⟨hm1,hm2⟩:=hin
         simp only at hm1 hm2
         obtain ⟨M,rfl⟩:∃M:Nat,mo=(M:Int):=⟨mo.toNat,by omega⟩
         rw [Int.toNat_natCast] at hm2
         clear hkl hbi r0
         have hx:=heap_tr HBW.out HXM.out
         have x0:=cell_heap (k:=0) hx rfl
         have x1:=cell_heap (k:=1) hx rfl
         have x2:=cell_heap (k:=2) hx rfl
         have x3:=cell_heap (k:=3) hx rfl
         have lx:=heap_lt0 hx
         clear hx
         have hd:=heap_tr HBW.out HXD.out
         have d0:=cell_heap (k:=0) hd rfl
         have ld:=heap_lt0 hd
         clear hd
         rw [←(below_new (Below.refl wr.heap.size wr) (.cells #[.int .i64 (M:Int),.int .i64 pa,.slice PA pn pc] 202)).cell lx] at x0
         rw [←(below_new (Below.refl wr.heap.size wr) (.cells #[.int .i64 (M:Int),.int .i64 pa,.slice PA pn pc] 202)).cell lx] at x1
         rw [←(below_new (Below.refl wr.heap.size wr) (.cells #[.int .i64 (M:Int),.int .i64 pa,.slice PA pn pc] 202)).cell lx] at x2
         rw [←(below_new (Below.refl wr.heap.size wr) (.cells #[.int .i64 (M:Int),.int .i64 pa,.slice PA pn pc] 202)).cell lx] at x3
         rw [←(below_new (Below.refl wr.heap.size wr) (.cells #[.int .i64 (M:Int),.int .i64 pa,.slice PA pn pc] 202)).cell ld] at d0
         have lx:=below_lt (below_new (Below.refl wr.heap.size wr) (.cells #[.int .i64 (M:Int),.int .i64 pa,.slice PA pn pc] 202)) lx
         have ld:=below_lt (below_new (Below.refl wr.heap.size wr) (.cells #[.int .i64 (M:Int),.int .i64 pa,.slice PA pn pc] 202)) ld
         have HBV:=Lib.hid (below_new HBW.out (.cells #[.int .i64 (M:Int),.int .i64 pa,.slice PA pn pc] 202))
         have HB1:=Lib.hid (below_new HB.out (.cells #[.int .i64 (M:Int),.int .i64 pa,.slice PA pn pc] 202))
         have hy:=heap_new wr (.cells #[.int .i64 (M:Int),.int .i64 pa,.slice PA pn pc] 202)
         have HY:=Lib.hid hy
         have y0:=cell_heap (k:=0) hy rfl
         have y1:=cell_heap (k:=1) hy rfl
         have y2:=cell_heap (k:=2) hy rfl
         have ly:=heap_lt0 hy
         clear hy
         go_upto_region 20 with fail
         generalize wr.alloc (.cells #[.int .i64 (M:Int),.int .i64 pa,.slice PA pn pc] 202)=W5 at *
         go_wp2_with fail
         refine (instOk_any d _ dn dc (mdK d kk) SA AA _ MA sn sc an ac jn jc mn mc M pa po PA pn pc _ (HD.out.below HB1.out) (HM.out.below HB1.out) (HR0.out.below HB1.out) (by omega) hdn hm2 (by omega)).mono ?_
         by_cases hf:InFit d (mdK d kk) ⟨(M:Int),pa,po⟩
         ·have HG2:=Lib.hid (HG.out hf)
          rw [tb_true hf]
          clear hf HG HNO
          rintro _ w6 ⟨rfl,b6⟩
          have HB6:=Lib.hid (below_tr HBV.out b6)
          clear b6 c0 c1 c2 y0 y1 y2 ly x0 x1 x2 x3 lx d0 ld
          go_wp2_with fail
          go_roundw
          case rel=>exact ⟨k+1,by omega,by go_num,HB6.out,HG2.out⟩
          case measure=>simp [intOf];omega
         ·have HR:=Lib.hid (HNO.out hf)
          rw [tb_false hf]
          clear hf HG HNO
          rintro _ w6 ⟨rfl,b6⟩
          have HB6:=Lib.hid (below_tr HB1.out b6)
          clear b6 c0 c1 c2 y0 y1 y2 ly x0 x1 x2 x3 lx d0 ld
          go_wp2_with fail
          go_ret
          exact ⟨ret_ff HR.out,HB6.out⟩
        ·have hkn:k=jn:=by omega
         have hdk:decide ((k:Int)<(jn:Int))=false:=by simp;omega
         clear hlt
         subst k
         have HF3:Hid (∀i,i<(mdK d kk).insts.length→InFit d (mdK d kk) ((mdK d kk).insts[i]?.getD InT.zero)):=fun i hi=>HALL.out i (by rw [HM.out.lens.2.2.1] at hi;exact hi)
         have hx:=heap_tr HBW.out HXM.out
         have x3:=cell_heap (k:=3) hx rfl
         have lx:=heap_lt0 hx
         clear hx
         go_wp2_with fail
         clear x3 lx
         go_loopw [102] (fun i wr=>∃k:Nat,k≤mn∧i = .int .i64 (k:Int)∧Below W8.heap.size W8 wr∧(∀i,i<k→MmFit (mdK d kk) ((mdK d kk).mems[i]?.getD MmT.zero))) (fun i _=>mn - (intOf i).toNat)
         case atStart=>exact ⟨0,by omega,rfl,HBW.out,fun i hi=>by omega⟩
         case round =>
          obtain ⟨k,hk,rfl,hb,hall⟩:=hrel
          have HALL:=Lib.hid hall
          have HBW:=Lib.hid hb
          have HB:=Lib.hid (below_tr HB8.out hb)
          clear hb hall
          by_cases hlt:k<mn
          ·have hdk:decide ((k:Int)<(mn:Int))=true:=by simp;omega
           have i0:(0:Int)≤(k:Int):=by omega
           have i1:(k:Int)<(mn:Int):=by omega
           have hkl:k<(mdK d kk).mems.length:=by rw [HM.out.lens.2.2.2];exact hlt
           obtain ⟨bm,om,hMA,hbm,c0,c1,c2,c3⟩:=HM.out.mm.mmE (k:=k) hkl
           subst hMA
           rw [←HB.out.cell (p:=⟨bm,om+k * 4,none⟩) hbm] at c0
           rw [←HB.out.cell (p:=⟨bm,om+k * 4+1,none⟩) hbm] at c1
           rw [←HB.out.cell (p:=⟨bm,om+k * 4+2,none⟩) hbm] at c2
           rw [←HB.out.cell (p:=⟨bm,om+k * 4+3,none⟩) hbm] at c3
           have lbm:=below_lt HB.out hbm
           have HNO:=Lib.hid (fun (h:¬MmFit (mdK d kk) ((mdK d kk).mems[k]?.getD MmT.zero)) (h2:MdFit d kk)=>h (h2.mem k hkl))
           have HG:=Lib.hid (fun h:MmFit (mdK d kk) ((mdK d kk).mems[k]?.getD MmT.zero)=>all_succ HALL.out h)
           generalize (mdK d kk).mems[k]?.getD MmT.zero=q at *
           obtain ⟨ma,md,mw,mo⟩:=q
           simp only at c0 c1 c2 c3
           clear hkl hbm
           have HIS:Hid (∀s:Int,inR s 0 ((sn:Int) - 1)=true↔InSg (mdK d kk) s):=fun s=>by
            rw [inR_iff]
            show _↔(0≤s∧s<((mdK d kk).sigs.length:Int))
            rw [HM.out.lens.1]
            omega
           have hx:=heap_tr HBW.out HXM.out
           have x0:=cell_heap (k:=0) hx rfl
           have x1:=cell_heap (k:=1) hx rfl
           have x2:=cell_heap (k:=2) hx rfl
           have x3:=cell_heap (k:=3) hx rfl
           have lx:=heap_lt0 hx
           clear hx
           rw [←(below_new (Below.refl wr.heap.size wr) (.cells #[.int .i64 ma,.int .i64 md,.int .i64 mw,.int .i64 mo] 200)).cell lx] at x0
           rw [←(below_new (Below.refl wr.heap.size wr) (.cells #[.int .i64 ma,.int .i64 md,.int .i64 mw,.int .i64 mo] 200)).cell lx] at x1
           rw [←(below_new (Below.refl wr.heap.size wr) (.cells #[.int .i64 ma,.int .i64 md,.int .i64 mw,.int .i64 mo] 200)).cell lx] at x2
           rw [←(below_new (Below.refl wr.heap.size wr) (.cells #[.int .i64 ma,.int .i64 md,.int .i64 mw,.int .i64 mo] 200)).cell lx] at x3
           have lx:=below_lt (below_new (Below.refl wr.heap.size wr) (.cells #[.int .i64 ma,.int .i64 md,.int .i64 mw,.int .i64 mo] 200)) lx
           cases h0:inR ma 0 ((sn:Int) - 1) with
           | false =>
            have HR:=Lib.hid (HNO.out fun h=>by have h9:=(HIS.out ma).2 h.1;rw [h0] at h9;cases h9)
            have HI0:=Lib.hid h0
            clear h0 HG HNO
            have HBV:=Lib.hid (below_new HBW.out (.cells #[.int .i64 ma,.int .i64 md,.int .i64 mw,.int .i64 mo] 200))
            have HB1:=Lib.hid (below_new HB.out (.cells #[.int .i64 ma,.int .i64 md,.int .i64 mw,.int .i64 mo] 200))
            have hy:=heap_new wr (.cells #[.int .i64 ma,.int .i64 md,.int .i64 mw,.int .i64 mo] 200)
            have HY:=Lib.hid hy
            have y0:=cell_heap (k:=0) hy rfl
            have y1:=cell_heap (k:=1) hy rfl
            have y2:=cell_heap (k:=2) hy rfl
            have y3:=cell_heap (k:=3) hy rfl
            have ly:=heap_lt0 hy
            clear hy
            go_upto_region 26 with fail
            generalize wr.alloc (.cells #[.int .i64 ma,.int .i64 md,.int .i64 mw,.int .i64 mo] 200)=W5 at *
            go_wp2_with fail
            refine (inRange_any ma 0 ((sn:Int) - 1) _).mono ?_
            rw [HI0.out]
            rintro _ w' ⟨rfl,rfl⟩
            go_wp2_with fail
            go_ret
            exact ⟨ret_ff HR.out,HB1.out⟩
           | true =>
            have HI0:=Lib.hid h0
            clear h0
            cases h1:inR md 0 ((sn:Int) - 1) with
            | false =>
             have HR:=Lib.hid (HNO.out fun h=>by have h9:=(HIS.out md).2 h.2.1;rw [h1] at h9;cases h9)
             have HI1:=Lib.hid h1
             clear h1 HG HNO
             have HBV:=Lib.hid (below_new HBW.out (.cells #[.int .i64 ma,.int .i64 md,.int .i64 mw,.int .i64 mo] 200))
             have HB1:=Lib.hid (below_new HB.out (.cells #[.int .i64 ma,.int .i64 md,.int .i64 mw,.int .i64 mo] 200))
             have hy:=heap_new wr (.cells #[.int .i64 ma,.int .i64 md,.int .i64 mw,.int .i64 mo] 200)
             have HY:=Lib.hid hy
             have y0:=cell_heap (k:=0) hy rfl
             have y1:=cell_heap (k:=1) hy rfl
             have y2:=cell_heap (k:=2) hy rfl
             have y3:=cell_heap (k:=3) hy rfl
             have ly:=heap_lt0 hy
             clear hy
             go_upto_region 26 with fail
             generalize wr.alloc (.cells #[.int .i64 ma,.int .i64 md,.int .i64 mw,.int .i64 mo] 200)=W5 at *
             go_wp2_with fail
             refine (inRange_any ma 0 ((sn:Int) - 1) _).mono ?_
             rw [HI0.out]
             rintro _ w' ⟨rfl,rfl⟩
             go_wp2_with fail
             refine (inRange_any md 0 ((sn:Int) - 1) _).mono ?_
             rw [HI1.out]
             rintro _ w' ⟨rfl,rfl⟩
             go_wp2_with fail
             go_ret
             exact ⟨ret_ff HR.out,HB1.out⟩
            | true =>
             have HI1:=Lib.hid h1
             clear h1
             cases h2:inR mw 0 ((sn:Int) - 1) with
             | false =>
              have HR:=Lib.hid (HNO.out fun h=>by have h9:=(HIS.out mw).2 h.2.2.1;rw [h2] at h9;cases h9)
              have HI2:=Lib.hid h2
              clear h2 HG HNO
              have HBV:=Lib.hid (below_new HBW.out (.cells #[.int .i64 ma,.int .i64 md,.int .i64 mw,.int .i64 mo] 200))
              have HB1:=Lib.hid (below_new HB.out (.cells #[.int .i64 ma,.int .i64 md,.int .i64 mw,.int .i64 mo] 200))
              have hy:=heap_new wr (.cells #[.int .i64 ma,.int .i64 md,.int .i64 mw,.int .i64 mo] 200)
              have HY:=Lib.hid hy
              have y0:=cell_heap (k:=0) hy rfl
              have y1:=cell_heap (k:=1) hy rfl
              have y2:=cell_heap (k:=2) hy rfl
              have y3:=cell_heap (k:=3) hy rfl
              have ly:=heap_lt0 hy
              clear hy
              go_upto_region 26 with fail
              generalize wr.alloc (.cells #[.int .i64 ma,.int .i64 md,.int .i64 mw,.int .i64 mo] 200)=W5 at *
              go_wp2_with fail
              refine (inRange_any ma 0 ((sn:Int) - 1) _).mono ?_
              rw [HI0.out]
              rintro _ w' ⟨rfl,rfl⟩
              go_wp2_with fail
              refine (inRange_any md 0 ((sn:Int) - 1) _).mono ?_
              rw [HI1.out]
              rintro _ w' ⟨rfl,rfl⟩
              go_wp2_with fail
              refine (inRange_any mw 0 ((sn:Int) - 1) _).mono ?_
              rw [HI2.out]
              rintro _ w' ⟨rfl,rfl⟩
              go_wp2_with fail
              go_ret
              exact ⟨ret_ff HR.out,HB1.out⟩
             | true =>
              have HI2:=Lib.hid h2
              clear h2
              have HBV:=Lib.hid (below_new HBW.out (.cells #[.int .i64 ma,.int .i64 md,.int .i64 mw,.int .i64 mo] 200))
              have HB1:=Lib.hid (below_new HB.out (.cells #[.int .i64 ma,.int .i64 md,.int .i64 mw,.int .i64 mo] 200))
              have hy:=heap_new wr (.cells #[.int .i64 ma,.int .i64 md,.int .i64 mw,.int .i64 mo] 200)
              have HY:=Lib.hid hy
              have y0:=cell_heap (k:=0) hy rfl
              have y1:=cell_heap (k:=1) hy rfl
              have y2:=cell_heap (k:=2) hy rfl
              have y3:=cell_heap (k:=3) hy rfl
              have ly:=heap_lt0 hy
              clear hy
              go_upto_region 26 with fail
              generalize wr.alloc (.cells #[.int .i64 ma,.int .i64 md,.int .i64 mw,.int .i64 mo] 200)=W5 at *
              go_wp2_with fail
              refine (inRange_any ma 0 ((sn:Int) - 1) _).mono ?_
              rw [HI0.out]
              rintro _ w' ⟨rfl,rfl⟩
              go_wp2_with fail
              refine (inRange_any md 0 ((sn:Int) - 1) _).mono ?_
              rw [HI1.out]
              rintro _ w' ⟨rfl,rfl⟩
              go_wp2_with fail
              refine (inRange_any mw 0 ((sn:Int) - 1) _).mono ?_
              rw [HI2.out]
              rintro _ w' ⟨rfl,rfl⟩
              go_wp2_with fail
              refine (drives_any (mdK d kk) SA AA JA _ sn sc an ac jn jc mn mc mo _ (HM.out.below HB1.out) (by omega)).mono ?_
              by_cases hf:Drives (mdK d kk) mo
              ·have HG2:=Lib.hid (HG.out ⟨(HIS.out ma).1 HI0.out,(HIS.out md).1 HI1.out,(HIS.out mw).1 HI2.out,hf⟩)
               rw [tb_true hf]
               clear hf HG HNO
               rintro _ w6 ⟨rfl,b6⟩
               have HB6:=Lib.hid (below_tr HBV.out b6)
               clear b6 c0 c1 c2 c3 y0 y1 y2 y3 ly x0 x1 x2 x3 lx
               go_wp2_with fail
               go_roundw
               case rel=>exact ⟨k+1,by omega,by go_num,HB6.out,HG2.out⟩
               case measure=>simp [intOf];omega
              ·have HR:=Lib.hid (HNO.out fun h=>hf h.2.2.2)
               rw [tb_false hf]
               clear hf HG HNO
               rintro _ w6 ⟨rfl,b6⟩
               have HB6:=Lib.hid (below_tr HB1.out b6)
               clear b6 c0 c1 c2 c3 y0 y1 y2 y3 ly x0 x1 x2 x3 lx
               go_wp2_with fail
               go_ret
               exact ⟨ret_ff HR.out,HB6.out⟩
          ·have hkn:k=mn:=by omega
           have hdk:decide ((k:Int)<(mn:Int))=false:=by simp;omega
           clear hlt
           subst k
           have HF4:Hid (∀i,i<(mdK d kk).mems.length→MmFit (mdK d kk) ((mdK d kk).mems[i]?.getD MmT.zero)):=fun i hi=>HALL.out i (by rw [HM.out.lens.2.2.2] at hi;exact hi)
           have hd:=heap_tr HBW.out HXD.out
           have d0:=cell_heap (k:=0) hd rfl
           have ld:=heap_lt0 hd
           clear hd
           go_wp2_with fail
           refine (driverCounts_any d _ dn dc kk _ (HD.out.below HB.out) hkk hdn hcf hif).mono ?_
           rintro _ w4 ⟨CA,cn,cc,rfl,hcn,S4⟩
           have HCI:=Lib.hid (S4.ints 0 rfl)
           have HB4:=Lib.hid (below_tr HB.out S4.bel)
           have HBW4:=Lib.hid (below_tr HBW.out S4.bel)
           rw [HM.out.lens.1] at hcn
           clear S4 d0 ld HALL
           subst cn
           go_wp2_with fail
           go_loopw [140] (fun i wr=>∃k:Nat,k≤sn∧i = .int .i64 (k:Int)∧Below w4.heap.size w4 wr∧(∀s:Nat,s<k→Driven (sgK (mdK d kk).sigs s).kind→(drvs d (mdK d kk)).count (s:Int)=1)) (fun i _=>sn - (intOf i).toNat)
           case atStart=>exact ⟨0,by omega,rfl,Below.refl _ _,fun s hs=>by omega⟩
           case round =>
            obtain ⟨k,hk,rfl,hb,hall⟩:=hrel
            have HALL:=Lib.hid hall
            have HBW:=Lib.hid hb
            have HB:=Lib.hid (below_tr HB4.out hb)
            clear hb hall
            by_cases hlt:k<sn
            ·have hdk:decide ((k:Int)<(sn:Int))=true:=by simp;omega
             have i0:(0:Int)≤(k:Int):=by omega
             have i1:(k:Int)<(sn:Int):=by omega
             obtain ⟨bc,oc,hCA,hbc,hcc⟩:=HCI.out.2 (by omega)
             have cc:=(HBW.out.cell (p:=⟨bc,oc+k,none⟩) hbc).trans (hcc k (by omega))
             have lbc:=below_lt HBW.out hbc
             subst hCA
             clear hcc hbc
             rw [cntL'_get _ (by omega)] at cc
             have hkl:k<(mdK d kk).sigs.length:=by rw [HM.out.lens.1];exact hlt
             obtain ⟨bs,os,hSA,hbs,s0,s1,s2⟩:=HM.out.sg.sgE (k:=k) hkl
             have HNO:=Lib.hid (fun (h:¬(Driven (sgK (mdK d kk).sigs k).kind→(drvs d (mdK d kk)).count (k:Int)=1)) (h2:MdFit d kk)=>h (h2.once k hkl))
             have HG:=Lib.hid (fun h:Driven (sgK (mdK d kk).sigs k).kind→(drvs d (mdK d kk)).count (k:Int)=1=>all_succ HALL.out h)
             have HKD:Hid ((sgK (mdK d kk).sigs k).kind=((mdK d kk).sigs[k]?.getD SgT.zero).kind):=rfl
             rw [HKD.out] at HNO HG
             generalize ((mdK d kk).sigs[k]?.getD SgT.zero).kind=kd at *
             obtain ⟨cv,hcv⟩:∃c,(drvs d (mdK d kk)).count (k:Int)=c:=⟨_,rfl⟩
             rw [hcv] at cc HNO HG
             subst hSA
             have s0:=(HB.out.cell (p:=⟨bs,os+k * 3,none⟩) hbs).trans s0
             have lbs:=below_lt HB.out hbs
             clear s1 s2 hbs HKD hkl hcv
             have hx:=heap_tr HBW.out (heap_tr HBW4.out HXM.out)
             have x0:=cell_heap (k:=0) hx rfl
             have lx:=heap_lt0 hx
             clear hx
             go_wp2_with fail
             refine (isDriven_any kd _).mono ?_
             by_cases hdv:Driven kd
             ·rw [tb_true hdv]
              rintro _ w' ⟨rfl,rfl⟩
              by_cases hc1:cv=1
              ·have dc1:((cv:Int) != 1)=false:=by simp [hc1]
               have HG2:=Lib.hid (HG.out fun _=>hc1)
               clear hdv hc1 HG HNO
               go_wp2_with fail
               go_roundw
               case rel=>exact ⟨k+1,by omega,by go_num,HBW.out,HG2.out⟩
               case measure=>simp [intOf];omega
              ·have dc1:((cv:Int) != 1)=true:=by simp;omega
               have HR:=Lib.hid (HNO.out fun h=>hc1 (h hdv))
               clear hdv hc1 HG HNO
               go_wp2_with fail
               go_ret
               exact ⟨ret_ff HR.out,HB.out⟩
             ·have HG2:=Lib.hid (HG.out fun h=>absurd h hdv)
              rw [tb_false hdv]
              rintro _ w' ⟨rfl,rfl⟩
              clear hdv HG HNO
              go_wp2_with fail
              go_roundw
              case rel=>exact ⟨k+1,by omega,by go_num,HBW.out,HG2.out⟩
              case measure=>simp [intOf];omega
            ·have hkn:k=sn:=by omega
             have hdk:decide ((k:Int)<(sn:Int))=false:=by simp;omega
             clear hlt
             subst k
             have HR:Hid (MdFit d kk):=⟨by rw [HDL.out];exact hkk,hcf,hif,HF1.out,HF2.out,HF3.out,HF4.out,fun s hs=>HALL.out s (by rw [HM.out.lens.1] at hs;omega)⟩
             go_wp2_with fail
             go_ret
             exact ⟨ret_tt HR.out,HB.out⟩
  ·have HI:=Lib.hid (tb_false hif)
   have HR:Hid (¬MdFit d kk):=fun h=>hif h.ins
   clear hif
   go_enter Tryz.func161,Tryz.ntmps161
   go_upto_region 1 with fail
   generalize w.alloc (.cells #[.slice (some ⟨bd,od,none⟩) dn dc] 48)=W9 at *
   have hx:=HXB.out
   have x0:=cell_heap (k:=0) hx rfl
   have lx:=heap_lt0 hx
   clear hx
   go_wp2_with fail
   refine (inRange_any (kk:Int) 0 ((dn:Int) - 1) _).mono ?_
   rw [H1.out]
   rintro _ w' ⟨rfl,rfl⟩
   go_wp2_with fail
   refine (countsOk_any d _ dn dc _ (HD.out.below HB0.out)).mono ?_
   rw [HC.out]
   rintro _ w1 ⟨rfl,b1⟩
   have HB1:=Lib.hid (below_tr HB0.out b1)
   have HX1:=Lib.hid (heap_tr b1 HXB.out)
   clear b1 x0 lx
   have hx:=HX1.out
   have x0:=cell_heap (k:=0) hx rfl
   have lx:=heap_lt0 hx
   clear hx
   go_wp2_with fail
   refine (instsOk_any d _ dn dc kk _ (HD.out.below HB1.out) hkk hdn hcf).mono ?_
   rw [HI.out]
   rintro _ w2 ⟨rfl,b2⟩
   have HB2:=Lib.hid (below_tr HB1.out b2)
   have HX2:=Lib.hid (heap_tr b2 HX1.out)
   clear b2 x0 lx
   go_wp2_with fail
   go_ret
   exact ⟨ret_ff HR.out,HB2.out⟩
 ·have HC:=Lib.hid (tb_false hcf)
  have HR:Hid (¬MdFit d kk):=fun h=>hcf h.cnt
  clear hcf
  go_enter Tryz.func161,Tryz.ntmps161
  go_upto_region 1 with fail
  generalize w.alloc (.cells #[.slice (some ⟨bd,od,none⟩) dn dc] 48)=W9 at *
  have hx:=HXB.out
  have x0:=cell_heap (k:=0) hx rfl
  have lx:=heap_lt0 hx
  clear hx
  go_wp2_with fail
  refine (inRange_any (kk:Int) 0 ((dn:Int) - 1) _).mono ?_
  rw [H1.out]
  rintro _ w' ⟨rfl,rfl⟩
  go_wp2_with fail
  refine (countsOk_any d _ dn dc _ (HD.out.below HB0.out)).mono ?_
  rw [HC.out]
  rintro _ w1 ⟨rfl,b1⟩
  have HB1:=Lib.hid (below_tr HB0.out b1)
  have HX1:=Lib.hid (heap_tr b1 HXB.out)
  clear b1 x0 lx
  go_wp2_with fail
  go_ret
  exact ⟨ret_ff HR.out,HB1.out⟩
set_option maxHeartbeats 2000000 in
theorem designOk_any (d:List MdT) (DA:Option Addr) (dn dc:Nat) (w:World) (h:RdC w w.heap.size (celMd d) (.slice DA dn dc)) (hd20:dn≤1048576) :
  Calls Tryz.prog 106 #[.agg #[.slice DA dn dc]] w fun e w'=>e = .returned (.bool (tb (DsFit d)))∧Below w.heap.size w w':=by
 have HDL:=Lib.hid h.mdN
 have HD:=Lib.hid h
 clear h
 have HB0:=Lib.hid (below_new (Below.refl w.heap.size w) (.cells #[.slice DA dn dc] 48))
 have HXB:=Lib.hid (heap_new w (.cells #[.slice DA dn dc] 48))
 go_enter Tryz.func106,Tryz.ntmps106
 go_upto_region 1 with fail
 generalize w.alloc (.cells #[.slice DA dn dc] 48)=W9 at *
 have hx:=HXB.out
 have x0:=cell_heap (k:=0) hx rfl
 have lx:=heap_lt0 hx
 clear hx
 go_wp2_with fail
 clear x0 lx
 go_loopw [7] (fun i wr=>∃k:Nat,k≤dn∧i = .int .i64 (k:Int)∧Below W9.heap.size W9 wr∧(∀i,i<k→MdFit d i)) (fun i _=>dn - (intOf i).toNat)
 case atStart=>exact ⟨0,by omega,rfl,Below.refl _ _,fun i hi=>by omega⟩
 case round =>
  obtain ⟨k,hk,rfl,hb,hall⟩:=hrel
  have HALL:=Lib.hid hall
  have HBW:=Lib.hid hb
  have HB:=Lib.hid (below_tr HB0.out hb)
  clear hb hall
  by_cases hlt:k<dn
  ·have hdk:decide ((k:Int)<(dn:Int))=true:=by simp;omega
   have i0:(0:Int)≤(k:Int):=by omega
   have i1:(k:Int)<(dn:Int):=by omega
   have hx:=heap_tr HBW.out HXB.out
   have x0:=cell_heap (k:=0) hx rfl
   have lx:=heap_lt0 hx
   clear hx
   go_wp2_with fail
   refine (moduleOk_any d DA dn dc k _ (HD.out.below HB.out) hlt hd20).mono ?_
   by_cases hf:MdFit d k
   ·have HG2:=Lib.hid (all_succ HALL.out hf)
    rw [tb_true hf]
    clear hf
    rintro _ w6 ⟨rfl,b6⟩
    have HB6:=Lib.hid (below_tr HBW.out b6)
    clear b6 x0 lx
    go_wp2_with fail
    go_roundw
    case rel=>exact ⟨k+1,by omega,by go_num,HB6.out,HG2.out⟩
    case measure=>simp [intOf];omega
   ·have HR:Hid (¬DsFit d):=fun h=>hf (h.md k (by rw [HDL.out];exact hlt))
    rw [tb_false hf]
    clear hf
    rintro _ w6 ⟨rfl,b6⟩
    have HB6:=Lib.hid (below_tr HB.out b6)
    clear b6 x0 lx
    go_wp2_with fail
    go_ret
    exact ⟨ret_ff HR.out,HB6.out⟩
  ·have hkn:k=dn:=by omega
   have hdk:decide ((k:Int)<(dn:Int))=false:=by simp;omega
   clear hlt
   subst k
   have hx:=heap_tr HBW.out HXB.out
   have x0:=cell_heap (k:=0) hx rfl
   have lx:=heap_lt0 hx
   clear hx
   cases h1:inR (dn:Int) 1 4 with
   | true =>
    have h2:=inR_iff.1 h1
    have HR:Hid (DsFit d):=⟨by rw [HDL.out];omega,by rw [HDL.out];omega,fun i hi=>HALL.out i (by rw [HDL.out] at hi;exact hi)⟩
    have H1:=Lib.hid h1
    clear h1 h2
    go_wp2_with fail
    refine (inRange_any (dn:Int) 1 4 _).mono ?_
    rw [H1.out]
    rintro _ w' ⟨rfl,rfl⟩
    go_wp2_with fail
    go_ret
    exact ⟨ret_tt HR.out,HB.out⟩
   | false =>
    have HR:Hid (¬DsFit d):=fun h=>not_in h1 ⟨by have:=h.pos;rw [HDL.out] at this;omega,by have:=h.le;rw [HDL.out] at this;omega⟩
    have H1:=Lib.hid h1
    clear h1
    go_wp2_with fail
    refine (inRange_any (dn:Int) 1 4 _).mono ?_
    rw [H1.out]
    rintro _ w' ⟨rfl,rfl⟩
    go_wp2_with fail
    go_ret
    exact ⟨ret_ff HR.out,HB.out⟩
end Go.Proofs.YtlinbdkbbhpdpaaGreat
