/- Kinds of signals and counts in the reference (printed by mkss1.py). The count of a signal's drivers in the reference (printed by mkss2.py). -/
import Derived.Test.YtlinbdkbbhpdpaaGreatSrF4
import Derived.Test.YtlinbdkbbhpdpaaGreatSrF5
namespace Go.Proofs.YtlinbdkbbhpdpaaGreat
set_option maxRecDepth 100000
open Go.RowKit

/-- What the reference says of the kind of a signal. -/
def kdOf (m:MdT) (s:Int):Int:=if 0≤s∧s<m.sigs.length then (sgK m.sigs s.toNat).kind else -1
theorem kdOf_in {m:MdT} {s:Int} (h:InSg m s):kdOf m s=(sgK m.sigs s.toNat).kind:=by unfold kdOf;exact if_pos h
theorem kdOf_out {m:MdT} {s:Int} (h:¬InSg m s):kdOf m s=-1:=by unfold kdOf;exact if_neg h
set_option maxHeartbeats 1000000 in
theorem sl04Kind_any (m:MdT) (SA AA JA MA:Option Addr) (sn sc an ac jn jc mn mc:Nat) (s:Int) (w:World) (h:MdRd w m SA AA JA MA sn sc an ac jn jc mn mc) :
  Calls Tryz.prog 194 #[.agg #[.slice SA sn sc,.slice AA an ac,.slice JA jn jc,.slice MA mn mc],.int .i64 s] w fun e w'=>e = .returned (.int .i64 (kdOf m s))∧Below w.heap.size w w':=by
 have HB0:=Lib.hid (below_new (Below.refl w.heap.size w) (.cells #[.slice SA sn sc,.slice AA an ac,.slice JA jn jc,.slice MA mn mc] 108))
 have HXB:=Lib.hid (heap_new w (.cells #[.slice SA sn sc,.slice AA an ac,.slice JA jn jc,.slice MA mn mc] 108))
 have HM:=Lib.hid h
 have HL:=Lib.hid h.lens.1
 clear h
 by_cases h0:s<0
 ·have HR:Hid (kdOf m s=-1):=kdOf_out fun h=>by have:=h.1;omega
  have d0:decide (s<0)=true:=decide_eq_true h0
  clear h0
  go_enter Tryz.func194,Tryz.ntmps194
  go_upto_region 1 with fail
  generalize w.alloc (.cells #[.slice SA sn sc,.slice AA an ac,.slice JA jn jc,.slice MA mn mc] 108)=W9 at *
  have hx:=HXB.out
  have x0:=cell_heap (k:=0) hx rfl
  have lx:=heap_lt0 hx
  clear hx
  go_wp2_with fail
  go_ret
  exact ⟨ret_int HR.out.symm,HB0.out⟩
 ·have d0:decide (s<0)=false:=decide_eq_false h0
  by_cases h1:s≥(sn:Int)
  ·have HR:Hid (kdOf m s=-1):=kdOf_out fun h=>by have:=h.2;rw [HL.out] at this;omega
   have d1:decide (s≥(sn:Int))=true:=decide_eq_true h1
   clear h0 h1
   go_enter Tryz.func194,Tryz.ntmps194
   go_upto_region 1 with fail
   generalize w.alloc (.cells #[.slice SA sn sc,.slice AA an ac,.slice JA jn jc,.slice MA mn mc] 108)=W9 at *
   have hx:=HXB.out
   have x0:=cell_heap (k:=0) hx rfl
   have lx:=heap_lt0 hx
   clear hx
   go_wp2_with fail
   go_ret
   exact ⟨ret_int HR.out.symm,HB0.out⟩
  ·have d1:decide (s≥(sn:Int))=false:=decide_eq_false h1
   obtain ⟨k,rfl⟩:∃k:Nat,s=(k:Int):=⟨s.toNat,by omega⟩
   have hkn:k<sn:=by omega
   obtain ⟨bs,os,rfl,hbs,c0,c1,c2⟩:=HM.out.sg.sgE (k:=k) (by rw [HL.out];exact hkn)
   rw [←HB0.out.cell (p:=⟨bs,os+k * 3,none⟩) hbs] at c0
   have lbs:=below_lt HB0.out hbs
   clear c1 c2 hbs
   have HKD:Hid (kdOf m (k:Int)=(m.sigs[k]?.getD SgT.zero).kind):=by show _=_;rw [kdOf_in (show InSg m (k:Int) from ⟨by omega,by rw [HL.out];omega⟩),Int.toNat_natCast];rfl
   generalize (m.sigs[k]?.getD SgT.zero).kind=kd at *
   have i0:(0:Int)≤(k:Int):=by omega
   have i1:(k:Int)<(sn:Int):=by omega
   clear h0 h1
   go_enter Tryz.func194,Tryz.ntmps194
   go_upto_region 1 with fail
   generalize w.alloc (.cells #[.slice (some ⟨bs,os,none⟩) sn sc,.slice AA an ac,.slice JA jn jc,.slice MA mn mc] 108)=W9 at *
   have hx:=HXB.out
   have x0:=cell_heap (k:=0) hx rfl
   have lx:=heap_lt0 hx
   clear hx
   go_wp2_with fail
   go_ret
   exact ⟨ret_int HKD.out.symm,HB0.out⟩
theorem drives_iff {m:MdT} {s:Int}:Drives m s↔kdOf m s=1∨kdOf m s=2:=by
 by_cases h:InSg m s
 ·rw [kdOf_in h]
  exact ⟨fun h2=>h2.2,fun h2=>⟨h,h2⟩⟩
 ·rw [kdOf_out h]
  exact ⟨fun h2=>absurd h2.1 h,fun h2=>by omega⟩
set_option maxHeartbeats 1000000 in
theorem sl04Driven_any (m:MdT) (SA AA JA MA:Option Addr) (sn sc an ac jn jc mn mc:Nat) (s:Int) (w:World) (h:MdRd w m SA AA JA MA sn sc an ac jn jc mn mc) :
  Calls Tryz.prog 193 #[.agg #[.slice SA sn sc,.slice AA an ac,.slice JA jn jc,.slice MA mn mc],.int .i64 s] w fun e w'=>e = .returned (.bool (tb (Drives m s)))∧Below w.heap.size w w':=by
 have HB0:=Lib.hid (below_new (Below.refl w.heap.size w) (.cells #[.slice SA sn sc,.slice AA an ac,.slice JA jn jc,.slice MA mn mc] 108))
 have HXB:=Lib.hid (heap_new w (.cells #[.slice SA sn sc,.slice AA an ac,.slice JA jn jc,.slice MA mn mc] 108))
 have HM:=Lib.hid h
 clear h
 have hE:=drives_iff (m:=m) (s:=s)
 obtain ⟨kd,hk⟩:∃k,kdOf m s=k:=⟨_,rfl⟩
 rw [hk] at hE
 have HK:=Lib.hid hk
 clear hk
 by_cases h1:kd=1
 ·have HR:=Lib.hid (hE.2 (.inl h1))
  have d1:(kd==1)=true:=by simp [h1]
  clear h1 hE
  go_enter Tryz.func193,Tryz.ntmps193
  go_upto_region 1 with fail
  generalize w.alloc (.cells #[.slice SA sn sc,.slice AA an ac,.slice JA jn jc,.slice MA mn mc] 108)=W9 at *
  have hx:=HXB.out
  have x0:=cell_heap (k:=0) hx rfl
  have x1:=cell_heap (k:=1) hx rfl
  have x2:=cell_heap (k:=2) hx rfl
  have x3:=cell_heap (k:=3) hx rfl
  have lx:=heap_lt0 hx
  clear hx
  go_wp2_with fail
  refine (sl04Kind_any m SA AA JA MA sn sc an ac jn jc mn mc s _ (HM.out.below HB0.out)).mono ?_
  rw [HK.out]
  rintro _ w1 ⟨rfl,b1⟩
  have HB1:=Lib.hid (below_tr HB0.out b1)
  clear b1 x0 x1 x2 x3 lx
  go_wp2_with fail
  go_ret
  exact ⟨ret_tt HR.out,HB1.out⟩
 ·have d1:(kd==1)=false:=by simp [h1]
  by_cases h2:kd=2
  ·have HR:=Lib.hid (hE.2 (.inr h2))
   have d2:(kd==2)=true:=by simp [h2]
   clear h1 h2 hE
   go_enter Tryz.func193,Tryz.ntmps193
   go_upto_region 1 with fail
   generalize w.alloc (.cells #[.slice SA sn sc,.slice AA an ac,.slice JA jn jc,.slice MA mn mc] 108)=W9 at *
   have hx:=HXB.out
   have x0:=cell_heap (k:=0) hx rfl
   have x1:=cell_heap (k:=1) hx rfl
   have x2:=cell_heap (k:=2) hx rfl
   have x3:=cell_heap (k:=3) hx rfl
   have lx:=heap_lt0 hx
   clear hx
   go_wp2_with fail
   refine (sl04Kind_any m SA AA JA MA sn sc an ac jn jc mn mc s _ (HM.out.below HB0.out)).mono ?_
   rw [HK.out]
   rintro _ w1 ⟨rfl,b1⟩
   have HB1:=Lib.hid (below_tr HB0.out b1)
   clear b1 x0 x1 x2 x3 lx
   go_wp2_with fail
   go_ret
   exact ⟨ret_tt HR.out,HB1.out⟩
  ·have HR:=Lib.hid (fun h=>(hE.1 h).elim h1 h2)
   have d2:(kd==2)=false:=by simp [h2]
   clear h1 h2 hE
   go_enter Tryz.func193,Tryz.ntmps193
   go_upto_region 1 with fail
   generalize w.alloc (.cells #[.slice SA sn sc,.slice AA an ac,.slice JA jn jc,.slice MA mn mc] 108)=W9 at *
   have hx:=HXB.out
   have x0:=cell_heap (k:=0) hx rfl
   have x1:=cell_heap (k:=1) hx rfl
   have x2:=cell_heap (k:=2) hx rfl
   have x3:=cell_heap (k:=3) hx rfl
   have lx:=heap_lt0 hx
   clear hx
   go_wp2_with fail
   refine (sl04Kind_any m SA AA JA MA sn sc an ac jn jc mn mc s _ (HM.out.below HB0.out)).mono ?_
   rw [HK.out]
   rintro _ w1 ⟨rfl,b1⟩
   have HB1:=Lib.hid (below_tr HB0.out b1)
   clear b1 x0 x1 x2 x3 lx
   go_wp2_with fail
   go_ret
   exact ⟨ret_ff HR.out,HB1.out⟩
set_option maxHeartbeats 8000000 in
theorem sl04Counts_any (d:List MdT) (DA:Option Addr) (dn dc kk:Nat) (w:World) (h:RdC w w.heap.size (celMd d) (.slice DA dn dc)) (hkk:kk<dn) :
  Calls Tryz.prog 191 #[.agg #[.slice DA dn dc],.int .i64 (kk:Int)] w fun e w'=>e = .returned (.bool (tb (CntFit d∧InsFit d kk)))∧Below w.heap.size w w':=by
 have HB0:=Lib.hid (below_new (Below.refl w.heap.size w) (.cells #[.slice DA dn dc] 48))
 have HXB:=Lib.hid (heap_new w (.cells #[.slice DA dn dc] 48))
 have HDL:=Lib.hid h.mdN
 have HD:=Lib.hid h
 clear h
 have dk0:decide ((kk:Int)<0)=false:=decide_eq_false (by omega)
 have dk1:decide (dn≤kk)=false:=decide_eq_false (by omega)
 by_cases h4:dn≤4
 ·have d4:decide ((4:Int)<(dn:Int))=false:=decide_eq_false (by omega)
  go_enter Tryz.func191,Tryz.ntmps191
  go_upto_region 1 with fail
  generalize w.alloc (.cells #[.slice DA dn dc] 48)=W9 at *
  have hx:=HXB.out
  have x0:=cell_heap (k:=0) hx rfl
  have lx:=heap_lt0 hx
  clear hx
  go_wp2_with fail
  clear x0 lx
  go_loopw [5] (fun i wr=>∃k:Nat,k≤dn∧i = .int .i64 (k:Int)∧Below W9.heap.size W9 wr∧(∀j,j<k→MdCnt (mdK d j))) (fun i _=>dn - (intOf i).toNat)
  case atStart=>exact ⟨0,by omega,rfl,Below.refl _ _,fun j hj=>by omega⟩
  case round =>
   obtain ⟨k,hk,rfl,hb,hall⟩:=hrel
   have HALL:=Lib.hid hall
   have HBW:=Lib.hid hb
   have HB:=Lib.hid (below_tr HB0.out hb)
   clear hb hall
   by_cases hlt:k<dn
   ·have hdk:decide ((k:Int)<(dn:Int))=true:=by simp;omega
    have i0:(0:Int)≤(k:Int):=by omega
    have i1:(k:Int)<(dn:Int):=by omega
    obtain ⟨bd,od,SA,AA,JA,MA,sn,sc,an,ac,jn,jc,mn,mc,rfl,hbd,e0,e1,e2,e3,rm⟩:=HD.out.md (k:=k) hlt
    have HM:=Lib.hid rm
    clear rm
    rw [←HB.out.cell (p:=⟨bd,od+k * 4,none⟩) hbd] at e0
    rw [←HB.out.cell (p:=⟨bd,od+k * 4+1,none⟩) hbd] at e1
    rw [←HB.out.cell (p:=⟨bd,od+k * 4+2,none⟩) hbd] at e2
    rw [←HB.out.cell (p:=⟨bd,od+k * 4+3,none⟩) hbd] at e3
    have lbd:=below_lt HB.out hbd
    have HNO:=Lib.hid (fun (h:¬MdCnt (mdK d k)) (h2:CntFit d∧InsFit d kk)=>h (h2.1.2 k (by rw [HDL.out];exact hlt)))
    have HG:=Lib.hid (fun h:MdCnt (mdK d k)=>all_succ HALL.out h)
    clear hbd
    have hx:=heap_tr HBW.out HXB.out
    have x0:=cell_heap (k:=0) hx rfl
    have lx:=heap_lt0 hx
    clear hx
    by_cases c0:sn≤30
    ·have q0:decide ((30:Int)<(sn:Int))=false:=decide_eq_false (by omega)
     by_cases c1:an≤30
     ·have q1:decide ((30:Int)<(an:Int))=false:=decide_eq_false (by omega)
      by_cases c2:jn≤3
      ·have q2:decide ((3:Int)<(jn:Int))=false:=decide_eq_false (by omega)
       by_cases c3:mn≤2
       ·have q3:decide ((2:Int)<(mn:Int))=false:=decide_eq_false (by omega)
        have HBV:=Lib.hid (below_new HBW.out (.cells #[.slice SA sn sc,.slice AA an ac,.slice JA jn jc,.slice MA mn mc] 108))
        have HB1:=Lib.hid (below_new HB.out (.cells #[.slice SA sn sc,.slice AA an ac,.slice JA jn jc,.slice MA mn mc] 108))
        have hy:=heap_new wr (.cells #[.slice SA sn sc,.slice AA an ac,.slice JA jn jc,.slice MA mn mc] 108)
        have HY:=Lib.hid hy
        have y0:=cell_heap (k:=0) hy rfl
        have y1:=cell_heap (k:=1) hy rfl
        have y2:=cell_heap (k:=2) hy rfl
        have y3:=cell_heap (k:=3) hy rfl
        have ly:=heap_lt0 hy
        clear hy
        go_upto_region 7 with fail
        generalize wr.alloc (.cells #[.slice SA sn sc,.slice AA an ac,.slice JA jn jc,.slice MA mn mc] 108)=W5 at *
        go_wp2_with fail
        go_roundw
        case rel=>exact ⟨k+1,by omega,by go_num,HBV.out,HG.out ⟨by rw [HM.out.lens.1];exact c0,by rw [HM.out.lens.2.1];exact c1,by rw [HM.out.lens.2.2.1];exact c2,by rw [HM.out.lens.2.2.2];exact c3⟩⟩
        case measure=>simp [intOf];omega
       ·have q3:decide ((2:Int)<(mn:Int))=true:=decide_eq_true (by omega)
        have HR:=Lib.hid (HNO.out fun h=>c3 (by have h1:=h.mm;rw [HM.out.lens.2.2.2] at h1;exact h1))
        clear HG HNO c3
        have HBV:=Lib.hid (below_new HBW.out (.cells #[.slice SA sn sc,.slice AA an ac,.slice JA jn jc,.slice MA mn mc] 108))
        have HB1:=Lib.hid (below_new HB.out (.cells #[.slice SA sn sc,.slice AA an ac,.slice JA jn jc,.slice MA mn mc] 108))
        have hy:=heap_new wr (.cells #[.slice SA sn sc,.slice AA an ac,.slice JA jn jc,.slice MA mn mc] 108)
        have HY:=Lib.hid hy
        have y0:=cell_heap (k:=0) hy rfl
        have y1:=cell_heap (k:=1) hy rfl
        have y2:=cell_heap (k:=2) hy rfl
        have y3:=cell_heap (k:=3) hy rfl
        have ly:=heap_lt0 hy
        clear hy
        go_upto_region 7 with fail
        generalize wr.alloc (.cells #[.slice SA sn sc,.slice AA an ac,.slice JA jn jc,.slice MA mn mc] 108)=W5 at *
        go_wp2_with fail
        go_ret
        exact ⟨ret_ff HR.out,HB1.out⟩
      ·have q2:decide ((3:Int)<(jn:Int))=true:=decide_eq_true (by omega)
       have HR:=Lib.hid (HNO.out fun h=>c2 (by have h1:=h.ins;rw [HM.out.lens.2.2.1] at h1;exact h1))
       clear HG HNO c2
       have HBV:=Lib.hid (below_new HBW.out (.cells #[.slice SA sn sc,.slice AA an ac,.slice JA jn jc,.slice MA mn mc] 108))
       have HB1:=Lib.hid (below_new HB.out (.cells #[.slice SA sn sc,.slice AA an ac,.slice JA jn jc,.slice MA mn mc] 108))
       have hy:=heap_new wr (.cells #[.slice SA sn sc,.slice AA an ac,.slice JA jn jc,.slice MA mn mc] 108)
       have HY:=Lib.hid hy
       have y0:=cell_heap (k:=0) hy rfl
       have y1:=cell_heap (k:=1) hy rfl
       have y2:=cell_heap (k:=2) hy rfl
       have y3:=cell_heap (k:=3) hy rfl
       have ly:=heap_lt0 hy
       clear hy
       go_upto_region 7 with fail
       generalize wr.alloc (.cells #[.slice SA sn sc,.slice AA an ac,.slice JA jn jc,.slice MA mn mc] 108)=W5 at *
       go_wp2_with fail
       go_ret
       exact ⟨ret_ff HR.out,HB1.out⟩
     ·have q1:decide ((30:Int)<(an:Int))=true:=decide_eq_true (by omega)
      have HR:=Lib.hid (HNO.out fun h=>c1 (by have h1:=h.asg;rw [HM.out.lens.2.1] at h1;exact h1))
      clear HG HNO c1
      have HBV:=Lib.hid (below_new HBW.out (.cells #[.slice SA sn sc,.slice AA an ac,.slice JA jn jc,.slice MA mn mc] 108))
      have HB1:=Lib.hid (below_new HB.out (.cells #[.slice SA sn sc,.slice AA an ac,.slice JA jn jc,.slice MA mn mc] 108))
      have hy:=heap_new wr (.cells #[.slice SA sn sc,.slice AA an ac,.slice JA jn jc,.slice MA mn mc] 108)
      have HY:=Lib.hid hy
      have y0:=cell_heap (k:=0) hy rfl
      have y1:=cell_heap (k:=1) hy rfl
      have y2:=cell_heap (k:=2) hy rfl
      have y3:=cell_heap (k:=3) hy rfl
      have ly:=heap_lt0 hy
      clear hy
      go_upto_region 7 with fail
      generalize wr.alloc (.cells #[.slice SA sn sc,.slice AA an ac,.slice JA jn jc,.slice MA mn mc] 108)=W5 at *
      go_wp2_with fail
      go_ret
      exact ⟨ret_ff HR.out,HB1.out⟩
    ·have q0:decide ((30:Int)<(sn:Int))=true:=decide_eq_true (by omega)
     have HR:=Lib.hid (HNO.out fun h=>c0 (by have h1:=h.sg;rw [HM.out.lens.1] at h1;exact h1))
     clear HG HNO c0
     have HBV:=Lib.hid (below_new HBW.out (.cells #[.slice SA sn sc,.slice AA an ac,.slice JA jn jc,.slice MA mn mc] 108))
     have HB1:=Lib.hid (below_new HB.out (.cells #[.slice SA sn sc,.slice AA an ac,.slice JA jn jc,.slice MA mn mc] 108))
     have hy:=heap_new wr (.cells #[.slice SA sn sc,.slice AA an ac,.slice JA jn jc,.slice MA mn mc] 108)
     have HY:=Lib.hid hy
     have y0:=cell_heap (k:=0) hy rfl
     have y1:=cell_heap (k:=1) hy rfl
     have y2:=cell_heap (k:=2) hy rfl
     have y3:=cell_heap (k:=3) hy rfl
     have ly:=heap_lt0 hy
     clear hy
     go_upto_region 7 with fail
     generalize wr.alloc (.cells #[.slice SA sn sc,.slice AA an ac,.slice JA jn jc,.slice MA mn mc] 108)=W5 at *
     go_wp2_with fail
     go_ret
     exact ⟨ret_ff HR.out,HB1.out⟩
   ·have hkn:k=dn:=by omega
    have hdk:decide ((k:Int)<(dn:Int))=false:=by simp;omega
    clear hlt
    subst k
    have hcf:CntFit d:=⟨by rw [HDL.out];exact h4,fun j hj=>HALL.out j (by rw [HDL.out] at hj;exact hj)⟩
    obtain ⟨bd,od,SAK,AAK,JA,MAK,snK,scK,anK,acK,jn,jc,mnK,mcK,hDAK,hbdK,e0K,e1K,e2K,e3K,rmK⟩:=HD.out.md (k:=kk) hkk
    subst hDAK
    have HMK:=Lib.hid rmK
    clear rmK e0K e1K e3K
    have hj3:jn≤3:=by have h1:=(hcf.2 kk (by rw [HDL.out];exact hkk)).ins;rw [HMK.out.lens.2.2.1] at h1;exact h1
    have j0:(0:Int)≤(kk:Int):=by omega
    have j1:(kk:Int)<(dn:Int):=by omega
    have hx:=heap_tr HBW.out HXB.out
    have x0:=cell_heap (k:=0) hx rfl
    have lx:=heap_lt0 hx
    clear hx
    go_wp2_with fail
    clear x0 lx
    go_loopw [7] (fun i wr=>∃k:Nat,k≤jn∧i = .int .i64 (k:Int)∧Below W9.heap.size W9 wr∧(∀j,j<k→InOne d kk ((mdK d kk).insts[j]?.getD InT.zero))) (fun i _=>jn - (intOf i).toNat)
    case atStart=>exact ⟨0,by omega,rfl,HBW.out,fun j hj=>by omega⟩
    case round =>
     obtain ⟨k,hk,rfl,hb,hall⟩:=hrel
     have HALL:=Lib.hid hall
     have HBW:=Lib.hid hb
     have HB:=Lib.hid (below_tr HB0.out hb)
     clear hb hall
     by_cases hlt:k<jn
     ·have hdk:decide ((k:Int)<(jn:Int))=true:=by simp;omega
      have i0:(0:Int)≤(k:Int):=by omega
      have i1:(k:Int)<(jn:Int):=by omega
      have hkl:k<(mdK d kk).insts.length:=by rw [HMK.out.lens.2.2.1];exact hlt
      obtain ⟨bi,oi,PA,pn,pc,rfl,hbi,c0,c1,c2,r0⟩:=HMK.out.ins.inE (k:=k) hkl
      rw [←HB.out.cell (p:=⟨bi,oi+k * 3,none⟩) hbi] at c0
      rw [←HB.out.cell (p:=⟨bi,oi+k * 3+1,none⟩) hbi] at c1
      rw [←HB.out.cell (p:=⟨bi,oi+k * 3+2,none⟩) hbi] at c2
      have lbi:=below_lt HB.out hbi
      have HR0:=Lib.hid r0
      clear hkl hbi r0
      have HNO:=Lib.hid (fun (h:¬InOne d kk ((mdK d kk).insts[k]?.getD InT.zero)) (h2:CntFit d∧InsFit d kk)=>inOne_no h (by rw [HMK.out.lens.2.2.1];exact hlt) h2.2)
      have HG:=Lib.hid (fun h:InOne d kk ((mdK d kk).insts[k]?.getD InT.zero)=>all_succ HALL.out h)
      generalize (mdK d kk).insts[k]?.getD InT.zero=q at *
      obtain ⟨mo,pa,po⟩:=q
      simp only at c0 c1 c2 HR0
      have HPL:=Lib.hid HR0.out.ints.1
      have HBV:=Lib.hid (below_new HBW.out (.cells #[.int .i64 mo,.int .i64 pa,.slice PA pn pc] 202))
      have hx:=heap_tr HBW.out HXB.out
      have x0:=cell_heap (k:=0) hx rfl
      have lx:=heap_lt0 hx
      clear hx
      have b2:=(HB.out.cell (p:=⟨bd,od+kk * 4+2,none⟩) hbdK).trans e2K
      have lbK:=below_lt HB.out hbdK
      have HB1:=Lib.hid (below_new HB.out (.cells #[.int .i64 mo,.int .i64 pa,.slice PA pn pc] 202))
      have hy:=heap_new wr (.cells #[.int .i64 mo,.int .i64 pa,.slice PA pn pc] 202)
      have HY:=Lib.hid hy
      have y0:=cell_heap (k:=0) hy rfl
      have y1:=cell_heap (k:=1) hy rfl
      have y2:=cell_heap (k:=2) hy rfl
      have ly:=heap_lt0 hy
      clear hy
      go_upto_region 13 with fail
      clear x0 lx b2 lbK
      generalize wr.alloc (.cells #[.int .i64 mo,.int .i64 pa,.slice PA pn pc] 202)=W5 at *
      have hx:=heap_tr HBV.out HXB.out
      have x0:=cell_heap (k:=0) hx rfl
      have lx:=heap_lt0 hx
      clear hx
      by_cases hm0:mo<0
      ·have HR:=Lib.hid (HNO.out fun h=>by have:=h.1.1;simp only at this;omega)
       have dm0:decide (mo<0)=true:=decide_eq_true hm0
       clear hm0 HG HNO
       have hsub:=sub_ne W5
       have hsc:=sub_cell W5
       refine wp_region_below W5 (by kernel_rfl) (by kernel_rfl) (Below.refl _ _) ?_
       repeat (go_big_quiet_step (fail))
       refine wpQuiet_nil ?_
       rintro _ ⟨⟨w5,hD⟩,rfl⟩
       clear hsub hsc
       have HB2:=Lib.hid (below_tr HB1.out hD)
       clear hD
       go_wp2_with fail
       go_ret
       exact ⟨ret_ff HR.out,HB2.out⟩
      ·have dm0:decide (mo<0)=false:=decide_eq_false hm0
       by_cases hmk:mo≥(kk:Int)
       ·have HR:=Lib.hid (HNO.out fun h=>by have:=h.1.2;simp only at this;omega)
        have dmk:decide (mo≥(kk:Int))=true:=decide_eq_true hmk
        clear hm0 hmk HG HNO
        have hsub:=sub_ne W5
        have hsc:=sub_cell W5
        refine wp_region_below W5 (by kernel_rfl) (by kernel_rfl) (Below.refl _ _) ?_
        repeat (go_big_quiet_step (fail))
        refine wpQuiet_nil ?_
        rintro _ ⟨⟨w5,hD⟩,rfl⟩
        clear hsub hsc
        have HB2:=Lib.hid (below_tr HB1.out hD)
        clear hD
        go_wp2_with fail
        go_ret
        exact ⟨ret_ff HR.out,HB2.out⟩
       ·have dmk:decide (mo≥(kk:Int))=false:=decide_eq_false hmk
        obtain ⟨M,rfl⟩:∃M:Nat,mo=(M:Int):=⟨mo.toNat,by omega⟩
        obtain ⟨bd2,od2,SA2,AA2,JA2,MA2,sn2,sc2,an2,ac2,jn2,jc2,mn2,mc2,hDA2,hbd2,e02,e12,e22,e32,rm2⟩:=HD.out.md (k:=M) (by omega)
        have HM2:=Lib.hid rm2
        clear rm2
        injection hDA2 with hDA2
        injection hDA2 with hDA2 hDA3
        subst hDA2 hDA3
        rw [←HB1.out.cell (p:=⟨bd,od+M * 4,none⟩) hbd2] at e02
        rw [←HB1.out.cell (p:=⟨bd,od+M * 4+1,none⟩) hbd2] at e12
        rw [←HB1.out.cell (p:=⟨bd,od+M * 4+2,none⟩) hbd2] at e22
        rw [←HB1.out.cell (p:=⟨bd,od+M * 4+3,none⟩) hbd2] at e32
        have lbd2:=below_lt HB1.out hbd2
        have HPO:Hid (InOne d kk ⟨(M:Int),pa,po⟩↔(pn:Int)=((portsOf (mdK d M)).length:Int)):=by
         show (_∧po.length=(portsOf (mdK d (M:Int).toNat)).length)↔_
         rw [Int.toNat_natCast,HPL.out]
         exact ⟨fun h=>by rw [h.2],fun h=>⟨⟨by simp only;omega,by simp only;omega⟩,by omega⟩⟩
        have HPQ:=Lib.hid (fun (v:World) (hv:Below W5.heap.size W5 v)=>sportsOf_any (mdK d M) SA2 AA2 JA2 MA2 sn2 sc2 an2 ac2 jn2 jc2 mn2 mc2 v (HM2.out.below (below_tr HB1.out hv)))
        have i2:(0:Int)≤(M:Int):=by omega
        have i3:(M:Int)<(dn:Int):=by omega
        have hpl:=portsOf_len (mdK d M)
        obtain ⟨pl,hple⟩:∃n,(portsOf (mdK d M)).length=n:=⟨_,rfl⟩
        rw [hple] at HPO HPQ hpl
        clear hple
        by_cases hpe:pn=pl
        ·have dp:((pn:Int) != (pl:Int))=false:=by simp [hpe]
         have HG2:=Lib.hid (HG.out (HPO.out.2 (by omega)))
         clear HG HNO hpe
         have HKP:=Lib.hid (fun (v:World) (hv:Below W5.heap.size W5 v)=>(⟨(hv.cell lx).trans x0,(hv.cell ly).trans y0,(hv.cell ly).trans y2,(hv.cell lbd2).trans e02,(hv.cell lbd2).trans e12,(hv.cell lbd2).trans e22,(hv.cell lbd2).trans e32⟩:v.cell? ⟨w.heap.size,0,none⟩=some (.slice (some ⟨bd,od,none⟩) dn dc)∧v.cell? ⟨wr.heap.size,0,none⟩=some (.int .i64 (M:Int))∧v.cell? ⟨wr.heap.size,2,none⟩=some (.slice PA pn pc)∧v.cell? ⟨bd,od+M * 4,none⟩=some (.slice SA2 sn2 sc2)∧v.cell? ⟨bd,od+M * 4+1,none⟩=some (.slice AA2 an2 ac2)∧v.cell? ⟨bd,od+M * 4+2,none⟩=some (.slice JA2 jn2 jc2)∧v.cell? ⟨bd,od+M * 4+3,none⟩=some (.slice MA2 mn2 mc2)))
         have hD:=(Below.refl W5.heap.size W5).drew
         go_region_held3 (fun w'=>w'.cell? ⟨w.heap.size,0,none⟩=some (.slice (some ⟨bd,od,none⟩) dn dc)∧w'.cell? ⟨wr.heap.size,0,none⟩=some (.int .i64 (M:Int))∧w'.cell? ⟨wr.heap.size,2,none⟩=some (.slice PA pn pc)∧w'.cell? ⟨bd,od+M * 4,none⟩=some (.slice SA2 sn2 sc2)∧w'.cell? ⟨bd,od+M * 4+1,none⟩=some (.slice AA2 an2 ac2)∧w'.cell? ⟨bd,od+M * 4+2,none⟩=some (.slice JA2 jn2 jc2)∧w'.cell? ⟨bd,od+M * 4+3,none⟩=some (.slice MA2 mn2 mc2))
          (with_reducible exact HKP.out _ hD)
          ((first
           | (go_at_call 196;(with_reducible refine (HPQ.out _ hD).mono ?_);rintro _ v4 ⟨A4,n4,rfl,S4⟩;replace hD:=below_tr hD S4.bel;clear S4)))
         clear HKP
         have HB2:=Lib.hid (below_tr HBV.out hD)
         clear hD
         go_wp2_with fail
         go_roundw
         case rel=>exact ⟨k+1,by omega,by go_num,HB2.out,HG2.out⟩
         case measure=>simp [intOf];omega
        ·have dp:((pn:Int) != (pl:Int))=true:=by simp;omega
         have HR:=Lib.hid (HNO.out fun h=>hpe (by have:=HPO.out.1 h;omega))
         clear HG HNO hpe
         have HKP:=Lib.hid (fun (v:World) (hv:Below W5.heap.size W5 v)=>(⟨(hv.cell lx).trans x0,(hv.cell ly).trans y0,(hv.cell ly).trans y2,(hv.cell lbd2).trans e02,(hv.cell lbd2).trans e12,(hv.cell lbd2).trans e22,(hv.cell lbd2).trans e32⟩:v.cell? ⟨w.heap.size,0,none⟩=some (.slice (some ⟨bd,od,none⟩) dn dc)∧v.cell? ⟨wr.heap.size,0,none⟩=some (.int .i64 (M:Int))∧v.cell? ⟨wr.heap.size,2,none⟩=some (.slice PA pn pc)∧v.cell? ⟨bd,od+M * 4,none⟩=some (.slice SA2 sn2 sc2)∧v.cell? ⟨bd,od+M * 4+1,none⟩=some (.slice AA2 an2 ac2)∧v.cell? ⟨bd,od+M * 4+2,none⟩=some (.slice JA2 jn2 jc2)∧v.cell? ⟨bd,od+M * 4+3,none⟩=some (.slice MA2 mn2 mc2)))
         have hD:=(Below.refl W5.heap.size W5).drew
         go_region_held3 (fun w'=>w'.cell? ⟨w.heap.size,0,none⟩=some (.slice (some ⟨bd,od,none⟩) dn dc)∧w'.cell? ⟨wr.heap.size,0,none⟩=some (.int .i64 (M:Int))∧w'.cell? ⟨wr.heap.size,2,none⟩=some (.slice PA pn pc)∧w'.cell? ⟨bd,od+M * 4,none⟩=some (.slice SA2 sn2 sc2)∧w'.cell? ⟨bd,od+M * 4+1,none⟩=some (.slice AA2 an2 ac2)∧w'.cell? ⟨bd,od+M * 4+2,none⟩=some (.slice JA2 jn2 jc2)∧w'.cell? ⟨bd,od+M * 4+3,none⟩=some (.slice MA2 mn2 mc2))
          (with_reducible exact HKP.out _ hD)
          ((first
           | (go_at_call 196;(with_reducible refine (HPQ.out _ hD).mono ?_);rintro _ v4 ⟨A4,n4,rfl,S4⟩;replace hD:=below_tr hD S4.bel;clear S4)))
         clear HKP
         have HB2:=Lib.hid (below_tr HB1.out hD)
         clear hD
         go_wp2_with fail
         go_ret
         exact ⟨ret_ff HR.out,HB2.out⟩
     ·have hkn:k=jn:=by omega
      have hdk:decide ((k:Int)<(jn:Int))=false:=by simp;omega
      clear hlt
      subst k
      have HR:Hid (CntFit d∧InsFit d kk):=⟨hcf,fun j hj=>HALL.out j (by rw [HMK.out.lens.2.2.1] at hj;exact hj)⟩
      have hx:=heap_tr HBW.out HXB.out
      have x0:=cell_heap (k:=0) hx rfl
      have lx:=heap_lt0 hx
      clear hx
      have b2:=(HB.out.cell (p:=⟨bd,od+kk * 4+2,none⟩) hbdK).trans e2K
      have lbK:=below_lt HB.out hbdK
      go_wp2_with fail
      go_ret
      exact ⟨ret_tt HR.out,HB.out⟩
 ·have d4:decide ((4:Int)<(dn:Int))=true:=decide_eq_true (by omega)
  have HR:Hid (¬(CntFit d∧InsFit d kk)):=fun h=>h4 (by rw [←HDL.out];exact h.1.1)
  go_enter Tryz.func191,Tryz.ntmps191
  go_upto_region 1 with fail
  generalize w.alloc (.cells #[.slice DA dn dc] 48)=W9 at *
  have hx:=HXB.out
  have x0:=cell_heap (k:=0) hx rfl
  have lx:=heap_lt0 hx
  clear hx
  go_wp2_with fail
  go_ret
  exact ⟨ret_ff HR.out,HB0.out⟩
end Go.Proofs.YtlinbdkbbhpdpaaGreat

namespace Go.Proofs.YtlinbdkbbhpdpaaGreat
set_option maxRecDepth 100000
open Go.RowKit

theorem count_one (x s:Int):[x].count s=if x=s then 1 else 0:=by
 rw [List.count_singleton]
 by_cases h:x=s
 ·simp [h]
 ·simp [h]
set_option maxHeartbeats 16000000 in
theorem sdriverCount_any (d:List MdT) (DA:Option Addr) (dn dc kk S:Nat) (w:World) (h:RdC w w.heap.size (celMd d) (.slice DA dn dc)) (hkk:kk<dn) (hcf:CntFit d) (hif:InsFit d kk) (hS:S<(mdK d kk).sigs.length) :
  Calls Tryz.prog 192 #[.agg #[.slice DA dn dc],.int .i64 (kk:Int),.int .i64 (S:Int)] w fun e w'=>e = .returned (.int .i64 (((drvs d (mdK d kk)).count (S:Int):Nat):Int))∧Below w.heap.size w w':=by
 have HDL:=Lib.hid h.mdN
 have HD:=Lib.hid h
 clear h
 obtain ⟨bd,od,SA,AA,JA,MA,sn,sc,an,ac,jn,jc,mn,mc,rfl,hbd,e0,e1,e2,e3,rm⟩:=HD.out.md (k:=kk) hkk
 have HM:=Lib.hid rm
 clear rm
 have hcn:=hcf.2 kk (by rw [HDL.out];exact hkk)
 have hdn:dn≤4:=by have:=hcf.1;rw [HDL.out] at this;exact this
 rw [HM.out.lens.1] at hS
 have hs30:sn≤30:=by have h1:=hcn.sg;rw [HM.out.lens.1] at h1;exact h1
 have ha30:an≤30:=by have h1:=hcn.asg;rw [HM.out.lens.2.1] at h1;exact h1
 have hj3:jn≤3:=by have h1:=hcn.ins;rw [HM.out.lens.2.2.1] at h1;exact h1
 have hm2:mn≤2:=by have h1:=hcn.mm;rw [HM.out.lens.2.2.2] at h1;exact h1
 clear hcn
 have HB0:=Lib.hid (below_new (Below.refl w.heap.size w) (.cells #[.slice (some ⟨bd,od,none⟩) dn dc] 48))
 have HXB:=Lib.hid (heap_new w (.cells #[.slice (some ⟨bd,od,none⟩) dn dc] 48))
 have HC:=Lib.hid (tb_true (And.intro hcf hif))
 have HCA:=Lib.hid (fun (v:World) (hv:RdC v v.heap.size (celMd d) (.slice (some ⟨bd,od,none⟩) dn dc))=>sl04Counts_any d _ dn dc kk v hv hkk)
 have j0:(0:Int)≤(kk:Int):=by omega
 have j1:(kk:Int)<(dn:Int):=by omega
 have ds0:decide ((S:Int)<0)=false:=decide_eq_false (by omega)
 have ds1:decide (sn≤S)=false:=decide_eq_false (by omega)
 go_enter Tryz.func192,Tryz.ntmps192
 go_upto_region 1 with fail
 generalize w.alloc (.cells #[.slice (some ⟨bd,od,none⟩) dn dc] 48)=W9 at *
 have hx:=HXB.out
 have x0:=cell_heap (k:=0) hx rfl
 have lx:=heap_lt0 hx
 clear hx
 go_wp2_with fail
 refine (HCA.out _ (HD.out.below HB0.out)).mono ?_
 rw [HC.out]
 rintro _ w2 ⟨rfl,b2⟩
 have HB2:=Lib.hid (below_tr HB0.out b2)
 have HX2:=Lib.hid (heap_tr b2 HXB.out)
 clear b2 x0 lx
 have hx:=HX2.out
 have x0:=cell_heap (k:=0) hx rfl
 have lx:=heap_lt0 hx
 clear hx
 rw [←HB2.out.cell (p:=⟨bd,od+kk * 4,none⟩) hbd] at e0
 rw [←HB2.out.cell (p:=⟨bd,od+kk * 4+1,none⟩) hbd] at e1
 rw [←HB2.out.cell (p:=⟨bd,od+kk * 4+2,none⟩) hbd] at e2
 rw [←HB2.out.cell (p:=⟨bd,od+kk * 4+3,none⟩) hbd] at e3
 have lbd:=below_lt HB2.out hbd
 have HB8:=Lib.hid (below_new HB2.out (.cells #[.slice SA sn sc,.slice AA an ac,.slice JA jn jc,.slice MA mn mc] 108))
 have HXD:=Lib.hid (heap_al (.cells #[.slice SA sn sc,.slice AA an ac,.slice JA jn jc,.slice MA mn mc] 108) HX2.out)
 have hm:=heap_new w2 (.cells #[.slice SA sn sc,.slice AA an ac,.slice JA jn jc,.slice MA mn mc] 108)
 have HXM:=Lib.hid hm
 have m1:=cell_heap (k:=1) hm rfl
 have lm:=heap_lt0 hm
 clear hm
 go_upto_region 4 with fail
 obtain ⟨gM,hgM⟩:∃g,w2.heap.size=g:=⟨_,rfl⟩
 rw [hgM] at HXM m1
 (try rw [hgM])
 clear hgM
 generalize w2.alloc (.cells #[.slice SA sn sc,.slice AA an ac,.slice JA jn jc,.slice MA mn mc] 108)=W8 at *
 clear x0 lx e0 e1 e2 e3 lbd
 go_wp2_with fail
 clear m1 lm
 go_loopw [8,9] (fun v i wr=>∃k:Nat,k≤an∧i = .int .i64 (k:Int)∧v = .int .i64 (((((mdK d kk).asgs.take k).map AsT.target).count (S:Int):Nat):Int)∧Below W8.heap.size W8 wr) (fun _ i _=>an - (intOf i).toNat)
 case atStart=>exact ⟨0,by omega,rfl,by simp,Below.refl _ _⟩
 case round =>
  obtain ⟨k,hkk,rfl,rfl,hb⟩:=hrel
  have HBW:=Lib.hid hb
  have HB:=Lib.hid (below_tr HB8.out hb)
  clear hb
  by_cases hlt:k<an
  ·have hdk:decide ((k:Int)<(an:Int))=true:=by simp;omega
   have i0k:(0:Int)≤(k:Int):=by omega
   have i1k:(k:Int)<(an:Int):=by omega
   have hkl:k<(mdK d kk).asgs.length:=by rw [HM.out.lens.2.1];exact hlt
   obtain ⟨ba,oa,QA,qn,qc,hAA,hba,c0,c1,r0⟩:=HM.out.asg.asE (k:=k) hkl
   subst hAA
   have c0:=(HB.out.cell (p:=⟨ba,oa+k * 2,none⟩) hba).trans c0
   have lba:=below_lt HB.out hba
   have HTK:Hid (((((mdK d kk).asgs.take (k+1)).map AsT.target)).count (S:Int)=((((mdK d kk).asgs.take k).map AsT.target)).count (S:Int)+if ((mdK d kk).asgs[k]?.getD AsT.zero).target=(S:Int) then 1 else 0):=by show _=_;rw [take_snoc (z:=AsT.zero) hkl,List.map_append,List.count_append,List.map_singleton,count_one]
   have HLE:Hid (((((mdK d kk).asgs.take k).map AsT.target)).count (S:Int)≤1048576):=by show _≤_;refine Nat.le_trans List.count_le_length ?_;rw [List.length_map,List.length_take];omega
   generalize ((mdK d kk).asgs[k]?.getD AsT.zero).target=tg at *
   clear hkl hba c1 r0
   have hx:=heap_tr HBW.out HXM.out
   have x1:=cell_heap (k:=1) hx rfl
   have lx:=heap_lt0 hx
   clear hx
   have hle:=HLE.out
   obtain ⟨cv,hcv⟩:∃c,(((mdK d kk).asgs.take k).map AsT.target).count (S:Int)=c:=⟨_,rfl⟩
   rw [hcv] at HTK HLE hle
   rw [hcv]
   clear hcv
   by_cases h1:tg=(S:Int)
   ·have d1:(tg==(S:Int))=true:=by simp [h1]
    rw [if_pos h1] at HTK
    clear h1
    go_wp2_with fail
    go_roundw
    case rel=>exact ⟨k+1,by omega,by go_num,by rw [HTK.out] <;> rfl,HBW.out⟩
    case measure=>simp [intOf];omega
   ·have d1:(tg==(S:Int))=false:=by simp [h1]
    rw [if_neg h1,Nat.add_zero] at HTK
    clear h1
    go_wp2_with fail
    go_roundw
    case rel=>exact ⟨k+1,by omega,by go_num,by rw [HTK.out] <;> rfl,HBW.out⟩
    case measure=>simp [intOf];omega
  ·have hkn:k=an:=by omega
   have hdk:decide ((k:Int)<(an:Int))=false:=by simp;omega
   clear hlt
   subst k
   have HE:Hid ((((mdK d kk).asgs.take an).map AsT.target)=((mdK d kk).asgs.map AsT.target++((mdK d kk).mems.take 0).map MmT.out)):=by show _=_;rw [List.take_of_length_le (by rw [HM.out.lens.2.1];exact Nat.le_refl _),List.take_zero,List.map_nil,List.append_nil]
   obtain ⟨cv,hcv⟩:∃c,((mdK d kk).asgs.map AsT.target++((mdK d kk).mems.take 0).map MmT.out).count (S:Int)=c:=⟨_,rfl⟩
   rw [HE.out,hcv]
   have HCV:=Lib.hid hcv
   clear HE hcv
   have hx:=heap_tr HBW.out HXM.out
   have x1:=cell_heap (k:=1) hx rfl
   have lx:=heap_lt0 hx
   clear hx
   go_wp2_with fail
   clear x1 lx
   go_loopw [8,10] (fun v i wr=>∃k:Nat,k≤mn∧i = .int .i64 (k:Int)∧v = .int .i64 ((((mdK d kk).asgs.map AsT.target++((mdK d kk).mems.take k).map MmT.out).count (S:Int):Nat):Int)∧Below W8.heap.size W8 wr) (fun _ i _=>mn - (intOf i).toNat)
   case atStart=>exact ⟨0,by omega,rfl,by rw [HCV.out],HBW.out⟩
   case round =>
    obtain ⟨k,hkk,rfl,rfl,hb⟩:=hrel
    have HBW:=Lib.hid hb
    have HB:=Lib.hid (below_tr HB8.out hb)
    clear hb
    by_cases hlt:k<mn
    ·have hdk:decide ((k:Int)<(mn:Int))=true:=by simp;omega
     have i0k:(0:Int)≤(k:Int):=by omega
     have i1k:(k:Int)<(mn:Int):=by omega
     have hkl:k<(mdK d kk).mems.length:=by rw [HM.out.lens.2.2.2];exact hlt
     obtain ⟨bm,om,hMA,hbm,c0,c1,c2,c3⟩:=HM.out.mm.mmE (k:=k) hkl
     subst hMA
     have c3:=(HB.out.cell (p:=⟨bm,om+k * 4+3,none⟩) hbm).trans c3
     have lbm:=below_lt HB.out hbm
     have HTK:Hid ((((mdK d kk).asgs.map AsT.target++((mdK d kk).mems.take (k+1)).map MmT.out)).count (S:Int)=(((mdK d kk).asgs.map AsT.target++((mdK d kk).mems.take k).map MmT.out)).count (S:Int)+if ((mdK d kk).mems[k]?.getD MmT.zero).out=(S:Int) then 1 else 0):=by show _=_;rw [take_snoc (z:=MmT.zero) hkl,List.map_append,←List.append_assoc,List.count_append,List.map_singleton,count_one]
     have HLE:Hid ((((mdK d kk).asgs.map AsT.target++((mdK d kk).mems.take k).map MmT.out)).count (S:Int)≤1048576):=by show _≤_;refine Nat.le_trans List.count_le_length ?_;rw [List.length_append,List.length_map,List.length_map,List.length_take,HM.out.lens.2.1];omega
     generalize ((mdK d kk).mems[k]?.getD MmT.zero).out=tg at *
     clear hkl hbm c0 c1 c2
     have hx:=heap_tr HBW.out HXM.out
     have x3:=cell_heap (k:=3) hx rfl
     have lx:=heap_lt0 hx
     clear hx
     have hle:=HLE.out
     obtain ⟨cv,hcv⟩:∃c,((mdK d kk).asgs.map AsT.target++((mdK d kk).mems.take k).map MmT.out).count (S:Int)=c:=⟨_,rfl⟩
     rw [hcv] at HTK HLE hle
     rw [hcv]
     clear hcv
     by_cases h1:tg=(S:Int)
     ·have d1:(tg==(S:Int))=true:=by simp [h1]
      rw [if_pos h1] at HTK
      clear h1
      go_wp2_with fail
      go_roundw
      case rel=>exact ⟨k+1,by omega,by go_num,by rw [HTK.out] <;> rfl,HBW.out⟩
      case measure=>simp [intOf];omega
     ·have d1:(tg==(S:Int))=false:=by simp [h1]
      rw [if_neg h1,Nat.add_zero] at HTK
      clear h1
      go_wp2_with fail
      go_roundw
      case rel=>exact ⟨k+1,by omega,by go_num,by rw [HTK.out] <;> rfl,HBW.out⟩
      case measure=>simp [intOf];omega
    ·have hkn:k=mn:=by omega
     have hdk:decide ((k:Int)<(mn:Int))=false:=by simp;omega
     clear hlt
     subst k
     have HE:Hid (((mdK d kk).asgs.map AsT.target++((mdK d kk).mems.take mn).map MmT.out)=((mdK d kk).asgs.map AsT.target++(mdK d kk).mems.map MmT.out++((mdK d kk).insts.take 0).flatMap (instOuts d))):=by show _=_;rw [List.take_of_length_le (by rw [HM.out.lens.2.2.2];exact Nat.le_refl _),List.take_zero,List.flatMap_nil,List.append_nil]
     obtain ⟨cv,hcv⟩:∃c,((mdK d kk).asgs.map AsT.target++(mdK d kk).mems.map MmT.out++((mdK d kk).insts.take 0).flatMap (instOuts d)).count (S:Int)=c:=⟨_,rfl⟩
     rw [HE.out,hcv]
     have HCV:=Lib.hid hcv
     clear HE hcv
     have hx:=heap_tr HBW.out HXM.out
     have x3:=cell_heap (k:=3) hx rfl
     have lx:=heap_lt0 hx
     clear hx
     go_wp2_with fail
     clear x3 lx
     go_loopw [8,11] (fun v i wr=>∃k:Nat,k≤jn∧i = .int .i64 (k:Int)∧v = .int .i64 ((((mdK d kk).asgs.map AsT.target++(mdK d kk).mems.map MmT.out++((mdK d kk).insts.take k).flatMap (instOuts d)).count (S:Int):Nat):Int)∧Below W8.heap.size W8 wr) (fun _ i _=>jn - (intOf i).toNat)
     case atStart=>exact ⟨0,by omega,rfl,by rw [HCV.out],HBW.out⟩
     case round =>
      obtain ⟨k,hkk,rfl,rfl,hb⟩:=hrel
      have HBW:=Lib.hid hb
      have HB:=Lib.hid (below_tr HB8.out hb)
      clear hb
      by_cases hlt:k<jn
      ·have hdk:decide ((k:Int)<(jn:Int))=true:=by simp;omega
       have i0k:(0:Int)≤(k:Int):=by omega
       have i1k:(k:Int)<(jn:Int):=by omega
       obtain ⟨cv,hcv⟩:∃c,((mdK d kk).asgs.map AsT.target++(mdK d kk).mems.map MmT.out++((mdK d kk).insts.take k).flatMap (instOuts d)).count (S:Int)=c:=⟨_,rfl⟩
       rw [hcv]
       have HCV:=Lib.hid hcv
       clear hcv
       have hkl:k<(mdK d kk).insts.length:=by rw [HM.out.lens.2.2.1];exact hlt
       have hkl2:=Lib.hid hkl
       obtain ⟨bi,oi,PA,pn,pc,hJA,hbi,c0,c1,c2,r0⟩:=HM.out.ins.inE (k:=k) hkl
       subst hJA
       have cI:=c2
       have c0:=(HB.out.cell (p:=⟨bi,oi+k * 3,none⟩) hbi).trans c0
       have lbi:=below_lt HB.out hbi
       have HR0:=Lib.hid r0
       have hin:=hif k hkl
       obtain ⟨q,hq⟩:∃q,(mdK d kk).insts[k]?.getD InT.zero=q:=⟨_,rfl⟩
       rw [hq] at c0 HR0 hin
       have HQE:=Lib.hid hq
       clear hkl r0 hq c1 c2
       obtain ⟨mo,pa,po⟩:=q
       simp only at c0 HR0
       obtain ⟨hm1,hm2⟩:=hin
       simp only at hm1 hm2
       obtain ⟨M,rfl⟩:∃M:Nat,mo=(M:Int):=⟨mo.toNat,by omega⟩
       rw [Int.toNat_natCast] at hm2
       have hpn:=HR0.out.ints.1
       have hpl:=portsOf_len (mdK d M)
       obtain ⟨bd2,od2,SA2,AA2,JA2,MA2,sn2,sc2,an2,ac2,jn2,jc2,mn2,mc2,hDA2,hbd2,e02,e12,e22,e32,rm2⟩:=HD.out.md (k:=M) (by omega)
       have HM2:=Lib.hid rm2
       clear rm2
       injection hDA2 with hDA2
       injection hDA2 with hDA2 hDA3
       subst hDA2 hDA3
       rw [←HB.out.cell (p:=⟨bd,od+M * 4,none⟩) hbd2] at e02
       rw [←HB.out.cell (p:=⟨bd,od+M * 4+1,none⟩) hbd2] at e12
       rw [←HB.out.cell (p:=⟨bd,od+M * 4+2,none⟩) hbd2] at e22
       rw [←HB.out.cell (p:=⟨bd,od+M * 4+3,none⟩) hbd2] at e32
       have lbd2:=below_lt HB.out hbd2
       have i2:(0:Int)≤(M:Int):=by omega
       have i3:(M:Int)<(dn:Int):=by omega
       have HL4:Hid (∀j,j≤(portsOf (mdK d M)).length→((((mdK d kk).asgs.map AsT.target++(mdK d kk).mems.map MmT.out++((mdK d kk).insts.take k).flatMap (instOuts d))++outsTo (mdK d M) po j)).length≤1048576):=fun j hj=>by
        show _≤_
        rw [List.length_append,List.length_append,List.length_append,List.length_map,List.length_map,HM.out.lens.2.1,HM.out.lens.2.2.2]
        have h1:=outs3_len (d:=d) (l:=(mdK d kk).insts.take k) fun x hx=>portsOf_len _
        have h2:=outsTo_len (mdK d M) po j
        rw [List.length_take] at h1
        omega
       have hx:=heap_tr HBW.out HXM.out
       have x2:=cell_heap (k:=2) hx rfl
       have lx:=heap_lt0 hx
       clear hx
       have hd:=heap_tr HBW.out HXD.out
       have d0:=cell_heap (k:=0) hd rfl
       have ld:=heap_lt0 hd
       clear hd
       go_upto_region 18 with fail
       go_cut [12] (fun p w'=>∃g,p = .pointer (some ⟨g,0,none⟩)∧Sepa wr w' [.blk g #[.slice SA2 sn2 sc2,.slice AA2 an2 ac2,.slice JA2 jn2 jc2,.slice MA2 mn2 mc2] 108])
       case first =>
        have HKP:=Lib.hid (fun (v:World) (hv:Below wr.heap.size wr v)=>(⟨(hv.cell ld).trans d0,(hv.cell lx).trans x2,(hv.cell lbi).trans c0,(hv.cell lbd2).trans e02,(hv.cell lbd2).trans e12,(hv.cell lbd2).trans e22,(hv.cell lbd2).trans e32⟩:v.cell? ⟨w.heap.size,0,none⟩=some (.slice (some ⟨bd,od,none⟩) dn dc)∧v.cell? ⟨gM,2,none⟩=some (.slice (some ⟨bi,oi,none⟩) jn jc)∧v.cell? ⟨bi,oi+k * 3,none⟩=some (.int .i64 (M:Int))∧v.cell? ⟨bd,od+M * 4,none⟩=some (.slice SA2 sn2 sc2)∧v.cell? ⟨bd,od+M * 4+1,none⟩=some (.slice AA2 an2 ac2)∧v.cell? ⟨bd,od+M * 4+2,none⟩=some (.slice JA2 jn2 jc2)∧v.cell? ⟨bd,od+M * 4+3,none⟩=some (.slice MA2 mn2 mc2)))
        have hD:=(Below.refl wr.heap.size wr).drew
        have hA:=(below_new (Below.refl wr.heap.size wr) (.cells #[.slice none 0 0,.slice none 0 0,.slice none 0 0,.slice none 0 0] 108)).drew
        have hA2:=(below_new (Below.refl wr.heap.size wr) (.cells #[.slice SA2 sn2 sc2,.slice AA2 an2 ac2,.slice JA2 jn2 jc2,.slice MA2 mn2 mc2] 108)).drew
        have HS:=Lib.hid ((Sepa.refl wr).pushBlk #[.slice SA2 sn2 sc2,.slice AA2 an2 ac2,.slice JA2 jn2 jc2,.slice MA2 mn2 mc2] 108).drew
        have HS2:=Lib.hid ((Sepa.refl wr).drew.pushBlk #[.slice SA2 sn2 sc2,.slice AA2 an2 ac2,.slice JA2 jn2 jc2,.slice MA2 mn2 mc2] 108)
        have HS3:=Lib.hid ((Sepa.refl wr).pushBlk #[.slice SA2 sn2 sc2,.slice AA2 an2 ac2,.slice JA2 jn2 jc2,.slice MA2 mn2 mc2] 108)
        go_region_held3 (fun w'=>w'.cell? ⟨w.heap.size,0,none⟩=some (.slice (some ⟨bd,od,none⟩) dn dc)∧w'.cell? ⟨gM,2,none⟩=some (.slice (some ⟨bi,oi,none⟩) jn jc)∧w'.cell? ⟨bi,oi+k * 3,none⟩=some (.int .i64 (M:Int))∧w'.cell? ⟨bd,od+M * 4,none⟩=some (.slice SA2 sn2 sc2)∧w'.cell? ⟨bd,od+M * 4+1,none⟩=some (.slice AA2 an2 ac2)∧w'.cell? ⟨bd,od+M * 4+2,none⟩=some (.slice JA2 jn2 jc2)∧w'.cell? ⟨bd,od+M * 4+3,none⟩=some (.slice MA2 mn2 mc2))
         (first|with_reducible exact HKP.out _ hD|with_reducible exact HKP.out _ hA|with_reducible exact HKP.out _ hA2)
         ((fail))
        all_goals
         go_wp2_with fail
         go_meet
         first|exact ⟨_,rfl,HS.out⟩|exact ⟨_,rfl,HS2.out⟩|exact ⟨_,rfl,HS3.out⟩
       obtain ⟨gN,rfl,hS⟩:=hcut
       have HXN0:=Lib.hid (hS.blk 0 rfl).1
       have HB5:=Lib.hid (below_tr HB.out hS.bel)
       have HBW5:=Lib.hid (below_tr HBW.out hS.bel)
       clear hS x2 lx d0 ld c0 lbi e02 e12 e22 e32 lbd2
       have hu:=HXN0.out
       have u0:=cell_heap (k:=0) hu rfl
       have u1:=cell_heap (k:=1) hu rfl
       have u2:=cell_heap (k:=2) hu rfl
       have u3:=cell_heap (k:=3) hu rfl
       have lu:=heap_lt0 hu
       clear hu
       go_wp2_with fail
       refine (sportsOf_any (mdK d M) SA2 AA2 JA2 MA2 sn2 sc2 an2 ac2 jn2 jc2 mn2 mc2 _ (HM2.out.below HB5.out)).mono ?_
       rintro _ w4 ⟨A4,n4,rfl,S4⟩
       have HPI:=Lib.hid (S4.ints 0 rfl)
       have HB4:=Lib.hid (below_tr HB5.out S4.bel)
       have HBW4:=Lib.hid (below_tr HBW5.out S4.bel)
       have HXN:=Lib.hid (heap_tr S4.bel HXN0.out)
       have HXM4:=Lib.hid (heap_tr HBW4.out HXM.out)
       clear S4 u0 u1 u2 u3 lu HXN0 HB5 HBW5
       go_wp2_with fail
       go_loopw [8,14] (fun v i wr=>∃j:Nat,j≤(portsOf (mdK d M)).length∧i = .int .i64 (j:Int)∧v = .int .i64 (((((mdK d kk).asgs.map AsT.target++(mdK d kk).mems.map MmT.out++((mdK d kk).insts.take k).flatMap (instOuts d))++outsTo (mdK d M) po j).count (S:Int):Nat):Int)∧Below w4.heap.size w4 wr) (fun _ i _=>(portsOf (mdK d M)).length - (intOf i).toNat)
       case atStart=>exact ⟨0,by omega,rfl,by rw [outsTo,List.append_nil,HCV.out],Below.refl _ _⟩
       case round =>
        obtain ⟨j,hkj,rfl,rfl,hb⟩:=hrel
        have HBW:=Lib.hid hb
        have HB:=Lib.hid (below_tr HB4.out hb)
        clear hb
        by_cases hltj:j<(portsOf (mdK d M)).length
        ·have hdj:decide ((j:Int)<((portsOf (mdK d M)).length:Int))=true:=by simp;omega
         have i0j:(0:Int)≤(j:Int):=by omega
         have i1j:(j:Int)<((portsOf (mdK d M)).length:Int):=by omega
         have hjn:j<(portsOf (mdK d M)).length:=hltj
         have hpp:=portsOf_at hjn
         obtain ⟨bp,op,hA4,hbp,hcp⟩:=HPI.out.2 (by omega)
         have cp:=(HBW.out.cell (p:=⟨bp,op+j,none⟩) hbp).trans (hcp j hltj)
         have lbp:=below_lt HBW.out hbp
         subst hA4
         clear hcp hbp
         obtain ⟨bw,ow,hPA,hbw,hcw⟩:=HR0.out.ints.2 (by omega)
         have cw:=(HB.out.cell (p:=⟨bw,ow+j,none⟩) hbw).trans (hcw j (by omega))
         have lbw:=below_lt HB.out hbw
         subst hPA
         clear hcw hbw
         obtain ⟨Q,hQ⟩:∃Q:Nat,(portsOf (mdK d M))[j]?.getD 0=(Q:Int):=⟨((portsOf (mdK d M))[j]?.getD 0).toNat,by omega⟩
         rw [hQ] at hpp cp
         have HTJ:Hid (outsTo (mdK d M) po (j+1)=outsTo (mdK d M) po j++if (sgK (mdK d M).sigs Q).kind=1 then [po[j]?.getD 0] else []):=by show _=_;rw [outsTo,hQ,Int.toNat_natCast]
         have hQs:Q<sn2:=by have h1:=HM2.out.lens.1;omega
         obtain ⟨bs,os,hSA2,hbs,z0,z1,z2⟩:=HM2.out.sg.sgE (k:=Q) (by rw [HM2.out.lens.1];exact hQs)
         have z0:=(HB.out.cell (p:=⟨bs,os+Q * 3,none⟩) hbs).trans z0
         have lbs:=below_lt HB.out hbs
         have HKD:Hid ((sgK (mdK d M).sigs Q).kind=((mdK d M).sigs[Q]?.getD SgT.zero).kind):=rfl
         rw [HKD.out] at HTJ
         generalize ((mdK d M).sigs[Q]?.getD SgT.zero).kind=kd at *
         obtain ⟨pj,hpj⟩:∃p,po[j]?.getD 0=p:=⟨_,rfl⟩
         rw [hpj] at cw HTJ
         subst hSA2
         clear hQ hpj z1 z2 hbs
         have q0:(0:Int)≤(Q:Int):=by omega
         have q1:(Q:Int)<(sn2:Int):=by omega
         have j2:(j:Int)<(pn:Int):=by omega
         have HTK:Hid (((((mdK d kk).asgs.map AsT.target++(mdK d kk).mems.map MmT.out++((mdK d kk).insts.take k).flatMap (instOuts d))++outsTo (mdK d M) po (j+1))).count (S:Int)=((((mdK d kk).asgs.map AsT.target++(mdK d kk).mems.map MmT.out++((mdK d kk).insts.take k).flatMap (instOuts d))++outsTo (mdK d M) po j)).count (S:Int)+if kd=1∧pj=(S:Int) then 1 else 0):=by
          show _=_
          rw [HTJ.out,←List.append_assoc,List.count_append (l₂:=if kd=1 then [pj] else [])]
          by_cases h1:kd=1
          ·rw [if_pos h1,count_one]
           by_cases h2:pj=(S:Int)
           ·rw [if_pos h2,if_pos ⟨h1,h2⟩]
           ·rw [if_neg h2,if_neg fun h=>h2 h.2]
          ·rw [if_neg h1,if_neg fun h=>h1 h.1];rfl
         have hle:((((mdK d kk).asgs.map AsT.target++(mdK d kk).mems.map MmT.out++((mdK d kk).insts.take k).flatMap (instOuts d))++outsTo (mdK d M) po j)).count (S:Int)≤1048576:=Nat.le_trans List.count_le_length (HL4.out j (by omega))
         have bi0:=(HB.out.cell (p:=⟨bi,oi+k * 3+2,none⟩) hbi).trans cI
         have lbi:=below_lt HB.out hbi
         have hx:=heap_tr HBW.out HXM4.out
         have x2:=cell_heap (k:=2) hx rfl
         have lx:=heap_lt0 hx
         clear hx
         have hu:=heap_tr HBW.out HXN.out
         have u0:=cell_heap (k:=0) hu rfl
         have lu:=heap_lt0 hu
         clear hu
         obtain ⟨cv,hcv⟩:∃c,(((mdK d kk).asgs.map AsT.target++(mdK d kk).mems.map MmT.out++((mdK d kk).insts.take k).flatMap (instOuts d))++outsTo (mdK d M) po j).count (S:Int)=c:=⟨_,rfl⟩
         rw [hcv] at HTK hle
         rw [hcv]
         clear hcv
         go_upto_region 23 with fail
         by_cases h1:kd=1
         ·have d1:(kd==1)=true:=by simp [h1]
          by_cases h2:pj=(S:Int)
          ·have d2:(pj==(S:Int))=true:=by simp [h2]
           rw [if_pos ⟨h1,h2⟩] at HTK
           clear h1 h2
           have hsub:=sub_ne wr
           have hsc:=sub_cell wr
           refine wp_region_below wr (by kernel_rfl) (by kernel_rfl) (Below.refl _ _) ?_
           repeat (go_big_quiet_step (fail))
           refine wpQuiet_nil ?_
           rintro _ ⟨⟨w5,hD⟩,rfl⟩
           clear hsub hsc
           have HB2:=Lib.hid (below_tr HBW.out hD)
           clear hD
           go_wp2_with fail
           go_roundw
           case rel=>exact ⟨j+1,by omega,by go_num,by rw [HTK.out] <;> rfl,HB2.out⟩
           case measure=>simp [intOf];omega
          ·have d2:(pj==(S:Int))=false:=by simp [h2]
           rw [if_neg fun h=>h2 h.2,Nat.add_zero] at HTK
           clear h1 h2
           have hsub:=sub_ne wr
           have hsc:=sub_cell wr
           refine wp_region_below wr (by kernel_rfl) (by kernel_rfl) (Below.refl _ _) ?_
           repeat (go_big_quiet_step (fail))
           refine wpQuiet_nil ?_
           rintro _ ⟨⟨w5,hD⟩,rfl⟩
           clear hsub hsc
           have HB2:=Lib.hid (below_tr HBW.out hD)
           clear hD
           go_wp2_with fail
           go_roundw
           case rel=>exact ⟨j+1,by omega,by go_num,by rw [HTK.out] <;> rfl,HB2.out⟩
           case measure=>simp [intOf];omega
         ·have d1:(kd==1)=false:=by simp [h1]
          rw [if_neg fun h=>h1 h.1,Nat.add_zero] at HTK
          clear h1
          have hsub:=sub_ne wr
          have hsc:=sub_cell wr
          refine wp_region_below wr (by kernel_rfl) (by kernel_rfl) (Below.refl _ _) ?_
          repeat (go_big_quiet_step (fail))
          refine wpQuiet_nil ?_
          rintro _ ⟨⟨w5,hD⟩,rfl⟩
          clear hsub hsc
          have HB2:=Lib.hid (below_tr HBW.out hD)
          clear hD
          go_wp2_with fail
          go_roundw
          case rel=>exact ⟨j+1,by omega,by go_num,by rw [HTK.out] <;> rfl,HB2.out⟩
          case measure=>simp [intOf];omega
        ·have hkn:j=(portsOf (mdK d M)).length:=by omega
         have hdj:decide ((j:Int)<((portsOf (mdK d M)).length:Int))=false:=by simp;omega
         clear hltj
         subst j
         have HTK:Hid ((((mdK d kk).asgs.map AsT.target++(mdK d kk).mems.map MmT.out++((mdK d kk).insts.take (k+1)).flatMap (instOuts d))).count (S:Int)=((((mdK d kk).asgs.map AsT.target++(mdK d kk).mems.map MmT.out++((mdK d kk).insts.take k).flatMap (instOuts d))++outsTo (mdK d M) po (portsOf (mdK d M)).length)).count (S:Int)):=by
          show _=_
          rw [take_snoc (z:=InT.zero) hkl2.out,List.flatMap_append,List.flatMap_singleton,←List.append_assoc,HQE.out]
          show (_++instOuts d ⟨(M:Int),pa,po⟩).count _=_
          unfold instOuts
          rw [Int.toNat_natCast]
         obtain ⟨c4,hc4⟩:∃c,(((mdK d kk).asgs.map AsT.target++(mdK d kk).mems.map MmT.out++((mdK d kk).insts.take k).flatMap (instOuts d))++outsTo (mdK d M) po (portsOf (mdK d M)).length).count (S:Int)=c:=⟨_,rfl⟩
         rw [hc4] at HTK
         rw [hc4]
         clear hc4
         go_wp2_with fail
         go_roundw
         case rel=>exact ⟨k+1,by omega,by go_num,by rw [HTK.out],below_tr HBW4.out HBW.out⟩
         case measure=>simp [intOf];omega
      ·have hkn:k=jn:=by omega
       have hdk:decide ((k:Int)<(jn:Int))=false:=by simp;omega
       clear hlt
       subst k
       have HR:Hid (drvs d (mdK d kk)=((mdK d kk).asgs.map AsT.target++(mdK d kk).mems.map MmT.out++((mdK d kk).insts.take jn).flatMap (instOuts d))):=by show _=_;unfold drvs;rw [List.take_of_length_le (by rw [HM.out.lens.2.2.1];exact Nat.le_refl _)]
       obtain ⟨cv,hcv⟩:∃c,((mdK d kk).asgs.map AsT.target++(mdK d kk).mems.map MmT.out++((mdK d kk).insts.take jn).flatMap (instOuts d)).count (S:Int)=c:=⟨_,rfl⟩
       rw [hcv]
       have HCV:=Lib.hid hcv
       clear hcv
       have hx:=heap_tr HBW.out HXM.out
       have x2:=cell_heap (k:=2) hx rfl
       have lx:=heap_lt0 hx
       clear hx
       go_wp2_with fail
       go_ret
       exact ⟨ret_int (by rw [HR.out,HCV.out]),HB.out⟩
end Go.Proofs.YtlinbdkbbhpdpaaGreat
