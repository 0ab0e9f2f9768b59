/- Tests of signals, expressions and counts in both programs (printed by mksr3.py). Instances of modules in the program: valid ones (printed by mksr4.py). -/
import Derived.Test.YtlinbdkbbhpdpaaGreatQb
import Derived.Test.YtlinbdkbbhpdpaaGreatSrF2
import Derived.Test.YtlinbdkbbhpdpaaGreatSrW
namespace Go.Proofs.YtlinbdkbbhpdpaaGreat
set_option maxRecDepth 100000
open Go.RowKit

set_option maxHeartbeats 2000000 in
theorem countsOk_any (d:List MdT) (DA:Option Addr) (dn dc:Nat) (w:World) (h:RdC w w.heap.size (celMd d) (.slice DA dn dc)) :
  Calls Tryz.prog 204 #[.agg #[.slice DA dn dc]] w fun e w'=>e = .returned (.bool (tb (CntFit d)))∧Below w.heap.size w w':=by
 have HB0:=Lib.hid (below_new (Below.refl w.heap.size w) (.cells #[.slice DA dn dc] 48))
 have HXB:=Lib.hid (heap_new w (.cells #[.slice DA dn dc] 48))
 have HDL:=Lib.hid h.mdN
 have HD:=Lib.hid h
 clear h
 by_cases h4:dn≤4
 ·have d4:decide ((4:Int)<(dn:Int))=false:=decide_eq_false (by omega)
  go_enter Tryz.func204,Tryz.ntmps204
  go_upto_region 1 with fail
  generalize w.alloc (.cells #[.slice DA dn dc] 48)=W9 at *
  have hx:=HXB.out
  have x0:=cell_heap (k:=0) hx rfl
  have lx:=heap_lt0 hx
  clear hx
  go_wp2_with fail
  clear x0 lx
  go_loopw [12] (fun i wr=>∃k:Nat,k≤dn∧i = .int .i64 (k:Int)∧Below W9.heap.size W9 wr∧(∀j,j<k→MdCnt (mdK d j))) (fun i _=>dn - (intOf i).toNat)
  case atStart=>exact ⟨0,by omega,rfl,Below.refl _ _,fun j hj=>by omega⟩
  case round =>
   obtain ⟨k,hk,rfl,hb,hall⟩:=hrel
   have HALL:=Lib.hid hall
   have HBW:=Lib.hid hb
   have HB:=Lib.hid (below_tr HB0.out hb)
   clear hb hall
   by_cases hlt:k<dn
   ·have hdk:decide ((k:Int)<(dn:Int))=true:=by simp;omega
    have i0:(0:Int)≤(k:Int):=by omega
    have i1:(k:Int)<(dn:Int):=by omega
    obtain ⟨bd,od,SA,AA,JA,MA,sn,sc,an,ac,jn,jc,mn,mc,rfl,hbd,e0,e1,e2,e3,rm⟩:=HD.out.md (k:=k) hlt
    have HM:=Lib.hid rm
    clear rm
    rw [←HB.out.cell (p:=⟨bd,od+k * 4,none⟩) hbd] at e0
    rw [←HB.out.cell (p:=⟨bd,od+k * 4+1,none⟩) hbd] at e1
    rw [←HB.out.cell (p:=⟨bd,od+k * 4+2,none⟩) hbd] at e2
    rw [←HB.out.cell (p:=⟨bd,od+k * 4+3,none⟩) hbd] at e3
    have lbd:=below_lt HB.out hbd
    have HNO:=Lib.hid (fun (h:¬MdCnt (mdK d k)) (h2:CntFit d)=>h (h2.2 k (by rw [HDL.out];exact hlt)))
    have HG:=Lib.hid (fun h:MdCnt (mdK d k)=>all_succ HALL.out h)
    clear hbd
    have HBV:=Lib.hid (below_new HBW.out (.cells #[.slice SA sn sc,.slice AA an ac,.slice JA jn jc,.slice MA mn mc] 108))
    by_cases c0:sn≤30
    ·have q0:decide ((30:Int)<(sn:Int))=false:=decide_eq_false (by omega)
     by_cases c1:an≤30
     ·have q1:decide ((30:Int)<(an:Int))=false:=decide_eq_false (by omega)
      by_cases c2:jn≤3
      ·have q2:decide ((3:Int)<(jn:Int))=false:=decide_eq_false (by omega)
       by_cases c3:mn≤2
       ·have q3:decide ((2:Int)<(mn:Int))=false:=decide_eq_false (by omega)
        have HB1:=Lib.hid (below_new HB.out (.cells #[.slice SA sn sc,.slice AA an ac,.slice JA jn jc,.slice MA mn mc] 108))
        have hy:=heap_new wr (.cells #[.slice SA sn sc,.slice AA an ac,.slice JA jn jc,.slice MA mn mc] 108)
        have HY:=Lib.hid hy
        have y0:=cell_heap (k:=0) hy rfl
        have y1:=cell_heap (k:=1) hy rfl
        have y2:=cell_heap (k:=2) hy rfl
        have y3:=cell_heap (k:=3) hy rfl
        have ly:=heap_lt0 hy
        clear hy
        go_upto_region 6 with fail
        generalize wr.alloc (.cells #[.slice SA sn sc,.slice AA an ac,.slice JA jn jc,.slice MA mn mc] 108)=W5 at *
        go_wp2_with fail
        go_roundw
        case rel=>exact ⟨k+1,by omega,by go_num,HBV.out,HG.out ⟨by rw [HM.out.lens.1];exact c0,by rw [HM.out.lens.2.1];exact c1,by rw [HM.out.lens.2.2.1];exact c2,by rw [HM.out.lens.2.2.2];exact c3⟩⟩
        case measure=>simp [intOf];omega
       ·have q3:decide ((2:Int)<(mn:Int))=true:=decide_eq_true (by omega)
        have HR:=Lib.hid (HNO.out fun h=>c3 (by have h1:=h.mm;rw [HM.out.lens.2.2.2] at h1;exact h1))
        clear HG HNO c3
        have HB1:=Lib.hid (below_new HB.out (.cells #[.slice SA sn sc,.slice AA an ac,.slice JA jn jc,.slice MA mn mc] 108))
        have hy:=heap_new wr (.cells #[.slice SA sn sc,.slice AA an ac,.slice JA jn jc,.slice MA mn mc] 108)
        have HY:=Lib.hid hy
        have y0:=cell_heap (k:=0) hy rfl
        have y1:=cell_heap (k:=1) hy rfl
        have y2:=cell_heap (k:=2) hy rfl
        have y3:=cell_heap (k:=3) hy rfl
        have ly:=heap_lt0 hy
        clear hy
        go_upto_region 6 with fail
        generalize wr.alloc (.cells #[.slice SA sn sc,.slice AA an ac,.slice JA jn jc,.slice MA mn mc] 108)=W5 at *
        go_wp2_with fail
        go_ret
        exact ⟨ret_ff HR.out,HB1.out⟩
      ·have q2:decide ((3:Int)<(jn:Int))=true:=decide_eq_true (by omega)
       have HR:=Lib.hid (HNO.out fun h=>c2 (by have h1:=h.ins;rw [HM.out.lens.2.2.1] at h1;exact h1))
       clear HG HNO c2
       have HB1:=Lib.hid (below_new HB.out (.cells #[.slice SA sn sc,.slice AA an ac,.slice JA jn jc,.slice MA mn mc] 108))
       have hy:=heap_new wr (.cells #[.slice SA sn sc,.slice AA an ac,.slice JA jn jc,.slice MA mn mc] 108)
       have HY:=Lib.hid hy
       have y0:=cell_heap (k:=0) hy rfl
       have y1:=cell_heap (k:=1) hy rfl
       have y2:=cell_heap (k:=2) hy rfl
       have y3:=cell_heap (k:=3) hy rfl
       have ly:=heap_lt0 hy
       clear hy
       go_upto_region 6 with fail
       generalize wr.alloc (.cells #[.slice SA sn sc,.slice AA an ac,.slice JA jn jc,.slice MA mn mc] 108)=W5 at *
       go_wp2_with fail
       go_ret
       exact ⟨ret_ff HR.out,HB1.out⟩
     ·have q1:decide ((30:Int)<(an:Int))=true:=decide_eq_true (by omega)
      have HR:=Lib.hid (HNO.out fun h=>c1 (by have h1:=h.asg;rw [HM.out.lens.2.1] at h1;exact h1))
      clear HG HNO c1
      have HB1:=Lib.hid (below_new HB.out (.cells #[.slice SA sn sc,.slice AA an ac,.slice JA jn jc,.slice MA mn mc] 108))
      have hy:=heap_new wr (.cells #[.slice SA sn sc,.slice AA an ac,.slice JA jn jc,.slice MA mn mc] 108)
      have HY:=Lib.hid hy
      have y0:=cell_heap (k:=0) hy rfl
      have y1:=cell_heap (k:=1) hy rfl
      have y2:=cell_heap (k:=2) hy rfl
      have y3:=cell_heap (k:=3) hy rfl
      have ly:=heap_lt0 hy
      clear hy
      go_upto_region 6 with fail
      generalize wr.alloc (.cells #[.slice SA sn sc,.slice AA an ac,.slice JA jn jc,.slice MA mn mc] 108)=W5 at *
      go_wp2_with fail
      go_ret
      exact ⟨ret_ff HR.out,HB1.out⟩
    ·have q0:decide ((30:Int)<(sn:Int))=true:=decide_eq_true (by omega)
     have HR:=Lib.hid (HNO.out fun h=>c0 (by have h1:=h.sg;rw [HM.out.lens.1] at h1;exact h1))
     clear HG HNO c0
     have HB1:=Lib.hid (below_new HB.out (.cells #[.slice SA sn sc,.slice AA an ac,.slice JA jn jc,.slice MA mn mc] 108))
     have hy:=heap_new wr (.cells #[.slice SA sn sc,.slice AA an ac,.slice JA jn jc,.slice MA mn mc] 108)
     have HY:=Lib.hid hy
     have y0:=cell_heap (k:=0) hy rfl
     have y1:=cell_heap (k:=1) hy rfl
     have y2:=cell_heap (k:=2) hy rfl
     have y3:=cell_heap (k:=3) hy rfl
     have ly:=heap_lt0 hy
     clear hy
     go_upto_region 6 with fail
     generalize wr.alloc (.cells #[.slice SA sn sc,.slice AA an ac,.slice JA jn jc,.slice MA mn mc] 108)=W5 at *
     go_wp2_with fail
     go_ret
     exact ⟨ret_ff HR.out,HB1.out⟩
   ·have hkn:k=dn:=by omega
    have hdk:decide ((k:Int)<(dn:Int))=false:=by simp;omega
    have HR:Hid (CntFit d):=⟨by rw [HDL.out];exact h4,fun j hj=>HALL.out j (by rw [hkn,←HDL.out];exact hj)⟩
    go_wp2_with fail
    go_ret
    exact ⟨ret_tt HR.out,HB.out⟩
 ·have d4:decide ((4:Int)<(dn:Int))=true:=decide_eq_true (by omega)
  have HR:Hid (¬CntFit d):=fun h=>h4 (by rw [←HDL.out];exact h.1)
  go_enter Tryz.func204,Tryz.ntmps204
  go_upto_region 1 with fail
  generalize w.alloc (.cells #[.slice DA dn dc] 48)=W9 at *
  have hx:=HXB.out
  have x0:=cell_heap (k:=0) hx rfl
  have lx:=heap_lt0 hx
  clear hx
  go_wp2_with fail
  go_ret
  exact ⟨ret_ff HR.out,HB0.out⟩
theorem take_snoc {α:Type} {xs:List α} {k:Nat} {z:α} (h:k<xs.length):xs.take (k+1)=xs.take k++[xs[k]?.getD z]:=by
 rw [List.take_add_one,List.getElem?_eq_getElem h];rfl
set_option maxHeartbeats 1000000 in
theorem sumInts_any (A:Option Addr) (n c:Nat) (xs:List Int) (w:World) (h:Ints w A n xs) (hn:n≤1048576) (hb:∀x∈xs,0≤x∧x≤4) :
  Calls Tryz.prog 165 #[.slice A n c] w fun e w'=>e = .returned (.int .i64 (sumI xs))∧w=w':=by
 have HI:=Lib.hid h
 have HBD:=Lib.hid hb
 clear h hb
 go_enter Tryz.func165,Tryz.ntmps165
 go_wp2_with fail
 go_loopw [3,8] (fun v i wr=>∃k:Nat,k≤n∧i = .int .i64 (k:Int)∧v = .int .i64 (sumI (xs.take k))∧w=wr) (fun _ i _=>n - (intOf i).toNat)
 case atStart=>exact ⟨0,by omega,rfl,rfl,rfl⟩
 case round =>
  obtain ⟨k,hk,rfl,rfl,rfl⟩:=hrel
  have hs:=sumI_in (m:=4) (l:=xs.take k) fun x hx=>HBD.out x (List.mem_of_mem_take hx)
  rw [List.length_take] at hs
  have hs2:0≤sumI (xs.take k)∧sumI (xs.take k)≤4194304:=by omega
  clear hs
  by_cases hlt:k<n
  ·have hdk:decide ((k:Int)<(n:Int))=true:=by simp;omega
   obtain ⟨b,o,rfl,hb,hc⟩:=HI.out.2 (by omega)
   have hck:=hc k hlt
   have hkl:k<xs.length:=by rw [HI.out.1];exact hlt
   have HSN:Hid (sumI (xs.take (k+1))=sumI (xs.take k)+xs[k]?.getD 0):=by show _=_;rw [take_snoc (z:=0) hkl,sumI_snoc]
   have hx:=HBD.out (xs[k]?.getD 0) (by rw [List.getElem?_eq_getElem hkl];exact List.getElem_mem hkl)
   generalize xs[k]?.getD 0=y at *
   generalize sumI (xs.take k)=s at *
   have i0:(0:Int)≤(k:Int):=by omega
   have i1:(k:Int)<(n:Int):=by omega
   clear hc hkl
   go_wp2_with fail
   go_roundw
   case rel=>exact ⟨k+1,by omega,by go_num,by rw [HSN.out],by first|rfl|trivial⟩
   case measure=>simp [intOf];omega
  ·have hkn:k=n:=by omega
   subst hkn
   have hdk:decide ((k:Int)<(k:Int))=false:=by simp
   have HE:Hid (xs.take k=xs):=List.take_of_length_le (by rw [HI.out.1];exact Nat.le_refl _)
   go_wp2_with fail
   go_ret
   exact ⟨ret_int (by rw [HE.out]),rfl⟩
set_option maxHeartbeats 1000000 in
theorem sl06Sum_any (A:Option Addr) (n c:Nat) (xs:List Int) (w:World) (h:Ints w A n xs) (hn:n≤1048576) (hb:∀x∈xs,0≤x∧x≤4) :
  Calls Tryz.prog 153 #[.slice A n c] w fun e w'=>e = .returned (.int .i64 (sumI xs))∧w=w':=by
 have HI:=Lib.hid h
 have HBD:=Lib.hid hb
 clear h hb
 go_enter Tryz.func153,Tryz.ntmps153
 go_wp2_with fail
 go_loopw [3,4] (fun v i wr=>∃k:Nat,k≤n∧i = .int .i64 (k:Int)∧v = .int .i64 (sumI (xs.take k))∧w=wr) (fun _ i _=>n - (intOf i).toNat)
 case atStart=>exact ⟨0,by omega,rfl,rfl,rfl⟩
 case round =>
  obtain ⟨k,hk,rfl,rfl,rfl⟩:=hrel
  have hs:=sumI_in (m:=4) (l:=xs.take k) fun x hx=>HBD.out x (List.mem_of_mem_take hx)
  rw [List.length_take] at hs
  have hs2:0≤sumI (xs.take k)∧sumI (xs.take k)≤4194304:=by omega
  clear hs
  by_cases hlt:k<n
  ·have hdk:decide ((k:Int)<(n:Int))=true:=by simp;omega
   obtain ⟨b,o,rfl,hb,hc⟩:=HI.out.2 (by omega)
   have hck:=hc k hlt
   have hkl:k<xs.length:=by rw [HI.out.1];exact hlt
   have HSN:Hid (sumI (xs.take (k+1))=sumI (xs.take k)+xs[k]?.getD 0):=by show _=_;rw [take_snoc (z:=0) hkl,sumI_snoc]
   have hx:=HBD.out (xs[k]?.getD 0) (by rw [List.getElem?_eq_getElem hkl];exact List.getElem_mem hkl)
   generalize xs[k]?.getD 0=y at *
   generalize sumI (xs.take k)=s at *
   have i0:(0:Int)≤(k:Int):=by omega
   have i1:(k:Int)<(n:Int):=by omega
   clear hc hkl
   go_wp2_with fail
   go_roundw
   case rel=>exact ⟨k+1,by omega,by go_num,by rw [HSN.out],by first|rfl|trivial⟩
   case measure=>simp [intOf];omega
  ·have hkn:k=n:=by omega
   subst hkn
   have hdk:decide ((k:Int)<(k:Int))=false:=by simp
   have HE:Hid (xs.take k=xs):=List.take_of_length_le (by rw [HI.out.1];exact Nat.le_refl _)
   go_wp2_with fail
   go_ret
   exact ⟨ret_int (by rw [HE.out]),rfl⟩
set_option maxHeartbeats 1000000 in
theorem hasParam_any (ops:List OpT) (A:Option Addr) (on oc:Nat) (w:World) (h:RdC w w.heap.size (celOp ops) (.slice A on oc)) (hn:on≤1048576) :
  Calls Tryz.prog 164 #[.slice A on oc] w fun e w'=>e = .returned (.bool (tb (hasPar ops)))∧Below w.heap.size w w':=by
 have HL:=Lib.hid h.opN
 have HO:=Lib.hid h
 have HB0:=Lib.hid (Below.refl w.heap.size w)
 clear h
 go_enter Tryz.func164,Tryz.ntmps164
 go_wp2_with fail
 go_loopw [7] (fun i wr=>∃k:Nat,k≤on∧i = .int .i64 (k:Int)∧Below w.heap.size w wr∧(∀j,j<k→(ops[j]?.getD OpT.zero).kind≠1)) (fun i _=>on - (intOf i).toNat)
 case atStart=>exact ⟨0,by omega,rfl,Below.refl _ _,fun j hj=>by omega⟩
 case round =>
  obtain ⟨k,hk,rfl,hb,hall⟩:=hrel
  have HALL:=Lib.hid hall
  have HBW:=Lib.hid hb
  have HB:=Lib.hid (below_tr HB0.out hb)
  clear hb hall
  by_cases hlt:k<on
  ·have hdk:decide ((k:Int)<(on:Int))=true:=by simp;omega
   have i0:(0:Int)≤(k:Int):=by omega
   have i1:(k:Int)<(on:Int):=by omega
   have hkl:k<ops.length:=by rw [HL.out];exact hlt
   obtain ⟨bo,oo,rfl,hbo,e0,e1,e2⟩:=HO.out.opE (k:=k) hkl
   have lbo:=below_lt HB.out hbo
   rw [←HB.out.cell (p:=⟨bo,oo+k * 3,none⟩) hbo] at e0
   rw [←HB.out.cell (p:=⟨bo,oo+k * 3+1,none⟩) hbo] at e1
   rw [←HB.out.cell (p:=⟨bo,oo+k * 3+2,none⟩) hbo] at e2
   have HGT:Hid (ops[k]?=some (ops[k]?.getD OpT.zero)):=getD_some OpT.zero hkl
   clear hkl hbo
   obtain ⟨q,hq⟩:∃q,ops[k]?.getD OpT.zero=q:=⟨_,rfl⟩
   rw [hq] at e0 e1 e2 HGT
   clear hq
   obtain ⟨kd,a,b⟩:=q
   simp only at e0 e1 e2
   have HBV:=Lib.hid (below_new HBW.out (.cells #[.int .i64 kd,.int .i64 a,.int .i64 b] 198))
   by_cases c0:kd=1
   ·have d0:(kd==1)=true:=by simp [c0]
    have HR:Hid (hasPar ops):=⟨k,by rw [HL.out];exact hlt,by rw [HGT.out];exact c0⟩
    clear c0
    have HB1:=Lib.hid (below_new HB.out (.cells #[.int .i64 kd,.int .i64 a,.int .i64 b] 198))
    have hy:=heap_new wr (.cells #[.int .i64 kd,.int .i64 a,.int .i64 b] 198)
    have HY:=Lib.hid hy
    have y0:=cell_heap (k:=0) hy rfl
    have ly:=heap_lt0 hy
    clear hy
    go_upto_region 4 with fail
    generalize wr.alloc (.cells #[.int .i64 kd,.int .i64 a,.int .i64 b] 198)=W5 at *
    go_wp2_with fail
    go_ret
    exact ⟨ret_tt HR.out,HB1.out⟩
   ·have d0:(kd==1)=false:=by simp [c0]
    have HG:=Lib.hid (all_succ HALL.out (show (ops[k]?.getD OpT.zero).kind≠1 by rw [HGT.out];exact c0))
    clear c0
    have HB1:=Lib.hid (below_new HB.out (.cells #[.int .i64 kd,.int .i64 a,.int .i64 b] 198))
    have hy:=heap_new wr (.cells #[.int .i64 kd,.int .i64 a,.int .i64 b] 198)
    have HY:=Lib.hid hy
    have y0:=cell_heap (k:=0) hy rfl
    have ly:=heap_lt0 hy
    clear hy
    go_upto_region 4 with fail
    generalize wr.alloc (.cells #[.int .i64 kd,.int .i64 a,.int .i64 b] 198)=W5 at *
    go_wp2_with fail
    go_roundw
    case rel=>exact ⟨k+1,by omega,by go_num,HBV.out,HG.out⟩
    case measure=>simp [intOf];omega
  ·have hkn:k=on:=by omega
   have hdk:decide ((k:Int)<(on:Int))=false:=by simp;omega
   have HR:Hid (¬hasPar ops):=fun ⟨j,h1,h2⟩=>HALL.out j (by rw [hkn,←HL.out];exact h1) h2
   go_wp2_with fail
   go_ret
   exact ⟨ret_ff HR.out,HB.out⟩
set_option maxHeartbeats 1000000 in
theorem readsSignal_any (ops:List OpT) (A:Option Addr) (on oc:Nat) (s:Int) (w:World) (h:RdC w w.heap.size (celOp ops) (.slice A on oc)) (hn:on≤1048576) :
  Calls Tryz.prog 212 #[.slice A on oc,.int .i64 s] w fun e w'=>e = .returned (.bool (rdsB ops s))∧Below w.heap.size w w':=by
 have HL:=Lib.hid h.opN
 have HO:=Lib.hid h
 have HB0:=Lib.hid (Below.refl w.heap.size w)
 clear h
 go_enter Tryz.func212,Tryz.ntmps212
 go_wp2_with fail
 go_loopw [9] (fun i wr=>∃k:Nat,k≤on∧i = .int .i64 (k:Int)∧Below w.heap.size w wr∧(∀j,j<k→¬(((ops[j]?.getD OpT.zero).kind=2∨(ops[j]?.getD OpT.zero).kind=3)∧(ops[j]?.getD OpT.zero).a=s))) (fun i _=>on - (intOf i).toNat)
 case atStart=>exact ⟨0,by omega,rfl,Below.refl _ _,fun j hj=>by omega⟩
 case round =>
  obtain ⟨k,hk,rfl,hb,hall⟩:=hrel
  have HALL:=Lib.hid hall
  have HBW:=Lib.hid hb
  have HB:=Lib.hid (below_tr HB0.out hb)
  clear hb hall
  by_cases hlt:k<on
  ·have hdk:decide ((k:Int)<(on:Int))=true:=by simp;omega
   have i0:(0:Int)≤(k:Int):=by omega
   have i1:(k:Int)<(on:Int):=by omega
   have hkl:k<ops.length:=by rw [HL.out];exact hlt
   obtain ⟨bo,oo,rfl,hbo,e0,e1,e2⟩:=HO.out.opE (k:=k) hkl
   have lbo:=below_lt HB.out hbo
   rw [←HB.out.cell (p:=⟨bo,oo+k * 3,none⟩) hbo] at e0
   rw [←HB.out.cell (p:=⟨bo,oo+k * 3+1,none⟩) hbo] at e1
   rw [←HB.out.cell (p:=⟨bo,oo+k * 3+2,none⟩) hbo] at e2
   have HGT:Hid (ops[k]?=some (ops[k]?.getD OpT.zero)):=getD_some OpT.zero hkl
   clear hkl hbo
   obtain ⟨q,hq⟩:∃q,ops[k]?.getD OpT.zero=q:=⟨_,rfl⟩
   rw [hq] at e0 e1 e2 HGT
   clear hq
   obtain ⟨kd,a,b⟩:=q
   simp only at e0 e1 e2
   have HBV:=Lib.hid (below_new HBW.out (.cells #[.int .i64 kd,.int .i64 a,.int .i64 b] 198))
   by_cases c2:kd=2
   ·have d2:(kd==2)=true:=by simp [c2]
    by_cases ca:a=s
    ·have da:(a==s)=true:=by simp [ca]
     have HR:Hid (rdsB ops s=true):=rdsB_iff.2 ⟨⟨kd,a,b⟩,List.mem_of_getElem? HGT.out,⟨.inl c2,ca⟩⟩
     clear c2 ca
     have HB1:=Lib.hid (below_new HB.out (.cells #[.int .i64 kd,.int .i64 a,.int .i64 b] 198))
     have hy:=heap_new wr (.cells #[.int .i64 kd,.int .i64 a,.int .i64 b] 198)
     have HY:=Lib.hid hy
     have y0:=cell_heap (k:=0) hy rfl
     have y1:=cell_heap (k:=1) hy rfl
     have ly:=heap_lt0 hy
     clear hy
     go_upto_region 4 with fail
     generalize wr.alloc (.cells #[.int .i64 kd,.int .i64 a,.int .i64 b] 198)=W5 at *
     go_wp2_with fail
     go_ret
     exact ⟨ret_bool HR.out.symm,HB1.out⟩
    ·have da:(a==s)=false:=by simp [ca]
     have HG:=Lib.hid (all_succ (p:=fun j=>¬(((ops[j]?.getD OpT.zero).kind=2∨(ops[j]?.getD OpT.zero).kind=3)∧(ops[j]?.getD OpT.zero).a=s)) HALL.out (show ¬(((ops[k]?.getD OpT.zero).kind=2∨(ops[k]?.getD OpT.zero).kind=3)∧(ops[k]?.getD OpT.zero).a=s) by rw [HGT.out];exact fun h=>ca h.2))
     clear c2 ca
     have HB1:=Lib.hid (below_new HB.out (.cells #[.int .i64 kd,.int .i64 a,.int .i64 b] 198))
     have hy:=heap_new wr (.cells #[.int .i64 kd,.int .i64 a,.int .i64 b] 198)
     have HY:=Lib.hid hy
     have y0:=cell_heap (k:=0) hy rfl
     have y1:=cell_heap (k:=1) hy rfl
     have ly:=heap_lt0 hy
     clear hy
     go_upto_region 4 with fail
     generalize wr.alloc (.cells #[.int .i64 kd,.int .i64 a,.int .i64 b] 198)=W5 at *
     go_wp2_with fail
     go_roundw
     case rel=>exact ⟨k+1,by omega,by go_num,HBV.out,HG.out⟩
     case measure=>simp [intOf];omega
   ·have d2:(kd==2)=false:=by simp [c2]
    by_cases c3:kd=3
    ·have d3:(kd==3)=true:=by simp [c3]
     by_cases ca:a=s
     ·have da:(a==s)=true:=by simp [ca]
      have HR:Hid (rdsB ops s=true):=rdsB_iff.2 ⟨⟨kd,a,b⟩,List.mem_of_getElem? HGT.out,⟨.inr c3,ca⟩⟩
      clear c2 c3 ca
      have HB1:=Lib.hid (below_new HB.out (.cells #[.int .i64 kd,.int .i64 a,.int .i64 b] 198))
      have hy:=heap_new wr (.cells #[.int .i64 kd,.int .i64 a,.int .i64 b] 198)
      have HY:=Lib.hid hy
      have y0:=cell_heap (k:=0) hy rfl
      have y1:=cell_heap (k:=1) hy rfl
      have ly:=heap_lt0 hy
      clear hy
      go_upto_region 4 with fail
      generalize wr.alloc (.cells #[.int .i64 kd,.int .i64 a,.int .i64 b] 198)=W5 at *
      go_wp2_with fail
      go_ret
      exact ⟨ret_bool HR.out.symm,HB1.out⟩
     ·have da:(a==s)=false:=by simp [ca]
      have HG:=Lib.hid (all_succ (p:=fun j=>¬(((ops[j]?.getD OpT.zero).kind=2∨(ops[j]?.getD OpT.zero).kind=3)∧(ops[j]?.getD OpT.zero).a=s)) HALL.out (show ¬(((ops[k]?.getD OpT.zero).kind=2∨(ops[k]?.getD OpT.zero).kind=3)∧(ops[k]?.getD OpT.zero).a=s) by rw [HGT.out];exact fun h=>ca h.2))
      clear c2 c3 ca
      have HB1:=Lib.hid (below_new HB.out (.cells #[.int .i64 kd,.int .i64 a,.int .i64 b] 198))
      have hy:=heap_new wr (.cells #[.int .i64 kd,.int .i64 a,.int .i64 b] 198)
      have HY:=Lib.hid hy
      have y0:=cell_heap (k:=0) hy rfl
      have y1:=cell_heap (k:=1) hy rfl
      have ly:=heap_lt0 hy
      clear hy
      go_upto_region 4 with fail
      generalize wr.alloc (.cells #[.int .i64 kd,.int .i64 a,.int .i64 b] 198)=W5 at *
      go_wp2_with fail
      go_roundw
      case rel=>exact ⟨k+1,by omega,by go_num,HBV.out,HG.out⟩
      case measure=>simp [intOf];omega
    ·have d3:(kd==3)=false:=by simp [c3]
     have HG:=Lib.hid (all_succ (p:=fun j=>¬(((ops[j]?.getD OpT.zero).kind=2∨(ops[j]?.getD OpT.zero).kind=3)∧(ops[j]?.getD OpT.zero).a=s)) HALL.out (show ¬(((ops[k]?.getD OpT.zero).kind=2∨(ops[k]?.getD OpT.zero).kind=3)∧(ops[k]?.getD OpT.zero).a=s) by rw [HGT.out];exact fun h=>h.1.elim c2 c3))
     clear c2 c3
     have HB1:=Lib.hid (below_new HB.out (.cells #[.int .i64 kd,.int .i64 a,.int .i64 b] 198))
     have hy:=heap_new wr (.cells #[.int .i64 kd,.int .i64 a,.int .i64 b] 198)
     have HY:=Lib.hid hy
     have y0:=cell_heap (k:=0) hy rfl
     have y1:=cell_heap (k:=1) hy rfl
     have ly:=heap_lt0 hy
     clear hy
     go_upto_region 4 with fail
     generalize wr.alloc (.cells #[.int .i64 kd,.int .i64 a,.int .i64 b] 198)=W5 at *
     go_wp2_with fail
     go_roundw
     case rel=>exact ⟨k+1,by omega,by go_num,HBV.out,HG.out⟩
     case measure=>simp [intOf];omega
  ·have hkn:k=on:=by omega
   have hdk:decide ((k:Int)<(on:Int))=false:=by simp;omega
   have HR:Hid (rdsB ops s=false):=by
    cases hr:rdsB ops s with
    | false=>exact rfl
    | true =>
     obtain ⟨o,ho,h1,h2⟩:=rdsB_iff.1 hr
     obtain ⟨j,hj,rfl⟩:=List.getElem_of_mem ho
     have h3:=HALL.out j (by rw [hkn,←HL.out];exact hj)
     rw [List.getElem?_eq_getElem hj,Option.getD_some] at h3
     exact absurd ⟨h1,h2⟩ h3
   go_wp2_with fail
   go_ret
   exact ⟨ret_bool HR.out.symm,HB.out⟩
set_option maxHeartbeats 1000000 in
theorem signalOk_any (kd wd it:Int) (w:World) :
  Calls Tryz.prog 206 #[.agg #[.int .i64 kd,.int .i64 wd,.int .i64 it]] w fun e w'=>e = .returned (.bool (tb (SgFit ⟨kd,wd,it⟩)))∧Below w.heap.size w w':=by
 have HB0:=Lib.hid (below_new (Below.refl w.heap.size w) (.cells #[.int .i64 kd,.int .i64 wd,.int .i64 it] 155))
 have HXB:=Lib.hid (heap_new w (.cells #[.int .i64 kd,.int .i64 wd,.int .i64 it] 155))
 have hE:SgFit ⟨kd,wd,it⟩↔((0≤kd∧kd≤3)∧0≤wd∧wd≤4)∧(it=0∨kd=3∧0≤it∧it≤15):=Iff.rfl
 cases h1:inR kd 0 3 with
 | false =>
  have HR:=Lib.hid (fun h=>not_in h1 (hE.1 h).1.1)
  have H1:=Lib.hid h1
  clear hE h1
  go_enter Tryz.func206,Tryz.ntmps206
  go_upto_region 1 with fail
  generalize w.alloc (.cells #[.int .i64 kd,.int .i64 wd,.int .i64 it] 155)=W9 at *
  have hx:=HXB.out
  have x0:=cell_heap (k:=0) hx rfl
  have x1:=cell_heap (k:=1) hx rfl
  have x2:=cell_heap (k:=2) hx rfl
  have lx:=heap_lt0 hx
  clear hx
  go_wp2_with fail
  refine (inRange_any kd 0 3 _).mono ?_
  rw [H1.out]
  rintro _ w' ⟨rfl,rfl⟩
  go_wp2_with fail
  go_ret
  exact ⟨ret_ff HR.out,HB0.out⟩
 | true =>
  have k1:=inR_iff.1 h1
  have H1:=Lib.hid h1
  clear h1
  cases h2:inR wd 0 4 with
  | false =>
   have HR:=Lib.hid (fun h=>not_in h2 (hE.1 h).1.2)
   have H2:=Lib.hid h2
   clear hE h2 k1
   go_enter Tryz.func206,Tryz.ntmps206
   go_upto_region 1 with fail
   generalize w.alloc (.cells #[.int .i64 kd,.int .i64 wd,.int .i64 it] 155)=W9 at *
   have hx:=HXB.out
   have x0:=cell_heap (k:=0) hx rfl
   have x1:=cell_heap (k:=1) hx rfl
   have x2:=cell_heap (k:=2) hx rfl
   have lx:=heap_lt0 hx
   clear hx
   go_wp2_with fail
   refine (inRange_any kd 0 3 _).mono ?_
   rw [H1.out]
   rintro _ w' ⟨rfl,rfl⟩
   go_wp2_with fail
   refine (inRange_any wd 0 4 _).mono ?_
   rw [H2.out]
   rintro _ w' ⟨rfl,rfl⟩
   go_wp2_with fail
   go_ret
   exact ⟨ret_ff HR.out,HB0.out⟩
  | true =>
   have k2:=inR_iff.1 h2
   have H2:=Lib.hid h2
   clear h2
   by_cases h3:it=0
   ·have HR:=Lib.hid (hE.2 ⟨⟨k1,k2⟩,.inl h3⟩)
    have d3:(it==0)=true:=by simp [h3]
    clear hE h3 k1 k2
    go_enter Tryz.func206,Tryz.ntmps206
    go_upto_region 1 with fail
    generalize w.alloc (.cells #[.int .i64 kd,.int .i64 wd,.int .i64 it] 155)=W9 at *
    have hx:=HXB.out
    have x0:=cell_heap (k:=0) hx rfl
    have x1:=cell_heap (k:=1) hx rfl
    have x2:=cell_heap (k:=2) hx rfl
    have lx:=heap_lt0 hx
    clear hx
    go_wp2_with fail
    refine (inRange_any kd 0 3 _).mono ?_
    rw [H1.out]
    rintro _ w' ⟨rfl,rfl⟩
    go_wp2_with fail
    refine (inRange_any wd 0 4 _).mono ?_
    rw [H2.out]
    rintro _ w' ⟨rfl,rfl⟩
    go_wp2_with fail
    go_ret
    exact ⟨ret_tt HR.out,HB0.out⟩
   ·have d3:(it==0)=false:=by simp [h3]
    by_cases h4:kd=3
    ·have d4:(kd==3)=true:=by simp [h4]
     cases h5:inR it 0 15 with
     | false =>
      have HR:=Lib.hid (fun h=>(hE.1 h).2.elim h3 fun h=>not_in h5 h.2)
      have H5:=Lib.hid h5
      clear hE h5 h3 h4 k1 k2
      go_enter Tryz.func206,Tryz.ntmps206
      go_upto_region 1 with fail
      generalize w.alloc (.cells #[.int .i64 kd,.int .i64 wd,.int .i64 it] 155)=W9 at *
      have hx:=HXB.out
      have x0:=cell_heap (k:=0) hx rfl
      have x1:=cell_heap (k:=1) hx rfl
      have x2:=cell_heap (k:=2) hx rfl
      have lx:=heap_lt0 hx
      clear hx
      go_wp2_with fail
      refine (inRange_any kd 0 3 _).mono ?_
      rw [H1.out]
      rintro _ w' ⟨rfl,rfl⟩
      go_wp2_with fail
      refine (inRange_any wd 0 4 _).mono ?_
      rw [H2.out]
      rintro _ w' ⟨rfl,rfl⟩
      go_wp2_with fail
      refine (inRange_any it 0 15 _).mono ?_
      rw [H5.out]
      rintro _ w' ⟨rfl,rfl⟩
      go_wp2_with fail
      go_ret
      exact ⟨ret_ff HR.out,HB0.out⟩
     | true =>
      have HR:=Lib.hid (hE.2 ⟨⟨k1,k2⟩,.inr ⟨h4,inR_iff.1 h5⟩⟩)
      have H5:=Lib.hid h5
      clear hE h5 h3 h4 k1 k2
      go_enter Tryz.func206,Tryz.ntmps206
      go_upto_region 1 with fail
      generalize w.alloc (.cells #[.int .i64 kd,.int .i64 wd,.int .i64 it] 155)=W9 at *
      have hx:=HXB.out
      have x0:=cell_heap (k:=0) hx rfl
      have x1:=cell_heap (k:=1) hx rfl
      have x2:=cell_heap (k:=2) hx rfl
      have lx:=heap_lt0 hx
      clear hx
      go_wp2_with fail
      refine (inRange_any kd 0 3 _).mono ?_
      rw [H1.out]
      rintro _ w' ⟨rfl,rfl⟩
      go_wp2_with fail
      refine (inRange_any wd 0 4 _).mono ?_
      rw [H2.out]
      rintro _ w' ⟨rfl,rfl⟩
      go_wp2_with fail
      refine (inRange_any it 0 15 _).mono ?_
      rw [H5.out]
      rintro _ w' ⟨rfl,rfl⟩
      go_wp2_with fail
      go_ret
      exact ⟨ret_tt HR.out,HB0.out⟩
    ·have d4:(kd==3)=false:=by simp [h4]
     have HR:=Lib.hid (fun h=>(hE.1 h).2.elim h3 fun h=>h4 h.1)
     clear hE h3 h4 k1 k2
     go_enter Tryz.func206,Tryz.ntmps206
     go_upto_region 1 with fail
     generalize w.alloc (.cells #[.int .i64 kd,.int .i64 wd,.int .i64 it] 155)=W9 at *
     have hx:=HXB.out
     have x0:=cell_heap (k:=0) hx rfl
     have x1:=cell_heap (k:=1) hx rfl
     have x2:=cell_heap (k:=2) hx rfl
     have lx:=heap_lt0 hx
     clear hx
     go_wp2_with fail
     refine (inRange_any kd 0 3 _).mono ?_
     rw [H1.out]
     rintro _ w' ⟨rfl,rfl⟩
     go_wp2_with fail
     refine (inRange_any wd 0 4 _).mono ?_
     rw [H2.out]
     rintro _ w' ⟨rfl,rfl⟩
     go_wp2_with fail
     go_ret
     exact ⟨ret_ff HR.out,HB0.out⟩
theorem isDriven_any (k:Int) (w:World) :
  Calls Tryz.prog 207 #[.int .i64 k] w fun e w'=>e = .returned (.bool (tb (Driven k)))∧w=w':=by
 by_cases h1:k=1
 ·have HR:Hid (Driven k) := .inl h1
  have d1:(k==1)=true:=by simp [h1]
  clear h1
  go_enter Tryz.func207,Tryz.ntmps207
  go_wp2_with fail
  go_ret
  exact ⟨ret_tt HR.out,rfl⟩
 ·have d1:(k==1)=false:=by simp [h1]
  by_cases h2:k=2
  ·have HR:Hid (Driven k) := .inr (.inl h2)
   have d2:(k==2)=true:=by simp [h2]
   clear h1 h2
   go_enter Tryz.func207,Tryz.ntmps207
   go_wp2_with fail
   go_ret
   exact ⟨ret_tt HR.out,rfl⟩
  ·have d2:(k==2)=false:=by simp [h2]
   by_cases h3:k=3
   ·have HR:Hid (Driven k) := .inr (.inr h3)
    have d3:(k==3)=true:=by simp [h3]
    clear h1 h2 h3
    go_enter Tryz.func207,Tryz.ntmps207
    go_wp2_with fail
    go_ret
    exact ⟨ret_tt HR.out,rfl⟩
   ·have HR:Hid (¬Driven k):=fun h=>h.elim h1 fun h=>h.elim h2 h3
    have d3:(k==3)=false:=by simp [h3]
    clear h1 h2 h3
    go_enter Tryz.func207,Tryz.ntmps207
    go_wp2_with fail
    go_ret
    exact ⟨ret_ff HR.out,rfl⟩
set_option maxHeartbeats 1000000 in
theorem drives_any (m:MdT) (SA AA JA MA:Option Addr) (sn sc an ac jn jc mn mc:Nat) (s:Int) (w:World) (h:MdRd w m SA AA JA MA sn sc an ac jn jc mn mc) (hn:sn≤1048576) :
  Calls Tryz.prog 210 #[.agg #[.slice SA sn sc,.slice AA an ac,.slice JA jn jc,.slice MA mn mc],.int .i64 s] w fun e w'=>e = .returned (.bool (tb (Drives m s)))∧Below w.heap.size w w':=by
 have HB0:=Lib.hid (below_new (Below.refl w.heap.size w) (.cells #[.slice SA sn sc,.slice AA an ac,.slice JA jn jc,.slice MA mn mc] 108))
 have HXB:=Lib.hid (heap_new w (.cells #[.slice SA sn sc,.slice AA an ac,.slice JA jn jc,.slice MA mn mc] 108))
 have HM:=Lib.hid h
 have HL:=Lib.hid h.lens.1
 clear h
 cases h1:inR s 0 ((sn:Int) - 1) with
 | false =>
  have HR:Hid (¬Drives m s):=fun h=>not_in h1 ⟨h.1.1,by have:=h.1.2;rw [HL.out] at this;omega⟩
  have H1:=Lib.hid h1
  clear h1
  go_enter Tryz.func210,Tryz.ntmps210
  go_upto_region 1 with fail
  generalize w.alloc (.cells #[.slice SA sn sc,.slice AA an ac,.slice JA jn jc,.slice MA mn mc] 108)=W9 at *
  have hx:=HXB.out
  have x0:=cell_heap (k:=0) hx rfl
  have lx:=heap_lt0 hx
  clear hx
  go_wp2_with fail
  refine (inRange_any s 0 ((sn:Int) - 1) _).mono ?_
  rw [H1.out]
  rintro _ w' ⟨rfl,rfl⟩
  go_wp2_with fail
  go_ret
  exact ⟨ret_ff HR.out,HB0.out⟩
 | true =>
  have hs:=inR_iff.1 h1
  have H1:=Lib.hid h1
  have HIN:Hid (InSg m s):=⟨hs.1,by rw [HL.out];omega⟩
  clear h1
  obtain ⟨k,rfl⟩:∃k:Nat,s=(k:Int):=⟨s.toNat,by omega⟩
  have hkn:k<sn:=by omega
  obtain ⟨bs,os,rfl,hbs,c0,c1,c2⟩:=HM.out.sg.sgE (k:=k) (by rw [HL.out];exact hkn)
  rw [←HB0.out.cell (p:=⟨bs,os+k * 3,none⟩) hbs] at c0
  have lbs:=below_lt HB0.out hbs
  clear c1 c2 hbs
  have HSK:Hid ((sgK m.sigs (k:Int).toNat)=m.sigs[k]?.getD SgT.zero):=by show _=_;rw [Int.toNat_natCast];rfl
  obtain ⟨kd,hkd⟩:∃kd,(m.sigs[k]?.getD SgT.zero).kind=kd:=⟨_,rfl⟩
  have HKD:Hid ((sgK m.sigs (k:Int).toNat).kind=kd):=by show _=_;rw [HSK.out];exact hkd
  rw [hkd] at c0
  have i0:(0:Int)≤(k:Int):=by omega
  have i1:(k:Int)<(sn:Int):=by omega
  clear hkd
  by_cases h1:kd=1
  ·have HR:Hid (Drives m (k:Int)):=⟨HIN.out,.inl (HKD.out.trans h1)⟩
   have d1:(kd==1)=true:=by simp [h1]
   clear h1 hs
   go_enter Tryz.func210,Tryz.ntmps210
   go_upto_region 1 with fail
   generalize w.alloc (.cells #[.slice (some ⟨bs,os,none⟩) sn sc,.slice AA an ac,.slice JA jn jc,.slice MA mn mc] 108)=W9 at *
   have hx:=HXB.out
   have x0:=cell_heap (k:=0) hx rfl
   have lx:=heap_lt0 hx
   clear hx
   go_wp2_with fail
   refine (inRange_any (k:Int) 0 ((sn:Int) - 1) _).mono ?_
   rw [H1.out]
   rintro _ w' ⟨rfl,rfl⟩
   go_wp2_with fail
   go_ret
   exact ⟨ret_tt HR.out,HB0.out⟩
  ·have d1:(kd==1)=false:=by simp [h1]
   by_cases h2:kd=2
   ·have HR:Hid (Drives m (k:Int)):=⟨HIN.out,.inr (HKD.out.trans h2)⟩
    have d2:(kd==2)=true:=by simp [h2]
    clear h1 h2 hs
    go_enter Tryz.func210,Tryz.ntmps210
    go_upto_region 1 with fail
    generalize w.alloc (.cells #[.slice (some ⟨bs,os,none⟩) sn sc,.slice AA an ac,.slice JA jn jc,.slice MA mn mc] 108)=W9 at *
    have hx:=HXB.out
    have x0:=cell_heap (k:=0) hx rfl
    have lx:=heap_lt0 hx
    clear hx
    go_wp2_with fail
    refine (inRange_any (k:Int) 0 ((sn:Int) - 1) _).mono ?_
    rw [H1.out]
    rintro _ w' ⟨rfl,rfl⟩
    go_wp2_with fail
    go_ret
    exact ⟨ret_tt HR.out,HB0.out⟩
   ·have HR:Hid (¬Drives m (k:Int)):=fun h=>h.2.elim (fun h=>h1 (HKD.out.symm.trans h)) fun h=>h2 (HKD.out.symm.trans h)
    have d2:(kd==2)=false:=by simp [h2]
    clear h1 h2 hs
    go_enter Tryz.func210,Tryz.ntmps210
    go_upto_region 1 with fail
    generalize w.alloc (.cells #[.slice (some ⟨bs,os,none⟩) sn sc,.slice AA an ac,.slice JA jn jc,.slice MA mn mc] 108)=W9 at *
    have hx:=HXB.out
    have x0:=cell_heap (k:=0) hx rfl
    have lx:=heap_lt0 hx
    clear hx
    go_wp2_with fail
    refine (inRange_any (k:Int) 0 ((sn:Int) - 1) _).mono ?_
    rw [H1.out]
    rintro _ w' ⟨rfl,rfl⟩
    go_wp2_with fail
    go_ret
    exact ⟨ret_ff HR.out,HB0.out⟩
end Go.Proofs.YtlinbdkbbhpdpaaGreat

namespace Go.Proofs.YtlinbdkbbhpdpaaGreat
set_option maxRecDepth 100000
open Go.RowKit

theorem inOne_no {d:List MdT} {k:Nat} {j:Nat} (h:¬InOne d k ((mdK d k).insts[j]?.getD InT.zero)) (hj:j<(mdK d k).insts.length):¬InsFit d k:=fun h2=>h (h2 j hj)
set_option maxHeartbeats 4000000 in
theorem instsOk_any (d:List MdT) (DA:Option Addr) (dn dc kk:Nat) (w:World) (h:RdC w w.heap.size (celMd d) (.slice DA dn dc)) (hkk:kk<dn) (hdn:dn≤4) (hc:CntFit d) :
  Calls Tryz.prog 205 #[.agg #[.slice DA dn dc],.int .i64 (kk:Int)] w fun e w'=>e = .returned (.bool (tb (InsFit d kk)))∧Below w.heap.size w w':=by
 have HDL:=Lib.hid h.mdN
 have HD:=Lib.hid h
 clear h
 obtain ⟨bd,od,SA,AA,JA,MA,sn,sc,an,ac,jn,jc,mn,mc,rfl,hbd,e0,e1,e2,e3,rm⟩:=HD.out.md (k:=kk) hkk
 have HM:=Lib.hid rm
 clear rm
 have HB0:=Lib.hid (below_new (Below.refl w.heap.size w) (.cells #[.slice (some ⟨bd,od,none⟩) dn dc] 48))
 have HXB:=Lib.hid (heap_new w (.cells #[.slice (some ⟨bd,od,none⟩) dn dc] 48))
 have hj3:jn≤3:=by have h1:=(hc.2 kk (by rw [HDL.out];exact hkk)).ins;rw [HM.out.lens.2.2.1] at h1;exact h1
 clear hc
 rw [←HB0.out.cell (p:=⟨bd,od+kk * 4,none⟩) hbd] at e0
 rw [←HB0.out.cell (p:=⟨bd,od+kk * 4+1,none⟩) hbd] at e1
 rw [←HB0.out.cell (p:=⟨bd,od+kk * 4+2,none⟩) hbd] at e2
 rw [←HB0.out.cell (p:=⟨bd,od+kk * 4+3,none⟩) hbd] at e3
 have lbd:=below_lt HB0.out hbd
 have j0:(0:Int)≤(kk:Int):=by omega
 have j1:(kk:Int)<(dn:Int):=by omega
 go_enter Tryz.func205,Tryz.ntmps205
 go_upto_region 1 with fail
 generalize w.alloc (.cells #[.slice (some ⟨bd,od,none⟩) dn dc] 48)=W9 at *
 have hx:=HXB.out
 have x0:=cell_heap (k:=0) hx rfl
 have lx:=heap_lt0 hx
 clear hx
 go_wp2_with fail
 clear x0 lx e0 e1 e2 e3
 go_loopw [14] (fun i wr=>∃k:Nat,k≤jn∧i = .int .i64 (k:Int)∧Below W9.heap.size W9 wr∧(∀j,j<k→InOne d kk ((mdK d kk).insts[j]?.getD InT.zero))) (fun i _=>jn - (intOf i).toNat)
 case atStart=>exact ⟨0,by omega,rfl,Below.refl _ _,fun j hj=>by omega⟩
 case round =>
  obtain ⟨k,hk,rfl,hb,hall⟩:=hrel
  have HALL:=Lib.hid hall
  have HBW:=Lib.hid hb
  have HB:=Lib.hid (below_tr HB0.out hb)
  clear hb hall
  by_cases hlt:k<jn
  ·have hdk:decide ((k:Int)<(jn:Int))=true:=by simp;omega
   have i0:(0:Int)≤(k:Int):=by omega
   have i1:(k:Int)<(jn:Int):=by omega
   have hkl:k<(mdK d kk).insts.length:=by rw [HM.out.lens.2.2.1];exact hlt
   obtain ⟨bi,oi,PA,pn,pc,rfl,hbi,c0,c1,c2,r0⟩:=HM.out.ins.inE (k:=k) hkl
   rw [←HB.out.cell (p:=⟨bi,oi+k * 3,none⟩) hbi] at c0
   rw [←HB.out.cell (p:=⟨bi,oi+k * 3+1,none⟩) hbi] at c1
   rw [←HB.out.cell (p:=⟨bi,oi+k * 3+2,none⟩) hbi] at c2
   have lbi:=below_lt HB.out hbi
   have HR0:=Lib.hid r0
   clear hkl hbi r0
   have HNO:=Lib.hid (fun h:¬InOne d kk ((mdK d kk).insts[k]?.getD InT.zero)=>inOne_no h (by rw [HM.out.lens.2.2.1];exact hlt))
   have HG:=Lib.hid (fun h:InOne d kk ((mdK d kk).insts[k]?.getD InT.zero)=>all_succ HALL.out h)
   generalize (mdK d kk).insts[k]?.getD InT.zero=q at *
   obtain ⟨mo,pa,po⟩:=q
   simp only at c0 c1 c2 HR0
   have HPL:=Lib.hid HR0.out.ints.1
   have HBV:=Lib.hid (below_new HBW.out (.cells #[.int .i64 mo,.int .i64 pa,.slice PA pn pc] 202))
   have hx:=heap_al (.cells #[.int .i64 mo,.int .i64 pa,.slice PA pn pc] 202) (heap_tr HBW.out HXB.out)
   have x0:=cell_heap (k:=0) hx rfl
   have lx:=heap_lt0 hx
   clear hx
   have HB1:=Lib.hid (below_new HB.out (.cells #[.int .i64 mo,.int .i64 pa,.slice PA pn pc] 202))
   have hy:=heap_new wr (.cells #[.int .i64 mo,.int .i64 pa,.slice PA pn pc] 202)
   have HY:=Lib.hid hy
   have y0:=cell_heap (k:=0) hy rfl
   have y1:=cell_heap (k:=1) hy rfl
   have y2:=cell_heap (k:=2) hy rfl
   have ly:=heap_lt0 hy
   clear hy
   go_upto_region 4 with fail
   generalize wr.alloc (.cells #[.int .i64 mo,.int .i64 pa,.slice PA pn pc] 202)=W5 at *
   cases hr1:inR mo 0 ((kk:Int) - 1) with
   | false =>
    have HR:=Lib.hid (HNO.out fun h=>not_in hr1 h.1)
    have HIN:=Lib.hid (fun (v:Sub W5)=>(by have h:=inRange_any mo 0 ((kk:Int) - 1) v.v;rwa [hr1] at h:Calls Tryz.prog 90 #[.int .i64 mo,.int .i64 0,.int .i64 ((kk:Int) - 1)] v.v fun e w'=>e = .returned (.bool false)∧v.v=w'))
    clear hr1 HG HNO
    have hsub:=sub_ne W5
    have hsc:=sub_cell W5
    refine wp_region_below W5 (by kernel_rfl) (by kernel_rfl) (Below.refl _ _) ?_
    repeat (go_big_quiet_step ((first
     | (go_at_call 90;with_reducible exact calls_sub_same (HIN.out _)))))
    refine wpQuiet_nil ?_
    rintro _ ⟨⟨w5,hD⟩,rfl⟩
    clear hsub hsc
    have HB2:=Lib.hid (below_tr HB1.out hD)
    clear hD
    go_wp2_with fail
    go_ret
    exact ⟨ret_ff HR.out,HB2.out⟩
   | true =>
    have hr2:=inR_iff.1 hr1
    obtain ⟨M,rfl⟩:∃M:Nat,mo=(M:Int):=⟨mo.toNat,by omega⟩
    have HIT:=Lib.hid (fun (v:World)=>(by have h:=inRange_q (M:Int) 0 ((kk:Int) - 1) v;rwa [hr1] at h:Calls Tryz.prog 90 #[.int .i64 (M:Int),.int .i64 0,.int .i64 ((kk:Int) - 1)] v fun e w'=>e = .returned (.bool true)∧w'=v))
    have HWR:Hid (IntKind.i64.wrap ((kk:Int) - 1)=(kk:Int) - 1):=IntWalk.i64_in _ (by omega)
    clear hr1
    obtain ⟨bd2,od2,SA2,AA2,JA2,MA2,sn2,sc2,an2,ac2,jn2,jc2,mn2,mc2,hDA2,hbd2,e02,e12,e22,e32,rm2⟩:=HD.out.md (k:=M) (by omega)
    have HM2:=Lib.hid rm2
    clear rm2
    injection hDA2 with hDA2
    injection hDA2 with hDA2 hDA3
    subst hDA2 hDA3
    rw [←HB1.out.cell (p:=⟨bd,od+M * 4,none⟩) hbd2] at e02
    rw [←HB1.out.cell (p:=⟨bd,od+M * 4+1,none⟩) hbd2] at e12
    rw [←HB1.out.cell (p:=⟨bd,od+M * 4+2,none⟩) hbd2] at e22
    rw [←HB1.out.cell (p:=⟨bd,od+M * 4+3,none⟩) hbd2] at e32
    have lbd2:=below_lt HB1.out hbd2
    have HPO:Hid (InOne d kk ⟨(M:Int),pa,po⟩↔(pn:Int)=((portsOf (mdK d M)).length:Int)):=by
     show (_∧po.length=(portsOf (mdK d (M:Int).toNat)).length)↔_
     rw [Int.toNat_natCast,HPL.out]
     exact ⟨fun h=>by rw [h.2],fun h=>⟨hr2,by omega⟩⟩
    have HPQ:=Lib.hid (fun (v:World) (hv:Below W5.heap.size W5 v)=>portsOf_any (mdK d M) SA2 AA2 JA2 MA2 sn2 sc2 an2 ac2 jn2 jc2 mn2 mc2 v (HM2.out.below (below_tr HB1.out hv)))
    have i2:(0:Int)≤(M:Int):=by omega
    have i3:(M:Int)<(dn:Int):=by omega
    have hpl:=portsOf_len (mdK d M)
    obtain ⟨pl,hple⟩:∃n,(portsOf (mdK d M)).length=n:=⟨_,rfl⟩
    rw [hple] at HPO HPQ hpl
    clear hple hr2
    by_cases hpe:pn=pl
    ·have dp:((pn:Int) != (pl:Int))=false:=by simp [hpe]
     have HG2:=Lib.hid (HG.out (HPO.out.2 (by omega)))
     clear HG HNO hpe
     have HKP:=Lib.hid (fun (v:World) (hv:Below W5.heap.size W5 v)=>(⟨(hv.cell lx).trans x0,(hv.cell ly).trans y0,(hv.cell ly).trans y2,(hv.cell lbd2).trans e02,(hv.cell lbd2).trans e12,(hv.cell lbd2).trans e22,(hv.cell lbd2).trans e32⟩:v.cell? ⟨w.heap.size,0,none⟩=some (.slice (some ⟨bd,od,none⟩) dn dc)∧v.cell? ⟨wr.heap.size,0,none⟩=some (.int .i64 (M:Int))∧v.cell? ⟨wr.heap.size,2,none⟩=some (.slice PA pn pc)∧v.cell? ⟨bd,od+M * 4,none⟩=some (.slice SA2 sn2 sc2)∧v.cell? ⟨bd,od+M * 4+1,none⟩=some (.slice AA2 an2 ac2)∧v.cell? ⟨bd,od+M * 4+2,none⟩=some (.slice JA2 jn2 jc2)∧v.cell? ⟨bd,od+M * 4+3,none⟩=some (.slice MA2 mn2 mc2)))
     have hD:=(Below.refl W5.heap.size W5).drew
     go_region_held3 (fun w'=>w'.cell? ⟨w.heap.size,0,none⟩=some (.slice (some ⟨bd,od,none⟩) dn dc)∧w'.cell? ⟨wr.heap.size,0,none⟩=some (.int .i64 (M:Int))∧w'.cell? ⟨wr.heap.size,2,none⟩=some (.slice PA pn pc)∧w'.cell? ⟨bd,od+M * 4,none⟩=some (.slice SA2 sn2 sc2)∧w'.cell? ⟨bd,od+M * 4+1,none⟩=some (.slice AA2 an2 ac2)∧w'.cell? ⟨bd,od+M * 4+2,none⟩=some (.slice JA2 jn2 jc2)∧w'.cell? ⟨bd,od+M * 4+3,none⟩=some (.slice MA2 mn2 mc2))
      (with_reducible exact HKP.out _ hD)
      ((first
       | (go_at_call 90;rw [HWR.out];(with_reducible refine (HIT.out _).mono ?_);rintro _ v3 ⟨rfl,rfl⟩;skip)
       | (go_at_call 162;(with_reducible refine (HPQ.out _ hD).mono ?_);rintro _ v4 ⟨A4,n4,rfl,S4⟩;replace hD:=below_tr hD S4.bel;clear S4)))
     clear HKP
     have HB2:=Lib.hid (below_tr HBV.out hD)
     clear hD
     go_wp2_with fail
     go_roundw
     case rel=>exact ⟨k+1,by omega,by go_num,HB2.out,HG2.out⟩
     case measure=>simp [intOf];omega
    ·have dp:((pn:Int) != (pl:Int))=true:=by simp;omega
     have HR:=Lib.hid (HNO.out fun h=>hpe (by have:=HPO.out.1 h;omega))
     clear HG HNO hpe
     have HKP:=Lib.hid (fun (v:World) (hv:Below W5.heap.size W5 v)=>(⟨(hv.cell lx).trans x0,(hv.cell ly).trans y0,(hv.cell ly).trans y2,(hv.cell lbd2).trans e02,(hv.cell lbd2).trans e12,(hv.cell lbd2).trans e22,(hv.cell lbd2).trans e32⟩:v.cell? ⟨w.heap.size,0,none⟩=some (.slice (some ⟨bd,od,none⟩) dn dc)∧v.cell? ⟨wr.heap.size,0,none⟩=some (.int .i64 (M:Int))∧v.cell? ⟨wr.heap.size,2,none⟩=some (.slice PA pn pc)∧v.cell? ⟨bd,od+M * 4,none⟩=some (.slice SA2 sn2 sc2)∧v.cell? ⟨bd,od+M * 4+1,none⟩=some (.slice AA2 an2 ac2)∧v.cell? ⟨bd,od+M * 4+2,none⟩=some (.slice JA2 jn2 jc2)∧v.cell? ⟨bd,od+M * 4+3,none⟩=some (.slice MA2 mn2 mc2)))
     have hD:=(Below.refl W5.heap.size W5).drew
     go_region_held3 (fun w'=>w'.cell? ⟨w.heap.size,0,none⟩=some (.slice (some ⟨bd,od,none⟩) dn dc)∧w'.cell? ⟨wr.heap.size,0,none⟩=some (.int .i64 (M:Int))∧w'.cell? ⟨wr.heap.size,2,none⟩=some (.slice PA pn pc)∧w'.cell? ⟨bd,od+M * 4,none⟩=some (.slice SA2 sn2 sc2)∧w'.cell? ⟨bd,od+M * 4+1,none⟩=some (.slice AA2 an2 ac2)∧w'.cell? ⟨bd,od+M * 4+2,none⟩=some (.slice JA2 jn2 jc2)∧w'.cell? ⟨bd,od+M * 4+3,none⟩=some (.slice MA2 mn2 mc2))
      (with_reducible exact HKP.out _ hD)
      ((first
       | (go_at_call 90;rw [HWR.out];(with_reducible refine (HIT.out _).mono ?_);rintro _ v3 ⟨rfl,rfl⟩;skip)
       | (go_at_call 162;(with_reducible refine (HPQ.out _ hD).mono ?_);rintro _ v4 ⟨A4,n4,rfl,S4⟩;replace hD:=below_tr hD S4.bel;clear S4)))
     clear HKP
     have HB2:=Lib.hid (below_tr HB1.out hD)
     clear hD
     go_wp2_with fail
     go_ret
     exact ⟨ret_ff HR.out,HB2.out⟩
  ·have hkn:k=jn:=by omega
   have hdk:decide ((k:Int)<(jn:Int))=false:=by simp;omega
   have HR:Hid (InsFit d kk):=fun j hj=>HALL.out j (by rw [hkn,←HM.out.lens.2.2.1];exact hj)
   go_wp2_with fail
   go_ret
   exact ⟨ret_tt HR.out,HB.out⟩
end Go.Proofs.YtlinbdkbbhpdpaaGreat
