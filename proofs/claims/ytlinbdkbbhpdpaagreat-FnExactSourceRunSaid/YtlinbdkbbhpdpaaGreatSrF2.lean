/- Modules as arguments: reading them. Plain lemmas. Operators and expressions in both programs: valid ones (printed by mksr1.py). Ports and their widths in both programs (printed by mksr2.py). -/
import Derived.Test.YtlinbdkbbhpdpaaGreatHar
import Derived.Test.YtlinbdkbbhpdpaaGreatSepB
import Derived.Test.YtlinbdkbbhpdpaaGreatSrQ
namespace Go.Proofs.YtlinbdkbbhpdpaaGreat
set_option maxRecDepth 100000
open Go.RowKit

/-- The four rows of a module can be read. -/
structure MdRd (w:World) (m:MdT) (SA AA JA MA:Option Addr) (sn sc an ac jn jc mn mc:Nat):Prop where
 sg:RdC w w.heap.size (celSg m.sigs) (.slice SA sn sc)
 asg:RdC w w.heap.size (celAs m.asgs) (.slice AA an ac)
 ins:RdC w w.heap.size (celIn m.insts) (.slice JA jn jc)
 mm:RdC w w.heap.size (celMm m.mems) (.slice MA mn mc)
section
variable {w w':World} {m:MdT} {SA AA JA MA:Option Addr} {sn sc an ac jn jc mn mc:Nat}
theorem MdRd.below (h:MdRd w m SA AA JA MA sn sc an ac jn jc mn mc) (hb:Below w.heap.size w w'):MdRd w' m SA AA JA MA sn sc an ac jn jc mn mc :=
 ⟨h.sg.below hb,h.asg.below hb,h.ins.below hb,h.mm.below hb⟩
theorem MdRd.lens (h:MdRd w m SA AA JA MA sn sc an ac jn jc mn mc):m.sigs.length=sn∧m.asgs.length=an∧m.insts.length=jn∧m.mems.length=mn:=⟨h.sg.sgN,h.asg.asN,h.ins.inN,h.mm.mmN⟩
end
/-- A module of a design. -/
theorem RdC.md {w:World} {d:List MdT} {DA:Option Addr} {dn dc k:Nat} (h:RdC w w.heap.size (celMd d) (.slice DA dn dc)) (hk:k<dn) :
  ∃b o SA AA JA MA sn sc an ac jn jc mn mc,DA=some ⟨b,o,none⟩∧b<w.heap.size∧w.cell? ⟨b,o+k * 4,none⟩=some (.slice SA sn sc)∧w.cell? ⟨b,o+k * 4+1,none⟩=some (.slice AA an ac)∧w.cell? ⟨b,o+k * 4+2,none⟩=some (.slice JA jn jc)∧w.cell? ⟨b,o+k * 4+3,none⟩=some (.slice MA mn mc)∧MdRd w (mdK d k) SA AA JA MA sn sc an ac jn jc mn mc:=by
 obtain ⟨b,o,SA,sn,sc,AA,an,ac,JA,jn,jc,MA,mn,mc,rfl,hb,c0,c1,c2,c3,r0,r1,r2,r3⟩:=h.mdE (k:=k) (by rw [h.mdN];exact hk)
 exact ⟨b,o,SA,AA,JA,MA,sn,sc,an,ac,jn,jc,mn,mc,rfl,hb,c0,c1,c2,c3,r0,r1,r2,r3⟩
theorem Sepa.low {V W w:World} {ps:List Pc} (h:Sepa W w ps) (hb:Below V.heap.size V W):Sepa V w ps:=by
 obtain ⟨h1,F,h2,h3,h4⟩:=h
 exact ⟨below_tr hb h1,F,h2,h3,fun k hk=>Nat.le_trans hb.size (h4 k hk)⟩
theorem Sepa.join {W w w':World} {ps qs:List Pc} (S:Sepa W w ps) (T:Sepa w w' qs):Sepa W w' (ps++qs):=by
 obtain ⟨h1,F,h2,h3,h4⟩:=S
 obtain ⟨k1,G,k2,k3,k4⟩:=T
 have hl:=h2.lt
 refine ⟨below_tr h1 k1,F++G,(h2.keep k1.size fun k hk=>k1.block k (hl k hk)).append k2,?_,fun k hk=>?_⟩
 ·rw [List.nodup_append]
  exact ⟨h3,k3,fun a ha b hb e=>by have:=hl a ha;have:=k4 b hb;omega⟩
 ·rcases List.mem_append.1 hk with hk|hk
  ·exact h4 k hk
  ·have:=k4 k hk;have:=h1.size;omega
end Go.Proofs.YtlinbdkbbhpdpaaGreat

namespace Go.Proofs.YtlinbdkbbhpdpaaGreat
set_option maxRecDepth 100000
open Go.RowKit

theorem arity_0 {k:Int} (h:inR k 0 3=true):arity k=0:=by unfold arity;rw [if_pos (inR_iff.1 h)]
theorem arity_n {k:Int} (h:inR k 0 3=false):arity k=if k=4 then 1 else if 5≤k∧k≤11 then 2 else if k=12 then 3 else -1:=by
 unfold arity
 rw [if_neg fun h2=>by rw [inR_iff.2 h2] at h;cases h]
theorem not_in {n lo hi:Int} (h:inR n lo hi=false):¬(lo≤n∧n≤hi):=fun h2=>by rw [inR_iff.2 h2] at h;cases h
set_option maxHeartbeats 400000 in
theorem opArity_any (k:Int) (w:World) :
  Calls Tryz.prog 225 #[.int .i64 k] w fun e w'=>e = .returned (.int .i64 (arity k))∧w=w':=by
 cases h1:inR k 0 3 with
 | true =>
  have HB:=Lib.hid (arity_0 h1)
  have H1:=Lib.hid h1
  go_enter Tryz.func225,Tryz.ntmps225
  go_wp2_with fail
  refine (inRange_any k 0 3 _).mono ?_
  rw [H1.out]
  rintro _ w' ⟨rfl,rfl⟩
  go_wp2_with fail
  go_ret
  exact ⟨ret_int HB.out.symm,rfl⟩
 | false =>
  have hA:=arity_n h1
  have H1:=Lib.hid h1
  by_cases h4:k=4
  ·rw [if_pos h4] at hA
   have HB:=Lib.hid hA
   have d4:(k==4)=true:=by simp [h4]
   clear hA h1 h4
   go_enter Tryz.func225,Tryz.ntmps225
   go_wp2_with fail
   refine (inRange_any k 0 3 _).mono ?_
   rw [H1.out]
   rintro _ w' ⟨rfl,rfl⟩
   go_wp2_with fail
   go_ret
   exact ⟨ret_int HB.out.symm,rfl⟩
  ·rw [if_neg h4] at hA
   have d4:(k==4)=false:=by simp [h4]
   cases h5:inR k 5 11 with
   | true =>
    rw [if_pos (inR_iff.1 h5)] at hA
    have HB:=Lib.hid hA
    have H5:=Lib.hid h5
    clear hA h1 h4 h5
    go_enter Tryz.func225,Tryz.ntmps225
    go_wp2_with fail
    refine (inRange_any k 0 3 _).mono ?_
    rw [H1.out]
    rintro _ w' ⟨rfl,rfl⟩
    go_wp2_with fail
    refine (inRange_any k 5 11 _).mono ?_
    rw [H5.out]
    rintro _ w' ⟨rfl,rfl⟩
    go_wp2_with fail
    go_ret
    exact ⟨ret_int HB.out.symm,rfl⟩
   | false =>
    rw [if_neg (not_in h5)] at hA
    have H5:=Lib.hid h5
    by_cases h12:k=12
    ·rw [if_pos h12] at hA
     have HB:=Lib.hid hA
     have d12:(k==12)=true:=by simp [h12]
     clear hA h1 h4 h5 h12
     go_enter Tryz.func225,Tryz.ntmps225
     go_wp2_with fail
     refine (inRange_any k 0 3 _).mono ?_
     rw [H1.out]
     rintro _ w' ⟨rfl,rfl⟩
     go_wp2_with fail
     refine (inRange_any k 5 11 _).mono ?_
     rw [H5.out]
     rintro _ w' ⟨rfl,rfl⟩
     go_wp2_with fail
     go_ret
     exact ⟨ret_int HB.out.symm,rfl⟩
    ·rw [if_neg h12] at hA
     have HB:=Lib.hid hA
     have d12:(k==12)=false:=by simp [h12]
     clear hA h1 h4 h5 h12
     go_enter Tryz.func225,Tryz.ntmps225
     go_wp2_with fail
     refine (inRange_any k 0 3 _).mono ?_
     rw [H1.out]
     rintro _ w' ⟨rfl,rfl⟩
     go_wp2_with fail
     refine (inRange_any k 5 11 _).mono ?_
     rw [H5.out]
     rintro _ w' ⟨rfl,rfl⟩
     go_wp2_with fail
     go_ret
     exact ⟨ret_int HB.out.symm,rfl⟩
set_option maxHeartbeats 400000 in
theorem sopArity_any (k:Int) (w:World) :
  Calls Tryz.prog 222 #[.int .i64 k] w fun e w'=>e = .returned (.int .i64 (arity k))∧w=w':=by
 cases h1:inR k 0 12 with
 | false =>
  have h:=not_in h1
  have hA:arity k=-1:=by unfold arity;rw [if_neg (by omega),if_neg (by omega),if_neg (by omega),if_neg (by omega)]
  have HB:=Lib.hid hA
  have H1:=Lib.hid h1
  clear h h1 hA
  go_enter Tryz.func222,Tryz.ntmps222
  go_wp2_with fail
  refine (l01In_any k 0 12 _).mono ?_
  rw [H1.out]
  rintro _ w' ⟨rfl,rfl⟩
  go_wp2_with fail
  go_ret
  exact ⟨ret_int HB.out.symm,rfl⟩
 | true =>
  have h:=inR_iff.1 h1
  have H1:=Lib.hid h1
  by_cases h3:k≤3
  ·have hA:arity k=0:=by unfold arity;rw [if_pos (by omega)]
   have HB:=Lib.hid hA
   have d3:decide (k≤3)=true:=decide_eq_true h3
   clear h h1 hA h3
   go_enter Tryz.func222,Tryz.ntmps222
   go_wp2_with fail
   refine (l01In_any k 0 12 _).mono ?_
   rw [H1.out]
   rintro _ w' ⟨rfl,rfl⟩
   go_wp2_with fail
   go_ret
   exact ⟨ret_int HB.out.symm,rfl⟩
  ·have d3:decide (k≤3)=false:=decide_eq_false h3
   by_cases h4:k=4
   ·have hA:arity k=1:=by unfold arity;rw [if_neg (by omega),if_pos h4]
    have HB:=Lib.hid hA
    have d4:(k==4)=true:=by simp [h4]
    clear h h1 hA h3 h4
    go_enter Tryz.func222,Tryz.ntmps222
    go_wp2_with fail
    refine (l01In_any k 0 12 _).mono ?_
    rw [H1.out]
    rintro _ w' ⟨rfl,rfl⟩
    go_wp2_with fail
    go_ret
    exact ⟨ret_int HB.out.symm,rfl⟩
   ·have d4:(k==4)=false:=by simp [h4]
    by_cases h12:k=12
    ·have hA:arity k=3:=by unfold arity;rw [if_neg (by omega),if_neg h4,if_neg (by omega),if_pos h12]
     have HB:=Lib.hid hA
     have d12:(k==12)=true:=by simp [h12]
     clear h h1 hA h3 h4 h12
     go_enter Tryz.func222,Tryz.ntmps222
     go_wp2_with fail
     refine (l01In_any k 0 12 _).mono ?_
     rw [H1.out]
     rintro _ w' ⟨rfl,rfl⟩
     go_wp2_with fail
     go_ret
     exact ⟨ret_int HB.out.symm,rfl⟩
    ·have hA:arity k=2:=by unfold arity;rw [if_neg (by omega),if_neg h4,if_pos (by omega)]
     have HB:=Lib.hid hA
     have d12:(k==12)=false:=by simp [h12]
     clear h h1 hA h3 h4 h12
     go_enter Tryz.func222,Tryz.ntmps222
     go_wp2_with fail
     refine (l01In_any k 0 12 _).mono ?_
     rw [H1.out]
     rintro _ w' ⟨rfl,rfl⟩
     go_wp2_with fail
     go_ret
     exact ⟨ret_int HB.out.symm,rfl⟩
set_option maxHeartbeats 1000000 in
theorem opOk_any (kd a b n:Int) (w:World) :
  Calls Tryz.prog 224 #[.agg #[.int .i64 kd,.int .i64 a,.int .i64 b],.int .i64 n] w fun e w'=>e = .returned (.bool (tb (OpFit ⟨kd,a,b⟩ n)))∧Below w.heap.size w w':=by
 have HB0:=Lib.hid (below_new (Below.refl w.heap.size w) (.cells #[.int .i64 kd,.int .i64 a,.int .i64 b] 198))
 have HXB:=Lib.hid (heap_new w (.cells #[.int .i64 kd,.int .i64 a,.int .i64 b] 198))
 have hE:OpFit ⟨kd,a,b⟩ n↔if kd=0 then (0≤a∧a≤15)∧b=0 else if kd=2 then (0≤a∧a<n)∧b=0 else if kd=3 then (0≤a∧a<n)∧0≤b∧b≤3 else (0≤arity kd∧a=0)∧b=0:=Iff.rfl
 by_cases h0:kd=0
 ·rw [if_pos h0] at hE
  have d0:(kd==0)=true:=by simp [h0]
  clear h0
  cases h1:inR a 0 15 with
  | true =>
   have ha:=inR_iff.1 h1
   have H1:=Lib.hid h1
   by_cases hb:b=0
   ·have HR:=Lib.hid (hE.2 ⟨ha,hb⟩)
    have db:(b==0)=true:=by simp [hb]
    clear hE hb ha h1
    go_enter Tryz.func224,Tryz.ntmps224
    go_upto_region 1 with fail
    generalize w.alloc (.cells #[.int .i64 kd,.int .i64 a,.int .i64 b] 198)=W9 at *
    have hx:=HXB.out
    have x0:=cell_heap (k:=0) hx rfl
    have x1:=cell_heap (k:=1) hx rfl
    have x2:=cell_heap (k:=2) hx rfl
    have lx:=heap_lt0 hx
    clear hx
    go_wp2_with fail
    refine (inRange_any a 0 15 _).mono ?_
    rw [H1.out]
    rintro _ w' ⟨rfl,rfl⟩
    go_wp2_with fail
    go_ret
    exact ⟨ret_tt HR.out,HB0.out⟩
   ·have HR:=Lib.hid (fun h=>hb (hE.1 h).2)
    have db:(b==0)=false:=by simp [hb]
    clear hE hb ha h1
    go_enter Tryz.func224,Tryz.ntmps224
    go_upto_region 1 with fail
    generalize w.alloc (.cells #[.int .i64 kd,.int .i64 a,.int .i64 b] 198)=W9 at *
    have hx:=HXB.out
    have x0:=cell_heap (k:=0) hx rfl
    have x1:=cell_heap (k:=1) hx rfl
    have x2:=cell_heap (k:=2) hx rfl
    have lx:=heap_lt0 hx
    clear hx
    go_wp2_with fail
    refine (inRange_any a 0 15 _).mono ?_
    rw [H1.out]
    rintro _ w' ⟨rfl,rfl⟩
    go_wp2_with fail
    go_ret
    exact ⟨ret_ff HR.out,HB0.out⟩
  | false =>
   have HR:=Lib.hid (fun h=>not_in h1 (hE.1 h).1)
   have H1:=Lib.hid h1
   clear hE h1
   go_enter Tryz.func224,Tryz.ntmps224
   go_upto_region 1 with fail
   generalize w.alloc (.cells #[.int .i64 kd,.int .i64 a,.int .i64 b] 198)=W9 at *
   have hx:=HXB.out
   have x0:=cell_heap (k:=0) hx rfl
   have x1:=cell_heap (k:=1) hx rfl
   have x2:=cell_heap (k:=2) hx rfl
   have lx:=heap_lt0 hx
   clear hx
   go_wp2_with fail
   refine (inRange_any a 0 15 _).mono ?_
   rw [H1.out]
   rintro _ w' ⟨rfl,rfl⟩
   go_wp2_with fail
   go_ret
   exact ⟨ret_ff HR.out,HB0.out⟩
 ·rw [if_neg h0] at hE
  have d0:(kd==0)=false:=by simp [h0]
  by_cases h2:kd=2
  ·rw [if_pos h2] at hE
   have d2:(kd==2)=true:=by simp [h2]
   clear h2 h0
   by_cases ha:0≤a
   ·have da:decide (a≥0)=true:=decide_eq_true ha
    by_cases hn:a<n
    ·have dn:decide (a<n)=true:=decide_eq_true hn
     by_cases hb:b=0
     ·have HR:=Lib.hid (hE.2 ⟨⟨ha,hn⟩,hb⟩)
      have db:(b==0)=true:=by simp [hb]
      clear hE hb ha hn
      go_enter Tryz.func224,Tryz.ntmps224
      go_upto_region 1 with fail
      generalize w.alloc (.cells #[.int .i64 kd,.int .i64 a,.int .i64 b] 198)=W9 at *
      have hx:=HXB.out
      have x0:=cell_heap (k:=0) hx rfl
      have x1:=cell_heap (k:=1) hx rfl
      have x2:=cell_heap (k:=2) hx rfl
      have lx:=heap_lt0 hx
      clear hx
      go_wp2_with fail
      go_ret
      exact ⟨ret_tt HR.out,HB0.out⟩
     ·have HR:=Lib.hid (fun h=>hb (hE.1 h).2)
      have db:(b==0)=false:=by simp [hb]
      clear hE hb ha hn
      go_enter Tryz.func224,Tryz.ntmps224
      go_upto_region 1 with fail
      generalize w.alloc (.cells #[.int .i64 kd,.int .i64 a,.int .i64 b] 198)=W9 at *
      have hx:=HXB.out
      have x0:=cell_heap (k:=0) hx rfl
      have x1:=cell_heap (k:=1) hx rfl
      have x2:=cell_heap (k:=2) hx rfl
      have lx:=heap_lt0 hx
      clear hx
      go_wp2_with fail
      go_ret
      exact ⟨ret_ff HR.out,HB0.out⟩
    ·have HR:=Lib.hid (fun h=>hn (hE.1 h).1.2)
     have dn:decide (a<n)=false:=decide_eq_false hn
     clear hE hn ha
     go_enter Tryz.func224,Tryz.ntmps224
     go_upto_region 1 with fail
     generalize w.alloc (.cells #[.int .i64 kd,.int .i64 a,.int .i64 b] 198)=W9 at *
     have hx:=HXB.out
     have x0:=cell_heap (k:=0) hx rfl
     have x1:=cell_heap (k:=1) hx rfl
     have x2:=cell_heap (k:=2) hx rfl
     have lx:=heap_lt0 hx
     clear hx
     go_wp2_with fail
     go_ret
     exact ⟨ret_ff HR.out,HB0.out⟩
   ·have HR:=Lib.hid (fun h=>ha (hE.1 h).1.1)
    have da:decide (a≥0)=false:=decide_eq_false ha
    clear hE ha
    go_enter Tryz.func224,Tryz.ntmps224
    go_upto_region 1 with fail
    generalize w.alloc (.cells #[.int .i64 kd,.int .i64 a,.int .i64 b] 198)=W9 at *
    have hx:=HXB.out
    have x0:=cell_heap (k:=0) hx rfl
    have x1:=cell_heap (k:=1) hx rfl
    have x2:=cell_heap (k:=2) hx rfl
    have lx:=heap_lt0 hx
    clear hx
    go_wp2_with fail
    go_ret
    exact ⟨ret_ff HR.out,HB0.out⟩
  ·rw [if_neg h2] at hE
   have d2:(kd==2)=false:=by simp [h2]
   by_cases h3:kd=3
   ·rw [if_pos h3] at hE
    have d3:(kd==3)=true:=by simp [h3]
    clear h0 h2 h3
    by_cases ha:0≤a
    ·have da:decide (a≥0)=true:=decide_eq_true ha
     by_cases hn:a<n
     ·have dn:decide (a<n)=true:=decide_eq_true hn
      cases h1:inR b 0 3 with
      | true =>
       have HR:=Lib.hid (hE.2 ⟨⟨ha,hn⟩,inR_iff.1 h1⟩)
       have H1:=Lib.hid h1
       clear hE ha hn h1
       go_enter Tryz.func224,Tryz.ntmps224
       go_upto_region 1 with fail
       generalize w.alloc (.cells #[.int .i64 kd,.int .i64 a,.int .i64 b] 198)=W9 at *
       have hx:=HXB.out
       have x0:=cell_heap (k:=0) hx rfl
       have x1:=cell_heap (k:=1) hx rfl
       have x2:=cell_heap (k:=2) hx rfl
       have lx:=heap_lt0 hx
       clear hx
       go_wp2_with fail
       refine (inRange_any b 0 3 _).mono ?_
       rw [H1.out]
       rintro _ w' ⟨rfl,rfl⟩
       go_wp2_with fail
       go_ret
       exact ⟨ret_tt HR.out,HB0.out⟩
      | false =>
       have HR:=Lib.hid (fun h=>not_in h1 (hE.1 h).2)
       have H1:=Lib.hid h1
       clear hE ha hn h1
       go_enter Tryz.func224,Tryz.ntmps224
       go_upto_region 1 with fail
       generalize w.alloc (.cells #[.int .i64 kd,.int .i64 a,.int .i64 b] 198)=W9 at *
       have hx:=HXB.out
       have x0:=cell_heap (k:=0) hx rfl
       have x1:=cell_heap (k:=1) hx rfl
       have x2:=cell_heap (k:=2) hx rfl
       have lx:=heap_lt0 hx
       clear hx
       go_wp2_with fail
       refine (inRange_any b 0 3 _).mono ?_
       rw [H1.out]
       rintro _ w' ⟨rfl,rfl⟩
       go_wp2_with fail
       go_ret
       exact ⟨ret_ff HR.out,HB0.out⟩
     ·have HR:=Lib.hid (fun h=>hn (hE.1 h).1.2)
      have dn:decide (a<n)=false:=decide_eq_false hn
      clear hE hn ha
      go_enter Tryz.func224,Tryz.ntmps224
      go_upto_region 1 with fail
      generalize w.alloc (.cells #[.int .i64 kd,.int .i64 a,.int .i64 b] 198)=W9 at *
      have hx:=HXB.out
      have x0:=cell_heap (k:=0) hx rfl
      have x1:=cell_heap (k:=1) hx rfl
      have x2:=cell_heap (k:=2) hx rfl
      have lx:=heap_lt0 hx
      clear hx
      go_wp2_with fail
      go_ret
      exact ⟨ret_ff HR.out,HB0.out⟩
    ·have HR:=Lib.hid (fun h=>ha (hE.1 h).1.1)
     have da:decide (a≥0)=false:=decide_eq_false ha
     clear hE ha
     go_enter Tryz.func224,Tryz.ntmps224
     go_upto_region 1 with fail
     generalize w.alloc (.cells #[.int .i64 kd,.int .i64 a,.int .i64 b] 198)=W9 at *
     have hx:=HXB.out
     have x0:=cell_heap (k:=0) hx rfl
     have x1:=cell_heap (k:=1) hx rfl
     have x2:=cell_heap (k:=2) hx rfl
     have lx:=heap_lt0 hx
     clear hx
     go_wp2_with fail
     go_ret
     exact ⟨ret_ff HR.out,HB0.out⟩
   ·rw [if_neg h3] at hE
    have d3:(kd==3)=false:=by simp [h3]
    obtain ⟨ar,hr⟩:∃r,arity kd=r:=⟨_,rfl⟩
    rw [hr] at hE
    have HA:=Lib.hid hr
    clear hr h0 h2 h3
    by_cases hr:0≤ar
    ·have dr:decide (ar≥0)=true:=decide_eq_true hr
     by_cases ha:a=0
     ·have da:(a==0)=true:=by simp [ha]
      by_cases hb:b=0
      ·have HR:=Lib.hid (hE.2 ⟨⟨hr,ha⟩,hb⟩)
       have db:(b==0)=true:=by simp [hb]
       clear hE hb hr ha
       go_enter Tryz.func224,Tryz.ntmps224
       go_upto_region 1 with fail
       generalize w.alloc (.cells #[.int .i64 kd,.int .i64 a,.int .i64 b] 198)=W9 at *
       have hx:=HXB.out
       have x0:=cell_heap (k:=0) hx rfl
       have x1:=cell_heap (k:=1) hx rfl
       have x2:=cell_heap (k:=2) hx rfl
       have lx:=heap_lt0 hx
       clear hx
       go_wp2_with fail
       refine (opArity_any kd _).mono ?_
       rw [HA.out]
       rintro _ w' ⟨rfl,rfl⟩
       go_wp2_with fail
       go_ret
       exact ⟨ret_tt HR.out,HB0.out⟩
      ·have HR:=Lib.hid (fun h=>hb (hE.1 h).2)
       have db:(b==0)=false:=by simp [hb]
       clear hE hb hr ha
       go_enter Tryz.func224,Tryz.ntmps224
       go_upto_region 1 with fail
       generalize w.alloc (.cells #[.int .i64 kd,.int .i64 a,.int .i64 b] 198)=W9 at *
       have hx:=HXB.out
       have x0:=cell_heap (k:=0) hx rfl
       have x1:=cell_heap (k:=1) hx rfl
       have x2:=cell_heap (k:=2) hx rfl
       have lx:=heap_lt0 hx
       clear hx
       go_wp2_with fail
       refine (opArity_any kd _).mono ?_
       rw [HA.out]
       rintro _ w' ⟨rfl,rfl⟩
       go_wp2_with fail
       go_ret
       exact ⟨ret_ff HR.out,HB0.out⟩
     ·have HR:=Lib.hid (fun h=>ha (hE.1 h).1.2)
      have da:(a==0)=false:=by simp [ha]
      clear hE hr ha
      go_enter Tryz.func224,Tryz.ntmps224
      go_upto_region 1 with fail
      generalize w.alloc (.cells #[.int .i64 kd,.int .i64 a,.int .i64 b] 198)=W9 at *
      have hx:=HXB.out
      have x0:=cell_heap (k:=0) hx rfl
      have x1:=cell_heap (k:=1) hx rfl
      have x2:=cell_heap (k:=2) hx rfl
      have lx:=heap_lt0 hx
      clear hx
      go_wp2_with fail
      refine (opArity_any kd _).mono ?_
      rw [HA.out]
      rintro _ w' ⟨rfl,rfl⟩
      go_wp2_with fail
      go_ret
      exact ⟨ret_ff HR.out,HB0.out⟩
    ·have HR:=Lib.hid (fun h=>hr (hE.1 h).1.1)
     have dr:decide (ar≥0)=false:=decide_eq_false hr
     clear hE hr
     go_enter Tryz.func224,Tryz.ntmps224
     go_upto_region 1 with fail
     generalize w.alloc (.cells #[.int .i64 kd,.int .i64 a,.int .i64 b] 198)=W9 at *
     have hx:=HXB.out
     have x0:=cell_heap (k:=0) hx rfl
     have x1:=cell_heap (k:=1) hx rfl
     have x2:=cell_heap (k:=2) hx rfl
     have lx:=heap_lt0 hx
     clear hx
     go_wp2_with fail
     refine (opArity_any kd _).mono ?_
     rw [HA.out]
     rintro _ w' ⟨rfl,rfl⟩
     go_wp2_with fail
     go_ret
     exact ⟨ret_ff HR.out,HB0.out⟩
set_option maxHeartbeats 1000000 in
theorem sopOk_any (kd a b n:Int) (w:World) :
  Calls Tryz.prog 221 #[.agg #[.int .i64 kd,.int .i64 a,.int .i64 b],.int .i64 n] w fun e w'=>e = .returned (.bool (tb (OpFit ⟨kd,a,b⟩ n)))∧Below w.heap.size w w':=by
 have HB0:=Lib.hid (below_new (Below.refl w.heap.size w) (.cells #[.int .i64 kd,.int .i64 a,.int .i64 b] 198))
 have HXB:=Lib.hid (heap_new w (.cells #[.int .i64 kd,.int .i64 a,.int .i64 b] 198))
 have hE:OpFit ⟨kd,a,b⟩ n↔if kd=0 then (0≤a∧a≤15)∧b=0 else if kd=2 then (0≤a∧a<n)∧b=0 else if kd=3 then (0≤a∧a<n)∧0≤b∧b≤3 else (0≤arity kd∧a=0)∧b=0:=Iff.rfl
 by_cases h0:kd=0
 ·rw [if_pos h0] at hE
  have d0:(kd==0)=true:=by simp [h0]
  clear h0
  cases h1:inR a 0 15 with
  | true =>
   have ha:=inR_iff.1 h1
   have H1:=Lib.hid h1
   by_cases hb:b=0
   ·have HR:=Lib.hid (hE.2 ⟨ha,hb⟩)
    have db:(b==0)=true:=by simp [hb]
    clear hE hb ha h1
    go_enter Tryz.func221,Tryz.ntmps221
    go_upto_region 1 with fail
    generalize w.alloc (.cells #[.int .i64 kd,.int .i64 a,.int .i64 b] 198)=W9 at *
    have hx:=HXB.out
    have x0:=cell_heap (k:=0) hx rfl
    have x1:=cell_heap (k:=1) hx rfl
    have x2:=cell_heap (k:=2) hx rfl
    have lx:=heap_lt0 hx
    clear hx
    go_wp2_with fail
    refine (l01In_any a 0 15 _).mono ?_
    rw [H1.out]
    rintro _ w' ⟨rfl,rfl⟩
    go_wp2_with fail
    go_ret
    exact ⟨ret_tt HR.out,HB0.out⟩
   ·have HR:=Lib.hid (fun h=>hb (hE.1 h).2)
    have db:(b==0)=false:=by simp [hb]
    clear hE hb ha h1
    go_enter Tryz.func221,Tryz.ntmps221
    go_upto_region 1 with fail
    generalize w.alloc (.cells #[.int .i64 kd,.int .i64 a,.int .i64 b] 198)=W9 at *
    have hx:=HXB.out
    have x0:=cell_heap (k:=0) hx rfl
    have x1:=cell_heap (k:=1) hx rfl
    have x2:=cell_heap (k:=2) hx rfl
    have lx:=heap_lt0 hx
    clear hx
    go_wp2_with fail
    refine (l01In_any a 0 15 _).mono ?_
    rw [H1.out]
    rintro _ w' ⟨rfl,rfl⟩
    go_wp2_with fail
    go_ret
    exact ⟨ret_ff HR.out,HB0.out⟩
  | false =>
   have HR:=Lib.hid (fun h=>not_in h1 (hE.1 h).1)
   have H1:=Lib.hid h1
   clear hE h1
   go_enter Tryz.func221,Tryz.ntmps221
   go_upto_region 1 with fail
   generalize w.alloc (.cells #[.int .i64 kd,.int .i64 a,.int .i64 b] 198)=W9 at *
   have hx:=HXB.out
   have x0:=cell_heap (k:=0) hx rfl
   have x1:=cell_heap (k:=1) hx rfl
   have x2:=cell_heap (k:=2) hx rfl
   have lx:=heap_lt0 hx
   clear hx
   go_wp2_with fail
   refine (l01In_any a 0 15 _).mono ?_
   rw [H1.out]
   rintro _ w' ⟨rfl,rfl⟩
   go_wp2_with fail
   go_ret
   exact ⟨ret_ff HR.out,HB0.out⟩
 ·rw [if_neg h0] at hE
  have d0:(kd==0)=false:=by simp [h0]
  by_cases h2:kd=2
  ·rw [if_pos h2] at hE
   have d2:(kd==2)=true:=by simp [h2]
   clear h2 h0
   by_cases ha:0≤a
   ·have da:decide (a≥0)=true:=decide_eq_true ha
    by_cases hn:a<n
    ·have dn:decide (a<n)=true:=decide_eq_true hn
     by_cases hb:b=0
     ·have HR:=Lib.hid (hE.2 ⟨⟨ha,hn⟩,hb⟩)
      have db:(b==0)=true:=by simp [hb]
      clear hE hb ha hn
      go_enter Tryz.func221,Tryz.ntmps221
      go_upto_region 1 with fail
      generalize w.alloc (.cells #[.int .i64 kd,.int .i64 a,.int .i64 b] 198)=W9 at *
      have hx:=HXB.out
      have x0:=cell_heap (k:=0) hx rfl
      have x1:=cell_heap (k:=1) hx rfl
      have x2:=cell_heap (k:=2) hx rfl
      have lx:=heap_lt0 hx
      clear hx
      go_wp2_with fail
      go_ret
      exact ⟨ret_tt HR.out,HB0.out⟩
     ·have HR:=Lib.hid (fun h=>hb (hE.1 h).2)
      have db:(b==0)=false:=by simp [hb]
      clear hE hb ha hn
      go_enter Tryz.func221,Tryz.ntmps221
      go_upto_region 1 with fail
      generalize w.alloc (.cells #[.int .i64 kd,.int .i64 a,.int .i64 b] 198)=W9 at *
      have hx:=HXB.out
      have x0:=cell_heap (k:=0) hx rfl
      have x1:=cell_heap (k:=1) hx rfl
      have x2:=cell_heap (k:=2) hx rfl
      have lx:=heap_lt0 hx
      clear hx
      go_wp2_with fail
      go_ret
      exact ⟨ret_ff HR.out,HB0.out⟩
    ·have HR:=Lib.hid (fun h=>hn (hE.1 h).1.2)
     have dn:decide (a<n)=false:=decide_eq_false hn
     clear hE hn ha
     go_enter Tryz.func221,Tryz.ntmps221
     go_upto_region 1 with fail
     generalize w.alloc (.cells #[.int .i64 kd,.int .i64 a,.int .i64 b] 198)=W9 at *
     have hx:=HXB.out
     have x0:=cell_heap (k:=0) hx rfl
     have x1:=cell_heap (k:=1) hx rfl
     have x2:=cell_heap (k:=2) hx rfl
     have lx:=heap_lt0 hx
     clear hx
     go_wp2_with fail
     go_ret
     exact ⟨ret_ff HR.out,HB0.out⟩
   ·have HR:=Lib.hid (fun h=>ha (hE.1 h).1.1)
    have da:decide (a≥0)=false:=decide_eq_false ha
    clear hE ha
    go_enter Tryz.func221,Tryz.ntmps221
    go_upto_region 1 with fail
    generalize w.alloc (.cells #[.int .i64 kd,.int .i64 a,.int .i64 b] 198)=W9 at *
    have hx:=HXB.out
    have x0:=cell_heap (k:=0) hx rfl
    have x1:=cell_heap (k:=1) hx rfl
    have x2:=cell_heap (k:=2) hx rfl
    have lx:=heap_lt0 hx
    clear hx
    go_wp2_with fail
    go_ret
    exact ⟨ret_ff HR.out,HB0.out⟩
  ·rw [if_neg h2] at hE
   have d2:(kd==2)=false:=by simp [h2]
   by_cases h3:kd=3
   ·rw [if_pos h3] at hE
    have d3:(kd==3)=true:=by simp [h3]
    clear h0 h2 h3
    by_cases ha:0≤a
    ·have da:decide (a≥0)=true:=decide_eq_true ha
     by_cases hn:a<n
     ·have dn:decide (a<n)=true:=decide_eq_true hn
      cases h1:inR b 0 3 with
      | true =>
       have HR:=Lib.hid (hE.2 ⟨⟨ha,hn⟩,inR_iff.1 h1⟩)
       have H1:=Lib.hid h1
       clear hE ha hn h1
       go_enter Tryz.func221,Tryz.ntmps221
       go_upto_region 1 with fail
       generalize w.alloc (.cells #[.int .i64 kd,.int .i64 a,.int .i64 b] 198)=W9 at *
       have hx:=HXB.out
       have x0:=cell_heap (k:=0) hx rfl
       have x1:=cell_heap (k:=1) hx rfl
       have x2:=cell_heap (k:=2) hx rfl
       have lx:=heap_lt0 hx
       clear hx
       go_wp2_with fail
       refine (l01In_any b 0 3 _).mono ?_
       rw [H1.out]
       rintro _ w' ⟨rfl,rfl⟩
       go_wp2_with fail
       go_ret
       exact ⟨ret_tt HR.out,HB0.out⟩
      | false =>
       have HR:=Lib.hid (fun h=>not_in h1 (hE.1 h).2)
       have H1:=Lib.hid h1
       clear hE ha hn h1
       go_enter Tryz.func221,Tryz.ntmps221
       go_upto_region 1 with fail
       generalize w.alloc (.cells #[.int .i64 kd,.int .i64 a,.int .i64 b] 198)=W9 at *
       have hx:=HXB.out
       have x0:=cell_heap (k:=0) hx rfl
       have x1:=cell_heap (k:=1) hx rfl
       have x2:=cell_heap (k:=2) hx rfl
       have lx:=heap_lt0 hx
       clear hx
       go_wp2_with fail
       refine (l01In_any b 0 3 _).mono ?_
       rw [H1.out]
       rintro _ w' ⟨rfl,rfl⟩
       go_wp2_with fail
       go_ret
       exact ⟨ret_ff HR.out,HB0.out⟩
     ·have HR:=Lib.hid (fun h=>hn (hE.1 h).1.2)
      have dn:decide (a<n)=false:=decide_eq_false hn
      clear hE hn ha
      go_enter Tryz.func221,Tryz.ntmps221
      go_upto_region 1 with fail
      generalize w.alloc (.cells #[.int .i64 kd,.int .i64 a,.int .i64 b] 198)=W9 at *
      have hx:=HXB.out
      have x0:=cell_heap (k:=0) hx rfl
      have x1:=cell_heap (k:=1) hx rfl
      have x2:=cell_heap (k:=2) hx rfl
      have lx:=heap_lt0 hx
      clear hx
      go_wp2_with fail
      go_ret
      exact ⟨ret_ff HR.out,HB0.out⟩
    ·have HR:=Lib.hid (fun h=>ha (hE.1 h).1.1)
     have da:decide (a≥0)=false:=decide_eq_false ha
     clear hE ha
     go_enter Tryz.func221,Tryz.ntmps221
     go_upto_region 1 with fail
     generalize w.alloc (.cells #[.int .i64 kd,.int .i64 a,.int .i64 b] 198)=W9 at *
     have hx:=HXB.out
     have x0:=cell_heap (k:=0) hx rfl
     have x1:=cell_heap (k:=1) hx rfl
     have x2:=cell_heap (k:=2) hx rfl
     have lx:=heap_lt0 hx
     clear hx
     go_wp2_with fail
     go_ret
     exact ⟨ret_ff HR.out,HB0.out⟩
   ·rw [if_neg h3] at hE
    have d3:(kd==3)=false:=by simp [h3]
    obtain ⟨ar,hr⟩:∃r,arity kd=r:=⟨_,rfl⟩
    rw [hr] at hE
    have HA:=Lib.hid hr
    clear hr h0 h2 h3
    by_cases hr:0≤ar
    ·have dr:decide (ar≥0)=true:=decide_eq_true hr
     by_cases ha:a=0
     ·have da:(a==0)=true:=by simp [ha]
      by_cases hb:b=0
      ·have HR:=Lib.hid (hE.2 ⟨⟨hr,ha⟩,hb⟩)
       have db:(b==0)=true:=by simp [hb]
       clear hE hb hr ha
       go_enter Tryz.func221,Tryz.ntmps221
       go_upto_region 1 with fail
       generalize w.alloc (.cells #[.int .i64 kd,.int .i64 a,.int .i64 b] 198)=W9 at *
       have hx:=HXB.out
       have x0:=cell_heap (k:=0) hx rfl
       have x1:=cell_heap (k:=1) hx rfl
       have x2:=cell_heap (k:=2) hx rfl
       have lx:=heap_lt0 hx
       clear hx
       go_wp2_with fail
       refine (sopArity_any kd _).mono ?_
       rw [HA.out]
       rintro _ w' ⟨rfl,rfl⟩
       go_wp2_with fail
       go_ret
       exact ⟨ret_tt HR.out,HB0.out⟩
      ·have HR:=Lib.hid (fun h=>hb (hE.1 h).2)
       have db:(b==0)=false:=by simp [hb]
       clear hE hb hr ha
       go_enter Tryz.func221,Tryz.ntmps221
       go_upto_region 1 with fail
       generalize w.alloc (.cells #[.int .i64 kd,.int .i64 a,.int .i64 b] 198)=W9 at *
       have hx:=HXB.out
       have x0:=cell_heap (k:=0) hx rfl
       have x1:=cell_heap (k:=1) hx rfl
       have x2:=cell_heap (k:=2) hx rfl
       have lx:=heap_lt0 hx
       clear hx
       go_wp2_with fail
       refine (sopArity_any kd _).mono ?_
       rw [HA.out]
       rintro _ w' ⟨rfl,rfl⟩
       go_wp2_with fail
       go_ret
       exact ⟨ret_ff HR.out,HB0.out⟩
     ·have HR:=Lib.hid (fun h=>ha (hE.1 h).1.2)
      have da:(a==0)=false:=by simp [ha]
      clear hE hr ha
      go_enter Tryz.func221,Tryz.ntmps221
      go_upto_region 1 with fail
      generalize w.alloc (.cells #[.int .i64 kd,.int .i64 a,.int .i64 b] 198)=W9 at *
      have hx:=HXB.out
      have x0:=cell_heap (k:=0) hx rfl
      have x1:=cell_heap (k:=1) hx rfl
      have x2:=cell_heap (k:=2) hx rfl
      have lx:=heap_lt0 hx
      clear hx
      go_wp2_with fail
      refine (sopArity_any kd _).mono ?_
      rw [HA.out]
      rintro _ w' ⟨rfl,rfl⟩
      go_wp2_with fail
      go_ret
      exact ⟨ret_ff HR.out,HB0.out⟩
    ·have HR:=Lib.hid (fun h=>hr (hE.1 h).1.1)
     have dr:decide (ar≥0)=false:=decide_eq_false hr
     clear hE hr
     go_enter Tryz.func221,Tryz.ntmps221
     go_upto_region 1 with fail
     generalize w.alloc (.cells #[.int .i64 kd,.int .i64 a,.int .i64 b] 198)=W9 at *
     have hx:=HXB.out
     have x0:=cell_heap (k:=0) hx rfl
     have x1:=cell_heap (k:=1) hx rfl
     have x2:=cell_heap (k:=2) hx rfl
     have lx:=heap_lt0 hx
     clear hx
     go_wp2_with fail
     refine (sopArity_any kd _).mono ?_
     rw [HA.out]
     rintro _ w' ⟨rfl,rfl⟩
     go_wp2_with fail
     go_ret
     exact ⟨ret_ff HR.out,HB0.out⟩
set_option maxHeartbeats 2000000 in
theorem opsOk_any (ops:List OpT) (A:Option Addr) (on oc:Nat) (n:Int) (w:World) (h:RdC w w.heap.size (celOp ops) (.slice A on oc)) :
  Calls Tryz.prog 208 #[.slice A on oc,.int .i64 n] w fun e w'=>e = .returned (.bool (tb (OpsFit ops n)))∧Below w.heap.size w w':=by
 have HL:=Lib.hid h.opN
 have HO:=Lib.hid h
 clear h
 by_cases h0:on=0
 ·have d0:((on:Int)==0)=true:=by simp [h0]
  have HR:Hid (¬OpsFit ops n):=fun h=>by
   have h1:=h.2
   rw [List.eq_nil_of_length_eq_zero (HL.out.trans h0),OpsN] at h1
   omega
  clear h0
  go_enter Tryz.func208,Tryz.ntmps208
  go_wp2_with fail
  go_ret
  exact ⟨ret_ff HR.out,Below.refl _ _⟩
 have d0:((on:Int)==0)=false:=by simp [h0]
 by_cases h15:on≤15
 ·have d15:decide ((15:Int)<(on:Int))=false:=decide_eq_false (by omega)
  go_enter Tryz.func208,Tryz.ntmps208
  go_wp2_with fail
  go_loopw [5,18] (fun v i wr=>∃(k:Nat) (need:Int),k≤on∧i = .int .i64 (k:Int)∧v = .int .i64 need∧Below w.heap.size w wr∧(OpsN n need (ops.drop k)↔OpsN n 1 ops)∧(-(k:Int)≤need∧need≤1+2 * k)) (fun _ i _=>on - (intOf i).toNat)
  case atStart=>exact ⟨0,1,by omega,rfl,rfl,Below.refl _ _,Iff.rfl,by omega⟩
  case round =>
   obtain ⟨k,need,hk,rfl,rfl,hb,hiff,hnd⟩:=hrel
   have HB:=Lib.hid hb
   have HIF:=Lib.hid hiff
   clear hb hiff
   by_cases hlt:k<on
   ·have hdk:decide ((k:Int)<(on:Int))=true:=by simp;omega
    have hkl:k<ops.length:=by rw [HL.out];exact hlt
    have HN:=Lib.hid (opsN_drop (n:=n) (need:=need) hkl)
    obtain ⟨bo,oo,rfl,hbo,c0,c1,c2⟩:=HO.out.opE (k:=k) hkl
    have lbo:=below_lt HB.out hbo
    rw [←HB.out.cell (p:=⟨bo,oo+k * 3,none⟩) hbo] at c0
    rw [←HB.out.cell (p:=⟨bo,oo+k * 3+1,none⟩) hbo] at c1
    rw [←HB.out.cell (p:=⟨bo,oo+k * 3+2,none⟩) hbo] at c2
    clear hkl hbo
    generalize ops[k]?.getD OpT.zero=q at *
    obtain ⟨kd,a,b⟩:=q
    simp only at c0 c1 c2 HN
    have i0:(0:Int)≤(k:Int):=by omega
    have i1:(k:Int)<(on:Int):=by omega
    by_cases hz:need=0
    ·have dz:(need==0)=true:=by simp [hz]
     have HR:Hid (¬OpsFit ops n):=fun h=>(HN.out.1 (HIF.out.2 h.2)).1 hz
     clear hz
     have HB1:=Lib.hid (below_new HB.out (.cells #[.int .i64 kd,.int .i64 a,.int .i64 b] 198))
     have hy:=heap_new wr (.cells #[.int .i64 kd,.int .i64 a,.int .i64 b] 198)
     have y0:=cell_heap (k:=0) hy rfl
     have y1:=cell_heap (k:=1) hy rfl
     have y2:=cell_heap (k:=2) hy rfl
     have ly:=heap_lt0 hy
     have HY:=Lib.hid hy
     clear hy
     go_upto_region 7 with fail
     generalize wr.alloc (.cells #[.int .i64 kd,.int .i64 a,.int .i64 b] 198)=W5 at *
     go_wp2_with fail
     go_ret
     exact ⟨ret_ff HR.out,HB1.out⟩
    ·have dz:(need==0)=false:=by simp [hz]
     have har:=arity_in kd
     by_cases hf:OpFit ⟨kd,a,b⟩ n
     ·have HT:=Lib.hid (tb_true hf)
      have HIF2:Hid (OpsN n (need+arity kd - 1) (ops.drop (k+1))↔OpsN n 1 ops):=by show _↔_;rw [←HIF.out,HN.out];exact ⟨fun h=>⟨hz,hf,h⟩,fun h=>h.2.2⟩
      have har0:0≤arity kd:=hf.ar
      clear hf hz HIF
      have HB1:=Lib.hid (below_new HB.out (.cells #[.int .i64 kd,.int .i64 a,.int .i64 b] 198))
      have hy:=heap_new wr (.cells #[.int .i64 kd,.int .i64 a,.int .i64 b] 198)
      have y0:=cell_heap (k:=0) hy rfl
      have y1:=cell_heap (k:=1) hy rfl
      have y2:=cell_heap (k:=2) hy rfl
      have ly:=heap_lt0 hy
      have HY:=Lib.hid hy
      clear hy
      go_upto_region 7 with fail
      generalize wr.alloc (.cells #[.int .i64 kd,.int .i64 a,.int .i64 b] 198)=W5 at *
      go_wp2_with fail
      refine (opOk_any kd a b n _).mono ?_
      rw [HT.out]
      rintro _ w2 ⟨rfl,b2⟩
      have HB2:=Lib.hid (below_tr HB1.out b2)
      have hy:=heap_tr b2 HY.out
      clear b2 c0 c1 c2 y0 y1 y2 ly
      have y0:=cell_heap (k:=0) hy rfl
      have ly:=heap_lt0 hy
      clear hy
      go_wp2_with fail
      refine (opArity_any kd _).mono ?_
      obtain ⟨ar,hae⟩:∃r,arity kd=r:=⟨_,rfl⟩
      rw [hae] at har har0 HIF2
      rw [hae]
      rintro _ w3 ⟨rfl,rfl⟩
      clear hae
      go_wp2_with fail
      go_roundw
      case rel=>exact ⟨k+1,_,by omega,by go_num,rfl,HB2.out,by rw [show need+(ar - 1)=need+ar - 1 from by omega];exact HIF2.out,by omega⟩
      case measure=>simp [intOf];omega
     ·have HR:Hid (¬OpsFit ops n):=fun h=>hf (HN.out.1 (HIF.out.2 h.2)).2.1
      have HT:=Lib.hid (tb_false hf)
      clear hf hz
      have HB1:=Lib.hid (below_new HB.out (.cells #[.int .i64 kd,.int .i64 a,.int .i64 b] 198))
      have hy:=heap_new wr (.cells #[.int .i64 kd,.int .i64 a,.int .i64 b] 198)
      have y0:=cell_heap (k:=0) hy rfl
      have y1:=cell_heap (k:=1) hy rfl
      have y2:=cell_heap (k:=2) hy rfl
      have ly:=heap_lt0 hy
      have HY:=Lib.hid hy
      clear hy
      go_upto_region 7 with fail
      generalize wr.alloc (.cells #[.int .i64 kd,.int .i64 a,.int .i64 b] 198)=W5 at *
      go_wp2_with fail
      refine (opOk_any kd a b n _).mono ?_
      rw [HT.out]
      rintro _ w2 ⟨rfl,b2⟩
      have HB2:=Lib.hid (below_tr HB1.out b2)
      clear b2 c0 c1 c2 y0 y1 y2 ly
      go_wp2_with fail
      go_ret
      exact ⟨ret_ff HR.out,HB2.out⟩
   ·have hkn:k=on:=by omega
    have hdk:decide ((k:Int)<(on:Int))=false:=by simp;omega
    have HE:=Lib.hid (opsN_end (n:=n) (need:=need) (ops:=ops) (k:=k) (by rw [HL.out];exact hkn))
    by_cases hz:need=0
    ·have dz:(need==0)=true:=by simp [hz]
     have HR:Hid (OpsFit ops n):=⟨by rw [HL.out];exact h15,HIF.out.1 (HE.out.2 hz)⟩
     clear hz
     go_wp2_with fail
     go_ret
     exact ⟨ret_tt HR.out,HB.out⟩
    ·have dz:(need==0)=false:=by simp [hz]
     have HR:Hid (¬OpsFit ops n):=fun h=>hz (HE.out.1 (HIF.out.2 h.2))
     clear hz
     go_wp2_with fail
     go_ret
     exact ⟨ret_ff HR.out,HB.out⟩
 ·have d15:decide ((15:Int)<(on:Int))=true:=decide_eq_true (by omega)
  have HR:Hid (¬OpsFit ops n):=fun h=>h15 (by rw [←HL.out];exact h.1)
  go_enter Tryz.func208,Tryz.ntmps208
  go_wp2_with fail
  go_ret
  exact ⟨ret_ff HR.out,Below.refl _ _⟩
set_option maxHeartbeats 2000000 in
theorem sopsOk_any (ops:List OpT) (A:Option Addr) (on oc:Nat) (n:Int) (w:World) (h:RdC w w.heap.size (celOp ops) (.slice A on oc)) :
  Calls Tryz.prog 195 #[.slice A on oc,.int .i64 n] w fun e w'=>e = .returned (.bool (tb (OpsFit ops n)))∧Below w.heap.size w w':=by
 have HL:=Lib.hid h.opN
 have HO:=Lib.hid h
 clear h
 by_cases h15:on≤15
 ·have d15:decide ((15:Int)<(on:Int))=false:=decide_eq_false (by omega)
  go_enter Tryz.func195,Tryz.ntmps195
  go_wp2_with fail
  go_loopw [5,6] (fun v i wr=>∃(k:Nat) (need:Int),k≤on∧i = .int .i64 (k:Int)∧v = .int .i64 need∧Below w.heap.size w wr∧(OpsN n need (ops.drop k)↔OpsN n 1 ops)∧(-(k:Int)≤need∧need≤1+2 * k)) (fun _ i _=>on - (intOf i).toNat)
  case atStart=>exact ⟨0,1,by omega,rfl,rfl,Below.refl _ _,Iff.rfl,by omega⟩
  case round =>
   obtain ⟨k,need,hk,rfl,rfl,hb,hiff,hnd⟩:=hrel
   have HB:=Lib.hid hb
   have HIF:=Lib.hid hiff
   clear hb hiff
   by_cases hlt:k<on
   ·have hdk:decide ((k:Int)<(on:Int))=true:=by simp;omega
    have hkl:k<ops.length:=by rw [HL.out];exact hlt
    have HN:=Lib.hid (opsN_drop (n:=n) (need:=need) hkl)
    obtain ⟨bo,oo,rfl,hbo,c0,c1,c2⟩:=HO.out.opE (k:=k) hkl
    have lbo:=below_lt HB.out hbo
    rw [←HB.out.cell (p:=⟨bo,oo+k * 3,none⟩) hbo] at c0
    rw [←HB.out.cell (p:=⟨bo,oo+k * 3+1,none⟩) hbo] at c1
    rw [←HB.out.cell (p:=⟨bo,oo+k * 3+2,none⟩) hbo] at c2
    clear hkl hbo
    generalize ops[k]?.getD OpT.zero=q at *
    obtain ⟨kd,a,b⟩:=q
    simp only at c0 c1 c2 HN
    have i0:(0:Int)≤(k:Int):=by omega
    have i1:(k:Int)<(on:Int):=by omega
    by_cases hz:need=0
    ·have dz:(need==0)=true:=by simp [hz]
     have HR:Hid (¬OpsFit ops n):=fun h=>(HN.out.1 (HIF.out.2 h.2)).1 hz
     clear hz
     have HB1:=HB
     go_wp2_with fail
     go_ret
     exact ⟨ret_ff HR.out,HB1.out⟩
    ·have dz:(need==0)=false:=by simp [hz]
     have har:=arity_in kd
     by_cases hf:OpFit ⟨kd,a,b⟩ n
     ·have HT:=Lib.hid (tb_true hf)
      have HIF2:Hid (OpsN n (need+arity kd - 1) (ops.drop (k+1))↔OpsN n 1 ops):=by show _↔_;rw [←HIF.out,HN.out];exact ⟨fun h=>⟨hz,hf,h⟩,fun h=>h.2.2⟩
      have har0:0≤arity kd:=hf.ar
      clear hf hz HIF
      have HB1:=HB
      go_wp2_with fail
      refine (sopOk_any kd a b n _).mono ?_
      rw [HT.out]
      rintro _ w2 ⟨rfl,b2⟩
      have HB2:=Lib.hid (below_tr HB1.out b2)
      rw [←b2.cell (p:=⟨bo,oo+k * 3,none⟩) lbo] at c0
      have lbo2:=below_lt b2 lbo
      clear b2 c1 c2
      go_wp2_with fail
      refine (sopArity_any kd _).mono ?_
      obtain ⟨ar,hae⟩:∃r,arity kd=r:=⟨_,rfl⟩
      rw [hae] at har har0 HIF2
      rw [hae]
      rintro _ w3 ⟨rfl,rfl⟩
      clear hae
      go_wp2_with fail
      go_roundw
      case rel=>exact ⟨k+1,_,by omega,by go_num,rfl,HB2.out,by rw [show need - 1+ar=need+ar - 1 from by omega];exact HIF2.out,by omega⟩
      case measure=>simp [intOf];omega
     ·have HR:Hid (¬OpsFit ops n):=fun h=>hf (HN.out.1 (HIF.out.2 h.2)).2.1
      have HT:=Lib.hid (tb_false hf)
      clear hf hz
      have HB1:=HB
      go_wp2_with fail
      refine (sopOk_any kd a b n _).mono ?_
      rw [HT.out]
      rintro _ w2 ⟨rfl,b2⟩
      have HB2:=Lib.hid (below_tr HB1.out b2)
      clear b2 c0 c1 c2
      go_wp2_with fail
      go_ret
      exact ⟨ret_ff HR.out,HB2.out⟩
   ·have hkn:k=on:=by omega
    have hdk:decide ((k:Int)<(on:Int))=false:=by simp;omega
    have HE:=Lib.hid (opsN_end (n:=n) (need:=need) (ops:=ops) (k:=k) (by rw [HL.out];exact hkn))
    by_cases hz:need=0
    ·have dz:(need==0)=true:=by simp [hz]
     have HR:Hid (OpsFit ops n):=⟨by rw [HL.out];exact h15,HIF.out.1 (HE.out.2 hz)⟩
     clear hz
     go_wp2_with fail
     go_ret
     exact ⟨ret_tt HR.out,HB.out⟩
    ·have dz:(need==0)=false:=by simp [hz]
     have HR:Hid (¬OpsFit ops n):=fun h=>hz (HE.out.1 (HIF.out.2 h.2))
     clear hz
     go_wp2_with fail
     go_ret
     exact ⟨ret_ff HR.out,HB.out⟩
 ·have d15:decide ((15:Int)<(on:Int))=true:=decide_eq_true (by omega)
  have HR:Hid (¬OpsFit ops n):=fun h=>h15 (by rw [←HL.out];exact h.1)
  go_enter Tryz.func195,Tryz.ntmps195
  go_wp2_with fail
  go_ret
  exact ⟨ret_ff HR.out,Below.refl _ _⟩
end Go.Proofs.YtlinbdkbbhpdpaaGreat

namespace Go.Proofs.YtlinbdkbbhpdpaaGreat
set_option maxRecDepth 100000
open Go.RowKit

set_option maxHeartbeats 2000000 in
theorem portsOf_any (m:MdT) (SA AA JA MA:Option Addr) (sn sc an ac jn jc mn mc:Nat) (w:World) (h:MdRd w m SA AA JA MA sn sc an ac jn jc mn mc) :
  Calls Tryz.prog 162 #[.agg #[.slice SA sn sc,.slice AA an ac,.slice JA jn jc,.slice MA mn mc]] w fun e w'=>∃A c,e = .returned (.slice A (portsOf m).length c)∧Sepa w w' [.cel (celI (portsOf m)) (.slice A (portsOf m).length c)]:=by
 have HB0:=Lib.hid (below_new (Below.refl w.heap.size w) (.cells #[.slice SA sn sc,.slice AA an ac,.slice JA jn jc,.slice MA mn mc] 108))
 have HXB:=Lib.hid (heap_new w (.cells #[.slice SA sn sc,.slice AA an ac,.slice JA jn jc,.slice MA mn mc] 108))
 have HL:=Lib.hid h.lens.1
 have HM:=Lib.hid h
 clear h
 by_cases h30:sn≤30
 ·have d30:decide ((30:Int)<(sn:Int))=false:=decide_eq_false (by omega)
  have HF:Hid (portsOf m=portsTo m.sigs sn):=by show _=_;unfold portsOf;rw [HL.out,if_pos h30]
  rw [HF.out]
  go_enter Tryz.func162,Tryz.ntmps162
  go_upto_region 1 with fail
  generalize w.alloc (.cells #[.slice SA sn sc,.slice AA an ac,.slice JA jn jc,.slice MA mn mc] 108)=W9 at *
  have hx:=HXB.out
  have x0:=cell_heap (k:=0) hx rfl
  have lx:=heap_lt0 hx
  clear hx
  go_wp2_with fail
  clear x0 lx
  go_loopw [3,13] (fun v i wr=>∃(k:Nat) (A:Option Addr) (c:Nat),k≤sn∧i = .int .i64 (k:Int)∧v = .slice A (portsTo m.sigs k).length c∧Sepa W9 wr [.cel (celI (portsTo m.sigs k)) (.slice A (portsTo m.sigs k).length c)]) (fun _ i _=>sn - (intOf i).toNat)
  case atStart=>exact ⟨0,none,0,by omega,rfl,rfl,(Sepa.refl W9).pushNil 3 1⟩
  case round =>
   obtain ⟨k,A1,c1',hk,rfl,rfl,hs⟩:=hrel
   have HS:=Lib.hid hs
   have HB:=Lib.hid (below_tr HB0.out hs.bel)
   clear hs
   by_cases hlt:k<sn
   ·have hdk:decide ((k:Int)<(sn:Int))=true:=by simp;omega
    have hkl:k<m.sigs.length:=by rw [HL.out];exact hlt
    have HLN:=Lib.hid (show (portsTo m.sigs k).length≤1099511627776 from by have:=portsTo_len m.sigs k;omega)
    have HTK:=Lib.hid (show portsTo m.sigs (k+1)=portsTo m.sigs k++if isPort (sgK m.sigs k) then [(k:Int)] else [] from rfl)
    obtain ⟨bs,os,rfl,hbs,c0,c1,c2⟩:=HM.out.sg.sgE (k:=k) hkl
    have lbs:=below_lt HB.out hbs
    rw [←HB.out.cell (p:=⟨bs,os+k * 3,none⟩) hbs] at c0
    rw [←HB.out.cell (p:=⟨bs,os+k * 3+1,none⟩) hbs] at c1
    rw [←HB.out.cell (p:=⟨bs,os+k * 3+2,none⟩) hbs] at c2
    clear hkl hbs
    unfold sgK at HTK
    generalize m.sigs[k]?.getD SgT.zero=q at *
    obtain ⟨kd,wd,it⟩:=q
    simp only at c0 c1 c2 HTK
    have i0:(0:Int)≤(k:Int):=by omega
    have i1:(k:Int)<(sn:Int):=by omega
    have HA:=Lib.hid (HS.out.alloc (.cells #[.int .i64 kd,.int .i64 wd,.int .i64 it] 155))
    have hy:=heap_new wr (.cells #[.int .i64 kd,.int .i64 wd,.int .i64 it] 155)
    have y0:=cell_heap (k:=0) hy rfl
    have y1:=cell_heap (k:=1) hy rfl
    have y2:=cell_heap (k:=2) hy rfl
    have ly:=heap_lt0 hy
    clear hy
    by_cases k0:kd=0
    ·subst k0
     have hc:isPort ⟨0,wd,it⟩=true:=rfl
     rw [if_pos hc] at HTK
     clear hc
     go_upto_region 7 with fail
     generalize wr.alloc (.cells #[.int .i64 0,.int .i64 wd,.int .i64 it] 155)=W5 at *
     go_wp2_with (at_builtin;refine wpList_sepPush rfl _ _ rfl _ (HA.out.alloc _) 0 A1 (portsTo m.sigs k).length c1' (portsTo m.sigs k) ((k:Int)) _ (0,0) rfl rfl rfl (heap_new _ _) HLN.out ?_;intro g9 cap w9 S9 hz9;have HS9:=Lib.hid S9;clear S9 hz9)
     go_roundw
     case rel=>exact ⟨k+1,_,_,by omega,by go_num,by rw [HTK.out,List.length_append];rfl,by rw [HTK.out,List.length_append];exact HS9.out⟩
     case measure=>simp [intOf];omega
    ·have d0:(kd==0)=false:=by simp [k0]
     by_cases k1:kd=1
     ·subst k1
      have hc:isPort ⟨1,wd,it⟩=true:=rfl
      rw [if_pos hc] at HTK
      clear hc
      go_upto_region 7 with fail
      generalize wr.alloc (.cells #[.int .i64 1,.int .i64 wd,.int .i64 it] 155)=W5 at *
      go_wp2_with (at_builtin;refine wpList_sepPush rfl _ _ rfl _ (HA.out.alloc _) 0 A1 (portsTo m.sigs k).length c1' (portsTo m.sigs k) ((k:Int)) _ (0,0) rfl rfl rfl (heap_new _ _) HLN.out ?_;intro g9 cap w9 S9 hz9;have HS9:=Lib.hid S9;clear S9 hz9)
      go_roundw
      case rel=>exact ⟨k+1,_,_,by omega,by go_num,by rw [HTK.out,List.length_append];rfl,by rw [HTK.out,List.length_append];exact HS9.out⟩
      case measure=>simp [intOf];omega
     ·have d1:(kd==1)=false:=by simp [k1]
      have hc:¬isPort ⟨kd,wd,it⟩=true:=fun h=>by rcases isPort_iff.1 h with h|h <;> simp at h <;> omega
      rw [if_neg hc,List.append_nil] at HTK
      clear hc
      go_upto_region 7 with fail
      generalize wr.alloc (.cells #[.int .i64 kd,.int .i64 wd,.int .i64 it] 155)=W5 at *
      go_wp2_with fail
      go_roundw
      case rel=>exact ⟨k+1,_,_,by omega,by go_num,by rw [HTK.out],by rw [HTK.out];exact HA.out⟩
      case measure=>simp [intOf];omega
   ·have hkn:k=sn:=by omega
    have hdk:decide ((k:Int)<(sn:Int))=false:=by simp;omega
    subst hkn
    go_wp2_with fail
    go_ret
    exact ⟨_,_,rfl,HS.out.low HB0.out⟩
 ·have d30:decide ((30:Int)<(sn:Int))=true:=decide_eq_true (by omega)
  have HF:Hid (portsOf m=[]):=by show _=_;unfold portsOf;rw [HL.out,if_neg h30]
  rw [HF.out]
  go_enter Tryz.func162,Tryz.ntmps162
  go_upto_region 1 with fail
  generalize w.alloc (.cells #[.slice SA sn sc,.slice AA an ac,.slice JA jn jc,.slice MA mn mc] 108)=W9 at *
  have hx:=HXB.out
  have x0:=cell_heap (k:=0) hx rfl
  have lx:=heap_lt0 hx
  clear hx
  go_wp2_with fail
  go_ret
  exact ⟨_,_,rfl,((Sepa.refl W9).pushNil 3 1).low HB0.out⟩
set_option maxHeartbeats 2000000 in
theorem sportsOf_any (m:MdT) (SA AA JA MA:Option Addr) (sn sc an ac jn jc mn mc:Nat) (w:World) (h:MdRd w m SA AA JA MA sn sc an ac jn jc mn mc) :
  Calls Tryz.prog 196 #[.agg #[.slice SA sn sc,.slice AA an ac,.slice JA jn jc,.slice MA mn mc]] w fun e w'=>∃A c,e = .returned (.slice A (portsOf m).length c)∧Sepa w w' [.cel (celI (portsOf m)) (.slice A (portsOf m).length c)]:=by
 have HB0:=Lib.hid (below_new (Below.refl w.heap.size w) (.cells #[.slice SA sn sc,.slice AA an ac,.slice JA jn jc,.slice MA mn mc] 108))
 have HXB:=Lib.hid (heap_new w (.cells #[.slice SA sn sc,.slice AA an ac,.slice JA jn jc,.slice MA mn mc] 108))
 have HL:=Lib.hid h.lens.1
 have HM:=Lib.hid h
 clear h
 by_cases h30:sn≤30
 ·have d30:decide ((30:Int)<(sn:Int))=false:=decide_eq_false (by omega)
  have HF:Hid (portsOf m=portsTo m.sigs sn):=by show _=_;unfold portsOf;rw [HL.out,if_pos h30]
  rw [HF.out]
  go_enter Tryz.func196,Tryz.ntmps196
  go_upto_region 1 with fail
  generalize w.alloc (.cells #[.slice SA sn sc,.slice AA an ac,.slice JA jn jc,.slice MA mn mc] 108)=W9 at *
  have hx:=HXB.out
  have x0:=cell_heap (k:=0) hx rfl
  have lx:=heap_lt0 hx
  clear hx
  go_wp2_with fail
  clear x0 lx
  go_loopw [3,4] (fun v i wr=>∃(k:Nat) (A:Option Addr) (c:Nat),k≤sn∧i = .int .i64 (k:Int)∧v = .slice A (portsTo m.sigs k).length c∧Sepa W9 wr [.cel (celI (portsTo m.sigs k)) (.slice A (portsTo m.sigs k).length c)]) (fun _ i _=>sn - (intOf i).toNat)
  case atStart=>exact ⟨0,_,_,by omega,rfl,rfl,(Sepa.refl W9).pushNew 3 1⟩
  case round =>
   obtain ⟨k,A1,c1',hk,rfl,rfl,hs⟩:=hrel
   have HS:=Lib.hid hs
   have HB:=Lib.hid (below_tr HB0.out hs.bel)
   clear hs
   have hx:=heap_tr HS.out.bel HXB.out
   have x0:=cell_heap (k:=0) hx rfl
   have lx:=heap_lt0 hx
   clear hx
   by_cases hlt:k<sn
   ·have hdk:decide ((k:Int)<(sn:Int))=true:=by simp;omega
    have hkl:k<m.sigs.length:=by rw [HL.out];exact hlt
    have HLN:=Lib.hid (show (portsTo m.sigs k).length≤1099511627776 from by have:=portsTo_len m.sigs k;omega)
    have HTK:=Lib.hid (show portsTo m.sigs (k+1)=portsTo m.sigs k++if isPort (sgK m.sigs k) then [(k:Int)] else [] from rfl)
    obtain ⟨bs,os,rfl,hbs,c0,c1,c2⟩:=HM.out.sg.sgE (k:=k) hkl
    have lbs:=below_lt HB.out hbs
    rw [←HB.out.cell (p:=⟨bs,os+k * 3,none⟩) hbs] at c0
    rw [←HB.out.cell (p:=⟨bs,os+k * 3+1,none⟩) hbs] at c1
    rw [←HB.out.cell (p:=⟨bs,os+k * 3+2,none⟩) hbs] at c2
    clear hkl hbs
    unfold sgK at HTK
    generalize m.sigs[k]?.getD SgT.zero=q at *
    obtain ⟨kd,wd,it⟩:=q
    simp only at c0 c1 c2 HTK
    have i0:(0:Int)≤(k:Int):=by omega
    have i1:(k:Int)<(sn:Int):=by omega
    by_cases k0:kd=0
    ·subst k0
     have hc:isPort ⟨0,wd,it⟩=true:=rfl
     rw [if_pos hc] at HTK
     clear hc
     go_wp2_with (at_builtin;refine wpList_sepPush rfl _ _ rfl _ (HS.out.alloc _) 0 A1 (portsTo m.sigs k).length c1' (portsTo m.sigs k) ((k:Int)) _ (0,0) rfl rfl rfl (heap_new _ _) HLN.out ?_;intro g9 cap w9 S9 hz9;have HS9:=Lib.hid S9;clear S9 hz9)
     go_roundw
     case rel=>exact ⟨k+1,_,_,by omega,by go_num,by rw [HTK.out,List.length_append];rfl,by rw [HTK.out,List.length_append];exact HS9.out⟩
     case measure=>simp [intOf];omega
    ·have d0:(kd==0)=false:=by simp [k0]
     by_cases k1:kd=1
     ·subst k1
      have hc:isPort ⟨1,wd,it⟩=true:=rfl
      rw [if_pos hc] at HTK
      clear hc
      go_wp2_with (at_builtin;refine wpList_sepPush rfl _ _ rfl _ (HS.out.alloc _) 0 A1 (portsTo m.sigs k).length c1' (portsTo m.sigs k) ((k:Int)) _ (0,0) rfl rfl rfl (heap_new _ _) HLN.out ?_;intro g9 cap w9 S9 hz9;have HS9:=Lib.hid S9;clear S9 hz9)
      go_roundw
      case rel=>exact ⟨k+1,_,_,by omega,by go_num,by rw [HTK.out,List.length_append];rfl,by rw [HTK.out,List.length_append];exact HS9.out⟩
      case measure=>simp [intOf];omega
     ·have d1:(kd==1)=false:=by simp [k1]
      have hc:¬isPort ⟨kd,wd,it⟩=true:=fun h=>by rcases isPort_iff.1 h with h|h <;> simp at h <;> omega
      rw [if_neg hc,List.append_nil] at HTK
      clear hc
      go_wp2_with fail
      go_roundw
      case rel=>exact ⟨k+1,_,_,by omega,by go_num,by rw [HTK.out],by rw [HTK.out];exact HS.out⟩
      case measure=>simp [intOf];omega
   ·have hkn:k=sn:=by omega
    have hdk:decide ((k:Int)<(sn:Int))=false:=by simp;omega
    subst hkn
    go_wp2_with fail
    go_ret
    exact ⟨_,_,rfl,HS.out.low HB0.out⟩
 ·have d30:decide ((30:Int)<(sn:Int))=true:=decide_eq_true (by omega)
  have HF:Hid (portsOf m=[]):=by show _=_;unfold portsOf;rw [HL.out,if_neg h30]
  rw [HF.out]
  go_enter Tryz.func196,Tryz.ntmps196
  go_upto_region 1 with fail
  generalize w.alloc (.cells #[.slice SA sn sc,.slice AA an ac,.slice JA jn jc,.slice MA mn mc] 108)=W9 at *
  have hx:=HXB.out
  have x0:=cell_heap (k:=0) hx rfl
  have lx:=heap_lt0 hx
  clear hx
  go_wp2_with fail
  go_ret
  exact ⟨_,_,rfl,((Sepa.refl W9).pushNew 3 1).low HB0.out⟩
set_option maxHeartbeats 2000000 in
theorem portWidths_any (m:MdT) (SA AA JA MA:Option Addr) (sn sc an ac jn jc mn mc:Nat) (kind:Int) (w:World) (h:MdRd w m SA AA JA MA sn sc an ac jn jc mn mc) :
  Calls Tryz.prog 61 #[.agg #[.slice SA sn sc,.slice AA an ac,.slice JA jn jc,.slice MA mn mc],.int .i64 kind] w fun e w'=>∃A c,e = .returned (.slice A (pwOf m kind).length c)∧Sepa w w' [.cel (celI (pwOf m kind)) (.slice A (pwOf m kind).length c)]:=by
 have HB0:=Lib.hid (below_new (Below.refl w.heap.size w) (.cells #[.slice SA sn sc,.slice AA an ac,.slice JA jn jc,.slice MA mn mc] 108))
 have HXB:=Lib.hid (heap_new w (.cells #[.slice SA sn sc,.slice AA an ac,.slice JA jn jc,.slice MA mn mc] 108))
 have HL:=Lib.hid h.lens.1
 have HM:=Lib.hid h
 clear h
 by_cases h30:sn≤30
 ·have d30:decide ((30:Int)<(sn:Int))=false:=decide_eq_false (by omega)
  have HF:Hid (pwOf m kind=pwTo m.sigs kind sn):=by show _=_;unfold pwOf;rw [HL.out,if_pos h30]
  rw [HF.out]
  go_enter Tryz.func61,Tryz.ntmps61
  go_upto_region 1 with fail
  generalize w.alloc (.cells #[.slice SA sn sc,.slice AA an ac,.slice JA jn jc,.slice MA mn mc] 108)=W9 at *
  have hx:=HXB.out
  have x0:=cell_heap (k:=0) hx rfl
  have lx:=heap_lt0 hx
  clear hx
  go_wp2_with fail
  clear x0 lx
  go_loopw [5,15] (fun v i wr=>∃(k:Nat) (A:Option Addr) (c:Nat),k≤sn∧i = .int .i64 (k:Int)∧v = .slice A (pwTo m.sigs kind k).length c∧Sepa W9 wr [.cel (celI (pwTo m.sigs kind k)) (.slice A (pwTo m.sigs kind k).length c)]) (fun _ i _=>sn - (intOf i).toNat)
  case atStart=>exact ⟨0,none,0,by omega,rfl,rfl,(Sepa.refl W9).pushNil 3 1⟩
  case round =>
   obtain ⟨k,A1,c1',hk,rfl,rfl,hs⟩:=hrel
   have HS:=Lib.hid hs
   have HB:=Lib.hid (below_tr HB0.out hs.bel)
   clear hs
   by_cases hlt:k<sn
   ·have hdk:decide ((k:Int)<(sn:Int))=true:=by simp;omega
    have hkl:k<m.sigs.length:=by rw [HL.out];exact hlt
    have HLN:=Lib.hid (show (pwTo m.sigs kind k).length≤1099511627776 from by have:=pwTo_len m.sigs kind k;omega)
    have HTK:=Lib.hid (show pwTo m.sigs kind (k+1)=pwTo m.sigs kind k++if (sgK m.sigs k).kind=kind then [(sgK m.sigs k).width] else [] from rfl)
    obtain ⟨bs,os,rfl,hbs,c0,c1,c2⟩:=HM.out.sg.sgE (k:=k) hkl
    have lbs:=below_lt HB.out hbs
    rw [←HB.out.cell (p:=⟨bs,os+k * 3,none⟩) hbs] at c0
    rw [←HB.out.cell (p:=⟨bs,os+k * 3+1,none⟩) hbs] at c1
    rw [←HB.out.cell (p:=⟨bs,os+k * 3+2,none⟩) hbs] at c2
    clear hkl hbs
    unfold sgK at HTK
    generalize m.sigs[k]?.getD SgT.zero=q at *
    obtain ⟨kd,wd,it⟩:=q
    simp only at c0 c1 c2 HTK
    have i0:(0:Int)≤(k:Int):=by omega
    have i1:(k:Int)<(sn:Int):=by omega
    have HA:=Lib.hid (HS.out.alloc (.cells #[.int .i64 kd,.int .i64 wd,.int .i64 it] 155))
    have hy:=heap_new wr (.cells #[.int .i64 kd,.int .i64 wd,.int .i64 it] 155)
    have y0:=cell_heap (k:=0) hy rfl
    have y1:=cell_heap (k:=1) hy rfl
    have y2:=cell_heap (k:=2) hy rfl
    have ly:=heap_lt0 hy
    clear hy
    by_cases hc:kd=kind
    ·have d0:(kd==kind)=true:=by simp [hc]
     rw [if_pos hc] at HTK
     clear hc
     go_upto_region 7 with fail
     generalize wr.alloc (.cells #[.int .i64 kd,.int .i64 wd,.int .i64 it] 155)=W5 at *
     go_wp2_with (at_builtin;refine wpList_sepPush rfl _ _ rfl _ (HA.out.alloc _) 0 A1 (pwTo m.sigs kind k).length c1' (pwTo m.sigs kind k) (wd) _ (0,0) rfl rfl rfl (heap_new _ _) HLN.out ?_;intro g9 cap w9 S9 hz9;have HS9:=Lib.hid S9;clear S9 hz9)
     go_roundw
     case rel=>exact ⟨k+1,_,_,by omega,by go_num,by rw [HTK.out,List.length_append];rfl,by rw [HTK.out,List.length_append];exact HS9.out⟩
     case measure=>simp [intOf];omega
    ·have d0:(kd==kind)=false:=by simp [hc]
     rw [if_neg hc,List.append_nil] at HTK
     clear hc
     go_upto_region 7 with fail
     generalize wr.alloc (.cells #[.int .i64 kd,.int .i64 wd,.int .i64 it] 155)=W5 at *
     go_wp2_with fail
     go_roundw
     case rel=>exact ⟨k+1,_,_,by omega,by go_num,by rw [HTK.out],by rw [HTK.out];exact HA.out⟩
     case measure=>simp [intOf];omega
   ·have hkn:k=sn:=by omega
    have hdk:decide ((k:Int)<(sn:Int))=false:=by simp;omega
    subst hkn
    go_wp2_with fail
    go_ret
    exact ⟨_,_,rfl,HS.out.low HB0.out⟩
 ·have d30:decide ((30:Int)<(sn:Int))=true:=decide_eq_true (by omega)
  have HF:Hid (pwOf m kind=[]):=by show _=_;unfold pwOf;rw [HL.out,if_neg h30]
  rw [HF.out]
  go_enter Tryz.func61,Tryz.ntmps61
  go_upto_region 1 with fail
  generalize w.alloc (.cells #[.slice SA sn sc,.slice AA an ac,.slice JA jn jc,.slice MA mn mc] 108)=W9 at *
  have hx:=HXB.out
  have x0:=cell_heap (k:=0) hx rfl
  have lx:=heap_lt0 hx
  clear hx
  go_wp2_with fail
  go_ret
  exact ⟨_,_,rfl,((Sepa.refl W9).pushNil 3 1).low HB0.out⟩
set_option maxHeartbeats 2000000 in
theorem sportWidths_any (m:MdT) (SA AA JA MA:Option Addr) (sn sc an ac jn jc mn mc:Nat) (kind:Int) (w:World) (h:MdRd w m SA AA JA MA sn sc an ac jn jc mn mc) :
  Calls Tryz.prog 55 #[.agg #[.slice SA sn sc,.slice AA an ac,.slice JA jn jc,.slice MA mn mc],.int .i64 kind] w fun e w'=>∃A c,e = .returned (.slice A (pwOf m kind).length c)∧Sepa w w' [.cel (celI (pwOf m kind)) (.slice A (pwOf m kind).length c)]:=by
 have HB0:=Lib.hid (below_new (Below.refl w.heap.size w) (.cells #[.slice SA sn sc,.slice AA an ac,.slice JA jn jc,.slice MA mn mc] 108))
 have HXB:=Lib.hid (heap_new w (.cells #[.slice SA sn sc,.slice AA an ac,.slice JA jn jc,.slice MA mn mc] 108))
 have HL:=Lib.hid h.lens.1
 have HM:=Lib.hid h
 clear h
 by_cases h30:sn≤30
 ·have d30:decide ((30:Int)<(sn:Int))=false:=decide_eq_false (by omega)
  have HF:Hid (pwOf m kind=pwTo m.sigs kind sn):=by show _=_;unfold pwOf;rw [HL.out,if_pos h30]
  rw [HF.out]
  go_enter Tryz.func55,Tryz.ntmps55
  go_upto_region 1 with fail
  generalize w.alloc (.cells #[.slice SA sn sc,.slice AA an ac,.slice JA jn jc,.slice MA mn mc] 108)=W9 at *
  have hx:=HXB.out
  have x0:=cell_heap (k:=0) hx rfl
  have lx:=heap_lt0 hx
  clear hx
  go_wp2_with fail
  clear x0 lx
  go_loopw [5,6] (fun v i wr=>∃(k:Nat) (A:Option Addr) (c:Nat),k≤sn∧i = .int .i64 (k:Int)∧v = .slice A (pwTo m.sigs kind k).length c∧Sepa W9 wr [.cel (celI (pwTo m.sigs kind k)) (.slice A (pwTo m.sigs kind k).length c)]) (fun _ i _=>sn - (intOf i).toNat)
  case atStart=>exact ⟨0,_,_,by omega,rfl,rfl,(Sepa.refl W9).pushNew 3 1⟩
  case round =>
   obtain ⟨k,A1,c1',hk,rfl,rfl,hs⟩:=hrel
   have HS:=Lib.hid hs
   have HB:=Lib.hid (below_tr HB0.out hs.bel)
   clear hs
   have hx:=heap_tr HS.out.bel HXB.out
   have x0:=cell_heap (k:=0) hx rfl
   have lx:=heap_lt0 hx
   clear hx
   by_cases hlt:k<sn
   ·have hdk:decide ((k:Int)<(sn:Int))=true:=by simp;omega
    have hkl:k<m.sigs.length:=by rw [HL.out];exact hlt
    have HLN:=Lib.hid (show (pwTo m.sigs kind k).length≤1099511627776 from by have:=pwTo_len m.sigs kind k;omega)
    have HTK:=Lib.hid (show pwTo m.sigs kind (k+1)=pwTo m.sigs kind k++if (sgK m.sigs k).kind=kind then [(sgK m.sigs k).width] else [] from rfl)
    obtain ⟨bs,os,rfl,hbs,c0,c1,c2⟩:=HM.out.sg.sgE (k:=k) hkl
    have lbs:=below_lt HB.out hbs
    rw [←HB.out.cell (p:=⟨bs,os+k * 3,none⟩) hbs] at c0
    rw [←HB.out.cell (p:=⟨bs,os+k * 3+1,none⟩) hbs] at c1
    rw [←HB.out.cell (p:=⟨bs,os+k * 3+2,none⟩) hbs] at c2
    clear hkl hbs
    unfold sgK at HTK
    generalize m.sigs[k]?.getD SgT.zero=q at *
    obtain ⟨kd,wd,it⟩:=q
    simp only at c0 c1 c2 HTK
    have i0:(0:Int)≤(k:Int):=by omega
    have i1:(k:Int)<(sn:Int):=by omega
    by_cases hc:kd=kind
    ·have d0:(kd==kind)=true:=by simp [hc]
     rw [if_pos hc] at HTK
     clear hc
     go_wp2_with (at_builtin;refine wpList_sepPush rfl _ _ rfl _ (HS.out.alloc _) 0 A1 (pwTo m.sigs kind k).length c1' (pwTo m.sigs kind k) (wd) _ (0,0) rfl rfl rfl (heap_new _ _) HLN.out ?_;intro g9 cap w9 S9 hz9;have HS9:=Lib.hid S9;clear S9 hz9)
     go_roundw
     case rel=>exact ⟨k+1,_,_,by omega,by go_num,by rw [HTK.out,List.length_append];rfl,by rw [HTK.out,List.length_append];exact HS9.out⟩
     case measure=>simp [intOf];omega
    ·have d0:(kd==kind)=false:=by simp [hc]
     rw [if_neg hc,List.append_nil] at HTK
     clear hc
     go_wp2_with fail
     go_roundw
     case rel=>exact ⟨k+1,_,_,by omega,by go_num,by rw [HTK.out],by rw [HTK.out];exact HS.out⟩
     case measure=>simp [intOf];omega
   ·have hkn:k=sn:=by omega
    have hdk:decide ((k:Int)<(sn:Int))=false:=by simp;omega
    subst hkn
    go_wp2_with fail
    go_ret
    exact ⟨_,_,rfl,HS.out.low HB0.out⟩
 ·have d30:decide ((30:Int)<(sn:Int))=true:=decide_eq_true (by omega)
  have HF:Hid (pwOf m kind=[]):=by show _=_;unfold pwOf;rw [HL.out,if_neg h30]
  rw [HF.out]
  go_enter Tryz.func55,Tryz.ntmps55
  go_upto_region 1 with fail
  generalize w.alloc (.cells #[.slice SA sn sc,.slice AA an ac,.slice JA jn jc,.slice MA mn mc] 108)=W9 at *
  have hx:=HXB.out
  have x0:=cell_heap (k:=0) hx rfl
  have lx:=heap_lt0 hx
  clear hx
  go_wp2_with fail
  go_ret
  exact ⟨_,_,rfl,((Sepa.refl W9).pushNew 3 1).low HB0.out⟩
end Go.Proofs.YtlinbdkbbhpdpaaGreat
