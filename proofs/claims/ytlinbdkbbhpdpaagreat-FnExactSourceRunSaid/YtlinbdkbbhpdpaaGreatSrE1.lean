/- A truth value as a number. Values of expressions in the reference (printed by mkse1.py). -/
import Derived.Test.YtlinbdkbbhpdpaaGreatBase
import Derived.Test.YtlinbdkbbhpdpaaGreatSrS6
import Derived.Test.YtlinbdkbbhpdpaaGreatSrW
namespace Go.Proofs.YtlinbdkbbhpdpaaGreat
set_option maxRecDepth 100000
open Go.RowKit
set_option maxHeartbeats 400000 in
theorem l07Bit_any (b:Bool) (w:World) :
  Calls Tryz.prog 199 #[.bool b] w fun e w'=>e = .returned (.int .i64 (if b then 1 else 0))∧w=w':=by
 cases b with
 | true =>
  go_enter Tryz.func199,Tryz.ntmps199
  go_wp2_with fail
  go_ret
  exact ⟨rfl,rfl⟩
 | false =>
  go_enter Tryz.func199,Tryz.ntmps199
  go_wp2_with fail
  go_ret
  exact ⟨rfl,rfl⟩
end Go.Proofs.YtlinbdkbbhpdpaaGreat

namespace Go.Proofs.YtlinbdkbbhpdpaaGreat
set_option maxRecDepth 100000
open Go.RowKit

theorem andW {wd:Int} (h0:0≤wd) (h4:wd≤4) (n:Int):bits .and .i64 n (mod2 wd - 1)=n % mod2 wd:=by
 unfold mod2
 exact andM n wd.toNat (by omega)
theorem and1 (n:Int):bits .and .i64 n 1=n % 2:=by
 have h:=andM n 1 (by omega)
 exact h
theorem xorN {x:Int} (h0:0≤x) (h1:x<9223372036854775808):bits .xor .i64 (-1) x=-1 - x:=by
 obtain ⟨n,rfl⟩:=Int.eq_ofNat_of_zero_le h0
 show IntKind.i64.wrap ((BitVec.ofInt 64 (-1) ^^^ BitVec.ofInt 64 (n:Int)).toNat:Nat)=_
 have e:BitVec.ofInt 64 (-1)=BitVec.allOnes 64:=by decide
 rw [e,BitVec.allOnes_xor,BitVec.toNat_not,ofInt_i64 n (by omega),IntKind.wrap_i64]
 omega
theorem mod2_le {wd:Int} (h1:1≤wd) (h4:wd≤4):mod2 wd≤16:=by
 rcases (by omega:wd=1∨wd=2∨wd=3∨wd=4) with rfl|rfl|rfl|rfl <;> decide
/-- An operator of a kind is no parameter. -/
def NoPar:Tr→Prop
 | .lf o=>o.kind≠1
 | .un _ a=>NoPar a
 | .bi _ a b=>NoPar a∧NoPar b
 | .te _ a b c=>NoPar a∧NoPar b∧NoPar c
theorem op_at {ops pr po:List OpT} {o:OpT} {r:List OpT} (h:ops=pr++(o :: r)++po):ops[pr.length]?.getD OpT.zero=o∧pr.length<ops.length:=by
 subst h
 constructor
 ·rw [List.append_assoc,List.getElem?_append_right (Nat.le_refl _),Nat.sub_self];rfl
 ·simp only [List.length_append,List.length_cons];omega
/-- What is at hand at a place of an expression. -/
structure AtOp (w:World) (ops:List OpT) (A:Option Addr) (on oc p:Nat) (o:OpT):Prop where
 rd:∃b f,A=some ⟨b,f,none⟩∧b<w.heap.size∧w.cell? ⟨b,f+p * 3,none⟩=some (.int .i64 o.kind)∧w.cell? ⟨b,f+p * 3+1,none⟩=some (.int .i64 o.a)∧w.cell? ⟨b,f+p * 3+2,none⟩=some (.int .i64 o.b)
 lt:p<on
theorem at_op {w:World} {ops pr po:List OpT} {A:Option Addr} {on oc:Nat} {o:OpT} {r:List OpT} (h:RdC w w.heap.size (celOp ops) (.slice A on oc)) (he:ops=pr++(o :: r)++po):AtOp w ops A on oc pr.length o:=by
 obtain ⟨h1,h2⟩:=op_at he
 obtain ⟨b,f,hA,hb,c0,c1,c2⟩:=h.opE h2
 rw [h1] at c0 c1 c2
 exact ⟨⟨b,f,hA,hb,c0,c1,c2⟩,by have:=h.opN;omega⟩
set_option maxHeartbeats 2000000 in
theorem sl07_lf (kd a b:Int) (pr po:List OpT) (ops:List OpT) (A:Option Addr) (on oc:Nat) (vals:List Int) (VA:Option Addr) (vn vc:Nat) (wd:Int) (w:World) (hr:RdC w w.heap.size (celOp ops) (.slice A on oc)) (hv:Ints w VA vn vals) (he:ops=pr++(Tr.lf ⟨kd,a,b⟩).pre++po) (hok:(Tr.lf ⟨kd,a,b⟩).Ok vn) (hnp:kd≠1) (h1:1≤wd) (h4:wd≤4) (hon:on≤15) (hvn:vn≤30) :
  Calls Tryz.prog 156 #[.slice A on oc,.int .i64 (pr.length:Int),.slice VA vn vc,.int .i64 (mod2 wd - 1)] w fun e w'=>e = .returned (.tuple #[.int .i64 (evT vals (mod2 wd) (.lf ⟨kd,a,b⟩)),.int .i64 ((pr.length+(Tr.lf ⟨kd,a,b⟩).pre.length:Nat):Int)])∧Below w.heap.size w w':=by
 obtain ⟨⟨b0,f0,hA,hb,c0,c1,c2⟩,hlt⟩:=at_op hr he
 subst hA
 obtain ⟨p,hp⟩:∃p,pr.length=p:=⟨_,rfl⟩
 rw [hp] at c0 c1 c2 hlt
 rw [hp]
 have HAW:=Lib.hid (andW (wd:=wd) (by omega) h4)
 have h2w:=mod2_two h1
 have HR:=Lib.hid hr
 have HV:=Lib.hid hv
 obtain ⟨hk0,hfit⟩:=hok
 have hk3:0≤kd∧kd≤3:=by
  rcases arity_cases (k:=kd) (by rw [hk0];omega) with h|h|h|h
  ·have h5:=hk0
   unfold arity at h5
   by_cases h6:0≤kd∧kd≤3
   ·exact h6
   ·rw [if_neg h6] at h5
    split at h5
    ·omega
    ·split at h5
     ·omega
     ·split at h5 <;> omega
  all_goals (simp only at hk0;omega)
 have HE:Hid (evT vals (mod2 wd) (.lf ⟨kd,a,b⟩)=if kd=0 then a % mod2 wd else if kd=2 then atI vals a % mod2 wd else (atI vals a / 2 ^ b.toNat % 2) % mod2 wd):=rfl
 have HF:Hid (OpFit ⟨kd,a,b⟩ vn↔if kd=0 then (0≤a∧a≤15)∧b=0 else if kd=2 then (0≤a∧a<(vn:Int))∧b=0 else if kd=3 then (0≤a∧a<(vn:Int))∧0≤b∧b≤3 else (0≤arity kd∧a=0)∧b=0):=Iff.rfl
 have hf:=HF.out.1 hfit
 clear hfit HF hk0 hr hv he
 simp only at c0 c1 c2
 show Calls _ _ _ _ fun e w'=>e = .returned (.tuple #[.int .i64 _,.int .i64 ((p+1:Nat):Int)])∧_
 generalize hM:mod2 wd=M at *
 have HM:=Lib.hid hM
 clear hM
 obtain ⟨mk,hmk⟩:∃m,M - 1=m:=⟨_,rfl⟩
 rw [hmk] at HAW
 rw [hmk]
 clear hmk
 by_cases k0:kd=0
 ·have d0:(kd==0)=true:=by simp [k0]
  rw [if_pos k0] at HE
  clear hf
  clear k0 hnp hk3
  have HB1:=Lib.hid (below_new (Below.refl w.heap.size w) (.cells #[.int .i64 kd,.int .i64 a,.int .i64 b] 198))
  have hy:=heap_new w (.cells #[.int .i64 kd,.int .i64 a,.int .i64 b] 198)
  have HY:=Lib.hid hy
  have y0:=cell_heap (k:=0) hy rfl
  have y1:=cell_heap (k:=1) hy rfl
  have y2:=cell_heap (k:=2) hy rfl
  have ly:=heap_lt0 hy
  clear hy
  have i0:(0:Int)≤(p:Int):=by omega
  have i1:(p:Int)<(on:Int):=by omega
  go_enter Tryz.func156,Tryz.ntmps156
  go_upto_region 2 with fail
  generalize w.alloc (.cells #[.int .i64 kd,.int .i64 a,.int .i64 b] 198)=W5 at *
  go_wp2_with fail
  go_ret2
  exact ⟨by rw [HE.out,HAW.out a];rfl,HB1.out⟩
 ·have d0:(kd==0)=false:=by simp [k0]
  rw [if_neg k0] at HE hf
  by_cases k2:kd=2
  ·have d2:(kd==2)=true:=by simp [k2]
   rw [if_pos k2] at HE hf
   obtain ⟨X,rfl⟩:∃X:Nat,a=(X:Int):=⟨a.toNat,by omega⟩
   obtain ⟨bv,fv,rfl,hbv,hcv⟩:=HV.out.2 (by omega)
   have hx:=hcv X (by omega)
   have lbv:=below_lt (below_new (Below.refl w.heap.size w) (.cells #[.int .i64 kd,.int .i64 (X:Int),.int .i64 b] 198)) hbv
   rw [←(below_new (Below.refl w.heap.size w) (.cells #[.int .i64 kd,.int .i64 (X:Int),.int .i64 b] 198)).cell (p:=⟨bv,fv+X,none⟩) hbv] at hx
   rw [show vals[X]?.getD 0=atI vals (X:Int) from by unfold atI;rw [Int.toNat_natCast]] at hx
   have q0:(0:Int)≤(X:Int):=by omega
   have q1:(X:Int)<(vn:Int):=by omega
   clear k0 k2 hnp hk3 hf hcv
   have HB1:=Lib.hid (below_new (Below.refl w.heap.size w) (.cells #[.int .i64 kd,.int .i64 (X:Int),.int .i64 b] 198))
   have hy:=heap_new w (.cells #[.int .i64 kd,.int .i64 (X:Int),.int .i64 b] 198)
   have HY:=Lib.hid hy
   have y0:=cell_heap (k:=0) hy rfl
   have y1:=cell_heap (k:=1) hy rfl
   have y2:=cell_heap (k:=2) hy rfl
   have ly:=heap_lt0 hy
   clear hy
   have i0:(0:Int)≤(p:Int):=by omega
   have i1:(p:Int)<(on:Int):=by omega
   go_enter Tryz.func156,Tryz.ntmps156
   go_upto_region 2 with fail
   generalize w.alloc (.cells #[.int .i64 kd,.int .i64 (X:Int),.int .i64 b] 198)=W5 at *
   go_wp2_with fail
   go_ret2
   exact ⟨by rw [HE.out,HAW.out];rfl,HB1.out⟩
  ·have d2:(kd==2)=false:=by simp [k2]
   have k3:kd=3:=by omega
   have d3:(kd==3)=true:=by simp [k3]
   rw [if_neg k2] at HE hf
   rw [if_pos k3] at hf
   obtain ⟨X,rfl⟩:∃X:Nat,a=(X:Int):=⟨a.toNat,by omega⟩
   obtain ⟨Y,rfl⟩:∃Y:Nat,b=(Y:Int):=⟨b.toNat,by omega⟩
   have hY:Y≤3:=by omega
   obtain ⟨bv,fv,rfl,hbv,hcv⟩:=HV.out.2 (by omega)
   have hx:=hcv X (by omega)
   have lbv:=below_lt (below_new (Below.refl w.heap.size w) (.cells #[.int .i64 kd,.int .i64 (X:Int),.int .i64 (Y:Int)] 198)) hbv
   rw [←(below_new (Below.refl w.heap.size w) (.cells #[.int .i64 kd,.int .i64 (X:Int),.int .i64 (Y:Int)] 198)).cell (p:=⟨bv,fv+X,none⟩) hbv] at hx
   rw [show vals[X]?.getD 0=atI vals (X:Int) from by unfold atI;rw [Int.toNat_natCast]] at hx
   rw [Int.toNat_natCast] at HE
   have q0:(0:Int)≤(X:Int):=by omega
   have q1:(X:Int)<(vn:Int):=by omega
   clear k0 k2 k3 hnp hk3 hf hcv
   have HB1:=Lib.hid (below_new (Below.refl w.heap.size w) (.cells #[.int .i64 kd,.int .i64 (X:Int),.int .i64 (Y:Int)] 198))
   have hy:=heap_new w (.cells #[.int .i64 kd,.int .i64 (X:Int),.int .i64 (Y:Int)] 198)
   have HY:=Lib.hid hy
   have y0:=cell_heap (k:=0) hy rfl
   have y1:=cell_heap (k:=1) hy rfl
   have y2:=cell_heap (k:=2) hy rfl
   have ly:=heap_lt0 hy
   clear hy
   have i0:(0:Int)≤(p:Int):=by omega
   have i1:(p:Int)<(on:Int):=by omega
   go_enter Tryz.func156,Tryz.ntmps156
   go_upto_region 2 with fail
   generalize w.alloc (.cells #[.int .i64 kd,.int .i64 (X:Int),.int .i64 (Y:Int)] 198)=W5 at *
   go_wp2_with fail
   have hsub:=sub_ne W5
   have hsc:=sub_cell W5
   refine wp_region_below W5 (by kernel_rfl) (by kernel_rfl) (Below.refl _ _) ?_
   repeat (go_big_quiet_step (fail))
   refine wpQuiet_nil ?_
   rintro _ ⟨⟨w5,hD⟩,rfl⟩
   clear hsub hsc
   have HB2:=Lib.hid (below_tr HB1.out hD)
   clear hD
   go_wp2_with fail
   go_ret2
   refine ⟨?_,HB2.out⟩
   rw [HE.out,←HAW.out,←and1]
   rfl
theorem calls_eq {P:Program} {f:FuncId} {a b:Array Value} {w:World} {Q:Ending→World→Prop} (h:Calls P f a w Q) (e:a=b):Calls P f b w Q:=e ▸ h
set_option maxHeartbeats 4000000 in
theorem sl07_un (kd oa ob:Int) (a:Tr) (iha:∀(pr po ops:List OpT) (A:Option Addr) (on oc:Nat) (vals:List Int) (VA:Option Addr) (vn vc:Nat) (wd:Int) (w:World),RdC w w.heap.size (celOp ops) (.slice A on oc)→Ints w VA vn vals→ops=pr++(a).pre++po→(a).Ok vn→NoPar (a)→1≤wd→wd≤4→on≤15→vn≤30 →
  Calls Tryz.prog 156 #[.slice A on oc,.int .i64 (pr.length:Int),.slice VA vn vc,.int .i64 (mod2 wd - 1)] w fun e w'=>e = .returned (.tuple #[.int .i64 (evT vals (mod2 wd) (a)),.int .i64 ((pr.length+(a).pre.length:Nat):Int)])∧Below w.heap.size w w') :
  ∀(pr po ops:List OpT) (A:Option Addr) (on oc:Nat) (vals:List Int) (VA:Option Addr) (vn vc:Nat) (wd:Int) (w:World),RdC w w.heap.size (celOp ops) (.slice A on oc)→Ints w VA vn vals→ops=pr++(Tr.un ⟨kd,oa,ob⟩ a).pre++po→(Tr.un ⟨kd,oa,ob⟩ a).Ok vn→NoPar (Tr.un ⟨kd,oa,ob⟩ a)→1≤wd→wd≤4→on≤15→vn≤30 →
  Calls Tryz.prog 156 #[.slice A on oc,.int .i64 (pr.length:Int),.slice VA vn vc,.int .i64 (mod2 wd - 1)] w fun e w'=>e = .returned (.tuple #[.int .i64 (evT vals (mod2 wd) (Tr.un ⟨kd,oa,ob⟩ a)),.int .i64 ((pr.length+(Tr.un ⟨kd,oa,ob⟩ a).pre.length:Nat):Int)])∧Below w.heap.size w w':=by
 intro pr po ops A on oc vals VA vn vc wd w hr hv he hok hnp h1 h4 hon hvn
 obtain ⟨hk,hoka⟩:=hok
 have hnpa:NoPar a:=hnp
 simp only at hk
 subst hk
 have he2:ops=pr++(⟨4,oa,ob⟩ :: a.pre)++po:=he
 obtain ⟨⟨b0,f0,hA,hb,c0,c1,c2⟩,hlt⟩:=at_op hr he2
 subst hA
 obtain ⟨p,hp⟩:∃p,pr.length=p:=⟨_,rfl⟩
 rw [hp] at c0 c1 c2 hlt
 rw [hp]
 have HAW:=Lib.hid (andW (wd:=wd) (by omega) h4)
 have h2w:=mod2_two h1
 have HR:=Lib.hid hr
 have HV:=Lib.hid hv
 have HIa:=Lib.hid (fun (v:World) (hb:Below w.heap.size w v)=>(by
  have h:=iha (pr++[⟨4,oa,ob⟩]) (po) ops (some ⟨b0,f0,none⟩) on oc vals VA vn vc wd v (HR.out.below hb) (HV.out.below hb) (by rw [he];simp [Tr.pre]) hoka hnpa h1 h4 hon hvn
  rw [show (pr++[⟨4,oa,ob⟩]:List OpT).length=p+1 from by simp [←hp];try omega] at h
  exact h:Calls Tryz.prog 156 #[.slice (some ⟨b0,f0,none⟩) on oc,.int .i64 ((p:Int)+1),.slice VA vn vc,.int .i64 (mod2 wd - 1)] v fun e w'=>e = .returned (.tuple #[.int .i64 (evT vals (mod2 wd) a),.int .i64 ((p:Int)+1+(a.pre.length:Int))])∧Below v.heap.size v w'))
 have HE:Hid (evT vals (mod2 wd) (.un ⟨4,oa,ob⟩ a)=(-1 - evT vals (mod2 wd) a) % mod2 wd):=rfl
 have hva:=evT_in vals h1 h4 a
 simp only at c0 c1 c2
 show Calls _ _ _ _ fun e w'=>e = .returned (.tuple #[.int .i64 _,.int .i64 ((p+(a.pre.length+1):Nat):Int)])∧_
 have hal:p+1+a.pre.length≤16:=by
  have h5:=hr.opN
  have h6:ops.length=pr.length+(a.pre.length+1)+po.length:=by rw [he2];simp;omega
  omega
 generalize evT vals (mod2 wd) a=va at *
 generalize a.pre.length=la at *
 have hM4:=mod2_le h1 h4
 have HP:=Lib.hid hp
 clear hr hv he he2 hoka hnpa hnp iha hp
 generalize mod2 wd=M at *
 obtain ⟨mk,hmk⟩:∃m,M - 1=m:=⟨_,rfl⟩
 rw [hmk] at HAW HIa
 rw [hmk]
 clear hmk
 have HB1:=Lib.hid (below_new (Below.refl w.heap.size w) (.cells #[.int .i64 4,.int .i64 oa,.int .i64 ob] 198))
 have hy:=heap_new w (.cells #[.int .i64 4,.int .i64 oa,.int .i64 ob] 198)
 have HY:=Lib.hid hy
 have y0:=cell_heap (k:=0) hy rfl
 have y1:=cell_heap (k:=1) hy rfl
 have y2:=cell_heap (k:=2) hy rfl
 have ly:=heap_lt0 hy
 clear hy
 have i0:(0:Int)≤(p:Int):=by omega
 have i1:(p:Int)<(on:Int):=by omega
 go_enter Tryz.func156,Tryz.ntmps156
 go_upto_region 2 with fail
 generalize w.alloc (.cells #[.int .i64 4,.int .i64 oa,.int .i64 ob] 198)=W5 at *
 go_wp2_with fail
 refine (HIa.out _ HB1.out).mono ?_
 rintro _ w2 ⟨rfl,b2⟩
 have HB2:=Lib.hid (below_tr HB1.out b2)
 have HY2:=Lib.hid (heap_tr b2 HY.out)
 clear b2 y0 ly
 have hy:=HY2.out
 have y0:=cell_heap (k:=0) hy rfl
 have ly:=heap_lt0 hy
 clear hy
 go_wp2_with fail
 go_ret2
 refine ⟨?_,HB2.out⟩
 show Ending.returned (.tuple #[.int .i64 (bits .and .i64 (bits .xor .i64 (-1) va) mk),.int .i64 ((p:Int)+1+(la:Int))])=Ending.returned (.tuple #[.int .i64 _,.int .i64 ((p+(la+1):Nat):Int)])
 rw [HAW.out,xorN hva.1 (by omega),HE.out,show ((p+(la+1):Nat):Int)=(p:Int)+1+(la:Int) from by omega]
theorem ret_pair {x y x' y':Int} (h1:x=x') (h2:y=y'):Ending.returned (.tuple #[.int .i64 x,.int .i64 y])=Ending.returned (.tuple #[.int .i64 x',.int .i64 y']):=by rw [h1,h2]
set_option maxHeartbeats 1000000 in
theorem sl07_bi (kd oa ob:Int) (a b:Tr) (iha:∀(pr po ops:List OpT) (A:Option Addr) (on oc:Nat) (vals:List Int) (VA:Option Addr) (vn vc:Nat) (wd:Int) (w:World),RdC w w.heap.size (celOp ops) (.slice A on oc)→Ints w VA vn vals→ops=pr++(a).pre++po→(a).Ok vn→NoPar (a)→1≤wd→wd≤4→on≤15→vn≤30 →
  Calls Tryz.prog 156 #[.slice A on oc,.int .i64 (pr.length:Int),.slice VA vn vc,.int .i64 (mod2 wd - 1)] w fun e w'=>e = .returned (.tuple #[.int .i64 (evT vals (mod2 wd) (a)),.int .i64 ((pr.length+(a).pre.length:Nat):Int)])∧Below w.heap.size w w') (ihb:∀(pr po ops:List OpT) (A:Option Addr) (on oc:Nat) (vals:List Int) (VA:Option Addr) (vn vc:Nat) (wd:Int) (w:World),RdC w w.heap.size (celOp ops) (.slice A on oc)→Ints w VA vn vals→ops=pr++(b).pre++po→(b).Ok vn→NoPar (b)→1≤wd→wd≤4→on≤15→vn≤30 →
  Calls Tryz.prog 156 #[.slice A on oc,.int .i64 (pr.length:Int),.slice VA vn vc,.int .i64 (mod2 wd - 1)] w fun e w'=>e = .returned (.tuple #[.int .i64 (evT vals (mod2 wd) (b)),.int .i64 ((pr.length+(b).pre.length:Nat):Int)])∧Below w.heap.size w w') :
  ∀(pr po ops:List OpT) (A:Option Addr) (on oc:Nat) (vals:List Int) (VA:Option Addr) (vn vc:Nat) (wd:Int) (w:World),RdC w w.heap.size (celOp ops) (.slice A on oc)→Ints w VA vn vals→ops=pr++(Tr.bi ⟨kd,oa,ob⟩ a b).pre++po→(Tr.bi ⟨kd,oa,ob⟩ a b).Ok vn→NoPar (Tr.bi ⟨kd,oa,ob⟩ a b)→1≤wd→wd≤4→on≤15→vn≤30 →
  Calls Tryz.prog 156 #[.slice A on oc,.int .i64 (pr.length:Int),.slice VA vn vc,.int .i64 (mod2 wd - 1)] w fun e w'=>e = .returned (.tuple #[.int .i64 (evT vals (mod2 wd) (Tr.bi ⟨kd,oa,ob⟩ a b)),.int .i64 ((pr.length+(Tr.bi ⟨kd,oa,ob⟩ a b).pre.length:Nat):Int)])∧Below w.heap.size w w':=by
 intro pr po ops A on oc vals VA vn vc wd w hr hv he hok hnp h1 h4 hon hvn
 obtain ⟨hk,hoka,hokb⟩:=hok
 obtain ⟨hnpa,hnpb⟩:=hnp
 have he2:ops=pr++(⟨kd,oa,ob⟩ :: (a.pre++b.pre))++po:=he
 obtain ⟨⟨b0,f0,hA,hb,c0,c1,c2⟩,hlt⟩:=at_op hr he2
 subst hA
 obtain ⟨p,hp⟩:∃p,pr.length=p:=⟨_,rfl⟩
 rw [hp] at c0 c1 c2 hlt
 rw [hp]
 have HAW:=Lib.hid (andW (wd:=wd) (by omega) h4)
 have h2w:=mod2_two h1
 have HR:=Lib.hid hr
 have HV:=Lib.hid hv
 have HIa:=Lib.hid (fun (v:World) (hb:Below w.heap.size w v)=>(by
  have h:=iha (pr++(⟨kd,oa,ob⟩ :: ([]))) (b.pre++po) ops (some ⟨b0,f0,none⟩) on oc vals VA vn vc wd v (HR.out.below hb) (HV.out.below hb) (by rw [he];simp [Tr.pre]) hoka hnpa h1 h4 hon hvn
  rw [show (pr++(⟨kd,oa,ob⟩ :: ([])):List OpT).length=p+1 from by simp [←hp];try omega] at h
  exact h:Calls Tryz.prog 156 #[.slice (some ⟨b0,f0,none⟩) on oc,.int .i64 ((p:Int)+1),.slice VA vn vc,.int .i64 (mod2 wd - 1)] v fun e w'=>e = .returned (.tuple #[.int .i64 (evT vals (mod2 wd) a),.int .i64 ((p:Int)+1+(a.pre.length:Int))])∧Below v.heap.size v w'))
 have HIb:=Lib.hid (fun (v:World) (hb:Below w.heap.size w v)=>(by
  have h:=ihb (pr++(⟨kd,oa,ob⟩ :: (a.pre))) (po) ops (some ⟨b0,f0,none⟩) on oc vals VA vn vc wd v (HR.out.below hb) (HV.out.below hb) (by rw [he];simp [Tr.pre]) hokb hnpb h1 h4 hon hvn
  rw [show (pr++(⟨kd,oa,ob⟩ :: (a.pre)):List OpT).length=p+1+a.pre.length from by simp [←hp];try omega] at h
  exact h:Calls Tryz.prog 156 #[.slice (some ⟨b0,f0,none⟩) on oc,.int .i64 ((p:Int)+1+(a.pre.length:Int)),.slice VA vn vc,.int .i64 (mod2 wd - 1)] v fun e w'=>e = .returned (.tuple #[.int .i64 (evT vals (mod2 wd) b),.int .i64 ((p:Int)+1+(a.pre.length:Int)+(b.pre.length:Int))])∧Below v.heap.size v w'))
 have hva:=evT_in vals h1 h4 a
 have hvb:=evT_in vals h1 h4 b
 have HE:Hid (evT vals (mod2 wd) (Tr.bi ⟨kd,oa,ob⟩ a b)=evT vals (mod2 wd) (Tr.bi ⟨kd,oa,ob⟩ a b)):=rfl
 have hal:p+1+(a.pre.length+b.pre.length)≤16:=by
  have h5:=hr.opN
  have h6:ops.length=pr.length+(a.pre.length+b.pre.length+1)+po.length:=by rw [he2];simp;omega
  omega
 have hM4:=mod2_le h1 h4
 have HP:=Lib.hid hp
 simp only at c0 c1 c2 hk
 show Calls _ _ _ _ fun e w'=>e = .returned (.tuple #[.int .i64 _,.int .i64 ((p+(a.pre++b.pre).length.succ:Nat):Int)])∧_
 rw [show p+(a.pre++b.pre).length.succ=p+1+(a.pre.length+b.pre.length) from by simp only [List.length_append,Nat.succ_eq_add_one];omega]
 clear hr hv he he2 hoka hnpa iha hokb hnpb ihb hp
 by_cases k5:kd=5
 ·subst k5
  obtain ⟨V,hV⟩:∃V,evT vals (mod2 wd) (Tr.bi ⟨5,oa,ob⟩ a b)=V:=⟨_,rfl⟩
  have HE2:Hid (V=bits .and .i64 (evT vals (mod2 wd) a) (evT vals (mod2 wd) b)):=by show _=_;rw [←hV,evT];simp
  rw [hV]
  clear hV HE
  generalize evT vals (mod2 wd) a=va at *
  generalize a.pre.length=la at *
  generalize evT vals (mod2 wd) b=vb at *
  generalize b.pre.length=lb at *
  generalize mod2 wd=M at *
  obtain ⟨mk,hmk⟩:∃m,M - 1=m:=⟨_,rfl⟩
  rw [hmk] at HAW HIa HIb
  rw [hmk]
  clear hmk
  have HB1:=Lib.hid (below_new (Below.refl w.heap.size w) (.cells #[.int .i64 5,.int .i64 oa,.int .i64 ob] 198))
  have hy:=heap_new w (.cells #[.int .i64 5,.int .i64 oa,.int .i64 ob] 198)
  have HY:=Lib.hid hy
  have y0:=cell_heap (k:=0) hy rfl
  have y1:=cell_heap (k:=1) hy rfl
  have y2:=cell_heap (k:=2) hy rfl
  have ly:=heap_lt0 hy
  clear hy
  have i0:(0:Int)≤(p:Int):=by omega
  have i1:(p:Int)<(on:Int):=by omega
  go_enter Tryz.func156,Tryz.ntmps156
  go_upto_region 2 with fail
  generalize w.alloc (.cells #[.int .i64 5,.int .i64 oa,.int .i64 ob] 198)=W5 at *
  go_wp2_with fail
  refine (HIa.out _ HB1.out).mono ?_
  rintro _ w2 ⟨rfl,b2⟩
  have HB2:=Lib.hid (below_tr HB1.out b2)
  have HY2:=Lib.hid (heap_tr b2 HY.out)
  clear b2 y0 ly
  have hy:=HY2.out
  have y0:=cell_heap (k:=0) hy rfl
  have ly:=heap_lt0 hy
  clear hy
  go_wp2_with fail
  refine (HIb.out _ HB2.out).mono ?_
  rintro _ w3 ⟨rfl,b3⟩
  have HB3:=Lib.hid (below_tr HB2.out b3)
  have HY3:=Lib.hid (heap_tr b3 HY2.out)
  clear b3 y0 ly
  have hy:=HY3.out
  have y0:=cell_heap (k:=0) hy rfl
  have ly:=heap_lt0 hy
  clear hy
  go_wp2_with fail
  go_ret2
  refine ⟨ret_pair ?_ ?_,HB3.out⟩
  ·rw [HE2.out]
  ·omega
 by_cases k6:kd=6
 ·subst k6
  obtain ⟨V,hV⟩:∃V,evT vals (mod2 wd) (Tr.bi ⟨6,oa,ob⟩ a b)=V:=⟨_,rfl⟩
  have HE2:Hid (V=bits .or .i64 (evT vals (mod2 wd) a) (evT vals (mod2 wd) b)):=by show _=_;rw [←hV,evT];simp
  rw [hV]
  clear hV HE
  generalize evT vals (mod2 wd) a=va at *
  generalize a.pre.length=la at *
  generalize evT vals (mod2 wd) b=vb at *
  generalize b.pre.length=lb at *
  generalize mod2 wd=M at *
  obtain ⟨mk,hmk⟩:∃m,M - 1=m:=⟨_,rfl⟩
  rw [hmk] at HAW HIa HIb
  rw [hmk]
  clear hmk
  have HB1:=Lib.hid (below_new (Below.refl w.heap.size w) (.cells #[.int .i64 6,.int .i64 oa,.int .i64 ob] 198))
  have hy:=heap_new w (.cells #[.int .i64 6,.int .i64 oa,.int .i64 ob] 198)
  have HY:=Lib.hid hy
  have y0:=cell_heap (k:=0) hy rfl
  have y1:=cell_heap (k:=1) hy rfl
  have y2:=cell_heap (k:=2) hy rfl
  have ly:=heap_lt0 hy
  clear hy
  have i0:(0:Int)≤(p:Int):=by omega
  have i1:(p:Int)<(on:Int):=by omega
  go_enter Tryz.func156,Tryz.ntmps156
  go_upto_region 2 with fail
  generalize w.alloc (.cells #[.int .i64 6,.int .i64 oa,.int .i64 ob] 198)=W5 at *
  go_wp2_with fail
  refine (HIa.out _ HB1.out).mono ?_
  rintro _ w2 ⟨rfl,b2⟩
  have HB2:=Lib.hid (below_tr HB1.out b2)
  have HY2:=Lib.hid (heap_tr b2 HY.out)
  clear b2 y0 ly
  have hy:=HY2.out
  have y0:=cell_heap (k:=0) hy rfl
  have ly:=heap_lt0 hy
  clear hy
  go_wp2_with fail
  refine (HIb.out _ HB2.out).mono ?_
  rintro _ w3 ⟨rfl,b3⟩
  have HB3:=Lib.hid (below_tr HB2.out b3)
  have HY3:=Lib.hid (heap_tr b3 HY2.out)
  clear b3 y0 ly
  have hy:=HY3.out
  have y0:=cell_heap (k:=0) hy rfl
  have ly:=heap_lt0 hy
  clear hy
  go_wp2_with fail
  go_ret2
  refine ⟨ret_pair ?_ ?_,HB3.out⟩
  ·rw [HE2.out]
  ·omega
 by_cases k7:kd=7
 ·subst k7
  obtain ⟨V,hV⟩:∃V,evT vals (mod2 wd) (Tr.bi ⟨7,oa,ob⟩ a b)=V:=⟨_,rfl⟩
  have HE2:Hid (V=bits .xor .i64 (evT vals (mod2 wd) a) (evT vals (mod2 wd) b)):=by show _=_;rw [←hV,evT];simp
  rw [hV]
  clear hV HE
  generalize evT vals (mod2 wd) a=va at *
  generalize a.pre.length=la at *
  generalize evT vals (mod2 wd) b=vb at *
  generalize b.pre.length=lb at *
  generalize mod2 wd=M at *
  obtain ⟨mk,hmk⟩:∃m,M - 1=m:=⟨_,rfl⟩
  rw [hmk] at HAW HIa HIb
  rw [hmk]
  clear hmk
  have HB1:=Lib.hid (below_new (Below.refl w.heap.size w) (.cells #[.int .i64 7,.int .i64 oa,.int .i64 ob] 198))
  have hy:=heap_new w (.cells #[.int .i64 7,.int .i64 oa,.int .i64 ob] 198)
  have HY:=Lib.hid hy
  have y0:=cell_heap (k:=0) hy rfl
  have y1:=cell_heap (k:=1) hy rfl
  have y2:=cell_heap (k:=2) hy rfl
  have ly:=heap_lt0 hy
  clear hy
  have i0:(0:Int)≤(p:Int):=by omega
  have i1:(p:Int)<(on:Int):=by omega
  go_enter Tryz.func156,Tryz.ntmps156
  go_upto_region 2 with fail
  generalize w.alloc (.cells #[.int .i64 7,.int .i64 oa,.int .i64 ob] 198)=W5 at *
  go_wp2_with fail
  refine (HIa.out _ HB1.out).mono ?_
  rintro _ w2 ⟨rfl,b2⟩
  have HB2:=Lib.hid (below_tr HB1.out b2)
  have HY2:=Lib.hid (heap_tr b2 HY.out)
  clear b2 y0 ly
  have hy:=HY2.out
  have y0:=cell_heap (k:=0) hy rfl
  have ly:=heap_lt0 hy
  clear hy
  go_wp2_with fail
  refine (HIb.out _ HB2.out).mono ?_
  rintro _ w3 ⟨rfl,b3⟩
  have HB3:=Lib.hid (below_tr HB2.out b3)
  have HY3:=Lib.hid (heap_tr b3 HY2.out)
  clear b3 y0 ly
  have hy:=HY3.out
  have y0:=cell_heap (k:=0) hy rfl
  have ly:=heap_lt0 hy
  clear hy
  go_wp2_with fail
  go_ret2
  refine ⟨ret_pair ?_ ?_,HB3.out⟩
  ·rw [HE2.out]
  ·omega
 by_cases k8:kd=8
 ·subst k8
  obtain ⟨V,hV⟩:∃V,evT vals (mod2 wd) (Tr.bi ⟨8,oa,ob⟩ a b)=V:=⟨_,rfl⟩
  have HE2:Hid (V=(evT vals (mod2 wd) a+evT vals (mod2 wd) b) % mod2 wd):=by show _=_;rw [←hV,evT];simp
  rw [hV]
  clear hV HE
  generalize evT vals (mod2 wd) a=va at *
  generalize a.pre.length=la at *
  generalize evT vals (mod2 wd) b=vb at *
  generalize b.pre.length=lb at *
  generalize mod2 wd=M at *
  obtain ⟨mk,hmk⟩:∃m,M - 1=m:=⟨_,rfl⟩
  rw [hmk] at HAW HIa HIb
  rw [hmk]
  clear hmk
  have HB1:=Lib.hid (below_new (Below.refl w.heap.size w) (.cells #[.int .i64 8,.int .i64 oa,.int .i64 ob] 198))
  have hy:=heap_new w (.cells #[.int .i64 8,.int .i64 oa,.int .i64 ob] 198)
  have HY:=Lib.hid hy
  have y0:=cell_heap (k:=0) hy rfl
  have y1:=cell_heap (k:=1) hy rfl
  have y2:=cell_heap (k:=2) hy rfl
  have ly:=heap_lt0 hy
  clear hy
  have i0:(0:Int)≤(p:Int):=by omega
  have i1:(p:Int)<(on:Int):=by omega
  go_enter Tryz.func156,Tryz.ntmps156
  go_upto_region 2 with fail
  generalize w.alloc (.cells #[.int .i64 8,.int .i64 oa,.int .i64 ob] 198)=W5 at *
  go_wp2_with fail
  refine (HIa.out _ HB1.out).mono ?_
  rintro _ w2 ⟨rfl,b2⟩
  have HB2:=Lib.hid (below_tr HB1.out b2)
  have HY2:=Lib.hid (heap_tr b2 HY.out)
  clear b2 y0 ly
  have hy:=HY2.out
  have y0:=cell_heap (k:=0) hy rfl
  have ly:=heap_lt0 hy
  clear hy
  go_wp2_with fail
  refine (HIb.out _ HB2.out).mono ?_
  rintro _ w3 ⟨rfl,b3⟩
  have HB3:=Lib.hid (below_tr HB2.out b3)
  have HY3:=Lib.hid (heap_tr b3 HY2.out)
  clear b3 y0 ly
  have hy:=HY3.out
  have y0:=cell_heap (k:=0) hy rfl
  have ly:=heap_lt0 hy
  clear hy
  go_wp2_with fail
  go_ret2
  refine ⟨ret_pair ?_ ?_,HB3.out⟩
  ·rw [HE2.out,←HAW.out]
  ·omega
 by_cases k9:kd=9
 ·subst k9
  obtain ⟨V,hV⟩:∃V,evT vals (mod2 wd) (Tr.bi ⟨9,oa,ob⟩ a b)=V:=⟨_,rfl⟩
  have HE2:Hid (V=(evT vals (mod2 wd) a - evT vals (mod2 wd) b) % mod2 wd):=by show _=_;rw [←hV,evT];simp
  rw [hV]
  clear hV HE
  generalize evT vals (mod2 wd) a=va at *
  generalize a.pre.length=la at *
  generalize evT vals (mod2 wd) b=vb at *
  generalize b.pre.length=lb at *
  generalize mod2 wd=M at *
  obtain ⟨mk,hmk⟩:∃m,M - 1=m:=⟨_,rfl⟩
  rw [hmk] at HAW HIa HIb
  rw [hmk]
  clear hmk
  have HB1:=Lib.hid (below_new (Below.refl w.heap.size w) (.cells #[.int .i64 9,.int .i64 oa,.int .i64 ob] 198))
  have hy:=heap_new w (.cells #[.int .i64 9,.int .i64 oa,.int .i64 ob] 198)
  have HY:=Lib.hid hy
  have y0:=cell_heap (k:=0) hy rfl
  have y1:=cell_heap (k:=1) hy rfl
  have y2:=cell_heap (k:=2) hy rfl
  have ly:=heap_lt0 hy
  clear hy
  have i0:(0:Int)≤(p:Int):=by omega
  have i1:(p:Int)<(on:Int):=by omega
  go_enter Tryz.func156,Tryz.ntmps156
  go_upto_region 2 with fail
  generalize w.alloc (.cells #[.int .i64 9,.int .i64 oa,.int .i64 ob] 198)=W5 at *
  go_wp2_with fail
  refine (HIa.out _ HB1.out).mono ?_
  rintro _ w2 ⟨rfl,b2⟩
  have HB2:=Lib.hid (below_tr HB1.out b2)
  have HY2:=Lib.hid (heap_tr b2 HY.out)
  clear b2 y0 ly
  have hy:=HY2.out
  have y0:=cell_heap (k:=0) hy rfl
  have ly:=heap_lt0 hy
  clear hy
  go_wp2_with fail
  refine (HIb.out _ HB2.out).mono ?_
  rintro _ w3 ⟨rfl,b3⟩
  have HB3:=Lib.hid (below_tr HB2.out b3)
  have HY3:=Lib.hid (heap_tr b3 HY2.out)
  clear b3 y0 ly
  have hy:=HY3.out
  have y0:=cell_heap (k:=0) hy rfl
  have ly:=heap_lt0 hy
  clear hy
  go_wp2_with fail
  go_ret2
  refine ⟨ret_pair ?_ ?_,HB3.out⟩
  ·rw [HE2.out,←HAW.out]
  ·omega
 by_cases k10:kd=10
 ·subst k10
  obtain ⟨V,hV⟩:∃V,evT vals (mod2 wd) (Tr.bi ⟨10,oa,ob⟩ a b)=V:=⟨_,rfl⟩
  have HE2:Hid (V=(if evT vals (mod2 wd) a=evT vals (mod2 wd) b then 1 else 0)):=by show _=_;rw [←hV,evT];simp
  rw [hV]
  clear hV HE
  generalize evT vals (mod2 wd) a=va at *
  generalize a.pre.length=la at *
  generalize evT vals (mod2 wd) b=vb at *
  generalize b.pre.length=lb at *
  generalize mod2 wd=M at *
  obtain ⟨mk,hmk⟩:∃m,M - 1=m:=⟨_,rfl⟩
  rw [hmk] at HAW HIa HIb
  rw [hmk]
  clear hmk
  by_cases hc:va=vb
  ·have dc:(va==vb)=true:=by simp [hc]
   rw [if_pos hc] at HE2
   clear hc
   have HB1:=Lib.hid (below_new (Below.refl w.heap.size w) (.cells #[.int .i64 10,.int .i64 oa,.int .i64 ob] 198))
   have hy:=heap_new w (.cells #[.int .i64 10,.int .i64 oa,.int .i64 ob] 198)
   have HY:=Lib.hid hy
   have y0:=cell_heap (k:=0) hy rfl
   have y1:=cell_heap (k:=1) hy rfl
   have y2:=cell_heap (k:=2) hy rfl
   have ly:=heap_lt0 hy
   clear hy
   have i0:(0:Int)≤(p:Int):=by omega
   have i1:(p:Int)<(on:Int):=by omega
   go_enter Tryz.func156,Tryz.ntmps156
   go_upto_region 2 with fail
   generalize w.alloc (.cells #[.int .i64 10,.int .i64 oa,.int .i64 ob] 198)=W5 at *
   go_wp2_with fail
   refine (HIa.out _ HB1.out).mono ?_
   rintro _ w2 ⟨rfl,b2⟩
   have HB2:=Lib.hid (below_tr HB1.out b2)
   have HY2:=Lib.hid (heap_tr b2 HY.out)
   clear b2 y0 ly
   have hy:=HY2.out
   have y0:=cell_heap (k:=0) hy rfl
   have ly:=heap_lt0 hy
   clear hy
   go_wp2_with fail
   refine (HIb.out _ HB2.out).mono ?_
   rintro _ w3 ⟨rfl,b3⟩
   have HB3:=Lib.hid (below_tr HB2.out b3)
   have HY3:=Lib.hid (heap_tr b3 HY2.out)
   clear b3 y0 ly
   have hy:=HY3.out
   have y0:=cell_heap (k:=0) hy rfl
   have ly:=heap_lt0 hy
   clear hy
   go_wp2_with fail
   refine (l07Bit_any true _).mono ?_
   rintro _ w' ⟨rfl,rfl⟩
   go_wp2_with fail
   go_ret2
   refine ⟨ret_pair ?_ ?_,HB3.out⟩
   ·rw [HE2.out] <;> rfl
   ·omega
  ·have dc:(va==vb)=false:=by simp [hc]
   rw [if_neg hc] at HE2
   clear hc
   have HB1:=Lib.hid (below_new (Below.refl w.heap.size w) (.cells #[.int .i64 10,.int .i64 oa,.int .i64 ob] 198))
   have hy:=heap_new w (.cells #[.int .i64 10,.int .i64 oa,.int .i64 ob] 198)
   have HY:=Lib.hid hy
   have y0:=cell_heap (k:=0) hy rfl
   have y1:=cell_heap (k:=1) hy rfl
   have y2:=cell_heap (k:=2) hy rfl
   have ly:=heap_lt0 hy
   clear hy
   have i0:(0:Int)≤(p:Int):=by omega
   have i1:(p:Int)<(on:Int):=by omega
   go_enter Tryz.func156,Tryz.ntmps156
   go_upto_region 2 with fail
   generalize w.alloc (.cells #[.int .i64 10,.int .i64 oa,.int .i64 ob] 198)=W5 at *
   go_wp2_with fail
   refine (HIa.out _ HB1.out).mono ?_
   rintro _ w2 ⟨rfl,b2⟩
   have HB2:=Lib.hid (below_tr HB1.out b2)
   have HY2:=Lib.hid (heap_tr b2 HY.out)
   clear b2 y0 ly
   have hy:=HY2.out
   have y0:=cell_heap (k:=0) hy rfl
   have ly:=heap_lt0 hy
   clear hy
   go_wp2_with fail
   refine (HIb.out _ HB2.out).mono ?_
   rintro _ w3 ⟨rfl,b3⟩
   have HB3:=Lib.hid (below_tr HB2.out b3)
   have HY3:=Lib.hid (heap_tr b3 HY2.out)
   clear b3 y0 ly
   have hy:=HY3.out
   have y0:=cell_heap (k:=0) hy rfl
   have ly:=heap_lt0 hy
   clear hy
   go_wp2_with fail
   refine (l07Bit_any false _).mono ?_
   rintro _ w' ⟨rfl,rfl⟩
   go_wp2_with fail
   go_ret2
   refine ⟨ret_pair ?_ ?_,HB3.out⟩
   ·rw [HE2.out] <;> rfl
   ·omega
 by_cases k11:kd=11
 ·subst k11
  obtain ⟨V,hV⟩:∃V,evT vals (mod2 wd) (Tr.bi ⟨11,oa,ob⟩ a b)=V:=⟨_,rfl⟩
  have HE2:Hid (V=(if evT vals (mod2 wd) a<evT vals (mod2 wd) b then 1 else 0)):=by show _=_;rw [←hV,evT];simp
  rw [hV]
  clear hV HE
  generalize evT vals (mod2 wd) a=va at *
  generalize a.pre.length=la at *
  generalize evT vals (mod2 wd) b=vb at *
  generalize b.pre.length=lb at *
  generalize mod2 wd=M at *
  obtain ⟨mk,hmk⟩:∃m,M - 1=m:=⟨_,rfl⟩
  rw [hmk] at HAW HIa HIb
  rw [hmk]
  clear hmk
  by_cases hc:va<vb
  ·have dc:decide (va<vb)=true:=by simp [hc]
   rw [if_pos hc] at HE2
   clear hc
   have HB1:=Lib.hid (below_new (Below.refl w.heap.size w) (.cells #[.int .i64 11,.int .i64 oa,.int .i64 ob] 198))
   have hy:=heap_new w (.cells #[.int .i64 11,.int .i64 oa,.int .i64 ob] 198)
   have HY:=Lib.hid hy
   have y0:=cell_heap (k:=0) hy rfl
   have y1:=cell_heap (k:=1) hy rfl
   have y2:=cell_heap (k:=2) hy rfl
   have ly:=heap_lt0 hy
   clear hy
   have i0:(0:Int)≤(p:Int):=by omega
   have i1:(p:Int)<(on:Int):=by omega
   go_enter Tryz.func156,Tryz.ntmps156
   go_upto_region 2 with fail
   generalize w.alloc (.cells #[.int .i64 11,.int .i64 oa,.int .i64 ob] 198)=W5 at *
   go_wp2_with fail
   refine (HIa.out _ HB1.out).mono ?_
   rintro _ w2 ⟨rfl,b2⟩
   have HB2:=Lib.hid (below_tr HB1.out b2)
   have HY2:=Lib.hid (heap_tr b2 HY.out)
   clear b2 y0 ly
   have hy:=HY2.out
   have y0:=cell_heap (k:=0) hy rfl
   have ly:=heap_lt0 hy
   clear hy
   go_wp2_with fail
   refine (HIb.out _ HB2.out).mono ?_
   rintro _ w3 ⟨rfl,b3⟩
   have HB3:=Lib.hid (below_tr HB2.out b3)
   have HY3:=Lib.hid (heap_tr b3 HY2.out)
   clear b3 y0 ly
   have hy:=HY3.out
   have y0:=cell_heap (k:=0) hy rfl
   have ly:=heap_lt0 hy
   clear hy
   go_wp2_with fail
   refine (l07Bit_any true _).mono ?_
   rintro _ w' ⟨rfl,rfl⟩
   go_wp2_with fail
   go_ret2
   refine ⟨ret_pair ?_ ?_,HB3.out⟩
   ·rw [HE2.out] <;> rfl
   ·omega
  ·have dc:decide (va<vb)=false:=by simp;omega
   rw [if_neg hc] at HE2
   clear hc
   have HB1:=Lib.hid (below_new (Below.refl w.heap.size w) (.cells #[.int .i64 11,.int .i64 oa,.int .i64 ob] 198))
   have hy:=heap_new w (.cells #[.int .i64 11,.int .i64 oa,.int .i64 ob] 198)
   have HY:=Lib.hid hy
   have y0:=cell_heap (k:=0) hy rfl
   have y1:=cell_heap (k:=1) hy rfl
   have y2:=cell_heap (k:=2) hy rfl
   have ly:=heap_lt0 hy
   clear hy
   have i0:(0:Int)≤(p:Int):=by omega
   have i1:(p:Int)<(on:Int):=by omega
   go_enter Tryz.func156,Tryz.ntmps156
   go_upto_region 2 with fail
   generalize w.alloc (.cells #[.int .i64 11,.int .i64 oa,.int .i64 ob] 198)=W5 at *
   go_wp2_with fail
   refine (HIa.out _ HB1.out).mono ?_
   rintro _ w2 ⟨rfl,b2⟩
   have HB2:=Lib.hid (below_tr HB1.out b2)
   have HY2:=Lib.hid (heap_tr b2 HY.out)
   clear b2 y0 ly
   have hy:=HY2.out
   have y0:=cell_heap (k:=0) hy rfl
   have ly:=heap_lt0 hy
   clear hy
   go_wp2_with fail
   refine (HIb.out _ HB2.out).mono ?_
   rintro _ w3 ⟨rfl,b3⟩
   have HB3:=Lib.hid (below_tr HB2.out b3)
   have HY3:=Lib.hid (heap_tr b3 HY2.out)
   clear b3 y0 ly
   have hy:=HY3.out
   have y0:=cell_heap (k:=0) hy rfl
   have ly:=heap_lt0 hy
   clear hy
   go_wp2_with fail
   refine (l07Bit_any false _).mono ?_
   rintro _ w' ⟨rfl,rfl⟩
   go_wp2_with fail
   go_ret2
   refine ⟨ret_pair ?_ ?_,HB3.out⟩
   ·rw [HE2.out] <;> rfl
   ·omega
 exfalso
 omega
set_option maxHeartbeats 1000000 in
theorem sl07_te (kd oa ob:Int) (a b c:Tr) (iha:∀(pr po ops:List OpT) (A:Option Addr) (on oc:Nat) (vals:List Int) (VA:Option Addr) (vn vc:Nat) (wd:Int) (w:World),RdC w w.heap.size (celOp ops) (.slice A on oc)→Ints w VA vn vals→ops=pr++(a).pre++po→(a).Ok vn→NoPar (a)→1≤wd→wd≤4→on≤15→vn≤30 →
  Calls Tryz.prog 156 #[.slice A on oc,.int .i64 (pr.length:Int),.slice VA vn vc,.int .i64 (mod2 wd - 1)] w fun e w'=>e = .returned (.tuple #[.int .i64 (evT vals (mod2 wd) (a)),.int .i64 ((pr.length+(a).pre.length:Nat):Int)])∧Below w.heap.size w w') (ihb:∀(pr po ops:List OpT) (A:Option Addr) (on oc:Nat) (vals:List Int) (VA:Option Addr) (vn vc:Nat) (wd:Int) (w:World),RdC w w.heap.size (celOp ops) (.slice A on oc)→Ints w VA vn vals→ops=pr++(b).pre++po→(b).Ok vn→NoPar (b)→1≤wd→wd≤4→on≤15→vn≤30 →
  Calls Tryz.prog 156 #[.slice A on oc,.int .i64 (pr.length:Int),.slice VA vn vc,.int .i64 (mod2 wd - 1)] w fun e w'=>e = .returned (.tuple #[.int .i64 (evT vals (mod2 wd) (b)),.int .i64 ((pr.length+(b).pre.length:Nat):Int)])∧Below w.heap.size w w') (ihc:∀(pr po ops:List OpT) (A:Option Addr) (on oc:Nat) (vals:List Int) (VA:Option Addr) (vn vc:Nat) (wd:Int) (w:World),RdC w w.heap.size (celOp ops) (.slice A on oc)→Ints w VA vn vals→ops=pr++(c).pre++po→(c).Ok vn→NoPar (c)→1≤wd→wd≤4→on≤15→vn≤30 →
  Calls Tryz.prog 156 #[.slice A on oc,.int .i64 (pr.length:Int),.slice VA vn vc,.int .i64 (mod2 wd - 1)] w fun e w'=>e = .returned (.tuple #[.int .i64 (evT vals (mod2 wd) (c)),.int .i64 ((pr.length+(c).pre.length:Nat):Int)])∧Below w.heap.size w w') :
  ∀(pr po ops:List OpT) (A:Option Addr) (on oc:Nat) (vals:List Int) (VA:Option Addr) (vn vc:Nat) (wd:Int) (w:World),RdC w w.heap.size (celOp ops) (.slice A on oc)→Ints w VA vn vals→ops=pr++(Tr.te ⟨kd,oa,ob⟩ a b c).pre++po→(Tr.te ⟨kd,oa,ob⟩ a b c).Ok vn→NoPar (Tr.te ⟨kd,oa,ob⟩ a b c)→1≤wd→wd≤4→on≤15→vn≤30 →
  Calls Tryz.prog 156 #[.slice A on oc,.int .i64 (pr.length:Int),.slice VA vn vc,.int .i64 (mod2 wd - 1)] w fun e w'=>e = .returned (.tuple #[.int .i64 (evT vals (mod2 wd) (Tr.te ⟨kd,oa,ob⟩ a b c)),.int .i64 ((pr.length+(Tr.te ⟨kd,oa,ob⟩ a b c).pre.length:Nat):Int)])∧Below w.heap.size w w':=by
 intro pr po ops A on oc vals VA vn vc wd w hr hv he hok hnp h1 h4 hon hvn
 obtain ⟨hk,hoka,hokb,hokc⟩:=hok
 obtain ⟨hnpa,hnpb,hnpc⟩:=hnp
 have he2:ops=pr++(⟨kd,oa,ob⟩ :: (a.pre++(b.pre++c.pre)))++po:=he
 obtain ⟨⟨b0,f0,hA,hb,c0,c1,c2⟩,hlt⟩:=at_op hr he2
 subst hA
 obtain ⟨p,hp⟩:∃p,pr.length=p:=⟨_,rfl⟩
 rw [hp] at c0 c1 c2 hlt
 rw [hp]
 have HAW:=Lib.hid (andW (wd:=wd) (by omega) h4)
 have h2w:=mod2_two h1
 have HR:=Lib.hid hr
 have HV:=Lib.hid hv
 have HIa:=Lib.hid (fun (v:World) (hb:Below w.heap.size w v)=>(by
  have h:=iha (pr++(⟨kd,oa,ob⟩ :: ([]))) (b.pre++c.pre++po) ops (some ⟨b0,f0,none⟩) on oc vals VA vn vc wd v (HR.out.below hb) (HV.out.below hb) (by rw [he];simp [Tr.pre]) hoka hnpa h1 h4 hon hvn
  rw [show (pr++(⟨kd,oa,ob⟩ :: ([])):List OpT).length=p+1 from by simp [←hp];try omega] at h
  exact h:Calls Tryz.prog 156 #[.slice (some ⟨b0,f0,none⟩) on oc,.int .i64 ((p:Int)+1),.slice VA vn vc,.int .i64 (mod2 wd - 1)] v fun e w'=>e = .returned (.tuple #[.int .i64 (evT vals (mod2 wd) a),.int .i64 ((p:Int)+1+(a.pre.length:Int))])∧Below v.heap.size v w'))
 have HIb:=Lib.hid (fun (v:World) (hb:Below w.heap.size w v)=>(by
  have h:=ihb (pr++(⟨kd,oa,ob⟩ :: (a.pre))) (c.pre++po) ops (some ⟨b0,f0,none⟩) on oc vals VA vn vc wd v (HR.out.below hb) (HV.out.below hb) (by rw [he];simp [Tr.pre]) hokb hnpb h1 h4 hon hvn
  rw [show (pr++(⟨kd,oa,ob⟩ :: (a.pre)):List OpT).length=p+1+a.pre.length from by simp [←hp];try omega] at h
  exact h:Calls Tryz.prog 156 #[.slice (some ⟨b0,f0,none⟩) on oc,.int .i64 ((p:Int)+1+(a.pre.length:Int)),.slice VA vn vc,.int .i64 (mod2 wd - 1)] v fun e w'=>e = .returned (.tuple #[.int .i64 (evT vals (mod2 wd) b),.int .i64 ((p:Int)+1+(a.pre.length:Int)+(b.pre.length:Int))])∧Below v.heap.size v w'))
 have HIc:=Lib.hid (fun (v:World) (hb:Below w.heap.size w v)=>(by
  have h:=ihc (pr++(⟨kd,oa,ob⟩ :: (a.pre++b.pre))) (po) ops (some ⟨b0,f0,none⟩) on oc vals VA vn vc wd v (HR.out.below hb) (HV.out.below hb) (by rw [he];simp [Tr.pre]) hokc hnpc h1 h4 hon hvn
  rw [show (pr++(⟨kd,oa,ob⟩ :: (a.pre++b.pre)):List OpT).length=p+1+a.pre.length+b.pre.length from by simp [←hp];try omega] at h
  exact h:Calls Tryz.prog 156 #[.slice (some ⟨b0,f0,none⟩) on oc,.int .i64 ((p:Int)+1+(a.pre.length:Int)+(b.pre.length:Int)),.slice VA vn vc,.int .i64 (mod2 wd - 1)] v fun e w'=>e = .returned (.tuple #[.int .i64 (evT vals (mod2 wd) c),.int .i64 ((p:Int)+1+(a.pre.length:Int)+(b.pre.length:Int)+(c.pre.length:Int))])∧Below v.heap.size v w'))
 have hva:=evT_in vals h1 h4 a
 have hvb:=evT_in vals h1 h4 b
 have hvc:=evT_in vals h1 h4 c
 have HE:Hid (evT vals (mod2 wd) (Tr.te ⟨kd,oa,ob⟩ a b c)=evT vals (mod2 wd) (Tr.te ⟨kd,oa,ob⟩ a b c)):=rfl
 have hal:p+1+(a.pre.length+b.pre.length+c.pre.length)≤16:=by
  have h5:=hr.opN
  have h6:ops.length=pr.length+(a.pre.length+b.pre.length+c.pre.length+1)+po.length:=by rw [he2];simp;omega
  omega
 have hM4:=mod2_le h1 h4
 have HP:=Lib.hid hp
 simp only at c0 c1 c2 hk
 show Calls _ _ _ _ fun e w'=>e = .returned (.tuple #[.int .i64 _,.int .i64 ((p+(a.pre++(b.pre++c.pre)).length.succ:Nat):Int)])∧_
 rw [show p+(a.pre++(b.pre++c.pre)).length.succ=p+1+(a.pre.length+b.pre.length+c.pre.length) from by simp only [List.length_append,Nat.succ_eq_add_one];omega]
 clear hr hv he he2 hoka hnpa iha hokb hnpb ihb hokc hnpc ihc hp
 subst hk
 obtain ⟨V,hV⟩:∃V,evT vals (mod2 wd) (Tr.te ⟨12,oa,ob⟩ a b c)=V:=⟨_,rfl⟩
 have HE2:Hid (V=(if evT vals (mod2 wd) a≠0 then evT vals (mod2 wd) b else evT vals (mod2 wd) c)):=by show _=_;rw [←hV,evT]
 rw [hV]
 clear hV HE
 generalize evT vals (mod2 wd) a=va at *
 generalize a.pre.length=la at *
 generalize evT vals (mod2 wd) b=vb at *
 generalize b.pre.length=lb at *
 generalize evT vals (mod2 wd) c=vc at *
 generalize c.pre.length=lc at *
 generalize mod2 wd=M at *
 obtain ⟨mk,hmk⟩:∃m,M - 1=m:=⟨_,rfl⟩
 rw [hmk] at HAW HIa HIb HIc
 rw [hmk]
 clear hmk
 by_cases hc:va=0
 ·have dc:(va != 0)=false:=by simp [hc]
  rw [if_neg fun h=>h hc] at HE2
  clear hc
  have HB1:=Lib.hid (below_new (Below.refl w.heap.size w) (.cells #[.int .i64 12,.int .i64 oa,.int .i64 ob] 198))
  have hy:=heap_new w (.cells #[.int .i64 12,.int .i64 oa,.int .i64 ob] 198)
  have HY:=Lib.hid hy
  have y0:=cell_heap (k:=0) hy rfl
  have y1:=cell_heap (k:=1) hy rfl
  have y2:=cell_heap (k:=2) hy rfl
  have ly:=heap_lt0 hy
  clear hy
  have i0:(0:Int)≤(p:Int):=by omega
  have i1:(p:Int)<(on:Int):=by omega
  go_enter Tryz.func156,Tryz.ntmps156
  go_upto_region 2 with fail
  generalize w.alloc (.cells #[.int .i64 12,.int .i64 oa,.int .i64 ob] 198)=W5 at *
  go_wp2_with fail
  refine (HIa.out _ HB1.out).mono ?_
  rintro _ w2 ⟨rfl,b2⟩
  have HB2:=Lib.hid (below_tr HB1.out b2)
  have HY2:=Lib.hid (heap_tr b2 HY.out)
  clear b2 y0 ly
  have hy:=HY2.out
  have y0:=cell_heap (k:=0) hy rfl
  have ly:=heap_lt0 hy
  clear hy
  go_wp2_with fail
  refine (HIb.out _ HB2.out).mono ?_
  rintro _ w3 ⟨rfl,b3⟩
  have HB3:=Lib.hid (below_tr HB2.out b3)
  have HY3:=Lib.hid (heap_tr b3 HY2.out)
  clear b3 y0 ly
  have hy:=HY3.out
  have y0:=cell_heap (k:=0) hy rfl
  have ly:=heap_lt0 hy
  clear hy
  go_wp2_with fail
  refine (HIc.out _ HB3.out).mono ?_
  rintro _ w4 ⟨rfl,b4⟩
  have HB4:=Lib.hid (below_tr HB3.out b4)
  have HY4:=Lib.hid (heap_tr b4 HY3.out)
  clear b4 y0 ly
  have hy:=HY4.out
  have y0:=cell_heap (k:=0) hy rfl
  have ly:=heap_lt0 hy
  clear hy
  go_wp2_with fail
  go_ret2
  refine ⟨ret_pair ?_ ?_,HB4.out⟩
  ·rw [HE2.out]
  ·omega
 ·have dc:(va != 0)=true:=by simp [hc]
  rw [if_pos hc] at HE2
  clear hc
  have HB1:=Lib.hid (below_new (Below.refl w.heap.size w) (.cells #[.int .i64 12,.int .i64 oa,.int .i64 ob] 198))
  have hy:=heap_new w (.cells #[.int .i64 12,.int .i64 oa,.int .i64 ob] 198)
  have HY:=Lib.hid hy
  have y0:=cell_heap (k:=0) hy rfl
  have y1:=cell_heap (k:=1) hy rfl
  have y2:=cell_heap (k:=2) hy rfl
  have ly:=heap_lt0 hy
  clear hy
  have i0:(0:Int)≤(p:Int):=by omega
  have i1:(p:Int)<(on:Int):=by omega
  go_enter Tryz.func156,Tryz.ntmps156
  go_upto_region 2 with fail
  generalize w.alloc (.cells #[.int .i64 12,.int .i64 oa,.int .i64 ob] 198)=W5 at *
  go_wp2_with fail
  refine (HIa.out _ HB1.out).mono ?_
  rintro _ w2 ⟨rfl,b2⟩
  have HB2:=Lib.hid (below_tr HB1.out b2)
  have HY2:=Lib.hid (heap_tr b2 HY.out)
  clear b2 y0 ly
  have hy:=HY2.out
  have y0:=cell_heap (k:=0) hy rfl
  have ly:=heap_lt0 hy
  clear hy
  go_wp2_with fail
  refine (HIb.out _ HB2.out).mono ?_
  rintro _ w3 ⟨rfl,b3⟩
  have HB3:=Lib.hid (below_tr HB2.out b3)
  have HY3:=Lib.hid (heap_tr b3 HY2.out)
  clear b3 y0 ly
  have hy:=HY3.out
  have y0:=cell_heap (k:=0) hy rfl
  have ly:=heap_lt0 hy
  clear hy
  go_wp2_with fail
  refine (HIc.out _ HB3.out).mono ?_
  rintro _ w4 ⟨rfl,b4⟩
  have HB4:=Lib.hid (below_tr HB3.out b4)
  have HY4:=Lib.hid (heap_tr b4 HY3.out)
  clear b4 y0 ly
  have hy:=HY4.out
  have y0:=cell_heap (k:=0) hy rfl
  have ly:=heap_lt0 hy
  clear hy
  go_wp2_with fail
  go_ret2
  refine ⟨ret_pair ?_ ?_,HB4.out⟩
  ·rw [HE2.out]
  ·omega
/-- The value of an expression, and the place behind it. -/
theorem sl07Eval_any:∀t:Tr,∀(pr po ops:List OpT) (A:Option Addr) (on oc:Nat) (vals:List Int) (VA:Option Addr) (vn vc:Nat) (wd:Int) (w:World),RdC w w.heap.size (celOp ops) (.slice A on oc)→Ints w VA vn vals→ops=pr++(t).pre++po→(t).Ok vn→NoPar (t)→1≤wd→wd≤4→on≤15→vn≤30 →
  Calls Tryz.prog 156 #[.slice A on oc,.int .i64 (pr.length:Int),.slice VA vn vc,.int .i64 (mod2 wd - 1)] w fun e w'=>e = .returned (.tuple #[.int .i64 (evT vals (mod2 wd) (t)),.int .i64 ((pr.length+(t).pre.length:Nat):Int)])∧Below w.heap.size w w'
 | .lf ⟨kd,oa,ob⟩=>fun pr po ops A on oc vals VA vn vc wd w hr hv he hok hnp h1 h4 hon hvn=>sl07_lf kd oa ob pr po ops A on oc vals VA vn vc wd w hr hv he hok hnp h1 h4 hon hvn
 | .un ⟨kd,oa,ob⟩ a=>sl07_un kd oa ob a (sl07Eval_any a)
 | .bi ⟨kd,oa,ob⟩ a b=>sl07_bi kd oa ob a b (sl07Eval_any a) (sl07Eval_any b)
 | .te ⟨kd,oa,ob⟩ a b c=>sl07_te kd oa ob a b c (sl07Eval_any a) (sl07Eval_any b) (sl07Eval_any c)
end Go.Proofs.YtlinbdkbbhpdpaaGreat
