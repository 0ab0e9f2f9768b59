/- Values of expressions in the program (printed by mkse2.py). -/
import Derived.Test.YtlinbdkbbhpdpaaGreatSrE1
import Derived.Test.YtlinbdkbbhpdpaaGreatSrG1
namespace Go.Proofs.YtlinbdkbbhpdpaaGreat
set_option maxRecDepth 100000
open Go.RowKit

def eqV (x y:Int):Int:=if x=y then 1 else 0
def ltV (x y:Int):Int:=if x<y then 1 else 0
def muxV (x y z:Int):Int:=if x≠0 then y else z
def lensK (ks:List Tr) (k:Nat):Nat:=((ks.take k).flatMap Tr.pre).length
theorem lensK_zero (ks:List Tr):lensK ks 0=0:=rfl
theorem lensK_succ {ks:List Tr} {k:Nat} (h:k<ks.length):lensK ks (k+1)=lensK ks k+(ks[k]?.getD (.lf OpT.zero)).pre.length:=by
 unfold lensK
 rw [take_snoc (z:=Tr.lf OpT.zero) h,List.flatMap_append,List.length_append,List.flatMap_singleton]
def evK (vals:List Int) (M:Int) (ks:List Tr) (k:Nat):List Int:=(ks.take k).map (evT vals M)
theorem evK_succ {vals:List Int} {M:Int} {ks:List Tr} {k:Nat} (h:k<ks.length):evK vals M ks (k+1)=evK vals M ks k++[evT vals M (ks[k]?.getD (.lf OpT.zero))]:=by
 unfold evK
 rw [take_snoc (z:=Tr.lf OpT.zero) h,List.map_append];rfl
theorem evK_in {vals:List Int} {wd:Int} (h1:1≤wd) (h4:wd≤4) {ks:List Tr} {k j:Nat} (hj:j<k) (hk:k≤ks.length):0≤(evK vals (mod2 wd) ks k)[j]?.getD 0∧(evK vals (mod2 wd) ks k)[j]?.getD 0<mod2 wd:=by
 unfold evK
 have hl:j<((ks.take k).map (evT vals (mod2 wd))).length:=by rw [List.length_map,List.length_take];omega
 rw [List.getElem?_eq_getElem hl,Option.getD_some,List.getElem_map]
 exact evT_in vals h1 h4 _
/-- The contract of the program's exprAt at a place of an expression. -/
def ExAt (P:Program) (f:FuncId) (A:Option Addr) (on oc:Nat) (vals:List Int) (VA:Option Addr) (vn vc:Nat) (wd:Int) (W:World) (p:Nat) (t:Tr):Prop :=
 ∀v:World,Below W.heap.size W v→Calls P f #[.slice A on oc,.int .i64 (p:Int),.slice VA vn vc,.int .i64 wd] v fun e w'=>e = .returned (.tuple #[.int .i64 (evT vals (mod2 wd) t),.int .i64 ((p:Int)+(t.pre.length:Int))])∧Below v.heap.size v w'
set_option maxHeartbeats 2000000 in
theorem exprAt_4 (oa ob:Int) (ks:List Tr) (p:Nat) (ops:List OpT) (A:Option Addr) (on oc:Nat) (vals:List Int) (VA:Option Addr) (vn vc:Nat) (wd:Int) (w:World) (hat:AtOp w ops A on oc p ⟨4,oa,ob⟩) (hv:Ints w VA vn vals) (hks:ks.length=1) (har:arity 4=1) (hlen:∀k,k≤1→p+1+lensK ks k≤16)
  (hkids0:∀k,k<1→ExAt Tryz.prog 213 A on oc vals VA vn vc wd w (p+1+lensK ks k) (ks[k]?.getD (.lf OpT.zero))) (h1:1≤wd) (h4:wd≤4) (hon:on≤15) :
  Calls Tryz.prog 213 #[.slice A on oc,.int .i64 (p:Int),.slice VA vn vc,.int .i64 wd] w fun e w'=>e = .returned (.tuple #[.int .i64 ((-1 - (evK vals (mod2 wd) ks 1)[0]?.getD 0) % mod2 wd),.int .i64 ((p:Int)+1+(lensK ks 1:Int))])∧Below w.heap.size w w':=by
 have HKN:=Lib.hid hks
 have HAR:=Lib.hid har
 have HV:=Lib.hid hv
 have HLEN:=Lib.hid hlen
 have hkids:=Lib.hid hkids0
 clear hks har hv hlen hkids0
 obtain ⟨⟨b0,f0,hA,hb0,c0,c1,c2⟩,hlt⟩:=hat
 subst hA
 have HAT:=hkids
 have HB0:=Lib.hid (below_new (Below.refl w.heap.size w) (.cells #[.int .i64 4,.int .i64 oa,.int .i64 ob] 198))
 have hy:=heap_new w (.cells #[.int .i64 4,.int .i64 oa,.int .i64 ob] 198)
 have HY:=Lib.hid hy
 clear hy
 have i0:(0:Int)≤(p:Int):=by omega
 have i1:(p:Int)<(on:Int):=by omega
 simp only at c0 c1 c2
 go_enter Tryz.func213,Tryz.ntmps213
 go_upto_region 2 with fail
 generalize w.alloc (.cells #[.int .i64 4,.int .i64 oa,.int .i64 ob] 198)=W5 at *
 clear c0 c1 c2
 go_wp2_with fail
 refine (widthMask_any wd _ (by omega) h4).mono ?_
 rintro _ w' ⟨rfl,rfl⟩
 go_wp2_with fail
 go_loopw [1,12,13] (fun a v i wr=>∃(k:Nat) (B:Option Addr) (d:Nat),k≤1∧i = .int .i64 (k:Int)∧a = .int .i64 ((p:Int)+1+(lensK ks k:Int))∧v = .slice B k d∧Sepa W5 wr [.cel (celI (evK vals (mod2 wd) ks k)) (.slice B k d)]) (fun _ _ i _=>1 - (intOf i).toNat)
 case atStart=>exact ⟨0,none,0,by omega,rfl,by rw [lensK_zero];simp,rfl,(Sepa.refl W5).pushNil 3 1⟩
 case round =>
  obtain ⟨k,B,d,hk,rfl,rfl,rfl,hs⟩:=hrel
  have HS:=Lib.hid hs
  have HB:=Lib.hid (below_tr HB0.out hs.bel)
  clear hs
  have hy:=heap_tr HS.out.bel HY.out
  have y0:=cell_heap (k:=0) hy rfl
  have ly:=heap_lt0 hy
  clear hy
  go_wp2_with fail
  refine (opArity_any 4 _).mono ?_
  rw [HAR.out]
  rintro _ w' ⟨rfl,rfl⟩
  by_cases hltk:k<1
  ·have hdk:decide ((k:Int)<(1:Int))=true:=by simp;omega
   have HKL:=Lib.hid (lensK_succ (ks:=ks) (k:=k) (by rw [HKN.out];exact hltk))
   have HEK:=Lib.hid (evK_succ (vals:=vals) (M:=mod2 wd) (ks:=ks) (k:=k) (by rw [HKN.out];exact hltk))
   have HCH:=Lib.hid (HAT.out k hltk _ HB.out)
   have HLN:=HLEN.out k (by omega)
   have HLN1:=HLEN.out (k+1) (by omega)
   rw [HKL.out] at HLN1
   generalize lensK ks k=lk at *
   generalize ks[k]?.getD (.lf OpT.zero)=q at *
   generalize evT vals (mod2 wd) q=qv at *
   generalize q.pre.length=ql at *
   generalize hEv:evK vals (mod2 wd) ks k=ev at *
   have HEV:=Lib.hid hEv
   clear hEv y0 ly
   go_wp2_with fail
   refine (calls_eq HCH.out (show _=(#[.slice (some ⟨b0,f0,none⟩) on oc,.int .i64 ((p:Int)+1+(lk:Int)),.slice VA vn vc,.int .i64 wd]:Array Value) from rfl)).mono ?_
   rintro _ w2 ⟨rfl,b2⟩
   have HS2:=Lib.hid (HS.out.below b2)
   clear b2
   go_wp2_with (at_builtin;refine wpList_sepPush rfl _ _ rfl _ (HS2.out.alloc _) 0 B k d ev qv _ (0,0) rfl rfl rfl (heap_new _ _) (by omega) ?_;intro g9 cap w9 S9 hz9;have HS9:=Lib.hid S9;clear S9 hz9)
   go_roundw
   case rel=>exact ⟨k+1,_,_,by omega,by go_num,by rw [HKL.out];congr 1;omega,rfl,by rw [HEK.out];exact HS9.out⟩
   case measure=>simp [intOf];omega
  ·have hkn:k=1:=by omega
   have hdk:decide ((k:Int)<(1:Int))=false:=by simp;omega
   clear hltk
   subst k
   have hy:=heap_tr HS.out.bel HY.out
   have y0:=cell_heap (k:=0) hy rfl
   have y1:=cell_heap (k:=1) hy rfl
   have y2:=cell_heap (k:=2) hy rfl
   have ly:=heap_lt0 hy
   clear hy
   obtain ⟨bt,ot,hBt,hbt,hct⟩:=(HS.out.ints 0 rfl).2 (by omega)
   subst hBt
   have hx0:=hct 0 (by omega)
   (try rw [Nat.add_zero] at hx0)
   obtain ⟨x0,hX0⟩:∃x,(evK vals (mod2 wd) ks 1)[0]?.getD 0=x:=⟨_,rfl⟩
   rw [hX0] at hx0
   have HX0:=Lib.hid hX0
   clear hct hX0
   have hr0:=evK_in (vals:=vals) h1 h4 (ks:=ks) (k:=1) (j:=0) (by omega) (by rw [HKN.out];exact Nat.le_refl _)
   rw [HX0.out] at hr0
   have h16:=mod2_le h1 h4
   have h2M:=mod2_two h1
   have HAW:=Lib.hid (andW (wd:=wd) (by omega) h4)
   generalize hM:mod2 wd=M at *
   obtain ⟨mk,hmk⟩:∃m,M - 1=m:=⟨_,rfl⟩
   have HM:=Lib.hid hM
   clear hM
   rw [hmk] at HAW
   (try rw [hmk])
   have HMK:=Lib.hid hmk
   clear hmk
   go_wp2_with fail
   go_ret2
   refine ⟨ret_pair ?_ rfl,HB.out⟩
   rw [HM.out,HX0.out,HAW.out,xorN hr0.1 (by omega)]
set_option maxHeartbeats 2000000 in
theorem exprAt_5 (oa ob:Int) (ks:List Tr) (p:Nat) (ops:List OpT) (A:Option Addr) (on oc:Nat) (vals:List Int) (VA:Option Addr) (vn vc:Nat) (wd:Int) (w:World) (hat:AtOp w ops A on oc p ⟨5,oa,ob⟩) (hv:Ints w VA vn vals) (hks:ks.length=2) (har:arity 5=2) (hlen:∀k,k≤2→p+1+lensK ks k≤16)
  (hkids0:∀k,k<2→ExAt Tryz.prog 213 A on oc vals VA vn vc wd w (p+1+lensK ks k) (ks[k]?.getD (.lf OpT.zero))) (h1:1≤wd) (h4:wd≤4) (hon:on≤15) :
  Calls Tryz.prog 213 #[.slice A on oc,.int .i64 (p:Int),.slice VA vn vc,.int .i64 wd] w fun e w'=>e = .returned (.tuple #[.int .i64 (bits .and .i64 ((evK vals (mod2 wd) ks 2)[0]?.getD 0) ((evK vals (mod2 wd) ks 2)[1]?.getD 0)),.int .i64 ((p:Int)+1+(lensK ks 2:Int))])∧Below w.heap.size w w':=by
 have HKN:=Lib.hid hks
 have HAR:=Lib.hid har
 have HV:=Lib.hid hv
 have HLEN:=Lib.hid hlen
 have hkids:=Lib.hid hkids0
 clear hks har hv hlen hkids0
 obtain ⟨⟨b0,f0,hA,hb0,c0,c1,c2⟩,hlt⟩:=hat
 subst hA
 have HAT:=hkids
 have HB0:=Lib.hid (below_new (Below.refl w.heap.size w) (.cells #[.int .i64 5,.int .i64 oa,.int .i64 ob] 198))
 have hy:=heap_new w (.cells #[.int .i64 5,.int .i64 oa,.int .i64 ob] 198)
 have HY:=Lib.hid hy
 clear hy
 have i0:(0:Int)≤(p:Int):=by omega
 have i1:(p:Int)<(on:Int):=by omega
 simp only at c0 c1 c2
 go_enter Tryz.func213,Tryz.ntmps213
 go_upto_region 2 with fail
 generalize w.alloc (.cells #[.int .i64 5,.int .i64 oa,.int .i64 ob] 198)=W5 at *
 clear c0 c1 c2
 go_wp2_with fail
 refine (widthMask_any wd _ (by omega) h4).mono ?_
 rintro _ w' ⟨rfl,rfl⟩
 go_wp2_with fail
 go_loopw [1,12,13] (fun a v i wr=>∃(k:Nat) (B:Option Addr) (d:Nat),k≤2∧i = .int .i64 (k:Int)∧a = .int .i64 ((p:Int)+1+(lensK ks k:Int))∧v = .slice B k d∧Sepa W5 wr [.cel (celI (evK vals (mod2 wd) ks k)) (.slice B k d)]) (fun _ _ i _=>2 - (intOf i).toNat)
 case atStart=>exact ⟨0,none,0,by omega,rfl,by rw [lensK_zero];simp,rfl,(Sepa.refl W5).pushNil 3 1⟩
 case round =>
  obtain ⟨k,B,d,hk,rfl,rfl,rfl,hs⟩:=hrel
  have HS:=Lib.hid hs
  have HB:=Lib.hid (below_tr HB0.out hs.bel)
  clear hs
  have hy:=heap_tr HS.out.bel HY.out
  have y0:=cell_heap (k:=0) hy rfl
  have ly:=heap_lt0 hy
  clear hy
  go_wp2_with fail
  refine (opArity_any 5 _).mono ?_
  rw [HAR.out]
  rintro _ w' ⟨rfl,rfl⟩
  by_cases hltk:k<2
  ·have hdk:decide ((k:Int)<(2:Int))=true:=by simp;omega
   have HKL:=Lib.hid (lensK_succ (ks:=ks) (k:=k) (by rw [HKN.out];exact hltk))
   have HEK:=Lib.hid (evK_succ (vals:=vals) (M:=mod2 wd) (ks:=ks) (k:=k) (by rw [HKN.out];exact hltk))
   have HCH:=Lib.hid (HAT.out k hltk _ HB.out)
   have HLN:=HLEN.out k (by omega)
   have HLN1:=HLEN.out (k+1) (by omega)
   rw [HKL.out] at HLN1
   generalize lensK ks k=lk at *
   generalize ks[k]?.getD (.lf OpT.zero)=q at *
   generalize evT vals (mod2 wd) q=qv at *
   generalize q.pre.length=ql at *
   generalize hEv:evK vals (mod2 wd) ks k=ev at *
   have HEV:=Lib.hid hEv
   clear hEv y0 ly
   go_wp2_with fail
   refine (calls_eq HCH.out (show _=(#[.slice (some ⟨b0,f0,none⟩) on oc,.int .i64 ((p:Int)+1+(lk:Int)),.slice VA vn vc,.int .i64 wd]:Array Value) from rfl)).mono ?_
   rintro _ w2 ⟨rfl,b2⟩
   have HS2:=Lib.hid (HS.out.below b2)
   clear b2
   go_wp2_with (at_builtin;refine wpList_sepPush rfl _ _ rfl _ (HS2.out.alloc _) 0 B k d ev qv _ (0,0) rfl rfl rfl (heap_new _ _) (by omega) ?_;intro g9 cap w9 S9 hz9;have HS9:=Lib.hid S9;clear S9 hz9)
   go_roundw
   case rel=>exact ⟨k+1,_,_,by omega,by go_num,by rw [HKL.out];congr 1;omega,rfl,by rw [HEK.out];exact HS9.out⟩
   case measure=>simp [intOf];omega
  ·have hkn:k=2:=by omega
   have hdk:decide ((k:Int)<(2:Int))=false:=by simp;omega
   clear hltk
   subst k
   have hy:=heap_tr HS.out.bel HY.out
   have y0:=cell_heap (k:=0) hy rfl
   have y1:=cell_heap (k:=1) hy rfl
   have y2:=cell_heap (k:=2) hy rfl
   have ly:=heap_lt0 hy
   clear hy
   obtain ⟨bt,ot,hBt,hbt,hct⟩:=(HS.out.ints 0 rfl).2 (by omega)
   subst hBt
   have hx0:=hct 0 (by omega)
   (try rw [Nat.add_zero] at hx0)
   obtain ⟨x0,hX0⟩:∃x,(evK vals (mod2 wd) ks 2)[0]?.getD 0=x:=⟨_,rfl⟩
   rw [hX0] at hx0
   have hx1:=hct 1 (by omega)
   (try rw [Nat.add_zero] at hx1)
   obtain ⟨x1,hX1⟩:∃x,(evK vals (mod2 wd) ks 2)[1]?.getD 0=x:=⟨_,rfl⟩
   rw [hX1] at hx1
   have HX0:=Lib.hid hX0
   have HX1:=Lib.hid hX1
   clear hct hX0 hX1
   have hr0:=evK_in (vals:=vals) h1 h4 (ks:=ks) (k:=2) (j:=0) (by omega) (by rw [HKN.out];exact Nat.le_refl _)
   rw [HX0.out] at hr0
   have hr1:=evK_in (vals:=vals) h1 h4 (ks:=ks) (k:=2) (j:=1) (by omega) (by rw [HKN.out];exact Nat.le_refl _)
   rw [HX1.out] at hr1
   have h16:=mod2_le h1 h4
   have h2M:=mod2_two h1
   have HAW:=Lib.hid (andW (wd:=wd) (by omega) h4)
   have HOP:Hid (0≤bits .and .i64 x0 x1∧bits .and .i64 x0 x1<mod2 wd):=and_in (w:=wd.toNat) (by omega) hr0 hr1
   generalize hM:mod2 wd=M at *
   obtain ⟨mk,hmk⟩:∃m,M - 1=m:=⟨_,rfl⟩
   have HM:=Lib.hid hM
   clear hM
   rw [hmk] at HAW
   (try rw [hmk])
   have HMK:=Lib.hid hmk
   clear hmk
   go_wp2_with fail
   have hsub:=sub_ne wr
   have hsc:=sub_cell wr
   refine wp_region_below wr (by kernel_rfl) (by kernel_rfl) (Below.refl _ _) ?_
   repeat (go_big_quiet_step (fail))
   refine wpQuiet_nil ?_
   rintro _ ⟨⟨w5,hD⟩,rfl⟩
   clear hsub hsc
   clear y0 y1 y2 ly
   have HB2:=Lib.hid (below_tr HB.out hD)
   clear hD
   go_wp2_with fail
   go_ret2
   refine ⟨ret_pair ?_ rfl,HB2.out⟩
   rw [HM.out,HX0.out,HX1.out,HAW.out,Int.emod_eq_of_lt HOP.out.1 HOP.out.2]
set_option maxHeartbeats 2000000 in
theorem exprAt_6 (oa ob:Int) (ks:List Tr) (p:Nat) (ops:List OpT) (A:Option Addr) (on oc:Nat) (vals:List Int) (VA:Option Addr) (vn vc:Nat) (wd:Int) (w:World) (hat:AtOp w ops A on oc p ⟨6,oa,ob⟩) (hv:Ints w VA vn vals) (hks:ks.length=2) (har:arity 6=2) (hlen:∀k,k≤2→p+1+lensK ks k≤16)
  (hkids0:∀k,k<2→ExAt Tryz.prog 213 A on oc vals VA vn vc wd w (p+1+lensK ks k) (ks[k]?.getD (.lf OpT.zero))) (h1:1≤wd) (h4:wd≤4) (hon:on≤15) :
  Calls Tryz.prog 213 #[.slice A on oc,.int .i64 (p:Int),.slice VA vn vc,.int .i64 wd] w fun e w'=>e = .returned (.tuple #[.int .i64 (bits .or .i64 ((evK vals (mod2 wd) ks 2)[0]?.getD 0) ((evK vals (mod2 wd) ks 2)[1]?.getD 0)),.int .i64 ((p:Int)+1+(lensK ks 2:Int))])∧Below w.heap.size w w':=by
 have HKN:=Lib.hid hks
 have HAR:=Lib.hid har
 have HV:=Lib.hid hv
 have HLEN:=Lib.hid hlen
 have hkids:=Lib.hid hkids0
 clear hks har hv hlen hkids0
 obtain ⟨⟨b0,f0,hA,hb0,c0,c1,c2⟩,hlt⟩:=hat
 subst hA
 have HAT:=hkids
 have HB0:=Lib.hid (below_new (Below.refl w.heap.size w) (.cells #[.int .i64 6,.int .i64 oa,.int .i64 ob] 198))
 have hy:=heap_new w (.cells #[.int .i64 6,.int .i64 oa,.int .i64 ob] 198)
 have HY:=Lib.hid hy
 clear hy
 have i0:(0:Int)≤(p:Int):=by omega
 have i1:(p:Int)<(on:Int):=by omega
 simp only at c0 c1 c2
 go_enter Tryz.func213,Tryz.ntmps213
 go_upto_region 2 with fail
 generalize w.alloc (.cells #[.int .i64 6,.int .i64 oa,.int .i64 ob] 198)=W5 at *
 clear c0 c1 c2
 go_wp2_with fail
 refine (widthMask_any wd _ (by omega) h4).mono ?_
 rintro _ w' ⟨rfl,rfl⟩
 go_wp2_with fail
 go_loopw [1,12,13] (fun a v i wr=>∃(k:Nat) (B:Option Addr) (d:Nat),k≤2∧i = .int .i64 (k:Int)∧a = .int .i64 ((p:Int)+1+(lensK ks k:Int))∧v = .slice B k d∧Sepa W5 wr [.cel (celI (evK vals (mod2 wd) ks k)) (.slice B k d)]) (fun _ _ i _=>2 - (intOf i).toNat)
 case atStart=>exact ⟨0,none,0,by omega,rfl,by rw [lensK_zero];simp,rfl,(Sepa.refl W5).pushNil 3 1⟩
 case round =>
  obtain ⟨k,B,d,hk,rfl,rfl,rfl,hs⟩:=hrel
  have HS:=Lib.hid hs
  have HB:=Lib.hid (below_tr HB0.out hs.bel)
  clear hs
  have hy:=heap_tr HS.out.bel HY.out
  have y0:=cell_heap (k:=0) hy rfl
  have ly:=heap_lt0 hy
  clear hy
  go_wp2_with fail
  refine (opArity_any 6 _).mono ?_
  rw [HAR.out]
  rintro _ w' ⟨rfl,rfl⟩
  by_cases hltk:k<2
  ·have hdk:decide ((k:Int)<(2:Int))=true:=by simp;omega
   have HKL:=Lib.hid (lensK_succ (ks:=ks) (k:=k) (by rw [HKN.out];exact hltk))
   have HEK:=Lib.hid (evK_succ (vals:=vals) (M:=mod2 wd) (ks:=ks) (k:=k) (by rw [HKN.out];exact hltk))
   have HCH:=Lib.hid (HAT.out k hltk _ HB.out)
   have HLN:=HLEN.out k (by omega)
   have HLN1:=HLEN.out (k+1) (by omega)
   rw [HKL.out] at HLN1
   generalize lensK ks k=lk at *
   generalize ks[k]?.getD (.lf OpT.zero)=q at *
   generalize evT vals (mod2 wd) q=qv at *
   generalize q.pre.length=ql at *
   generalize hEv:evK vals (mod2 wd) ks k=ev at *
   have HEV:=Lib.hid hEv
   clear hEv y0 ly
   go_wp2_with fail
   refine (calls_eq HCH.out (show _=(#[.slice (some ⟨b0,f0,none⟩) on oc,.int .i64 ((p:Int)+1+(lk:Int)),.slice VA vn vc,.int .i64 wd]:Array Value) from rfl)).mono ?_
   rintro _ w2 ⟨rfl,b2⟩
   have HS2:=Lib.hid (HS.out.below b2)
   clear b2
   go_wp2_with (at_builtin;refine wpList_sepPush rfl _ _ rfl _ (HS2.out.alloc _) 0 B k d ev qv _ (0,0) rfl rfl rfl (heap_new _ _) (by omega) ?_;intro g9 cap w9 S9 hz9;have HS9:=Lib.hid S9;clear S9 hz9)
   go_roundw
   case rel=>exact ⟨k+1,_,_,by omega,by go_num,by rw [HKL.out];congr 1;omega,rfl,by rw [HEK.out];exact HS9.out⟩
   case measure=>simp [intOf];omega
  ·have hkn:k=2:=by omega
   have hdk:decide ((k:Int)<(2:Int))=false:=by simp;omega
   clear hltk
   subst k
   have hy:=heap_tr HS.out.bel HY.out
   have y0:=cell_heap (k:=0) hy rfl
   have y1:=cell_heap (k:=1) hy rfl
   have y2:=cell_heap (k:=2) hy rfl
   have ly:=heap_lt0 hy
   clear hy
   obtain ⟨bt,ot,hBt,hbt,hct⟩:=(HS.out.ints 0 rfl).2 (by omega)
   subst hBt
   have hx0:=hct 0 (by omega)
   (try rw [Nat.add_zero] at hx0)
   obtain ⟨x0,hX0⟩:∃x,(evK vals (mod2 wd) ks 2)[0]?.getD 0=x:=⟨_,rfl⟩
   rw [hX0] at hx0
   have hx1:=hct 1 (by omega)
   (try rw [Nat.add_zero] at hx1)
   obtain ⟨x1,hX1⟩:∃x,(evK vals (mod2 wd) ks 2)[1]?.getD 0=x:=⟨_,rfl⟩
   rw [hX1] at hx1
   have HX0:=Lib.hid hX0
   have HX1:=Lib.hid hX1
   clear hct hX0 hX1
   have hr0:=evK_in (vals:=vals) h1 h4 (ks:=ks) (k:=2) (j:=0) (by omega) (by rw [HKN.out];exact Nat.le_refl _)
   rw [HX0.out] at hr0
   have hr1:=evK_in (vals:=vals) h1 h4 (ks:=ks) (k:=2) (j:=1) (by omega) (by rw [HKN.out];exact Nat.le_refl _)
   rw [HX1.out] at hr1
   have h16:=mod2_le h1 h4
   have h2M:=mod2_two h1
   have HAW:=Lib.hid (andW (wd:=wd) (by omega) h4)
   have HOP:Hid (0≤bits .or .i64 x0 x1∧bits .or .i64 x0 x1<mod2 wd):=or_in (w:=wd.toNat) (by omega) hr0 hr1
   generalize hM:mod2 wd=M at *
   obtain ⟨mk,hmk⟩:∃m,M - 1=m:=⟨_,rfl⟩
   have HM:=Lib.hid hM
   clear hM
   rw [hmk] at HAW
   (try rw [hmk])
   have HMK:=Lib.hid hmk
   clear hmk
   go_wp2_with fail
   have hsub:=sub_ne wr
   have hsc:=sub_cell wr
   refine wp_region_below wr (by kernel_rfl) (by kernel_rfl) (Below.refl _ _) ?_
   repeat (go_big_quiet_step (fail))
   refine wpQuiet_nil ?_
   rintro _ ⟨⟨w5,hD⟩,rfl⟩
   clear hsub hsc
   clear y0 y1 y2 ly
   have HB2:=Lib.hid (below_tr HB.out hD)
   clear hD
   go_wp2_with fail
   go_ret2
   refine ⟨ret_pair ?_ rfl,HB2.out⟩
   rw [HM.out,HX0.out,HX1.out,HAW.out,Int.emod_eq_of_lt HOP.out.1 HOP.out.2]
set_option maxHeartbeats 2000000 in
theorem exprAt_7 (oa ob:Int) (ks:List Tr) (p:Nat) (ops:List OpT) (A:Option Addr) (on oc:Nat) (vals:List Int) (VA:Option Addr) (vn vc:Nat) (wd:Int) (w:World) (hat:AtOp w ops A on oc p ⟨7,oa,ob⟩) (hv:Ints w VA vn vals) (hks:ks.length=2) (har:arity 7=2) (hlen:∀k,k≤2→p+1+lensK ks k≤16)
  (hkids0:∀k,k<2→ExAt Tryz.prog 213 A on oc vals VA vn vc wd w (p+1+lensK ks k) (ks[k]?.getD (.lf OpT.zero))) (h1:1≤wd) (h4:wd≤4) (hon:on≤15) :
  Calls Tryz.prog 213 #[.slice A on oc,.int .i64 (p:Int),.slice VA vn vc,.int .i64 wd] w fun e w'=>e = .returned (.tuple #[.int .i64 (bits .xor .i64 ((evK vals (mod2 wd) ks 2)[0]?.getD 0) ((evK vals (mod2 wd) ks 2)[1]?.getD 0)),.int .i64 ((p:Int)+1+(lensK ks 2:Int))])∧Below w.heap.size w w':=by
 have HKN:=Lib.hid hks
 have HAR:=Lib.hid har
 have HV:=Lib.hid hv
 have HLEN:=Lib.hid hlen
 have hkids:=Lib.hid hkids0
 clear hks har hv hlen hkids0
 obtain ⟨⟨b0,f0,hA,hb0,c0,c1,c2⟩,hlt⟩:=hat
 subst hA
 have HAT:=hkids
 have HB0:=Lib.hid (below_new (Below.refl w.heap.size w) (.cells #[.int .i64 7,.int .i64 oa,.int .i64 ob] 198))
 have hy:=heap_new w (.cells #[.int .i64 7,.int .i64 oa,.int .i64 ob] 198)
 have HY:=Lib.hid hy
 clear hy
 have i0:(0:Int)≤(p:Int):=by omega
 have i1:(p:Int)<(on:Int):=by omega
 simp only at c0 c1 c2
 go_enter Tryz.func213,Tryz.ntmps213
 go_upto_region 2 with fail
 generalize w.alloc (.cells #[.int .i64 7,.int .i64 oa,.int .i64 ob] 198)=W5 at *
 clear c0 c1 c2
 go_wp2_with fail
 refine (widthMask_any wd _ (by omega) h4).mono ?_
 rintro _ w' ⟨rfl,rfl⟩
 go_wp2_with fail
 go_loopw [1,12,13] (fun a v i wr=>∃(k:Nat) (B:Option Addr) (d:Nat),k≤2∧i = .int .i64 (k:Int)∧a = .int .i64 ((p:Int)+1+(lensK ks k:Int))∧v = .slice B k d∧Sepa W5 wr [.cel (celI (evK vals (mod2 wd) ks k)) (.slice B k d)]) (fun _ _ i _=>2 - (intOf i).toNat)
 case atStart=>exact ⟨0,none,0,by omega,rfl,by rw [lensK_zero];simp,rfl,(Sepa.refl W5).pushNil 3 1⟩
 case round =>
  obtain ⟨k,B,d,hk,rfl,rfl,rfl,hs⟩:=hrel
  have HS:=Lib.hid hs
  have HB:=Lib.hid (below_tr HB0.out hs.bel)
  clear hs
  have hy:=heap_tr HS.out.bel HY.out
  have y0:=cell_heap (k:=0) hy rfl
  have ly:=heap_lt0 hy
  clear hy
  go_wp2_with fail
  refine (opArity_any 7 _).mono ?_
  rw [HAR.out]
  rintro _ w' ⟨rfl,rfl⟩
  by_cases hltk:k<2
  ·have hdk:decide ((k:Int)<(2:Int))=true:=by simp;omega
   have HKL:=Lib.hid (lensK_succ (ks:=ks) (k:=k) (by rw [HKN.out];exact hltk))
   have HEK:=Lib.hid (evK_succ (vals:=vals) (M:=mod2 wd) (ks:=ks) (k:=k) (by rw [HKN.out];exact hltk))
   have HCH:=Lib.hid (HAT.out k hltk _ HB.out)
   have HLN:=HLEN.out k (by omega)
   have HLN1:=HLEN.out (k+1) (by omega)
   rw [HKL.out] at HLN1
   generalize lensK ks k=lk at *
   generalize ks[k]?.getD (.lf OpT.zero)=q at *
   generalize evT vals (mod2 wd) q=qv at *
   generalize q.pre.length=ql at *
   generalize hEv:evK vals (mod2 wd) ks k=ev at *
   have HEV:=Lib.hid hEv
   clear hEv y0 ly
   go_wp2_with fail
   refine (calls_eq HCH.out (show _=(#[.slice (some ⟨b0,f0,none⟩) on oc,.int .i64 ((p:Int)+1+(lk:Int)),.slice VA vn vc,.int .i64 wd]:Array Value) from rfl)).mono ?_
   rintro _ w2 ⟨rfl,b2⟩
   have HS2:=Lib.hid (HS.out.below b2)
   clear b2
   go_wp2_with (at_builtin;refine wpList_sepPush rfl _ _ rfl _ (HS2.out.alloc _) 0 B k d ev qv _ (0,0) rfl rfl rfl (heap_new _ _) (by omega) ?_;intro g9 cap w9 S9 hz9;have HS9:=Lib.hid S9;clear S9 hz9)
   go_roundw
   case rel=>exact ⟨k+1,_,_,by omega,by go_num,by rw [HKL.out];congr 1;omega,rfl,by rw [HEK.out];exact HS9.out⟩
   case measure=>simp [intOf];omega
  ·have hkn:k=2:=by omega
   have hdk:decide ((k:Int)<(2:Int))=false:=by simp;omega
   clear hltk
   subst k
   have hy:=heap_tr HS.out.bel HY.out
   have y0:=cell_heap (k:=0) hy rfl
   have y1:=cell_heap (k:=1) hy rfl
   have y2:=cell_heap (k:=2) hy rfl
   have ly:=heap_lt0 hy
   clear hy
   obtain ⟨bt,ot,hBt,hbt,hct⟩:=(HS.out.ints 0 rfl).2 (by omega)
   subst hBt
   have hx0:=hct 0 (by omega)
   (try rw [Nat.add_zero] at hx0)
   obtain ⟨x0,hX0⟩:∃x,(evK vals (mod2 wd) ks 2)[0]?.getD 0=x:=⟨_,rfl⟩
   rw [hX0] at hx0
   have hx1:=hct 1 (by omega)
   (try rw [Nat.add_zero] at hx1)
   obtain ⟨x1,hX1⟩:∃x,(evK vals (mod2 wd) ks 2)[1]?.getD 0=x:=⟨_,rfl⟩
   rw [hX1] at hx1
   have HX0:=Lib.hid hX0
   have HX1:=Lib.hid hX1
   clear hct hX0 hX1
   have hr0:=evK_in (vals:=vals) h1 h4 (ks:=ks) (k:=2) (j:=0) (by omega) (by rw [HKN.out];exact Nat.le_refl _)
   rw [HX0.out] at hr0
   have hr1:=evK_in (vals:=vals) h1 h4 (ks:=ks) (k:=2) (j:=1) (by omega) (by rw [HKN.out];exact Nat.le_refl _)
   rw [HX1.out] at hr1
   have h16:=mod2_le h1 h4
   have h2M:=mod2_two h1
   have HAW:=Lib.hid (andW (wd:=wd) (by omega) h4)
   have HOP:Hid (0≤bits .xor .i64 x0 x1∧bits .xor .i64 x0 x1<mod2 wd):=xor_in (w:=wd.toNat) (by omega) hr0 hr1
   generalize hM:mod2 wd=M at *
   obtain ⟨mk,hmk⟩:∃m,M - 1=m:=⟨_,rfl⟩
   have HM:=Lib.hid hM
   clear hM
   rw [hmk] at HAW
   (try rw [hmk])
   have HMK:=Lib.hid hmk
   clear hmk
   go_wp2_with fail
   have hsub:=sub_ne wr
   have hsc:=sub_cell wr
   refine wp_region_below wr (by kernel_rfl) (by kernel_rfl) (Below.refl _ _) ?_
   repeat (go_big_quiet_step (fail))
   refine wpQuiet_nil ?_
   rintro _ ⟨⟨w5,hD⟩,rfl⟩
   clear hsub hsc
   clear y0 y1 y2 ly
   have HB2:=Lib.hid (below_tr HB.out hD)
   clear hD
   go_wp2_with fail
   go_ret2
   refine ⟨ret_pair ?_ rfl,HB2.out⟩
   rw [HM.out,HX0.out,HX1.out,HAW.out,Int.emod_eq_of_lt HOP.out.1 HOP.out.2]
set_option maxHeartbeats 2000000 in
theorem exprAt_8 (oa ob:Int) (ks:List Tr) (p:Nat) (ops:List OpT) (A:Option Addr) (on oc:Nat) (vals:List Int) (VA:Option Addr) (vn vc:Nat) (wd:Int) (w:World) (hat:AtOp w ops A on oc p ⟨8,oa,ob⟩) (hv:Ints w VA vn vals) (hks:ks.length=2) (har:arity 8=2) (hlen:∀k,k≤2→p+1+lensK ks k≤16)
  (hkids0:∀k,k<2→ExAt Tryz.prog 213 A on oc vals VA vn vc wd w (p+1+lensK ks k) (ks[k]?.getD (.lf OpT.zero))) (h1:1≤wd) (h4:wd≤4) (hon:on≤15) :
  Calls Tryz.prog 213 #[.slice A on oc,.int .i64 (p:Int),.slice VA vn vc,.int .i64 wd] w fun e w'=>e = .returned (.tuple #[.int .i64 (((evK vals (mod2 wd) ks 2)[0]?.getD 0+(evK vals (mod2 wd) ks 2)[1]?.getD 0) % mod2 wd),.int .i64 ((p:Int)+1+(lensK ks 2:Int))])∧Below w.heap.size w w':=by
 have HKN:=Lib.hid hks
 have HAR:=Lib.hid har
 have HV:=Lib.hid hv
 have HLEN:=Lib.hid hlen
 have hkids:=Lib.hid hkids0
 clear hks har hv hlen hkids0
 obtain ⟨⟨b0,f0,hA,hb0,c0,c1,c2⟩,hlt⟩:=hat
 subst hA
 have HAT:=hkids
 have HB0:=Lib.hid (below_new (Below.refl w.heap.size w) (.cells #[.int .i64 8,.int .i64 oa,.int .i64 ob] 198))
 have hy:=heap_new w (.cells #[.int .i64 8,.int .i64 oa,.int .i64 ob] 198)
 have HY:=Lib.hid hy
 clear hy
 have i0:(0:Int)≤(p:Int):=by omega
 have i1:(p:Int)<(on:Int):=by omega
 simp only at c0 c1 c2
 go_enter Tryz.func213,Tryz.ntmps213
 go_upto_region 2 with fail
 generalize w.alloc (.cells #[.int .i64 8,.int .i64 oa,.int .i64 ob] 198)=W5 at *
 clear c0 c1 c2
 go_wp2_with fail
 refine (widthMask_any wd _ (by omega) h4).mono ?_
 rintro _ w' ⟨rfl,rfl⟩
 go_wp2_with fail
 go_loopw [1,12,13] (fun a v i wr=>∃(k:Nat) (B:Option Addr) (d:Nat),k≤2∧i = .int .i64 (k:Int)∧a = .int .i64 ((p:Int)+1+(lensK ks k:Int))∧v = .slice B k d∧Sepa W5 wr [.cel (celI (evK vals (mod2 wd) ks k)) (.slice B k d)]) (fun _ _ i _=>2 - (intOf i).toNat)
 case atStart=>exact ⟨0,none,0,by omega,rfl,by rw [lensK_zero];simp,rfl,(Sepa.refl W5).pushNil 3 1⟩
 case round =>
  obtain ⟨k,B,d,hk,rfl,rfl,rfl,hs⟩:=hrel
  have HS:=Lib.hid hs
  have HB:=Lib.hid (below_tr HB0.out hs.bel)
  clear hs
  have hy:=heap_tr HS.out.bel HY.out
  have y0:=cell_heap (k:=0) hy rfl
  have ly:=heap_lt0 hy
  clear hy
  go_wp2_with fail
  refine (opArity_any 8 _).mono ?_
  rw [HAR.out]
  rintro _ w' ⟨rfl,rfl⟩
  by_cases hltk:k<2
  ·have hdk:decide ((k:Int)<(2:Int))=true:=by simp;omega
   have HKL:=Lib.hid (lensK_succ (ks:=ks) (k:=k) (by rw [HKN.out];exact hltk))
   have HEK:=Lib.hid (evK_succ (vals:=vals) (M:=mod2 wd) (ks:=ks) (k:=k) (by rw [HKN.out];exact hltk))
   have HCH:=Lib.hid (HAT.out k hltk _ HB.out)
   have HLN:=HLEN.out k (by omega)
   have HLN1:=HLEN.out (k+1) (by omega)
   rw [HKL.out] at HLN1
   generalize lensK ks k=lk at *
   generalize ks[k]?.getD (.lf OpT.zero)=q at *
   generalize evT vals (mod2 wd) q=qv at *
   generalize q.pre.length=ql at *
   generalize hEv:evK vals (mod2 wd) ks k=ev at *
   have HEV:=Lib.hid hEv
   clear hEv y0 ly
   go_wp2_with fail
   refine (calls_eq HCH.out (show _=(#[.slice (some ⟨b0,f0,none⟩) on oc,.int .i64 ((p:Int)+1+(lk:Int)),.slice VA vn vc,.int .i64 wd]:Array Value) from rfl)).mono ?_
   rintro _ w2 ⟨rfl,b2⟩
   have HS2:=Lib.hid (HS.out.below b2)
   clear b2
   go_wp2_with (at_builtin;refine wpList_sepPush rfl _ _ rfl _ (HS2.out.alloc _) 0 B k d ev qv _ (0,0) rfl rfl rfl (heap_new _ _) (by omega) ?_;intro g9 cap w9 S9 hz9;have HS9:=Lib.hid S9;clear S9 hz9)
   go_roundw
   case rel=>exact ⟨k+1,_,_,by omega,by go_num,by rw [HKL.out];congr 1;omega,rfl,by rw [HEK.out];exact HS9.out⟩
   case measure=>simp [intOf];omega
  ·have hkn:k=2:=by omega
   have hdk:decide ((k:Int)<(2:Int))=false:=by simp;omega
   clear hltk
   subst k
   have hy:=heap_tr HS.out.bel HY.out
   have y0:=cell_heap (k:=0) hy rfl
   have y1:=cell_heap (k:=1) hy rfl
   have y2:=cell_heap (k:=2) hy rfl
   have ly:=heap_lt0 hy
   clear hy
   obtain ⟨bt,ot,hBt,hbt,hct⟩:=(HS.out.ints 0 rfl).2 (by omega)
   subst hBt
   have hx0:=hct 0 (by omega)
   (try rw [Nat.add_zero] at hx0)
   obtain ⟨x0,hX0⟩:∃x,(evK vals (mod2 wd) ks 2)[0]?.getD 0=x:=⟨_,rfl⟩
   rw [hX0] at hx0
   have hx1:=hct 1 (by omega)
   (try rw [Nat.add_zero] at hx1)
   obtain ⟨x1,hX1⟩:∃x,(evK vals (mod2 wd) ks 2)[1]?.getD 0=x:=⟨_,rfl⟩
   rw [hX1] at hx1
   have HX0:=Lib.hid hX0
   have HX1:=Lib.hid hX1
   clear hct hX0 hX1
   have hr0:=evK_in (vals:=vals) h1 h4 (ks:=ks) (k:=2) (j:=0) (by omega) (by rw [HKN.out];exact Nat.le_refl _)
   rw [HX0.out] at hr0
   have hr1:=evK_in (vals:=vals) h1 h4 (ks:=ks) (k:=2) (j:=1) (by omega) (by rw [HKN.out];exact Nat.le_refl _)
   rw [HX1.out] at hr1
   have h16:=mod2_le h1 h4
   have h2M:=mod2_two h1
   have HAW:=Lib.hid (andW (wd:=wd) (by omega) h4)
   generalize hM:mod2 wd=M at *
   obtain ⟨mk,hmk⟩:∃m,M - 1=m:=⟨_,rfl⟩
   have HM:=Lib.hid hM
   clear hM
   rw [hmk] at HAW
   (try rw [hmk])
   have HMK:=Lib.hid hmk
   clear hmk
   go_wp2_with fail
   have hsub:=sub_ne wr
   have hsc:=sub_cell wr
   refine wp_region_below wr (by kernel_rfl) (by kernel_rfl) (Below.refl _ _) ?_
   repeat (go_big_quiet_step (fail))
   refine wpQuiet_nil ?_
   rintro _ ⟨⟨w5,hD⟩,rfl⟩
   clear hsub hsc
   clear y0 y1 y2 ly
   have HB2:=Lib.hid (below_tr HB.out hD)
   clear hD
   go_wp2_with fail
   go_ret2
   refine ⟨ret_pair ?_ rfl,HB2.out⟩
   rw [HM.out,HX0.out,HX1.out,HAW.out]
set_option maxHeartbeats 2000000 in
theorem exprAt_9 (oa ob:Int) (ks:List Tr) (p:Nat) (ops:List OpT) (A:Option Addr) (on oc:Nat) (vals:List Int) (VA:Option Addr) (vn vc:Nat) (wd:Int) (w:World) (hat:AtOp w ops A on oc p ⟨9,oa,ob⟩) (hv:Ints w VA vn vals) (hks:ks.length=2) (har:arity 9=2) (hlen:∀k,k≤2→p+1+lensK ks k≤16)
  (hkids0:∀k,k<2→ExAt Tryz.prog 213 A on oc vals VA vn vc wd w (p+1+lensK ks k) (ks[k]?.getD (.lf OpT.zero))) (h1:1≤wd) (h4:wd≤4) (hon:on≤15) :
  Calls Tryz.prog 213 #[.slice A on oc,.int .i64 (p:Int),.slice VA vn vc,.int .i64 wd] w fun e w'=>e = .returned (.tuple #[.int .i64 (((evK vals (mod2 wd) ks 2)[0]?.getD 0 - (evK vals (mod2 wd) ks 2)[1]?.getD 0) % mod2 wd),.int .i64 ((p:Int)+1+(lensK ks 2:Int))])∧Below w.heap.size w w':=by
 have HKN:=Lib.hid hks
 have HAR:=Lib.hid har
 have HV:=Lib.hid hv
 have HLEN:=Lib.hid hlen
 have hkids:=Lib.hid hkids0
 clear hks har hv hlen hkids0
 obtain ⟨⟨b0,f0,hA,hb0,c0,c1,c2⟩,hlt⟩:=hat
 subst hA
 have HAT:=hkids
 have HB0:=Lib.hid (below_new (Below.refl w.heap.size w) (.cells #[.int .i64 9,.int .i64 oa,.int .i64 ob] 198))
 have hy:=heap_new w (.cells #[.int .i64 9,.int .i64 oa,.int .i64 ob] 198)
 have HY:=Lib.hid hy
 clear hy
 have i0:(0:Int)≤(p:Int):=by omega
 have i1:(p:Int)<(on:Int):=by omega
 simp only at c0 c1 c2
 go_enter Tryz.func213,Tryz.ntmps213
 go_upto_region 2 with fail
 generalize w.alloc (.cells #[.int .i64 9,.int .i64 oa,.int .i64 ob] 198)=W5 at *
 clear c0 c1 c2
 go_wp2_with fail
 refine (widthMask_any wd _ (by omega) h4).mono ?_
 rintro _ w' ⟨rfl,rfl⟩
 go_wp2_with fail
 go_loopw [1,12,13] (fun a v i wr=>∃(k:Nat) (B:Option Addr) (d:Nat),k≤2∧i = .int .i64 (k:Int)∧a = .int .i64 ((p:Int)+1+(lensK ks k:Int))∧v = .slice B k d∧Sepa W5 wr [.cel (celI (evK vals (mod2 wd) ks k)) (.slice B k d)]) (fun _ _ i _=>2 - (intOf i).toNat)
 case atStart=>exact ⟨0,none,0,by omega,rfl,by rw [lensK_zero];simp,rfl,(Sepa.refl W5).pushNil 3 1⟩
 case round =>
  obtain ⟨k,B,d,hk,rfl,rfl,rfl,hs⟩:=hrel
  have HS:=Lib.hid hs
  have HB:=Lib.hid (below_tr HB0.out hs.bel)
  clear hs
  have hy:=heap_tr HS.out.bel HY.out
  have y0:=cell_heap (k:=0) hy rfl
  have ly:=heap_lt0 hy
  clear hy
  go_wp2_with fail
  refine (opArity_any 9 _).mono ?_
  rw [HAR.out]
  rintro _ w' ⟨rfl,rfl⟩
  by_cases hltk:k<2
  ·have hdk:decide ((k:Int)<(2:Int))=true:=by simp;omega
   have HKL:=Lib.hid (lensK_succ (ks:=ks) (k:=k) (by rw [HKN.out];exact hltk))
   have HEK:=Lib.hid (evK_succ (vals:=vals) (M:=mod2 wd) (ks:=ks) (k:=k) (by rw [HKN.out];exact hltk))
   have HCH:=Lib.hid (HAT.out k hltk _ HB.out)
   have HLN:=HLEN.out k (by omega)
   have HLN1:=HLEN.out (k+1) (by omega)
   rw [HKL.out] at HLN1
   generalize lensK ks k=lk at *
   generalize ks[k]?.getD (.lf OpT.zero)=q at *
   generalize evT vals (mod2 wd) q=qv at *
   generalize q.pre.length=ql at *
   generalize hEv:evK vals (mod2 wd) ks k=ev at *
   have HEV:=Lib.hid hEv
   clear hEv y0 ly
   go_wp2_with fail
   refine (calls_eq HCH.out (show _=(#[.slice (some ⟨b0,f0,none⟩) on oc,.int .i64 ((p:Int)+1+(lk:Int)),.slice VA vn vc,.int .i64 wd]:Array Value) from rfl)).mono ?_
   rintro _ w2 ⟨rfl,b2⟩
   have HS2:=Lib.hid (HS.out.below b2)
   clear b2
   go_wp2_with (at_builtin;refine wpList_sepPush rfl _ _ rfl _ (HS2.out.alloc _) 0 B k d ev qv _ (0,0) rfl rfl rfl (heap_new _ _) (by omega) ?_;intro g9 cap w9 S9 hz9;have HS9:=Lib.hid S9;clear S9 hz9)
   go_roundw
   case rel=>exact ⟨k+1,_,_,by omega,by go_num,by rw [HKL.out];congr 1;omega,rfl,by rw [HEK.out];exact HS9.out⟩
   case measure=>simp [intOf];omega
  ·have hkn:k=2:=by omega
   have hdk:decide ((k:Int)<(2:Int))=false:=by simp;omega
   clear hltk
   subst k
   have hy:=heap_tr HS.out.bel HY.out
   have y0:=cell_heap (k:=0) hy rfl
   have y1:=cell_heap (k:=1) hy rfl
   have y2:=cell_heap (k:=2) hy rfl
   have ly:=heap_lt0 hy
   clear hy
   obtain ⟨bt,ot,hBt,hbt,hct⟩:=(HS.out.ints 0 rfl).2 (by omega)
   subst hBt
   have hx0:=hct 0 (by omega)
   (try rw [Nat.add_zero] at hx0)
   obtain ⟨x0,hX0⟩:∃x,(evK vals (mod2 wd) ks 2)[0]?.getD 0=x:=⟨_,rfl⟩
   rw [hX0] at hx0
   have hx1:=hct 1 (by omega)
   (try rw [Nat.add_zero] at hx1)
   obtain ⟨x1,hX1⟩:∃x,(evK vals (mod2 wd) ks 2)[1]?.getD 0=x:=⟨_,rfl⟩
   rw [hX1] at hx1
   have HX0:=Lib.hid hX0
   have HX1:=Lib.hid hX1
   clear hct hX0 hX1
   have hr0:=evK_in (vals:=vals) h1 h4 (ks:=ks) (k:=2) (j:=0) (by omega) (by rw [HKN.out];exact Nat.le_refl _)
   rw [HX0.out] at hr0
   have hr1:=evK_in (vals:=vals) h1 h4 (ks:=ks) (k:=2) (j:=1) (by omega) (by rw [HKN.out];exact Nat.le_refl _)
   rw [HX1.out] at hr1
   have h16:=mod2_le h1 h4
   have h2M:=mod2_two h1
   have HAW:=Lib.hid (andW (wd:=wd) (by omega) h4)
   generalize hM:mod2 wd=M at *
   obtain ⟨mk,hmk⟩:∃m,M - 1=m:=⟨_,rfl⟩
   have HM:=Lib.hid hM
   clear hM
   rw [hmk] at HAW
   (try rw [hmk])
   have HMK:=Lib.hid hmk
   clear hmk
   go_wp2_with fail
   have hsub:=sub_ne wr
   have hsc:=sub_cell wr
   refine wp_region_below wr (by kernel_rfl) (by kernel_rfl) (Below.refl _ _) ?_
   repeat (go_big_quiet_step (fail))
   refine wpQuiet_nil ?_
   rintro _ ⟨⟨w5,hD⟩,rfl⟩
   clear hsub hsc
   clear y0 y1 y2 ly
   have HB2:=Lib.hid (below_tr HB.out hD)
   clear hD
   go_wp2_with fail
   go_ret2
   refine ⟨ret_pair ?_ rfl,HB2.out⟩
   rw [HM.out,HX0.out,HX1.out,HAW.out]
set_option maxHeartbeats 2000000 in
theorem exprAt_10 (oa ob:Int) (ks:List Tr) (p:Nat) (ops:List OpT) (A:Option Addr) (on oc:Nat) (vals:List Int) (VA:Option Addr) (vn vc:Nat) (wd:Int) (w:World) (hat:AtOp w ops A on oc p ⟨10,oa,ob⟩) (hv:Ints w VA vn vals) (hks:ks.length=2) (har:arity 10=2) (hlen:∀k,k≤2→p+1+lensK ks k≤16)
  (hkids0:∀k,k<2→ExAt Tryz.prog 213 A on oc vals VA vn vc wd w (p+1+lensK ks k) (ks[k]?.getD (.lf OpT.zero))) (h1:1≤wd) (h4:wd≤4) (hon:on≤15) :
  Calls Tryz.prog 213 #[.slice A on oc,.int .i64 (p:Int),.slice VA vn vc,.int .i64 wd] w fun e w'=>e = .returned (.tuple #[.int .i64 (eqV ((evK vals (mod2 wd) ks 2)[0]?.getD 0) ((evK vals (mod2 wd) ks 2)[1]?.getD 0)),.int .i64 ((p:Int)+1+(lensK ks 2:Int))])∧Below w.heap.size w w':=by
 have HKN:=Lib.hid hks
 have HAR:=Lib.hid har
 have HV:=Lib.hid hv
 have HLEN:=Lib.hid hlen
 have hkids:=Lib.hid hkids0
 clear hks har hv hlen hkids0
 obtain ⟨⟨b0,f0,hA,hb0,c0,c1,c2⟩,hlt⟩:=hat
 subst hA
 have HAT:=hkids
 have HB0:=Lib.hid (below_new (Below.refl w.heap.size w) (.cells #[.int .i64 10,.int .i64 oa,.int .i64 ob] 198))
 have hy:=heap_new w (.cells #[.int .i64 10,.int .i64 oa,.int .i64 ob] 198)
 have HY:=Lib.hid hy
 clear hy
 have i0:(0:Int)≤(p:Int):=by omega
 have i1:(p:Int)<(on:Int):=by omega
 simp only at c0 c1 c2
 go_enter Tryz.func213,Tryz.ntmps213
 go_upto_region 2 with fail
 generalize w.alloc (.cells #[.int .i64 10,.int .i64 oa,.int .i64 ob] 198)=W5 at *
 clear c0 c1 c2
 go_wp2_with fail
 refine (widthMask_any wd _ (by omega) h4).mono ?_
 rintro _ w' ⟨rfl,rfl⟩
 go_wp2_with fail
 go_loopw [1,12,13] (fun a v i wr=>∃(k:Nat) (B:Option Addr) (d:Nat),k≤2∧i = .int .i64 (k:Int)∧a = .int .i64 ((p:Int)+1+(lensK ks k:Int))∧v = .slice B k d∧Sepa W5 wr [.cel (celI (evK vals (mod2 wd) ks k)) (.slice B k d)]) (fun _ _ i _=>2 - (intOf i).toNat)
 case atStart=>exact ⟨0,none,0,by omega,rfl,by rw [lensK_zero];simp,rfl,(Sepa.refl W5).pushNil 3 1⟩
 case round =>
  obtain ⟨k,B,d,hk,rfl,rfl,rfl,hs⟩:=hrel
  have HS:=Lib.hid hs
  have HB:=Lib.hid (below_tr HB0.out hs.bel)
  clear hs
  have hy:=heap_tr HS.out.bel HY.out
  have y0:=cell_heap (k:=0) hy rfl
  have ly:=heap_lt0 hy
  clear hy
  go_wp2_with fail
  refine (opArity_any 10 _).mono ?_
  rw [HAR.out]
  rintro _ w' ⟨rfl,rfl⟩
  by_cases hltk:k<2
  ·have hdk:decide ((k:Int)<(2:Int))=true:=by simp;omega
   have HKL:=Lib.hid (lensK_succ (ks:=ks) (k:=k) (by rw [HKN.out];exact hltk))
   have HEK:=Lib.hid (evK_succ (vals:=vals) (M:=mod2 wd) (ks:=ks) (k:=k) (by rw [HKN.out];exact hltk))
   have HCH:=Lib.hid (HAT.out k hltk _ HB.out)
   have HLN:=HLEN.out k (by omega)
   have HLN1:=HLEN.out (k+1) (by omega)
   rw [HKL.out] at HLN1
   generalize lensK ks k=lk at *
   generalize ks[k]?.getD (.lf OpT.zero)=q at *
   generalize evT vals (mod2 wd) q=qv at *
   generalize q.pre.length=ql at *
   generalize hEv:evK vals (mod2 wd) ks k=ev at *
   have HEV:=Lib.hid hEv
   clear hEv y0 ly
   go_wp2_with fail
   refine (calls_eq HCH.out (show _=(#[.slice (some ⟨b0,f0,none⟩) on oc,.int .i64 ((p:Int)+1+(lk:Int)),.slice VA vn vc,.int .i64 wd]:Array Value) from rfl)).mono ?_
   rintro _ w2 ⟨rfl,b2⟩
   have HS2:=Lib.hid (HS.out.below b2)
   clear b2
   go_wp2_with (at_builtin;refine wpList_sepPush rfl _ _ rfl _ (HS2.out.alloc _) 0 B k d ev qv _ (0,0) rfl rfl rfl (heap_new _ _) (by omega) ?_;intro g9 cap w9 S9 hz9;have HS9:=Lib.hid S9;clear S9 hz9)
   go_roundw
   case rel=>exact ⟨k+1,_,_,by omega,by go_num,by rw [HKL.out];congr 1;omega,rfl,by rw [HEK.out];exact HS9.out⟩
   case measure=>simp [intOf];omega
  ·have hkn:k=2:=by omega
   have hdk:decide ((k:Int)<(2:Int))=false:=by simp;omega
   clear hltk
   subst k
   have hy:=heap_tr HS.out.bel HY.out
   have y0:=cell_heap (k:=0) hy rfl
   have y1:=cell_heap (k:=1) hy rfl
   have y2:=cell_heap (k:=2) hy rfl
   have ly:=heap_lt0 hy
   clear hy
   obtain ⟨bt,ot,hBt,hbt,hct⟩:=(HS.out.ints 0 rfl).2 (by omega)
   subst hBt
   have hx0:=hct 0 (by omega)
   (try rw [Nat.add_zero] at hx0)
   obtain ⟨x0,hX0⟩:∃x,(evK vals (mod2 wd) ks 2)[0]?.getD 0=x:=⟨_,rfl⟩
   rw [hX0] at hx0
   have hx1:=hct 1 (by omega)
   (try rw [Nat.add_zero] at hx1)
   obtain ⟨x1,hX1⟩:∃x,(evK vals (mod2 wd) ks 2)[1]?.getD 0=x:=⟨_,rfl⟩
   rw [hX1] at hx1
   have HX0:=Lib.hid hX0
   have HX1:=Lib.hid hX1
   clear hct hX0 hX1
   have hr0:=evK_in (vals:=vals) h1 h4 (ks:=ks) (k:=2) (j:=0) (by omega) (by rw [HKN.out];exact Nat.le_refl _)
   rw [HX0.out] at hr0
   have hr1:=evK_in (vals:=vals) h1 h4 (ks:=ks) (k:=2) (j:=1) (by omega) (by rw [HKN.out];exact Nat.le_refl _)
   rw [HX1.out] at hr1
   have h16:=mod2_le h1 h4
   have h2M:=mod2_two h1
   have HAW:=Lib.hid (andW (wd:=wd) (by omega) h4)
   generalize hM:mod2 wd=M at *
   obtain ⟨mk,hmk⟩:∃m,M - 1=m:=⟨_,rfl⟩
   have HM:=Lib.hid hM
   clear hM
   rw [hmk] at HAW
   (try rw [hmk])
   have HMK:=Lib.hid hmk
   clear hmk
   by_cases hc:x0=x1
   ·have dc:(x0==x1)=true:=by simp [hc]
    have HC:=Lib.hid hc
    clear hc
    go_wp2_with fail
    have hsub:=sub_ne wr
    have hsc:=sub_cell wr
    refine wp_region_below wr (by kernel_rfl) (by kernel_rfl) (Below.refl _ _) ?_
    repeat (go_big_quiet_step (fail))
    refine wpQuiet_nil ?_
    rintro _ ⟨⟨w5,hD⟩,rfl⟩
    clear hsub hsc
    clear y0 y1 y2 ly
    have HB2:=Lib.hid (below_tr HB.out hD)
    clear hD
    go_wp2_with fail
    go_ret2
    refine ⟨ret_pair ?_ rfl,HB2.out⟩
    rw [HM.out,HX0.out,HX1.out,eqV,if_pos HC.out,HAW.out,Int.emod_eq_of_lt (by omega) (by omega)]
   ·have dc:(x0==x1)=false:=by simp [hc]
    have HC:=Lib.hid hc
    clear hc
    go_wp2_with fail
    have hsub:=sub_ne wr
    have hsc:=sub_cell wr
    refine wp_region_below wr (by kernel_rfl) (by kernel_rfl) (Below.refl _ _) ?_
    repeat (go_big_quiet_step (fail))
    refine wpQuiet_nil ?_
    rintro _ ⟨⟨w5,hD⟩,rfl⟩
    clear hsub hsc
    clear y0 y1 y2 ly
    have HB2:=Lib.hid (below_tr HB.out hD)
    clear hD
    go_wp2_with fail
    go_ret2
    refine ⟨ret_pair ?_ rfl,HB2.out⟩
    rw [HM.out,HX0.out,HX1.out,eqV,if_neg (by have:=HC.out;omega),HAW.out,Int.emod_eq_of_lt (by omega) (by omega)]
set_option maxHeartbeats 2000000 in
theorem exprAt_11 (oa ob:Int) (ks:List Tr) (p:Nat) (ops:List OpT) (A:Option Addr) (on oc:Nat) (vals:List Int) (VA:Option Addr) (vn vc:Nat) (wd:Int) (w:World) (hat:AtOp w ops A on oc p ⟨11,oa,ob⟩) (hv:Ints w VA vn vals) (hks:ks.length=2) (har:arity 11=2) (hlen:∀k,k≤2→p+1+lensK ks k≤16)
  (hkids0:∀k,k<2→ExAt Tryz.prog 213 A on oc vals VA vn vc wd w (p+1+lensK ks k) (ks[k]?.getD (.lf OpT.zero))) (h1:1≤wd) (h4:wd≤4) (hon:on≤15) :
  Calls Tryz.prog 213 #[.slice A on oc,.int .i64 (p:Int),.slice VA vn vc,.int .i64 wd] w fun e w'=>e = .returned (.tuple #[.int .i64 (ltV ((evK vals (mod2 wd) ks 2)[0]?.getD 0) ((evK vals (mod2 wd) ks 2)[1]?.getD 0)),.int .i64 ((p:Int)+1+(lensK ks 2:Int))])∧Below w.heap.size w w':=by
 have HKN:=Lib.hid hks
 have HAR:=Lib.hid har
 have HV:=Lib.hid hv
 have HLEN:=Lib.hid hlen
 have hkids:=Lib.hid hkids0
 clear hks har hv hlen hkids0
 obtain ⟨⟨b0,f0,hA,hb0,c0,c1,c2⟩,hlt⟩:=hat
 subst hA
 have HAT:=hkids
 have HB0:=Lib.hid (below_new (Below.refl w.heap.size w) (.cells #[.int .i64 11,.int .i64 oa,.int .i64 ob] 198))
 have hy:=heap_new w (.cells #[.int .i64 11,.int .i64 oa,.int .i64 ob] 198)
 have HY:=Lib.hid hy
 clear hy
 have i0:(0:Int)≤(p:Int):=by omega
 have i1:(p:Int)<(on:Int):=by omega
 simp only at c0 c1 c2
 go_enter Tryz.func213,Tryz.ntmps213
 go_upto_region 2 with fail
 generalize w.alloc (.cells #[.int .i64 11,.int .i64 oa,.int .i64 ob] 198)=W5 at *
 clear c0 c1 c2
 go_wp2_with fail
 refine (widthMask_any wd _ (by omega) h4).mono ?_
 rintro _ w' ⟨rfl,rfl⟩
 go_wp2_with fail
 go_loopw [1,12,13] (fun a v i wr=>∃(k:Nat) (B:Option Addr) (d:Nat),k≤2∧i = .int .i64 (k:Int)∧a = .int .i64 ((p:Int)+1+(lensK ks k:Int))∧v = .slice B k d∧Sepa W5 wr [.cel (celI (evK vals (mod2 wd) ks k)) (.slice B k d)]) (fun _ _ i _=>2 - (intOf i).toNat)
 case atStart=>exact ⟨0,none,0,by omega,rfl,by rw [lensK_zero];simp,rfl,(Sepa.refl W5).pushNil 3 1⟩
 case round =>
  obtain ⟨k,B,d,hk,rfl,rfl,rfl,hs⟩:=hrel
  have HS:=Lib.hid hs
  have HB:=Lib.hid (below_tr HB0.out hs.bel)
  clear hs
  have hy:=heap_tr HS.out.bel HY.out
  have y0:=cell_heap (k:=0) hy rfl
  have ly:=heap_lt0 hy
  clear hy
  go_wp2_with fail
  refine (opArity_any 11 _).mono ?_
  rw [HAR.out]
  rintro _ w' ⟨rfl,rfl⟩
  by_cases hltk:k<2
  ·have hdk:decide ((k:Int)<(2:Int))=true:=by simp;omega
   have HKL:=Lib.hid (lensK_succ (ks:=ks) (k:=k) (by rw [HKN.out];exact hltk))
   have HEK:=Lib.hid (evK_succ (vals:=vals) (M:=mod2 wd) (ks:=ks) (k:=k) (by rw [HKN.out];exact hltk))
   have HCH:=Lib.hid (HAT.out k hltk _ HB.out)
   have HLN:=HLEN.out k (by omega)
   have HLN1:=HLEN.out (k+1) (by omega)
   rw [HKL.out] at HLN1
   generalize lensK ks k=lk at *
   generalize ks[k]?.getD (.lf OpT.zero)=q at *
   generalize evT vals (mod2 wd) q=qv at *
   generalize q.pre.length=ql at *
   generalize hEv:evK vals (mod2 wd) ks k=ev at *
   have HEV:=Lib.hid hEv
   clear hEv y0 ly
   go_wp2_with fail
   refine (calls_eq HCH.out (show _=(#[.slice (some ⟨b0,f0,none⟩) on oc,.int .i64 ((p:Int)+1+(lk:Int)),.slice VA vn vc,.int .i64 wd]:Array Value) from rfl)).mono ?_
   rintro _ w2 ⟨rfl,b2⟩
   have HS2:=Lib.hid (HS.out.below b2)
   clear b2
   go_wp2_with (at_builtin;refine wpList_sepPush rfl _ _ rfl _ (HS2.out.alloc _) 0 B k d ev qv _ (0,0) rfl rfl rfl (heap_new _ _) (by omega) ?_;intro g9 cap w9 S9 hz9;have HS9:=Lib.hid S9;clear S9 hz9)
   go_roundw
   case rel=>exact ⟨k+1,_,_,by omega,by go_num,by rw [HKL.out];congr 1;omega,rfl,by rw [HEK.out];exact HS9.out⟩
   case measure=>simp [intOf];omega
  ·have hkn:k=2:=by omega
   have hdk:decide ((k:Int)<(2:Int))=false:=by simp;omega
   clear hltk
   subst k
   have hy:=heap_tr HS.out.bel HY.out
   have y0:=cell_heap (k:=0) hy rfl
   have y1:=cell_heap (k:=1) hy rfl
   have y2:=cell_heap (k:=2) hy rfl
   have ly:=heap_lt0 hy
   clear hy
   obtain ⟨bt,ot,hBt,hbt,hct⟩:=(HS.out.ints 0 rfl).2 (by omega)
   subst hBt
   have hx0:=hct 0 (by omega)
   (try rw [Nat.add_zero] at hx0)
   obtain ⟨x0,hX0⟩:∃x,(evK vals (mod2 wd) ks 2)[0]?.getD 0=x:=⟨_,rfl⟩
   rw [hX0] at hx0
   have hx1:=hct 1 (by omega)
   (try rw [Nat.add_zero] at hx1)
   obtain ⟨x1,hX1⟩:∃x,(evK vals (mod2 wd) ks 2)[1]?.getD 0=x:=⟨_,rfl⟩
   rw [hX1] at hx1
   have HX0:=Lib.hid hX0
   have HX1:=Lib.hid hX1
   clear hct hX0 hX1
   have hr0:=evK_in (vals:=vals) h1 h4 (ks:=ks) (k:=2) (j:=0) (by omega) (by rw [HKN.out];exact Nat.le_refl _)
   rw [HX0.out] at hr0
   have hr1:=evK_in (vals:=vals) h1 h4 (ks:=ks) (k:=2) (j:=1) (by omega) (by rw [HKN.out];exact Nat.le_refl _)
   rw [HX1.out] at hr1
   have h16:=mod2_le h1 h4
   have h2M:=mod2_two h1
   have HAW:=Lib.hid (andW (wd:=wd) (by omega) h4)
   generalize hM:mod2 wd=M at *
   obtain ⟨mk,hmk⟩:∃m,M - 1=m:=⟨_,rfl⟩
   have HM:=Lib.hid hM
   clear hM
   rw [hmk] at HAW
   (try rw [hmk])
   have HMK:=Lib.hid hmk
   clear hmk
   by_cases hc:x0<x1
   ·have dc:decide (x0<x1)=true:=by simp [hc]
    have HC:=Lib.hid hc
    clear hc
    go_wp2_with fail
    have hsub:=sub_ne wr
    have hsc:=sub_cell wr
    refine wp_region_below wr (by kernel_rfl) (by kernel_rfl) (Below.refl _ _) ?_
    repeat (go_big_quiet_step (fail))
    refine wpQuiet_nil ?_
    rintro _ ⟨⟨w5,hD⟩,rfl⟩
    clear hsub hsc
    clear y0 y1 y2 ly
    have HB2:=Lib.hid (below_tr HB.out hD)
    clear hD
    go_wp2_with fail
    go_ret2
    refine ⟨ret_pair ?_ rfl,HB2.out⟩
    rw [HM.out,HX0.out,HX1.out,ltV,if_pos HC.out,HAW.out,Int.emod_eq_of_lt (by omega) (by omega)]
   ·have dc:decide (x0<x1)=false:=by simp;omega
    have HC:=Lib.hid hc
    clear hc
    go_wp2_with fail
    have hsub:=sub_ne wr
    have hsc:=sub_cell wr
    refine wp_region_below wr (by kernel_rfl) (by kernel_rfl) (Below.refl _ _) ?_
    repeat (go_big_quiet_step (fail))
    refine wpQuiet_nil ?_
    rintro _ ⟨⟨w5,hD⟩,rfl⟩
    clear hsub hsc
    clear y0 y1 y2 ly
    have HB2:=Lib.hid (below_tr HB.out hD)
    clear hD
    go_wp2_with fail
    go_ret2
    refine ⟨ret_pair ?_ rfl,HB2.out⟩
    rw [HM.out,HX0.out,HX1.out,ltV,if_neg (by have:=HC.out;omega),HAW.out,Int.emod_eq_of_lt (by omega) (by omega)]
set_option maxHeartbeats 2000000 in
theorem exprAt_12 (oa ob:Int) (ks:List Tr) (p:Nat) (ops:List OpT) (A:Option Addr) (on oc:Nat) (vals:List Int) (VA:Option Addr) (vn vc:Nat) (wd:Int) (w:World) (hat:AtOp w ops A on oc p ⟨12,oa,ob⟩) (hv:Ints w VA vn vals) (hks:ks.length=3) (har:arity 12=3) (hlen:∀k,k≤3→p+1+lensK ks k≤16)
  (hkids0:∀k,k<3→ExAt Tryz.prog 213 A on oc vals VA vn vc wd w (p+1+lensK ks k) (ks[k]?.getD (.lf OpT.zero))) (h1:1≤wd) (h4:wd≤4) (hon:on≤15) :
  Calls Tryz.prog 213 #[.slice A on oc,.int .i64 (p:Int),.slice VA vn vc,.int .i64 wd] w fun e w'=>e = .returned (.tuple #[.int .i64 (muxV ((evK vals (mod2 wd) ks 3)[0]?.getD 0) ((evK vals (mod2 wd) ks 3)[1]?.getD 0) ((evK vals (mod2 wd) ks 3)[2]?.getD 0)),.int .i64 ((p:Int)+1+(lensK ks 3:Int))])∧Below w.heap.size w w':=by
 have HKN:=Lib.hid hks
 have HAR:=Lib.hid har
 have HV:=Lib.hid hv
 have HLEN:=Lib.hid hlen
 have hkids:=Lib.hid hkids0
 clear hks har hv hlen hkids0
 obtain ⟨⟨b0,f0,hA,hb0,c0,c1,c2⟩,hlt⟩:=hat
 subst hA
 have HAT:=hkids
 have HB0:=Lib.hid (below_new (Below.refl w.heap.size w) (.cells #[.int .i64 12,.int .i64 oa,.int .i64 ob] 198))
 have hy:=heap_new w (.cells #[.int .i64 12,.int .i64 oa,.int .i64 ob] 198)
 have HY:=Lib.hid hy
 clear hy
 have i0:(0:Int)≤(p:Int):=by omega
 have i1:(p:Int)<(on:Int):=by omega
 simp only at c0 c1 c2
 go_enter Tryz.func213,Tryz.ntmps213
 go_upto_region 2 with fail
 generalize w.alloc (.cells #[.int .i64 12,.int .i64 oa,.int .i64 ob] 198)=W5 at *
 clear c0 c1 c2
 go_wp2_with fail
 refine (widthMask_any wd _ (by omega) h4).mono ?_
 rintro _ w' ⟨rfl,rfl⟩
 go_wp2_with fail
 go_loopw [1,12,13] (fun a v i wr=>∃(k:Nat) (B:Option Addr) (d:Nat),k≤3∧i = .int .i64 (k:Int)∧a = .int .i64 ((p:Int)+1+(lensK ks k:Int))∧v = .slice B k d∧Sepa W5 wr [.cel (celI (evK vals (mod2 wd) ks k)) (.slice B k d)]) (fun _ _ i _=>3 - (intOf i).toNat)
 case atStart=>exact ⟨0,none,0,by omega,rfl,by rw [lensK_zero];simp,rfl,(Sepa.refl W5).pushNil 3 1⟩
 case round =>
  obtain ⟨k,B,d,hk,rfl,rfl,rfl,hs⟩:=hrel
  have HS:=Lib.hid hs
  have HB:=Lib.hid (below_tr HB0.out hs.bel)
  clear hs
  have hy:=heap_tr HS.out.bel HY.out
  have y0:=cell_heap (k:=0) hy rfl
  have ly:=heap_lt0 hy
  clear hy
  go_wp2_with fail
  refine (opArity_any 12 _).mono ?_
  rw [HAR.out]
  rintro _ w' ⟨rfl,rfl⟩
  by_cases hltk:k<3
  ·have hdk:decide ((k:Int)<(3:Int))=true:=by simp;omega
   have HKL:=Lib.hid (lensK_succ (ks:=ks) (k:=k) (by rw [HKN.out];exact hltk))
   have HEK:=Lib.hid (evK_succ (vals:=vals) (M:=mod2 wd) (ks:=ks) (k:=k) (by rw [HKN.out];exact hltk))
   have HCH:=Lib.hid (HAT.out k hltk _ HB.out)
   have HLN:=HLEN.out k (by omega)
   have HLN1:=HLEN.out (k+1) (by omega)
   rw [HKL.out] at HLN1
   generalize lensK ks k=lk at *
   generalize ks[k]?.getD (.lf OpT.zero)=q at *
   generalize evT vals (mod2 wd) q=qv at *
   generalize q.pre.length=ql at *
   generalize hEv:evK vals (mod2 wd) ks k=ev at *
   have HEV:=Lib.hid hEv
   clear hEv y0 ly
   go_wp2_with fail
   refine (calls_eq HCH.out (show _=(#[.slice (some ⟨b0,f0,none⟩) on oc,.int .i64 ((p:Int)+1+(lk:Int)),.slice VA vn vc,.int .i64 wd]:Array Value) from rfl)).mono ?_
   rintro _ w2 ⟨rfl,b2⟩
   have HS2:=Lib.hid (HS.out.below b2)
   clear b2
   go_wp2_with (at_builtin;refine wpList_sepPush rfl _ _ rfl _ (HS2.out.alloc _) 0 B k d ev qv _ (0,0) rfl rfl rfl (heap_new _ _) (by omega) ?_;intro g9 cap w9 S9 hz9;have HS9:=Lib.hid S9;clear S9 hz9)
   go_roundw
   case rel=>exact ⟨k+1,_,_,by omega,by go_num,by rw [HKL.out];congr 1;omega,rfl,by rw [HEK.out];exact HS9.out⟩
   case measure=>simp [intOf];omega
  ·have hkn:k=3:=by omega
   have hdk:decide ((k:Int)<(3:Int))=false:=by simp;omega
   clear hltk
   subst k
   have hy:=heap_tr HS.out.bel HY.out
   have y0:=cell_heap (k:=0) hy rfl
   have y1:=cell_heap (k:=1) hy rfl
   have y2:=cell_heap (k:=2) hy rfl
   have ly:=heap_lt0 hy
   clear hy
   obtain ⟨bt,ot,hBt,hbt,hct⟩:=(HS.out.ints 0 rfl).2 (by omega)
   subst hBt
   have hx0:=hct 0 (by omega)
   (try rw [Nat.add_zero] at hx0)
   obtain ⟨x0,hX0⟩:∃x,(evK vals (mod2 wd) ks 3)[0]?.getD 0=x:=⟨_,rfl⟩
   rw [hX0] at hx0
   have hx1:=hct 1 (by omega)
   (try rw [Nat.add_zero] at hx1)
   obtain ⟨x1,hX1⟩:∃x,(evK vals (mod2 wd) ks 3)[1]?.getD 0=x:=⟨_,rfl⟩
   rw [hX1] at hx1
   have hx2:=hct 2 (by omega)
   (try rw [Nat.add_zero] at hx2)
   obtain ⟨x2,hX2⟩:∃x,(evK vals (mod2 wd) ks 3)[2]?.getD 0=x:=⟨_,rfl⟩
   rw [hX2] at hx2
   have HX0:=Lib.hid hX0
   have HX1:=Lib.hid hX1
   have HX2:=Lib.hid hX2
   clear hct hX0 hX1 hX2
   have hr0:=evK_in (vals:=vals) h1 h4 (ks:=ks) (k:=3) (j:=0) (by omega) (by rw [HKN.out];exact Nat.le_refl _)
   rw [HX0.out] at hr0
   have hr1:=evK_in (vals:=vals) h1 h4 (ks:=ks) (k:=3) (j:=1) (by omega) (by rw [HKN.out];exact Nat.le_refl _)
   rw [HX1.out] at hr1
   have hr2:=evK_in (vals:=vals) h1 h4 (ks:=ks) (k:=3) (j:=2) (by omega) (by rw [HKN.out];exact Nat.le_refl _)
   rw [HX2.out] at hr2
   have h16:=mod2_le h1 h4
   have h2M:=mod2_two h1
   have HAW:=Lib.hid (andW (wd:=wd) (by omega) h4)
   generalize hM:mod2 wd=M at *
   obtain ⟨mk,hmk⟩:∃m,M - 1=m:=⟨_,rfl⟩
   have HM:=Lib.hid hM
   clear hM
   rw [hmk] at HAW
   (try rw [hmk])
   have HMK:=Lib.hid hmk
   clear hmk
   by_cases hc:x0=0
   ·have dc:(x0 != 0)=false:=by simp [hc]
    have HC:=Lib.hid (fun h:x0≠0=>h hc)
    clear hc
    go_wp2_with fail
    go_ret2
    refine ⟨ret_pair ?_ rfl,HB.out⟩
    rw [HM.out,HX0.out,HX1.out,HX2.out,muxV,if_neg HC.out,HAW.out,Int.emod_eq_of_lt hr2.1 hr2.2]
   ·have dc:(x0 != 0)=true:=by simp [hc]
    have HC:=Lib.hid hc
    clear hc
    go_wp2_with fail
    go_ret2
    refine ⟨ret_pair ?_ rfl,HB.out⟩
    rw [HM.out,HX0.out,HX1.out,HX2.out,muxV,if_pos HC.out,HAW.out,Int.emod_eq_of_lt hr1.1 hr1.2]
set_option maxHeartbeats 2000000 in
theorem exprAt_0 (oa ob:Int) (ks:List Tr) (p:Nat) (ops:List OpT) (A:Option Addr) (on oc:Nat) (vals:List Int) (VA:Option Addr) (vn vc:Nat) (wd:Int) (w:World) (hat:AtOp w ops A on oc p ⟨0,oa,ob⟩) (hv:Ints w VA vn vals) (hks:ks.length=0) (har:arity 0=0) (hlen:∀k,k≤0→p+1+lensK ks k≤16)
  (hkids0:∀k,k<0→ExAt Tryz.prog 213 A on oc vals VA vn vc wd w (p+1+lensK ks k) (ks[k]?.getD (.lf OpT.zero))) (h1:1≤wd) (h4:wd≤4) (hon:on≤15) :
  Calls Tryz.prog 213 #[.slice A on oc,.int .i64 (p:Int),.slice VA vn vc,.int .i64 wd] w fun e w'=>e = .returned (.tuple #[.int .i64 (oa % mod2 wd),.int .i64 ((p:Int)+1+(lensK ks 0:Int))])∧Below w.heap.size w w':=by
 have HKN:=Lib.hid hks
 have HAR:=Lib.hid har
 have HV:=Lib.hid hv
 have HLEN:=Lib.hid hlen
 have hkids:=Lib.hid hkids0
 clear hks har hv hlen hkids0
 obtain ⟨⟨b0,f0,hA,hb0,c0,c1,c2⟩,hlt⟩:=hat
 subst hA
 have HAT:=hkids
 have HB0:=Lib.hid (below_new (Below.refl w.heap.size w) (.cells #[.int .i64 0,.int .i64 oa,.int .i64 ob] 198))
 have hy:=heap_new w (.cells #[.int .i64 0,.int .i64 oa,.int .i64 ob] 198)
 have HY:=Lib.hid hy
 clear hy
 have i0:(0:Int)≤(p:Int):=by omega
 have i1:(p:Int)<(on:Int):=by omega
 simp only at c0 c1 c2
 go_enter Tryz.func213,Tryz.ntmps213
 go_upto_region 2 with fail
 generalize w.alloc (.cells #[.int .i64 0,.int .i64 oa,.int .i64 ob] 198)=W5 at *
 clear c0 c1 c2
 go_wp2_with fail
 refine (widthMask_any wd _ (by omega) h4).mono ?_
 rintro _ w' ⟨rfl,rfl⟩
 go_wp2_with fail
 go_loopw [1,12,13] (fun a v i wr=>∃(k:Nat) (B:Option Addr) (d:Nat),k≤0∧i = .int .i64 (k:Int)∧a = .int .i64 ((p:Int)+1+(lensK ks k:Int))∧v = .slice B k d∧Sepa W5 wr [.cel (celI (evK vals (mod2 wd) ks k)) (.slice B k d)]) (fun _ _ i _=>0 - (intOf i).toNat)
 case atStart=>exact ⟨0,none,0,by omega,rfl,by rw [lensK_zero];simp,rfl,(Sepa.refl W5).pushNil 3 1⟩
 case round =>
  obtain ⟨k,B,d,hk,rfl,rfl,rfl,hs⟩:=hrel
  have HS:=Lib.hid hs
  have HB:=Lib.hid (below_tr HB0.out hs.bel)
  clear hs
  have hy:=heap_tr HS.out.bel HY.out
  have y0:=cell_heap (k:=0) hy rfl
  have ly:=heap_lt0 hy
  clear hy
  go_wp2_with fail
  refine (opArity_any 0 _).mono ?_
  rw [HAR.out]
  rintro _ w' ⟨rfl,rfl⟩
  by_cases hltk:k<0
  ·exfalso
   omega
  ·have hkn:k=0:=by omega
   have hdk:decide ((k:Int)<(0:Int))=false:=decide_eq_false (by omega)
   clear hltk
   subst k
   have hy:=heap_tr HS.out.bel HY.out
   have y0:=cell_heap (k:=0) hy rfl
   have y1:=cell_heap (k:=1) hy rfl
   have y2:=cell_heap (k:=2) hy rfl
   have ly:=heap_lt0 hy
   clear hy
   have h16:=mod2_le h1 h4
   have h2M:=mod2_two h1
   have HAW:=Lib.hid (andW (wd:=wd) (by omega) h4)
   generalize hM:mod2 wd=M at *
   obtain ⟨mk,hmk⟩:∃m,M - 1=m:=⟨_,rfl⟩
   have HM:=Lib.hid hM
   clear hM
   rw [hmk] at HAW
   (try rw [hmk])
   have HMK:=Lib.hid hmk
   clear hmk
   go_wp2_with fail
   go_ret2
   refine ⟨ret_pair ?_ rfl,HB.out⟩
   rw [HM.out,HAW.out]
set_option maxHeartbeats 2000000 in
theorem exprAt_2 (oa ob:Int) (ks:List Tr) (p:Nat) (ops:List OpT) (A:Option Addr) (on oc:Nat) (vals:List Int) (VA:Option Addr) (vn vc:Nat) (wd:Int) (w:World) (hat:AtOp w ops A on oc p ⟨2,oa,ob⟩) (hv:Ints w VA vn vals) (hks:ks.length=0) (har:arity 2=0) (hlen:∀k,k≤0→p+1+lensK ks k≤16)
  (hkids0:∀k,k<0→ExAt Tryz.prog 213 A on oc vals VA vn vc wd w (p+1+lensK ks k) (ks[k]?.getD (.lf OpT.zero))) (h1:1≤wd) (h4:wd≤4) (hon:on≤15) (hX:0≤oa∧oa<(vn:Int)) :
  Calls Tryz.prog 213 #[.slice A on oc,.int .i64 (p:Int),.slice VA vn vc,.int .i64 wd] w fun e w'=>e = .returned (.tuple #[.int .i64 (atI vals oa % mod2 wd),.int .i64 ((p:Int)+1+(lensK ks 0:Int))])∧Below w.heap.size w w':=by
 have HKN:=Lib.hid hks
 have HAR:=Lib.hid har
 have HV:=Lib.hid hv
 have HLEN:=Lib.hid hlen
 have hkids:=Lib.hid hkids0
 clear hks har hv hlen hkids0
 obtain ⟨⟨b0,f0,hA,hb0,c0,c1,c2⟩,hlt⟩:=hat
 subst hA
 have HAT:=hkids
 have HB0:=Lib.hid (below_new (Below.refl w.heap.size w) (.cells #[.int .i64 2,.int .i64 oa,.int .i64 ob] 198))
 have hy:=heap_new w (.cells #[.int .i64 2,.int .i64 oa,.int .i64 ob] 198)
 have HY:=Lib.hid hy
 clear hy
 have i0:(0:Int)≤(p:Int):=by omega
 have i1:(p:Int)<(on:Int):=by omega
 simp only at c0 c1 c2
 go_enter Tryz.func213,Tryz.ntmps213
 go_upto_region 2 with fail
 generalize w.alloc (.cells #[.int .i64 2,.int .i64 oa,.int .i64 ob] 198)=W5 at *
 clear c0 c1 c2
 go_wp2_with fail
 refine (widthMask_any wd _ (by omega) h4).mono ?_
 rintro _ w' ⟨rfl,rfl⟩
 go_wp2_with fail
 go_loopw [1,12,13] (fun a v i wr=>∃(k:Nat) (B:Option Addr) (d:Nat),k≤0∧i = .int .i64 (k:Int)∧a = .int .i64 ((p:Int)+1+(lensK ks k:Int))∧v = .slice B k d∧Sepa W5 wr [.cel (celI (evK vals (mod2 wd) ks k)) (.slice B k d)]) (fun _ _ i _=>0 - (intOf i).toNat)
 case atStart=>exact ⟨0,none,0,by omega,rfl,by rw [lensK_zero];simp,rfl,(Sepa.refl W5).pushNil 3 1⟩
 case round =>
  obtain ⟨k,B,d,hk,rfl,rfl,rfl,hs⟩:=hrel
  have HS:=Lib.hid hs
  have HB:=Lib.hid (below_tr HB0.out hs.bel)
  clear hs
  have hy:=heap_tr HS.out.bel HY.out
  have y0:=cell_heap (k:=0) hy rfl
  have ly:=heap_lt0 hy
  clear hy
  go_wp2_with fail
  refine (opArity_any 2 _).mono ?_
  rw [HAR.out]
  rintro _ w' ⟨rfl,rfl⟩
  by_cases hltk:k<0
  ·exfalso
   omega
  ·have hkn:k=0:=by omega
   have hdk:decide ((k:Int)<(0:Int))=false:=decide_eq_false (by omega)
   clear hltk
   subst k
   have hy:=heap_tr HS.out.bel HY.out
   have y0:=cell_heap (k:=0) hy rfl
   have y1:=cell_heap (k:=1) hy rfl
   have y2:=cell_heap (k:=2) hy rfl
   have ly:=heap_lt0 hy
   clear hy
   have h16:=mod2_le h1 h4
   have h2M:=mod2_two h1
   have HAW:=Lib.hid (andW (wd:=wd) (by omega) h4)
   obtain ⟨X,rfl⟩:∃X:Nat,oa=(X:Int):=⟨oa.toNat,by omega⟩
   obtain ⟨bv,ov,hVA,hbv,hcv⟩:=HV.out.2 (by omega)
   subst hVA
   have hx:=(HB.out.cell (p:=⟨bv,ov+X,none⟩) hbv).trans (hcv X (by omega))
   have lbv:=below_lt HB.out hbv
   have HAT2:Hid (atI vals (X:Int)=vals[X]?.getD 0):=by show _=_;unfold atI;rw [Int.toNat_natCast]
   generalize vals[X]?.getD 0=xv at *
   have q0:(0:Int)≤(X:Int):=by omega
   have q1:(X:Int)<(vn:Int):=by omega
   clear hcv hbv
   generalize hM:mod2 wd=M at *
   obtain ⟨mk,hmk⟩:∃m,M - 1=m:=⟨_,rfl⟩
   have HM:=Lib.hid hM
   clear hM
   rw [hmk] at HAW
   (try rw [hmk])
   have HMK:=Lib.hid hmk
   clear hmk
   go_wp2_with fail
   go_ret2
   refine ⟨ret_pair ?_ rfl,HB.out⟩
   rw [HM.out,HAT2.out,HAW.out]
set_option maxHeartbeats 2000000 in
theorem exprAt_3 (oa ob:Int) (ks:List Tr) (p:Nat) (ops:List OpT) (A:Option Addr) (on oc:Nat) (vals:List Int) (VA:Option Addr) (vn vc:Nat) (wd:Int) (w:World) (hat:AtOp w ops A on oc p ⟨3,oa,ob⟩) (hv:Ints w VA vn vals) (hks:ks.length=0) (har:arity 3=0) (hlen:∀k,k≤0→p+1+lensK ks k≤16)
  (hkids0:∀k,k<0→ExAt Tryz.prog 213 A on oc vals VA vn vc wd w (p+1+lensK ks k) (ks[k]?.getD (.lf OpT.zero))) (h1:1≤wd) (h4:wd≤4) (hon:on≤15) (hX:0≤oa∧oa<(vn:Int)) (hY:0≤ob∧ob≤3) :
  Calls Tryz.prog 213 #[.slice A on oc,.int .i64 (p:Int),.slice VA vn vc,.int .i64 wd] w fun e w'=>e = .returned (.tuple #[.int .i64 ((atI vals oa / 2 ^ ob.toNat % 2) % mod2 wd),.int .i64 ((p:Int)+1+(lensK ks 0:Int))])∧Below w.heap.size w w':=by
 have HKN:=Lib.hid hks
 have HAR:=Lib.hid har
 have HV:=Lib.hid hv
 have HLEN:=Lib.hid hlen
 have hkids:=Lib.hid hkids0
 clear hks har hv hlen hkids0
 obtain ⟨⟨b0,f0,hA,hb0,c0,c1,c2⟩,hlt⟩:=hat
 subst hA
 have HAT:=hkids
 have HB0:=Lib.hid (below_new (Below.refl w.heap.size w) (.cells #[.int .i64 3,.int .i64 oa,.int .i64 ob] 198))
 have hy:=heap_new w (.cells #[.int .i64 3,.int .i64 oa,.int .i64 ob] 198)
 have HY:=Lib.hid hy
 clear hy
 have i0:(0:Int)≤(p:Int):=by omega
 have i1:(p:Int)<(on:Int):=by omega
 simp only at c0 c1 c2
 go_enter Tryz.func213,Tryz.ntmps213
 go_upto_region 2 with fail
 generalize w.alloc (.cells #[.int .i64 3,.int .i64 oa,.int .i64 ob] 198)=W5 at *
 clear c0 c1 c2
 go_wp2_with fail
 refine (widthMask_any wd _ (by omega) h4).mono ?_
 rintro _ w' ⟨rfl,rfl⟩
 go_wp2_with fail
 go_loopw [1,12,13] (fun a v i wr=>∃(k:Nat) (B:Option Addr) (d:Nat),k≤0∧i = .int .i64 (k:Int)∧a = .int .i64 ((p:Int)+1+(lensK ks k:Int))∧v = .slice B k d∧Sepa W5 wr [.cel (celI (evK vals (mod2 wd) ks k)) (.slice B k d)]) (fun _ _ i _=>0 - (intOf i).toNat)
 case atStart=>exact ⟨0,none,0,by omega,rfl,by rw [lensK_zero];simp,rfl,(Sepa.refl W5).pushNil 3 1⟩
 case round =>
  obtain ⟨k,B,d,hk,rfl,rfl,rfl,hs⟩:=hrel
  have HS:=Lib.hid hs
  have HB:=Lib.hid (below_tr HB0.out hs.bel)
  clear hs
  have hy:=heap_tr HS.out.bel HY.out
  have y0:=cell_heap (k:=0) hy rfl
  have ly:=heap_lt0 hy
  clear hy
  go_wp2_with fail
  refine (opArity_any 3 _).mono ?_
  rw [HAR.out]
  rintro _ w' ⟨rfl,rfl⟩
  by_cases hltk:k<0
  ·exfalso
   omega
  ·have hkn:k=0:=by omega
   have hdk:decide ((k:Int)<(0:Int))=false:=decide_eq_false (by omega)
   clear hltk
   subst k
   have hy:=heap_tr HS.out.bel HY.out
   have y0:=cell_heap (k:=0) hy rfl
   have y1:=cell_heap (k:=1) hy rfl
   have y2:=cell_heap (k:=2) hy rfl
   have ly:=heap_lt0 hy
   clear hy
   have h16:=mod2_le h1 h4
   have h2M:=mod2_two h1
   have HAW:=Lib.hid (andW (wd:=wd) (by omega) h4)
   obtain ⟨X,rfl⟩:∃X:Nat,oa=(X:Int):=⟨oa.toNat,by omega⟩
   obtain ⟨bv,ov,hVA,hbv,hcv⟩:=HV.out.2 (by omega)
   subst hVA
   have hx:=(HB.out.cell (p:=⟨bv,ov+X,none⟩) hbv).trans (hcv X (by omega))
   have lbv:=below_lt HB.out hbv
   have HAT2:Hid (atI vals (X:Int)=vals[X]?.getD 0):=by show _=_;unfold atI;rw [Int.toNat_natCast]
   generalize vals[X]?.getD 0=xv at *
   have q0:(0:Int)≤(X:Int):=by omega
   have q1:(X:Int)<(vn:Int):=by omega
   clear hcv hbv
   obtain ⟨Y,rfl⟩:∃Y:Nat,ob=(Y:Int):=⟨ob.toNat,by omega⟩
   have f2:IntKind.u64.wrap (Y:Int)=(Y:Int):=by rw [IntKind.wrap_u64];omega
   generalize hM:mod2 wd=M at *
   obtain ⟨mk,hmk⟩:∃m,M - 1=m:=⟨_,rfl⟩
   have HM:=Lib.hid hM
   clear hM
   rw [hmk] at HAW
   (try rw [hmk])
   have HMK:=Lib.hid hmk
   clear hmk
   go_wp2_with fail
   have hsub:=sub_ne wr
   have hsc:=sub_cell wr
   refine wp_region_below wr (by kernel_rfl) (by kernel_rfl) (Below.refl _ _) ?_
   repeat (go_big_quiet_step (fail))
   refine wpQuiet_nil ?_
   rintro _ ⟨⟨w5,hD⟩,rfl⟩
   clear hsub hsc
   clear y0 y1 y2 ly
   have HB2:=Lib.hid (below_tr HB.out hD)
   clear hD
   go_wp2_with fail
   go_ret2
   refine ⟨ret_pair ?_ rfl,HB2.out⟩
   rw [HM.out,HAT2.out,HAW.out,and1,Int.toNat_natCast]
end Go.Proofs.YtlinbdkbbhpdpaaGreat
