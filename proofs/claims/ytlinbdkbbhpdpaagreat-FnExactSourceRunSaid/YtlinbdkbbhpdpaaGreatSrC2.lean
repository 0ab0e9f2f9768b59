/- Regions that draw their order and end in one operation that waits for all others but some that touch no memory, step by step. The first state of a flat module in the program (printed by mkcy1.py). Values of the assignments of a flat module, in both programs. The values of all signals of a flat module in a cycle, in the program (printed by mkcy2.py). -/
import Derived.Test.YtlinbdkbbhpdpaaGreatCopies
import Derived.Test.YtlinbdkbbhpdpaaGreatHeldT
import Derived.Test.YtlinbdkbbhpdpaaGreatResc
import Derived.Test.YtlinbdkbbhpdpaaGreatSrE1
import Derived.Test.YtlinbdkbbhpdpaaGreatSrG1
import Derived.Test.YtlinbdkbbhpdpaaGreatSrO
namespace Go.Proofs.YtlinbdkbbhpdpaaGreat
set_option maxRecDepth 100000
open Go.RowKit

section
variable {P:Program} {l:List Oper} {Q:Exit→Act→World→Prop} {S:World→Prop} {n:Nat} {x:List Nat}
/-- Whatever order is picked: S holds behind each operation but the last. -/
def anyU (P:Program) (l:List Oper) (Q:Exit→Act→World→Prop) (S:World→Prop) (n:Nat) (x:List Nat):Nat→Array Bool→Act→World→Prop
 | 0,d,a,w=>Region.ready .any l.toArray d=[]∧Q .normal a w
 | f+1,d,a,w=>(Region.ready .any l.toArray d=[]→Q .normal a w)∧∀i∈Region.ready .any l.toArray d,wpOp P l.toArray Q i (fun a' w'=>((i<n→S w')∧(i∈x→w'=w))∧anyU P l Q S n x f (d.setIfInBounds i true) a' w') a w
theorem anyU_any:∀(f:Nat) (d:Array Bool) (a:Act) (w:World),anyU P l Q S n x f d a w→wpAny P .any l.toArray Q f d a w
 | 0,_,_,_,h=>h
 | f+1,_,_,_,h=>⟨h.1,fun i hi=>wpOp_mono (fun a' w' k=>anyU_any f _ a' w' k.2) (h.2 i hi)⟩
/-- The operations from n on wait for each of the first n. -/
def lastX (l:List Oper) (n:Nat) (x:List Nat):Bool:=Region.noSelect l.toArray && (List.range l.length).all fun m=>(decide (m<n) || x.contains m) || match l[m]? with
 | some o=>(List.range n).all fun i=>o.after.toList.any fun e=>Region.binds .any e && e.on==i
 | none=>false
theorem lastX_spec (h:lastX l n x=true):Region.noSelect l.toArray=true∧∀m,n≤m→m∉x→∀i,i<n→∀d:Array Bool,d.getD i true=false→m∉Region.ready .any l.toArray d:=by
 unfold lastX at h
 simp only [Bool.and_eq_true] at h
 refine ⟨h.1,fun m hm hmx i hi d hd hr=>?_⟩
 obtain ⟨_,o,ho,hall⟩:=mem_ready.1 hr
 have hl:=(Array.getElem?_eq_some_iff.1 ho).1
 rw [List.size_toArray] at hl
 have h3:=List.all_eq_true.1 h.2 m (List.mem_range.2 hl)
 rw [List.getElem?_toArray] at ho
 rw [ho,decide_eq_false (by omega:¬m<n),Bool.false_or,show x.contains m=false from by simpa using hmx,Bool.false_or] at h3
 obtain ⟨e,he,hb⟩:=List.any_eq_true.1 (List.all_eq_true.1 h3 i (List.mem_range.2 hi))
 simp only [Bool.and_eq_true,beq_iff_eq] at hb
 have h4:=hall e (Array.mem_toList_iff.1 he) hb.1
 rw [hb.2,getD_down hd] at h4
 cases h4
theorem wp_region_U {id:Nat} {a:Act} {w:World} (n:Nat) (x:List Nat) (S:World→Prop) (hS:S w.drew) (h:lastX l n x=true→S w.drew→anyU P l Q S n x l.length (Array.replicate l.length false) a w.drew)
  (hB:lastX l n x=true:=by kernel_rfl) (hm:P.follows .mixedOrders=true:=by kernel_rfl):(Code.region id l.toArray true).wp P Q a w :=
 wp_region_any hm (anyU_any _ _ _ _ (h hB hS))
theorem anyU_first {i:Nat} {oi:Oper} {v:Value} (hB:lastX l n x=true) (hi:l.toArray[i]?=some oi) (hin:i<n)
  (hQ:∀c a w,Q (.panic c) (a.put oi.dst v) w→Q (.panic c) a w):∀(f:Nat) (d:Array Bool) (a:Act) (w:World),
   (∀j oj,l.toArray[j]?=some oj→j≠i→d.getD j true=false→(∀e∈oj.after,Region.binds .any e=true→e.on≠i)→oi.apart l.toArray oj=true) →
   i∈Region.ready .any l.toArray d→YieldsIf P l.toArray S oi v a→S w →
   anyU P l Q S n x f (d.setIfInBounds i true) (a.put oi.dst v) w→anyU P l Q S n x (f+1) d a w:=by
 obtain ⟨hsel,hlast⟩:=lastX_spec hB
 have hno:=Region.noSelect_spec hsel
 intro f
 induction f with
 | zero =>
  intro d a w _ hr hy hS H
  refine ⟨fun h=>(by rw [h] at hr;cases hr),fun j hj=>?_⟩
  by_cases hji:j=i
  ·subst hji;exact hy.wpOp hi hS ⟨⟨fun _=>hS,fun _=>rfl⟩,H⟩
  ·have:=ready_mono hj hji
   rw [H.1] at this
   cases this
 | succ f ih =>
  intro d a w hfree hr hy hS H
  refine ⟨fun h=>(by rw [h] at hr;cases hr),fun j hj=>?_⟩
  by_cases hji:j=i
  ·subst hji;exact hy.wpOp hi hS ⟨⟨fun _=>hS,fun _=>rfl⟩,H⟩
  ·have hiu:=(mem_ready.1 hr).1
   obtain ⟨hju,oj,hoj,hall⟩:=mem_ready.1 hj
   have hjn:j<n∨j∈x:=Classical.byContradiction fun h2=>hlast j (Nat.le_of_not_lt fun h3=>h2 (.inl h3)) (fun h3=>h2 (.inr h3)) i hin d hiu hj
   have hnot:∀e∈oj.after,Region.binds .any e=true→e.on≠i:=fun e he hb heq=>by
    have h1:=hall e he hb
    rw [heq,getD_down hiu] at h1
    cases h1
   have h2:=wpOp_putIf hoj (hfree j oj hoj hji hju hnot) (fun cs b=>hno i oi cs b hi) (fun cs b=>hno j oj cs b hoj) hQ hy (H.2 j (ready_mono hj hji))
   refine wpOp_mono (fun a' w' h3=>⟨h3.2.1,ih (d.setIfInBounds j true) a' w' (fun k ok hk hki hun hk2=>?_) (ready_mono hr (Ne.symm hji)) h3.1 (hjn.elim h3.2.1.1 fun h4=>by rw [h3.2.1.2 h4];exact hS) ?_⟩) h2
   ·refine hfree k ok hk hki ?_ hk2
    by_cases hjk:j=k
    ·subst hjk;exact hju
    ·rw [getD_set_ne true hjk] at hun;exact hun
   ·rw [Array.setIfInBounds_comm _ _ hji]
    exact h3.2.2
theorem anyU_free {i:Nat} {oi:Oper} {v:Value} (hB:lastX l n x=true) (hi:l.toArray[i]?=some oi) (hin:n≤i)
  (hQ:∀c a w,Q (.panic c) (a.put oi.dst v) w→Q (.panic c) a w):∀(f:Nat) (d:Array Bool) (a:Act) (w:World),
   (∀j oj,l.toArray[j]?=some oj→j≠i→d.getD j true=false→(∀e∈oj.after,Region.binds .any e=true→e.on≠i)→oi.apart l.toArray oj=true) →
   i∈Region.ready .any l.toArray d→YieldsIf P l.toArray (fun _=>True) oi v a →
   anyU P l Q S n x f (d.setIfInBounds i true) (a.put oi.dst v) w→anyU P l Q S n x (f+1) d a w:=by
 obtain ⟨hsel,-⟩:=lastX_spec hB
 have hno:=Region.noSelect_spec hsel
 intro f
 induction f with
 | zero =>
  intro d a w _ hr hy H
  refine ⟨fun h=>(by rw [h] at hr;cases hr),fun j hj=>?_⟩
  by_cases hji:j=i
  ·subst hji;exact hy.wpOp hi trivial ⟨⟨fun h=>absurd h (by omega),fun _=>rfl⟩,H⟩
  ·have:=ready_mono hj hji
   rw [H.1] at this
   cases this
 | succ f ih =>
  intro d a w hfree hr hy H
  refine ⟨fun h=>(by rw [h] at hr;cases hr),fun j hj=>?_⟩
  by_cases hji:j=i
  ·subst hji;exact hy.wpOp hi trivial ⟨⟨fun h=>absurd h (by omega),fun _=>rfl⟩,H⟩
  ·have hiu:=(mem_ready.1 hr).1
   obtain ⟨hju,oj,hoj,hall⟩:=mem_ready.1 hj
   have hnot:∀e∈oj.after,Region.binds .any e=true→e.on≠i:=fun e he hb heq=>by
    have h1:=hall e he hb
    rw [heq,getD_down hiu] at h1
    cases h1
   have h2:=wpOp_putIf hoj (hfree j oj hoj hji hju hnot) (fun cs b=>hno i oi cs b hi) (fun cs b=>hno j oj cs b hoj) hQ hy (H.2 j (ready_mono hj hji))
   refine wpOp_mono (fun a' w' h3=>⟨h3.2.1,ih (d.setIfInBounds j true) a' w' (fun k ok hk hki hun hk2=>?_) (ready_mono hr (Ne.symm hji)) h3.1 ?_⟩) h2
   ·refine hfree k ok hk hki ?_ hk2
    by_cases hjk:j=k
    ·subst hjk;exact hju
    ·rw [getD_set_ne true hjk] at hun;exact hun
   ·rw [Array.setIfInBounds_comm _ _ hji]
    exact h3.2.2
/-- Taken first. -/
theorem onU {oi:Oper} {v:Value} {f:Nat} {d:Array Bool} {a a':Act} {w:World} (hT:lastX l n x=true) (i:Nat) (hi:l.toArray[i]?=some oi) (hS:S w) (h:anyU P l Q S n x f (d.setIfInBounds i true) a' w)
  (hy:∀w,S w→(execOp a.eval oi).run P w = .ok (.value v) w:=by (intro w hSw;(try dsimp only at hSw);go_simp) <;> with_reducible rfl)
  (hc:(decide (i<n) && Region.free .any l.toArray d i && (Region.ready .any l.toArray d).contains i)=true:=by kernel_rfl) (hw:Region.wanted oi (yielded l.toArray a.tmps)=true:=by rfl)
  (ha:a.put oi.dst v=a':=by (try simp only [Act.put,List.setIfInBounds_toArray,List.set_cons_zero,List.set_cons_succ]);exact rfl)
  (hQ:∀c a w,Q (.panic c) (a.put oi.dst v) w→Q (.panic c) a w:=by exact fun _ _ _ h=>h):anyU P l Q S n x (f+1) d a w:=by
 subst ha
 simp only [Bool.and_eq_true,decide_eq_true_eq] at hc
 have hr:i∈Region.ready .any l.toArray d:=by simpa using hc.2
 exact anyU_first hT hi hc.1.1 hQ f d a w (Region.free_spec hi hc.1.2) hr (.inl ⟨hw,hy⟩) hS h
/-- One that touches no memory, taken first. -/
theorem freeU {oi:Oper} {v:Value} {f:Nat} {d:Array Bool} {a a':Act} {w:World} (hT:lastX l n x=true) (i:Nat) (hi:l.toArray[i]?=some oi) (h:anyU P l Q S n x f (d.setIfInBounds i true) a' w)
  (hy:∀w,(execOp a.eval oi).run P w = .ok (.value v) w:=by (intro w;go_simp) <;> with_reducible rfl)
  (hc:(decide (n≤i) && Region.free .any l.toArray d i && (Region.ready .any l.toArray d).contains i)=true:=by kernel_rfl) (hw:Region.wanted oi (yielded l.toArray a.tmps)=true:=by rfl)
  (ha:a.put oi.dst v=a':=by (try simp only [Act.put,List.setIfInBounds_toArray,List.set_cons_zero,List.set_cons_succ]);exact rfl)
  (hQ:∀c a w,Q (.panic c) (a.put oi.dst v) w→Q (.panic c) a w:=by exact fun _ _ _ h=>h):anyU P l Q S n x (f+1) d a w:=by
 subst ha
 simp only [Bool.and_eq_true,decide_eq_true_eq] at hc
 have hr:i∈Region.ready .any l.toArray d:=by simpa using hc.2
 exact anyU_free hT hi hc.1.1 hQ f d a w (Region.free_spec hi hc.1.2) hr (.inl ⟨hw,fun w _=>hy w⟩) h
/-- The only one that may come up. -/
theorem callU {oi:Oper} {f:Nat} {d:Array Bool} {a:Act} {w:World} (_hT:lastX l n x=true) (i:Nat) (hi:l.toArray[i]?=some oi)
  (h:∀K':Act→World→Prop,Shut (∀a w,S w→(S w→anyU P l Q S n x f (d.setIfInBounds i true) a w)→K' a w)→if Region.wanted oi (yielded l.toArray a.tmps)=true then Oper.wp P oi a w K' Q else K' (a.put oi.dst undef) w)
  (hc:(decide (i<n) && !x.contains i && decide (Region.ready .any l.toArray d=[i]))=true:=by kernel_rfl):anyU P l Q S n x (f+1) d a w:=by
 simp only [Bool.and_eq_true,decide_eq_true_eq] at hc
 have hr:i∈Region.ready .any l.toArray d:=by rw [hc.2];exact List.mem_singleton.2 rfl
 refine ⟨fun h0=>(by rw [h0] at hr;cases hr),fun j hj=>?_⟩
 rw [hc.2,List.mem_singleton] at hj
 subst hj
 exact wpOp_step hi fun K hK=>h K fun a w' hS hW=>hK a w' ⟨⟨fun _=>hS,fun h=>absurd h (by simpa using hc.1.2)⟩,hW hS⟩
/-- One of those behind the first n, when no other may come up. -/
theorem tailU {oi:Oper} {v:Value} {f:Nat} {d:Array Bool} {a a':Act} {w:World} (_hT:lastX l n x=true) (i:Nat) (hi:l.toArray[i]?=some oi) (h:anyU P l Q S n x f (d.setIfInBounds i true) a' w)
  (hy:(execOp a.eval oi).run P w = .ok (.value v) w:=by go_simp <;> with_reducible rfl)
  (hc:(decide (n≤i) && !x.contains i && decide (Region.ready .any l.toArray d=[i]))=true:=by kernel_rfl) (hw:Region.wanted oi (yielded l.toArray a.tmps)=true:=by rfl)
  (ha:a.put oi.dst v=a':=by (try simp only [Act.put,List.setIfInBounds_toArray,List.set_cons_zero,List.set_cons_succ]);exact rfl):anyU P l Q S n x (f+1) d a w:=by
 subst ha
 simp only [Bool.and_eq_true,decide_eq_true_eq] at hc
 have hr:i∈Region.ready .any l.toArray d:=by rw [hc.2];exact List.mem_singleton.2 rfl
 refine ⟨fun h0=>(by rw [h0] at hr;cases hr),fun j hj=>?_⟩
 rw [hc.2,List.mem_singleton] at hj
 subst hj
 have hY:YieldsIf P l.toArray (fun w'=>w'=w) oi v a := .inl ⟨hw,fun w' e=>by subst e;exact hy⟩
 exact hY.wpOp hi rfl ⟨⟨fun h=>absurd h (by omega),fun h=>absurd h (by simpa using hc.1.2)⟩,h⟩
/-- The last one. -/
theorem lastU {oi:Oper} {f:Nat} {d:Array Bool} {a:Act} {w:World} (_hT:lastX l n x=true) (i:Nat) (hi:l.toArray[i]?=some oi) (h:wpList P l.toArray Q [oi] a w)
  (hc:(decide (f=0) && decide (n≤i) && !x.contains i && decide (Region.ready .any l.toArray d=[i]) && decide (Region.ready .any l.toArray (d.setIfInBounds i true)=[]))=true:=by kernel_rfl):anyU P l Q S n x (f+1) d a w:=by
 simp only [Bool.and_eq_true,decide_eq_true_eq] at hc
 obtain ⟨⟨⟨⟨rfl,h1⟩,hx⟩,h2⟩,h3⟩:=hc
 have hr:i∈Region.ready .any l.toArray d:=by rw [h2];exact List.mem_singleton.2 rfl
 refine ⟨fun h0=>(by rw [h0] at hr;cases hr),fun j hj=>?_⟩
 rw [h2,List.mem_singleton] at hj
 subst hj
 exact wpOp_mono (K:=fun a w=>Q .normal a w) (fun a' w' hq=>⟨⟨fun h=>absurd h (by omega),fun h=>absurd h (by simpa using hx)⟩,h3,hq⟩) (by unfold wpOp;rw [hi];exact h)
end
end Go.Proofs.YtlinbdkbbhpdpaaGreat

namespace Go.Proofs.YtlinbdkbbhpdpaaGreat
set_option maxRecDepth 100000
open Go.RowKit

set_option maxHeartbeats 2000000 in
theorem flatStart_any (m:MdT) (SA AA JA MA:Option Addr) (sn sc an ac jn jc mn mc:Nat) (w:World) (h:MdRd w m SA AA JA MA sn sc an ac jn jc mn mc) (hf:FlatFit m) :
  Calls Tryz.prog 166 #[.agg #[.slice SA sn sc,.slice AA an ac,.slice JA jn jc,.slice MA mn mc]] w fun e w'=>∃g0 g1,e = .returned (.agg #[.slice (some ⟨g0,0,none⟩) sn sn,.slice (some ⟨g1,0,none⟩) (4 * mn) (4 * mn)])∧Sepa w w' [.cel (celI (staV m)) (.slice (some ⟨g0,0,none⟩) sn sn),.cel (celI (staW m)) (.slice (some ⟨g1,0,none⟩) (4 * mn) (4 * mn))]:=by
 have HL1:=Lib.hid h.lens.1
 have HL2:=Lib.hid h.lens.2.1
 have HL4:=Lib.hid h.lens.2.2.2
 have HM:=Lib.hid h
 have HF:=Lib.hid hf
 have hs30:sn≤30:=by have h1:=hf.cnt.sg;rw [HL1.out] at h1;exact h1
 have ha30:an≤30:=by have h1:=hf.cnt.asg;rw [HL2.out] at h1;exact h1
 have hm2:mn≤2:=by have h1:=hf.cnt.mm;rw [HL4.out] at h1;exact h1
 clear h hf
 have h0:=((Sepa.refl w).pushBlk #[.slice SA sn sc,.slice AA an ac,.slice JA jn jc,.slice MA mn mc] 108).pushBlk #[.slice none 0 0,.slice none 0 0] 158
 simp only [World.size_alloc] at h0
 go_enter Tryz.func166,Tryz.ntmps166
 go_upto_region 1 with fail
 obtain ⟨gX,hgX⟩:∃g,w.heap.size=g:=⟨_,rfl⟩
 obtain ⟨gR,hgR⟩:∃g,w.heap.size+1=g:=⟨_,rfl⟩
 rw [hgR] at h0
 (try rw [hgR])
 rw [hgX] at h0
 (try rw [hgX])
 clear hgX hgR
 have HS0:=Lib.hid h0
 clear h0
 generalize (w.alloc (.cells #[.slice SA sn sc,.slice AA an ac,.slice JA jn jc,.slice MA mn mc] 108)).alloc (.cells #[.slice none 0 0,.slice none 0 0] 158)=W9 at *
 have x0:=cell_heap (k:=0) (HS0.out.blk 0 rfl).1 rfl
 have x3:=cell_heap (k:=3) (HS0.out.blk 0 rfl).1 rfl
 have lx:=heap_lt0 (HS0.out.blk 0 rfl).1
 have hmk:=fun W=>run_make_ints sn (by omega) W
 have hmk4:=fun W=>run_make_ints4 mn (by omega) W
 have HN0:=Lib.hid (Sepa.refl W9)
 go_cut [3] (fun p w'=>StartW W9 sn (4 * mn) p w')
 case first =>
  go_region
  all_goals
   go_wp2_with fail
   go_meet
   (try simp only [drew_allocQ])
   first|exact (stw_a HN0.out (by omega) (by omega)).drew|exact (stw_b HN0.out (by omega) (by omega)).drew|exact (stw_c HN0.out (by omega) (by omega)).drew|exact (stw_d HN0.out (by omega) (by omega)).drew|exact (stw_e HN0.out (by omega) (by omega)).drew|exact (stw_f HN0.out (by omega) (by omega)).drew
 obtain ⟨gS,g0,g1,rfl,hS1⟩:=hcut
 have HS1:=Lib.hid (HS0.out.join hS1)
 have HZ0:Hid (staTo m 0=List.replicate sn 0):=by show _=_;rw [←HL1.out];rfl
 have HZ1:Hid (staW m=List.replicate (4 * mn) 0):=by show _=_;rw [←HL4.out];rfl
 clear hS1 HN0 HS0 x0 x3 lx hmk hmk4
 have x0:=cell_heap (k:=0) (HS1.out.blk 0 rfl).1 rfl
 have lx:=heap_lt0 (HS1.out.blk 0 rfl).1
 go_wp2_with fail
 clear x0 lx
 go_loopw [19] (fun i wr=>∃k:Nat,k≤sn∧i = .int .i64 (k:Int)∧Sepa w wr [.blk gX #[.slice SA sn sc,.slice AA an ac,.slice JA jn jc,.slice MA mn mc] 108,wsB gR (.slice none 0 0) (.slice none 0 0),wsB gS (.slice (some ⟨g0,0,none⟩) sn sn) (.slice (some ⟨g1,0,none⟩) (4 * mn) (4 * mn)),.cel (celI (staTo m k)) (.slice (some ⟨g0,0,none⟩) sn sn),.cel (celI (staW m)) (.slice (some ⟨g1,0,none⟩) (4 * mn) (4 * mn))]) (fun i _=>sn - (intOf i).toNat)
 case atStart=>exact ⟨0,by omega,rfl,by rw [HZ0.out,HZ1.out];exact HS1.out⟩
 case round =>
  obtain ⟨k,hkk,rfl,hs⟩:=hrel
  have HS:=Lib.hid hs
  clear hs
  by_cases hlt:k<sn
  ·have hdk:decide ((k:Int)<(sn:Int))=true:=by simp;omega
   have i0:(0:Int)≤(k:Int):=by omega
   have i1:(k:Int)<(sn:Int):=by omega
   have hkl:k<m.sigs.length:=by rw [HL1.out];exact hlt
   obtain ⟨bs,os,hSA,hbs,c0,c1,c2⟩:=HM.out.sg.sgE (k:=k) hkl
   subst hSA
   rw [←HS.out.bel.cell (p:=⟨bs,os+k * 3,none⟩) hbs] at c0
   rw [←HS.out.bel.cell (p:=⟨bs,os+k * 3+1,none⟩) hbs] at c1
   rw [←HS.out.bel.cell (p:=⟨bs,os+k * 3+2,none⟩) hbs] at c2
   have lbs:=below_lt HS.out.bel hbs
   have HTK:Hid (staTo m (k+1)=(staTo m k).set k ((m.sigs[k]?.getD SgT.zero).init % mod2 (m.sigs[k]?.getD SgT.zero).width)):=rfl
   have hwd:=HF.out.wd hkl
   have hfit:=(HF.out.sgf hkl).2
   have HSK:=Lib.hid (fun h0=>staTo_skip (m:=m) hkl h0)
   unfold sgK at hwd hfit HSK
   generalize m.sigs[k]?.getD SgT.zero=q at *
   obtain ⟨kd,wd,it⟩:=q
   simp only at c0 c1 c2 HTK hwd hfit HSK
   generalize staTo m k=vk at *
   clear hkl hbs
   by_cases h3:kd=3
   ·have d3:(kd==3)=true:=by simp [h3]
    clear h3 hfit HSK
    have HS5:=Lib.hid (HS.out.alloc (.cells #[.int .i64 kd,.int .i64 wd,.int .i64 it] 155))
    have hy:=heap_new wr (.cells #[.int .i64 kd,.int .i64 wd,.int .i64 it] 155)
    have HY:=Lib.hid hy
    clear hy
    go_upto_region 5 with fail
    generalize wr.alloc (.cells #[.int .i64 kd,.int .i64 wd,.int .i64 it] 155)=W5 at *
    clear c0 c1 c2 lbs
    have y0:=cell_heap (k:=0) HY.out rfl
    have y1:=cell_heap (k:=1) HY.out rfl
    have y2:=cell_heap (k:=2) HY.out rfl
    have ly:=heap_lt0 HY.out
    obtain ⟨gY,hgY⟩:∃g,wr.heap.size=g:=⟨_,rfl⟩
    rw [hgY] at y0 y1 y2 ly
    (try rw [hgY])
    clear hgY HY
    have s0:=cell_heap (k:=0) (HS5.out.blk 2 rfl).1 rfl
    have HAW:=Lib.hid (andW (wd:=wd) (by omega) (by omega))
    obtain ⟨mk,hmk⟩:∃y,mod2 wd - 1=y:=⟨_,rfl⟩
    rw [hmk] at HAW
    have HMK:=Lib.hid hmk
    clear hmk
    have HT:Hid (Sepa w W5.drew ([.blk gX #[.slice (some ⟨bs,os,none⟩) sn sc,.slice AA an ac,.slice JA jn jc,.slice MA mn mc] 108,wsB gR (.slice none 0 0) (.slice none 0 0),wsB gS (.slice (some ⟨g0,0,none⟩) sn sn) (.slice (some ⟨g1,0,none⟩) (4 * mn) (4 * mn)),.cel (celI (vk)) (.slice (some ⟨g0,0,none⟩) sn sn),.cel (celI (staW m)) (.slice (some ⟨g1,0,none⟩) (4 * mn) (4 * mn))])):=Lib.hid HS5.out.drew
    go_upto_region 6 with fail
    refine wp_region_noPanic ?_
    refine wp_region_T 10 (fun w'=>w'.cell? ⟨gS,0,none⟩=some (.slice (some ⟨g0,0,none⟩) sn sn)∧w'.cell? ⟨gY,2,none⟩=some (.int .i64 it)∧w'.cell? ⟨gY,1,none⟩=some (.int .i64 wd)) (⟨s0,y2,y1⟩) (fun hT hD=>?_)
    refine onT hT 0 opA hD ?_
    refine onT hT 1 (opB opA) hD ?_
    refine onT hT 2 (opB (opB opA)) hD ?_
    refine onT hT 3 (opB (opB (opB opA))) hD ?_
    refine onT hT 4 (opC opA) hD ?_
    refine onT hT 5 (opC (opB opA)) hD ?_
    refine onT hT 6 (opC (opB (opB opA))) hD ?_
    refine callT hT 7 (opC (opB (opB (opB opA)))) (fun K hK=>?_)
    go_simp
    go_at_call 110
    refine (widthMask_any wd _ (by omega) (by omega)).mono ?_
    rw [HMK.out]
    rintro _ w7 ⟨rfl,rfl⟩
    refine hK.out _ _ (hD) (fun hD=>?_)
    clear hK K
    try simp only [Act.put,List.setIfInBounds_toArray,List.set_cons_zero,List.set_cons_succ]
    refine onT hT 8 (opC (opC opA)) hD ?_
    refine onT hT 9 (opC (opC (opB opA))) hD ?_
    obtain ⟨_,hg7,_,q8,c8,f8,hu⟩:=HT.out.setI 3 (i:=k) rfl hlt
    injection hg7 with hg7
    injection hg7 with hg7
    subst hg7
    refine lastT hT 10 (opC (opC (opB (opB opA)))) ?_
    go_wp2_with fail
    refine NoPanic.normal ?_
    have HS9:=Lib.hid (hu (bits .and .i64 it mk))
    go_wp2_with fail
    go_roundw
    case rel=>exact ⟨k+1,by omega,by go_num,by rw [HTK.out,←HAW.out];exact HS9.out⟩
    case measure=>simp [intOf];omega
   ·have d3:(kd==3)=false:=by simp [h3]
    have h0:it=0:=hfit.resolve_right fun h=>h3 h.1
    have HE:=Lib.hid (HSK.out h0)
    have HS5:=Lib.hid (HS.out.alloc (.cells #[.int .i64 kd,.int .i64 wd,.int .i64 it] 155))
    have hy:=heap_new wr (.cells #[.int .i64 kd,.int .i64 wd,.int .i64 it] 155)
    have y0:=cell_heap (k:=0) hy rfl
    have ly:=heap_lt0 hy
    clear h3 hfit HSK h0 hy
    go_wp2_with fail
    go_roundw
    case rel=>exact ⟨k+1,by omega,by go_num,by rw [HE.out];exact HS5.out⟩
    case measure=>simp [intOf];omega
  ·have hkn:k=sn:=by omega
   have hdk:decide ((k:Int)<(sn:Int))=false:=by simp;omega
   clear hlt
   subst k
   have HE:Hid (staTo m sn=staV m):=by show _=_;rw [←HL1.out];exact staTo_done m
   have h9:=HS.out
   rw [HE.out] at h9
   clear HS
   have s0:=cell_heap (k:=0) (h9.blk 2 rfl).1 rfl
   have s1:=cell_heap (k:=1) (h9.blk 2 rfl).1 rfl
   have ls:=heap_lt0 (h9.blk 2 rfl).1
   have e0:=cell_heap (k:=0) (h9.blk 1 rfl).1 rfl
   have e1:=cell_heap (k:=1) (h9.blk 1 rfl).1 rfl
   have e2:=fun k=>frozen_heap (h9.blk 1 rfl).1 k
   have le:=heap_lt0 (h9.blk 1 rfl).1
   have HP:=Lib.hid ((h9.put 1 rfl 0 (.slice (some ⟨g0,0,none⟩) sn sn)).put 1 rfl 1 (.slice (some ⟨g1,0,none⟩) (4 * mn) (4 * mn)))
   clear h9
   go_wp2_with fail
   generalize (wr.setCell ⟨gR,0,none⟩ (.slice (some ⟨g0,0,none⟩) sn sn)).setCell ⟨gR,1,none⟩ (.slice (some ⟨g1,0,none⟩) (4 * mn) (4 * mn))=WF at *
   have hb:WF.heap[gR]?=some (.cells #[.slice (some ⟨g0,0,none⟩) sn sn,.slice (some ⟨g1,0,none⟩) (4 * mn) (4 * mn)] 158 (0,0)):=(HP.out.blk 1 rfl).1
   exact bodyPost_ret (v := .agg #[.slice (some ⟨g0,0,none⟩) sn sn,.slice (some ⟨g1,0,none⟩) (4 * mn) (4 * mn)]) (results_cell1 Tryz.results166 rfl hb Tryz.underlying158 (by kernel_rfl)) rfl ⟨g0,g1,rfl,HP.out.sub (qs:=[_,_]) (.cons _ (.cons _ (.cons _ (List.Sublist.refl _))))⟩
end Go.Proofs.YtlinbdkbbhpdpaaGreat

namespace Go.Proofs.YtlinbdkbbhpdpaaGreat
set_option maxRecDepth 100000
open Go.RowKit

section
variable {m:MdT} (hf:FlatFit m) {i T:Nat} (hi:i<m.asgs.length) (hT:(asK m i).target=(T:Int)) (A:Option Addr) (on oc:Nat) (vals:List Int) (VA:Option Addr) (vn vc:Nat) (w:World) (hvn:m.sigs.length=vn)
  (hr:RdC w w.heap.size (celOp (asK m i).ops) (.slice A on oc)) (hv:Ints w VA vn vals)
include hf hi hT hvn hr hv
theorem exprAt_asg:Calls Tryz.prog 213 #[.slice A on oc,.int .i64 0,.slice VA vn vc,.int .i64 (m.sigs[T]?.getD SgT.zero).width] w fun e w'=>e = .returned (.tuple #[.int .i64 (evA m vals (asK m i)),.int .i64 (on:Int)])∧Below w.heap.size w w':=by
 obtain ⟨h1,h2,h3⟩:=hf.tree hi
 have hw:=hf.wd (s:=T) (by have h4:=(hf.asf hi).1.1.2;rw [hT] at h4;omega)
 have hl:=(hf.asf hi).2.1
 rw [hr.opN] at hl
 have h:=exprAt_any (trOf (asK m i).ops m.sigs.length) [] [] (asK m i).ops A on oc vals VA vn vc (sgK m.sigs T).width w hr hv (by rw [h1];simp) (by rw [←hvn];exact h2) h3 hw.1 hw.2 hl
 refine h.mono ?_
 rintro e w' ⟨rfl,hb⟩
 have e:evA m vals (asK m i)=evT vals (mod2 (sgK m.sigs T).width) (trOf (asK m i).ops m.sigs.length):=by unfold evA sgI;rw [hT,Int.toNat_natCast]
 rw [e,h1,hr.opN]
 exact ⟨by simp,hb⟩
theorem sl07Eval_asg (hvn30:vn≤30):Calls Tryz.prog 156 #[.slice A on oc,.int .i64 0,.slice VA vn vc,.int .i64 (mod2 (m.sigs[T]?.getD SgT.zero).width - 1)] w fun e w'=>e = .returned (.tuple #[.int .i64 (evA m vals (asK m i)),.int .i64 (on:Int)])∧Below w.heap.size w w':=by
 obtain ⟨h1,h2,h3⟩:=hf.tree hi
 have hw:=hf.wd (s:=T) (by have h4:=(hf.asf hi).1.1.2;rw [hT] at h4;omega)
 have hl:=(hf.asf hi).2.1
 rw [hr.opN] at hl
 have h:=sl07Eval_any (trOf (asK m i).ops m.sigs.length) [] [] (asK m i).ops A on oc vals VA vn vc (sgK m.sigs T).width w hr hv (by rw [h1];simp) (by rw [←hvn];exact h2) h3 hw.1 hw.2 hl hvn30
 refine h.mono ?_
 rintro e w' ⟨rfl,hb⟩
 have e:evA m vals (asK m i)=evT vals (mod2 (sgK m.sigs T).width) (trOf (asK m i).ops m.sigs.length):=by unfold evA sgI;rw [hT,Int.toNat_natCast]
 rw [e,h1,hr.opN]
 exact ⟨by simp,hb⟩
end
end Go.Proofs.YtlinbdkbbhpdpaaGreat

namespace Go.Proofs.YtlinbdkbbhpdpaaGreat
set_option maxRecDepth 100000
open Go.RowKit

set_option maxHeartbeats 4000000 in
theorem signalValues_any (m:MdT) (SA AA JA MA:Option Addr) (sn sc an ac jn jc mn mc:Nat) (o:List Nat) (vals ins:List Int) (OA VA IA:Option Addr) (on oc vc inn ic:Nat) (WV:Value) (w:World) (h:MdRd w m SA AA JA MA sn sc an ac jn jc mn mc) (hf:FlatFit m) (ho:Ints w OA on (natI o)) (hol:∀i∈o,i<m.asgs.length) (hon:on≤30) (hv:Ints w VA sn vals) (hi:Ints w IA inn ins) (hin:(pwTo m.sigs 0 m.sigs.length).length=inn) :
  Calls Tryz.prog 167 #[.agg #[.slice SA sn sc,.slice AA an ac,.slice JA jn jc,.slice MA mn mc],.slice OA on oc,.agg #[.slice VA sn vc,WV],.slice IA inn ic] w fun e w'=>∃A c,e = .returned (.slice A sn c)∧Sepa w w' [.cel (celI (sigVals m o vals ins)) (.slice A sn c)]:=by
 have HL1:=Lib.hid h.lens.1
 have HL2:=Lib.hid h.lens.2.1
 have HL4:=Lib.hid h.lens.2.2.2
 have HM:=Lib.hid h
 have HF:=Lib.hid hf
 have hs30:sn≤30:=by have h1:=hf.cnt.sg;rw [HL1.out] at h1;exact h1
 have ha30:an≤30:=by have h1:=hf.cnt.asg;rw [HL2.out] at h1;exact h1
 have hm2:mn≤2:=by have h1:=hf.cnt.mm;rw [HL4.out] at h1;exact h1
 have HO:=Lib.hid ho
 have HOL:=Lib.hid hol
 have HV:=Lib.hid hv
 have HI:=Lib.hid hi
 have HIN:=Lib.hid hin
 have HNO:Hid (o.length=on):=by have h1:=ho.1;rw [natI_len] at h1;exact h1
 have hin30:inn≤30:=by have h1:=pwTo_len m.sigs 0 m.sigs.length;rw [hin,h.lens.1] at h1;omega
 clear h hf ho hol hv hi hin
 have h0:=((Sepa.refl w).pushBlk #[.slice SA sn sc,.slice AA an ac,.slice JA jn jc,.slice MA mn mc] 108).pushBlk #[.slice VA sn vc,WV] 158
 simp only [World.size_alloc] at h0
 go_enter Tryz.func167,Tryz.ntmps167
 go_upto_region 1 with fail
 obtain ⟨gX,hgX⟩:∃g,w.heap.size=g:=⟨_,rfl⟩
 obtain ⟨gT,hgT⟩:∃g,w.heap.size+1=g:=⟨_,rfl⟩
 rw [hgT] at h0
 (try rw [hgT])
 rw [hgX] at h0
 (try rw [hgX])
 clear hgX hgT
 have HS0:=Lib.hid h0
 clear h0
 generalize (w.alloc (.cells #[.slice SA sn sc,.slice AA an ac,.slice JA jn jc,.slice MA mn mc] 108)).alloc (.cells #[.slice VA sn vc,WV] 158)=W9 at *
 have t0:=cell_heap (k:=0) (HS0.out.blk 1 rfl).1 rfl
 have lt:=heap_lt0 (HS0.out.blk 1 rfl).1
 go_wp2_with fail
 refine (copyInts_any VA sn vc vals _ (HV.out.below HS0.out.bel) (by omega)).mono ?_
 rintro _ w1 ⟨A,c,rfl,o1,b1⟩
 have HS1:Hid (Sepa w w1 [.blk gX #[.slice SA sn sc,.slice AA an ac,.slice JA jn jc,.slice MA mn mc] 108,.blk gT #[.slice VA sn vc,WV] 158,.cel (celI (vals)) (.slice A sn c)]):=Lib.hid (HS0.out.pushOwn b1 o1)
 clear o1 b1 t0 lt HS0 HV
 have x0:=cell_heap (k:=0) (HS1.out.blk 0 rfl).1 rfl
 have lx:=heap_lt0 (HS1.out.blk 0 rfl).1
 go_wp2_with fail
 clear x0 lx
 go_loopw [10,22] (fun q i wr=>∃k:Nat,k≤sn∧i = .int .i64 (k:Int)∧q = .int .i64 ((pwTo m.sigs 0 k).length:Int)∧Sepa w wr [.blk gX #[.slice SA sn sc,.slice AA an ac,.slice JA jn jc,.slice MA mn mc] 108,.blk gT #[.slice VA sn vc,WV] 158,.cel (celI (inTo m.sigs ins vals k)) (.slice A sn c)]) (fun _ i _=>sn - (intOf i).toNat)
 case atStart=>exact ⟨0,by omega,rfl,rfl,HS1.out⟩
 case round =>
  obtain ⟨k,hk,rfl,rfl,hs⟩:=hrel
  have HS:=Lib.hid hs
  clear hs
  by_cases hlt:k<sn
  ·have hdk:decide ((k:Int)<(sn:Int))=true:=by simp;omega
   have i0:(0:Int)≤(k:Int):=by omega
   have i1:(k:Int)<(sn:Int):=by omega
   have hkl:k<m.sigs.length:=by rw [HL1.out];exact hlt
   obtain ⟨bs,os,hSA,hbs,c0,c1,c2⟩:=HM.out.sg.sgE (k:=k) hkl
   subst hSA
   rw [←HS.out.bel.cell (p:=⟨bs,os+k * 3,none⟩) hbs] at c0
   rw [←HS.out.bel.cell (p:=⟨bs,os+k * 3+1,none⟩) hbs] at c1
   rw [←HS.out.bel.cell (p:=⟨bs,os+k * 3+2,none⟩) hbs] at c2
   have lbs:=below_lt HS.out.bel hbs
   have HTK:Hid (inTo m.sigs ins vals (k+1)=if (m.sigs[k]?.getD SgT.zero).kind=0 then (inTo m.sigs ins vals k).set k ((ins[(pwTo m.sigs 0 k).length]?.getD 0) % mod2 (m.sigs[k]?.getD SgT.zero).width) else inTo m.sigs ins vals k):=rfl
   have HPK:Hid ((pwTo m.sigs 0 (k+1)).length=(pwTo m.sigs 0 k).length+if (m.sigs[k]?.getD SgT.zero).kind=0 then 1 else 0):=by show _=_;rw [pwTo_snoc,List.length_append];unfold sgK;split <;> rfl
   have HPL:=Lib.hid (fun h0=>pwTo_lt m.sigs 0 (k:=k) hkl h0)
   have hpk:=pwTo_len m.sigs 0 k
   have hwd:=HF.out.wd hkl
   unfold sgK at hwd HPL
   generalize m.sigs[k]?.getD SgT.zero=q at *
   obtain ⟨kd,wd,it⟩:=q
   simp only at c0 c1 c2 HTK HPK hwd HPL
   generalize inTo m.sigs ins vals k=vk at *
   generalize (pwTo m.sigs 0 k).length=pk at *
   clear hkl hbs
   by_cases h3:kd=0
   ·have d3:(kd==0)=true:=by simp [h3]
    have hpl:=HPL.out h3
    rw [HIN.out] at hpl
    rw [if_pos h3] at HTK HPK
    clear h3 HPL
    obtain ⟨bi,oi,hIA,hbi,hci⟩:=HI.out.2 (by omega)
    have ci:=(HS.out.bel.cell (p:=⟨bi,oi+pk,none⟩) hbi).trans (hci pk hpl)
    have lbi:=below_lt HS.out.bel hbi
    subst hIA
    rw [←(below_new (Below.refl wr.heap.size wr) (.cells #[.int .i64 kd,.int .i64 wd,.int .i64 it] 155)).cell lbi] at ci
    clear hci hbi lbi
    generalize ins[pk]?.getD 0=x at *
    have HS5:=Lib.hid (HS.out.alloc (.cells #[.int .i64 kd,.int .i64 wd,.int .i64 it] 155))
    have hy:=heap_new wr (.cells #[.int .i64 kd,.int .i64 wd,.int .i64 it] 155)
    have HY:=Lib.hid hy
    clear hy
    go_upto_region 7 with fail
    generalize wr.alloc (.cells #[.int .i64 kd,.int .i64 wd,.int .i64 it] 155)=W5 at *
    clear c0 c1 c2 lbs
    have y1:=cell_heap (k:=1) HY.out rfl
    have ly:=heap_lt0 HY.out
    obtain ⟨gY,hgY⟩:∃g,wr.heap.size=g:=⟨_,rfl⟩
    rw [hgY] at y1 ly
    (try rw [hgY])
    clear hgY HY
    have HAW:=Lib.hid (andW (wd:=wd) (by omega) (by omega))
    obtain ⟨mk,hmk⟩:∃y,mod2 wd - 1=y:=⟨_,rfl⟩
    rw [hmk] at HAW
    have HMK:=Lib.hid hmk
    clear hmk
    have p0:(0:Int)≤(pk:Int):=by omega
    have p1:(pk:Int)<(inn:Int):=by omega
    have HT:Hid (Sepa w W5.drew ([.blk gX #[.slice (some ⟨bs,os,none⟩) sn sc,.slice AA an ac,.slice JA jn jc,.slice MA mn mc] 108,.blk gT #[.slice VA sn vc,WV] 158,.cel (celI (vk)) (.slice A sn c)])):=Lib.hid HS5.out.drew
    go_upto_region 7 with fail
    refine wp_region_noPanic ?_
    refine wp_region_T 11 (fun w'=>w'.cell? ⟨bi,oi+pk,none⟩=some (.int .i64 x)∧w'.cell? ⟨gY,1,none⟩=some (.int .i64 wd)) (⟨ci,y1⟩) (fun hT hD=>?_)
    refine onT hT 0 opA hD ?_
    refine onT hT 1 (opB opA) hD ?_
    refine onT hT 2 (opB (opB opA)) hD ?_
    refine onT hT 3 (opB (opB (opB opA))) hD ?_
    refine onT hT 4 (opC opA) hD ?_
    refine onT hT 5 (opC (opB opA)) hD ?_
    refine onT hT 6 (opC (opB (opB opA))) hD ?_
    refine onT hT 7 (opC (opB (opB (opB opA)))) hD ?_
    refine callT hT 8 (opC (opC opA)) (fun K hK=>?_)
    go_simp
    go_at_call 110
    refine (widthMask_any wd _ (by omega) (by omega)).mono ?_
    rw [HMK.out]
    rintro _ w7 ⟨rfl,rfl⟩
    refine hK.out _ _ (hD) (fun hD=>?_)
    clear hK K
    try simp only [Act.put,List.setIfInBounds_toArray,List.set_cons_zero,List.set_cons_succ]
    refine onT hT 9 (opC (opC (opB opA))) hD ?_
    obtain ⟨g9,hg7,_,q8,c8,f8,hu⟩:=HT.out.setI 2 (i:=k) rfl (by omega)
    subst hg7
    refine onT hT 10 (opC (opC (opB (opB opA)))) hD ?_
    refine lastT hT 11 (opC (opC (opB (opB (opB opA))))) ?_
    go_wp2_with fail
    refine NoPanic.normal ?_
    have HS9:=Lib.hid (hu (bits .and .i64 x mk))
    go_wp2_with fail
    go_roundw
    case rel=>exact ⟨k+1,by omega,by go_num,by rw [HPK.out];go_num,by rw [HTK.out,←HAW.out];exact HS9.out⟩
    case measure=>simp [intOf];omega
   ·have d3:(kd==0)=false:=by simp [h3]
    rw [if_neg h3] at HTK HPK
    have HS5:=Lib.hid (HS.out.alloc (.cells #[.int .i64 kd,.int .i64 wd,.int .i64 it] 155))
    have hy:=heap_new wr (.cells #[.int .i64 kd,.int .i64 wd,.int .i64 it] 155)
    have y0:=cell_heap (k:=0) hy rfl
    have ly:=heap_lt0 hy
    clear h3 HPL hy
    go_wp2_with fail
    go_roundw
    case rel=>exact ⟨k+1,by omega,by go_num,by rw [HPK.out];simp,by rw [HTK.out];exact HS5.out⟩
    case measure=>simp [intOf];omega
  ·have hkn:k=sn:=by omega
   have hdk:decide ((k:Int)<(sn:Int))=false:=by simp;omega
   clear hlt
   subst k
   have HS2:=HS
   clear HS
   go_wp2_with fail
   go_loopw [46] (fun i wr=>∃k:Nat,k≤on∧i = .int .i64 (k:Int)∧Sepa w wr [.blk gX #[.slice SA sn sc,.slice AA an ac,.slice JA jn jc,.slice MA mn mc] 108,.blk gT #[.slice VA sn vc,WV] 158,.cel (celI (ordTo m (inTo m.sigs ins vals sn) (o.take k))) (.slice A sn c)]) (fun i _=>on - (intOf i).toNat)
   case atStart=>exact ⟨0,by omega,rfl,by rw [List.take_zero,ordTo];exact HS2.out⟩
   case round =>
    obtain ⟨k,hkk,rfl,hs⟩:=hrel
    have HS:=Lib.hid hs
    clear hs
    by_cases hlt:k<on
    ·have hdk:decide ((k:Int)<(on:Int))=true:=by simp;omega
     have i0:(0:Int)≤(k:Int):=by omega
     have i1:(k:Int)<(on:Int):=by omega
     have hkl:k<o.length:=by have h1:=HO.out.1;rw [natI_len] at h1;omega
     have hai:=HOL.out (o[k]?.getD 0) (by rw [List.getElem?_eq_getElem hkl];exact List.getElem_mem hkl)
     obtain ⟨bo,oo,hOA,hbo,hco⟩:=HO.out.2 (by omega)
     have co:=(HS.out.bel.cell (p:=⟨bo,oo+k,none⟩) hbo).trans (hco k hlt)
     have lbo:=below_lt HS.out.bel hbo
     subst hOA
     rw [natI_get hkl] at co
     have HTK:=Lib.hid (ordTo_succ m (inTo m.sigs ins vals sn) hkl)
     generalize o[k]?.getD 0=i at *
     clear hco hbo hkl
     obtain ⟨ba,oa,QA,qn,qc,hAA,hba,c0,c1,r0⟩:=HM.out.asg.asE (k:=i) hai
     subst hAA
     rw [show m.asgs[i]?.getD AsT.zero=asK m i from rfl] at c0 r0
     rw [←HS.out.bel.cell (p:=⟨ba,oa+i * 2,none⟩) hba] at c0
     rw [←HS.out.bel.cell (p:=⟨ba,oa+i * 2+1,none⟩) hba] at c1
     have lba:=below_lt HS.out.bel hba
     have htg:=(HF.out.asf hai).1.1
     obtain ⟨T,hT⟩:∃T:Nat,(asK m i).target=(T:Int):=⟨(asK m i).target.toNat,by have:=htg.1;omega⟩
     have hT2:=htg.2
     rw [hT,HL1.out] at hT2
     rw [hT,Int.toNat_natCast] at HTK
     rw [hT] at c0
     obtain ⟨bs,os,hSA,hbs,z0,z1,z2⟩:=HM.out.sg.sgE (k:=T) (by rw [HL1.out];omega)
     subst hSA
     have z1:=(HS.out.bel.cell (p:=⟨bs,os+T * 3+1,none⟩) hbs).trans z1
     have lbs:=below_lt HS.out.bel hbs
     generalize ordTo m (inTo m.sigs ins vals sn) (o.take k)=vk at *
     have HEX:=Lib.hid (fun (v:World) (hb:Below w.heap.size w v) (hv:Ints v A sn vk)=>exprAt_asg HF.out hai hT QA qn qc vk A sn c v HL1.out (r0.below hb) hv)
     generalize evA m vk (asK m i)=ev at *
     generalize (m.sigs[T]?.getD SgT.zero).width=wd at *
     have ha:i<an:=by rw [←HL2.out];exact hai
     have j0:(0:Int)≤(i:Int):=by omega
     have j1:(i:Int)<(an:Int):=by omega
     have t0:(0:Int)≤(T:Int):=by omega
     clear hba hbs z0 z2 htg hai hT r0
     have HS5:=Lib.hid (HS.out.alloc (.cells #[.int .i64 (T:Int),.slice QA qn qc] 196))
     rw [←(below_new (Below.refl wr.heap.size wr) (.cells #[.int .i64 (T:Int),.slice QA qn qc] 196)).cell lbs] at z1
     have lbs5:=below_lt (below_new (Below.refl wr.heap.size wr) (.cells #[.int .i64 (T:Int),.slice QA qn qc] 196)) lbs
     have x1:=cell_heap (k:=1) (HS.out.blk 0 rfl).1 rfl
     have lx:=heap_lt0 (HS.out.blk 0 rfl).1
     have hy:=heap_new wr (.cells #[.int .i64 (T:Int),.slice QA qn qc] 196)
     have HY:=Lib.hid hy
     clear hy
     go_upto_region 14 with fail
     generalize wr.alloc (.cells #[.int .i64 (T:Int),.slice QA qn qc] 196)=W5 at *
     clear c0 c1 co lbo lba lbs x1 lx
     have y0:=cell_heap (k:=0) HY.out rfl
     have y1:=cell_heap (k:=1) HY.out rfl
     have ly:=heap_lt0 HY.out
     obtain ⟨gY,hgY⟩:∃g,wr.heap.size=g:=⟨_,rfl⟩
     rw [hgY] at y0 y1 ly
     (try rw [hgY])
     clear hgY HY
     have x0:=cell_heap (k:=0) (HS5.out.blk 0 rfl).1 rfl
     have lx:=heap_lt0 (HS5.out.blk 0 rfl).1
     have HKP:=Lib.hid (fun (v:World) (hv:Below W5.heap.size W5 v)=>(⟨(hv.cell ly).trans y0,(hv.cell ly).trans y1,(hv.cell lx).trans x0,(hv.cell lbs5).trans z1⟩:v.cell? ⟨gY,0,none⟩=some (.int .i64 (T:Int))∧v.cell? ⟨gY,1,none⟩=some (.slice QA qn qc)∧v.cell? ⟨gX,0,none⟩=some (.slice (some ⟨bs,os,none⟩) sn sc)∧v.cell? ⟨bs,os+T * 3+1,none⟩=some (.int .i64 wd)))
     have hD0:=(Below.refl W5.heap.size W5).drew
     have HT:Hid (Sepa w W5.drew ([.blk gX #[.slice (some ⟨bs,os,none⟩) sn sc,.slice (some ⟨ba,oa,none⟩) an ac,.slice JA jn jc,.slice MA mn mc] 108,.blk gT #[.slice VA sn vc,WV] 158,.cel (celI (vk)) (.slice A sn c)])):=Lib.hid HS5.out.drew
     go_upto_region 14 with fail
     refine wp_region_noPanic ?_
     refine wp_region_U 16 [16] (fun w'=>w'.cell? ⟨gY,0,none⟩=some (.int .i64 (T:Int))∧w'.cell? ⟨gY,1,none⟩=some (.slice QA qn qc)∧w'.cell? ⟨gX,0,none⟩=some (.slice (some ⟨bs,os,none⟩) sn sc)∧w'.cell? ⟨bs,os+T * 3+1,none⟩=some (.int .i64 wd)) (HKP.out _ hD0) (fun hT hD=>?_)
     refine onU hT 0 opA hD ?_
     refine onU hT 1 (opB opA) hD ?_
     refine onU hT 2 (opB (opB opA)) hD ?_
     refine onU hT 3 (opB (opB (opB opA))) hD ?_
     refine onU hT 4 (opC opA) hD ?_
     refine onU hT 5 (opC (opB opA)) hD ?_
     refine onU hT 6 (opC (opB (opB opA))) hD ?_
     refine onU hT 7 (opC (opB (opB (opB opA)))) hD ?_
     refine onU hT 8 (opC (opC opA)) hD ?_
     refine onU hT 9 (opC (opC (opB opA))) hD ?_
     refine onU hT 10 (opC (opC (opB (opB opA)))) hD ?_
     refine onU hT 11 (opC (opC (opB (opB (opB opA))))) hD ?_
     refine onU hT 12 (opC (opC (opC opA))) hD ?_
     refine callU hT 13 (opC (opC (opC (opB opA)))) (fun K hK=>?_)
     go_simp
     go_at_call 213
     refine (HEX.out _ HT.out.bel (HT.out.ints 2 rfl)).mono ?_
     rintro _ w7 ⟨⟨z,rfl⟩,b7⟩
     have HT7:=Lib.hid (HT.out.below b7)
     refine hK.out _ _ (HKP.out _ (below_tr hD0 b7)) (fun hD=>?_)
     clear hK K
     try simp only [Act.put,List.setIfInBounds_toArray,List.set_cons_zero,List.set_cons_succ]
     refine onU hT 14 (opC (opC (opC (opB (opB opA))))) hD ?_
     refine onU hT 15 (opC (opC (opC (opB (opB (opB opA)))))) hD ?_
     refine freeU hT 16 (opD opA) ?_
     obtain ⟨g9,hg7,_,q8,c8,f8,hu⟩:=HT7.out.setI 2 (i:=T) rfl (by omega)
     subst hg7
     refine tailU hT 17 (opD (opB opA)) ?_
     refine lastU hT 18 (opD (opB (opB opA))) ?_
     go_wp2_with fail
     refine NoPanic.normal ?_
     have HS9:=Lib.hid (hu ev)
     go_wp2_with fail
     go_roundw
     case rel=>exact ⟨k+1,by omega,by go_num,by rw [HTK.out];exact HS9.out⟩
     case measure=>simp [intOf];omega
    ·have hkn:k=on:=by omega
     have hdk:decide ((k:Int)<(on:Int))=false:=by simp;omega
     clear hlt
     subst k
     have HE:Hid (ordTo m (inTo m.sigs ins vals sn) (o.take on)=sigVals m o vals ins):=by show _=_;unfold sigVals;rw [HL1.out,←HNO.out,List.take_of_length_le (Nat.le_refl _)]
     have h9:=HS.out
     rw [HE.out] at h9
     have HG:=Lib.hid (h9.sub (qs:=[_]) (.cons _ (.cons _ (List.Sublist.refl _))))
     clear HS h9
     go_wp2_with fail
     go_ret
     exact ⟨_,_,rfl,HG.out⟩
end Go.Proofs.YtlinbdkbbhpdpaaGreat
