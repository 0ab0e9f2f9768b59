/- Drawn regions whose guards are partly off, step by step. Regions that draw their order and end in one operation that waits for all others, step by step. -/
import Derived.Deep.RegionHeld3
import Derived.Test.YtlinbdkbbhpdpaaGreatBase
import Derived.Test.YtlinbdkbbhpdpaaGreatSep
namespace Go.Proofs.YtlinbdkbbhpdpaaGreat
set_option maxRecDepth 100000
open Go.RowKit

theorem opA {o:Oper} {l:List Oper}:(o :: l).toArray[0]?=some o:=rfl
theorem opB {o x:Oper} {l:List Oper} {i:Nat} (h:l.toArray[i]?=some x):(o :: l).toArray[i+1]?=some x:=by simpa using h
theorem opC {o1 o2 o3 o4 x:Oper} {l:List Oper} {i:Nat} (h:l.toArray[i]?=some x):(o1 :: o2 :: o3 :: o4 :: l).toArray[i+4]?=some x:=opB (opB (opB (opB h)))
theorem opD {o1 o2 o3 o4 o5 o6 o7 o8 o9 u1 u2 u3 u4 u5 u6 u7 x:Oper} {l:List Oper} {i:Nat} (h:l.toArray[i]?=some x):(o1 :: o2 :: o3 :: o4 :: o5 :: o6 :: o7 :: o8 :: o9 :: u1 :: u2 :: u3 :: u4 :: u5 :: u6 :: u7 :: l).toArray[i+16]?=some x:=opC (opC (opC (opC h)))
section
variable {P:Program} {ops:Array Oper} {Q:Exit→Act→World→Prop} {md:Region.Mode} {S:World→Prop}
end
end Go.Proofs.YtlinbdkbbhpdpaaGreat

namespace Go.Proofs.YtlinbdkbbhpdpaaGreat
set_option maxRecDepth 100000
open Go.RowKit

section
variable {P:Program} {l:List Oper} {Q:Exit→Act→World→Prop} {S:World→Prop} {n:Nat}
/-- Whatever order is picked: S holds behind each operation but the last. -/
def anyT (P:Program) (l:List Oper) (Q:Exit→Act→World→Prop) (S:World→Prop) (n:Nat):Nat→Array Bool→Act→World→Prop
 | 0,d,a,w=>Region.ready .any l.toArray d=[]∧Q .normal a w
 | f+1,d,a,w=>(Region.ready .any l.toArray d=[]→Q .normal a w)∧∀i∈Region.ready .any l.toArray d,wpOp P l.toArray Q i (fun a' w'=>(i<n→S w')∧anyT P l Q S n f (d.setIfInBounds i true) a' w') a w
theorem anyT_any:∀(f:Nat) (d:Array Bool) (a:Act) (w:World),anyT P l Q S n f d a w→wpAny P .any l.toArray Q f d a w
 | 0,_,_,_,h=>h
 | f+1,_,_,_,h=>⟨h.1,fun i hi=>wpOp_mono (fun a' w' k=>anyT_any f _ a' w' k.2) (h.2 i hi)⟩
theorem getD_down {d:Array Bool} {i:Nat} (h:d.getD i true=false):d.getD i false=false:=by
 rcases Nat.lt_or_ge i d.size with h1|h1
 ·simp [h1] at h ⊢;exact h
 ·simp [Array.getElem?_eq_none h1] at h
/-- The operations from n on wait for each of the first n. -/
def lastB (l:List Oper) (n:Nat):Bool:=Region.noSelect l.toArray && (List.range l.length).all fun m=>decide (m<n) || match l[m]? with
 | some o=>(List.range n).all fun i=>o.after.toList.any fun e=>Region.binds .any e && e.on==i
 | none=>false
theorem lastB_spec (h:lastB l n=true):Region.noSelect l.toArray=true∧∀m,n≤m→∀i,i<n→∀d:Array Bool,d.getD i true=false→m∉Region.ready .any l.toArray d:=by
 unfold lastB at h
 simp only [Bool.and_eq_true] at h
 refine ⟨h.1,fun m hm i hi d hd hr=>?_⟩
 obtain ⟨_,o,ho,hall⟩:=mem_ready.1 hr
 have hl:=(Array.getElem?_eq_some_iff.1 ho).1
 rw [List.size_toArray] at hl
 have h3:=List.all_eq_true.1 h.2 m (List.mem_range.2 hl)
 rw [List.getElem?_toArray] at ho
 rw [ho,decide_eq_false (by omega:¬m<n),Bool.false_or] at h3
 obtain ⟨e,he,hb⟩:=List.any_eq_true.1 (List.all_eq_true.1 h3 i (List.mem_range.2 hi))
 simp only [Bool.and_eq_true,beq_iff_eq] at hb
 have h4:=hall e (Array.mem_toList_iff.1 he) hb.1
 rw [hb.2,getD_down hd] at h4
 cases h4
theorem wp_region_T {id:Nat} {a:Act} {w:World} (n:Nat) (S:World→Prop) (hS:S w.drew) (h:lastB l n=true→S w.drew→anyT P l Q S n l.length (Array.replicate l.length false) a w.drew)
  (hB:lastB l n=true:=by kernel_rfl) (hm:P.follows .mixedOrders=true:=by kernel_rfl):(Code.region id l.toArray true).wp P Q a w :=
 wp_region_any hm (anyT_any _ _ _ _ (h hB hS))
theorem anyT_first {i:Nat} {oi:Oper} {v:Value} (hB:lastB l n=true) (hi:l.toArray[i]?=some oi) (hin:i<n)
  (hQ:∀c a w,Q (.panic c) (a.put oi.dst v) w→Q (.panic c) a w):∀(f:Nat) (d:Array Bool) (a:Act) (w:World),
   (∀j oj,l.toArray[j]?=some oj→j≠i→d.getD j true=false→(∀e∈oj.after,Region.binds .any e=true→e.on≠i)→oi.apart l.toArray oj=true) →
   i∈Region.ready .any l.toArray d→YieldsIf P l.toArray S oi v a→S w →
   anyT P l Q S n f (d.setIfInBounds i true) (a.put oi.dst v) w→anyT P l Q S n (f+1) d a w:=by
 obtain ⟨hsel,hlast⟩:=lastB_spec hB
 have hno:=Region.noSelect_spec hsel
 intro f
 induction f with
 | zero =>
  intro d a w _ hr hy hS H
  refine ⟨fun h=>(by rw [h] at hr;cases hr),fun j hj=>?_⟩
  by_cases hji:j=i
  ·subst hji;exact hy.wpOp hi hS ⟨fun _=>hS,H⟩
  ·have:=ready_mono hj hji
   rw [H.1] at this
   cases this
 | succ f ih =>
  intro d a w hfree hr hy hS H
  refine ⟨fun h=>(by rw [h] at hr;cases hr),fun j hj=>?_⟩
  by_cases hji:j=i
  ·subst hji;exact hy.wpOp hi hS ⟨fun _=>hS,H⟩
  ·have hiu:=(mem_ready.1 hr).1
   obtain ⟨hju,oj,hoj,hall⟩:=mem_ready.1 hj
   have hjn:j<n:=Nat.lt_of_not_le fun h2=>hlast j h2 i hin d hiu hj
   have hnot:∀e∈oj.after,Region.binds .any e=true→e.on≠i:=fun e he hb heq=>by
    have h1:=hall e he hb
    rw [heq,getD_down hiu] at h1
    cases h1
   have h2:=wpOp_putIf hoj (hfree j oj hoj hji hju hnot) (fun cs b=>hno i oi cs b hi) (fun cs b=>hno j oj cs b hoj) hQ hy (H.2 j (ready_mono hj hji))
   refine wpOp_mono (fun a' w' h3=>⟨h3.2.1,ih (d.setIfInBounds j true) a' w' (fun k ok hk hki hun hk2=>?_) (ready_mono hr (Ne.symm hji)) h3.1 (h3.2.1 hjn) ?_⟩) h2
   ·refine hfree k ok hk hki ?_ hk2
    by_cases hjk:j=k
    ·subst hjk;exact hju
    ·rw [getD_set_ne true hjk] at hun;exact hun
   ·rw [Array.setIfInBounds_comm _ _ hji]
    exact h3.2.2
/-- Taken first. -/
theorem onT {oi:Oper} {v:Value} {f:Nat} {d:Array Bool} {a a':Act} {w:World} (hT:lastB l n=true) (i:Nat) (hi:l.toArray[i]?=some oi) (hS:S w) (h:anyT P l Q S n f (d.setIfInBounds i true) a' w)
  (hy:∀w,S w→(execOp a.eval oi).run P w = .ok (.value v) w:=by (intro w hSw;(try dsimp only at hSw);go_simp) <;> with_reducible rfl)
  (hc:(decide (i<n) && Region.free .any l.toArray d i && (Region.ready .any l.toArray d).contains i)=true:=by kernel_rfl) (hw:Region.wanted oi (yielded l.toArray a.tmps)=true:=by rfl)
  (ha:a.put oi.dst v=a':=by (try simp only [Act.put,List.setIfInBounds_toArray,List.set_cons_zero,List.set_cons_succ]);exact rfl)
  (hQ:∀c a w,Q (.panic c) (a.put oi.dst v) w→Q (.panic c) a w:=by exact fun _ _ _ h=>h):anyT P l Q S n (f+1) d a w:=by
 subst ha
 simp only [Bool.and_eq_true,decide_eq_true_eq] at hc
 have hr:i∈Region.ready .any l.toArray d:=by simpa using hc.2
 exact anyT_first hT hi hc.1.1 hQ f d a w (Region.free_spec hi hc.1.2) hr (.inl ⟨hw,hy⟩) hS h
/-- The only one that may come up. -/
theorem callT {oi:Oper} {f:Nat} {d:Array Bool} {a:Act} {w:World} (_hT:lastB l n=true) (i:Nat) (hi:l.toArray[i]?=some oi)
  (h:∀K':Act→World→Prop,Shut (∀a w,S w→(S w→anyT P l Q S n f (d.setIfInBounds i true) a w)→K' a w)→if Region.wanted oi (yielded l.toArray a.tmps)=true then Oper.wp P oi a w K' Q else K' (a.put oi.dst undef) w)
  (hc:(decide (i<n) && decide (Region.ready .any l.toArray d=[i]))=true:=by kernel_rfl):anyT P l Q S n (f+1) d a w:=by
 simp only [Bool.and_eq_true,decide_eq_true_eq] at hc
 have hr:i∈Region.ready .any l.toArray d:=by rw [hc.2];exact List.mem_singleton.2 rfl
 refine ⟨fun h0=>(by rw [h0] at hr;cases hr),fun j hj=>?_⟩
 rw [hc.2,List.mem_singleton] at hj
 subst hj
 exact wpOp_step hi fun K hK=>h K fun a w hS hW=>hK a w ⟨fun _=>hS,hW hS⟩
/-- One of those behind the first n, when no other may come up. -/
theorem tailT {oi:Oper} {v:Value} {f:Nat} {d:Array Bool} {a a':Act} {w:World} (_hT:lastB l n=true) (i:Nat) (hi:l.toArray[i]?=some oi) (h:anyT P l Q S n f (d.setIfInBounds i true) a' w)
  (hy:(execOp a.eval oi).run P w = .ok (.value v) w:=by go_simp <;> with_reducible rfl)
  (hc:(decide (n≤i) && decide (Region.ready .any l.toArray d=[i]))=true:=by kernel_rfl) (hw:Region.wanted oi (yielded l.toArray a.tmps)=true:=by rfl)
  (ha:a.put oi.dst v=a':=by (try simp only [Act.put,List.setIfInBounds_toArray,List.set_cons_zero,List.set_cons_succ]);exact rfl):anyT P l Q S n (f+1) d a w:=by
 subst ha
 simp only [Bool.and_eq_true,decide_eq_true_eq] at hc
 have hr:i∈Region.ready .any l.toArray d:=by rw [hc.2];exact List.mem_singleton.2 rfl
 refine ⟨fun h0=>(by rw [h0] at hr;cases hr),fun j hj=>?_⟩
 rw [hc.2,List.mem_singleton] at hj
 subst hj
 have hY:YieldsIf P l.toArray (fun w'=>w'=w) oi v a := .inl ⟨hw,fun w' e=>by subst e;exact hy⟩
 exact hY.wpOp hi rfl ⟨fun h=>absurd h (by omega),h⟩
/-- The last one. -/
theorem lastT {oi:Oper} {f:Nat} {d:Array Bool} {a:Act} {w:World} (_hT:lastB l n=true) (i:Nat) (hi:l.toArray[i]?=some oi) (h:wpList P l.toArray Q [oi] a w)
  (hc:(decide (f=0) && decide (n≤i) && decide (Region.ready .any l.toArray d=[i]) && decide (Region.ready .any l.toArray (d.setIfInBounds i true)=[]))=true:=by kernel_rfl):anyT P l Q S n (f+1) d a w:=by
 simp only [Bool.and_eq_true,decide_eq_true_eq] at hc
 obtain ⟨⟨⟨rfl,h1⟩,h2⟩,h3⟩:=hc
 have hr:i∈Region.ready .any l.toArray d:=by rw [h2];exact List.mem_singleton.2 rfl
 refine ⟨fun h0=>(by rw [h0] at hr;cases hr),fun j hj=>?_⟩
 rw [h2,List.mem_singleton] at hj
 subst hj
 exact wpOp_mono (K:=fun a w=>Q .normal a w) (fun a' w' hq=>⟨fun h=>absurd h (by omega),h3,hq⟩) (by unfold wpOp;rw [hi];exact h)
end
end Go.Proofs.YtlinbdkbbhpdpaaGreat
