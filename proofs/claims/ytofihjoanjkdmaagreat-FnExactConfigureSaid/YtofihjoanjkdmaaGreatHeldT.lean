/- Regions that draw their order and end in one operation that waits for all others, step by step. -/
import Derived.Test.YtofihjoanjkdmaaGreatHeldW
import Derived.Test.YtofihjoanjkdmaaGreatSep
namespace Go.Proofs.YtofihjoanjkdmaaGreat
set_option maxRecDepth 100000
open Go.RowKit
section
variable {P:Program} {l:List Oper} {Q:Exit→Act→World→Prop} {S:World→Prop} {n:Nat}
def uN (P:Program) (l:List Oper) (Q:Exit→Act→World→Prop) (S:World→Prop) (n:Nat):Nat→Array Bool→Act→World→Prop
 | 0,d,a,w=>Region.ready .any l.toArray d=[]/\Q .normal a w
 | f+1,d,a,w=>(Region.ready .any l.toArray d=[]→Q .normal a w)/\∀i∈Region.ready .any l.toArray d,wpOp P l.toArray Q i (fun g w'=>(i<n→S w')/\uN P l Q S n f (d.setIfInBounds i true) g w') a w
theorem zx:∀(f:Nat) (d:Array Bool) (a:Act) (w:World),uN P l Q S n f d a w→wpAny P .any l.toArray Q f d a w
 | 0,_,_,_,h=>h
 | f+1,_,_,_,h=>⟨h.1,fun i hi=>wpOp_mono (fun g w' k=>zx f _ g w' k.2) (h.2 i hi)⟩
theorem xJ {d:Array Bool} {i:Nat} (h:d.getD i true=false):d.getD i false=false:=by
 rcases Nat.lt_or_ge i d.size with h1|h1
 ·simp [h1] at h ⊢;exact h
 simp [Array.getElem?_eq_none h1] at h
def tC (l:List Oper) (n:Nat):Bool:=Region.noSelect l.toArray && (List.range l.length).all fun m=>decide (m<n) || match l[m]? with
 | some o=>(List.range n).all fun i=>o.after.toList.any fun e=>Region.binds .any e && e.on==i
 | none=>false
theorem BV (h:tC l n=true):Region.noSelect l.toArray=true/\∀m,n<=m→∀i,i<n→∀d:Array Bool,d.getD i true=false→m∉Region.ready .any l.toArray d:=by
 unfold tC at h
 simp only [Bool.and_eq_true] at h
 refine ⟨h.1,fun m u i hi d q hr=>?_⟩
 obtain ⟨_,o,ho,g⟩:=mem_ready.1 hr
 have hl:=(Array.getElem?_eq_some_iff.1 ho).1
 rw [List.size_toArray] at hl
 have h3:=List.all_eq_true.1 h.2 m (List.mem_range.2 hl)
 rw [List.getElem?_toArray] at ho
 rw [ho,decide_eq_false (by omega:¬m<n),Bool.false_or] at h3
 obtain ⟨e,he,j⟩:=List.any_eq_true.1 (List.all_eq_true.1 h3 i (List.mem_range.2 hi))
 simp only [Bool.and_eq_true,beq_iff_eq] at j
 have h4:=g e (Array.mem_toList_iff.1 he) j.1
 rw [j.2,xJ q] at h4
 cases h4
theorem iR {j:Nat} {a:Act} {w:World} (n:Nat) (S:World→Prop) (g:S w.drew) (h:tC l n=true→S w.drew→uN P l Q S n l.length (Array.replicate l.length false) a w.drew)
  (q:tC l n=true:=by kernel_rfl) (u:P.follows .mixedOrders=true:=by kernel_rfl):(Code.region j l.toArray true).wp P Q a w :=
 wp_region_any u (zx _ _ _ _ (h q g))
theorem BX {i:Nat} {D:Oper} {v:Value} (hB:tC l n=true) (hi:l.toArray[i]?=some D) (ae:i<n)
  (hQ:∀c a w,Q (.panic c) (a.put D.dst v) w→Q (.panic c) a w):∀(f:Nat) (d:Array Bool) (a:Act) (w:World),
   (∀j z,l.toArray[j]?=some z→j≠i→d.getD j true=false→(∀e∈z.after,Region.binds .any e=true→e.on≠i)→D.apart l.toArray z=true) →
   i∈Region.ready .any l.toArray d→YieldsIf P l.toArray S D v a→S w →
   uN P l Q S n f (d.setIfInBounds i true) (a.put D.dst v) w→uN P l Q S n (f+1) d a w:=by
 obtain ⟨K,B⟩:=BV hB
 have I:=Region.noSelect_spec K
 intro f
 induction f with
 | zero =>
  intro d a w _ hr Z J H
  refine ⟨fun h=>(by rw [h] at hr;cases hr),fun j hj=>?_⟩
  by_cases g:j=i
  ·subst g;exact Z.wpOp hi J ⟨fun _=>J,H⟩
  ·have:=ready_mono hj g
   rw [H.1] at this
   cases this
 | succ f ih =>
  intro d a w q hr Z J H
  refine ⟨fun h=>(by rw [h] at hr;cases hr),fun j hj=>?_⟩
  by_cases g:j=i
  ·subst g;exact Z.wpOp hi J ⟨fun _=>J,H⟩
  have G:=(mem_ready.1 hr).1
  obtain ⟨R,z,u,W⟩:=mem_ready.1 hj
  have ag:j<n:=Nat.lt_of_not_le fun h2=>B j h2 i ae d G hj
  have U:∀e∈z.after,Region.binds .any e=true→e.on≠i:=fun e he hb ad=>by
   have h1:=W e he hb
   rw [ad,xJ G] at h1
   cases h1
  have h2:=wpOp_putIf u (q j z u g R U) (fun cs b=>I i D cs b hi) (fun cs b=>I j z cs b u) hQ Z (H.2 j (ready_mono hj g))
  refine wpOp_mono (fun a' w' h3=>⟨h3.2.1,ih (d.setIfInBounds j true) a' w' (fun k ok hk af Y ah=>?_) (ready_mono hr (Ne.symm g)) h3.1 (h3.2.1 ag) ?_⟩) h2
  ·refine q k ok hk af ?_ ah
   by_cases V:j=k
   ·subst V;exact R
   rw [getD_set_ne true V] at Y;exact Y
  rw [Array.setIfInBounds_comm _ _ g]
  exact h3.2.2
theorem onT {g:Oper} {v:Value} {f:Nat} {d:Array Bool} {a q:Act} {w:World} (z:tC l n=true) (i:Nat) (hi:l.toArray[i]?=some g) (B:S w) (h:uN P l Q S n f (d.setIfInBounds i true) q w)
  (G:∀w,S w→(execOp a.eval g).run P w = .ok (.value v) w:=by (intro w j;(try dsimp only at j);go_simp) <;> with_reducible rfl)
  (hc:(decide (i<n) && Region.free .any l.toArray d i && (Region.ready .any l.toArray d).contains i)=true:=by kernel_rfl) (H:Region.wanted g (yielded l.toArray a.tmps)=true:=by rfl)
  (u:a.put g.dst v=q:=by (try simp only [Act.put,List.setIfInBounds_toArray,List.set_cons_zero,List.set_cons_succ]);exact rfl)
  (D:∀c a w,Q (.panic c) (a.put g.dst v) w→Q (.panic c) a w:=by exact fun _ _ _ h=>h):uN P l Q S n (f+1) d a w:=by
 subst u
 simp only [Bool.and_eq_true,decide_eq_true_eq] at hc
 have hr:i∈Region.ready .any l.toArray d:=by simpa using hc.2
 exact BX z hi hc.1.1 D f d a w (Region.free_spec hi hc.1.2) hr (.inl ⟨H,G⟩) B h
theorem uF {g:Oper} {f:Nat} {d:Array Bool} {a:Act} {w:World} (_hT:tC l n=true) (i:Nat) (hi:l.toArray[i]?=some g)
  (h:∀q:Act→World→Prop,Shut (∀a w,S w→(S w→uN P l Q S n f (d.setIfInBounds i true) a w)→q a w)→if Region.wanted g (yielded l.toArray a.tmps)=true then Oper.wp P g a w q Q else q (a.put g.dst undef) w)
  (hc:(decide (i<n) && decide (Region.ready .any l.toArray d=[i]))=true:=by kernel_rfl):uN P l Q S n (f+1) d a w:=by
 simp only [Bool.and_eq_true,decide_eq_true_eq] at hc
 have hr:i∈Region.ready .any l.toArray d:=by rw [hc.2];exact List.mem_singleton.2 rfl
 refine ⟨fun h0=>(by rw [h0] at hr;cases hr),fun j hj=>?_⟩
 rw [hc.2,List.mem_singleton] at hj
 subst hj
 exact wpOp_step hi fun K z=>h K fun a w u B=>z a w ⟨fun _=>u,B u⟩
theorem CJ {g:Oper} {v:Value} {f:Nat} {d:Array Bool} {a q:Act} {w:World} (_hT:tC l n=true) (i:Nat) (hi:l.toArray[i]?=some g) (h:uN P l Q S n f (d.setIfInBounds i true) q w)
  (B:(execOp a.eval g).run P w = .ok (.value v) w:=by go_simp <;> with_reducible rfl)
  (hc:(decide (n<=i) && decide (Region.ready .any l.toArray d=[i]))=true:=by kernel_rfl) (D:Region.wanted g (yielded l.toArray a.tmps)=true:=by rfl)
  (u:a.put g.dst v=q:=by (try simp only [Act.put,List.setIfInBounds_toArray,List.set_cons_zero,List.set_cons_succ]);exact rfl):uN P l Q S n (f+1) d a w:=by
 subst u
 simp only [Bool.and_eq_true,decide_eq_true_eq] at hc
 have hr:i∈Region.ready .any l.toArray d:=by rw [hc.2];exact List.mem_singleton.2 rfl
 refine ⟨fun h0=>(by rw [h0] at hr;cases hr),fun j hj=>?_⟩
 rw [hc.2,List.mem_singleton] at hj
 subst hj
 have z:YieldsIf P l.toArray (fun w'=>w'=w) g v a := .inl ⟨D,fun w' e=>by subst e;exact B⟩
 exact z.wpOp hi rfl ⟨fun h=>absurd h (by omega),h⟩
theorem tF {g:Oper} {f:Nat} {d:Array Bool} {a:Act} {w:World} (_hT:tC l n=true) (i:Nat) (hi:l.toArray[i]?=some g) (h:wpList P l.toArray Q [g] a w)
  (hc:(decide (f=0) && decide (n<=i) && decide (Region.ready .any l.toArray d=[i]) && decide (Region.ready .any l.toArray (d.setIfInBounds i true)=[]))=true:=by kernel_rfl):uN P l Q S n (f+1) d a w:=by
 simp only [Bool.and_eq_true,decide_eq_true_eq] at hc
 obtain ⟨⟨⟨rfl,h1⟩,h2⟩,h3⟩:=hc
 have hr:i∈Region.ready .any l.toArray d:=by rw [h2];exact List.mem_singleton.2 rfl
 refine ⟨fun h0=>(by rw [h0] at hr;cases hr),fun j hj=>?_⟩
 rw [h2,List.mem_singleton] at hj
 subst hj
 exact wpOp_mono (K:=fun a w=>Q .normal a w) (fun q w' hq=>⟨fun h=>absurd h (by omega),h3,hq⟩) (by unfold wpOp;rw [hi];exact h)
end
end Go.Proofs.YtofihjoanjkdmaaGreat
