/- Drawn regions whose guards are partly off, step by step. -/
import Derived.Deep.RegionHeld3
import Derived.Test.YtofihjoanjkdmaaGreatBase
namespace Go.Proofs.YtofihjoanjkdmaaGreat
set_option maxRecDepth 100000
open Go.RowKit
theorem opA {o:Oper} {l:List Oper}:(o :: l).toArray[0]?=some o:=rfl
theorem opB {o x:Oper} {l:List Oper} {i:Nat} (h:l.toArray[i]?=some x):(o :: l).toArray[i+1]?=some x:=by simpa using h
theorem opC {g q j u x:Oper} {l:List Oper} {i:Nat} (h:l.toArray[i]?=some x):(g :: q :: j :: u :: l).toArray[i+4]?=some x:=opB (opB (opB (opB h)))
theorem opD {D U g I u J z q H B K j G R Q V x:Oper} {l:List Oper} {i:Nat} (h:l.toArray[i]?=some x):(D :: U :: g :: I :: u :: J :: z :: q :: H :: B :: K :: j :: G :: R :: Q :: V :: l).toArray[i+16]?=some x:=opC (opC (opC (opC h)))
section
variable {P:Program} {ops:Array Oper} {Q:Exit→Act→World→Prop} {md:Region.Mode} {S:World→Prop}
theorem onW {q:Oper} {v:Value} {j:Nat} {g:Array Bool} {a z:Act} {w:World} (i:Nat) (hi:ops[i]?=some q) (D:S w) (h:wpAnyH P md ops Q S j (g.setIfInBounds i true) z w)
  (H:∀w,S w→(execOp a.eval q).run P w = .ok (.value v) w:=by (intro w u;(try dsimp only at u);go_simp) <;> with_reducible rfl)
  (hk:(Region.noSelect ops && Region.free md ops g i && (Region.ready md ops g).contains i)=true:=by kernel_rfl) (I:Region.wanted q (yielded ops a.tmps)=true:=by rfl)
  (B:a.put q.dst v=z:=by (try simp only [Act.put,List.setIfInBounds_toArray,List.set_cons_zero,List.set_cons_succ]);exact rfl)
  (G:∀c a w,Q (.panic c) (a.put q.dst v) w→Q (.panic c) a w:=by exact fun _ _ _ h=>h):wpAnyH P md ops Q S (j+1) g a w:=by
 subst B
 rw [Bool.and_eq_true,Bool.and_eq_true] at hk
 exact wpAnyH_take hi hk.1.1 hk.1.2 hk.2 G (.inl ⟨I,H⟩) D h
theorem bZ {q:Oper} {j:Nat} {g:Array Bool} {a u:Act} {w:World} (i:Nat) (hi:ops[i]?=some q) (B:S w) (h:wpAnyH P md ops Q S j (g.setIfInBounds i true) u w)
  (hk:(Region.noSelect ops && Region.free md ops g i && (Region.ready md ops g).contains i)=true:=by kernel_rfl) (G:Region.wanted q (yielded ops a.tmps)=false:=by rfl)
  (D:a.put q.dst undef=u:=by (try simp only [Act.put,List.setIfInBounds_toArray,List.set_cons_zero,List.set_cons_succ]);exact rfl)
  (z:∀c a w,Q (.panic c) (a.put q.dst undef) w→Q (.panic c) a w:=by exact fun _ _ _ h=>h):wpAnyH P md ops Q S (j+1) g a w:=by
 subst D
 rw [Bool.and_eq_true,Bool.and_eq_true] at hk
 exact wpAnyH_take hi hk.1.1 hk.1.2 hk.2 z (.inr ⟨G,rfl⟩) B h
theorem ig {i:Nat} {o:Oper} {j:Nat} {g:Array Bool} {a:Act} {w:World} (hi:ops[i]?=some o)
  (h:∀q:Act→World→Prop,Shut (∀a w,S w→(S w→wpAnyH P md ops Q S j (g.setIfInBounds i true) a w)→q a w)→if Region.wanted o (yielded ops a.tmps)=true then Oper.wp P o a w q Q else q (a.put o.dst undef) w)
  (hr:Region.ready md ops g=[i]:=by kernel_rfl):wpAnyH P md ops Q S (j+1) g a w :=
 wpAnyH_ready hr (by simp) (AllReadyH.cons hi h AllReadyH.nil)
end
end Go.Proofs.YtofihjoanjkdmaaGreat
