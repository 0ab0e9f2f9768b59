/- Drawn regions whose guards are partly off, step by step. -/
import Derived.Deep.RegionHeld3
import Derived.Test.YtofihjoanjkdmaaGreatBase
namespace Go.Proofs.YtofihjoanjkdmaaGreat
set_option maxRecDepth 100000
open Go.RowKit
theorem opA{o:Oper}{l:List Oper}:(o::l).toArray[0]?=some o:=rfl
theorem opB{o x:Oper}{l:List Oper}{i:Nat}(h:l.toArray[i]?=some x):(o::l).toArray[i+1]?=some x:=by simpa using h
theorem opC{u q g j x:Oper}{l:List Oper}{i:Nat}(h:l.toArray[i]?=some x):(u::q::g::j::l).toArray[i+4]?=some x:=opB (opB (opB (opB h)))
theorem opD{G D J I R B g U K j z V Q q u H x:Oper}{l:List Oper}{i:Nat}(h:l.toArray[i]?=some x):(G::D::J::I::R::B::g::U::K::j::z::V::Q::q::u::H::l).toArray[i+16]?=some x:=opC (opC (opC (opC h)))
section
variable {P:Program} {ops:Array Oper} {Q:Exit→Act→World→Prop} {md:Region.Mode} {S:World→Prop}
theorem onW{q:Oper}{v:Value}{j:Nat}{g:Array Bool}{a z:Act}{w:World}(i:Nat)(hi:ops[i]?=some q)(I:S w)(h:wpAnyH P md ops Q S j (g.setIfInBounds i true) z w)
  (H:∀w,S w→(execOp a.eval q).run P w=.ok (.value v) w:=by(intro w u;(try dsimp only at u);go_simp) <;> with_reducible rfl)
  (hk:(Region.noSelect ops && Region.free md ops g i && (Region.ready md ops g).contains i)=true:=by kernel_rfl) (B:Region.wanted q (yielded ops a.tmps)=true:=by rfl)
  (D:a.put q.dst v=z:=by(try simp only[Act.put,List.setIfInBounds_toArray,List.set_cons_zero,List.set_cons_succ]);exact rfl)
  (G:∀c a w,Q (.panic c) (a.put q.dst v) w→Q (.panic c) a w:=by exact fun _ _ _ h=>h):wpAnyH P md ops Q S (j+1) g a w:=by
 subst D;rw[Bool.and_eq_true,Bool.and_eq_true]at hk;exact wpAnyH_take hi hk.1.1 hk.1.2 hk.2 G (.inl ⟨B,H⟩) I h
theorem xC{q:Oper}{j:Nat}{g:Array Bool}{a u:Act}{w:World}(i:Nat)(hi:ops[i]?=some q)(D:S w)(h:wpAnyH P md ops Q S j (g.setIfInBounds i true) u w)
  (hk:(Region.noSelect ops && Region.free md ops g i && (Region.ready md ops g).contains i)=true:=by kernel_rfl) (G:Region.wanted q (yielded ops a.tmps)=false:=by rfl)
  (z:a.put q.dst undef=u:=by(try simp only[Act.put,List.setIfInBounds_toArray,List.set_cons_zero,List.set_cons_succ]);exact rfl)
  (B:∀c a w,Q (.panic c) (a.put q.dst undef) w→Q (.panic c) a w:=by exact fun _ _ _ h=>h):wpAnyH P md ops Q S (j+1) g a w:=by
 subst z;rw[Bool.and_eq_true,Bool.and_eq_true]at hk;exact wpAnyH_take hi hk.1.1 hk.1.2 hk.2 B (.inr ⟨G,rfl⟩) D h
end
end Go.Proofs.YtofihjoanjkdmaaGreat
