/- FnExactConfigure: for all arguments the program's Configure returns what the reference's returns, and changes no argument. No condition. -/
import Derived.Test.YtofihjoanjkdmaaGreatWConfigure
namespace Go.Proofs.YtofihjoanjkdmaaGreat
set_option maxRecDepth 100000
open Go.RowKit Go.ChangeShapes Go.WideShapes Go.ChangeAt
theorem fnExactConfigure_lifted (os:Os) (u:os.Started) (H:Type) (enc:TypeId × Value→H) :
  ReturnsInHanded {} Tryz.checked os 5 .any (Rows.fnExactConfigureSpec.pre6 enc Tryz.prog Tryz.f5 Rows.fnExactConfigureRow.domain false) (Rows.fnExactConfigureSpec.post enc Tryz.prog Tryz.f5 false true false false):=by
 refine returnsInHanded_of_change (C:=Tryz.checked) Tryz.own u (by kernel_rfl) Tryz.func5
  (ChangeSpec.witness6 (enc:=enc) (C:=Tryz.checked) false ⟨#[],#[.agg #[.int .i64 0,.int .i64 0,.int .i64 0,.int .i64 0],.agg #[.int .i64 0,.slice none 0 0,.slice none 0 0,.slice none 0 0,.slice none 0 0,.slice none 0 0,.slice none 0 0,.slice none 0 0]],[]⟩ 8 (by kernel_rfl) (by kernel_rfl) (by kernel_rfl) (by kernel_rfl)) ?_
 intro W base args ds gs R z hW aA _
 have g:∀(j:Nat) t v,Tryz.f5.params[j]?=some t→args[j]?=some v→Value.okWide Tryz.prog W .any base t v:=z
 have U:=hW
 obtain ⟨p,q,Q,hV,rfl,aN,aC⟩:=hW
 have hA:DataW.TrodAll enc Tryz.prog W 0 (fun _=>true) true Tryz.f5.params.toList args.toList ds p:=Q
 rw [Tryz.params5] at hA g
 obtain ⟨v0,aR,d0,aQ,p0,q0,am,rfl,rfl,h0,r0⟩:=trodAll_cons hA
 obtain ⟨v1,aS,d1,aE,p1,q1,rfl,rfl,rfl,h1,r1⟩:=trodAll_cons r0
 obtain ⟨rfl,rfl,rfl⟩:=trodAll_nil r1
 obtain rfl:args=#[v0,v1]:=by cases args;simp_all
 obtain ⟨rfl,rfl⟩:=trodVars_none hV
 have k0:=h0
 have ap:∀x∈p0,x.block<W.heap.size:=by obtain ⟨m,Y⟩:=k0;exact DataW.trod_lt m _ _ _ Y
 obtain ⟨a0,rfl,ai⟩:=Dq (g 0 23 v0 rfl rfl) h0
 have k1:=h1
 have Z:∀x∈p1,x.block<W.heap.size:=by obtain ⟨m,Y⟩:=k1;exact DataW.trod_lt m _ _ _ Y
 obtain ⟨x1,S1,L1,O1,B1,C1,P1,R1,ar,ad,ao,ae,aq,af,aj,V,al,au,ag,av,ah,ak,rfl,B,I,D,J,K,G⟩:=D5 (g 1 33 v1 rfl rfl) h1
 clear Q z
 refine (vo a0 x1 S1 L1 O1 B1 C1 P1 R1 ar ad ao ae aq af aj V al au ag av ah ak W ai B I D J K G).mono fun e W' ⟨he,bel⟩=>?_
 subst he
 exact ⟨_,rfl,_,_,_,[],_,[],U,trodAll_mk1 (shut_bool Tryz.underlying4 _),(trodAll_cons_mk (Below.trod Tryz.laidOut (by kernel_rfl) (of_decide_eq_true (by kernel_rfl)) k0 bel ap) (trodAll_cons_mk (Below.trod Tryz.laidOut (by kernel_rfl) (of_decide_eq_true (by kernel_rfl)) k1 bel Z) trodAll_mk0)),rfl,bel.frame _,fun h=>by cases h⟩
theorem fnExactConfigure_holds:Rows.FnExactConfigureSaid :=
 OpenClaim.holds_of_wide 5 Tryz.f5 rfl rfl rfl rfl rfl rfl rfl ⟨rfl,rfl,rfl,rfl,rfl⟩ rfl rfl rfl rfl rfl (by kernel_rfl) Tryz.func5 (by kernel_rfl)
  (of_decide_eq_true (by kernel_rfl)) (by unfold Func.isWrapper;first|(rw [if_pos (by decide +kernel)];kernel_rfl)|(rw [if_neg (by decide +kernel)];exact ⟨rfl,rfl⟩))
  (fun os g H enc _=>fnExactConfigure_lifted os g H enc)
#print axioms fnExactConfigure_holds
end Go.Proofs.YtofihjoanjkdmaaGreat
