/- FnExactConfigure: for all arguments the program's Configure returns what the reference's returns, and changes no argument. No condition. -/
import Derived.Test.YtofihjoanjkdmaaGreatWConfigure
namespace Go.Proofs.YtofihjoanjkdmaaGreat
set_option maxRecDepth 100000
open Go.RowKit Go.ChangeShapes Go.WideShapes Go.ChangeAt
theorem fnExactConfigure_lifted (os:Os) (u:os.Started) (H:Type) (enc:TypeId × Value→H) :
  ReturnsInHanded {} Tryz.checked os 5 .any (Rows.fnExactConfigureSpec.pre6 enc Tryz.prog Tryz.f5 Rows.fnExactConfigureRow.domain false) (Rows.fnExactConfigureSpec.post enc Tryz.prog Tryz.f5 false true false false):=by
 refine returnsInHanded_of_change (C:=Tryz.checked) Tryz.own u (by kernel_rfl) Tryz.func5
  (ChangeSpec.witness6 (enc:=enc) (C:=Tryz.checked) false ⟨#[],#[.agg #[.int .i64 0,.int .i64 0,.int .i64 0,.int .i64 0],.agg #[.int .i64 0,.slice none 0 0,.slice none 0 0,.slice none 0 0,.slice none 0 0,.slice none 0 0,.slice none 0 0,.slice none 0 0]],[]⟩ 8 (by kernel_rfl) (by kernel_rfl) (by kernel_rfl) (by kernel_rfl)) ?_
 intro W base args ds gs R g hW aw _
 have z:∀(j:Nat) t v,Tryz.f5.params[j]?=some t→args[j]?=some v→Value.okWide Tryz.prog W .any base t v:=g
 have U:=hW
 obtain ⟨p,q,J,hV,rfl,aQ,aH⟩:=hW
 have hA:DataW.TrodAll enc Tryz.prog W 0 (fun _=>true) true Tryz.f5.params.toList args.toList ds p:=J
 rw [Tryz.params5] at hA z
 obtain ⟨v0,aK,d0,aP,p0,q0,ad,rfl,rfl,h0,r0⟩:=trodAll_cons hA
 obtain ⟨v1,aS,d1,aU,p1,q1,rfl,rfl,rfl,h1,r1⟩:=trodAll_cons r0
 obtain ⟨rfl,rfl,rfl⟩:=trodAll_nil r1
 obtain rfl:args=#[v0,v1]:=by cases args;simp_all
 obtain ⟨rfl,rfl⟩:=trodVars_none hV
 have k0:=h0
 have aq:∀x∈p0,x.block<W.heap.size:=by obtain ⟨m,hm⟩:=k0;exact DataW.trod_lt m _ _ _ hm
 obtain ⟨a0,rfl,ah⟩:=Dq (z 0 23 v0 rfl rfl) h0
 have k1:=h1
 have ag:∀x∈p1,x.block<W.heap.size:=by obtain ⟨m,hm⟩:=k1;exact DataW.trod_lt m _ _ _ hm
 obtain ⟨x1,S1,L1,O1,B1,C1,P1,R1,ae,al,av,Y,V,ar,ak,Z,af,ap,am,aj,ai,au,rfl,D,K,Q,G,I,B⟩:=D5 (z 1 33 v1 rfl rfl) h1
 clear J g
 refine (vo a0 x1 S1 L1 O1 B1 C1 P1 R1 ae al av Y V ar ak Z af ap am aj ai au W ah D K Q G I B).mono fun e W' ⟨he,bel⟩=>?_
 subst he
 exact ⟨_,rfl,_,_,_,[],_,[],U,trodAll_mk1 (shut_bool Tryz.underlying4 _),(trodAll_cons_mk (Below.trod Tryz.laidOut (by kernel_rfl) (of_decide_eq_true (by kernel_rfl)) k0 bel aq) (trodAll_cons_mk (Below.trod Tryz.laidOut (by kernel_rfl) (of_decide_eq_true (by kernel_rfl)) k1 bel ag) trodAll_mk0)),rfl,bel.frame _,fun h=>by cases h⟩
theorem fnExactConfigure_holds:Rows.FnExactConfigureSaid :=
 OpenClaim.holds_of_wide 5 Tryz.f5 rfl rfl rfl rfl rfl rfl rfl ⟨rfl,rfl,rfl,rfl,rfl⟩ rfl rfl rfl rfl rfl (by kernel_rfl) Tryz.func5 (by kernel_rfl)
  (of_decide_eq_true (by kernel_rfl)) (by unfold Func.isWrapper;first|(rw [if_pos (by decide +kernel)];kernel_rfl)|(rw [if_neg (by decide +kernel)];exact ⟨rfl,rfl⟩))
  (fun os g H enc _=>fnExactConfigure_lifted os g H enc)
#print axioms fnExactConfigure_holds
end Go.Proofs.YtofihjoanjkdmaaGreat
