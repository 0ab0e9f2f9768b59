/- FnExactRoutedDelays: for all arguments the program's RoutedDelays returns what the reference's returns, and changes no argument. No condition. -/
import Derived.Test.YtofihjoanjkdmaaGreatWRoutedDelays
namespace Go.Proofs.YtofihjoanjkdmaaGreat
set_option maxRecDepth 100000
open Go.RowKit Go.ChangeShapes Go.WideShapes Go.ChangeAt
theorem fnExactRoutedDelays_lifted (os:Os) (g:os.Started) (H:Type) (enc:TypeId × Value→H) :
  ReturnsInHanded {} Tryz.checked os 4 .any (Rows.fnExactRoutedDelaysSpec.pre6 enc Tryz.prog Tryz.f4 Rows.fnExactRoutedDelaysRow.domain false) (Rows.fnExactRoutedDelaysSpec.post enc Tryz.prog Tryz.f4 false true false false):=by
 refine returnsInHanded_of_change (C:=Tryz.checked) Tryz.own g (by kernel_rfl) Tryz.func4
  (ChangeSpec.witness6 (enc:=enc) (C:=Tryz.checked) false ⟨#[],#[.agg #[.int .i64 0,.int .i64 0,.int .i64 0,.int .i64 0],.agg #[.int .i64 0,.slice none 0 0,.slice none 0 0,.slice none 0 0,.slice none 0 0,.slice none 0 0,.slice none 0 0,.slice none 0 0]],[]⟩ 8 (by kernel_rfl) (by kernel_rfl) (by kernel_rfl) (by kernel_rfl)) ?_
 intro W base args ds gs R u hW aA _
 have z:∀(j:Nat) t v,Tryz.f4.params[j]?=some t→args[j]?=some v→Value.okWide Tryz.prog W .any base t v:=u
 have am:=hW
 obtain ⟨p,q,G,hV,rfl,aM,aO⟩:=hW
 have hA:DataW.TrodAll enc Tryz.prog W 0 (fun _=>true) true Tryz.f4.params.toList args.toList ds p:=G
 rw [Tryz.params4] at hA z
 obtain ⟨v0,aS,d0,aQ,p0,q0,au,rfl,rfl,h0,r0⟩:=trodAll_cons hA
 obtain ⟨v1,aV,d1,aR,p1,q1,rfl,rfl,rfl,h1,r1⟩:=trodAll_cons r0
 obtain ⟨rfl,rfl,rfl⟩:=trodAll_nil r1
 obtain rfl:args=#[v0,v1]:=by cases args;simp_all
 obtain ⟨rfl,rfl⟩:=trodVars_none hV
 have k0:=h0
 have V:∀x∈p0,x.block<W.heap.size:=by obtain ⟨m,Z⟩:=k0;exact DataW.trod_lt m _ _ _ Z
 obtain ⟨a0,rfl,av⟩:=DV (z 0 23 v0 rfl rfl) h0
 have k1:=h1
 have al:∀x∈p1,x.block<W.heap.size:=by obtain ⟨m,Z⟩:=k1;exact DataW.trod_lt m _ _ _ Z
 obtain ⟨x1,S1,L1,O1,B1,C1,P1,R1,ak,Y,ai,ar,ao,ah,aq,ap,ad,ag,ae,U,af,aj,rfl,D,Q,J,K,I,B⟩:=Dr (z 1 33 v1 rfl rfl) h1
 clear G u
 refine (tK a0 x1 S1 L1 O1 B1 C1 P1 R1 ak Y ai ar ao ah aq ap ad ag ae U af aj W av D Q J K I B).mono fun e W' ⟨he,bel⟩=>?_
 subst he
 exact ⟨_,rfl,_,_,_,[],_,[],am,trodAll_mk1 (shut_bool Tryz.underlying4 _),(trodAll_cons_mk (Below.trod Tryz.laidOut (by kernel_rfl) (of_decide_eq_true (by kernel_rfl)) k0 bel V) (trodAll_cons_mk (Below.trod Tryz.laidOut (by kernel_rfl) (of_decide_eq_true (by kernel_rfl)) k1 bel al) trodAll_mk0)),rfl,bel.frame _,fun h=>by cases h⟩
theorem fnExactRoutedDelays_holds:Rows.FnExactRoutedDelaysSaid :=
 OpenClaim.holds_of_wide 4 Tryz.f4 rfl rfl rfl rfl rfl rfl rfl ⟨rfl,rfl,rfl,rfl,rfl⟩ rfl rfl rfl rfl rfl (by kernel_rfl) Tryz.func4 (by kernel_rfl)
  (of_decide_eq_true (by kernel_rfl)) (by unfold Func.isWrapper;first|(rw [if_pos (by decide +kernel)];kernel_rfl)|(rw [if_neg (by decide +kernel)];exact ⟨rfl,rfl⟩))
  (fun os g H enc _=>fnExactRoutedDelays_lifted os g H enc)
#print axioms fnExactRoutedDelays_holds
end Go.Proofs.YtofihjoanjkdmaaGreat
