/- Appending lists and rows; the copies of lists of lists. -/
import Derived.Test.YtofihjoanjkdmaaGreatRow2W
namespace Go.Proofs.YtofihjoanjkdmaaGreat
set_option maxRecDepth 100000
open Go.RowKit
theorem qJ{P:Program}(w:World)(base:Nat)(t u e:TypeId)(i:TypeInfo)(size:Nat)(ht:P.underlying t=some (.slice e))(hi:P.info? e=some i)
  (v:Value) (n:Nat) (xs:List Value) (j:w.ownsRow base e size v n xs) (c:Nat):(Builtin.append_ #[t,t] u #[v,.slice none 0 c]).run P w=.ok v w:=by
 rcases j.2 with⟨rfl,rfl⟩|⟨g,cap,cur,rfl,_,_,q,_⟩
 ·simp[Builtin.append_,run_underlying ht,sizeOf,typeInfo,hi,Builtin.lenOf,Builtin.firstCells]
 simp[Builtin.append_,run_underlying ht,sizeOf,typeInfo,hi,Builtin.lenOf,Builtin.firstCells,q,storeCells]
theorem EF{base:Nat}{W w w':World}{A:Oh}{lo:Nat}(g:Below lo W w)(hg:w.grownBy w' (A.map (·.block)))(hA:∀a,A=some a→base<=a.block)(hb:lo<=base)(hs:lo<=w.heap.size):Below lo W w' :=
 g.grown hg hs (by
  cases A with
  | none=>simp
  | some a =>
   have:=hA a rfl;simp only[Option.map_some,Option.some.injEq];rintro k rfl
   omega)
theorem dY{ops:Array Oper}{rest:List Oper}{o:Oper}{a:Act}{Q:Exit→Act→World→Prop}{w W:World}(G:o.guard=none)(s x:Operand)
  (ho:o.op=.call { callee := .builtin .append,args:=#[s,x],argTypes:=#[26,26] })
  (base:Nat) (A:Oh) (n c:Nat) (xs:List Int) (hs:a.eval s=.slice A n c) (q:Own base w A n c xs) (B:Oh) (m d:Nat) (ys:List Int) (hx:a.eval x=.slice B m d) (hr:bT w B m ys)
  (hn:n+m<=1099511627776) (z:base<=w.heap.size) (hB:Below base W w)
  (h:∀Z Y w',Own base w' Z (n+m) Y (xs++ys)→Below base W w'→w.grownBy w' (A.map (·.block))→wpList Tryz.prog ops Q rest (a.put o.dst (.slice Z (n+m) Y)) w'):wpList Tryz.prog ops Q (o::rest) a w:=by
 obtain⟨V,hi,J,R,U⟩:=info_parts iE
 cases B with
 | none =>
  have hm:m=0:=by
   rcases Nat.eq_zero_or_pos m with h0|h0
   ·exact h0
   obtain⟨b,o',e,_⟩:=hr.2 h0
   cases e
  subst hm;have hy:ys=[]:=List.eq_nil_of_length_eq_zero hr.1;subst hy;refine wpList_plain G fun K hK=>?_;have I:=qJ (P:=Tryz.prog) w base 26 o.type 3 V 1 Tryz.underlying26 hi _ _ _ q d;unfold Oper.wp execOp;simp only[ho,resolve,invoke,builtin,Sem.run_bind,Sem.run_pure,Result.andThen_ok,List.map_toArray,List.map_cons,List.map_nil,hs,hx,I]
  exact hK _ _ (h A c w (by simpa using q) hB (rY _ _))
 | some ad =>
  refine wpList_append_own_at w G s x 26 ho base 3 V (.int .i64 0) 1 8 Tryz.underlying26 hi J R U rfl (by omega) (.slice A n c) n _ hs q ad m d (ys.map (Value.int .i64)) hx (by simp[hr.1])
   (fun j u D=>?_) (fun u D=>by simp at D;obtain⟨y,_,rfl⟩:=D;rfl) (by unfold maxLen;omega) (by omega) z ?_
  ·have hj:j<m:=by
    have:=(List.getElem?_eq_some_iff.1 D).1
    simpa [hr.1]using this
   obtain⟨b,o',e,_,hc⟩:=hr.2 (by omega);injection e with e
   subst e;rw[Addr.add_lit,hc j hj];have:j<ys.length:=by rw[hr.1];exact hj
   simp[this]at D;simp[this,←D]
  intro v' w' h1 h2 _ _;rw[fu]at h2;have H:Below base W w':=EF hB h2 (fun a ha=>(q.lt a ha).1) (Nat.le_refl _) z;rw[←List.map_append]at h1
  rcases h1.2 with⟨rfl,h0⟩|⟨g,cap,cur,rfl,_⟩
  ·have e:n+m=0:=h0;have:=h none 0 w' (by rw[e]at h1 ⊢;exact h1) H h2;rwa[e]at this
  exact h (some ⟨g,0,none⟩) cap w' h1 H h2
end Go.Proofs.YtofihjoanjkdmaaGreat
