/- Appending lists and rows; the copies of lists of lists. -/
import Derived.Test.YtofihjoanjkdmaaGreatRow2W
namespace Go.Proofs.YtofihjoanjkdmaaGreat
set_option maxRecDepth 100000
open Go.RowKit
theorem oP {P:Program} (w:World) (base:Nat) (t z e:TypeId) (i:TypeInfo) (size:Nat) (ht:P.underlying t=some (.slice e)) (hi:P.info? e=some i)
  (v:Value) (n:Nat) (xs:List Value) (j:w.ownsRow base e size v n xs) (c:Nat):(Builtin.append_ #[t,t] z #[v,.slice none 0 c]).run P w = .ok v w:=by
 rcases j.2 with ⟨rfl,rfl⟩|⟨g,u,cur,rfl,_,_,q,_⟩
 ·simp [Builtin.append_,run_underlying ht,sizeOf,typeInfo,hi,Builtin.lenOf,Builtin.firstCells]
 simp [Builtin.append_,run_underlying ht,sizeOf,typeInfo,hi,Builtin.lenOf,Builtin.firstCells,q,storeCells]
theorem yK {base:Nat} {W w w':World} {A:Option Addr} {lo:Nat} (g:Below lo W w) (hg:w.grownBy w' (A.map (·.block))) (hA:∀a,A=some a→base<=a.block) (j:lo<=base) (hs:lo<=w.heap.size):Below lo W w' :=
 g.grown hg hs (by
  cases A with
  | none=>simp
  | some a =>
   have:=hA a rfl
   simp only [Option.map_some,Option.some.injEq]
   rintro k rfl
   omega)
theorem dJ {ops:Array Oper} {rest:List Oper} {o:Oper} {a:Act} {Q:Exit→Act→World→Prop} {w W:World} (G:o.guard=none) (s x:Operand)
  (ho:o.op = .call { callee := .builtin .append,args:=#[s,x],argTypes:=#[26,26] })
  (base:Nat) (A:Option Addr) (n c:Nat) (xs:List Int) (hs:a.eval s = .slice A n c) (q:Own base w A n c xs) (B:Option Addr) (m d:Nat) (ys:List Int) (hx:a.eval x = .slice B m d) (hr:dP w B m ys)
  (hn:n+m<=1099511627776) (z:base<=w.heap.size) (Y:Below base W w)
  (h:∀A' c' w',Own base w' A' (n+m) c' (xs++ys)→Below base W w'→w.grownBy w' (A.map (·.block))→wpList Tryz.prog ops Q rest (a.put o.dst (.slice A' (n+m) c')) w'):wpList Tryz.prog ops Q (o :: rest) a w:=by
 obtain ⟨Z,hi,V,U,R⟩:=info_parts jL
 cases B with
 | none =>
  have hm:m=0:=by
   rcases Nat.eq_zero_or_pos m with h0|h0
   ·exact h0
   obtain ⟨b,o',e,_⟩:=hr.2 h0
   cases e
  subst hm
  have hy:ys=[]:=List.eq_nil_of_length_eq_zero hr.1
  subst hy
  refine wpList_plain G fun K hK=>?_
  have I:=oP (P:=Tryz.prog) w base 26 o.type 3 Z 1 Tryz.underlying26 hi _ _ _ q d
  unfold Oper.wp execOp
  simp only [ho,resolve,invoke,builtin,Sem.run_bind,Sem.run_pure,Result.andThen_ok,List.map_toArray,List.map_cons,List.map_nil,hs,hx,I]
  exact hK _ _ (h A c w (by simpa using q) Y (qF _ _))
 | some ad =>
  refine wpList_append_own_at w G s x 26 ho base 3 Z (.int .i64 0) 1 8 Tryz.underlying26 hi V U R rfl (by omega) (.slice A n c) n _ hs q ad m d (ys.map (Value.int .i64)) hx (by simp [hr.1])
   (fun j u D=>?_) (fun u D=>by simp at D;obtain ⟨y,_,rfl⟩:=D;rfl) (by unfold maxLen;omega) (by omega) z ?_
  ·have hj:j<m:=by
    have:=(List.getElem?_eq_some_iff.1 D).1
    simpa [hr.1] using this
   obtain ⟨b,o',e,_,hc⟩:=hr.2 (by omega)
   injection e with e
   subst e
   rw [Addr.add_lit,hc j hj]
   have:j<ys.length:=by rw [hr.1];exact hj
   simp [this] at D
   simp [this,←D]
  intro v' w' h1 h2 _ _
  rw [iI] at h2
  have H:Below base W w':=yK Y h2 (fun a ha=>(q.lt a ha).1) (Nat.le_refl _) z
  rw [←List.map_append] at h1
  rcases h1.2 with ⟨rfl,h0⟩|⟨g,J,cur,rfl,_⟩
  ·have e:n+m=0:=h0
   have:=h none 0 w' (by rw [e] at h1 ⊢;exact h1) H h2
   rwa [e] at this
  exact h (some ⟨g,0,none⟩) J w' h1 H h2
end Go.Proofs.YtofihjoanjkdmaaGreat
