/- Appending lists and rows; the copies of lists of lists. -/
import Derived.Test.YtlinbdkbbhpdpaaGreatRow2W
namespace Go.Proofs.YtlinbdkbbhpdpaaGreat
set_option maxRecDepth 100000
open Go.RowKit

theorem run_append_of_nil {P:Program} (w:World) (base:Nat) (t ty e:TypeId) (i:TypeInfo) (size:Nat) (ht:P.underlying t=some (.slice e)) (hi:P.info? e=some i)
  (v:Value) (n:Nat) (xs:List Value) (hown:w.ownsRow base e size v n xs) (c:Nat):(Builtin.append_ #[t,t] ty #[v,.slice none 0 c]).run P w = .ok v w:=by
 rcases hown.2 with ⟨rfl,rfl⟩|⟨g,cap,cur,rfl,_,_,hnc,_⟩
 ·simp [Builtin.append_,run_underlying ht,sizeOf,typeInfo,hi,Builtin.lenOf,Builtin.firstCells]
 ·simp [Builtin.append_,run_underlying ht,sizeOf,typeInfo,hi,Builtin.lenOf,Builtin.firstCells,hnc,storeCells]

theorem own_grown_lo {base:Nat} {W w w':World} {A:Option Addr} {lo:Nat} (hB:Below lo W w) (hg:w.grownBy w' (A.map (·.block))) (hA:∀a,A=some a→base≤a.block) (hb:lo≤base) (hs:lo≤w.heap.size):Below lo W w' :=
 hB.grown hg hs (by
  cases A with
  | none=>simp
  | some a =>
   have:=hA a rfl
   simp only [Option.map_some,Option.some.injEq]
   rintro k rfl
   omega)

/-- append(s, xs...) for a row of the call's own and whatever list of integers. -/
theorem wpList_append_ints {ops:Array Oper} {rest:List Oper} {o:Oper} {a:Act} {Q:Exit→Act→World→Prop} {w W:World} (hgd:o.guard=none) (s x:Operand)
  (ho:o.op = .call { callee := .builtin .append,args:=#[s,x],argTypes:=#[29,29] })
  (base:Nat) (A:Option Addr) (n c:Nat) (xs:List Int) (hs:a.eval s = .slice A n c) (hown:Own base w A n c xs) (B:Option Addr) (m d:Nat) (ys:List Int) (hx:a.eval x = .slice B m d) (hr:Ints w B m ys)
  (hn:n+m≤1099511627776) (hbase:base≤w.heap.size) (hB:Below base W w)
  (h:∀A' c' w',Own base w' A' (n+m) c' (xs++ys)→Below base W w'→w.grownBy w' (A.map (·.block))→wpList Tryz.prog ops Q rest (a.put o.dst (.slice A' (n+m) c')) w'):wpList Tryz.prog ops Q (o :: rest) a w:=by
 obtain ⟨i0,hi,hz0,hz1,hz2⟩:=info_parts int_info
 cases B with
 | none =>
  have hm:m=0:=by
   rcases Nat.eq_zero_or_pos m with h0|h0
   ·exact h0
   ·obtain ⟨b,o',e,_⟩:=hr.2 h0
    cases e
  subst hm
  have hy:ys=[]:=List.eq_nil_of_length_eq_zero hr.1
  subst hy
  refine wpList_plain hgd fun K hK=>?_
  have hrun:=run_append_of_nil (P:=Tryz.prog) w base 29 o.type 3 i0 1 Tryz.underlying29 hi _ _ _ hown d
  unfold Oper.wp execOp
  simp only [ho,resolve,invoke,builtin,Sem.run_bind,Sem.run_pure,Result.andThen_ok,List.map_toArray,List.map_cons,List.map_nil,hs,hx,hrun]
  exact hK _ _ (h A c w (by simpa using hown) hB (grownBy_refl _ _))
 | some ad =>
  refine wpList_append_own_at w hgd s x 29 ho base 3 i0 (.int .i64 0) 1 8 Tryz.underlying29 hi hz0 hz1 hz2 rfl (by omega) (.slice A n c) n _ hs hown ad m d (ys.map (Value.int .i64)) hx (by simp [hr.1])
   (fun j u hu=>?_) (fun u hu=>by simp at hu;obtain ⟨y,_,rfl⟩:=hu;rfl) (by unfold maxLen;omega) (by omega) hbase ?_
  ·have hj:j<m:=by
    have:=(List.getElem?_eq_some_iff.1 hu).1
    simpa [hr.1] using this
   obtain ⟨b,o',e,_,hc⟩:=hr.2 (by omega)
   injection e with e
   subst e
   rw [Addr.add_lit,hc j hj]
   have:j<ys.length:=by rw [hr.1];exact hj
   simp [this] at hu
   simp [this,←hu]
  ·intro v' w' h1 h2 _ _
   rw [ownBlock_slice] at h2
   have hB':Below base W w':=own_grown_lo hB h2 (fun a ha=>(hown.lt a ha).1) (Nat.le_refl _) hbase
   rw [←List.map_append] at h1
   rcases h1.2 with ⟨rfl,h0⟩|⟨g,cap,cur,rfl,_⟩
   ·have e:n+m=0:=h0
    have:=h none 0 w' (by rw [e] at h1 ⊢;exact h1) hB' h2
    rwa [e] at this
   ·exact h (some ⟨g,0,none⟩) cap w' h1 hB' h2

end Go.Proofs.YtlinbdkbbhpdpaaGreat
