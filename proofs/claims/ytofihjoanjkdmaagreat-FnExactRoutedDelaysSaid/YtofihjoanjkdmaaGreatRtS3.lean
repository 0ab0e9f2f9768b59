/- Sorting by insertion: the reference's l27Sort. -/
import Derived.Test.YtofihjoanjkdmaaGreatEmpty
import Derived.Test.YtofihjoanjkdmaaGreatRt4
namespace Go.Proofs.YtofihjoanjkdmaaGreat
set_option maxHeartbeats 1000000
set_option maxRecDepth 100000
open Go.RowKit
def Dt (ys:List Int) (i k:Nat):Prop:=∃a x b rest,ys=a++x :: (b++rest)/\a.length=k/\k+b.length=i/\(a++b).Pairwise (·<=·)/\∀y∈b,x<=y
theorem AX {ys:List Int} {i:Nat} (h:(ys.take i).Pairwise (·<=·)) (hi:i<ys.length):Dt ys i i:=by
 have e:ys=ys.take i++ys[i] :: ([]++ys.drop (i+1)):=by simp
 exact ⟨ys.take i,ys[i],[],ys.drop (i+1),e,by simp;omega,by simp,by simpa using h,by simp⟩
theorem wZ {ys:List Int} {i k:Nat} (h:Dt ys i k) (hk:k=0∨ys[k - 1]?.getD 0<=ys[k]?.getD 0):(ys.take (i+1)).Pairwise (·<=·):=by
 obtain ⟨a,x,b,rest,rfl,rfl,rfl,g,H⟩:=h
 have e:(a++x :: (b++rest)).take (a.length+b.length+1)=a++x :: b:=by
  rw [show a++x :: (b++rest)=(a++x :: b)++rest by simp,List.take_left' (by simp;omega)]
 rw [e]
 rw [List.pairwise_append] at g ⊢
 rw [List.pairwise_cons]
 refine ⟨g.1,⟨H,g.2.1⟩,fun u q v z=>?_⟩
 have B:u<=x:=by
  rcases hk with h0|h0
  ·have:=List.eq_nil_of_length_eq_zero h0;subst this;simp at q
  have hl:0<a.length:=List.length_pos_of_mem q
  rw [List.getElem?_append_left (by omega),List.getElem?_append_right (Nat.le_refl _),Nat.sub_self,List.getElem?_cons_zero,Option.getD_some,List.getElem?_eq_getElem (by omega),Option.getD_some] at h0
  obtain ⟨j,hj,rfl⟩:=List.getElem_of_mem q
  rcases Nat.lt_or_ge j (a.length - 1) with D|G
  ·have:=List.pairwise_iff_getElem.1 g.1 j (a.length - 1) hj (by omega) D
   omega
  have:j=a.length - 1:=by omega
  subst this
  exact h0
 rcases List.mem_cons.1 z with rfl|z
 ·exact B
 exact g.2.2 u q v z
theorem CX {ys:List Int} {i k:Nat} (h:Dt ys i k) (h0:0<k) (j:ys[k]?.getD 0<ys[k - 1]?.getD 0) :
  Dt ((ys.set k (ys[k - 1]?.getD 0)).set (k - 1) (ys[k]?.getD 0)) i (k - 1)/\((ys.set k (ys[k - 1]?.getD 0)).set (k - 1) (ys[k]?.getD 0)).Perm ys:=by
 obtain ⟨a,x,b,rest,rfl,rfl,rfl,q,u⟩:=h
 obtain ⟨a,y,rfl⟩:∃B y,a=B++[y]:=⟨a.dropLast,a.getLast (by rintro rfl;simp at h0),(List.dropLast_concat_getLast _).symm⟩
 have e1:(a++[y]++x :: (b++rest))[(a++[y]).length]?.getD 0=x:=by
  rw [List.getElem?_append_right (Nat.le_refl _),Nat.sub_self];rfl
 have e2:(a++[y]++x :: (b++rest))[(a++[y]).length - 1]?.getD 0=y:=by
  rw [List.getElem?_append_left (by simp)];simp
 rw [e1,e2] at j ⊢
 have e3:((a++[y]++x :: (b++rest)).set (a++[y]).length y).set ((a++[y]).length - 1) x=a++x :: (y :: b++rest):=by
  rw [List.set_append,if_neg (by omega),Nat.sub_self,List.set_cons_zero,List.append_assoc,List.set_append,if_neg (by simp)]
  simp
 rw [e3]
 refine ⟨⟨a,x,y :: b,rest,rfl,by simp,by simp;omega,by simpa using q,fun z g=>?_⟩,?_⟩
 ·rcases List.mem_cons.1 g with rfl|g
  ·omega
  exact u z g
 rw [List.append_assoc]
 refine List.Perm.append_left a ?_
 simp only [List.cons_append]
 exact List.Perm.swap y x (b++rest)
theorem oH (A:Option Addr) (n c:Nat) (xs:List Int) (w:World) (h:dE w A n xs) (hn:n<=1048576) :
  Calls Tryz.prog 235 #[.slice A n c] w fun e w'=>∃A' c',e = .returned (.slice A' n c')/\(∃ys,Own w.heap.size w' A' n c' ys/\ys.Perm xs/\ys.Pairwise (·<=·))/\Below w.heap.size w w':=by
 obtain ⟨HI,ak⟩:=hd2 h h.1
 clear h
 go_enter Tryz.func235,Tryz.ntmps235
 go_wp2_with (at_builtin;refine dJ rfl _ _ rfl w.heap.size _ 0 0 [] rfl (Own.new0 (Nat.le_refl _)) A n c _ rfl (HI.out.below (aD (Below.refl _ _) _)) (by omega) (by simp) (aD (Below.refl _ _) _) ?_;rintro A1 c1 w1 j Y -;rw [Nat.zero_add,List.nil_append] at j)
 by_cases h1:n<=1
 ·have O1:=Hd j
  have hd:=dF (by omega:n<=1)
  clear j
  go_loopw [4] (fun i wr=>i = .int .i64 1/\wr=w1) (fun _ _=>0)
  ·exact ⟨rfl,rfl⟩
  obtain ⟨rfl,rfl⟩:=hrel
  go_wp2_with fail
  go_ret
  refine ⟨A1,c1,rfl,⟨xs,O1.out,List.Perm.refl _,?_⟩,Y⟩
  match xs,ak.out with
  | [],_=>exact List.Pairwise.nil
  | [x],_=>simp
  | x :: y :: l,hl=>simp at hl;omega
 obtain ⟨g,cur,rfl,J,_⟩:=j.block (by omega)
 obtain ⟨O1,B1⟩:=hd2 j Y
 have au:=(j.lt _ rfl).2
 clear j Y
 go_loopw [4] (fun i wr=>∃(m:Nat) (ys:List Int),1<=m/\m<=n/\i = .int .i64 m/\Own w.heap.size wr (some ⟨g,0,none⟩) n c1 ys/\ys.Perm xs/\(ys.take m).Pairwise (·<=·)/\Below w.heap.size w wr) (fun i _=>n - (intOf i).toNat)
 ·exact ⟨1,xs,by omega,by omega,rfl,O1.out,List.Perm.refl _,by cases xs <;> simp,B1.out⟩
 obtain ⟨m,ys,av,hm,rfl,ho,z,hs,D⟩:=hrel
 obtain ⟨H,B,W,u,Q⟩:=hd5 ho z hs D ho.len
 clear ho z hs D
 by_cases Z:m<n
 ·have ad:=dT (by omega:m<n)
  go_wp2_with fail
  go_loopw [5] (fun i wr=>∃(k:Nat) (ys:List Int),k<=m/\i = .int .i64 k/\Own w.heap.size wr (some ⟨g,0,none⟩) n c1 ys/\ys.Perm xs/\Dt ys m k/\Below w.heap.size w wr) (fun i _=>(intOf i).toNat)
  ·exact ⟨m,ys,Nat.le_refl _,rfl,H.out,B.out,AX W.out (by rw [Q.out];exact Z),u.out⟩
  obtain ⟨k,ys,hk,rfl,ho,z,hs,D⟩:=hrel
  obtain ⟨H,B,W,u⟩:=hd4 ho z hs D
  by_cases G:k=0
  ·have ag:=Hd G
   have ai:decide ((k:Int)>0)=false:=by simp;omega
   have I:=dF (by omega:k<=0)
   have K:decide (0<k)=false:=by simp;omega
   clear ho z hs D G
   go_wp2_with fail
   go_quiet (fail)
   go_wp2_with fail
   go_roundw
   ·exact ⟨m+1,ys,by omega,by omega,by go_num,H.out,B.out,wZ W.out (.inl ag.out),bB u.out _⟩
   simp [intOf];omega
  have ai:decide ((k:Int)>0)=true:=by simp;omega
  have I:=dT (by omega:0<k)
  have K:decide (0<k)=true:=by simp;omega
  obtain ⟨ca,fa⟩:=ho.cellAt (k:=k) (by omega)
  obtain ⟨cb,fb⟩:=ho.cellAt (k:=k - 1) (by omega)
  have am:=(ho.lt _ rfl).2
  have U:=Hd (fun h=>CX hs (by omega) h)
  have aj:=Hd (fun h=>wZ hs (.inr h))
  have af:=Hd (fun x y=>(ho.stored (k:=k) (by omega) y).stored (k:=k - 1) (by omega) x)
  generalize ys[k]?.getD 0=x at *
  generalize ys[k - 1]?.getD 0=y at *
  have e4:IntKind.i64.wrap ((k:Int) - 1)=(k:Int) - 1:=IntWalk.i64_in _ (by omega)
  have e5:((k:Int) - 1).toNat=k - 1:=by omega
  obtain ⟨i0,i1⟩:=ib (by omega:k<n)
  have i2:(0:Int)<=(k:Int) - 1:=by omega
  have i3:(k:Int) - 1<(n:Int):=by omega
  have aw:¬k=k - 1:=by omega
  clear ho z hs D
  by_cases q:x<y
  ·have al:decide (x<y)=true:=by simpa using q
   go_wp2_with fail
   go_quiet (fail)
   go_wp2_with fail
   go_roundw
   ·exact ⟨k - 1,_,by omega,by first|rfl|go_num|(congr 1;omega),(af.out x y).drewd,(U.out q).2.trans B.out,(U.out q).1,bB ((u.out.setCell (p:=⟨g,k,none⟩) J _).setCell (p:=⟨g,k - 1,none⟩) J _) _⟩
   simp [intOf];omega
  have al:decide (x<y)=false:=by simp;omega
  have V:y<=x:=by omega
  go_wp2_with fail
  go_quiet (fail)
  go_wp2_with fail
  go_roundw
  ·exact ⟨m+1,ys,by omega,by omega,by go_num,H.out,B.out,aj.out V,bB u.out _⟩
  simp [intOf];omega
 have R:m=n:=by omega
 have ah:=Hd R
 have ad:=dF (by omega:n<=m)
 clear R
 go_wp2_with fail
 go_ret
 exact ⟨_,c1,rfl,⟨ys,H.out,B.out,by have:=W.out;rwa [ah.out,List.take_of_length_le (by rw [Q.out];exact Nat.le_refl _)] at this⟩,u.out⟩
end Go.Proofs.YtofihjoanjkdmaaGreat
