/- Sorting by insertion: the reference's l27Sort. -/
import Derived.Test.YtofihjoanjkdmaaGreatEmpty
import Derived.Test.YtofihjoanjkdmaaGreatRt4
namespace Go.Proofs.YtofihjoanjkdmaaGreat
set_option maxHeartbeats 1000000
set_option maxRecDepth 100000
open Go.RowKit
def D6 (ys:List Int) (i k:Nat):Prop:=∃a x b rest,ys=a++x :: (b++rest)/\a.length=k/\k+b.length=i/\(a++b).Pairwise (·<=·)/\∀y∈b,x<=y
theorem Aa {ys:List Int} {i:Nat} (h:(ys.take i).Pairwise (·<=·)) (hi:i<ys.length):D6 ys i i:=by
 have e:ys=ys.take i++ys[i] :: ([]++ys.drop (i+1)):=by simp
 exact ⟨ys.take i,ys[i],[],ys.drop (i+1),e,by simp;omega,by simp,by simpa using h,by simp⟩
theorem wU {ys:List Int} {i k:Nat} (h:D6 ys i k) (hk:k=0∨ys[k - 1]?.getD 0<=ys[k]?.getD 0):(ys.take (i+1)).Pairwise (·<=·):=by
 obtain ⟨a,x,b,rest,rfl,rfl,rfl,g,G⟩:=h
 have e:(a++x :: (b++rest)).take (a.length+b.length+1)=a++x :: b:=by
  rw [show a++x :: (b++rest)=(a++x :: b)++rest by simp,List.take_left' (by simp;omega)]
 rw [e]
 rw [List.pairwise_append] at g ⊢
 rw [List.pairwise_cons]
 refine ⟨g.1,⟨G,g.2.1⟩,fun u q v B=>?_⟩
 have z:u<=x:=by
  rcases hk with h0|h0
  ·have:=List.eq_nil_of_length_eq_zero h0;subst this;simp at q
  have hl:0<a.length:=List.length_pos_of_mem q
  rw [List.getElem?_append_left (by omega),List.getElem?_append_right (Nat.le_refl _),Nat.sub_self,List.getElem?_cons_zero,Option.getD_some,List.getElem?_eq_getElem (by omega),Option.getD_some] at h0
  obtain ⟨j,hj,rfl⟩:=List.getElem_of_mem q
  rcases Nat.lt_or_ge j (a.length - 1) with D|H
  ·have:=List.pairwise_iff_getElem.1 g.1 j (a.length - 1) hj (by omega) D
   omega
  have:j=a.length - 1:=by omega
  subst this
  exact h0
 rcases List.mem_cons.1 B with rfl|B
 ·exact z
 exact g.2.2 u q v B
theorem Cc {ys:List Int} {i k:Nat} (h:D6 ys i k) (h0:0<k) (g:ys[k]?.getD 0<ys[k - 1]?.getD 0) :
  D6 ((ys.set k (ys[k - 1]?.getD 0)).set (k - 1) (ys[k]?.getD 0)) i (k - 1)/\((ys.set k (ys[k - 1]?.getD 0)).set (k - 1) (ys[k]?.getD 0)).Perm ys:=by
 obtain ⟨a,x,b,rest,rfl,rfl,rfl,u,q⟩:=h
 obtain ⟨a,y,rfl⟩:∃B y,a=B++[y]:=⟨a.dropLast,a.getLast (by rintro rfl;simp at h0),(List.dropLast_concat_getLast _).symm⟩
 have e1:(a++[y]++x :: (b++rest))[(a++[y]).length]?.getD 0=x:=by
  rw [List.getElem?_append_right (Nat.le_refl _),Nat.sub_self];rfl
 have e2:(a++[y]++x :: (b++rest))[(a++[y]).length - 1]?.getD 0=y:=by
  rw [List.getElem?_append_left (by simp)];simp
 rw [e1,e2] at g ⊢
 have e3:((a++[y]++x :: (b++rest)).set (a++[y]).length y).set ((a++[y]).length - 1) x=a++x :: (y :: b++rest):=by
  rw [List.set_append,if_neg (by omega),Nat.sub_self,List.set_cons_zero,List.append_assoc,List.set_append,if_neg (by simp)]
  simp
 rw [e3]
 refine ⟨⟨a,x,y :: b,rest,rfl,by simp,by simp;omega,by simpa using u,fun z j=>?_⟩,?_⟩
 ·rcases List.mem_cons.1 j with rfl|j
  ·omega
  exact q z j
 rw [List.append_assoc]
 refine List.Perm.append_left a ?_
 simp only [List.cons_append]
 exact List.Perm.swap y x (b++rest)
theorem oG (A:Option Addr) (n c:Nat) (xs:List Int) (w:World) (h:dP w A n xs) (hn:n<=1048576) :
  Calls Tryz.prog 235 #[.slice A n c] w fun e w'=>∃A' c',e = .returned (.slice A' n c')/\(∃ys,Own w.heap.size w' A' n c' ys/\ys.Perm xs/\ys.Pairwise (·<=·))/\Below w.heap.size w w':=by
 obtain ⟨HI,ak⟩:=hd2 h h.1
 clear h
 go_enter Tryz.func235,Tryz.ntmps235
 go_wp2_with (at_builtin;refine dJ rfl _ _ rfl w.heap.size _ 0 0 [] rfl (Own.new0 (Nat.le_refl _)) A n c _ rfl (HI.out.below (aB (Below.refl _ _) _)) (by omega) (by simp) (aB (Below.refl _ _) _) ?_;rintro A1 c1 w1 q Y -;rw [Nat.zero_add,List.nil_append] at q)
 by_cases h1:n<=1
 ·have O1:=Hd q
  have hd:=dF (by omega:n<=1)
  clear q
  go_loopw [4] (fun i wr=>i = .int .i64 1/\wr=w1) (fun _ _=>0)
  ·exact ⟨rfl,rfl⟩
  obtain ⟨rfl,rfl⟩:=hrel
  go_wp2_with fail
  go_ret
  refine ⟨A1,c1,rfl,⟨xs,O1.out,List.Perm.refl _,?_⟩,Y⟩
  match xs,ak.out with
  | [],_=>exact List.Pairwise.nil
  | [x],_=>simp
  | x :: y :: l,hl=>simp at hl;omega
 obtain ⟨g,cur,rfl,I,_⟩:=q.block (by omega)
 obtain ⟨O1,B1⟩:=hd2 q Y
 have av:=(q.lt _ rfl).2
 clear q Y
 go_loopw [4] (fun i wr=>∃(m:Nat) (ys:List Int),1<=m/\m<=n/\i = .int .i64 m/\Own w.heap.size wr (some ⟨g,0,none⟩) n c1 ys/\ys.Perm xs/\(ys.take m).Pairwise (·<=·)/\Below w.heap.size w wr) (fun i _=>n - (intOf i).toNat)
 ·exact ⟨1,xs,by omega,by omega,rfl,O1.out,List.Perm.refl _,by cases xs <;> simp,B1.out⟩
 obtain ⟨m,ys,ar,hm,rfl,ho,B,hs,z⟩:=hrel
 obtain ⟨R,u,W,D,J⟩:=hd5 ho B hs z ho.len
 clear ho B hs z
 by_cases al:m<n
 ·have ag:=dT (by omega:m<n)
  go_wp2_with fail
  go_loopw [5] (fun i wr=>∃(k:Nat) (ys:List Int),k<=m/\i = .int .i64 k/\Own w.heap.size wr (some ⟨g,0,none⟩) n c1 ys/\ys.Perm xs/\D6 ys m k/\Below w.heap.size w wr) (fun i _=>(intOf i).toNat)
  ·exact ⟨m,ys,Nat.le_refl _,rfl,R.out,u.out,Aa W.out (by rw [J.out];exact al),D.out⟩
  obtain ⟨k,ys,hk,rfl,ho,B,hs,z⟩:=hrel
  obtain ⟨R,u,W,D⟩:=hd4 ho B hs z
  by_cases Q:k=0
  ·have aj:=Hd Q
   have Z:decide ((k:Int)>0)=false:=by simp;omega
   have K:=dF (by omega:k<=0)
   have V:decide (0<k)=false:=by simp;omega
   clear ho B hs z Q
   go_wp2_with fail
   go_quiet (fail)
   go_wp2_with fail
   go_roundw
   ·exact ⟨m+1,ys,by omega,by omega,by go_num,R.out,u.out,wU W.out (.inl aj.out),bE D.out _⟩
   simp [intOf];omega
  have Z:decide ((k:Int)>0)=true:=by simp;omega
  have K:=dT (by omega:0<k)
  have V:decide (0<k)=true:=by simp;omega
  obtain ⟨ca,fa⟩:=ho.cellAt (k:=k) (by omega)
  obtain ⟨cb,fb⟩:=ho.cellAt (k:=k - 1) (by omega)
  have ap:=(ho.lt _ rfl).2
  have H:=Hd (fun h=>Cc hs (by omega) h)
  have af:=Hd (fun h=>wU hs (.inr h))
  have ah:=Hd (fun x y=>(ho.stored (k:=k) (by omega) y).stored (k:=k - 1) (by omega) x)
  generalize ys[k]?.getD 0=x at *
  generalize ys[k - 1]?.getD 0=y at *
  have e4:IntKind.i64.wrap ((k:Int) - 1)=(k:Int) - 1:=IntWalk.i64_in _ (by omega)
  have e5:((k:Int) - 1).toNat=k - 1:=by omega
  obtain ⟨i0,i1⟩:=ib (by omega:k<n)
  have i2:(0:Int)<=(k:Int) - 1:=by omega
  have i3:(k:Int) - 1<(n:Int):=by omega
  have aw:¬k=k - 1:=by omega
  clear ho B hs z
  by_cases j:x<y
  ·have ai:decide (x<y)=true:=by simpa using j
   go_wp2_with fail
   go_quiet (fail)
   go_wp2_with fail
   go_roundw
   ·exact ⟨k - 1,_,by omega,by first|rfl|go_num|(congr 1;omega),(ah.out x y).drewd,(H.out j).2.trans u.out,(H.out j).1,bE ((D.out.setCell (p:=⟨g,k,none⟩) I _).setCell (p:=⟨g,k - 1,none⟩) I _) _⟩
   simp [intOf];omega
  have ai:decide (x<y)=false:=by simp;omega
  have U:y<=x:=by omega
  go_wp2_with fail
  go_quiet (fail)
  go_wp2_with fail
  go_roundw
  ·exact ⟨m+1,ys,by omega,by omega,by go_num,R.out,u.out,af.out U,bE D.out _⟩
  simp [intOf];omega
 have G:m=n:=by omega
 have ae:=Hd G
 have ag:=dF (by omega:n<=m)
 clear G
 go_wp2_with fail
 go_ret
 exact ⟨_,c1,rfl,⟨ys,R.out,u.out,by have:=W.out;rwa [ae.out,List.take_of_length_le (by rw [J.out];exact Nat.le_refl _)] at this⟩,D.out⟩
end Go.Proofs.YtofihjoanjkdmaaGreat
