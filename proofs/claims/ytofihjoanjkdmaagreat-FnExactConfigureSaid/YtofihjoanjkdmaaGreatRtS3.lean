/- Sorting by insertion: the reference's l27Sort. -/
import Derived.Test.YtofihjoanjkdmaaGreatEmpty
import Derived.Test.YtofihjoanjkdmaaGreatRt4
namespace Go.Proofs.YtofihjoanjkdmaaGreat
set_option maxHeartbeats 1000000
set_option maxRecDepth 100000
open Go.RowKit
def D6 (ys:List Int) (i k:Nat):Prop:=∃a x b rest,ys=a++x :: (b++rest)/\a.length=k/\k+b.length=i/\(a++b).Pairwise (·<=·)/\∀y∈b,x<=y
theorem Aa {ys:List Int} {i:Nat} (h:(ys.take i).Pairwise (·<=·)) (hi:i<ys.length):D6 ys i i:=by
 have e:ys=ys.take i++ys[i] :: ([]++ys.drop (i+1)):=by simp
 exact ⟨ys.take i,ys[i],[],ys.drop (i+1),e,by simp;omega,by simp,by simpa using h,by simp⟩
theorem wU {ys:List Int} {i k:Nat} (h:D6 ys i k) (hk:k=0∨ys[k - 1]?.getD 0<=ys[k]?.getD 0):(ys.take (i+1)).Pairwise (·<=·):=by
 obtain ⟨a,x,b,rest,rfl,rfl,rfl,g,H⟩:=h
 have e:(a++x :: (b++rest)).take (a.length+b.length+1)=a++x :: b:=by
  rw [show a++x :: (b++rest)=(a++x :: b)++rest by simp,List.take_left' (by simp;omega)]
 rw [e]
 rw [List.pairwise_append] at g ⊢
 rw [List.pairwise_cons]
 refine ⟨g.1,⟨H,g.2.1⟩,fun u q v B=>?_⟩
 have z:u<=x:=by
  rcases hk with h0|h0
  ·have:=List.eq_nil_of_length_eq_zero h0;subst this;simp at q
  have hl:0<a.length:=List.length_pos_of_mem q
  rw [List.getElem?_append_left (by omega),List.getElem?_append_right (Nat.le_refl _),Nat.sub_self,List.getElem?_cons_zero,Option.getD_some,List.getElem?_eq_getElem (by omega),Option.getD_some] at h0
  obtain ⟨j,hj,rfl⟩:=List.getElem_of_mem q
  rcases Nat.lt_or_ge j (a.length - 1) with D|G
  ·have:=List.pairwise_iff_getElem.1 g.1 j (a.length - 1) hj (by omega) D
   omega
  have:j=a.length - 1:=by omega
  subst this
  exact h0
 rcases List.mem_cons.1 B with rfl|B
 ·exact z
 exact g.2.2 u q v B
theorem Cc {ys:List Int} {i k:Nat} (h:D6 ys i k) (h0:0<k) (g:ys[k]?.getD 0<ys[k - 1]?.getD 0) :
  D6 ((ys.set k (ys[k - 1]?.getD 0)).set (k - 1) (ys[k]?.getD 0)) i (k - 1)/\((ys.set k (ys[k - 1]?.getD 0)).set (k - 1) (ys[k]?.getD 0)).Perm ys:=by
 obtain ⟨a,x,b,rest,rfl,rfl,rfl,q,B⟩:=h
 obtain ⟨a,y,rfl⟩:∃u y,a=u++[y]:=⟨a.dropLast,a.getLast (by rintro rfl;simp at h0),(List.dropLast_concat_getLast _).symm⟩
 have e1:(a++[y]++x :: (b++rest))[(a++[y]).length]?.getD 0=x:=by
  rw [List.getElem?_append_right (Nat.le_refl _),Nat.sub_self];rfl
 have e2:(a++[y]++x :: (b++rest))[(a++[y]).length - 1]?.getD 0=y:=by
  rw [List.getElem?_append_left (by simp)];simp
 rw [e1,e2] at g ⊢
 have e3:((a++[y]++x :: (b++rest)).set (a++[y]).length y).set ((a++[y]).length - 1) x=a++x :: (y :: b++rest):=by
  rw [List.set_append,if_neg (by omega),Nat.sub_self,List.set_cons_zero,List.append_assoc,List.set_append,if_neg (by simp)]
  simp
 rw [e3]
 refine ⟨⟨a,x,y :: b,rest,rfl,by simp,by simp;omega,by simpa using q,fun z j=>?_⟩,?_⟩
 ·rcases List.mem_cons.1 j with rfl|j
  ·omega
  exact B z j
 rw [List.append_assoc]
 refine List.Perm.append_left a ?_
 simp only [List.cons_append]
 exact List.Perm.swap y x (b++rest)
theorem oG (A:Option Addr) (n c:Nat) (xs:List Int) (w:World) (h:dP w A n xs) (hn:n<=1048576) :
  Calls Tryz.prog 235 #[.slice A n c] w fun e w'=>∃A' c',e = .returned (.slice A' n c')/\(∃ys,Own w.heap.size w' A' n c' ys/\ys.Perm xs/\ys.Pairwise (·<=·))/\Below w.heap.size w w':=by
 obtain ⟨HI,Z⟩:=hd2 h h.1
 clear h
 go_enter Tryz.func235,Tryz.ntmps235
 go_wp2_with (at_builtin;refine dJ rfl _ _ rfl w.heap.size _ 0 0 [] rfl (Own.new0 (Nat.le_refl _)) A n c _ rfl (HI.out.below (aB (Below.refl _ _) _)) (by omega) (by simp) (aB (Below.refl _ _) _) ?_;rintro A1 c1 w1 q b1 -;rw [Nat.zero_add,List.nil_append] at q)
 by_cases h1:n<=1
 ·have Y:=Hd q
  have hd:=dF (by omega:n<=1)
  clear q
  go_loopw [4] (fun i wr=>i = .int .i64 1/\wr=w1) (fun _ _=>0)
  ·exact ⟨rfl,rfl⟩
  obtain ⟨rfl,rfl⟩:=hrel
  go_wp2_with fail
  go_ret
  refine ⟨A1,c1,rfl,⟨xs,Y.out,List.Perm.refl _,?_⟩,b1⟩
  match xs,Z.out with
  | [],_=>exact List.Pairwise.nil
  | [x],_=>simp
  | x :: y :: l,hl=>simp at hl;omega
 obtain ⟨g,cur,rfl,V,_⟩:=q.block (by omega)
 obtain ⟨Y,B1⟩:=hd2 q b1
 have aw:=(q.lt _ rfl).2
 clear q b1
 go_loopw [4] (fun i wr=>∃(m:Nat) (ys:List Int),1<=m/\m<=n/\i = .int .i64 m/\Own w.heap.size wr (some ⟨g,0,none⟩) n c1 ys/\ys.Perm xs/\(ys.take m).Pairwise (·<=·)/\Below w.heap.size w wr) (fun i _=>n - (intOf i).toNat)
 ·exact ⟨1,xs,by omega,by omega,rfl,Y.out,List.Perm.refl _,by cases xs <;> simp,B1.out⟩
 obtain ⟨m,ys,ax,hm,rfl,ho,u,hs,D⟩:=hrel
 obtain ⟨G,z,W,B,K⟩:=hd5 ho u hs D ho.len
 clear ho u hs D
 by_cases ak:m<n
 ·have ae:=dT (by omega:m<n)
  go_wp2_with fail
  go_loopw [5] (fun i wr=>∃(k:Nat) (ys:List Int),k<=m/\i = .int .i64 k/\Own w.heap.size wr (some ⟨g,0,none⟩) n c1 ys/\ys.Perm xs/\D6 ys m k/\Below w.heap.size w wr) (fun i _=>(intOf i).toNat)
  ·exact ⟨m,ys,Nat.le_refl _,rfl,G.out,z.out,Aa W.out (by rw [K.out];exact ak),B.out⟩
  obtain ⟨k,ys,hk,rfl,ho,u,hs,D⟩:=hrel
  obtain ⟨G,z,W,B⟩:=hd4 ho u hs D
  by_cases H:k=0
  ·have ai:=Hd H
   have ah:decide ((k:Int)>0)=false:=by simp;omega
   have R:=dF (by omega:k<=0)
   have U:decide (0<k)=false:=by simp;omega
   clear ho u hs D H
   go_wp2_with fail
   go_quiet (fail)
   go_wp2_with fail
   go_roundw
   ·exact ⟨m+1,ys,by omega,by omega,by go_num,G.out,z.out,wU W.out (.inl ai.out),bE B.out _⟩
   simp [intOf];omega
  have ah:decide ((k:Int)>0)=true:=by simp;omega
  have R:=dT (by omega:0<k)
  have U:decide (0<k)=true:=by simp;omega
  obtain ⟨ca,fa⟩:=ho.cellAt (k:=k) (by omega)
  obtain ⟨cb,fb⟩:=ho.cellAt (k:=k - 1) (by omega)
  have ap:=(ho.lt _ rfl).2
  have Q:=Hd (fun h=>Cc hs (by omega) h)
  have ag:=Hd (fun h=>wU hs (.inr h))
  have af:=Hd (fun x y=>(ho.stored (k:=k) (by omega) y).stored (k:=k - 1) (by omega) x)
  generalize ys[k]?.getD 0=x at *
  generalize ys[k - 1]?.getD 0=y at *
  have e4:IntKind.i64.wrap ((k:Int) - 1)=(k:Int) - 1:=IntWalk.i64_in _ (by omega)
  have e5:((k:Int) - 1).toNat=k - 1:=by omega
  obtain ⟨i0,i1⟩:=ib (by omega:k<n)
  have i2:(0:Int)<=(k:Int) - 1:=by omega
  have i3:(k:Int) - 1<(n:Int):=by omega
  have aq:¬k=k - 1:=by omega
  clear ho u hs D
  by_cases j:x<y
  ·have ad:decide (x<y)=true:=by simpa using j
   go_wp2_with fail
   go_quiet (fail)
   go_wp2_with fail
   go_roundw
   ·exact ⟨k - 1,_,by omega,by first|rfl|go_num|(congr 1;omega),(af.out x y).drewd,(Q.out j).2.trans z.out,(Q.out j).1,bE ((B.out.setCell (p:=⟨g,k,none⟩) V _).setCell (p:=⟨g,k - 1,none⟩) V _) _⟩
   simp [intOf];omega
  have ad:decide (x<y)=false:=by simp;omega
  have I:y<=x:=by omega
  go_wp2_with fail
  go_quiet (fail)
  go_wp2_with fail
  go_roundw
  ·exact ⟨m+1,ys,by omega,by omega,by go_num,G.out,z.out,ag.out I,bE B.out _⟩
  simp [intOf];omega
 have J:m=n:=by omega
 have aj:=Hd J
 have ae:=dF (by omega:n<=m)
 clear J
 go_wp2_with fail
 go_ret
 exact ⟨_,c1,rfl,⟨ys,G.out,z.out,by have:=W.out;rwa [aj.out,List.take_of_length_le (by rw [K.out];exact Nat.le_refl _)] at this⟩,B.out⟩
end Go.Proofs.YtofihjoanjkdmaaGreat
