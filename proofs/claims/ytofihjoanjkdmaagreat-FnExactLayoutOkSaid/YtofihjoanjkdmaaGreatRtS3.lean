/- Sorting by insertion: the reference's l27Sort. -/
import Derived.Test.YtofihjoanjkdmaaGreatEmpty
import Derived.Test.YtofihjoanjkdmaaGreatRt4
namespace Go.Proofs.YtofihjoanjkdmaaGreat
set_option maxHeartbeats 1000000
set_option maxRecDepth 100000
open Go.RowKit
def yG (ys:List Int) (i k:Nat):Prop:=∃a x b rest,ys=a++x :: (b++rest)/\a.length=k/\k+b.length=i/\(a++b).Pairwise (·<=·)/\∀y∈b,x<=y
theorem vP {ys:List Int} {i:Nat} (h:(ys.take i).Pairwise (·<=·)) (hi:i<ys.length):yG ys i i:=by
 have e:ys=ys.take i++ys[i] :: ([]++ys.drop (i+1)):=by simp
 exact ⟨ys.take i,ys[i],[],ys.drop (i+1),e,by simp;omega,by simp,by simpa using h,by simp⟩
theorem rG {ys:List Int} {i k:Nat} (h:yG ys i k) (hk:k=0∨ys[k - 1]?.getD 0<=ys[k]?.getD 0):(ys.take (i+1)).Pairwise (·<=·):=by
 obtain ⟨a,x,b,rest,rfl,rfl,rfl,hp,hb⟩:=h
 have e:(a++x :: (b++rest)).take (a.length+b.length+1)=a++x :: b:=by
  rw [show a++x :: (b++rest)=(a++x :: b)++rest by simp,List.take_left' (by simp;omega)]
 rw [e]
 rw [List.pairwise_append] at hp ⊢
 rw [List.pairwise_cons]
 refine ⟨hp.1,⟨hb,hp.2.1⟩,fun u hu v hv=>?_⟩
 have hux:u<=x:=by
  rcases hk with h0|h0
  ·have:=List.eq_nil_of_length_eq_zero h0;subst this;simp at hu
  ·have hl:0<a.length:=List.length_pos_of_mem hu
   rw [List.getElem?_append_left (by omega),List.getElem?_append_right (Nat.le_refl _),Nat.sub_self,List.getElem?_cons_zero,Option.getD_some,List.getElem?_eq_getElem (by omega),Option.getD_some] at h0
   obtain ⟨j,hj,rfl⟩:=List.getElem_of_mem hu
   rcases Nat.lt_or_ge j (a.length - 1) with hlt|hge
   ·have:=List.pairwise_iff_getElem.1 hp.1 j (a.length - 1) hj (by omega) hlt
    omega
   ·have:j=a.length - 1:=by omega
    subst this
    exact h0
 rcases List.mem_cons.1 hv with rfl|hv
 ·exact hux
 ·exact hp.2.2 u hu v hv
theorem xK {ys:List Int} {i k:Nat} (h:yG ys i k) (h0:0<k) (hlt:ys[k]?.getD 0<ys[k - 1]?.getD 0) :
  yG ((ys.set k (ys[k - 1]?.getD 0)).set (k - 1) (ys[k]?.getD 0)) i (k - 1)/\((ys.set k (ys[k - 1]?.getD 0)).set (k - 1) (ys[k]?.getD 0)).Perm ys:=by
 obtain ⟨a,x,b,rest,rfl,rfl,rfl,hp,hb⟩:=h
 obtain ⟨a,y,rfl⟩:∃a' y,a=a'++[y]:=⟨a.dropLast,a.getLast (by rintro rfl;simp at h0),(List.dropLast_concat_getLast _).symm⟩
 have e1:(a++[y]++x :: (b++rest))[(a++[y]).length]?.getD 0=x:=by
  rw [List.getElem?_append_right (Nat.le_refl _),Nat.sub_self];rfl
 have e2:(a++[y]++x :: (b++rest))[(a++[y]).length - 1]?.getD 0=y:=by
  rw [List.getElem?_append_left (by simp)];simp
 rw [e1,e2] at hlt ⊢
 have e3:((a++[y]++x :: (b++rest)).set (a++[y]).length y).set ((a++[y]).length - 1) x=a++x :: (y :: b++rest):=by
  rw [List.set_append,if_neg (by omega),Nat.sub_self,List.set_cons_zero,List.append_assoc,List.set_append,if_neg (by simp)]
  simp
 rw [e3]
 refine ⟨⟨a,x,y :: b,rest,rfl,by simp,by simp;omega,by simpa using hp,fun z hz=>?_⟩,?_⟩
 ·rcases List.mem_cons.1 hz with rfl|hz
  ·omega
  ·exact hb z hz
 ·rw [List.append_assoc]
  refine List.Perm.append_left a ?_
  simp only [List.cons_append]
  exact List.Perm.swap y x (b++rest)
theorem lK (A:Option Addr) (n c:Nat) (xs:List Int) (w:World) (h:dA w A n xs) (hn:n<=1048576) :
  Calls Tryz.prog 235 #[.slice A n c] w fun e w'=>∃A' c',e = .returned (.slice A' n c')/\(∃ys,Own w.heap.size w' A' n c' ys/\ys.Perm xs/\ys.Pairwise (·<=·))/\Below w.heap.size w w':=by
 have HI:=Hd h
 have HXL:=Hd h.1
 clear h
 go_enter Tryz.func235,Tryz.ntmps235
 go_wp2_with (at_builtin;refine bX rfl _ _ rfl w.heap.size _ 0 0 [] rfl (Own.new0 (Nat.le_refl _)) A n c _ rfl (HI.out.below (aF (Below.refl _ _) _)) (by omega) (by simp) (aF (Below.refl _ _) _) ?_;rintro A1 c1 w1 o1 b1 -;rw [Nat.zero_add,List.nil_append] at o1)
 by_cases h1:n<=1
 ·have O1:=Hd o1
  have hd:decide ((1:Int)<(n:Int))=false:=by simp;omega
  clear o1
  go_loopw [4] (fun i wr=>i = .int .i64 1/\wr=w1) (fun _ _=>0)
  case atStart=>exact ⟨rfl,rfl⟩
  case round =>
   obtain ⟨rfl,rfl⟩:=hrel
   go_wp2_with fail
   go_ret
   refine ⟨A1,c1,rfl,⟨xs,O1.out,List.Perm.refl _,?_⟩,b1⟩
   match xs,HXL.out with
   | [],_=>exact List.Pairwise.nil
   | [x],_=>simp
   | x :: y :: l,hl=>simp at hl;omega
 ·obtain ⟨g,cur,rfl,hgb,_⟩:=o1.block (by omega)
  have O1:=Hd o1
  have B1:=Hd b1
  have hgl:=(o1.lt _ rfl).2
  clear o1 b1
  go_loopw [4] (fun i wr=>∃(m:Nat) (ys:List Int),1<=m/\m<=n/\i = .int .i64 m/\Own w.heap.size wr (some ⟨g,0,none⟩) n c1 ys/\ys.Perm xs/\(ys.take m).Pairwise (·<=·)/\Below w.heap.size w wr) (fun i _=>n - (intOf i).toNat)
  case atStart=>exact ⟨1,xs,by omega,by omega,rfl,O1.out,List.Perm.refl _,by cases xs <;> simp,B1.out⟩
  case round =>
   obtain ⟨m,ys,hm1,hm,rfl,ho,hp,hs,hb⟩:=hrel
   have HO:=Hd ho
   have HP:=Hd hp
   have HS:=Hd hs
   have HB:=Hd hb
   have HYL:=Hd ho.len
   clear ho hp hs hb
   by_cases hlt:m<n
   ·have hdm:decide ((m:Int)<(n:Int))=true:=by simp;omega
    go_wp2_with fail
    go_loopw [5] (fun i wr=>∃(k:Nat) (ys:List Int),k<=m/\i = .int .i64 k/\Own w.heap.size wr (some ⟨g,0,none⟩) n c1 ys/\ys.Perm xs/\yG ys m k/\Below w.heap.size w wr) (fun i _=>(intOf i).toNat)
    case atStart=>exact ⟨m,ys,Nat.le_refl _,rfl,HO.out,HP.out,vP HS.out (by rw [HYL.out];exact hlt),HB.out⟩
    case round =>
     obtain ⟨k,ys,hk,rfl,ho,hp,hs,hb⟩:=hrel
     have HO:=Hd ho
     have HP:=Hd hp
     have HS:=Hd hs
     have HB:=Hd hb
     by_cases hk0:k=0
     ·have HK0:=Hd hk0
      have hdk:decide ((k:Int)>0)=false:=by simp;omega
      have hdk2:decide ((0:Int)<(k:Int))=false:=by simp;omega
      have hdk3:decide (0<k)=false:=by simp;omega
      clear ho hp hs hb hk0
      go_wp2_with fail
      go_quiet (fail)
      go_wp2_with fail
      go_roundw
      case rel=>exact ⟨m+1,ys,by omega,by omega,by go_num,HO.out,HP.out,rG HS.out (.inl HK0.out),ay HB.out _⟩
      case measure=>simp [intOf];omega
     ·have hdk:decide ((k:Int)>0)=true:=by simp;omega
      have hdk2:decide ((0:Int)<(k:Int))=true:=by simp;omega
      have hdk3:decide (0<k)=true:=by simp;omega
      obtain ⟨ca,fa⟩:=ho.cellAt (k:=k) (by omega)
      obtain ⟨cb,fb⟩:=ho.cellAt (k:=k - 1) (by omega)
      have hgl2:=(ho.lt _ rfl).2
      have HSW:=Hd (fun h=>xK hs (by omega) h)
      have HSD:=Hd (fun h=>rG hs (.inr h))
      have HST:=Hd (fun x y=>(ho.stored (k:=k) (by omega) y).stored (k:=k - 1) (by omega) x)
      generalize ys[k]?.getD 0=x at *
      generalize ys[k - 1]?.getD 0=y at *
      have e4:IntKind.i64.wrap ((k:Int) - 1)=(k:Int) - 1:=IntWalk.i64_in _ (by omega)
      have e5:((k:Int) - 1).toNat=k - 1:=by omega
      have i0:(0:Int)<=(k:Int):=by omega
      have i1:(k:Int)<(n:Int):=by omega
      have i2:(0:Int)<=(k:Int) - 1:=by omega
      have i3:(k:Int) - 1<(n:Int):=by omega
      have hkn:¬k=k - 1:=by omega
      clear ho hp hs hb
      by_cases hxy:x<y
      ·have hdx:decide (x<y)=true:=by simpa using hxy
       go_wp2_with fail
       go_quiet (fail)
       go_wp2_with fail
       go_roundw
       case rel=>exact ⟨k - 1,_,by omega,by first|rfl|go_num|(congr 1;omega),(HST.out x y).drewd,(HSW.out hxy).2.trans HP.out,(HSW.out hxy).1,ay ((HB.out.setCell (p:=⟨g,k,none⟩) hgb _).setCell (p:=⟨g,k - 1,none⟩) hgb _) _⟩
       case measure=>simp [intOf];omega
      ·have hdx:decide (x<y)=false:=by simp;omega
       have hxy':y<=x:=by omega
       go_wp2_with fail
       go_quiet (fail)
       go_wp2_with fail
       go_roundw
       case rel=>exact ⟨m+1,ys,by omega,by omega,by go_num,HO.out,HP.out,HSD.out hxy',ay HB.out _⟩
       case measure=>simp [intOf];omega
   ·have hmn:m=n:=by omega
    have HMN:=Hd hmn
    have hdm:decide ((m:Int)<(n:Int))=false:=by simp;omega
    clear hmn
    go_wp2_with fail
    go_ret
    exact ⟨_,c1,rfl,⟨ys,HO.out,HP.out,by have:=HS.out;rwa [HMN.out,List.take_of_length_le (by rw [HYL.out];exact Nat.le_refl _)] at this⟩,HB.out⟩
end Go.Proofs.YtofihjoanjkdmaaGreat
