/- Ascending insertion: the program's insertInt. -/
import Derived.Test.YtofihjoanjkdmaaGreatCopy
import Derived.Test.YtofihjoanjkdmaaGreatRtPure
namespace Go.Proofs.YtofihjoanjkdmaaGreat
set_option maxHeartbeats 1000000
set_option maxRecDepth 100000
open Go.RowKit
theorem OE{xs:List Int}{x:Int}:∀{k:Nat},k<=xs.length→(∀j,j<k→xs[j]?.getD 0<x)→(k<xs.length→x<=xs[k]?.getD 0)→ins xs x=if k<xs.length/\xs[k]?.getD 0=x then xs else xs.take k++[x]++xs.drop k:=by
 induction xs with
 | nil=>intro k hk _ _;simp at hk;subst hk;simp[ins]
 | cons y l ih =>
  intro k hk h1 h2;rw[ins]
  cases k with
  | zero =>
   have:=h2 (by simp);simp only[List.getElem?_cons_zero,Option.getD_some]at this;rw[if_neg (by omega)];by_cases e:y=x
   ·simp[e]
   ·simp[e]
  | succ k =>
   have h0:=h1 0 (by omega);simp only[List.getElem?_cons_zero,Option.getD_some]at h0;rw[if_pos h0,ih (k:=k) (by simpa using hk) (fun j hj=>by have:=h1 (j+1) (by omega);simpa using this) (fun hl=>by have:=h2 (by simp;omega);simpa using this)];simp only[List.length_cons,List.getElem?_cons_succ,Nat.add_lt_add_iff_right]
   split <;> simp
theorem Own.capLe{base:Nat}{w:World}{A:Oh}{n c:Nat}{xs:List Int}(h:Own base w A n c xs):n<=c:=by
 rcases h.2 with⟨j,h0⟩|⟨g,cap,cur,j,_,_,q,_⟩
 ·omega
 injection j with _ _ hc;omega
theorem bT.take{w:World}{A:Oh}{n k:Nat}{xs:List Int}(h:bT w A n xs)(hk:k<=n):bT w A k (xs.take k):=by
 refine⟨by rw[List.length_take,h.1];omega,fun h0=>?_⟩;obtain⟨b,o,e,hb,hc⟩:=h.2 (by omega);exact⟨b,o,e,hb,fun j hj=>by rw[hc j (by omega),List.getElem?_take,if_pos hj]⟩
theorem bT.drop{w:World}{b o n k:Nat}{xs:List Int}(h:bT w (some ⟨b,o,none⟩) n xs)(hk:k<=n):bT w (some ⟨b,o+k,none⟩) (n-k) (xs.drop k):=by
 refine⟨by rw[List.length_drop,h.1],fun h0=>?_⟩;obtain⟨g,q,e,hb,hc⟩:=h.2 (by omega);injection e with e
 injection e with e1 e2
 subst e1 e2;exact⟨b,o+k,rfl,hb,fun j hj=>by rw[Nat.add_assoc,hc (k+j) (by omega),List.getElem?_drop]⟩
theorem bT.none(w:World)(A:Oh):bT w A 0 []:=⟨rfl,fun h=>by omega⟩
theorem jD(base:Nat)(A:Oh)(n c:Nat)(xs:List Int)(x:Int)(w:World)(h:Own base w A n c xs)(hb:base<=w.heap.size)(hn:n<=1048576) :
  Calls Tryz.prog 215 #[.slice A n c,.int .i64 x] w fun e w'=>∃A' n' c',e=.returned (.slice A' n' c')/\Own base w' A' n' c' (ins xs x)/\Below w.heap.size w w':=by
 obtain⟨HO,H,HI⟩:=hd3 h h.len h.ints;have W:=Hd (fun k=>OE (xs:=xs) (x:=x) (k:=k));clear h;go_enter Tryz.func215,Tryz.ntmps215;go_wp2
 go_loopw[5] (fun i wr=>∃k nq:Nat,k<=n/\i=.int .i64 k/\wr=w.drewN nq/\∀j,j<k→xs[j]?.getD 0<x) (fun i _=>n-(intOf i).toNat)
 ·exact⟨0,0,Nat.zero_le _,rfl,rfl,by intro j hj;omega⟩
 obtain⟨k,nq,hk,rfl,rfl,I⟩:=hrel;have z:=Hd I;clear I;by_cases Z:k<n
 ·obtain⟨b,o,rfl,aD,hc⟩:=HI.1.2 (by omega);have aj:=hc k Z;have U:Hv (∃y,xs[k]?.getD 0=y):=Hd<|⟨_,rfl⟩
  obtain⟨y,hy⟩:=U.1;rw[hy]at aj;have U:=Hd hy;clear hc hy;obtain⟨i0,i1⟩:=ib (by omega:k<n);by_cases af:y<x
  ·go_wp2;go_roundw
   ·exact⟨k+1,_,by omega,by go_num,rfl,fQ z.1 (by rw[U.1];exact af)⟩
   simp[intOf];omega
  by_cases B:y=x
  ·subst B;go_wp2;go_ret;refine⟨_,_,_,rfl,?_,ae (Below.refl _ _) _⟩;have hA:=W.1 k (by rw[H.1];exact hk) z.1 (by rw[U.1];intro _;exact Int.le_refl _);rw[if_pos ⟨by rw[H.1];exact Z,U.1⟩]at hA;rw[hA];exact HO.1
  have aC:=Hd B;have ar:¬y<x/\¬y=x:=⟨af,B⟩;have e1:(y==x)=false:=by simpa using B
  have hA:=W.1 k (by rw[H.1];exact hk) z.1 (by rw[U.1];intro _;omega);rw[if_neg (by rw[U.1];exact fun h=>B h.2)]at hA;have HA:=Hd hA;clear hA;have ax:n<=c:=HO.1.capLe;have r1:=HI.1.take (k:=k) hk;have r2:=HI.1.drop (k:=k) (by omega);obtain⟨K,Q⟩:=hd2 r1 r2;have i2:(k:Int)<=(c:Int):=by omega
  have i3:(n:Int)<=(c:Int):=by omega
  have aF:¬c=k:=by omega
  clear r1 r2 B ar
  go_wp2_with (first
   | (at_builtin;refine dY rfl _ _ rfl w.heap.size (some ⟨V,0,none⟩) (k+1) q _ rfl J (some ⟨b,o+k,none⟩) (n-k) (c-k) _ rfl (Q.1.below u) (by omega) u.size u ?_;rintro A3 c3 w3 R Y -)
   | (at_builtin;refine fP rfl _ _ rfl w.heap.size A1 k c1 _ x rfl D rfl (by omega) G.size G ?_;rintro V q w2 J u - -)
   | (at_builtin;refine dY rfl _ _ rfl w.heap.size _ 0 0 [] rfl (Own.new0 (Nat.le_refl _)) (some ⟨b,o,none⟩) k c _ rfl (K.1.below (aB (ae (Below.refl _ _) _) _)) (by omega) (by simp) (aB (ae (Below.refl _ _) _) _) ?_;rintro A1 c1 w1 D G -;rw[Nat.zero_add,List.nil_append]at D))
  go_ret;exact⟨A3,_,c3,rfl,by rw[HA.1];exact R.more hb,Y⟩
 have ah:n=k:=by omega
 subst ah;have hA:=W.1 n (by rw[H.1];exact hk) z.1 (by rw[H.1];omega);rw[if_neg (by rw[H.1];omega)]at hA;have HA:=Hd hA;clear hA
 rcases HO.1.2 with⟨hv,h0⟩|⟨g,cap,cur,hv,_,_,aG,_⟩
 ·injection hv with e1 e2 e3
  subst e1 e2 e3;have K:=Hd (bT.none w none);have Q:=K;have HX:xs=[]:=List.eq_nil_of_length_eq_zero H.1;subst HX;clear h0
  go_wp2_with (first
   | (at_builtin;refine dY rfl _ _ rfl w.heap.size (some ⟨V,0,none⟩) (1) q _ rfl J none 0 0 [] rfl (Q.1.below u) (by omega) u.size u ?_;rintro A3 c3 w3 R Y -)
   | (at_builtin;refine fP rfl _ _ rfl w.heap.size A1 0 c1 _ x rfl D rfl (by omega) G.size G ?_;rintro V q w2 J u - -)
   | (at_builtin;refine dY rfl _ _ rfl w.heap.size _ 0 0 [] rfl (Own.new0 (Nat.le_refl _)) none 0 0 _ rfl (K.1.below (aB (ae (Below.refl _ _) _) _)) (by omega) (by simp) (aB (ae (Below.refl _ _) _) _) ?_;rintro A1 c1 w1 D G -;simp only[Nat.add_zero,List.append_nil]at D))
  go_ret;exact⟨A3,_,c3,rfl,by rw[HA.1];exact R.more hb,Y⟩
 injection hv with e1 e2 e3
 subst e1 e3;have K:=Hd (HI.1.take (k:=n) hk);have i2:(n:Int)<=(c:Int):=by omega
 have i0:(0:Int)<=(n:Int):=by omega
 by_cases ai:c=n
 ·subst ai
  have Q:Hv (bT w (some ⟨g,0,none⟩) 0 (xs.drop c)):=Hd<|by
   rw[List.drop_of_length_le (by rw[H.1];exact Nat.le_refl _)];exact bT.none _ _
  go_wp2_with (first
   | (at_builtin;refine dY rfl _ _ rfl w.heap.size (some ⟨V,0,none⟩) (c+1) q _ rfl J (some ⟨g,0,none⟩) 0 0 _ rfl (Q.1.below u) (by omega) u.size u ?_;rintro A3 c3 w3 R Y -)
   | (at_builtin;refine fP rfl _ _ rfl w.heap.size A1 c c1 _ x rfl D rfl (by omega) G.size G ?_;rintro V q w2 J u - -)
   | (at_builtin;refine dY rfl _ _ rfl w.heap.size _ 0 0 [] rfl (Own.new0 (Nat.le_refl _)) (some ⟨g,0,none⟩) c c _ rfl (K.1.below (aB (ae (Below.refl _ _) _) _)) (by omega) (by simp) (aB (ae (Below.refl _ _) _) _) ?_;rintro A1 c1 w1 D G -;rw[Nat.zero_add,List.nil_append]at D))
  go_ret;exact⟨A3,_,c3,rfl,by rw[HA.1];exact R.more hb,Y⟩
 have Q:Hv (bT w (some ⟨g,n,none⟩) 0 (xs.drop n)):=Hd<|by
  rw[List.drop_of_length_le (by rw[H.1];exact Nat.le_refl _)];exact bT.none _ _
 go_wp2_with (first
  | (at_builtin;refine dY rfl _ _ rfl w.heap.size (some ⟨V,0,none⟩) (n+1) q _ rfl J (some ⟨g,n,none⟩) 0 (c-n) _ rfl (Q.1.below u) (by omega) u.size u ?_;rintro A3 c3 w3 R Y -)
  | (at_builtin;refine fP rfl _ _ rfl w.heap.size A1 n c1 _ x rfl D rfl (by omega) G.size G ?_;rintro V q w2 J u - -)
  | (at_builtin;refine dY rfl _ _ rfl w.heap.size _ 0 0 [] rfl (Own.new0 (Nat.le_refl _)) (some ⟨g,0,none⟩) n c _ rfl (K.1.below (aB (ae (Below.refl _ _) _) _)) (by omega) (by simp) (aB (ae (Below.refl _ _) _) _) ?_;rintro A1 c1 w1 D G -;rw[Nat.zero_add,List.nil_append]at D))
 go_ret;exact⟨A3,_,c3,rfl,by rw[HA.1];exact R.more hb,Y⟩
end Go.Proofs.YtofihjoanjkdmaaGreat
