/- Ascending insertion: the program's insertInt. -/
import Derived.Test.YtofihjoanjkdmaaGreatCopy
import Derived.Test.YtofihjoanjkdmaaGreatRtPure
namespace Go.Proofs.YtofihjoanjkdmaaGreat
set_option maxHeartbeats 1000000
set_option maxRecDepth 100000
open Go.RowKit
theorem Fh {xs:List Int} {x:Int}:∀{k:Nat},k<=xs.length→(∀j,j<k→xs[j]?.getD 0<x)→(k<xs.length→x<=xs[k]?.getD 0)→ins xs x=if k<xs.length/\xs[k]?.getD 0=x then xs else xs.take k++[x]++xs.drop k:=by
 induction xs with
 | nil=>intro k hk _ _;simp at hk;subst hk;simp [ins]
 | cons y l ih =>
  intro k hk h1 h2
  rw [ins]
  cases k with
  | zero =>
   have:=h2 (by simp)
   simp only [List.getElem?_cons_zero,Option.getD_some] at this
   rw [if_neg (by omega)]
   by_cases e:y=x
   ·simp [e]
   ·simp [e]
  | succ k =>
   have h0:=h1 0 (by omega)
   simp only [List.getElem?_cons_zero,Option.getD_some] at h0
   rw [if_pos h0,ih (k:=k) (by simpa using hk) (fun j hj=>by have:=h1 (j+1) (by omega);simpa using this) (fun hl=>by have:=h2 (by simp;omega);simpa using this)]
   simp only [List.length_cons,List.getElem?_cons_succ,Nat.add_lt_add_iff_right]
   split <;> simp
theorem Own.capLe {base:Nat} {w:World} {A:Option Addr} {n c:Nat} {xs:List Int} (h:Own base w A n c xs):n<=c:=by
 rcases h.2 with ⟨j,h0⟩|⟨g,q,cur,j,_,_,u,_⟩
 ·omega
 injection j with _ _ hc;omega
theorem dP.take {w:World} {A:Option Addr} {n k:Nat} {xs:List Int} (h:dP w A n xs) (hk:k<=n):dP w A k (xs.take k):=by
 refine ⟨by rw [List.length_take,h.1];omega,fun h0=>?_⟩
 obtain ⟨b,o,e,g,hc⟩:=h.2 (by omega)
 exact ⟨b,o,e,g,fun j hj=>by rw [hc j (by omega),List.getElem?_take,if_pos hj]⟩
theorem dP.drop {w:World} {b o n k:Nat} {xs:List Int} (h:dP w (some ⟨b,o,none⟩) n xs) (hk:k<=n):dP w (some ⟨b,o+k,none⟩) (n - k) (xs.drop k):=by
 refine ⟨by rw [List.length_drop,h.1],fun h0=>?_⟩
 obtain ⟨u,q,e,g,hc⟩:=h.2 (by omega)
 injection e with e
 injection e with e1 e2
 subst e1 e2
 exact ⟨b,o+k,rfl,g,fun j hj=>by rw [Nat.add_assoc,hc (k+j) (by omega),List.getElem?_drop]⟩
theorem dP.none (w:World) (A:Option Addr):dP w A 0 []:=⟨rfl,fun h=>by omega⟩
theorem jR (base:Nat) (A:Option Addr) (n c:Nat) (xs:List Int) (x:Int) (w:World) (h:Own base w A n c xs) (hb:base<=w.heap.size) (hn:n<=1048576) :
  Calls Tryz.prog 215 #[.slice A n c,.int .i64 x] w fun e w'=>∃A' n' c',e = .returned (.slice A' n' c')/\Own base w' A' n' c' (ins xs x)/\Below w.heap.size w w':=by
 obtain ⟨HO,H,HI⟩:=hd3 h h.len h.ints
 have Q:=Hd (fun k=>Fh (xs:=xs) (x:=x) (k:=k))
 clear h
 go_enter Tryz.func215,Tryz.ntmps215
 go_wp2_with fail
 go_loopw [5] (fun i wr=>∃k nq:Nat,k<=n/\i = .int .i64 k/\wr=w.drewN nq/\∀j,j<k→xs[j]?.getD 0<x) (fun i _=>n - (intOf i).toNat)
 ·exact ⟨0,0,Nat.zero_le _,rfl,rfl,by intro j hj;omega⟩
 obtain ⟨k,nq,hk,rfl,rfl,I⟩:=hrel
 have z:=Hd I
 clear I
 by_cases ae:k<n
 ·obtain ⟨b,o,rfl,aC,hc⟩:=HI.out.2 (by omega)
  have am:=hc k ae
  have U:Hid (∃y,xs[k]?.getD 0=y):=⟨_,rfl⟩
  obtain ⟨y,hy⟩:=U.out
  rw [hy] at am
  have U:=Hd hy
  clear hc hy
  obtain ⟨i0,i1⟩:=ib (by omega:k<n)
  by_cases Z:y<x
  ·go_wp2_with fail
   go_roundw
   ·exact ⟨k+1,_,by omega,by go_num,rfl,bW z.out (by rw [U.out];exact Z)⟩
   simp [intOf];omega
  by_cases B:y=x
  ·subst B
   go_wp2_with fail
   go_ret
   refine ⟨_,_,_,rfl,?_,bE (Below.refl _ _) _⟩
   have hA:=Q.out k (by rw [H.out];exact hk) z.out (by rw [U.out];intro _;exact Int.le_refl _)
   rw [if_pos ⟨by rw [H.out];exact ae,U.out⟩] at hA
   rw [hA]
   exact HO.out
  have aF:=Hd B
  have ak:¬y<x/\¬y=x:=⟨Z,B⟩
  have e1:(y==x)=false:=by simpa using B
  have hA:=Q.out k (by rw [H.out];exact hk) z.out (by rw [U.out];intro _;omega)
  rw [if_neg (by rw [U.out];exact fun h=>B h.2)] at hA
  have HA:=Hd hA
  clear hA
  have ax:n<=c:=HO.out.capLe
  have r1:=HI.out.take (k:=k) hk
  have r2:=HI.out.drop (k:=k) (by omega)
  obtain ⟨R,J⟩:=hd2 r1 r2
  have i2:(k:Int)<=(c:Int):=by omega
  have i3:(n:Int)<=(c:Int):=by omega
  have aH:¬c=k:=by omega
  clear r1 r2 B ak
  go_wp2_with (first
   | (at_builtin;refine dJ rfl _ _ rfl w.heap.size (some ⟨W,0,none⟩) (k+1) q _ rfl Y (some ⟨b,o+k,none⟩) (n - k) (c - k) _ rfl (J.out.below u) (by omega) u.size u ?_;rintro A3 c3 w3 K V -)
   | (at_builtin;refine gD rfl _ _ rfl w.heap.size A1 k c1 _ x rfl D rfl (by omega) G.size G ?_;rintro W q w2 Y u - -)
   | (at_builtin;refine dJ rfl _ _ rfl w.heap.size _ 0 0 [] rfl (Own.new0 (Nat.le_refl _)) (some ⟨b,o,none⟩) k c _ rfl (R.out.below (aB (bE (Below.refl _ _) _) _)) (by omega) (by simp) (aB (bE (Below.refl _ _) _) _) ?_;rintro A1 c1 w1 D G -;rw [Nat.zero_add,List.nil_append] at D))
  go_ret
  exact ⟨A3,_,c3,rfl,by rw [HA.out];exact K.more hb,V⟩
 have ah:n=k:=by omega
 subst ah
 have hA:=Q.out n (by rw [H.out];exact hk) z.out (by rw [H.out];omega)
 rw [if_neg (by rw [H.out];omega)] at hA
 have HA:=Hd hA
 clear hA
 rcases HO.out.2 with ⟨hv,h0⟩|⟨g,aI,cur,hv,_,_,aD,_⟩
 ·injection hv with e1 e2 e3
  subst e1 e2 e3
  have R:=Hd (dP.none w none)
  have J:=R
  have HX:xs=[]:=List.eq_nil_of_length_eq_zero H.out
  subst HX
  clear h0
  go_wp2_with (first
   | (at_builtin;refine dJ rfl _ _ rfl w.heap.size (some ⟨W,0,none⟩) (1) q _ rfl Y none 0 0 [] rfl (J.out.below u) (by omega) u.size u ?_;rintro A3 c3 w3 K V -)
   | (at_builtin;refine gD rfl _ _ rfl w.heap.size A1 0 c1 _ x rfl D rfl (by omega) G.size G ?_;rintro W q w2 Y u - -)
   | (at_builtin;refine dJ rfl _ _ rfl w.heap.size _ 0 0 [] rfl (Own.new0 (Nat.le_refl _)) none 0 0 _ rfl (R.out.below (aB (bE (Below.refl _ _) _) _)) (by omega) (by simp) (aB (bE (Below.refl _ _) _) _) ?_;rintro A1 c1 w1 D G -;simp only [Nat.add_zero,List.append_nil] at D))
  go_ret
  exact ⟨A3,_,c3,rfl,by rw [HA.out];exact K.more hb,V⟩
 injection hv with e1 e2 e3
 subst e1 e3
 have R:=Hd (HI.out.take (k:=n) hk)
 have i2:(n:Int)<=(c:Int):=by omega
 have i0:(0:Int)<=(n:Int):=by omega
 by_cases aq:c=n
 ·subst aq
  have J:Hid (dP w (some ⟨g,0,none⟩) 0 (xs.drop c)):=by
   rw [List.drop_of_length_le (by rw [H.out];exact Nat.le_refl _)]
   exact dP.none _ _
  go_wp2_with (first
   | (at_builtin;refine dJ rfl _ _ rfl w.heap.size (some ⟨W,0,none⟩) (c+1) q _ rfl Y (some ⟨g,0,none⟩) 0 0 _ rfl (J.out.below u) (by omega) u.size u ?_;rintro A3 c3 w3 K V -)
   | (at_builtin;refine gD rfl _ _ rfl w.heap.size A1 c c1 _ x rfl D rfl (by omega) G.size G ?_;rintro W q w2 Y u - -)
   | (at_builtin;refine dJ rfl _ _ rfl w.heap.size _ 0 0 [] rfl (Own.new0 (Nat.le_refl _)) (some ⟨g,0,none⟩) c c _ rfl (R.out.below (aB (bE (Below.refl _ _) _) _)) (by omega) (by simp) (aB (bE (Below.refl _ _) _) _) ?_;rintro A1 c1 w1 D G -;rw [Nat.zero_add,List.nil_append] at D))
  go_ret
  exact ⟨A3,_,c3,rfl,by rw [HA.out];exact K.more hb,V⟩
 have J:Hid (dP w (some ⟨g,n,none⟩) 0 (xs.drop n)):=by
  rw [List.drop_of_length_le (by rw [H.out];exact Nat.le_refl _)]
  exact dP.none _ _
 go_wp2_with (first
  | (at_builtin;refine dJ rfl _ _ rfl w.heap.size (some ⟨W,0,none⟩) (n+1) q _ rfl Y (some ⟨g,n,none⟩) 0 (c - n) _ rfl (J.out.below u) (by omega) u.size u ?_;rintro A3 c3 w3 K V -)
  | (at_builtin;refine gD rfl _ _ rfl w.heap.size A1 n c1 _ x rfl D rfl (by omega) G.size G ?_;rintro W q w2 Y u - -)
  | (at_builtin;refine dJ rfl _ _ rfl w.heap.size _ 0 0 [] rfl (Own.new0 (Nat.le_refl _)) (some ⟨g,0,none⟩) n c _ rfl (R.out.below (aB (bE (Below.refl _ _) _) _)) (by omega) (by simp) (aB (bE (Below.refl _ _) _) _) ?_;rintro A1 c1 w1 D G -;rw [Nat.zero_add,List.nil_append] at D))
 go_ret
 exact ⟨A3,_,c3,rfl,by rw [HA.out];exact K.more hb,V⟩
end Go.Proofs.YtofihjoanjkdmaaGreat
