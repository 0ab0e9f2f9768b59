/- Ascending insertion: the program's insertInt. -/
import Derived.Test.YtofihjoanjkdmaaGreatCopy
import Derived.Test.YtofihjoanjkdmaaGreatRtPure
namespace Go.Proofs.YtofihjoanjkdmaaGreat
set_option maxHeartbeats 1000000
set_option maxRecDepth 100000
open Go.RowKit
theorem zN {xs:List Int} {x:Int}:∀{k:Nat},k<=xs.length→(∀j,j<k→xs[j]?.getD 0<x)→(k<xs.length→x<=xs[k]?.getD 0)→ins xs x=if k<xs.length/\xs[k]?.getD 0=x then xs else xs.take k++[x]++xs.drop k:=by
 induction xs with
 | nil=>intro k hk _ _;simp at hk;subst hk;simp [ins]
 | cons y l ih =>
  intro k hk h1 h2
  rw [ins]
  cases k with
  | zero =>
   have:=h2 (by simp)
   simp only [List.getElem?_cons_zero,Option.getD_some] at this
   rw [if_neg (by omega)]
   by_cases e:y=x
   ·simp [e]
   ·simp [e]
  | succ k =>
   have h0:=h1 0 (by omega)
   simp only [List.getElem?_cons_zero,Option.getD_some] at h0
   rw [if_pos h0,ih (k:=k) (by simpa using hk) (fun j hj=>by have:=h1 (j+1) (by omega);simpa using this) (fun hl=>by have:=h2 (by simp;omega);simpa using this)]
   simp only [List.length_cons,List.getElem?_cons_succ,Nat.add_lt_add_iff_right]
   split <;> simp
theorem Own.capLe {base:Nat} {w:World} {A:Option Addr} {n c:Nat} {xs:List Int} (h:Own base w A n c xs):n<=c:=by
 rcases h.2 with ⟨hv,h0⟩|⟨g,cap,cur,hv,_,_,hnc,_⟩
 ·omega
 ·injection hv with _ _ hc;omega
theorem dA.take {w:World} {A:Option Addr} {n k:Nat} {xs:List Int} (h:dA w A n xs) (hk:k<=n):dA w A k (xs.take k):=by
 refine ⟨by rw [List.length_take,h.1];omega,fun h0=>?_⟩
 obtain ⟨b,o,e,hb,hc⟩:=h.2 (by omega)
 exact ⟨b,o,e,hb,fun j hj=>by rw [hc j (by omega),List.getElem?_take,if_pos hj]⟩
theorem dA.drop {w:World} {b o n k:Nat} {xs:List Int} (h:dA w (some ⟨b,o,none⟩) n xs) (hk:k<=n):dA w (some ⟨b,o+k,none⟩) (n - k) (xs.drop k):=by
 refine ⟨by rw [List.length_drop,h.1],fun h0=>?_⟩
 obtain ⟨b',o',e,hb,hc⟩:=h.2 (by omega)
 injection e with e
 injection e with e1 e2
 subst e1 e2
 exact ⟨b,o+k,rfl,hb,fun j hj=>by rw [Nat.add_assoc,hc (k+j) (by omega),List.getElem?_drop]⟩
theorem dA.none (w:World) (A:Option Addr):dA w A 0 []:=⟨rfl,fun h=>by omega⟩
theorem iA (base:Nat) (A:Option Addr) (n c:Nat) (xs:List Int) (x:Int) (w:World) (h:Own base w A n c xs) (hb:base<=w.heap.size) (hn:n<=1048576) :
  Calls Tryz.prog 215 #[.slice A n c,.int .i64 x] w fun e w'=>∃A' n' c',e = .returned (.slice A' n' c')/\Own base w' A' n' c' (ins xs x)/\Below w.heap.size w w':=by
 have HO:=Hd h
 have HL:=Hd h.len
 have HI:=Hd h.ints
 have HAT:=Hd (fun k=>zN (xs:=xs) (x:=x) (k:=k))
 clear h
 go_enter Tryz.func215,Tryz.ntmps215
 go_wp2_with fail
 go_loopw [5] (fun i wr=>∃k nq:Nat,k<=n/\i = .int .i64 k/\wr=w.drewN nq/\∀j,j<k→xs[j]?.getD 0<x) (fun i _=>n - (intOf i).toNat)
 case atStart=>exact ⟨0,0,Nat.zero_le _,rfl,rfl,by intro j hj;omega⟩
 case round =>
  obtain ⟨k,nq,hk,rfl,rfl,hall⟩:=hrel
  have HALL:=Hd hall
  clear hall
  by_cases hlt:k<n
  ·obtain ⟨b,o,rfl,hbl,hc⟩:=HI.out.2 (by omega)
   have hck:=hc k hlt
   have HY:Hid (∃y,xs[k]?.getD 0=y):=⟨_,rfl⟩
   obtain ⟨y,hy⟩:=HY.out
   rw [hy] at hck
   have HY:=Hd hy
   clear hc hy
   have i0:(0:Int)<=(k:Int):=by omega
   have i1:(k:Int)<(n:Int):=by omega
   by_cases hyx:y<x
   ·go_wp2_with fail
    go_roundw
    case rel=>exact ⟨k+1,_,by omega,by go_num,rfl,bS HALL.out (by rw [HY.out];exact hyx)⟩
    case measure=>simp [intOf];omega
   ·by_cases hex:y=x
    ·subst hex
     go_wp2_with fail
     go_ret
     refine ⟨_,_,_,rfl,?_,ay (Below.refl _ _) _⟩
     have hA:=HAT.out k (by rw [HL.out];exact hk) HALL.out (by rw [HY.out];intro _;exact Int.le_refl _)
     rw [if_pos ⟨by rw [HL.out];exact hlt,HY.out⟩] at hA
     rw [hA]
     exact HO.out
    ·have HNE:=Hd hex
     have hxy:¬y<x/\¬y=x:=⟨hyx,hex⟩
     have e1:(y==x)=false:=by simpa using hex
     have hA:=HAT.out k (by rw [HL.out];exact hk) HALL.out (by rw [HY.out];intro _;omega)
     rw [if_neg (by rw [HY.out];exact fun h=>hex h.2)] at hA
     have HA:=Hd hA
     clear hA
     have hncp:n<=c:=HO.out.capLe
     have r1:=HI.out.take (k:=k) hk
     have r2:=HI.out.drop (k:=k) (by omega)
     have R1:=Hd r1
     have R2:=Hd r2
     have i2:(k:Int)<=(c:Int):=by omega
     have i3:(n:Int)<=(c:Int):=by omega
     have hne:¬c=k:=by omega
     clear r1 r2 hex hxy
     go_wp2_with (first
      | (at_builtin;refine bX rfl _ _ rfl w.heap.size (some ⟨g2,0,none⟩) (k+1) cap2 _ rfl o2 (some ⟨b,o+k,none⟩) (n - k) (c - k) _ rfl (R2.out.below b2) (by omega) b2.size b2 ?_;rintro A3 c3 w3 o3 b3 -)
      | (at_builtin;refine fA rfl _ _ rfl w.heap.size A1 k c1 _ x rfl o1 rfl (by omega) b1.size b1 ?_;rintro g2 cap2 w2 o2 b2 - -)
      | (at_builtin;refine bX rfl _ _ rfl w.heap.size _ 0 0 [] rfl (Own.new0 (Nat.le_refl _)) (some ⟨b,o,none⟩) k c _ rfl (R1.out.below (aF (ay (Below.refl _ _) _) _)) (by omega) (by simp) (aF (ay (Below.refl _ _) _) _) ?_;rintro A1 c1 w1 o1 b1 -;rw [Nat.zero_add,List.nil_append] at o1))
     go_ret
     exact ⟨A3,_,c3,rfl,by rw [HA.out];exact o3.more hb,b3⟩
  ·have hkn:n=k:=by omega
   subst hkn
   have hA:=HAT.out n (by rw [HL.out];exact hk) HALL.out (by rw [HL.out];omega)
   rw [if_neg (by rw [HL.out];omega)] at hA
   have HA:=Hd hA
   clear hA
   rcases HO.out.2 with ⟨hv,h0⟩|⟨g,cap,cur,hv,_,_,hnc,_⟩
   ·injection hv with e1 e2 e3
    subst e1 e2 e3
    have R1:=Hd (dA.none w none)
    have R2:=R1
    have HX:xs=[]:=List.eq_nil_of_length_eq_zero HL.out
    subst HX
    clear h0
    go_wp2_with (first
     | (at_builtin;refine bX rfl _ _ rfl w.heap.size (some ⟨g2,0,none⟩) (1) cap2 _ rfl o2 none 0 0 [] rfl (R2.out.below b2) (by omega) b2.size b2 ?_;rintro A3 c3 w3 o3 b3 -)
     | (at_builtin;refine fA rfl _ _ rfl w.heap.size A1 0 c1 _ x rfl o1 rfl (by omega) b1.size b1 ?_;rintro g2 cap2 w2 o2 b2 - -)
     | (at_builtin;refine bX rfl _ _ rfl w.heap.size _ 0 0 [] rfl (Own.new0 (Nat.le_refl _)) none 0 0 _ rfl (R1.out.below (aF (ay (Below.refl _ _) _) _)) (by omega) (by simp) (aF (ay (Below.refl _ _) _) _) ?_;rintro A1 c1 w1 o1 b1 -;simp only [Nat.add_zero,List.append_nil] at o1))
    go_ret
    exact ⟨A3,_,c3,rfl,by rw [HA.out];exact o3.more hb,b3⟩
   ·injection hv with e1 e2 e3
    subst e1 e3
    have R1:=Hd (HI.out.take (k:=n) hk)
    have i2:(n:Int)<=(c:Int):=by omega
    have i0:(0:Int)<=(n:Int):=by omega
    by_cases hcn:c=n
    ·subst hcn
     have R2:Hid (dA w (some ⟨g,0,none⟩) 0 (xs.drop c)):=by
      rw [List.drop_of_length_le (by rw [HL.out];exact Nat.le_refl _)]
      exact dA.none _ _
     go_wp2_with (first
      | (at_builtin;refine bX rfl _ _ rfl w.heap.size (some ⟨g2,0,none⟩) (c+1) cap2 _ rfl o2 (some ⟨g,0,none⟩) 0 0 _ rfl (R2.out.below b2) (by omega) b2.size b2 ?_;rintro A3 c3 w3 o3 b3 -)
      | (at_builtin;refine fA rfl _ _ rfl w.heap.size A1 c c1 _ x rfl o1 rfl (by omega) b1.size b1 ?_;rintro g2 cap2 w2 o2 b2 - -)
      | (at_builtin;refine bX rfl _ _ rfl w.heap.size _ 0 0 [] rfl (Own.new0 (Nat.le_refl _)) (some ⟨g,0,none⟩) c c _ rfl (R1.out.below (aF (ay (Below.refl _ _) _) _)) (by omega) (by simp) (aF (ay (Below.refl _ _) _) _) ?_;rintro A1 c1 w1 o1 b1 -;rw [Nat.zero_add,List.nil_append] at o1))
     go_ret
     exact ⟨A3,_,c3,rfl,by rw [HA.out];exact o3.more hb,b3⟩
    ·have R2:Hid (dA w (some ⟨g,n,none⟩) 0 (xs.drop n)):=by
      rw [List.drop_of_length_le (by rw [HL.out];exact Nat.le_refl _)]
      exact dA.none _ _
     go_wp2_with (first
      | (at_builtin;refine bX rfl _ _ rfl w.heap.size (some ⟨g2,0,none⟩) (n+1) cap2 _ rfl o2 (some ⟨g,n,none⟩) 0 (c - n) _ rfl (R2.out.below b2) (by omega) b2.size b2 ?_;rintro A3 c3 w3 o3 b3 -)
      | (at_builtin;refine fA rfl _ _ rfl w.heap.size A1 n c1 _ x rfl o1 rfl (by omega) b1.size b1 ?_;rintro g2 cap2 w2 o2 b2 - -)
      | (at_builtin;refine bX rfl _ _ rfl w.heap.size _ 0 0 [] rfl (Own.new0 (Nat.le_refl _)) (some ⟨g,0,none⟩) n c _ rfl (R1.out.below (aF (ay (Below.refl _ _) _) _)) (by omega) (by simp) (aF (ay (Below.refl _ _) _) _) ?_;rintro A1 c1 w1 o1 b1 -;rw [Nat.zero_add,List.nil_append] at o1))
     go_ret
     exact ⟨A3,_,c3,rfl,by rw [HA.out];exact o3.more hb,b3⟩
end Go.Proofs.YtofihjoanjkdmaaGreat
