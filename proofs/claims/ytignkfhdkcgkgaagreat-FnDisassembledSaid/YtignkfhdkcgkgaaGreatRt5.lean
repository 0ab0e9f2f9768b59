/- Ascending insertion: the program's insertInt. The sources of a routing node: the program's functions. -/
import Derived.Test.YtignkfhdkcgkgaaGreatCopy
import Derived.Test.YtignkfhdkcgkgaaGreatEmpty
import Derived.Test.YtignkfhdkcgkgaaGreatRt3
namespace Go.Proofs.YtignkfhdkcgkgaaGreat
set_option maxRecDepth 100000
open Go.RowKit

theorem ins_at {xs:List Int} {x:Int}:∀{k:Nat},k≤xs.length→(∀j,j<k→xs[j]?.getD 0<x)→(k<xs.length→x≤xs[k]?.getD 0)→ins xs x=if k<xs.length∧xs[k]?.getD 0=x then xs else xs.take k++[x]++xs.drop k:=by
 induction xs with
 | nil=>intro k hk _ _;simp at hk;subst hk;simp [ins]
 | cons y l ih =>
  intro k hk h1 h2
  rw [ins]
  cases k with
  | zero =>
   have:=h2 (by simp)
   simp only [List.getElem?_cons_zero,Option.getD_some] at this
   rw [if_neg (by omega)]
   by_cases e:y=x
   ·simp [e]
   ·simp [e]
  | succ k =>
   have h0:=h1 0 (by omega)
   simp only [List.getElem?_cons_zero,Option.getD_some] at h0
   rw [if_pos h0,ih (k:=k) (by simpa using hk) (fun j hj=>by have:=h1 (j+1) (by omega);simpa using this) (fun hl=>by have:=h2 (by simp;omega);simpa using this)]
   simp only [List.length_cons,List.getElem?_cons_succ,Nat.add_lt_add_iff_right]
   split <;> simp

theorem Own.capLe {base:Nat} {w:World} {A:Option Addr} {n c:Nat} {xs:List Int} (h:Own base w A n c xs):n≤c:=by
 rcases h.2 with ⟨hv,h0⟩|⟨g,cap,cur,hv,_,_,hnc,_⟩
 ·omega
 ·injection hv with _ _ hc;omega
theorem Ints.take {w:World} {A:Option Addr} {n k:Nat} {xs:List Int} (h:Ints w A n xs) (hk:k≤n):Ints w A k (xs.take k):=by
 refine ⟨by rw [List.length_take,h.1];omega,fun h0=>?_⟩
 obtain ⟨b,o,e,hb,hc⟩:=h.2 (by omega)
 exact ⟨b,o,e,hb,fun j hj=>by rw [hc j (by omega),List.getElem?_take,if_pos hj]⟩
theorem Ints.drop {w:World} {b o n k:Nat} {xs:List Int} (h:Ints w (some ⟨b,o,none⟩) n xs) (hk:k≤n):Ints w (some ⟨b,o+k,none⟩) (n - k) (xs.drop k):=by
 refine ⟨by rw [List.length_drop,h.1],fun h0=>?_⟩
 obtain ⟨b',o',e,hb,hc⟩:=h.2 (by omega)
 injection e with e
 injection e with e1 e2
 subst e1 e2
 exact ⟨b,o+k,rfl,hb,fun j hj=>by rw [Nat.add_assoc,hc (k+j) (by omega),List.getElem?_drop]⟩
theorem Ints.none (w:World) (A:Option Addr):Ints w A 0 []:=⟨rfl,fun h=>by omega⟩
set_option maxHeartbeats 1000000 in
theorem insertInt_any (base:Nat) (A:Option Addr) (n c:Nat) (xs:List Int) (x:Int) (w:World) (h:Own base w A n c xs) (hb:base≤w.heap.size) (hn:n≤1048576) :
  Calls Tryz.prog 227 #[.slice A n c,.int .i64 x] w fun e w'=>∃A' n' c',e = .returned (.slice A' n' c')∧Own base w' A' n' c' (ins xs x)∧Below w.heap.size w w':=by
 have HO:=Lib.hid h
 have HL:=Lib.hid h.len
 have HI:=Lib.hid h.ints
 have HAT:=Lib.hid (fun k=>ins_at (xs:=xs) (x:=x) (k:=k))
 clear h
 go_enter Tryz.func227,Tryz.ntmps227
 go_wp2_with fail
 go_loopw [5] (fun i wr=>∃k nq:Nat,k≤n∧i = .int .i64 k∧wr=w.drewN nq∧∀j,j<k→xs[j]?.getD 0<x) (fun i _=>n - (intOf i).toNat)
 case atStart=>exact ⟨0,0,Nat.zero_le _,rfl,rfl,by intro j hj;omega⟩
 case round =>
  obtain ⟨k,nq,hk,rfl,rfl,hall⟩:=hrel
  have HALL:=Lib.hid hall
  clear hall
  by_cases hlt:k<n
  ·obtain ⟨b,o,rfl,hbl,hc⟩:=HI.out.2 (by omega)
   have hck:=hc k hlt
   have HY:Hid (∃y,xs[k]?.getD 0=y):=⟨_,rfl⟩
   obtain ⟨y,hy⟩:=HY.out
   rw [hy] at hck
   have HY:=Lib.hid hy
   clear hc hy
   have i0:(0:Int)≤(k:Int):=by omega
   have i1:(k:Int)<(n:Int):=by omega
   by_cases hyx:y<x
   ·go_wp2_with fail
    go_roundw
    case rel=>exact ⟨k+1,_,by omega,by go_num,rfl,all_succ HALL.out (by rw [HY.out];exact hyx)⟩
    case measure=>simp [intOf];omega
   ·by_cases hex:y=x
    ·subst hex
     go_wp2_with fail
     go_ret
     refine ⟨_,_,_,rfl,?_,below_drewN (Below.refl _ _) _⟩
     have hA:=HAT.out k (by rw [HL.out];exact hk) HALL.out (by rw [HY.out];intro _;exact Int.le_refl _)
     rw [if_pos ⟨by rw [HL.out];exact hlt,HY.out⟩] at hA
     rw [hA]
     exact HO.out
    ·have HNE:=Lib.hid hex
     have hxy:¬y<x∧¬y=x:=⟨hyx,hex⟩
     have e1:(y==x)=false:=by simpa using hex
     have hA:=HAT.out k (by rw [HL.out];exact hk) HALL.out (by rw [HY.out];intro _;omega)
     rw [if_neg (by rw [HY.out];exact fun h=>hex h.2)] at hA
     have HA:=Lib.hid hA
     clear hA
     have hncp:n≤c:=HO.out.capLe
     have r1:=HI.out.take (k:=k) hk
     have r2:=HI.out.drop (k:=k) (by omega)
     have R1:=Lib.hid r1
     have R2:=Lib.hid r2
     have i2:(k:Int)≤(c:Int):=by omega
     have i3:(n:Int)≤(c:Int):=by omega
     have hne:¬c=k:=by omega
     clear r1 r2 hex hxy
     go_wp2_with (first
      | (at_builtin;refine wpList_append_ints rfl _ _ rfl w.heap.size (some ⟨g2,0,none⟩) (k+1) cap2 _ rfl o2 (some ⟨b,o+k,none⟩) (n - k) (c - k) _ rfl (R2.out.below b2) (by omega) b2.size b2 ?_;rintro A3 c3 w3 o3 b3 -)
      | (at_builtin;refine wpList_push rfl _ _ rfl w.heap.size A1 k c1 _ x rfl o1 rfl (by omega) b1.size b1 ?_;rintro g2 cap2 w2 o2 b2 - -)
      | (at_builtin;refine wpList_append_ints rfl _ _ rfl w.heap.size _ 0 0 [] rfl (Own.new0 (Nat.le_refl _)) (some ⟨b,o,none⟩) k c _ rfl (R1.out.below (below_new (below_drewN (Below.refl _ _) _) _)) (by omega) (by simp) (below_new (below_drewN (Below.refl _ _) _) _) ?_;rintro A1 c1 w1 o1 b1 -;rw [Nat.zero_add,List.nil_append] at o1))
     go_ret
     exact ⟨A3,_,c3,rfl,by rw [HA.out];exact o3.more hb,b3⟩
  ·have hkn:n=k:=by omega
   subst hkn
   have hA:=HAT.out n (by rw [HL.out];exact hk) HALL.out (by rw [HL.out];omega)
   rw [if_neg (by rw [HL.out];omega)] at hA
   have HA:=Lib.hid hA
   clear hA
   rcases HO.out.2 with ⟨hv,h0⟩|⟨g,cap,cur,hv,_,_,hnc,_⟩
   ·injection hv with e1 e2 e3
    subst e1 e2 e3
    have R1:=Lib.hid (Ints.none w none)
    have R2:=R1
    have HX:xs=[]:=List.eq_nil_of_length_eq_zero HL.out
    subst HX
    clear h0
    go_wp2_with (first
     | (at_builtin;refine wpList_append_ints rfl _ _ rfl w.heap.size (some ⟨g2,0,none⟩) (1) cap2 _ rfl o2 none 0 0 [] rfl (R2.out.below b2) (by omega) b2.size b2 ?_;rintro A3 c3 w3 o3 b3 -)
     | (at_builtin;refine wpList_push rfl _ _ rfl w.heap.size A1 0 c1 _ x rfl o1 rfl (by omega) b1.size b1 ?_;rintro g2 cap2 w2 o2 b2 - -)
     | (at_builtin;refine wpList_append_ints rfl _ _ rfl w.heap.size _ 0 0 [] rfl (Own.new0 (Nat.le_refl _)) none 0 0 _ rfl (R1.out.below (below_new (below_drewN (Below.refl _ _) _) _)) (by omega) (by simp) (below_new (below_drewN (Below.refl _ _) _) _) ?_;rintro A1 c1 w1 o1 b1 -;simp only [Nat.add_zero,List.append_nil] at o1))
    go_ret
    exact ⟨A3,_,c3,rfl,by rw [HA.out];exact o3.more hb,b3⟩
   ·injection hv with e1 e2 e3
    subst e1 e3
    have R1:=Lib.hid (HI.out.take (k:=n) hk)
    have i2:(n:Int)≤(c:Int):=by omega
    have i0:(0:Int)≤(n:Int):=by omega
    by_cases hcn:c=n
    ·subst hcn
     have R2:Hid (Ints w (some ⟨g,0,none⟩) 0 (xs.drop c)):=by
      rw [List.drop_of_length_le (by rw [HL.out];exact Nat.le_refl _)]
      exact Ints.none _ _
     go_wp2_with (first
      | (at_builtin;refine wpList_append_ints rfl _ _ rfl w.heap.size (some ⟨g2,0,none⟩) (c+1) cap2 _ rfl o2 (some ⟨g,0,none⟩) 0 0 _ rfl (R2.out.below b2) (by omega) b2.size b2 ?_;rintro A3 c3 w3 o3 b3 -)
      | (at_builtin;refine wpList_push rfl _ _ rfl w.heap.size A1 c c1 _ x rfl o1 rfl (by omega) b1.size b1 ?_;rintro g2 cap2 w2 o2 b2 - -)
      | (at_builtin;refine wpList_append_ints rfl _ _ rfl w.heap.size _ 0 0 [] rfl (Own.new0 (Nat.le_refl _)) (some ⟨g,0,none⟩) c c _ rfl (R1.out.below (below_new (below_drewN (Below.refl _ _) _) _)) (by omega) (by simp) (below_new (below_drewN (Below.refl _ _) _) _) ?_;rintro A1 c1 w1 o1 b1 -;rw [Nat.zero_add,List.nil_append] at o1))
     go_ret
     exact ⟨A3,_,c3,rfl,by rw [HA.out];exact o3.more hb,b3⟩
    ·have R2:Hid (Ints w (some ⟨g,n,none⟩) 0 (xs.drop n)):=by
      rw [List.drop_of_length_le (by rw [HL.out];exact Nat.le_refl _)]
      exact Ints.none _ _
     go_wp2_with (first
      | (at_builtin;refine wpList_append_ints rfl _ _ rfl w.heap.size (some ⟨g2,0,none⟩) (n+1) cap2 _ rfl o2 (some ⟨g,n,none⟩) 0 (c - n) _ rfl (R2.out.below b2) (by omega) b2.size b2 ?_;rintro A3 c3 w3 o3 b3 -)
      | (at_builtin;refine wpList_push rfl _ _ rfl w.heap.size A1 n c1 _ x rfl o1 rfl (by omega) b1.size b1 ?_;rintro g2 cap2 w2 o2 b2 - -)
      | (at_builtin;refine wpList_append_ints rfl _ _ rfl w.heap.size _ 0 0 [] rfl (Own.new0 (Nat.le_refl _)) (some ⟨g,0,none⟩) n c _ rfl (R1.out.below (below_new (below_drewN (Below.refl _ _) _) _)) (by omega) (by simp) (below_new (below_drewN (Below.refl _ _) _) _) ?_;rintro A1 c1 w1 o1 b1 -;rw [Nat.zero_add,List.nil_append] at o1))
     go_ret
     exact ⟨A3,_,c3,rfl,by rw [HA.out];exact o3.more hb,b3⟩
end Go.Proofs.YtignkfhdkcgkgaaGreat

namespace Go.Proofs.YtignkfhdkcgkgaaGreat
set_option maxRecDepth 100000
open Go.RowKit

theorem cand_neg {d:Dev} {t r k s:Int} (h:stepOf d t ((r+2) % 4) s<0):oneOf (cand d t r k s)=[]:=by
 have:cand d t r k s=-1:=by
  unfold cand wireNode
  rw [if_neg]
  rintro ⟨h1,_⟩
  have:=(tileIn_iff.1 h1).2.1
  omega
 rw [this];rfl
theorem oneOf_pos {x:Int} (h:0≤x):oneOf x=[x]:=by unfold oneOf;rw [if_pos h]
theorem oneOf_neg {x:Int} (h:x<0):oneOf x=[]:=by unfold oneOf;rw [if_neg (by omega)]
theorem ins_len {b b':Nat} {w w':World} {A A':Option Addr} {n c n' c':Nat} {xs:List Int} {x:Int} (h:Own b w A n c xs) (k:Own b' w' A' n' c' (ins xs x)):n'≤n+1:=by
 have:=ins_length_le xs x
 rw [h.len,k.len] at this
 exact this
theorem candK_succ (d:Dev) (t pin r k:Int) (s:Nat):candK d t pin r k (s+1)=candK d t pin r k s++candS d t pin r k ((s:Int)+1):=by simp [candK,List.range_succ]
theorem candR_succ (d:Dev) (t pin r:Int) (k:Nat):candR d t pin r (k+1)=candR d t pin r k++candK d t pin r (k:Int) (wlen (k:Int)).toNat:=by simp [candR,List.range_succ]
theorem candA_succ (d:Dev) (t pin:Int) (r:Nat):candA d t pin (r+1)=candA d t pin r++candR d t pin (r:Int) d.T.toNat:=by simp [candA,List.range_succ]
theorem candK_off {d:Dev} {t pin r k:Int} {s:Nat} (h7:pin<7) (h:pinUse d pin k=false):candK d t pin r k s=[]:=by
 unfold candK
 rw [List.flatMap_eq_nil_iff]
 intro j _
 unfold candS useOf
 rw [if_neg (show ¬7≤pin by omega),h]
 rfl
theorem candS_on {d:Dev} {t pin r k s:Int} (h7:pin<7) (h:pinUse d pin k=true):candS d t pin r k s=oneOf (cand d t r k s):=by
 unfold candS useOf
 rw [if_neg (show ¬7≤pin by omega),h,if_pos rfl]

set_option maxHeartbeats 2000000 in
theorem pinSources_any (d:Dev) (t pin:Int) (w:World) (ht:tileIn d t=true) (p0:0≤pin) (p5:pin<5) :
  Calls Tryz.prog 199 #[.agg #[.int .i64 d.W,.int .i64 d.H,.int .i64 d.T,.int .i64 d.R],.int .i64 t,.int .i64 pin] w fun e w'=>∃A n c,e = .returned (.slice A n c)∧Own w.heap.size w' A n c (asc (candA d t pin 4))∧Below w.heap.size w w':=by
 have HT:=Lib.hid ht
 have hTT:=devOk_bd (tileIn_iff.1 ht).1
 have HB0:=Lib.hid (below_new (Below.refl w.heap.size w) (.cells #[.int .i64 d.W,.int .i64 d.H,.int .i64 d.T,.int .i64 d.R] 25))
 have HAR:=fun r=>Lib.hid (candA_succ d t pin r)
 clear ht
 go_enter Tryz.func199,Tryz.ntmps199
 go_wp2_with fail
 go_loopw [7,8] (fun v i wr=>∃(r:Nat) (A:Option Addr) (n c:Nat),r≤4∧i = .int .i64 r∧v = .slice A n c∧n≤8 * r∧Own w.heap.size wr A n c (asc (candA d t pin r))∧Below (w.alloc (.cells #[.int .i64 d.W,.int .i64 d.H,.int .i64 d.T,.int .i64 d.R] 25)).heap.size (w.alloc (.cells #[.int .i64 d.W,.int .i64 d.H,.int .i64 d.T,.int .i64 d.R] 25)) wr) (fun _ i _=>4 - (intOf i).toNat)
 case atStart=>exact ⟨0,none,0,0,by omega,rfl,rfl,by omega,by simpa [candA,asc] using Own.nil,Below.refl _ _⟩
 case round =>
  obtain ⟨r,A,n,c,hr,rfl,rfl,hn,ho,hb⟩:=hrel
  have HO:=Lib.hid ho
  have HB:=Lib.hid hb
  have hs:=hb.size
  simp only [World.size_alloc] at hs
  clear ho hb
  by_cases hlt:r<4
  ·have hdr:decide ((r:Int)<4)=true:=by simp;omega
   go_wp2_with fail
   go_loopw [7,9] (fun v i wr=>∃(k:Nat) (A:Option Addr) (n c:Nat),(k:Int)≤d.T∧i = .int .i64 k∧v = .slice A n c∧n≤8 * r+2 * k∧Own w.heap.size wr A n c (asc (candA d t pin r++candR d t pin (r:Int) k))∧Below (w.alloc (.cells #[.int .i64 d.W,.int .i64 d.H,.int .i64 d.T,.int .i64 d.R] 25)).heap.size (w.alloc (.cells #[.int .i64 d.W,.int .i64 d.H,.int .i64 d.T,.int .i64 d.R] 25)) wr) (fun _ i _=>d.T.toNat - (intOf i).toNat)
   case atStart=>exact ⟨0,A,n,c,by omega,rfl,rfl,by omega,by simpa [candR] using HO.out,HB.out⟩
   case round =>
    obtain ⟨k,A,n,c,hk,rfl,rfl,hn,ho,hb⟩:=hrel
    have HO:=Lib.hid ho
    have HB:=Lib.hid hb
    have hs:=hb.size
    simp only [World.size_alloc] at hs
    obtain ⟨hcc,hff⟩:=bcell hb
    have HCR:=Lib.hid (candR_succ d t pin (r:Int) k)
    clear ho hb
    by_cases hlk:(k:Int)<d.T
    ·have hdk:decide ((k:Int)<d.T)=true:=by simpa using hlk
     have hL:wlen (k:Int)=1+(k:Int) % 2:=rfl
     have HWL:=Lib.hid hL
     have hL2:1≤wlen (k:Int)∧wlen (k:Int)≤2:=by rw [hL];omega
     clear hL
     have e1:((k:Int)+pin).tmod 2=((k:Int)+pin) % 2:=Int.tmod_eq_emod_of_nonneg (by omega)
     have hPU:pinUse d pin (k:Int)=!(decide (d.T>1) && decide (((k:Int)+pin) % 2=1)):=rfl
     have HPU:=Lib.hid hPU
     clear hPU
     have hz0:0≤((k:Int)+pin) % 2∧((k:Int)+pin) % 2≤1:=by omega
     generalize ((k:Int)+pin) % 2=z at *
     by_cases hskip:d.T>1∧z=1
     ·obtain ⟨hs1,rfl⟩:=hskip
      have HOFF:=Lib.hid (candK_off (d:=d) (t:=t) (pin:=pin) (r:=(r:Int)) (k:=(k:Int)) (s:=(wlen (k:Int)).toNat) (by omega) (by rw [HPU.out,decide_eq_true hs1];rfl))
      go_wp2_with fail
      go_roundw
      case rel=>exact ⟨k+1,A,n,c,by omega,by go_num,rfl,by omega,by rw [HCR.out,HOFF.out,List.append_nil];exact HO.out,HB.out⟩
      case measure=>simp [intOf];omega
     ·have HON:Hid (pinUse d pin (k:Int)=true):=by
       show _=true
       rw [HPU.out]
       simp
       omega
      have hcs:(d.T>1∧z=0)∨¬d.T>1:=by omega
      have HKS:=fun s=>Lib.hid (candK_succ d t pin (r:Int) (k:Int) s)
      have HSON:=fun s=>Lib.hid (candS_on (d:=d) (t:=t) (r:=(r:Int)) (k:=(k:Int)) (s:=s) (show pin<7 by omega) HON.out)
      clear HPU
      rcases hcs with ⟨hs1,rfl⟩|hs1
      all_goals
       go_wp2_with fail
       go_loopw [7,10] (fun v i wr=>∃(s:Nat) (A:Option Addr) (n c:Nat),(s:Int)≤wlen (k:Int)∧i = .int .i64 ((s:Int)+1)∧v = .slice A n c∧n≤8 * r+2 * k+s∧Own w.heap.size wr A n c (asc (candA d t pin r++candR d t pin (r:Int) k++candK d t pin (r:Int) (k:Int) s))∧Below (w.alloc (.cells #[.int .i64 d.W,.int .i64 d.H,.int .i64 d.T,.int .i64 d.R] 25)).heap.size (w.alloc (.cells #[.int .i64 d.W,.int .i64 d.H,.int .i64 d.T,.int .i64 d.R] 25)) wr) (fun _ i _=>4 - (intOf i).toNat)
       case atStart=>exact ⟨0,A,n,c,by omega,rfl,rfl,by omega,by simpa [candK] using HO.out,HB.out⟩
       case round =>
        obtain ⟨s,A,n,c,hsw,rfl,rfl,hn,ho,hb⟩:=hrel
        have HO:=Lib.hid ho
        have HB:=Lib.hid hb
        have hs:=hb.size
        simp only [World.size_alloc] at hs
        clear hcc hff
        obtain ⟨hcc,hff⟩:=bcell hb
        clear ho hb
        by_cases hls:(s:Int)+1≤wlen (k:Int)
        ·generalize hP:stepOf d t (((r:Int)+2) % 4) ((s:Int)+1)=P at *
         have HP:=Lib.hid hP
         have hPr:=step_range (d:=d) (t:=t) (r:=((r:Int)+2) % 4) (s:=(s:Int)+1) (tileIn_iff.1 HT.out).1
         rw [hP] at hPr
         have hWH:=dev_WH (tileIn_iff.1 HT.out).1
         clear hP
         generalize hwlk:wlen (k:Int)=L at *
         have HLK:=Lib.hid hwlk
         clear hwlk
         go_wp2_with (go_at_call 197;refine (wireLength_any (k:Int) _ (by omega) (by omega)).mono ?_;rw [HLK.out];rintro e w' ⟨rfl,rfl⟩)
         refine (tileStep_is HP.out HT.out (by omega) (by omega) _).mono ?_
         rintro e w2 ⟨rfl,b2⟩
         have HB2:=Lib.hid (below_tr HB.out b2)
         have HO2:=Lib.hid (HO.out.below b2)
         have hs2:=b2.size
         clear b2 hcc hff
         obtain ⟨hcc,hff⟩:=bcell HB2.out
         by_cases hP0:P<0
         ·have HC:=Lib.hid (cand_neg (d:=d) (t:=t) (r:=(r:Int)) (k:=(k:Int)) (s:=(s:Int)+1) (by rw [HP.out];exact hP0))
          go_wp2_with fail
          go_roundw
          case rel=>exact ⟨s+1,A,n,c,by omega,by go_num,rfl,by omega,by rw [(HKS s).out,(HSON _).out,HC.out,List.append_nil];exact HO2.out,HB2.out⟩
          case measure=>simp [intOf];omega
         ·generalize hC:cand d t (r:Int) (k:Int) ((s:Int)+1)=C at *
          have HC:Hid (wireNode d P (r:Int) (k:Int)=C):=by show _=C;rw [←hC,cand,HP.out]
          have HCC:=Lib.hid hC
          clear hC
          go_wp2_with fail
          refine (pwireNode_any d P (r:Int) (k:Int) _).mono ?_
          rw [HC.out]
          rintro e w3 ⟨rfl,b3⟩
          have HB3:=Lib.hid (below_tr HB2.out b3)
          have HO3:=Lib.hid (HO2.out.below b3)
          have hs3:=b3.size
          clear b3 hcc hff
          by_cases hC0:C≥0
          ·have HC1:=Lib.hid (oneOf_pos (x:=C) (by omega))
           go_wp2_with fail
           refine (insertInt_any w.heap.size A n c _ C _ HO3.out (by omega) (by omega)).mono ?_
           rintro e w4 ⟨A4,n4,c4,rfl,o4,b4⟩
           have hn4:=ins_len HO3.out o4
           have HO4:=Lib.hid o4
           have HB4:=Lib.hid (below_tr HB3.out b4)
           clear o4 b4
           go_wp2_with fail
           go_roundw
           case rel=>exact ⟨s+1,A4,n4,c4,by omega,by go_num,rfl,by omega,by rw [(HKS s).out,(HSON _).out,HCC.out,HC1.out,←List.append_assoc,asc_append];exact HO4.out,HB4.out⟩
           case measure=>simp [intOf];omega
          ·have HC1:=Lib.hid (oneOf_neg (x:=C) (by omega))
           go_wp2_with fail
           go_roundw
           case rel=>exact ⟨s+1,A,n,c,by omega,by go_num,rfl,by omega,by rw [(HKS s).out,(HSON _).out,HCC.out,HC1.out,List.append_nil];exact HO3.out,HB3.out⟩
           case measure=>simp [intOf];omega
        ·have hLS:(wlen (k:Int)).toNat=s:=by omega
         have HLS:=Lib.hid hLS
         clear hLS
         generalize hwlk:wlen (k:Int)=L at *
         have HLK:=Lib.hid hwlk
         clear hwlk
         go_wp2_with (go_at_call 197;refine (wireLength_any (k:Int) _ (by omega) (by omega)).mono ?_;rw [HLK.out];rintro e w' ⟨rfl,rfl⟩)
         go_roundw
         case rel=>exact ⟨k+1,A,n,c,by omega,by go_num,rfl,by omega,by rw [HCR.out,HLS.out,←List.append_assoc];exact HO.out,HB.out⟩
         case measure=>simp [intOf];omega
    ·have hkT:d.T=(k:Int):=by omega
     have HKT:=Lib.hid hkT
     have hkT2:¬(k:Int)<d.T:=hlk
     clear hkT
     go_wp2_with fail
     go_roundw
     case rel=>exact ⟨r+1,A,n,c,by omega,by go_num,rfl,by omega,by rw [(HAR r).out,show d.T.toNat=k by have:=HKT.out;omega];exact HO.out,HB.out⟩
     case measure=>simp [intOf];omega
  ·have hr4:r=4:=by omega
   subst hr4
   go_wp2_with fail
   go_ret
   exact ⟨A,n,c,rfl,HO.out,below_tr HB0.out HB.out⟩

def outsP (d:Dev) (t:Int) (p:Nat):List Int:=(List.range p).flatMap fun (j:Nat)=>oneOf (outPin d t (j:Int))
def kkOf (d:Dev) (track:Int) (i:Nat):Int:=if i=0 then track else (track+1) % d.T
def wRi (d:Dev) (t r track:Int) (i:Nat):List Int:=(List.range i).flatMap fun (j:Nat)=>oneOf (cand d t r (kkOf d track j) (wlen (kkOf d track j)))
def wR (d:Dev) (t dir track r:Int):List Int:=if r=(dir+2) % 4 then [] else wRi d t r track 2
def wA (d:Dev) (t dir track:Int) (r:Nat):List Int:=(List.range r).flatMap fun (j:Nat)=>wR d t dir track (j:Int)
theorem outsP_succ (d:Dev) (t:Int) (p:Nat):outsP d t (p+1)=outsP d t p++oneOf (outPin d t (p:Int)):=by simp [outsP,List.range_succ]
theorem wRi_succ (d:Dev) (t r track:Int) (i:Nat):wRi d t r track (i+1)=wRi d t r track i++oneOf (cand d t r (kkOf d track i) (wlen (kkOf d track i))):=by simp [wRi,List.range_succ]
theorem wA_succ (d:Dev) (t dir track:Int) (r:Nat):wA d t dir track (r+1)=wA d t dir track r++wR d t dir track (r:Int):=by simp [wA,List.range_succ]
theorem mem_outsP {d:Dev} {t y:Int} (ht:tileIn d t=true):y∈outsP d t 2↔y∈outsOf d t:=by
 rw [mem_outsOf]
 have hop:=outPins_bd d t
 simp only [outsP,List.mem_flatMap,List.mem_range,mem_oneOf]
 constructor
 ·rintro ⟨j,hj,rfl,h0⟩
  refine ⟨(j:Int),?_,rfl⟩
  unfold outPin at h0
  split at h0
  ·rename_i h;exact h.2
  ·omega
 ·rintro ⟨p,hp,rfl⟩
  refine ⟨p.toNat,by omega,by rw [show ((p.toNat:Nat):Int)=p by omega],?_⟩
  rw [show ((p.toNat:Nat):Int)=p by omega]
  exact (outPin_mod ht hp.1 hp.2).2.2
theorem kkOf_bd {d:Dev} {track:Int} (hd:devOk d=true) (h0:0≤track) (h1:track<d.T) (i:Nat):0≤kkOf d track i∧kkOf d track i<d.T:=by
 have:=devOk_bd hd
 unfold kkOf
 split
 ·omega
 ·exact ⟨Int.emod_nonneg _ (by omega),Int.emod_lt_of_pos _ (by omega)⟩
theorem wire_items {d:Dev} {t pin:Int} (ht:tileIn d t=true) (h7:7≤pin):asc (outsP d t 2++wA d t ((pin - 7) / d.T) ((pin - 7) % d.T) 4)=asc (itemsOf d t pin):=by
 have hd:=(tileIn_iff.1 ht).1
 have hT:=devOk_bd hd
 have k0:=Int.emod_nonneg (pin - 7) (show d.T≠0 by omega)
 have k1:=Int.emod_lt_of_pos (pin - 7) (show 0<d.T by omega)
 have hkk:=fun i=>kkOf_bd hd k0 k1 i
 refine asc_congr fun y=>?_
 unfold itemsOf
 rw [List.mem_append,List.mem_append,mem_outsP ht,if_pos h7,mem_candA' hd]
 refine or_congr Iff.rfl ?_
 simp only [wA,List.mem_flatMap,List.mem_range]
 constructor
 ·rintro ⟨r,hr,h⟩
  unfold wR at h
  split at h
  ·simp at h
  ·rename_i hne
   simp only [wRi,List.mem_flatMap,List.mem_range,mem_oneOf] at h
   obtain ⟨i,hi,rfl,h0⟩:=h
   refine ⟨(r:Int),_,wlen _,by omega,hkk i,⟨by unfold wlen;have:=hkk i;omega,Int.le_refl _⟩,?_,rfl,h0⟩
   unfold useOf wireUse
   rw [if_pos h7]
   simp only [Bool.and_eq_true,Bool.or_eq_true,decide_eq_true_eq]
   refine ⟨hne,?_⟩
   unfold kkOf
   split <;> simp
 ·rintro ⟨r,k,s,hr,hk,hs,hu,rfl,h0⟩
  unfold useOf wireUse at hu
  rw [if_pos h7] at hu
  simp only [Bool.and_eq_true,Bool.or_eq_true,decide_eq_true_eq] at hu
  obtain ⟨hne,hkt,rfl⟩:=hu
  refine ⟨r.toNat,by omega,?_⟩
  rw [show ((r.toNat:Nat):Int)=r by omega]
  unfold wR
  rw [if_neg hne]
  simp only [wRi,List.mem_flatMap,List.mem_range,mem_oneOf]
  rcases hkt with rfl|rfl
  ·exact ⟨0,by omega,by simp [kkOf],by simpa [kkOf] using h0⟩
  ·exact ⟨1,by omega,by simp [kkOf],by simpa [kkOf] using h0⟩
theorem cand_pos {d:Dev} {t r k:Int} (ht:tileIn d t=true) (hr:0≤r∧r≤3) (hk:0≤k∧k<d.T) (h:0≤stepOf d t ((r+2) % 4) (wlen k)):0≤cand d t r k (wlen k):=by
 have hd:=(tileIn_iff.1 ht).1
 have hT:=devOk_bd hd
 have hp:=perT_bd hd
 have hti:=(step_tile hd h).2.1
 have hb:=step_back ht hr.1 hr.2 h
 unfold cand wireNode
 rw [if_pos ⟨hti,hr,hk,by rw [hb];exact (tileIn_iff.1 ht).2.1⟩]
 have h1:=Int.mul_nonneg (tileIn_iff.1 hti).2.1 (show 0≤perT d by omega)
 have h2:=Int.mul_nonneg hr.1 (show 0≤d.T by omega)
 omega

set_option maxHeartbeats 2000000 in
theorem wireSources_any (d:Dev) (t dir track:Int) (w:World) (ht:tileIn d t=true) (r0:0≤dir) (r3:dir≤3) (k0:0≤track) (k1:track<d.T) :
  Calls Tryz.prog 200 #[.agg #[.int .i64 d.W,.int .i64 d.H,.int .i64 d.T,.int .i64 d.R],.int .i64 t,.int .i64 dir,.int .i64 track] w fun e w'=>∃A n c,e = .returned (.slice A n c)∧Own w.heap.size w' A n c (asc (outsP d t 2++wA d t dir track 4))∧Below w.heap.size w w':=by
 have HT:=Lib.hid ht
 have hTT:=devOk_bd (tileIn_iff.1 ht).1
 have hWH:=dev_WH (tileIn_iff.1 ht).1
 have HKB:=Lib.hid (fun i=>kkOf_bd (tileIn_iff.1 ht).1 k0 k1 i)
 have HB0:=Lib.hid (below_new (Below.refl w.heap.size w) (.cells #[.int .i64 d.W,.int .i64 d.H,.int .i64 d.T,.int .i64 d.R] 25))
 have HAR:=fun r=>Lib.hid (wA_succ d t dir track r)
 have HOS:=fun p=>Lib.hid (outsP_succ d t p)
 clear ht
 go_enter Tryz.func200,Tryz.ntmps200
 go_wp2_with fail
 go_loopw [9,10] (fun v i wr=>∃(p:Nat) (A:Option Addr) (n c:Nat),p≤2∧i = .int .i64 p∧v = .slice A n c∧n≤p∧Own w.heap.size wr A n c (asc (outsP d t p))∧Below (w.alloc (.cells #[.int .i64 d.W,.int .i64 d.H,.int .i64 d.T,.int .i64 d.R] 25)).heap.size (w.alloc (.cells #[.int .i64 d.W,.int .i64 d.H,.int .i64 d.T,.int .i64 d.R] 25)) wr) (fun _ i _=>2 - (intOf i).toNat)
 case atStart=>exact ⟨0,none,0,0,by omega,rfl,rfl,by omega,by simpa [outsP,asc] using Own.nil,Below.refl _ _⟩
 case round =>
  obtain ⟨p,A,n,c,hp,rfl,rfl,hn,ho,hb⟩:=hrel
  have HO:=Lib.hid ho
  have HB:=Lib.hid hb
  have hs:=hb.size
  simp only [World.size_alloc] at hs
  obtain ⟨hcc,hff⟩:=bcell hb
  clear ho hb
  by_cases hlt:p<2
  ·have hdp:decide ((p:Int)<2)=true:=by simp;omega
   generalize hC:outPin d t (p:Int)=C at *
   have HC:=Lib.hid hC
   clear hC
   go_wp2_with fail
   refine (poutPin_any d t (p:Int) _).mono ?_
   rw [HC.out]
   rintro e w2 ⟨rfl,b2⟩
   have HB2:=Lib.hid (below_tr HB.out b2)
   have HO2:=Lib.hid (HO.out.below b2)
   have hs2:=b2.size
   clear b2 hcc hff
   by_cases hC0:C≥0
   ·have HC1:=Lib.hid (oneOf_pos (x:=C) (by omega))
    go_wp2_with fail
    refine (insertInt_any w.heap.size A n c _ C _ HO2.out (by omega) (by omega)).mono ?_
    rintro e w4 ⟨A4,n4,c4,rfl,o4,b4⟩
    have hn4:=ins_len HO2.out o4
    have HO4:=Lib.hid o4
    have HB4:=Lib.hid (below_tr HB2.out b4)
    clear o4 b4
    go_wp2_with fail
    go_roundw
    case rel=>exact ⟨p+1,A4,n4,c4,by omega,by go_num,rfl,by omega,by rw [(HOS p).out,HC.out,HC1.out,asc_append];exact HO4.out,HB4.out⟩
    case measure=>simp [intOf];omega
   ·have HC1:=Lib.hid (oneOf_neg (x:=C) (by omega))
    go_wp2_with fail
    go_roundw
    case rel=>exact ⟨p+1,A,n,c,by omega,by go_num,rfl,by omega,by rw [(HOS p).out,HC.out,HC1.out,List.append_nil];exact HO2.out,HB2.out⟩
    case measure=>simp [intOf];omega
  ·have hp2:p=2:=by omega
   have HP2:=Lib.hid hp2
   have hn2:n≤2:=by omega
   have hdp:decide ((p:Int)<2)=false:=by simp;omega
   clear hp2
   clear hcc hff
   go_wp2_with fail
   go_loopw [9,12] (fun v i wr=>∃(r:Nat) (A:Option Addr) (n c:Nat),r≤4∧i = .int .i64 r∧v = .slice A n c∧n≤2+2 * r∧Own w.heap.size wr A n c (asc (outsP d t 2++wA d t dir track r))∧Below (w.alloc (.cells #[.int .i64 d.W,.int .i64 d.H,.int .i64 d.T,.int .i64 d.R] 25)).heap.size (w.alloc (.cells #[.int .i64 d.W,.int .i64 d.H,.int .i64 d.T,.int .i64 d.R] 25)) wr) (fun _ i _=>4 - (intOf i).toNat)
   case atStart=>exact ⟨0,A,n,c,by omega,rfl,rfl,by omega,by rw [←HP2.out];simpa [wA] using HO.out,HB.out⟩
   case round =>
    obtain ⟨r,A,n,c,hr,rfl,rfl,hn,ho,hb⟩:=hrel
    obtain ⟨wo,rfl⟩:∃x,x=wr:=⟨wr,rfl⟩
    have HO:=Lib.hid ho
    have HB:=Lib.hid hb
    have hs:=hb.size
    simp only [World.size_alloc] at hs
    obtain ⟨hcc,hff⟩:=bcell hb
    clear ho hb
    by_cases hlt:r<4
    ·have hdr:decide ((r:Int)<4)=true:=by simp;omega
     by_cases hopp:(r:Int)=(dir+2) % 4
     ·have HW:Hid (wR d t dir track (r:Int)=[]):=by show _=_;unfold wR;rw [if_pos hopp]
      have HOPP:=Lib.hid hopp
      have e1:((r:Int)==(dir+2) % 4)=true:=by simpa using hopp
      clear hopp
      go_wp2_with fail
      go_roundw
      case rel=>exact ⟨r+1,A,n,c,by omega,by go_num,rfl,by omega,by rw [(HAR r).out,HW.out,List.append_nil];exact HO.out,HB.out⟩
      case measure=>simp [intOf];omega
     ·have HW:Hid (wR d t dir track (r:Int)=wRi d t (r:Int) track 2):=by show _=_;unfold wR;rw [if_neg hopp]
      have e1:((r:Int)==(dir+2) % 4)=false:=by simpa using hopp
      have e0:¬d.T=0:=by omega
      have e2:(track+1).tmod d.T=(track+1) % d.T:=Int.tmod_eq_emod_of_nonneg (by omega)
      have HWS:=fun i=>Lib.hid (wRi_succ d t (r:Int) track i)
      have HK0:Hid (kkOf d track 0=track):=rfl
      have HK1:Hid (kkOf d track 1=(track+1) % d.T):=rfl
      have hkb:=(HKB.out 1)
      rw [HK1.out] at hkb
      clear hopp
      generalize (track+1) % d.T=track' at *
      have hba:=below_new HB.out (.cells #[.int .i64 track,.int .i64 track'] 3)
      have HBA:=Lib.hid hba
      have HNW:=Lib.hid (heap_new wo (.cells #[.int .i64 track,.int .i64 track'] 3))
      have HOA:=Lib.hid (HO.out.below (below_new (Below.refl _ _) (.cells #[.int .i64 track,.int .i64 track'] 3)))
      clear hba
      go_wp2_with fail
      clear hcc hff
      go_loopw [9,46] (fun v i wi=>∃(i':Nat) (A:Option Addr) (n c:Nat),i'≤2∧i = .int .i64 i'∧v = .slice A n c∧n≤2+2 * r+i'∧wi.heap[wo.heap.size]?=some (.cells #[.int .i64 track,.int .i64 track'] 3 (0,0))∧Own w.heap.size wi A n c (asc (outsP d t 2++wA d t dir track r++wRi d t (r:Int) track i'))∧Below (w.alloc (.cells #[.int .i64 d.W,.int .i64 d.H,.int .i64 d.T,.int .i64 d.R] 25)).heap.size (w.alloc (.cells #[.int .i64 d.W,.int .i64 d.H,.int .i64 d.T,.int .i64 d.R] 25)) wi) (fun _ i _=>2 - (intOf i).toNat)
      case atStart=>exact ⟨0,A,n,c,by omega,rfl,rfl,by omega,HNW.out,by simpa [wRi] using HOA.out,HBA.out⟩
      case round =>
       obtain ⟨i,A,n,c,hi,rfl,rfl,hn,hx,ho,hb⟩:=hrel
       have HO:=Lib.hid ho
       have HB:=Lib.hid hb
       have HX:=Lib.hid hx
       have hs:=hb.size
       simp only [World.size_alloc] at hs
       obtain ⟨hcc,hff⟩:=bcell hb
       have x0:=cell_heap (k:=0) hx rfl
       have x1:=cell_heap (k:=1) hx rfl
       have hxl:=heap_lt0 hx
       clear ho hb hx
       by_cases hlt:i<2
       ·have hdi:decide ((i:Int)<2)=true:=by simp;omega
        have hKK:∃K:Int,kkOf d track i=K∧wr.cell? ⟨wo.heap.size,i,none⟩=some (.int .i64 K)∧0≤K∧K<d.T:=by
         have:i=0∨i=1:=by omega
         rcases this with rfl|rfl
         ·exact ⟨track,HK0.out,x0,k0,k1⟩
         ·exact ⟨track',HK1.out,x1,hkb.1,hkb.2⟩
        obtain ⟨K,hKE,hck,hK0,hK1⟩:=hKK
        have HKE:=Lib.hid hKE
        have hL:wlen K=1+K % 2:=rfl
        have hL2:1≤wlen K∧wlen K≤2:=by rw [hL];omega
        have HCP:=Lib.hid (fun h=>cand_pos (d:=d) (t:=t) (r:=(r:Int)) (k:=K) HT.out (by omega) ⟨hK0,hK1⟩ h)
        have HCN:=Lib.hid (fun h=>cand_neg (d:=d) (t:=t) (r:=(r:Int)) (k:=K) (s:=wlen K) h)
        generalize hP:stepOf d t (((r:Int)+2) % 4) (wlen K)=P at *
        have HP:=Lib.hid hP
        have hPr:=step_range (d:=d) (t:=t) (r:=((r:Int)+2) % 4) (s:=wlen K) (tileIn_iff.1 HT.out).1
        rw [hP] at hPr
        have i0:(0:Int)≤(i:Int):=by omega
        have HWL:=Lib.hid (fun w=>wireLength_any K w (by omega) (by omega))
        generalize hLL:wlen K=L at *
        have HLL:=Lib.hid hLL
        clear hKE hL hP x0 x1 hLL
        have e3:((r:Int)+2).tmod 4=((r:Int)+2) % 4:=Int.tmod_eq_emod_of_nonneg (by omega)
        have e4:IntKind.i64.wrap ((r:Int)+2)=(r:Int)+2:=IntWalk.i64_in _ (by omega)
        go_wp2_with fail
        have hwW:w.heap.size<wr.heap.size:=by omega
        have hsub:=sub_ne wr
        have hsc:=sub_cell wr
        refine wp_region_below wr (by kernel_rfl) (by kernel_rfl) (Below.refl _ _) ?_
        repeat (go_big_quiet_step ((first
         | (go_at_call 197;with_reducible exact calls_sub_same (HWL.out _))
         | (go_at_call 196;with_reducible exact calls_sub (tileStep_is HP.out HT.out (by omega) (by omega) _)))))
        refine wpQuiet_nil ?_
        rintro _ ⟨⟨w2,hD⟩,rfl⟩
        clear hsub hsc hcc hff
        have HB2:=Lib.hid (below_tr HB.out hD)
        have HO2:=Lib.hid (HO.out.below hD)
        have HX2:=Lib.hid (heap_tr hD HX.out)
        have hs2:=hD.size
        obtain ⟨hcc,hff⟩:=bcell HB2.out
        clear e3 e4 hD hck
        by_cases hP0:P≥0
        ·have hC0:=HCP.out (by omega)
         generalize hC:cand d t (r:Int) K L=C at *
         have HC:Hid (wireNode d P (r:Int) K=C):=by show _=C;rw [←hC,cand,HP.out]
         have HCC:=Lib.hid hC
         clear hC
         have HC1:=Lib.hid (oneOf_pos (x:=C) (by omega))
         go_wp2_with fail
         refine (pwireNode_any d P (r:Int) K _).mono ?_
         rw [HC.out]
         rintro e w3 ⟨rfl,b3⟩
         have HB3:=Lib.hid (below_tr HB2.out b3)
         have HO3:=Lib.hid (HO2.out.below b3)
         have HX3:=Lib.hid (heap_tr b3 HX2.out)
         have hs3:=b3.size
         clear b3 hcc hff
         go_wp2_with fail
         refine (insertInt_any w.heap.size A n c _ C _ HO3.out (by omega) (by omega)).mono ?_
         rintro e w4 ⟨A4,n4,c4,rfl,o4,b4⟩
         have hn4:=ins_len HO3.out o4
         have HO4:=Lib.hid o4
         have HB4:=Lib.hid (below_tr HB3.out b4)
         have HX4:=Lib.hid (heap_tr b4 HX3.out)
         clear o4 b4
         go_wp2_with fail
         go_roundw
         case rel=>exact ⟨i+1,A4,n4,c4,by omega,by go_num,rfl,by omega,HX4.out,by rw [(HWS i).out,HKE.out,HLL.out,HCC.out,HC1.out,←List.append_assoc,asc_append];exact HO4.out,HB4.out⟩
         case measure=>simp [intOf];omega
        ·have HC:=Lib.hid (HCN.out (by omega))
         go_wp2_with fail
         go_roundw
         case rel=>exact ⟨i+1,A,n,c,by omega,by go_num,rfl,by omega,HX2.out,by rw [(HWS i).out,HKE.out,HLL.out,HC.out,List.append_nil];exact HO2.out,HB2.out⟩
         case measure=>simp [intOf];omega
       ·obtain rfl:i=2:=by omega
        have hdi:decide ((2:Int)<2)=false:=by decide
        clear x0 x1
        go_wp2_with fail
        go_roundw
        case rel=>exact ⟨r+1,A,n,c,by omega,by go_num,rfl,by omega,by rw [(HAR r).out,HW.out,←List.append_assoc];exact HO.out,HB.out⟩
        case measure=>simp [intOf];omega
    ·obtain rfl:r=4:=by omega
     go_wp2_with fail
     go_ret
     exact ⟨A,n,c,rfl,HO.out,below_tr HB0.out HB.out⟩

theorem srcs_pin {d:Dev} {n:Int} (h:nodeOk d n=true) (hk:n % perT d<5):srcs d n=asc (candA d (n / perT d) (n % perT d) 4):=by
 rw [srcs,if_pos ⟨h,by omega⟩,itemsOf,if_neg (by omega)]
 rfl
theorem srcs_out {d:Dev} {n:Int} (hk:n % perT d=5∨n % perT d=6):srcs d n=[]:=by rw [srcs,if_neg (by rintro ⟨_,h⟩;exact h hk)]
theorem srcs_no {d:Dev} {n:Int} (h:nodeOk d n=false):srcs d n=[]:=by rw [srcs,h];simp
theorem srcs_wire {d:Dev} {n:Int} (h:nodeOk d n=true) (hk:7≤n % perT d):srcs d n=asc (outsP d (n / perT d) 2++wA d (n / perT d) ((n % perT d - 7) / d.T) ((n % perT d - 7) % d.T) 4):=by
 have h':=h
 unfold nodeOk at h'
 rw [Bool.and_eq_true] at h'
 rw [srcs,if_pos ⟨h,by omega⟩,wire_items (node_tile h'.1) hk]

set_option maxHeartbeats 2000000 in
theorem psources_any (d:Dev) (n:Int) (w:World) :
  Calls Tryz.prog 144 #[.agg #[.int .i64 d.W,.int .i64 d.H,.int .i64 d.T,.int .i64 d.R],.int .i64 n] w fun e w'=>∃A m c,e = .returned (.slice A m c)∧Own w.heap.size w' A m c (srcs d n)∧Below w.heap.size w w':=by
 have HB0:=Lib.hid (below_new (Below.refl w.heap.size w) (.cells #[.int .i64 d.W,.int .i64 d.H,.int .i64 d.T,.int .i64 d.R] 25))
 go_enter Tryz.func144,Tryz.ntmps144
 go_wp2_with fail
 cases hno:nodeOk d n with
 | false =>
  have HS:=Lib.hid (srcs_no hno)
  refine (prouteNodeOk_any d n _).mono ?_
  rw [hno]
  rintro e w1 ⟨rfl,b1⟩
  have HB1:=Lib.hid (below_tr HB0.out b1)
  clear b1 hno
  go_wp2_with fail
  go_ret
  exact ⟨none,0,0,rfl,by rw [HS.out];exact Own.nil,HB1.out⟩
 | true =>
  have hni:nodeIn d n=true:=by unfold nodeOk at hno;rw [Bool.and_eq_true] at hno;exact hno.1
  have HTI:=Lib.hid (node_tile hni)
  have HNI:=Lib.hid hni
  obtain ⟨hd,n0,n1,hq0,hq1,hr0,hr1⟩:=node_tk hni
  have hT:=devOk_bd hd
  have hp:=perT_bd hd
  have HSP:=Lib.hid (fun h=>srcs_pin hno h)
  have HSW:=Lib.hid (fun h=>srcs_wire hno h)
  have HSO:=Lib.hid (fun h=>srcs_out (d:=d) (n:=n) h)
  have HWO:=Lib.hid (fun h w=>wireOf_any d n w hni h)
  refine (prouteNodeOk_any d n _).mono ?_
  rw [hno]
  rintro e w1 ⟨rfl,b1⟩
  have HB1:=Lib.hid b1
  have hs1:=b1.size
  simp only [World.size_alloc] at hs1
  obtain ⟨hcc,hff⟩:=bcell b1
  clear b1 hno hni hd
  go_wp2_with fail
  refine (nodePlace_any d n _ HNI.out).mono ?_
  rintro e w2 ⟨rfl,b2⟩
  have HB2:=Lib.hid (below_tr HB1.out b2)
  have hs2:=b2.size
  clear b2 hcc hff
  obtain ⟨hcc,hff⟩:=bcell HB2.out
  generalize n % perT d=k at *
  generalize n / perT d=q at *
  have h3:k<5∨(¬k<5∧k<7)∨(¬k<5∧¬k<7):=by omega
  rcases h3 with h|⟨h,h'⟩|⟨h,h'⟩
  ·go_wp2_with fail
   refine (pinSources_any d q k _ HTI.out (by omega) (by omega)).mono ?_
   rintro e w3 ⟨A3,n3,c3,rfl,o3,b3⟩
   have HS:=Lib.hid (HSP.out (by omega))
   have HB3:=Lib.hid (below_tr HB0.out (below_tr HB2.out b3))
   have HO3:=Lib.hid o3
   clear b3 o3 hcc hff
   go_wp2_with fail
   go_ret
   exact ⟨A3,n3,c3,rfl,by rw [HS.out];exact HO3.out.more (by omega),HB3.out⟩
  ·have HS:=Lib.hid (HSO.out (by omega))
   have HB3:=Lib.hid (below_tr HB0.out HB2.out)
   clear hcc hff
   go_wp2_with fail
   go_ret
   exact ⟨none,0,0,rfl,by rw [HS.out];exact Own.nil,HB3.out⟩
  ·have hT0:=Int.ediv_nonneg (show 0≤k - 7 by omega) (show 0≤d.T by omega)
   have hT1:=Int.emod_nonneg (k - 7) (show d.T≠0 by omega)
   have hT2:=Int.emod_lt_of_pos (k - 7) (show 0<d.T by omega)
   have hT3:(k - 7) / d.T≤3:=by
    have:(k - 7) / d.T<4:=Int.ediv_lt_of_lt_mul (by omega) (by unfold perT at hr1;omega)
    omega
   go_wp2_with fail
   refine (HWO.out (by omega) _).mono ?_
   rintro e w4 ⟨rfl,b4⟩
   have HB4:=Lib.hid (below_tr HB2.out b4)
   have hs4:=b4.size
   have HS:=Lib.hid (HSW.out (by omega))
   clear b4 hcc hff
   obtain ⟨hcc,hff⟩:=bcell HB4.out
   generalize (k - 7) / d.T=r at *
   generalize (k - 7) % d.T=m at *
   go_wp2_with fail
   refine (wireSources_any d q r m _ HTI.out (by omega) (by omega) (by omega) (by omega)).mono ?_
   rintro e w3 ⟨A3,n3,c3,rfl,o3,b3⟩
   have HB3:=Lib.hid (below_tr HB0.out (below_tr HB4.out b3))
   have HO3:=Lib.hid o3
   clear b3 o3 hcc hff
   go_wp2_with fail
   go_ret
   exact ⟨A3,n3,c3,rfl,by rw [HS.out];exact HO3.out.more (by omega),HB3.out⟩
end Go.Proofs.YtignkfhdkcgkgaaGreat
