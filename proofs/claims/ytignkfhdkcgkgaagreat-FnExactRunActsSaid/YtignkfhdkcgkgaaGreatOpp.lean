/- FlipBit and FlipFrame: the program's and the reference's answers are one. -/
import Derived.Deep.DrawnRows
import Derived.Laws.CopyOwn
import Derived.Laws.Tables
import Derived.Lib.SmallJoins
import Derived.Test.YtignkfhdkcgkgaaGreatBkS
import Derived.Test.YtignkfhdkcgkgaaGreatEsPure
namespace Go.Proofs.YtignkfhdkcgkgaaGreat
set_option maxHeartbeats 2000000
set_option maxRecDepth 100000
open Go.RowKit
def iZ (code bit:Int):Int:=if (inR code 0 4194303 && inR bit 0 21)=true then bits .xor .i64 code (2 ^ bit.toNat) else code
theorem AC (code bit:Int) (w:World) :
  Calls Tryz.prog 213 #[.int .i64 code,.int .i64 bit] w fun e w'=>e = .returned (.int .i64 (iZ code bit))/\w=w':=by
 have HF:Hid (iZ code bit=if (inR code 0 4194303 && inR bit 0 21)=true then bits .xor .i64 code (2 ^ bit.toNat) else code):=rfl
 cases h1:inR code 0 4194303 with
 | false =>
  go_enter Tryz.func213,Tryz.ntmps213
  go_wp2_with (go_at_call 116;refine (aN _ _ _ _).mono ?_;rintro e w' ⟨rfl,rfl⟩)
  go_ret
  exact ⟨aP (by rw [HF.out,h1];simp),rfl⟩
 | true =>
  cases h2:inR bit 0 21 with
  | false =>
   go_enter Tryz.func213,Tryz.ntmps213
   go_wp2_with (go_at_call 116;refine (aN _ _ _ _).mono ?_;rintro e w' ⟨rfl,rfl⟩)
   go_ret
   exact ⟨aP (by rw [HF.out,h2];simp),rfl⟩
  | true =>
   have hb:=ak.1 h2
   have HW:=Hd (nQ (k:=bit.toNat) (by omega))
   rw [h1,h2] at HF
   obtain ⟨b,rfl⟩:=Int.eq_ofNat_of_zero_le hb.1
   go_enter Tryz.func213,Tryz.ntmps213
   go_wp2_with (go_at_call 116;refine (aN _ _ _ _).mono ?_;rintro e w' ⟨rfl,rfl⟩)
   go_ret
   have e1:=HW.out
   simp only [Int.toNat_natCast] at e1
   exact ⟨aP (by rw [HF.out,e1];simp),rfl⟩
theorem yX (code bit:Int) (w:World) :
  Calls Tryz.prog 218 #[.int .i64 code,.int .i64 bit] w fun e w'=>e = .returned (.int .i64 (iZ code bit))/\w=w':=by
 have HF:Hid (iZ code bit=if (inR code 0 4194303 && inR bit 0 21)=true then bits .xor .i64 code (2 ^ bit.toNat) else code):=rfl
 cases h1:inR code 0 4194303 with
 | false =>
  go_enter Tryz.func218,Tryz.ntmps218
  go_wp2_with (go_at_call 175;refine (aW _ _ _ _).mono ?_;rintro e w' ⟨rfl,rfl⟩)
  go_ret
  exact ⟨aP (by rw [HF.out,h1];simp),rfl⟩
 | true =>
  cases h2:inR bit 0 21 with
  | false =>
   go_enter Tryz.func218,Tryz.ntmps218
   go_wp2_with (go_at_call 175;refine (aW _ _ _ _).mono ?_;rintro e w' ⟨rfl,rfl⟩)
   go_ret
   exact ⟨aP (by rw [HF.out,h2];simp),rfl⟩
  | true =>
   have hb:=ak.1 h2
   have HW:=Hd (nQ (k:=bit.toNat) (by omega))
   rw [h1,h2] at HF
   obtain ⟨b,rfl⟩:=Int.eq_ofNat_of_zero_le hb.1
   go_enter Tryz.func218,Tryz.ntmps218
   go_wp2_with (go_at_call 175;refine (aW _ _ _ _).mono ?_;rintro e w' ⟨rfl,rfl⟩)
   go_ret
   have e1:=HW.out
   simp only [Int.toNat_natCast] at e1
   exact ⟨aP (by rw [HF.out,e1];simp),rfl⟩
attribute [local go_sem ↓] Go.wp_at_zero Go.wp_at_succ
def dU (d:Dev) (fs:List (List Int)) (t k b:Int):Bool:=az d fs && (inR t 0 ((fs.length:Int) - 1) && (inR k 0 (fwI d - 1) && inR b 0 21))
def bX (d:Dev) (fs:List (List Int)) (t k b:Int):List (List Int) :=
 if dU d fs t k b=true then fs.set t.toNat ((fs[t.toNat]?.getD []).set k.toNat (iZ ((fs[t.toNat]?.getD [])[k.toNat]?.getD 0) b)) else fs
theorem EZ {fs:List (List Int)} {t:Nat} {f:List Int} (h:t<fs.length→f.length=(fs[t]?.getD []).length):af (fs.set t f)=af fs:=by
 unfold af
 rw [List.length_set,tH (yss:=fs)]
 intro j
 rw [List.getElem?_set]
 by_cases hj:t=j
 ·subst hj
  by_cases hl:t<fs.length
  ·simp [hl,h hl]
  ·simp [hl]
 ·simp [hj]
theorem yY {d:Dev} {fs:List (List Int)} {t k b:Int} {M:Nat} (h:af fs<=M):af (bX d fs t k b)<=M:=by
 unfold bX
 split
 ·rw [EZ (by intro hl;simp)];exact h
 ·exact h
theorem wu (d:Dev) (A:Option Addr) (n c:Nat) (fs:List (List Int)) (t k b:Int) (w:World) (hA:dZ w A n fs) (hz:af fs<=1099511627776) :
  Calls Tryz.prog 168 #[.agg #[.int .i64 d.W,.int .i64 d.H,.int .i64 d.T,.int .i64 d.R],.slice A n c,.int .i64 t,.int .i64 k,.int .i64 b] w fun e w'=>∃A' n' c',e = .returned (.tuple #[.slice A' n' c',.bool (dU d fs t k b)])/\bq w.heap.size w'.heap.size w' A' n' c' (bX d fs t k b)/\Below w.heap.size w w':=by
 have hX:=hA.1
 have hn:=(dz hX hz).1
 have HX:=Hd hX
 have HI:=Hd hA
 clear hA hX
 go_enter Tryz.func168,Tryz.ntmps168
 go_wp2_with fail
 refine (jB A n c fs _ (HI.out.below (aB (Below.refl _ _) _)) hz).mono ?_
 rintro e w1 ⟨A1,c1,rfl,o1,b1⟩
 have hs1:=b1.size
 simp only [World.size_alloc] at hs1
 obtain ⟨hcc,hff⟩:=aO b1
 have O1:=Hd o1
 have B1:=Hd (aA (aB (Below.refl _ _) _) b1)
 have D1:=Hd b1
 clear o1 b1
 go_wp2_with fail
 refine (gB d A n c fs _ (HI.out.below B1.out) hz).mono ?_
 rintro e w2 ⟨rfl,b2⟩
 have hs2:=b2.size
 have O2:=Hd (O1.out.below b2)
 have B2:=Hd (aA B1.out b2)
 have D2:=Hd (aA D1.out b2)
 clear b2 hcc hff
 obtain ⟨hcc,hff⟩:=aO D2.out
 have hbad:∀(w3:World),dU d fs t k b=false→Below w2.heap.size w2 w3→bq w.heap.size w3.heap.size w3 A1 n c1 (bX d fs t k b)/\Below w.heap.size w w3:=by
  intro w3 h0 h3
  have h3s:=h3.size
  rw [bX,h0,if_neg (by simp)]
  exact ⟨(O2.out.below h3).widen (by simp) (by omega),aA B2.out h3⟩
 have HB:=Hd hbad
 clear hbad
 cases hf:az d fs with
 | false =>
  have HFO:Hid (dU d fs t k b=false):=by unfold Hid dU;rw [hf];rfl
  clear hf
  go_wp2_with fail
  go_ret2
  exact ⟨A1,n,c1,by simp [HFO.out],HB.out _ HFO.out (Below.refl _ _)⟩
 | true =>
  have hdv:=(aj hf).1
  have hfb:=jq hdv
  obtain ⟨_,_,_,_,ht1,ht2,_⟩:=aY hdv
  have HF:=Hd hf
  clear hf
  cases h1:inR t 0 ((n:Int) - 1) with
  | false =>
   have HFO:Hid (dU d fs t k b=false):=by unfold Hid dU;rw [HX.out,h1];simp
   go_wp2_with (go_at_call 116;refine (aN _ _ _ _).mono ?_;rintro e w' ⟨rfl,rfl⟩)
   go_ret2
   exact ⟨A1,n,c1,by simp [HFO.out],HB.out _ HFO.out (Below.refl _ _)⟩
  | true =>
   have h1b:=ak.1 h1
   cases h2:inR k 0 (fwI d - 1) with
   | false =>
    have HFO:Hid (dU d fs t k b=false):=by unfold Hid dU;rw [h2];simp
    go_wp2_with (first
     | (go_at_call 116;refine (aN _ _ _ _).mono ?_;rintro e w' ⟨rfl,rfl⟩)
     | (go_at_call 115;refine (iT d _ ht1 ht2).mono ?_;rintro e w3 ⟨rfl,b3⟩;have B3:=Hd b3;clear b3))
    go_ret2
    exact ⟨A1,n,c1,by simp [HFO.out],HB.out _ HFO.out B3.out⟩
   | true =>
    have h2b:=ak.1 h2
    cases h3:inR b 0 21 with
    | false =>
     have HFO:Hid (dU d fs t k b=false):=by unfold Hid dU;rw [h3];simp
     go_wp2_with (first
      | (go_at_call 116;refine (aN _ _ _ _).mono ?_;rintro e w' ⟨rfl,rfl⟩)
      | (go_at_call 115;refine (iT d _ ht1 ht2).mono ?_;rintro e w3 ⟨rfl,b3⟩;have B3:=Hd b3;clear b3))
     go_ret2
     exact ⟨A1,n,c1,by simp [HFO.out],HB.out _ HFO.out B3.out⟩
    | true =>
     have HFO:Hid (dU d fs t k b=true):=by unfold Hid dU;rw [HF.out,HX.out,h1,h2,h3];rfl
     go_wp2_with (first
      | (go_at_call 116;refine (aN _ _ _ _).mono ?_;rintro e w' ⟨rfl,rfl⟩)
      | (go_at_call 115;refine (iT d _ ht1 ht2).mono ?_;rintro e w3 ⟨rfl,b3⟩;have B3:=Hd b3;clear b3))
     clear HB hcc hff
     have o3:=(O2.out.below B3.out)
     obtain ⟨bb,A2,m2,c2,rfl,hck,_,o4,l4,hup⟩:=o3.row (k:=t.toNat) (by omega)
     have hrl:m2=fwI d:=by
      have hw:=(aj HF.out).2.2 t.toNat (by rw [HX.out];omega)
      simp only [bN,Bool.and_eq_true,decide_eq_true_eq] at hw
      rw [o4.len] at hw
      exact hw.1
     have hk:k.toNat<m2:=by omega
     obtain ⟨bi,cur,rfl,_⟩:=o4.block (by omega)
     obtain ⟨hci,hfi⟩:=o4.cellAt hk
     have HUP:=Hd hup
     have O4:=Hd o4
     have hs3:=B3.out.size
     have hk0:(0:Int)<=k:=by omega
     have hk1:k<(m2:Int):=by omega
     clear o3 o4 l4 hup hrl
     have hFF:Hid (bX d fs t k b=fs.set t.toNat ((fs[t.toNat]?.getD []).set k.toNat (iZ ((fs[t.toNat]?.getD [])[k.toNat]?.getD 0) b))):=by unfold Hid bX;rw [HFO.out];rfl
     generalize fs[t.toNat]?.getD []=f at *
     generalize f[k.toNat]?.getD 0=code at *
     go_wp2_with fail
     go_region_with (go_at_call 213;refine (AC _ _ _).mono ?_;rintro e w' ⟨rfl,rfl⟩)
     all_goals
      go_wp2_with fail
      go_ret2
      refine ⟨some ⟨bb,0,none⟩,n,c1,by simp [HFO.out],?_,?_⟩
      ·rw [hFF.out]
       have hst:=HUP.out (w3.setCell ⟨bi,k.toNat,none⟩ (.int .i64 (iZ code b))) _ (gI (iB _ _) _ _) (O4.out.stored hk (iZ code b))
       exact bq.widen (w:=w3.setCell ⟨bi,k.toNat,none⟩ (.int .i64 (iZ code b))) hst (by simp) (by simp [World.setCell];omega)
      ·exact ((aA B2.out B3.out).setCell (p:=⟨bi,k.toNat,none⟩) (by have:=(O4.out.lt _ rfl).1;simp at this;simp only;omega) _).drew
theorem vY (d:Dev) (A:Option Addr) (n c:Nat) (fs:List (List Int)) (t k b:Int) (w:World) (hA:dZ w A n fs) (hz:af fs<=1099511627776) :
  Calls Tryz.prog 177 #[.agg #[.int .i64 d.W,.int .i64 d.H,.int .i64 d.T,.int .i64 d.R],.slice A n c,.int .i64 t,.int .i64 k,.int .i64 b] w fun e w'=>∃A' n' c',e = .returned (.tuple #[.slice A' n' c',.bool (dU d fs t k b)])/\bq w.heap.size w'.heap.size w' A' n' c' (bX d fs t k b)/\Below w.heap.size w w':=by
 have hX:=hA.1
 have hn:=(dz hX hz).1
 have HX:=Hd hX
 have HI:=Hd hA
 clear hA hX
 go_enter Tryz.func177,Tryz.ntmps177
 go_wp2_with fail
 refine (mg A n c fs _ (HI.out.below (aB (Below.refl _ _) _)) hz).mono ?_
 rintro e w1 ⟨A1,c1,rfl,o1,b1⟩
 have hs1:=b1.size
 simp only [World.size_alloc] at hs1
 obtain ⟨hcc,hff⟩:=aO b1
 have O1:=Hd o1
 have B1:=Hd (aA (aB (Below.refl _ _) _) b1)
 have D1:=Hd b1
 clear o1 b1
 go_wp2_with fail
 refine (iK d A n c fs _ (HI.out.below B1.out) hz).mono ?_
 rintro e w2 ⟨rfl,b2⟩
 have hs2:=b2.size
 have O2:=Hd (O1.out.below b2)
 have B2:=Hd (aA B1.out b2)
 have D2:=Hd (aA D1.out b2)
 clear b2 hcc hff
 obtain ⟨hcc,hff⟩:=aO D2.out
 have hbad:∀(w3:World),dU d fs t k b=false→Below w2.heap.size w2 w3→bq w.heap.size w3.heap.size w3 A1 n c1 (bX d fs t k b)/\Below w.heap.size w w3:=by
  intro w3 h0 h3
  have h3s:=h3.size
  rw [bX,h0,if_neg (by simp)]
  exact ⟨(O2.out.below h3).widen (by simp) (by omega),aA B2.out h3⟩
 have HB:=Hd hbad
 clear hbad
 cases hf:az d fs with
 | false =>
  have HFO:Hid (dU d fs t k b=false):=by unfold Hid dU;rw [hf];rfl
  clear hf
  go_wp2_with fail
  go_ret2
  exact ⟨A1,n,c1,by simp [HFO.out],HB.out _ HFO.out (Below.refl _ _)⟩
 | true =>
  have hdv:=(aj hf).1
  have hfb:=jq hdv
  obtain ⟨_,_,_,_,ht1,ht2,_⟩:=aY hdv
  have HF:=Hd hf
  clear hf
  obtain ⟨_,hA2⟩:=HI.out.below B2.out
  cases h1:inR t 0 ((n:Int) - 1) with
  | false =>
   have HFO:Hid (dU d fs t k b=false):=by unfold Hid dU;rw [HX.out,h1];simp
   clear hA2
   rcases fT.1 h1 with h|h
   ·have hd:decide (t<0)=true:=by simp;omega
    go_wp2_with fail
    go_ret2
    exact ⟨A1,n,c1,by simp [HFO.out],HB.out _ HFO.out (Below.refl _ _)⟩
   ·have hd:decide (t<0)=false:=by simp;omega
    have hd':decide (t≥(n:Int))=true:=by simp;omega
    go_wp2_with fail
    go_ret2
    exact ⟨A1,n,c1,by simp [HFO.out],HB.out _ HFO.out (Below.refl _ _)⟩
  | true =>
   have h1b:=ak.1 h1
   obtain ⟨pb,po,rfl,_,hc⟩:=hA2 (by omega)
   obtain ⟨A3,m3,c3,hpk,hI3⟩:=hc t.toNat (by omega)
   have hm3:(m3:Int)=fwI d:=by
    have hw:=(aj HF.out).2.2 t.toNat (by rw [HX.out];omega)
    simp only [bN,Bool.and_eq_true,decide_eq_true_eq] at hw
    rw [hI3.1] at hw
    exact hw.1
   have HM3:=Hd hm3
   clear hc hI3 hm3
   have hd1:decide (t<0)=false:=by simp;omega
   have hd2:decide (t≥(n:Int))=false:=by simp;omega
   cases h2:inR k 0 (fwI d - 1) with
   | false =>
    have HFO:Hid (dU d fs t k b=false):=by unfold Hid dU;rw [h2];simp
    rcases fT.1 h2 with h|h
    ·have hd:decide (k<0)=true:=by simp;omega
     go_wp2_with fail
     go_ret2
     exact ⟨A1,n,c1,by simp [HFO.out],HB.out _ HFO.out (Below.refl _ _)⟩
    ·have hd:decide (k<0)=false:=by simp;omega
     have hd':decide (k≥(m3:Int))=true:=by have:=HM3.out;simp;omega
     go_wp2_with fail
     go_ret2
     exact ⟨A1,n,c1,by simp [HFO.out],HB.out _ HFO.out (Below.refl _ _)⟩
   | true =>
    have h2b:=ak.1 h2
    have hd3:decide (k<0)=false:=by simp;omega
    have hd4:decide (k≥(m3:Int))=false:=by have:=HM3.out;simp;omega
    cases h3:inR b 0 21 with
    | false =>
     have HFO:Hid (dU d fs t k b=false):=by unfold Hid dU;rw [h3];simp
     go_wp2_with (go_at_call 175;refine (aW _ _ _ _).mono ?_;rintro e w' ⟨rfl,rfl⟩)
     go_ret2
     exact ⟨A1,n,c1,by simp [HFO.out],HB.out _ HFO.out (Below.refl _ _)⟩
    | true =>
     have HFO:Hid (dU d fs t k b=true):=by unfold Hid dU;rw [HF.out,HX.out,h1,h2,h3];rfl
     go_wp2_with (go_at_call 175;refine (aW _ _ _ _).mono ?_;rintro e w' ⟨rfl,rfl⟩)
     clear hd1 hd2 hd3 hd4
     obtain ⟨w3,hw3⟩:∃w3,w3=w2:=⟨_,rfl⟩
     have B3:Hid (Below w2.heap.size w2 w3):=by rw [hw3];exact Below.refl _ _
     rw [←hw3]
     clear hw3
     clear HB hcc hff
     have o3:=(O2.out.below B3.out)
     obtain ⟨bb,A2,m2,c2,rfl,hck,_,o4,l4,hup⟩:=o3.row (k:=t.toNat) (by omega)
     have hrl:m2=fwI d:=by
      have hw:=(aj HF.out).2.2 t.toNat (by rw [HX.out];omega)
      simp only [bN,Bool.and_eq_true,decide_eq_true_eq] at hw
      rw [o4.len] at hw
      exact hw.1
     have hk:k.toNat<m2:=by omega
     obtain ⟨bi,cur,rfl,_⟩:=o4.block (by omega)
     obtain ⟨hci,hfi⟩:=o4.cellAt hk
     have HUP:=Hd hup
     have O4:=Hd o4
     have hs3:=B3.out.size
     have hk0:(0:Int)<=k:=by omega
     have hk1:k<(m2:Int):=by omega
     clear o3 o4 l4 hup hrl
     have hFF:Hid (bX d fs t k b=fs.set t.toNat ((fs[t.toNat]?.getD []).set k.toNat (iZ ((fs[t.toNat]?.getD [])[k.toNat]?.getD 0) b))):=by unfold Hid bX;rw [HFO.out];rfl
     generalize fs[t.toNat]?.getD []=f at *
     generalize f[k.toNat]?.getD 0=code at *
     go_wp2_with fail
     go_region_with (go_at_call 218;refine (yX _ _ _).mono ?_;rintro e w' ⟨rfl,rfl⟩)
     all_goals
      go_wp2_with fail
      go_ret2
      refine ⟨some ⟨bb,0,none⟩,n,c1,by simp [HFO.out],?_,?_⟩
      ·rw [hFF.out]
       have hst:=HUP.out (w3.setCell ⟨bi,k.toNat,none⟩ (.int .i64 (iZ code b))) _ (gI (iB _ _) _ _) (O4.out.stored hk (iZ code b))
       exact bq.widen (w:=w3.setCell ⟨bi,k.toNat,none⟩ (.int .i64 (iZ code b))) hst (by simp) (by simp [World.setCell];omega)
      ·exact ((aA B2.out B3.out).setCell (p:=⟨bi,k.toNat,none⟩) (by have:=(O4.out.lt _ rfl).1;simp at this;simp only;omega) _).drew
end Go.Proofs.YtignkfhdkcgkgaaGreat
namespace Go.Proofs.YtignkfhdkcgkgaaGreat
set_option maxRecDepth 100000
open Go.RowKit
def zBd:Bd:=⟨⟨0,0,0,0⟩,[],[],0,⟨0,0,0,0⟩,[]⟩
end Go.Proofs.YtignkfhdkcgkgaaGreat
namespace Go.Proofs.YtignkfhdkcgkgaaGreat
set_option maxRecDepth 100000
open Go.RowKit
theorem AJ {xss:List (List Int)} {M:Nat} (h:∀j,j<xss.length→(xss[j]?.getD []).length<=M):af xss<=xss.length * (M+1)/\bA xss xss.length<=xss.length * M:=by
 have key:∀k,k<=xss.length→bA xss k<=k * M:=by
  intro k hk
  induction k with
  | zero=>exact Nat.zero_le _
  | succ k ih =>
   have hl:=h k (by omega)
   rw [bA,Nat.succ_mul]
   have:=ih (by omega)
   omega
 have:=key xss.length (Nat.le_refl _)
 refine ⟨?_,this⟩
 unfold af
 rw [Nat.mul_succ]
 omega
theorem qK {fs:List (List Int)} (h:∀j,j<fs.length→(fs[j]?.getD []).length<=11) (hn:fs.length<=36):af fs<=432:=by
 have h1:=(AJ h).1
 have h3:fs.length * (11+1)<=36 * 12:=Nat.mul_le_mul_right _ hn
 omega
theorem ib {d:Dev} {fs:List (List Int)} (hf:az d fs=true) (j:Nat):(fs[j]?.getD []).length<=11:=by
 rcases Nat.lt_or_ge j fs.length with hj|hj
 ·have h1:=(jK hf hj).2
  have h2:=jq (aj hf).1
  omega
 ·rw [List.getElem?_eq_none hj];simp
end Go.Proofs.YtignkfhdkcgkgaaGreat
namespace Go.Proofs.YtignkfhdkcgkgaaGreat
set_option maxRecDepth 100000
open Go.RowKit
theorem tu {w:World} {g:Nat} {v0 v1 v2 v3:Value} {t:TypeId} (h:w.heap[g]?=some (.cells #[v0,v1,v2,v3] t (0,0))):w.cell? ⟨g,0,none⟩=some v0/\w.cell? ⟨g,1,none⟩=some v1/\w.cell? ⟨g,2,none⟩=some v2/\w.cell? ⟨g,3,none⟩=some v3:=⟨aC h rfl,aC h rfl,aC h rfl,aC h rfl⟩
end Go.Proofs.YtignkfhdkcgkgaaGreat
namespace Go.Proofs.YtignkfhdkcgkgaaGreat
set_option maxRecDepth 100000
open Go.RowKit Cw
def kC (ws:List Int):List Int:=ws.map fun x=>((encW x.toNat:Nat):Int)
theorem xU {ws:List Int} {k:Nat} (h:k<ws.length):kC (ws.take (k+1))=kC (ws.take k)++[((Cw.encW (ws[k]?.getD 0).toNat:Nat):Int)]:=by
 unfold kC
 rw [List.take_add_one,List.getElem?_eq_getElem h,List.map_append]
 rfl
theorem Ea {ws:List Int} {k:Nat} (h:ws.length=k):kC (ws.take k)=kC ws:=by rw [List.take_of_length_le (by omega)]
theorem uw (A:Option Addr) (n c:Nat) (ws:List Int) (w:World) (h:bH w A n ws) (hin:∀j,j<ws.length→0<=ws[j]?.getD 0/\ws[j]?.getD 0<=65535) (hn:n<=16777216) :
  Calls Tryz.prog 169 #[.slice A n c] w fun e w'=>∃A' c',e = .returned (.slice A' n c')/\Own w.heap.size w' A' n c' (kC ws)/\Below w.heap.size w w':=by
 obtain ⟨hx,hA⟩:=h
 have HX:=Hd hx
 have HIN:=Hd hin
 clear hx hin
 go_enter Tryz.func169,Tryz.ntmps169
 go_wp2_with fail
 go_loopw [3,8] (fun v i wr=>∃(k:Nat) (A':Option Addr) (c':Nat),k<=n/\i = .int .i64 k/\v = .slice A' k c'/\Own w.heap.size wr A' k c' (kC (ws.take k))/\Below w.heap.size w wr) (fun _ i _=>n - (intOf i).toNat)
 case atStart=>exact ⟨0,_,0,Nat.zero_le _,rfl,rfl,by simpa [kC] using Own.nil,Below.refl _ _⟩
 case round =>
  obtain ⟨k,A',c',hk,rfl,rfl,ho,hbe⟩:=hrel
  have HO:=Hd ho
  have HE:=Hd hbe
  clear ho
  by_cases hlt:k<n
  ·obtain ⟨b,o,rfl,hb,hc⟩:=hA (by omega)
   have hck:=hc k hlt
   rw [←hbe.cell (p:=⟨b,o+k,none⟩) hb] at hck
   have hs:=hbe.size
   have hx:=HIN.out k (by rw [HX.out];exact hlt)
   have HT:=Hd (xU (ws:=ws) (k:=k) (by rw [HX.out];exact hlt))
   clear hc hbe
   generalize ws[k]?.getD 0=x at *
   obtain ⟨x,rfl⟩:=Int.eq_ofNat_of_zero_le hx.1
   have HT2:=HT.out
   rw [Int.toNat_natCast] at HT2
   replace HT:=Hd HT2
   clear HT2
   go_wp2_with (first
    | ((with_reducible refine (pK x _ (by omega)).mono ?_);rintro e w' ⟨rfl,rfl⟩)
    | (at_builtin;refine ax rfl _ _ rfl w.heap.size A' k c' (kC (ws.take k)) _ rfl HO.out rfl (by omega) hs HE.out ?_;rintro g4 cap w4 o4 b4 gr4 hat4))
   go_roundw
   case rel=>exact ⟨k+1,_,_,by omega,by go_num,rfl,by rw [HT.out];exact o4,b4⟩
   case measure=>simp [intOf];omega
  ·have hkn:k=n:=by omega
   subst hkn
   go_wp2_with fail
   go_ret
   exact ⟨_,_,rfl,by have:=HO.out;rwa [List.take_of_length_le (by rw [HX.out];exact Nat.le_refl _)] at this,HE.out⟩
end Go.Proofs.YtignkfhdkcgkgaaGreat
namespace Go.Proofs.YtignkfhdkcgkgaaGreat
set_option maxRecDepth 100000
open Go.RowKit Cw
def rZ:Reg:=⟨0,0,0,0⟩
def ovS (old:List Int) (ts:List Int) (new:List Int):List Int:=ts.foldl (fun l t=>(l.set (2 * t.toNat) (old[2 * t.toNat]?.getD 0)).set (2 * t.toNat+1) (old[2 * t.toNat+1]?.getD 0)) new
def zS (ts:List Int) (l:List Int):List Int:=ts.foldl (fun l t=>l.set t.toNat 0) l
def abF (sv:List (List Int)) (ts:List Int) (fs:List (List Int)):List (List Int):=ts.foldl (fun l t=>l.set t.toNat (sv[t.toNat]?.getD [])) fs
theorem AL (old ts:List Int) (t:Int) (new:List Int):ovS old (ts++[t]) new=((ovS old ts new).set (2 * t.toNat) (old[2 * t.toNat]?.getD 0)).set (2 * t.toNat+1) (old[2 * t.toNat+1]?.getD 0):=by simp [ovS]
theorem Dr (ts:List Int) (t:Int) (l:List Int):zS (ts++[t]) l=(zS ts l).set t.toNat 0:=by simp [zS]
theorem FW (sv:List (List Int)) (ts:List Int) (t:Int) (l:List (List Int)):abF sv (ts++[t]) l=(abF sv ts l).set t.toNat (sv[t.toNat]?.getD []):=by simp [abF]
theorem uA {ts:List Int} {k:Nat} (h:k<ts.length):ts.take (k+1)=ts.take k++[ts[k]?.getD 0]:=by rw [List.take_add_one,List.getElem?_eq_getElem h];rfl
theorem sO {old ts new:List Int} {k:Nat} (h:k<ts.length):ovS old (ts.take (k+1)) new=((ovS old (ts.take k) new).set (2 * (ts[k]?.getD 0).toNat) (old[2 * (ts[k]?.getD 0).toNat]?.getD 0)).set (2 * (ts[k]?.getD 0).toNat+1) (old[2 * (ts[k]?.getD 0).toNat+1]?.getD 0):=by rw [uA h,AL]
theorem GV {ts l:List Int} {k:Nat} (h:k<ts.length):zS (ts.take (k+1)) l=(zS (ts.take k) l).set (ts[k]?.getD 0).toNat 0:=by rw [uA h,Dr]
theorem AO {sv:List (List Int)} {ts:List Int} {l:List (List Int)} {k:Nat} (h:k<ts.length):abF sv (ts.take (k+1)) l=(abF sv (ts.take k) l).set (ts[k]?.getD 0).toNat (sv[(ts[k]?.getD 0).toNat]?.getD []):=by rw [uA h,FW]
theorem lY (old ts:List Int):∀new:List Int,(ovS old ts new).length=new.length:=by
 induction ts with
 | nil=>intro new;rfl
 | cons t ts ih=>intro new;exact (ih _).trans (by simp)
theorem Eb (ts:List Int):∀l:List Int,(zS ts l).length=l.length:=by
 induction ts with
 | nil=>intro new;rfl
 | cons t ts ih=>intro new;exact (ih _).trans (by simp)
theorem rE (sv:List (List Int)) (ts:List Int):∀l:List (List Int),(abF sv ts l).length=l.length:=by
 induction ts with
 | nil=>intro new;rfl
 | cons t ts ih=>intro new;exact (ih _).trans (by simp)
theorem FX {d:Dev} {r:Reg} {k:Nat} {t:Int} (h:t∈dh d r k):0<=t/\t<k/\gY d r t=true:=by
 induction k with
 | zero=>simp [dh] at h
 | succ k ih =>
  rw [dh,List.mem_append] at h
  rcases h with h|h
  ·have:=ih h;exact ⟨this.1,by omega,this.2.2⟩
  ·split at h
   ·rename_i hr
    rw [List.mem_singleton] at h
    subst h
    exact ⟨by omega,by omega,hr⟩
   ·cases h
theorem kP {d:Dev} {r:Reg} {j:Nat} (h:j<(aQ d r).length):0<=(aQ d r)[j]?.getD 0/\(aQ d r)[j]?.getD 0<(tiles d:Int):=by
 rw [List.getElem?_eq_getElem h,Option.getD_some]
 have hm:=List.getElem_mem h
 revert hm
 generalize (aQ d r)[j]=t
 unfold aQ
 split
 ·intro hm;have:=FX hm;exact ⟨this.1,this.2.1⟩
 ·intro hm;cases hm
def BdB (M:Nat) (b:Bd):Prop:=af b.frames<=M/\b.state.length<=M/\af b.saved<=M
theorem BdB.ok {M:Nat} {b:Bd} (h:BdB M b) (hM:M<=1099511627776):kF b:=⟨Nat.le_trans h.1 hM,Nat.le_trans h.2.1 hM,Nat.le_trans h.2.2 hM⟩
theorem BdB.n {M:Nat} {b:Bd} (h:BdB M b):bdN b<=3 * M:=by
 obtain ⟨h1,h2,h3⟩:=h
 unfold af at h1 h3
 unfold bdN
 omega
theorem dV {b:Bd} (h:bkF b=true):az b.dev b.frames=true/\mM b.dev b.state=true/\(b.phase=0∨b.phase=1∨b.phase=2)/\(b.phase=1→rqF b.dev b.saved b.reg=true)/\(b.phase≠1→b.reg=rZ/\b.saved=[]):=by
 unfold bkF at h
 simp only [Bool.and_eq_true] at h
 obtain ⟨h1,h2,h3⟩:=h
 refine ⟨h1,h2,?_⟩
 by_cases hp:b.phase=0∨b.phase=2
 ·rw [if_pos hp] at h3
  simp only [Bool.and_eq_true,BD,decide_eq_true_iff] at h3
  obtain ⟨⟨z0,z1,z2,z3⟩,z4⟩:=h3
  refine ⟨by omega,by omega,fun _=>⟨?_,List.eq_nil_of_length_eq_zero z4⟩⟩
  cases hr:b.reg with
  | mk a1 a2 a3 a4=>rw [hr] at z0 z1 z2 z3;cases z0;cases z1;cases z2;cases z3;rfl
 ·rw [if_neg hp] at h3
  simp only [Bool.and_eq_true,decide_eq_true_iff] at h3
  exact ⟨by omega,fun _=>h3.2,by omega⟩
theorem pX {d:Dev} {fs:List (List Int)} {r:Reg} (h:rqF d fs r=true):az d fs=true/\mF d r=true:=by
 unfold rqF at h
 simp only [Bool.and_eq_true] at h
 exact ⟨h.1,h.2.1⟩
def upO (b:Bd) (t k i:Int):Bool:=bkF b && dU b.dev b.frames t k i
def upB (b:Bd) (t k i:Int):Bd:=if bkF b=true then { b with frames:=bX b.dev b.frames t k i } else b
theorem G9 {M:Nat} {b:Bd} (h:BdB M b) (t k i:Int):BdB M (upB b t k i):=by
 unfold upB
 split
 ·exact ⟨yY h.1,h.2.1,h.2.2⟩
 ·exact h
def scN (b:Bd) (s:Int):Int:=if bkF b=true then dF b.dev b.frames s else 0
def scB (b:Bd):Bd:=if bkF b=true then (if 0<dF b.dev b.frames 2 then ⟨b.dev,cu b.dev b.frames,b.state,2,rZ,[]⟩ else { b with frames:=cu b.dev b.frames }) else b
theorem Ha {M:Nat} {b:Bd} (h:BdB M b):BdB M (scB b):=by
 unfold scB
 split
 ·split
  ·exact ⟨xO h.1,h.2.1,show af ([]:List (List Int))<=M by simp [af,bA]⟩
  ·exact ⟨xO h.1,h.2.1,h.2.2⟩
 ·exact h
def beO (b:Bd) (r:Reg):Bool:=bkF b && (decide (b.phase=0) && rqF b.dev b.frames r)
def beB (b:Bd) (r:Reg):Bd:=if beO b r=true then ⟨b.dev,b.frames,b.state,1,r,b.frames⟩ else b
theorem He {M:Nat} {b:Bd} (h:BdB M b) (r:Reg):BdB M (beB b r):=by
 unfold beB
 split
 ·exact ⟨h.1,h.2.1,h.1⟩
 ·exact h
def wrO (b:Bd) (t:Int) (ws:List Int):Bool:=bkF b && (decide (b.phase=1) && (inR t 0 ((b.frames.length:Int) - 1) && (gY b.dev b.reg t && bN ws (fwI b.dev) 65535)))
def wrB (b:Bd) (t:Int) (ws:List Int):Bd:=if wrO b t ws=true then { b with frames:=b.frames.set t.toNat (kC ws) } else b
theorem AP {ws:List Int} {n m:Int} (h:bN ws n m=true):(ws.length:Int)=n:=by
 unfold bN at h
 simp only [Bool.and_eq_true,decide_eq_true_iff] at h
 exact h.1
theorem Hf {M:Nat} (hM:432<=M) {b:Bd} (h:BdB M b) (t:Int) (ws:List Int):BdB M (wrB b t ws):=by
 unfold wrB
 split
 ·rename_i ho
  unfold wrO at ho
  simp only [Bool.and_eq_true] at ho
  obtain ⟨hb,-,-,-,hw⟩:=ho
  have hf:=(dV hb).1
  have hl:=AP hw
  have h2:=jq (aj hf).1
  refine ⟨Nat.le_trans (qK (fun j hj=>?_) (by rw [List.length_set];exact (dW hf).2)) hM,h.2.1,h.2.2⟩
  rw [List.length_set] at hj
  rcases Nat.decEq t.toNat j with e|e
  ·rw [List.getElem?_set_ne e];exact ib hf j
  ·subst e;rw [List.getElem?_set_self hj];show (kC ws).length<=11;unfold kC;rw [List.length_map];omega
 ·exact h
def abO (b:Bd):Bool:=bkF b && decide (b.phase=1)
def rbB (b:Bd):Bd:=⟨b.dev,abF b.saved (aQ b.dev b.reg) b.frames,b.state,0,rZ,[]⟩
def abB (b:Bd):Bd:=if abO b=true then rbB b else b
theorem GX {sv:List (List Int)} (hv:∀j:Nat,(sv[j]?.getD []).length<=11) (ts:List Int):∀{l:List (List Int)},(∀j,j<l.length→(l[j]?.getD []).length<=11)→∀j,j<(abF sv ts l).length→((abF sv ts l)[j]?.getD []).length<=11:=by
 induction ts with
 | nil=>intro l h;exact h
 | cons t ts ih =>
  intro l h
  refine ih (l:=l.set t.toNat (sv[t.toNat]?.getD [])) fun j hj=>?_
  rw [List.length_set] at hj
  rcases Nat.decEq t.toNat j with e|e
  ·rw [List.getElem?_set_ne e];exact h j hj
  ·subst e;rw [List.getElem?_set_self hj];exact hv _
theorem lL {b:Bd} (h:abO b=true):bkF b=true/\b.phase=1:=by
 unfold abO at h
 simpa using h
theorem FY {M:Nat} (hM:432<=M) {b:Bd} (h:BdB M b) (ho:abO b=true):BdB M (rbB b):=by
 obtain ⟨hb,hp⟩:=lL ho
 obtain ⟨hf,-,-,hr,-⟩:=dV hb
 have hs:=(pX (hr hp)).1
 exact ⟨Nat.le_trans (qK (GX (ib hs) _ (fun j _=>ib hf j)) (by show (abF _ _ _).length<=36;rw [rE];exact (dW hf).2)) hM,h.2.1,show af ([]:List (List Int))<=M by simp [af,bA]⟩
theorem Hg {M:Nat} (hM:432<=M) {b:Bd} (h:BdB M b):BdB M (abB b):=by
 unfold abB
 split
 ·rename_i ho;exact FY hM h ho
 ·exact h
def yZ (f:List Int):Bool:=(List.range f.length).all fun j=>(iq (f[j]?.getD 0)).2==0
def FZ (fs:List (List Int)) (ts:List Int):Bool:=(List.range ts.length).all fun j=>yZ (fs[(ts[j]?.getD 0).toNat]?.getD [])
def coC (b:Bd) (x:Int):Bool:=FZ b.frames (aQ b.dev b.reg) && decide (jy b.dev b.frames (aQ b.dev b.reg)=x)
def coO (b:Bd) (x:Int):Bool:=abO b && coC b x
def cmB (b:Bd):Bd:=⟨b.dev,b.frames,ovS (dA b.dev b.frames) (aQ b.dev b.reg) b.state,0,rZ,[]⟩
def coB (b:Bd) (x:Int):Bd:=if abO b=true then (if coC b x=true then cmB b else rbB b) else b
theorem Hl {M:Nat} (hM:432<=M) {b:Bd} (h:BdB M b) (x:Int):BdB M (coB b x):=by
 unfold coB
 split
 ·rename_i ho
  split
  ·exact ⟨h.1,by show (ovS _ _ _).length<=M;rw [lY];exact h.2.1,show af ([]:List (List Int))<=M by simp [af,bA]⟩
  ·exact FY hM h ho
 ·exact h
def spO (b:Bd) (ps:List Int):Bool:=bkF b && j5 b.dev ps
def nxB (b:Bd) (ps:List Int):List Int:=oh b.dev (av b.dev b.frames) b.state ps
def ouB (b:Bd) (ps:List Int):List Int:=tq b.dev (av b.dev b.frames) b.state ps
def spB (b:Bd) (ps:List Int):Bd:=if spO b ps=true then (if b.phase=2 then b else if b.phase=1 then { b with state:=ovS b.state (aQ b.dev b.reg) (nxB b ps) } else { b with state:=nxB b ps }) else b
def spN (b:Bd) (ps:List Int):List Int:=if spO b ps=true then (if b.phase=2 then List.replicate (tiles b.dev) 0 else if b.phase=1 then zS (aQ b.dev b.reg) (ouB b ps) else ouB b ps) else []
theorem Dt (b:Bd) (ps:List Int):(nxB b ps).length=b.state.length:=nC _ _ _ _ _
theorem Hm {M:Nat} {b:Bd} (h:BdB M b) (ps:List Int):BdB M (spB b ps):=by
 unfold spB
 split
 ·split
  ·exact h
  ·split
   ·exact ⟨h.1,by show (ovS _ _ _).length<=M;rw [lY,Dt];exact h.2.1,h.2.2⟩
   ·exact ⟨h.1,by show (nxB b ps).length<=M;rw [Dt];exact h.2.1,h.2.2⟩
 ·exact h
theorem AQ {d:Dev} {fs:List (List Int)}:(av d fs).length=fs.length:=by simp [av]
theorem yc {b:Bd} (h:bkF b=true) (ps:List Int):(ouB b ps).length=tiles b.dev:=by
 unfold ouB tq
 rw [yP,AQ]
 exact (dW (dV h).1).1
theorem Fa (b:Bd) (ps:List Int):(spN b ps).length<=1000000:=by
 unfold spN
 split
 ·rename_i ho
  unfold spO at ho
  simp only [Bool.and_eq_true] at ho
  have h1:=dW (dV ho.1).1
  have:=yc ho.1 ps
  split
  ·rw [List.length_replicate];omega
  ·split
   ·rw [Eb];omega
   ·omega
 ·exact Nat.zero_le _
end Go.Proofs.YtignkfhdkcgkgaaGreat
