/- FlipBit and FlipFrame: the program's and the reference's answers are one. -/
import Derived.Deep.DrawnRows
import Derived.Test.YtbnfdhidgdfbeaaGreatCopies
namespace Go.Proofs.YtbnfdhidgdfbeaaGreat
set_option maxRecDepth 100000
open Go.RowKit

def flipBit (code bit:Int):Int:=if (inR code 0 4194303 && inR bit 0 21)=true then bits .xor .i64 code (2 ^ bit.toNat) else code

set_option maxHeartbeats 400000 in
theorem flipBit_any (code bit:Int) (w:World) :
  Calls Tryz.prog 141 #[.int .i64 code,.int .i64 bit] w fun e w'=>e = .returned (.int .i64 (flipBit code bit))∧w=w':=by
 have HF:Hid (flipBit code bit=if (inR code 0 4194303 && inR bit 0 21)=true then bits .xor .i64 code (2 ^ bit.toNat) else code):=rfl
 cases h1:inR code 0 4194303 with
 | false =>
  go_enter Tryz.func141,Tryz.ntmps141
  go_wp2_with (go_at_call 68;refine (inRange_any _ _ _ _).mono ?_;rintro e w' ⟨rfl,rfl⟩)
  go_ret
  exact ⟨ret_int (by rw [HF.out,h1];simp),rfl⟩
 | true =>
  cases h2:inR bit 0 21 with
  | false =>
   go_enter Tryz.func141,Tryz.ntmps141
   go_wp2_with (go_at_call 68;refine (inRange_any _ _ _ _).mono ?_;rintro e w' ⟨rfl,rfl⟩)
   go_ret
   exact ⟨ret_int (by rw [HF.out,h2];simp),rfl⟩
  | true =>
   have hb:=inR_iff.1 h2
   have HW:=Lib.hid (wrap_pow (k:=bit.toNat) (by omega))
   rw [h1,h2] at HF
   obtain ⟨b,rfl⟩:=Int.eq_ofNat_of_zero_le hb.1
   go_enter Tryz.func141,Tryz.ntmps141
   go_wp2_with (go_at_call 68;refine (inRange_any _ _ _ _).mono ?_;rintro e w' ⟨rfl,rfl⟩)
   go_ret
   have e1:=HW.out
   simp only [Int.toNat_natCast] at e1
   exact ⟨ret_int (by rw [HF.out,e1];simp),rfl⟩

attribute [local go_sem ↓] Go.wp_at_zero Go.wp_at_succ
def flipOk (d:Dev) (fs:List (List Int)) (t k b:Int):Bool:=framesOk d fs && (inR t 0 ((fs.length:Int) - 1) && (inR k 0 (fwI d - 1) && inR b 0 21))
def flipFrame (d:Dev) (fs:List (List Int)) (t k b:Int):List (List Int) :=
 if flipOk d fs t k b=true then fs.set t.toNat ((fs[t.toNat]?.getD []).set k.toNat (flipBit ((fs[t.toNat]?.getD [])[k.toNat]?.getD 0) b)) else fs

set_option maxHeartbeats 2000000 in
theorem flipFrame_any (d:Dev) (A:Option Addr) (n c:Nat) (fs:List (List Int)) (t k b:Int) (w:World) (hA:Rows2 w A n fs) (hz:size2 fs≤1099511627776) :
  Calls Tryz.prog 63 #[.agg #[.int .i64 d.W,.int .i64 d.H,.int .i64 d.T,.int .i64 d.R],.slice A n c,.int .i64 t,.int .i64 k,.int .i64 b] w fun e w'=>∃A' n' c',e = .returned (.tuple #[.slice A' n' c',.bool (flipOk d fs t k b)])∧Own2 w.heap.size w'.heap.size w' A' n' c' (flipFrame d fs t k b)∧Below w.heap.size w w':=by
 have hX:=hA.1
 have hn:=(size2_bd hX hz).1
 have HX:=Lib.hid hX
 have HI:=Lib.hid hA
 clear hA hX
 go_enter Tryz.func63,Tryz.ntmps63
 go_wp2_with fail
 refine (copyLists_any A n c fs _ (HI.out.below (below_new (Below.refl _ _) _)) hz).mono ?_
 rintro e w1 ⟨A1,c1,rfl,o1,b1⟩
 have hs1:=b1.size
 simp only [World.size_alloc] at hs1
 obtain ⟨hcc,hff⟩:=bcell b1
 have O1:=Lib.hid o1
 have B1:=Lib.hid (below_tr (below_new (Below.refl _ _) _) b1)
 have D1:=Lib.hid b1
 clear o1 b1
 go_wp2_with fail
 refine (framesOk_any d A n c fs _ (HI.out.below B1.out) hz).mono ?_
 rintro e w2 ⟨rfl,b2⟩
 have hs2:=b2.size
 have O2:=Lib.hid (O1.out.below b2)
 have B2:=Lib.hid (below_tr B1.out b2)
 have D2:=Lib.hid (below_tr D1.out b2)
 clear b2 hcc hff
 obtain ⟨hcc,hff⟩:=bcell D2.out
 have hbad:∀(w3:World),flipOk d fs t k b=false→Below w2.heap.size w2 w3→Own2 w.heap.size w3.heap.size w3 A1 n c1 (flipFrame d fs t k b)∧Below w.heap.size w w3:=by
  intro w3 h0 h3
  have h3s:=h3.size
  rw [flipFrame,h0,if_neg (by simp)]
  exact ⟨(O2.out.below h3).widen (by simp) (by omega),below_tr B2.out h3⟩
 have HB:=Lib.hid hbad
 clear hbad
 cases hf:framesOk d fs with
 | false =>
  have HFO:Hid (flipOk d fs t k b=false):=by unfold Hid flipOk;rw [hf];rfl
  clear hf
  go_wp2_with fail
  go_ret2
  exact ⟨A1,n,c1,by simp [HFO.out],HB.out _ HFO.out (Below.refl _ _)⟩
 | true =>
  have hdv:=(framesOk_iff hf).1
  have hfb:=fwI_bd hdv
  obtain ⟨_,_,_,_,ht1,ht2,_⟩:=devOk_bd hdv
  have HF:=Lib.hid hf
  clear hf
  cases h1:inR t 0 ((n:Int) - 1) with
  | false =>
   have HFO:Hid (flipOk d fs t k b=false):=by unfold Hid flipOk;rw [HX.out,h1];simp
   go_wp2_with (go_at_call 68;refine (inRange_any _ _ _ _).mono ?_;rintro e w' ⟨rfl,rfl⟩)
   go_ret2
   exact ⟨A1,n,c1,by simp [HFO.out],HB.out _ HFO.out (Below.refl _ _)⟩
  | true =>
   have h1b:=inR_iff.1 h1
   cases h2:inR k 0 (fwI d - 1) with
   | false =>
    have HFO:Hid (flipOk d fs t k b=false):=by unfold Hid flipOk;rw [h2];simp
    go_wp2_with (first
     | (go_at_call 68;refine (inRange_any _ _ _ _).mono ?_;rintro e w' ⟨rfl,rfl⟩)
     | (go_at_call 115;refine (frameWords_any d _ ht1 ht2).mono ?_;rintro e w3 ⟨rfl,b3⟩;have B3:=Lib.hid b3;clear b3))
    go_ret2
    exact ⟨A1,n,c1,by simp [HFO.out],HB.out _ HFO.out B3.out⟩
   | true =>
    have h2b:=inR_iff.1 h2
    cases h3:inR b 0 21 with
    | false =>
     have HFO:Hid (flipOk d fs t k b=false):=by unfold Hid flipOk;rw [h3];simp
     go_wp2_with (first
      | (go_at_call 68;refine (inRange_any _ _ _ _).mono ?_;rintro e w' ⟨rfl,rfl⟩)
      | (go_at_call 115;refine (frameWords_any d _ ht1 ht2).mono ?_;rintro e w3 ⟨rfl,b3⟩;have B3:=Lib.hid b3;clear b3))
     go_ret2
     exact ⟨A1,n,c1,by simp [HFO.out],HB.out _ HFO.out B3.out⟩
    | true =>
     have HFO:Hid (flipOk d fs t k b=true):=by unfold Hid flipOk;rw [HF.out,HX.out,h1,h2,h3];rfl
     go_wp2_with (first
      | (go_at_call 68;refine (inRange_any _ _ _ _).mono ?_;rintro e w' ⟨rfl,rfl⟩)
      | (go_at_call 115;refine (frameWords_any d _ ht1 ht2).mono ?_;rintro e w3 ⟨rfl,b3⟩;have B3:=Lib.hid b3;clear b3))
     clear HB hcc hff
     have o3:=(O2.out.below B3.out)
     obtain ⟨bb,A2,m2,c2,rfl,hck,_,o4,l4,hup⟩:=o3.row (k:=t.toNat) (by omega)
     have hrl:m2=fwI d:=by
      have hw:=(framesOk_iff HF.out).2.2 t.toNat (by rw [HX.out];omega)
      simp only [wordsOk,Bool.and_eq_true,decide_eq_true_eq] at hw
      rw [o4.len] at hw
      exact hw.1
     have hk:k.toNat<m2:=by omega
     obtain ⟨bi,cur,rfl,_⟩:=o4.block (by omega)
     obtain ⟨hci,hfi⟩:=o4.cellAt hk
     have HUP:=Lib.hid hup
     have O4:=Lib.hid o4
     have hs3:=B3.out.size
     have hk0:(0:Int)≤k:=by omega
     have hk1:k<(m2:Int):=by omega
     clear o3 o4 l4 hup hrl
     have hFF:Hid (flipFrame d fs t k b=fs.set t.toNat ((fs[t.toNat]?.getD []).set k.toNat (flipBit ((fs[t.toNat]?.getD [])[k.toNat]?.getD 0) b))):=by unfold Hid flipFrame;rw [HFO.out];rfl
     generalize fs[t.toNat]?.getD []=f at *
     generalize f[k.toNat]?.getD 0=code at *
     go_wp2_with fail
     go_region_with (go_at_call 141;refine (flipBit_any _ _ _).mono ?_;rintro e w' ⟨rfl,rfl⟩)
     all_goals
      go_wp2_with fail
      go_ret2
      refine ⟨some ⟨bb,0,none⟩,n,c1,by simp [HFO.out],?_,?_⟩
      ·rw [hFF.out]
       have hst:=HUP.out (w3.setCell ⟨bi,k.toNat,none⟩ (.int .i64 (flipBit code b))) _ (grownBy_store (grownBy_refl _ _) _ _) (O4.out.stored hk (flipBit code b))
       exact Own2.widen (w:=w3.setCell ⟨bi,k.toNat,none⟩ (.int .i64 (flipBit code b))) hst (by simp) (by simp [World.setCell];omega)
      ·exact ((below_tr B2.out B3.out).setCell (p:=⟨bi,k.toNat,none⟩) (by have:=(O4.out.lt _ rfl).1;simp at this;simp only;omega) _).drew
end Go.Proofs.YtbnfdhidgdfbeaaGreat
