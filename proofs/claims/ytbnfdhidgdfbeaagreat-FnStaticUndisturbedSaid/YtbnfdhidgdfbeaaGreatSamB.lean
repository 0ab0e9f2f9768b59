/- The laws' own comparing of rows and of rows of rows. sameBoard, has of the laws. -/
import Derived.Test.YtbnfdhidgdfbeaaGreatBk
import Derived.Test.YtbnfdhidgdfbeaaGreatCopy
namespace Go.Proofs.YtbnfdhidgdfbeaaGreat
set_option maxRecDepth 100000
open Go.RowKit

set_option maxHeartbeats 400000 in
theorem sameInts_any (A B:Option Addr) (n m c d:Nat) (xs ys:List Int) (w:World) (hA:Ints w A n xs) (hB:Ints w B m ys) (hn:n≤1099511627776) :
  Calls Tryz.prog 21 #[.slice A n c,.slice B m d] w fun e w'=>e = .returned (.bool (decide (xs=ys)))∧Below w.heap.size w w':=by
 obtain ⟨hx,hA⟩:=hA
 obtain ⟨hy,hB⟩:=hB
 by_cases hnm:n=m
 ·subst hnm
  have HX:=Lib.hid hx
  have HY:=Lib.hid hy
  clear hx hy
  go_enter Tryz.func21,Tryz.ntmps21
  go_wp2_with fail
  go_loopw [5] (fun i wr=>∃k nq:Nat,k≤n∧i = .int .i64 k∧wr=w.drewN nq∧xs.take k=ys.take k) (fun i _=>n - (intOf i).toNat)
  case atStart=>exact ⟨0,0,Nat.zero_le _,rfl,rfl,rfl⟩
  case round =>
   obtain ⟨k,nq,hk,rfl,rfl,ht⟩:=hrel
   have HT:=Lib.hid ht
   clear ht
   by_cases hlt:k<n
   ·obtain ⟨b,o,rfl,hb,hc⟩:=hA (by omega)
    obtain ⟨b',o',rfl,hb',hc'⟩:=hB (by omega)
    have hck:=hc k hlt
    have hck':=hc' k hlt
    have hi0:(0:Int)≤(k:Int):=by omega
    have hi1:(k:Int)<(n:Int):=by omega
    clear hc hc'
    go_wp2
    go_quiet (fail)
    go_wp2
    ·have hne:xs[k]?.getD 0≠ys[k]?.getD 0:=bne_iff_ne.1 (by assumption)
     go_ret
     exact ⟨ret_bool (by
      have:xs≠ys:=by rintro rfl;exact hne rfl
      simp [this]),below_drewN (below_drewN (Below.refl _ _) _) _⟩
    ·have he:xs[k]?.getD 0=ys[k]?.getD 0:=by simpa using ‹(xs[k]?.getD 0 != ys[k]?.getD 0)=false›
     go_roundw
     case rel=>exact ⟨k+1,_,by omega,by go_num,rfl,take_succ_eq HT.out (by rw [HX.out];exact hlt) (by rw [HY.out];exact hlt) he⟩
     case measure=>simp [intOf];omega
   ·have hkn:k=n:=by omega
    subst hkn
    go_wp2
    go_ret
    exact ⟨ret_bool (by
     have:=HT.out
     rw [List.take_of_length_le (by rw [HX.out];exact Nat.le_refl _),List.take_of_length_le (by rw [HY.out];exact Nat.le_refl _)] at this
     simp [this]),below_drewN (Below.refl _ _) _⟩
 ·have hne:((n:Int)==(m:Int))=false:=by simp;omega
  have hne':((n:Int) != (m:Int))=true:=by simp;omega
  go_enter Tryz.func21,Tryz.ntmps21
  go_wp2_with fail
  go_ret
  exact ⟨ret_bool (by
   have:xs≠ys:=by rintro rfl;omega
   simp [this]),Below.refl _ _⟩

theorem takeR_succ {xss yss:List (List Int)} {k:Nat} (h:xss.take k=yss.take k) (hx:k<xss.length) (hy:k<yss.length) (he:xss[k]?.getD []=yss[k]?.getD []):xss.take (k+1)=yss.take (k+1):=by
 rw [List.take_succ_eq_append_getElem hx,List.take_succ_eq_append_getElem hy,h]
 simp [hx,hy] at he
 rw [he]
set_option maxHeartbeats 1000000 in
theorem sameRows_any (A B:Option Addr) (n m c d:Nat) (xss yss:List (List Int)) (w:World) (hA:Rows2 w A n xss) (hB:Rows2 w B m yss) (hz:size2 xss≤1099511627776) :
  Calls Tryz.prog 20 #[.slice A n c,.slice B m d] w fun e w'=>e = .returned (.bool (decide (xss=yss)))∧Below w.heap.size w w':=by
 obtain ⟨hx,hA⟩:=hA
 obtain ⟨hy,hB⟩:=hB
 obtain ⟨hn,hrow⟩:n≤1099511627776∧∀j:Nat,(xss[j]?.getD []).length≤1099511627776:=size2_bd hx hz
 by_cases hnm:n=m
 ·subst hnm
  have HX:=Lib.hid hx
  have HY:=Lib.hid hy
  have HR:=Lib.hid hrow
  clear hx hy hrow
  go_enter Tryz.func20,Tryz.ntmps20
  go_wp2_with fail
  go_loopw [5] (fun i wr=>∃k:Nat,k≤n∧i = .int .i64 k∧Below w.heap.size w wr∧xss.take k=yss.take k) (fun i _=>n - (intOf i).toNat)
  case atStart=>exact ⟨0,Nat.zero_le _,rfl,Below.refl _ _,rfl⟩
  case round =>
   obtain ⟨k,hk,rfl,hbe,ht⟩:=hrel
   have HT:=Lib.hid ht
   clear ht
   by_cases hlt:k<n
   ·obtain ⟨b,o,rfl,hb,hc⟩:=hA (by omega)
    obtain ⟨b',o',rfl,hb',hc'⟩:=hB (by omega)
    obtain ⟨A1,m1,c1,hck,hI1⟩:=hc k hlt
    obtain ⟨A2,m2,c2,hck',hI2⟩:=hc' k hlt
    rw [←hbe.cell (p:=⟨b,o+k,none⟩) hb] at hck
    rw [←hbe.cell (p:=⟨b',o'+k,none⟩) hb'] at hck'
    have J1:=Lib.hid (hI1.below hbe).drewd
    have J2:=Lib.hid (hI2.below hbe).drewd
    have hm1:m1≤1099511627776:=by have:=HR.out k;have:=hI1.1;omega
    have hi0:(0:Int)≤(k:Int):=by omega
    have hi1:(k:Int)<(n:Int):=by omega
    have HE:=Lib.hid hbe.drew
    clear hc hc' hI1 hI2 hbe
    cases hq:decide (xss[k]?.getD []=yss[k]?.getD []) with
    | true =>
     have HQ:=Lib.hid (of_decide_eq_true hq)
     have HCL:Hid (∀w':World,Ints w' A1 m1 (xss[k]?.getD [])→Ints w' A2 m2 (yss[k]?.getD [])→Calls Tryz.prog 21 #[.slice A1 m1 c1,.slice A2 m2 c2] w' fun e w''=>e = .returned (.bool true)∧Below w'.heap.size w' w''):=fun w' h1 h2=>by
      have h:=sameInts_any A1 A2 m1 m2 c1 c2 _ _ w' h1 h2 hm1
      rwa [hq] at h
     clear hq
     go_wp2_with fail
     go_region_held3 (fun w'=>w'.cell? ⟨b,o+k,none⟩=some (.slice A1 m1 c1)∧w'.cell? ⟨b',o'+k,none⟩=some (.slice A2 m2 c2)∧Below w.heap.size w w')
      (first|exact ⟨hck,hck',HE.out⟩|exact ⟨(b3.cell (p:=⟨b,o+k,none⟩) (Nat.lt_of_lt_of_le hb HE.out.size)).trans hck,(b3.cell (p:=⟨b',o'+k,none⟩) (Nat.lt_of_lt_of_le hb' HE.out.size)).trans hck',below_tr HE.out b3⟩)
      (first|(go_at_call 21;refine (HCL.out _ J1.out J2.out).mono ?_;rintro e w3 ⟨rfl,b3⟩))
     rename_i hH
     obtain ⟨_,_,hE3⟩:=hH
     go_wp2_with fail
     go_roundw
     case rel=>exact ⟨k+1,by omega,by go_num,hE3,takeR_succ HT.out (by rw [HX.out];exact hlt) (by rw [HY.out];exact hlt) HQ.out⟩
     case measure=>simp [intOf];omega
    | false =>
     have HQ:=Lib.hid (of_decide_eq_false hq)
     have HCL:Hid (∀w':World,Ints w' A1 m1 (xss[k]?.getD [])→Ints w' A2 m2 (yss[k]?.getD [])→Calls Tryz.prog 21 #[.slice A1 m1 c1,.slice A2 m2 c2] w' fun e w''=>e = .returned (.bool false)∧Below w'.heap.size w' w''):=fun w' h1 h2=>by
      have h:=sameInts_any A1 A2 m1 m2 c1 c2 _ _ w' h1 h2 hm1
      rwa [hq] at h
     clear hq
     go_wp2_with fail
     go_region_held3 (fun w'=>w'.cell? ⟨b,o+k,none⟩=some (.slice A1 m1 c1)∧w'.cell? ⟨b',o'+k,none⟩=some (.slice A2 m2 c2)∧Below w.heap.size w w')
      (first|exact ⟨hck,hck',HE.out⟩|exact ⟨(b3.cell (p:=⟨b,o+k,none⟩) (Nat.lt_of_lt_of_le hb HE.out.size)).trans hck,(b3.cell (p:=⟨b',o'+k,none⟩) (Nat.lt_of_lt_of_le hb' HE.out.size)).trans hck',below_tr HE.out b3⟩)
      (first|(go_at_call 21;refine (HCL.out _ J1.out J2.out).mono ?_;rintro e w3 ⟨rfl,b3⟩))
     rename_i hH
     obtain ⟨_,_,hE3⟩:=hH
     go_wp2_with fail
     go_ret
     exact ⟨ret_bool (decide_eq_false (by rintro rfl;exact HQ.out rfl)).symm,hE3⟩
   ·have hkn:k=n:=by omega
    subst hkn
    go_wp2_with fail
    go_ret
    exact ⟨ret_bool (decide_eq_true (by
     have:=HT.out
     rwa [List.take_of_length_le (by rw [HX.out];exact Nat.le_refl _),List.take_of_length_le (by rw [HY.out];exact Nat.le_refl _)] at this)).symm,hbe⟩
 ·have hne:((n:Int)==(m:Int))=false:=by simp;omega
  have hne':((n:Int) != (m:Int))=true:=by simp;omega
  go_enter Tryz.func20,Tryz.ntmps20
  go_wp2_with fail
  go_ret
  exact ⟨ret_bool (decide_eq_false (by rintro rfl;omega)).symm,Below.refl _ _⟩
end Go.Proofs.YtbnfdhidgdfbeaaGreat

namespace Go.Proofs.YtbnfdhidgdfbeaaGreat
set_option maxRecDepth 100000
open Go.RowKit

set_option maxHeartbeats 1000000 in
theorem has_any (A:Option Addr) (n c:Nat) (xs:List Int) (k:Int) (w:World) (hA:Ints w A n xs) (hn:n≤1099511627776) :
  Calls Tryz.prog 16 #[.slice A n c,.int .i64 k] w fun e w'=>e = .returned (.bool (decide (k∈xs)))∧w=w':=by
 have HI:=Lib.hid hA
 have HL:=Lib.hid hA.1
 clear hA
 go_enter Tryz.func16,Tryz.ntmps16
 go_wp2_with fail
 go_loopw [5] (fun i wr=>∃j:Nat,j≤n∧i = .int .i64 j∧wr=w∧∀i,i<j→xs[i]?.getD 0≠k) (fun i _=>n - (intOf i).toNat)
 case atStart=>exact ⟨0,Nat.zero_le _,rfl,rfl,fun i hi=>by omega⟩
 case round =>
  obtain ⟨j,hj,rfl,rfl,hno⟩:=hrel
  have HNO:=Lib.hid hno
  clear hno
  by_cases hlt:j<n
  ·have hdk:decide ((j:Int)<(n:Int))=true:=by simp;omega
   obtain ⟨b,o,rfl,hb,hc⟩:=HI.out.2 (by omega)
   have hcj:=hc j hlt
   clear hc
   by_cases he:xs[j]?.getD 0=k
   ·have hm:k∈xs:=by
     have hjl:j<xs.length:=by rw [HL.out];exact hlt
     rw [List.getElem?_eq_getElem hjl] at he
     rw [←he]
     exact List.getElem_mem hjl
    have HM:=Lib.hid (decide_eq_true hm)
    have he2:(xs[j]?.getD 0==k)=true:=by simp [he]
    generalize xs[j]?.getD 0=x at *
    clear he hm
    go_wp2_with fail
    go_ret
    exact ⟨ret_bool HM.out.symm,rfl⟩
   ·have he2:(xs[j]?.getD 0==k)=false:=by simp [he]
    have HNE:=Lib.hid (fun i (hi:i<j+1)=>(if h:i=j then by subst h;exact he else HNO.out i (by omega):xs[i]?.getD 0≠k))
    generalize xs[j]?.getD 0=x at *
    clear he
    go_wp2_with fail
    go_roundw
    case rel=>exact ⟨j+1,by omega,by go_num,(by first|rfl|trivial),HNE.out⟩
    case measure=>simp [intOf];omega
  ·have hdk:decide ((j:Int)<(n:Int))=false:=by simp;omega
   have hm:¬k∈xs:=by
    intro hk
    obtain ⟨i,hi,he⟩:=List.getElem_of_mem hk
    refine HNO.out i (by rw [HL.out] at hi;omega) ?_
    rw [List.getElem?_eq_getElem hi]
    exact he
   have HM:=Lib.hid (decide_eq_false hm)
   clear hm
   go_wp2_with fail
   go_ret
   exact ⟨ret_bool HM.out.symm,rfl⟩
set_option maxHeartbeats 4000000 in
theorem sameBoard_same (b:Bd) (s1 s2:Sl3) (w:World) (h1:BoardRd w b s1) (h2:BoardRd w b s2) (hz1:size2 b.frames≤1099511627776) (hz2:b.state.length≤1099511627776) (hz3:size2 b.saved≤1099511627776) :
  Calls Tryz.prog 19 #[.agg (bdArr b s1),.agg (bdArr b s2)] w fun e w'=>e = .returned (.bool true)∧Below w.heap.size w w':=by
 obtain ⟨d,fs,st,ph,r,sv⟩:=b
 obtain ⟨A1,n1,c1,A2,n2,c2,A3,n3,c3⟩:=s1
 obtain ⟨B1,m1,k1,B2,m2,k2,B3,m3,k3⟩:=s2
 have HB0:=Lib.hid (below_new (below_new (Below.refl w.heap.size w) (.cells (bdArr ⟨d,fs,st,ph,r,sv⟩ ⟨A1,n1,c1,A2,n2,c2,A3,n3,c3⟩) 31)) (.cells (bdArr ⟨d,fs,st,ph,r,sv⟩ ⟨B1,m1,k1,B2,m2,k2,B3,m3,k3⟩) 31))
 have H1:=Lib.hid h1
 have H2:=Lib.hid h2
 clear h1 h2
 go_enter Tryz.func19,Tryz.ntmps19
 go_wp2_with fail
 refine (sameRows_any A1 B1 n1 m1 c1 k1 fs fs _ (H1.out.frames.below HB0.out) (H2.out.frames.below HB0.out) hz1).mono ?_
 rintro e w1 ⟨he,b1⟩
 rw [show decide (fs=fs)=true from decide_eq_true rfl] at he
 subst he
 have HB1:=Lib.hid (below_tr HB0.out b1)
 have hs1:=b1.size
 have HBW:=Lib.hid b1
 obtain ⟨hcc,hff⟩:=bcell b1
 clear b1
 go_wp2_with fail
 refine (sameInts_any A2 B2 n2 m2 c2 k2 st st _ (H1.out.state.below HB1.out) (H2.out.state.below HB1.out) (by have:=H1.out.state.1;simp only at this hz2;omega)).mono ?_
 rintro e w2 ⟨he,b2⟩
 rw [show decide (st=st)=true from decide_eq_true rfl] at he
 subst he
 have HB2:=Lib.hid (below_tr HB1.out b2)
 have hs2:=b2.size
 clear hcc hff
 obtain ⟨hcc,hff⟩:=bcell (below_tr HBW.out b2)
 clear b2
 go_wp2_with fail
 refine (sameRows_any A3 B3 n3 m3 c3 k3 sv sv _ (H1.out.saved.below HB2.out) (H2.out.saved.below HB2.out) hz3).mono ?_
 rintro e w3 ⟨he,b3⟩
 rw [show decide (sv=sv)=true from decide_eq_true rfl] at he
 subst he
 have HB3:=Lib.hid (below_tr HB2.out b3)
 clear b3
 go_wp2_with fail
 go_ret
 exact ⟨rfl,HB3.out⟩
end Go.Proofs.YtbnfdhidgdfbeaaGreat
