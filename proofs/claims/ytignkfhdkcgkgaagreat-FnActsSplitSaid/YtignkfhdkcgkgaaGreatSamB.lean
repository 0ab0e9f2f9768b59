/- The laws' own comparing of rows and of rows of rows. -/
import Derived.Test.YtignkfhdkcgkgaaGreatBk
namespace Go.Proofs.YtignkfhdkcgkgaaGreat
set_option maxHeartbeats 4000000
set_option maxRecDepth 100000
open Go.RowKit
theorem mX (A B:Option Addr) (n m c d:Nat) (xs ys:List Int) (w:World) (hA:bN w A n xs) (hB:bN w B m ys) (hn:n<=1099511627776) :
  Calls Tryz.prog 13 #[.slice A n c,.slice B m d] w fun e w'=>e = .returned (.bool (decide (xs=ys)))/\Below w.heap.size w w':=by
 obtain ⟨hx,hA⟩:=hA
 obtain ⟨hy,hB⟩:=hB
 by_cases hnm:n=m
 ·subst hnm
  have HX:=Hd hx
  have HY:=Hd hy
  clear hx hy
  go_enter Tryz.func13,Tryz.ntmps13
  go_wp2_with fail
  go_loopw [5] (fun i wr=>∃k nq:Nat,k<=n/\i = .int .i64 k/\wr=w.drewN nq/\xs.take k=ys.take k) (fun i _=>n - (intOf i).toNat)
  case atStart=>exact ⟨0,0,Nat.zero_le _,rfl,rfl,rfl⟩
  case round =>
   obtain ⟨k,nq,hk,rfl,rfl,ht⟩:=hrel
   have HT:=Hd ht
   clear ht
   by_cases hlt:k<n
   ·obtain ⟨b,o,rfl,hb,hc⟩:=hA (by omega)
    obtain ⟨b',o',rfl,hb',hc'⟩:=hB (by omega)
    have hck:=hc k hlt
    have hck':=hc' k hlt
    have hi0:(0:Int)<=(k:Int):=by omega
    have hi1:(k:Int)<(n:Int):=by omega
    clear hc hc'
    go_wp2
    go_quiet (fail)
    go_wp2
    ·have hne:xs[k]?.getD 0≠ys[k]?.getD 0:=bne_iff_ne.1 (by assumption)
     go_ret
     exact ⟨aI (by
      have:xs≠ys:=by rintro rfl;exact hne rfl
      simp [this]),ai (ai (Below.refl _ _) _) _⟩
    ·have he:xs[k]?.getD 0=ys[k]?.getD 0:=by simpa using ‹(xs[k]?.getD 0 != ys[k]?.getD 0)=false›
     go_roundw
     case rel=>exact ⟨k+1,_,by omega,by go_num,rfl,BK HT.out (by rw [HX.out];exact hlt) (by rw [HY.out];exact hlt) he⟩
     case measure=>simp [intOf];omega
   ·have hkn:k=n:=by omega
    subst hkn
    go_wp2
    go_ret
    exact ⟨aI (by
     have:=HT.out
     rw [List.take_of_length_le (by rw [HX.out];exact Nat.le_refl _),List.take_of_length_le (by rw [HY.out];exact Nat.le_refl _)] at this
     simp [this]),ai (Below.refl _ _) _⟩
 ·have hne:((n:Int)==(m:Int))=false:=by simp;omega
  have hne':((n:Int) != (m:Int))=true:=by simp;omega
  go_enter Tryz.func13,Tryz.ntmps13
  go_wp2_with fail
  go_ret
  exact ⟨aI (by
   have:xs≠ys:=by rintro rfl;omega
   simp [this]),Below.refl _ _⟩
theorem Et {xss yss:List (List Int)} {k:Nat} (h:xss.take k=yss.take k) (hx:k<xss.length) (hy:k<yss.length) (he:xss[k]?.getD []=yss[k]?.getD []):xss.take (k+1)=yss.take (k+1):=by
 rw [List.take_succ_eq_append_getElem hx,List.take_succ_eq_append_getElem hy,h]
 simp [hx,hy] at he
 rw [he]
theorem uo (A B:Option Addr) (n m c d:Nat) (xss yss:List (List Int)) (w:World) (hA:eD w A n xss) (hB:eD w B m yss) (hz:bF xss<=1099511627776) :
  Calls Tryz.prog 44 #[.slice A n c,.slice B m d] w fun e w'=>e = .returned (.bool (decide (xss=yss)))/\Below w.heap.size w w':=by
 obtain ⟨hx,hA⟩:=hA
 obtain ⟨hy,hB⟩:=hB
 obtain ⟨hn,hrow⟩:n<=1099511627776/\∀j:Nat,(xss[j]?.getD []).length<=1099511627776:=gU hx hz
 by_cases hnm:n=m
 ·subst hnm
  have HX:=Hd hx
  have HY:=Hd hy
  have HR:=Hd hrow
  clear hx hy hrow
  go_enter Tryz.func44,Tryz.ntmps44
  go_wp2_with fail
  go_loopw [5] (fun i wr=>∃k:Nat,k<=n/\i = .int .i64 k/\Below w.heap.size w wr/\xss.take k=yss.take k) (fun i _=>n - (intOf i).toNat)
  case atStart=>exact ⟨0,Nat.zero_le _,rfl,Below.refl _ _,rfl⟩
  case round =>
   obtain ⟨k,hk,rfl,hbe,ht⟩:=hrel
   have HT:=Hd ht
   clear ht
   by_cases hlt:k<n
   ·obtain ⟨b,o,rfl,hb,hc⟩:=hA (by omega)
    obtain ⟨b',o',rfl,hb',hc'⟩:=hB (by omega)
    obtain ⟨A1,m1,c1,hck,hI1⟩:=hc k hlt
    obtain ⟨A2,m2,c2,hck',hI2⟩:=hc' k hlt
    rw [←hbe.cell (p:=⟨b,o+k,none⟩) hb] at hck
    rw [←hbe.cell (p:=⟨b',o'+k,none⟩) hb'] at hck'
    have J1:=Hd (hI1.below hbe).drewd
    have J2:=Hd (hI2.below hbe).drewd
    have hm1:m1<=1099511627776:=by have:=HR.out k;have:=hI1.1;omega
    have hi0:(0:Int)<=(k:Int):=by omega
    have hi1:(k:Int)<(n:Int):=by omega
    have HE:=Hd hbe.drew
    clear hc hc' hI1 hI2 hbe
    cases hq:decide (xss[k]?.getD []=yss[k]?.getD []) with
    | true =>
     have HQ:=Hd (of_decide_eq_true hq)
     have HCL:Hid (∀w':World,bN w' A1 m1 (xss[k]?.getD [])→bN w' A2 m2 (yss[k]?.getD [])→Calls Tryz.prog 13 #[.slice A1 m1 c1,.slice A2 m2 c2] w' fun e w''=>e = .returned (.bool true)/\Below w'.heap.size w' w''):=fun w' h1 h2=>by
      have h:=mX A1 A2 m1 m2 c1 c2 _ _ w' h1 h2 hm1
      rwa [hq] at h
     clear hq
     go_wp2_with fail
     go_region_held3 (fun w'=>w'.cell? ⟨b,o+k,none⟩=some (.slice A1 m1 c1)/\w'.cell? ⟨b',o'+k,none⟩=some (.slice A2 m2 c2)/\Below w.heap.size w w')
      (first|exact ⟨hck,hck',HE.out⟩|exact ⟨(b3.cell (p:=⟨b,o+k,none⟩) (Nat.lt_of_lt_of_le hb HE.out.size)).trans hck,(b3.cell (p:=⟨b',o'+k,none⟩) (Nat.lt_of_lt_of_le hb' HE.out.size)).trans hck',aA HE.out b3⟩)
      (first|(go_at_call 13;refine (HCL.out _ J1.out J2.out).mono ?_;rintro e w3 ⟨rfl,b3⟩))
     rename_i hH
     obtain ⟨_,_,hE3⟩:=hH
     go_wp2_with fail
     go_roundw
     case rel=>exact ⟨k+1,by omega,by go_num,hE3,Et HT.out (by rw [HX.out];exact hlt) (by rw [HY.out];exact hlt) HQ.out⟩
     case measure=>simp [intOf];omega
    | false =>
     have HQ:=Hd (of_decide_eq_false hq)
     have HCL:Hid (∀w':World,bN w' A1 m1 (xss[k]?.getD [])→bN w' A2 m2 (yss[k]?.getD [])→Calls Tryz.prog 13 #[.slice A1 m1 c1,.slice A2 m2 c2] w' fun e w''=>e = .returned (.bool false)/\Below w'.heap.size w' w''):=fun w' h1 h2=>by
      have h:=mX A1 A2 m1 m2 c1 c2 _ _ w' h1 h2 hm1
      rwa [hq] at h
     clear hq
     go_wp2_with fail
     go_region_held3 (fun w'=>w'.cell? ⟨b,o+k,none⟩=some (.slice A1 m1 c1)/\w'.cell? ⟨b',o'+k,none⟩=some (.slice A2 m2 c2)/\Below w.heap.size w w')
      (first|exact ⟨hck,hck',HE.out⟩|exact ⟨(b3.cell (p:=⟨b,o+k,none⟩) (Nat.lt_of_lt_of_le hb HE.out.size)).trans hck,(b3.cell (p:=⟨b',o'+k,none⟩) (Nat.lt_of_lt_of_le hb' HE.out.size)).trans hck',aA HE.out b3⟩)
      (first|(go_at_call 13;refine (HCL.out _ J1.out J2.out).mono ?_;rintro e w3 ⟨rfl,b3⟩))
     rename_i hH
     obtain ⟨_,_,hE3⟩:=hH
     go_wp2_with fail
     go_ret
     exact ⟨aI (decide_eq_false (by rintro rfl;exact HQ.out rfl)).symm,hE3⟩
   ·have hkn:k=n:=by omega
    subst hkn
    go_wp2_with fail
    go_ret
    exact ⟨aI (decide_eq_true (by
     have:=HT.out
     rwa [List.take_of_length_le (by rw [HX.out];exact Nat.le_refl _),List.take_of_length_le (by rw [HY.out];exact Nat.le_refl _)] at this)).symm,hbe⟩
 ·have hne:((n:Int)==(m:Int))=false:=by simp;omega
  have hne':((n:Int) != (m:Int))=true:=by simp;omega
  go_enter Tryz.func44,Tryz.ntmps44
  go_wp2_with fail
  go_ret
  exact ⟨aI (decide_eq_false (by rintro rfl;omega)).symm,Below.refl _ _⟩
theorem yC (b:Bd) (s1 s2:Sl3) (w:World) (h1:bT w b s1) (h2:bT w b s2) (hz1:bF b.frames<=1099511627776) (hz2:b.state.length<=1099511627776) (hz3:bF b.saved<=1099511627776) :
  Calls Tryz.prog 12 #[.agg (aD b s1),.agg (aD b s2)] w fun e w'=>e = .returned (.bool true)/\Below w.heap.size w w':=by
 obtain ⟨d,fs,st,ph,r,sv⟩:=b
 obtain ⟨A1,n1,c1,A2,n2,c2,A3,n3,c3⟩:=s1
 obtain ⟨B1,m1,k1,B2,m2,k2,B3,m3,k3⟩:=s2
 have HB0:=Hd (aB (aB (Below.refl w.heap.size w) (.cells (aD ⟨d,fs,st,ph,r,sv⟩ ⟨A1,n1,c1,A2,n2,c2,A3,n3,c3⟩) 31)) (.cells (aD ⟨d,fs,st,ph,r,sv⟩ ⟨B1,m1,k1,B2,m2,k2,B3,m3,k3⟩) 31))
 have H1:=Hd h1
 have H2:=Hd h2
 clear h1 h2
 go_enter Tryz.func12,Tryz.ntmps12
 go_wp2_with fail
 refine (uo A1 B1 n1 m1 c1 k1 fs fs _ (H1.out.frames.below HB0.out) (H2.out.frames.below HB0.out) hz1).mono ?_
 rintro e w1 ⟨he,b1⟩
 rw [show decide (fs=fs)=true from decide_eq_true rfl] at he
 subst he
 have HB1:=Hd (aA HB0.out b1)
 have hs1:=b1.size
 have HBW:=Hd b1
 obtain ⟨hcc,hff⟩:=aQ b1
 clear b1
 go_wp2_with fail
 refine (mX A2 B2 n2 m2 c2 k2 st st _ (H1.out.state.below HB1.out) (H2.out.state.below HB1.out) (by have:=H1.out.state.1;simp only at this hz2;omega)).mono ?_
 rintro e w2 ⟨he,b2⟩
 rw [show decide (st=st)=true from decide_eq_true rfl] at he
 subst he
 have HB2:=Hd (aA HB1.out b2)
 have hs2:=b2.size
 clear hcc hff
 obtain ⟨hcc,hff⟩:=aQ (aA HBW.out b2)
 clear b2
 go_wp2_with fail
 refine (uo A3 B3 n3 m3 c3 k3 sv sv _ (H1.out.saved.below HB2.out) (H2.out.saved.below HB2.out) hz3).mono ?_
 rintro e w3 ⟨he,b3⟩
 rw [show decide (sv=sv)=true from decide_eq_true rfl] at he
 subst he
 have HB3:=Hd (aA HB2.out b3)
 clear b3
 go_wp2_with fail
 go_ret
 exact ⟨rfl,HB3.out⟩
end Go.Proofs.YtignkfhdkcgkgaaGreat
