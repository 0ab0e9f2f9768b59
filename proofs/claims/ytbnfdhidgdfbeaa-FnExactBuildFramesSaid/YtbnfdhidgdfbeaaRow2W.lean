/- The laws' helpers on slices of slices of integers. -/
import Derived.Test.YtbnfdhidgdfbeaaRow2
namespace Go.Proofs.Ytbnfdhidgdfbeaa
set_option maxRecDepth 100000
open Go.RowKit

theorem slc_info:(Try.prog.info? 44).map (fun i=>(i.zero,i.size,i.bytes))=some (some (.slice none 0 0),1,24):=by kernel_rfl

/-! ### sizes -/
def sizeTo (xss:List (List Int)):Nat→Nat
 | 0=>0
 | k+1=>sizeTo xss k+(xss[k]?.getD []).length
def size2 (xss:List (List Int)):Nat:=xss.length+sizeTo xss xss.length
theorem sizeTo_mono (xss:List (List Int)) {j k:Nat} (h:j<k):sizeTo xss j+(xss[j]?.getD []).length≤sizeTo xss k:=by
 induction k with
 | zero=>omega
 | succ k ih =>
  rcases Nat.lt_or_ge j k with h1|h1
  ·have:=ih h1
   simp only [sizeTo]
   omega
  ·obtain rfl:j=k:=by omega
   exact Nat.le_refl _
theorem sizeTo_le (xss:List (List Int)) {j k:Nat} (h:j≤k):sizeTo xss j≤sizeTo xss k:=by
 rcases Nat.lt_or_ge j k with h1|h1
 ·have:=sizeTo_mono xss h1;omega
 ·obtain rfl:j=k:=by omega
  exact Nat.le_refl _
theorem size2_row {xss:List (List Int)} {j:Nat} (h:j<xss.length):(xss[j]?.getD []).length≤size2 xss:=by
 have:=sizeTo_mono xss h
 unfold size2
 omega
theorem size2_bd {xss:List (List Int)} {n M:Nat} (hx:xss.length=n) (h:size2 xss≤M):n≤M∧∀j:Nat,(xss[j]?.getD []).length≤M:=by
 refine ⟨by unfold size2 at h;omega,fun j=>?_⟩
 rcases Nat.lt_or_ge j xss.length with h1|h1
 ·exact Nat.le_trans (size2_row h1) h
 ·simp [List.getElem?_eq_none h1]
def leftOf (L:Int) (s:Nat):Int:=if (s:Int)≤L then L - s else -1
theorem leftOf_neg {L:Int} {s:Nat} (h:¬(s:Int)≤L):leftOf L s=-1:=if_neg h
theorem leftOf_pos {L:Int} {s:Nat} (h:(s:Int)≤L):leftOf L s=L - s:=if_pos h

set_option maxHeartbeats 400000 in
theorem szIntS_any (A:Option Addr) (n c:Nat) (L:Int) (w:World) (hL:0≤L) (hL':L≤1099511627776) (hn:n≤9223372036854775807) :
  Calls Try.prog 83 #[.slice A n c,.int .i64 L] w fun e w'=>e = .returned (.int .i64 (leftOf L n))∧w=w':=by
 by_cases h:(n:Int)≤L
 ·have hd:decide (L - (n:Int)<0)=false:=by simp;omega
  have hl:=Lib.hid (leftOf_pos h)
  go_enter Try.func83,Try.ntmps83
  go_wp2_with fail
  go_ret
  exact ⟨ret_int hl.out.symm,rfl⟩
 ·have hd:decide (L - (n:Int)<0)=true:=by simp;omega
  have hl:=Lib.hid (leftOf_neg h)
  go_enter Try.func83,Try.ntmps83
  go_wp2_with fail
  go_ret
  exact ⟨ret_int hl.out.symm,rfl⟩

/-! ### comparing -/
set_option maxHeartbeats 1000000 in
theorem eqIntSS_same (A B:Option Addr) (n m c d:Nat) (xss:List (List Int)) (w:World) (hA:Rows2 w A n xss) (hB:Rows2 w B m xss) (hz:size2 xss≤1099511627776) :
  Calls Try.prog 14 #[.slice A n c,.slice B m d] w fun e w'=>e = .returned (.bool true)∧Below w.heap.size w w':=by
 obtain ⟨hx,hA⟩:=hA
 obtain ⟨hy,hB⟩:=hB
 obtain ⟨hn,hrow⟩:n≤1099511627776∧∀j:Nat,(xss[j]?.getD []).length≤1099511627776:=size2_bd hx hz
 obtain rfl:m=n:=by omega
 have HX:=Lib.hid hx
 have HR:=Lib.hid hrow
 clear hx hy hrow
 go_enter Try.func14,Try.ntmps14
 go_wp2_with fail
 go_loopw [5] (fun i wr=>∃k:Nat,k≤m∧i = .int .i64 k∧Below w.heap.size w wr) (fun i _=>m - (intOf i).toNat)
 case atStart=>exact ⟨0,Nat.zero_le _,rfl,Below.refl _ _⟩
 case round =>
  obtain ⟨k,hk,rfl,hbe⟩:=hrel
  by_cases hlt:k<m
  ·obtain ⟨b,o,rfl,hb,hc⟩:=hA (by omega)
   obtain ⟨b',o',rfl,hb',hc'⟩:=hB (by omega)
   obtain ⟨A1,m1,c1,hck,hI1⟩:=hc k hlt
   obtain ⟨A2,m2,c2,hck',hI2⟩:=hc' k hlt
   rw [←hbe.cell (p:=⟨b,o+k,none⟩) hb] at hck
   rw [←hbe.cell (p:=⟨b',o'+k,none⟩) hb'] at hck'
   have J1:=Lib.hid (hI1.below hbe).drewd
   have J2:=Lib.hid (hI2.below hbe).drewd
   have hm1:m1≤1099511627776:=by have:=HR.out k;have:=hI1.1;omega
   have hi0:(0:Int)≤(k:Int):=by omega
   have hi1:(k:Int)<(m:Int):=by omega
   have HE:=Lib.hid hbe.drew
   clear hc hc' hI1 hI2 hbe
   go_wp2_with fail
   go_region_held3 (fun w'=>w'.cell? ⟨b,o+k,none⟩=some (.slice A1 m1 c1)∧w'.cell? ⟨b',o'+k,none⟩=some (.slice A2 m2 c2)∧Below w.heap.size w w')
    (first|exact ⟨hck,hck',HE.out⟩|exact ⟨(b3.cell (p:=⟨b,o+k,none⟩) (Nat.lt_of_lt_of_le hb HE.out.size)).trans hck,(b3.cell (p:=⟨b',o'+k,none⟩) (Nat.lt_of_lt_of_le hb' HE.out.size)).trans hck',below_tr HE.out b3⟩)
    (first|(go_at_call 49;refine (eqIntS_same A1 A2 m1 m2 c1 c2 _ _ J1.out J2.out hm1).mono ?_;rintro e w3 ⟨rfl,b3⟩))
   rename_i hH
   obtain ⟨_,_,hE3⟩:=hH
   go_wp2_with fail
   go_roundw
   case rel=>exact ⟨k+1,by omega,by go_num,hE3⟩
   case measure=>simp [intOf];omega
  ·have hkn:k=m:=by omega
   subst hkn
   go_wp2_with fail
   go_ret
   exact ⟨rfl,hbe⟩

/-! ### copying -/
def filled (vs:List SV) (n:Nat):Array Value:=(vs.map SV.val++List.replicate (n - vs.length) (Value.slice none 0 0)).toArray
theorem filled_full {vs:List SV} {n:Nat} (h:vs.length=n):(filled vs n).toList=vs.map SV.val:=by
 simp [filled,h]
theorem filled_size {vs:List SV} {n:Nat} (h:vs.length≤n):(filled vs n).size=n:=by
 simp [filled];omega
theorem Own2.made {w:World} {lo hi g n:Nat} {vs:List SV} {xss:List (List Int)} (hh:w.heap[g]?=some (.cells (filled vs n) 44 (0,0))) (hb:lo≤g) (hg:g<hi) (hn:n≤maxLen) (hl:vs.length=n) (hi':Inner lo hi w vs xss):Own2 lo hi w (some ⟨g,0,none⟩) n n xss :=
 ⟨vs,⟨by simp [hl],.inr ⟨g,n,_,rfl,hb,hh,Nat.le_refl _,hn,by rw [filled_size (by omega)];omega,by rw [filled_full hl,List.take_of_length_le (by simp [hl])]⟩⟩,by rintro a ⟨⟩;exact hg,hi'⟩
/-! ### marking -/
theorem Own2.rowX {lo hi:Nat} {w:World} {A:Option Addr} {n c k:Nat} {yss:List (List Int)} (h:Own2 lo hi w A n c yss) (hk:k<n) :
  ∃b A1 m1 c1,A=some ⟨b,0,none⟩∧w.cell? ⟨b,k,none⟩=some (.slice A1 m1 c1)∧w.frozen? ⟨b,k,none⟩=false∧Own lo w A1 m1 c1 (yss[k]?.getD [])∧Lies A1 lo hi ∧
   (∀w' zs,w.grownBy w' (A1.map (·.block))→Own lo w' A1 m1 c1 zs→Own2 lo hi w' A n c (yss.set k zs))∧(∀a,A1=some a→a.block≠b)∧lo≤b∧b<hi∧b<w.heap.size:=by
 have hlen:=h.len
 obtain ⟨vs,h1,h2,h3⟩:=h
 have hvl:vs.length=n:=by rw [h3.1];exact hlen
 have hvk:vs[k]?=some (vs[k]'(by omega)):=List.getElem?_eq_getElem (by omega)
 generalize vs[k]'(by omega)=v at hvk
 have hr:=h1.2
 rcases hr with ⟨_,h0⟩|⟨g,cap,cur,hv,hb,hh,hnc,hcap,hsz,ht⟩
 ·omega
 ·injection hv with hA
  subst hA
  obtain ⟨hok,hhi⟩:=h3.2.1 k v hvk
  have hcur:cur[k]?=some (SV.val v):=by
   have hx:(vs.map SV.val)[k]?=some (SV.val v):=by rw [List.getElem?_map,hvk];rfl
   rw [←ht,List.getElem?_take] at hx
   simp only [Nat.mul_one] at hx
   rw [if_pos hk,Array.getElem?_toList] at hx
   exact hx
  have hne:∀a,v.1=some a→a.block≠g:=by
   rintro a ha rfl
   rcases hok.2 with ⟨hn,_⟩|⟨g',cap',cur',hv',_,hh',_⟩
   ·injection hn with hn _ _
    rw [hn] at ha
    cases ha
   ·injection hv' with hA' _ _
    rw [hA'] at ha
    injection ha with ha
    subst ha
    rw [hh] at hh'
    injection hh' with hh'
    injection hh' with _ hty
    exact absurd hty (by decide)
  refine ⟨g,v.1,v.2.1,v.2.2,rfl,by unfold World.cell?;rw [hh];exact hcur,by unfold World.frozen?;rw [hh];simp,hok,fun a ha=>⟨(hok.lt a ha).1,hhi a ha⟩,fun w' zs hg ho=>?_,hne,hb,h2 _ rfl,heap_lt0 hh⟩
  refine ⟨vs,ownsRow_block h1 fun a ha=>?_,h2,by rw [List.length_set];exact h3.1,fun j u hu=>?_,h3.2.2⟩
  ·injection ha with ha
   subst ha
   refine hg.block g (heap_lt0 hh) ?_
   cases hv1:v.1 with
   | none=>simp
   | some a=>simpa using fun e=>hne a hv1 e.symm
  ·obtain ⟨q1,q2⟩:=h3.2.1 j u hu
   refine ⟨?_,q2⟩
   by_cases hjk:j=k
   ·subst hjk
    rw [hvk] at hu
    injection hu with hu
    subst hu
    rw [List.getElem?_set_self (by omega)]
    exact ho
   ·rw [List.getElem?_set_ne (by omega)]
    refine ownsRow_block q1 fun a ha=>hg.block _ (q1.lt a ha).2 ?_
    cases hv1:v.1 with
    | none=>simp
    | some a' =>
     simp only [Option.map_some,ne_eq,Option.some.injEq]
     rcases Nat.lt_or_gt_of_ne hjk with hjk|hjk
     ·exact fun e=>h3.2.2 j k u v hjk hu hvk a a' ha hv1 e
     ·exact fun e=>h3.2.2 k j v u hjk hvk hu a' a hv1 ha e.symm

theorem Own2.row {lo hi:Nat} {w:World} {A:Option Addr} {n c k:Nat} {yss:List (List Int)} (h:Own2 lo hi w A n c yss) (hk:k<n) :
  ∃b A1 m1 c1,A=some ⟨b,0,none⟩∧w.cell? ⟨b,k,none⟩=some (.slice A1 m1 c1)∧w.frozen? ⟨b,k,none⟩=false∧Own lo w A1 m1 c1 (yss[k]?.getD [])∧Lies A1 lo hi ∧
   ∀w' zs,w.grownBy w' (A1.map (·.block))→Own lo w' A1 m1 c1 zs→Own2 lo hi w' A n c (yss.set k zs):=by
 obtain ⟨b,A1,m1,c1,h1,h2,h3,h4,h5,h6,_⟩:=h.rowX hk
 exact ⟨b,A1,m1,c1,h1,h2,h3,h4,h5,h6⟩

def mark2 (k0:Int) (xss:List (List Int)) (k:Nat):List (List Int) :=
 (List.range xss.length).map fun j=>if j<k then iota (k0+sizeTo xss j) (xss[j]?.getD []).length else xss[j]?.getD []
def iota2 (k0:Int) (xss:List (List Int)):List (List Int):=mark2 k0 xss xss.length
theorem mark2_get {k0:Int} {xss:List (List Int)} {k j:Nat} (h:j<xss.length):(mark2 k0 xss k)[j]?.getD []=if j<k then iota (k0+sizeTo xss j) (xss[j]?.getD []).length else xss[j]?.getD []:=by
 simp [mark2,h]
theorem mark2_zero (k0:Int) (xss:List (List Int)):mark2 k0 xss 0=xss:=by
 apply List.ext_getElem?
 intro i
 simp only [mark2,Nat.not_lt_zero,if_false,List.getElem?_map]
 rcases Nat.lt_or_ge i xss.length with h|h
 ·simp [h]
 ·simp [h]
theorem mark2_set {k0:Int} {xss:List (List Int)} {k:Nat} (h:k<xss.length):(mark2 k0 xss k).set k (iota (k0+sizeTo xss k) (xss[k]?.getD []).length)=mark2 k0 xss (k+1):=by
 apply List.ext_getElem?
 intro i
 by_cases hi:i=k
 ·subst hi
  rw [List.getElem?_set_self (by simp [mark2,h])]
  simp [mark2,h]
 ·rw [List.getElem?_set_ne (by omega)]
  simp only [mark2,List.getElem?_map]
  rcases Nat.lt_or_ge i xss.length with h1|h1
  ·have e:(i<k+1)=(i<k):=propext (by omega)
   simp [h1,e]
  ·simp [h1]
theorem iota_length (k0:Int) (n:Nat):(iota k0 n).length=n:=by simp [iota]
set_option maxHeartbeats 1000000 in
theorem markIntSS_chg (lo hi:Nat) (A:Option Addr) (n c:Nat) (xss:List (List Int)) (k0:Int) (w:World) (h:Own2 lo hi w A n c xss) (hk0:0≤k0) (hk1:k0≤1099511627776) (hz:size2 xss≤1099511627776) :
  Calls Try.prog 17 #[.slice A n c,.int .i64 k0] w fun e w'=>e = .returned (.int .i64 (k0+sizeTo xss n))∧Own2 lo hi w' A n c (iota2 k0 xss)∧Chg lo hi w w':=by
 have hx:=h.len
 obtain ⟨hn,hrow⟩:=size2_bd hx hz
 have HX:=Lib.hid hx
 have HR:=Lib.hid hrow
 have HO:=Lib.hid h
 clear hx hrow h
 go_enter Try.func17,Try.ntmps17
 go_wp2_with fail
 go_loopw [1,5] (fun v i wr=>∃k:Nat,k≤n∧i = .int .i64 k∧v = .int .i64 (k0+sizeTo xss k)∧Own2 lo hi wr A n c (mark2 k0 xss k)∧Chg lo hi w wr) (fun _ i _=>n - (intOf i).toNat)
 case atStart=>exact ⟨0,Nat.zero_le _,rfl,by simp [sizeTo],by rw [mark2_zero];exact HO.out,Chg.refl _ _ _⟩
 case round =>
  obtain ⟨k,hk,rfl,rfl,ho,hg⟩:=hrel
  have HG:=Lib.hid hg
  clear hg
  by_cases hlt:k<n
  ·obtain ⟨b,A1,m1,c1,rfl,hck,_,o1,l1,hup⟩:=ho.row hlt
   rw [mark2_get (by rw [HX.out];exact hlt),if_neg (by omega)] at o1
   have hm:m1=(xss[k]?.getD []).length:=o1.len.symm
   have hs:sizeTo xss (k+1)=sizeTo xss k+m1:=by rw [sizeTo,hm]
   have hfit:sizeTo xss (k+1)≤size2 xss:=by have:=sizeTo_le xss (j:=k+1) (k:=xss.length) (by rw [HX.out];omega);unfold size2;omega
   have HS:=Lib.hid hs
   have O1:=Lib.hid o1
   have L1:=Lib.hid l1
   have HM:=Lib.hid hm
   have HUP:=Lib.hid hup
   have hb1:sizeTo xss k+m1≤1099511627776:=by omega
   clear ho o1 l1 hup hm hs hfit
   go_wp2_with fail
   refine (markIntS_any lo A1 m1 c1 _ _ _ O1.out (by omega) (by omega) (by omega)).mono ?_
   rintro e w2 ⟨rfl,o2,g2⟩
   have O2:=Lib.hid (HUP.out w2 _ g2 o2)
   have G2:=Lib.hid (HG.out.trans (chg_of_grown g2 L1.out))
   clear o2 g2 hck
   go_wp2_with fail
   go_roundw
   case rel=>exact ⟨k+1,by omega,by go_num,by rw [HS.out];go_num,by rw [←mark2_set (by rw [HX.out];exact hlt),←HM.out];exact O2.out,G2.out⟩
   case measure=>simp [intOf];omega
  ·have hkn:k=n:=by omega
   subst hkn
   go_wp2_with fail
   go_ret
   exact ⟨rfl,by rw [iota2,HX.out];exact ho,HG.out⟩

set_option maxHeartbeats 1000000 in
theorem heldIntSS_any (A:Option Addr) (n c:Nat) (yss:List (List Int)) (k0:Int) (w:World) {xss:List (List Int)} (h:Rows2 w A n yss) (hy:yss=iota2 k0 xss) (hk0:0≤k0) (hk1:k0≤1099511627776) (hz:size2 xss≤1099511627776) :
  Calls Try.prog 18 #[.slice A n c,.int .i64 k0] w fun e w'=>e = .returned (.int .i64 (k0+sizeTo xss n))∧Below w.heap.size w w':=by
 obtain ⟨hl,hA⟩:=h
 have hx:xss.length=n:=by rw [←hl,hy];simp [iota2,mark2]
 obtain ⟨hn,hrow⟩:=size2_bd hx hz
 have HX:=Lib.hid hx
 have HR:=Lib.hid hrow
 have HY:=Lib.hid hy
 clear hx hrow hy hl
 go_enter Try.func18,Try.ntmps18
 go_wp2_with fail
 go_loopw [1,5] (fun v i wr=>∃k:Nat,k≤n∧i = .int .i64 k∧v = .int .i64 (k0+sizeTo xss k)∧Below w.heap.size w wr) (fun _ i _=>n - (intOf i).toNat)
 case atStart=>exact ⟨0,Nat.zero_le _,rfl,by simp [sizeTo],Below.refl _ _⟩
 case round =>
  obtain ⟨k,hk,rfl,rfl,hbe⟩:=hrel
  by_cases hlt:k<n
  ·obtain ⟨b,o,rfl,hb,hc⟩:=hA (by omega)
   obtain ⟨A1,m1,c1,hck,hI1⟩:=hc k hlt
   rw [←hbe.cell (p:=⟨b,o+k,none⟩) hb] at hck
   have hrowk:yss[k]?.getD []=iota (k0+sizeTo xss k) (xss[k]?.getD []).length:=by
    rw [HY.out,iota2,mark2_get (by rw [HX.out];exact hlt),if_pos (by rw [HX.out];exact hlt)]
   have hm:m1=(xss[k]?.getD []).length:=by rw [←hI1.1,hrowk,iota_length]
   rw [hrowk,←hm] at hI1
   have J1:=Lib.hid (hI1.below hbe)
   have hs:sizeTo xss (k+1)=sizeTo xss k+m1:=by rw [sizeTo,hm]
   have hfit:sizeTo xss (k+1)≤size2 xss:=by have:=sizeTo_le xss (j:=k+1) (k:=xss.length) (by rw [HX.out];omega);unfold size2;omega
   have HS:=Lib.hid hs
   have HE:=Lib.hid hbe
   have hb1:sizeTo xss k+m1≤1099511627776:=by omega
   clear hc hI1 hbe hrowk hm hs hfit
   go_wp2_with fail
   refine (heldIntS_any A1 m1 c1 _ _ _ J1.out rfl (by omega) (by omega) (by omega)).mono ?_
   rintro e w2 ⟨rfl,b2⟩
   have B2:=Lib.hid (below_tr HE.out b2)
   clear b2 hck
   go_wp2_with fail
   go_roundw
   case rel=>exact ⟨k+1,by omega,by go_num,by rw [HS.out];go_num,B2.out⟩
   case measure=>simp [intOf];omega
  ·have hkn:k=n:=by omega
   subst hkn
   go_wp2_with fail
   go_ret
   exact ⟨rfl,hbe⟩

/-! ### a slice of slices among the arguments -/
section
open Go.ChangeShapes Go.WideShapes Go.ChangeAt
variable {H:Type} {enc:TypeId × Value→H} {W:World} {b0 base:Nat} {held:Bool}
end
end Go.Proofs.Ytbnfdhidgdfbeaa
