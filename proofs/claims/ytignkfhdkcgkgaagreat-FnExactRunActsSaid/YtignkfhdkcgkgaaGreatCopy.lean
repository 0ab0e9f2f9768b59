/- How the laws' arguments read: structs of integers, slices of integers, bytes, slices of slices. -/
import Derived.ChangeOld
import Derived.Deep.Matrix
import Derived.Lib.SmallJoins
import Derived.OpenShut
import Derived.ProofKit
import Derived.ShutString
import Derived.Test.YtignkfhdkcgkgaaGreatHar
namespace Go.Proofs.YtignkfhdkcgkgaaGreat
set_option maxHeartbeats 1000000
set_option maxRecDepth 100000
open Go.RowKit Go.ChangeShapes Go.WideShapes Go.ChangeAt
theorem Tryz.own:ownKnob Tryz.prog.godebug=none:=by kernel_rfl
theorem Tryz.laidOut:laidOutB Tryz.prog=true:=by kernel_rfl
def Wf (a:Int):Prop:=-9223372036854775808<=a/\a<=9223372036854775807
theorem IE {a:Int} (h:(Lit.int .i64 a).wf=true):Wf a:=by
 simp [Lit.wf,IntKind.min,IntKind.max,IntKind.signed,IntKind.bits] at h
 exact h
def Dev.wf (d:Dev):Prop:=Wf d.W/\Wf d.H/\Wf d.T/\Wf d.R
def Reg.wf (d:Reg):Prop:=Wf d.X0/\Wf d.Y0/\Wf d.X1/\Wf d.Y1
section
variable {H:Type} {enc:TypeId × Value→H} {W:World} {b0 base:Nat} {spare:Nat→Bool} {held:Bool}
theorem vI {w:World} {a:Addr} {v:Value} (h:w.cell? a=some v):a.block<w.heap.size:=by
 rcases Nat.lt_or_ge a.block w.heap.size with hlt|hge
 ·exact hlt
 ·unfold World.cell? at h
  rw [Array.getElem?_eq_none hge] at h
  cases h
theorem BM (a:Addr):a.add 0=a:=by simp [Addr.add]
theorem EF {a:Addr} {n cap:Nat} {zs:List Int} (hl:n<=cap) (hz:zs.length=cap) (hc:∀i,i<zs.length→W.cell? (a.add i)=some (.int .i64 (zs.getD i 0))):bH W (some a) n (zs.take n):=by
 refine ⟨by simp;omega,fun hn=>?_⟩
 have h0:=hc 0 (by omega)
 rw [BM] at h0
 obtain ⟨b,o,s⟩:=a
 have hs:s=none:=World.cell?_spot h0
 subst hs
 refine ⟨b,o,rfl,vI h0,fun j hj=>?_⟩
 have:=hc j (by omega)
 rw [Addr.add_lit] at this
 rw [this,List.getElem?_take,if_pos hj]
 rfl
end
abbrev SV:=Option Addr × Nat × Nat
def SV.val (v:SV):Value := .slice v.1 v.2.1 v.2.2
def dZ (w:World) (A:Option Addr) (n:Nat) (xss:List (List Int)):Prop :=
 xss.length=n/\(0<n→∃b o,A=some ⟨b,o,none⟩/\b<w.heap.size/\∀j,j<n→∃A' m c,w.cell? ⟨b,o+j,none⟩=some (.slice A' m c)/\bH w A' m (xss[j]?.getD []))
theorem dZ.below {w w':World} {A:Option Addr} {n:Nat} {xss:List (List Int)} (h:dZ w A n xss) (hb:Below w.heap.size w w'):dZ w' A n xss:=by
 refine ⟨h.1,fun hn=>?_⟩
 obtain ⟨b,o,e,hlt,hc⟩:=h.2 hn
 refine ⟨b,o,e,eZ hb hlt,fun j hj=>?_⟩
 obtain ⟨A',m,c,h1,h2⟩:=hc j hj
 exact ⟨A',m,c,(hb.cell (p:=⟨b,o+j,none⟩) hlt).trans h1,h2.below hb⟩
def fM (lo hi:Nat) (w:World) (vs:List SV) (xss:List (List Int)):Prop :=
 vs.length=xss.length/\(∀(j:Nat) (v:SV),vs[j]?=some v→Own lo w v.1 v.2.1 v.2.2 (xss[j]?.getD [])/\∀a:Addr,v.1=some a→a.block<hi) /\
 ∀(i j:Nat) (u v:SV),i<j→vs[i]?=some u→vs[j]?=some v→∀a b:Addr,u.1=some a→v.1=some b→a.block≠b.block
theorem fM.nil {lo hi:Nat} {w:World}:fM lo hi w [] []:=⟨rfl,fun j v h=>by simp at h,fun i j u v _ h=>by simp at h⟩
theorem fM.keep {lo hi:Nat} {w w':World} {vs:List SV} {xss:List (List Int)} (h:fM lo hi w vs xss) (hk:∀k e cs f,k<w.heap.size→lo<=k→k<hi→w.heap[k]?=some (.cells cs e f)→e=3→w'.heap[k]?=w.heap[k]?):fM lo hi w' vs xss:=by
 refine ⟨h.1,fun j v hv=>?_,h.2.2⟩
 obtain ⟨h1,h2⟩:=h.2.1 j v hv
 refine ⟨aa h1 fun a ha=>?_,h2⟩
 have hl:=h1.lt a ha
 rcases h1.2 with ⟨hn,_⟩|⟨g,cap,cur,hv',hb,hh,_⟩
 ·injection hn with hn _ _
  rw [hn] at ha
  cases ha
 ·injection hv' with hA _ _
  rw [hA] at ha
  injection ha with ha
  subst ha
  exact hk g _ _ _ hl.2 hb (h2 _ hA) hh rfl
theorem fM.below {lo hi:Nat} {w w':World} {vs:List SV} {xss:List (List Int)} (h:fM lo hi w vs xss) (hb:Below w.heap.size w w'):fM lo hi w' vs xss :=
 h.keep fun k _ _ _ hk _ _ _ _=>hb.block k hk
theorem fM.chg {lo hi lo' hi':Nat} {w w':World} {vs:List SV} {xss:List (List Int)} (h:fM lo hi w vs xss) (hg:Chg lo' hi' w w') (ha:hi<=lo'∨hi'<=lo):fM lo hi w' vs xss :=
 h.keep fun k _ _ _ hk h1 h2 _ _=>hg.block k hk (by omega)
theorem fM.put {lo hi:Nat} {w:World} {vs:List SV} {xss:List (List Int)} (h:fM lo hi w vs xss) {g:Nat} {cs:Array Value} {f:Nat × Nat} (hg:w.heap[g]?=some (.cells cs 27 f)) (j:Nat) (v:Value):fM lo hi (w.setCell ⟨g,j,none⟩ v) vs xss :=
 h.keep fun k e cs' f' _ _ _ hk he=>Below.heap_setCell _ _ _ _ (by
  rintro rfl
  rw [hg] at hk
  injection hk with hk
  injection hk with _ ht
  rw [he] at ht
  exact absurd ht (by decide))
theorem fM.widen {lo hi hi':Nat} {w:World} {vs:List SV} {xss:List (List Int)} (h:fM lo hi w vs xss) (hh:hi<=hi'):fM lo hi' w vs xss :=
 ⟨h.1,fun j v hv=>⟨(h.2.1 j v hv).1,fun a ha=>Nat.lt_of_lt_of_le ((h.2.1 j v hv).2 a ha) hh⟩,h.2.2⟩
theorem fM.lower {lo lo' hi:Nat} {w:World} {vs:List SV} {xss:List (List Int)} (h:fM lo hi w vs xss) (hh:lo'<=lo):fM lo' hi w vs xss :=
 ⟨h.1,fun j v hv=>⟨(h.2.1 j v hv).1.more hh,(h.2.1 j v hv).2⟩,h.2.2⟩
theorem fM.snoc {lo hi base:Nat} {w:World} {vs:List SV} {xss:List (List Int)} (h:fM lo hi w vs xss) {A:Option Addr} {m c:Nat} {xs:List Int} (o:Own base w A m c xs) (hb:hi<=base) (hlo:lo<=base) :
  fM lo (max hi w.heap.size) w (vs++[(A,m,c)]) (xss++[xs]):=by
 have hl:=h.1
 refine ⟨by simp [hl],fun j v hv=>?_,fun i j u v hij hu hv a b ha hb'=>?_⟩
 ·rw [List.getElem?_append] at hv
  split at hv
  ·rename_i hj
   obtain ⟨h1,h2⟩:=h.2.1 j v hv
   refine ⟨?_,fun a ha=>by have:=h2 a ha;omega⟩
   rw [List.getElem?_append_left (by omega)]
   exact h1
  ·rename_i hj
   have hj':j - vs.length=0:=by
    rcases Nat.eq_zero_or_pos (j - vs.length) with h0|h0
    ·exact h0
    ·simp [show j - vs.length≠0 by omega] at hv
   rw [hj'] at hv
   simp at hv
   subst hv
   refine ⟨?_,fun a ha=>by have:=(o.lt a ha).2;omega⟩
   rw [List.getElem?_append_right (by omega),show j - xss.length=0 by omega]
   exact o.more hlo
 ·rw [List.getElem?_append] at hu hv
  split at hv
  ·rename_i hj
   rw [if_pos (by omega)] at hu
   exact h.2.2 i j u v hij hu hv a b ha hb'
  ·rename_i hj
   have hj':j - vs.length=0:=by
    rcases Nat.eq_zero_or_pos (j - vs.length) with h0|h0
    ·exact h0
    ·simp [show j - vs.length≠0 by omega] at hv
   rw [hj'] at hv
   simp at hv
   subst hv
   rw [if_pos (by omega)] at hu
   have h1:=(h.2.1 i u hu).2 a ha
   have h2:=(o.lt b hb').1
   omega
def bq (lo hi:Nat) (w:World) (A:Option Addr) (n c:Nat) (xss:List (List Int)):Prop :=
 ∃vs:List SV,w.ownsRow lo 27 1 (.slice A n c) n (vs.map SV.val)/\(∀a:Addr,A=some a→a.block<hi)/\fM lo hi w vs xss
theorem bq.nil {lo hi:Nat} {w:World}:bq lo hi w none 0 0 []:=⟨[],⟨rfl,.inl ⟨rfl,rfl⟩⟩,by simp,fM.nil⟩
theorem jI {base:Nat} {w:World} {A:Option Addr} {e:TypeId} {n c:Nat} {vs:List Value} (h:w.ownsRow base e 1 (.slice A n c) n vs):∀a,A=some a→base<=a.block/\a.block<w.heap.size:=by
 rintro a rfl
 rcases h.2 with ⟨hv,_⟩|⟨g,cap,cur,hv,hb,hh,_⟩
 ·cases hv
 ·injection hv with hA
  injection hA with hA
  subst hA
  exact ⟨hb,aX hh⟩
theorem bq.len {lo hi:Nat} {w:World} {A:Option Addr} {n c:Nat} {xss:List (List Int)} (h:bq lo hi w A n c xss):xss.length=n:=by
 obtain ⟨vs,h1,_,h2⟩:=h
 have:=h1.1
 rw [←h2.1]
 simpa using this
theorem bq.below {lo hi:Nat} {w w':World} {A:Option Addr} {n c:Nat} {xss:List (List Int)} (h:bq lo hi w A n c xss) (hb:Below w.heap.size w w'):bq lo hi w' A n c xss:=by
 obtain ⟨vs,h1,h2,h3⟩:=h
 exact ⟨vs,aa h1 fun a ha=>hb.block _ (jI h1 a ha).2,h2,h3.below hb⟩
theorem bq.chg {lo hi lo' hi':Nat} {w w':World} {A:Option Addr} {n c:Nat} {xss:List (List Int)} (h:bq lo hi w A n c xss) (hg:Chg lo' hi' w w') (ha:hi<=lo'∨hi'<=lo):bq lo hi w' A n c xss:=by
 obtain ⟨vs,h1,h2,h3⟩:=h
 exact ⟨vs,aa h1 fun a e=>hg.block _ (jI h1 a e).2 (by have:=jI h1 a e;have:=h2 a e;omega),h2,h3.chg hg ha⟩
theorem bq.drewd {lo hi:Nat} {w:World} {A:Option Addr} {n c:Nat} {xss:List (List Int)} (h:bq lo hi w A n c xss):bq lo hi w.drew A n c xss:=h
theorem bq.rd {lo hi:Nat} {w:World} {A:Option Addr} {n c:Nat} {xss:List (List Int)} (h:bq lo hi w A n c xss):dZ w A n xss:=by
 refine ⟨h.len,fun hn=>?_⟩
 have hlen:=h.len
 obtain ⟨vs,h1,h2,h3⟩:=h
 rcases h1.2 with ⟨_,h0⟩|⟨g,cap,cur,hv,hb,hh,hnc,hcap,hsz,ht⟩
 ·omega
 ·injection hv with hA
  subst hA
  refine ⟨g,0,rfl,aX hh,fun j hj=>?_⟩
  have hvl:vs.length=n:=by rw [h3.1];exact hlen
  have hvj:vs[j]?=some (vs[j]'(by omega)):=List.getElem?_eq_getElem (by omega)
  refine ⟨(vs[j]'(by omega)).1,(vs[j]'(by omega)).2.1,(vs[j]'(by omega)).2.2,?_,(h3.2.1 j _ hvj).1.ints⟩
  have hx:(vs.map SV.val)[j]?=some (SV.val (vs[j]'(by omega))):=by rw [List.getElem?_map,hvj];rfl
  rw [←ht,List.getElem?_take] at hx
  simp only [Nat.mul_one] at hx
  rw [if_pos hj] at hx
  unfold World.cell?
  simp only [Nat.zero_add]
  rw [hh]
  rw [Array.getElem?_toList] at hx
  exact hx
theorem BN:(Tryz.prog.info? 27).map (fun i=>(i.zero,i.size,i.bytes))=some (some (.slice none 0 0),1,24):=by kernel_rfl
/-! ### sizes -/
def bA (xss:List (List Int)):Nat→Nat
 | 0=>0
 | k+1=>bA xss k+(xss[k]?.getD []).length
def af (xss:List (List Int)):Nat:=xss.length+bA xss xss.length
theorem uY (xss:List (List Int)) {j k:Nat} (h:j<k):bA xss j+(xss[j]?.getD []).length<=bA xss k:=by
 induction k with
 | zero=>omega
 | succ k ih =>
  rcases Nat.lt_or_ge j k with h1|h1
  ·have:=ih h1
   simp only [bA]
   omega
  ·obtain rfl:j=k:=by omega
   exact Nat.le_refl _
theorem qP (xss:List (List Int)) {j k:Nat} (h:j<=k):bA xss j<=bA xss k:=by
 rcases Nat.lt_or_ge j k with h1|h1
 ·have:=uY xss h1;omega
 ·obtain rfl:j=k:=by omega
  exact Nat.le_refl _
theorem Ep {xss:List (List Int)} {j:Nat} (h:j<xss.length):(xss[j]?.getD []).length<=af xss:=by
 have:=uY xss h
 unfold af
 omega
theorem dz {xss:List (List Int)} {n M:Nat} (hx:xss.length=n) (h:af xss<=M):n<=M/\∀j:Nat,(xss[j]?.getD []).length<=M:=by
 refine ⟨by unfold af at h;omega,fun j=>?_⟩
 rcases Nat.lt_or_ge j xss.length with h1|h1
 ·exact Nat.le_trans (Ep h1) h
 ·simp [List.getElem?_eq_none h1]
theorem tH {xss yss:List (List Int)} (h:∀j:Nat,(xss[j]?.getD []).length=(yss[j]?.getD []).length) (k:Nat):bA xss k=bA yss k:=by
 induction k with
 | zero=>rfl
 | succ k ih=>rw [bA,bA,ih,h k]
def uK (L:Int) (s:Nat):Int:=if (s:Int)<=L then L - s else -1
theorem eD {L:Int} {s:Nat} (h:¬(s:Int)<=L):uK L s=-1:=if_neg h
theorem fG {L:Int} {s:Nat} (h:(s:Int)<=L):uK L s=L - s:=if_pos h
theorem rT (A:Option Addr) (n c:Nat) (L:Int) (w:World) (hL:0<=L) (hL':L<=1099511627776) (hn:n<=9223372036854775807) :
  Calls Tryz.prog 46 #[.slice A n c,.int .i64 L] w fun e w'=>e = .returned (.int .i64 (uK L n))/\w=w':=by
 by_cases h:(n:Int)<=L
 ·have hd:decide (L - (n:Int)<0)=false:=by simp;omega
  have hl:=Hd (fG h)
  go_enter Tryz.func46,Tryz.ntmps46
  go_wp2_with fail
  go_ret
  exact ⟨aP hl.out.symm,rfl⟩
 ·have hd:decide (L - (n:Int)<0)=true:=by simp;omega
  have hl:=Hd (eD h)
  go_enter Tryz.func46,Tryz.ntmps46
  go_wp2_with fail
  go_ret
  exact ⟨aP hl.out.symm,rfl⟩
theorem uZ (A:Option Addr) (n c:Nat) (xss:List (List Int)) (L:Int) (w:World) (h:dZ w A n xss) (hL:0<=L) (hL':L<=1099511627776) (hn:n<=9223372036854775807) (hrow:∀j:Nat,(xss[j]?.getD []).length<=9223372036854775807) :
  Calls Tryz.prog 45 #[.slice A n c,.int .i64 L] w fun e w'=>e = .returned (.int .i64 (uK L (af xss)))/\w=w':=by
 obtain ⟨hx,hA⟩:=h
 have HX:=Hd hx
 have HR:=Hd hrow
 clear hx hrow
 by_cases h0:(n:Int)<=L
 ·have hd:decide (L - (n:Int)<0)=false:=by simp;omega
  go_enter Tryz.func45,Tryz.ntmps45
  go_wp2_with fail
  go_loop [1,5] (fun v i=>∃k:Nat,k<=n/\i = .int .i64 k/\v = .int .i64 (L - n - bA xss k)/\(bA xss k:Int)<=L - n) (fun _ i=>n - (intOf i).toNat)
  case atStart=>exact ⟨0,Nat.zero_le _,rfl,by simp [bA],by simp [bA];omega⟩
  case round =>
   obtain ⟨k,hk,rfl,rfl,hle⟩:=hrel
   by_cases hlt:k<n
   ·obtain ⟨b,o,rfl,hb,hc⟩:=hA (by omega)
    obtain ⟨A',m,c',hck,hI⟩:=hc k hlt
    have hm:m=(xss[k]?.getD []).length:=hI.1.symm
    have hm':m<=9223372036854775807:=by have:=HR.out k;omega
    have hs:bA xss (k+1)=bA xss k+m:=by rw [bA,hm]
    have hfit:(bA xss k+m:Nat)<=bA xss n:=by rw [←hs];exact qP xss (by omega)
    have HS:=Hd hs
    have HF:=Hd hfit
    clear hc hm hI hs hfit
    generalize bA xss k=s at *
    go_wp2_with fail
    refine (rT A' m c' _ _ (by omega) (by omega) hm').mono ?_
    rintro e w' ⟨rfl,rfl⟩
    by_cases h1:(m:Int)<=L - n - s
    ·rw [fG h1]
     have hd2:decide (L - (n:Int) - s - m<0)=false:=by simp;omega
     go_wp2_with fail
     go_round
     case rel=>exact ⟨k+1,by omega,by go_num,by rw [HS.out];congr 1;omega,by rw [HS.out];omega⟩
     case measure=>simp [intOf];omega
    ·rw [eD h1]
     go_wp2_with fail
     go_ret
     exact ⟨aP (by rw [eD];have:=HF.out;unfold af;rw [HX.out];omega),rfl⟩
   ·have hkn:k=n:=by omega
    subst hkn
    go_wp2_with fail
    go_ret
    exact ⟨aP (by rw [fG (by unfold af;rw [HX.out];omega)];unfold af;rw [HX.out];omega),rfl⟩
 ·have hd:decide (L - (n:Int)<0)=true:=by simp;omega
  go_enter Tryz.func45,Tryz.ntmps45
  go_wp2_with fail
  go_ret
  exact ⟨aP (by rw [eD];unfold af;rw [HX.out];omega),rfl⟩
/-! ### comparing -/
theorem tJ (A B:Option Addr) (n m c d:Nat) (xss:List (List Int)) (w:World) (hA:dZ w A n xss) (hB:dZ w B m xss) (hz:af xss<=1099511627776) :
  Calls Tryz.prog 57 #[.slice A n c,.slice B m d] w fun e w'=>e = .returned (.bool true)/\Below w.heap.size w w':=by
 obtain ⟨hx,hA⟩:=hA
 obtain ⟨hy,hB⟩:=hB
 obtain ⟨hn,hrow⟩:n<=1099511627776/\∀j:Nat,(xss[j]?.getD []).length<=1099511627776:=dz hx hz
 obtain rfl:m=n:=by omega
 have HX:=Hd hx
 have HR:=Hd hrow
 clear hx hy hrow
 go_enter Tryz.func57,Tryz.ntmps57
 go_wp2_with fail
 go_loopw [5] (fun i wr=>∃k:Nat,k<=m/\i = .int .i64 k/\Below w.heap.size w wr) (fun i _=>m - (intOf i).toNat)
 case atStart=>exact ⟨0,Nat.zero_le _,rfl,Below.refl _ _⟩
 case round =>
  obtain ⟨k,hk,rfl,hbe⟩:=hrel
  by_cases hlt:k<m
  ·obtain ⟨b,o,rfl,hb,hc⟩:=hA (by omega)
   obtain ⟨b',o',rfl,hb',hc'⟩:=hB (by omega)
   obtain ⟨A1,m1,c1,hck,hI1⟩:=hc k hlt
   obtain ⟨A2,m2,c2,hck',hI2⟩:=hc' k hlt
   rw [←hbe.cell (p:=⟨b,o+k,none⟩) hb] at hck
   rw [←hbe.cell (p:=⟨b',o'+k,none⟩) hb'] at hck'
   have J1:=Hd (hI1.below hbe).drewd
   have J2:=Hd (hI2.below hbe).drewd
   have hm1:m1<=1099511627776:=by have:=HR.out k;have:=hI1.1;omega
   have hi0:(0:Int)<=(k:Int):=by omega
   have hi1:(k:Int)<(m:Int):=by omega
   have HE:=Hd hbe.drew
   clear hc hc' hI1 hI2 hbe
   go_wp2_with fail
   go_region_held3 (fun w'=>w'.cell? ⟨b,o+k,none⟩=some (.slice A1 m1 c1)/\w'.cell? ⟨b',o'+k,none⟩=some (.slice A2 m2 c2)/\Below w.heap.size w w')
    (first|exact ⟨hck,hck',HE.out⟩|exact ⟨(b3.cell (p:=⟨b,o+k,none⟩) (Nat.lt_of_lt_of_le hb HE.out.size)).trans hck,(b3.cell (p:=⟨b',o'+k,none⟩) (Nat.lt_of_lt_of_le hb' HE.out.size)).trans hck',aA HE.out b3⟩)
    (first|(go_at_call 20;refine (ja A1 A2 m1 m2 c1 c2 _ _ J1.out J2.out hm1).mono ?_;rintro e w3 ⟨rfl,b3⟩))
   rename_i hH
   obtain ⟨_,_,hE3⟩:=hH
   go_wp2_with fail
   go_roundw
   case rel=>exact ⟨k+1,by omega,by go_num,hE3⟩
   case measure=>simp [intOf];omega
  ·have hkn:k=m:=by omega
   subst hkn
   go_wp2_with fail
   go_ret
   exact ⟨rfl,hbe⟩
theorem BO {xss:List (List Int)} (h:∀ys∈xss,ys.length<=maxLen/\∀y∈ys,Wf y):∀j:Nat,(xss[j]?.getD []).length<=9223372036854775807:=by
 intro j
 rcases Nat.lt_or_ge j xss.length with h1|h1
 ·rw [List.getElem?_eq_getElem h1]
  exact (h _ (List.getElem_mem h1)).1
 ·simp [List.getElem?_eq_none h1]
/-! ### copying -/
def jJ (vs:List SV) (n:Nat):Array Value:=(vs.map SV.val++List.replicate (n - vs.length) (Value.slice none 0 0)).toArray
theorem BP (n:Nat):jJ [] n=madeCells #[Value.slice none 0 0] n:=by
 apply Array.ext'
 rw [toList_madeCells_one]
 simp [jJ]
theorem DK {vs:List SV} {n:Nat} (h:vs.length<n):(jJ vs n)[vs.length]?=some (.slice none 0 0):=by
 simp only [jJ,List.getElem?_toArray]
 rw [List.getElem?_append_right (by simp)]
 simp only [List.length_map,Nat.sub_self,List.getElem?_replicate]
 rw [if_pos (by omega)]
theorem DL {vs:List SV} {n:Nat} (h:vs.length<n) (v:SV):(jJ vs n).setIfInBounds vs.length v.val=jJ (vs++[v]) n:=by
 apply Array.ext'
 have e:n - vs.length=(n - (vs.length+1))+1:=by omega
 simp only [jJ,List.setIfInBounds_toArray]
 rw [List.set_append,if_neg (by simp)]
 simp only [List.length_map,Nat.sub_self,e,List.replicate_succ,List.set_cons_zero,List.map_append,List.map_cons,List.map_nil,List.length_append,List.length_cons,List.length_nil,List.append_assoc,List.cons_append,List.nil_append,Nat.zero_add]
theorem BQ {vs:List SV} {n:Nat} (h:vs.length=n):(jJ vs n).toList=vs.map SV.val:=by
 simp [jJ,h]
theorem BR {vs:List SV} {n:Nat} (h:vs.length<=n):(jJ vs n).size=n:=by
 simp [jJ];omega
theorem bq.made {w:World} {lo hi g n:Nat} {vs:List SV} {xss:List (List Int)} (hh:w.heap[g]?=some (.cells (jJ vs n) 27 (0,0))) (hb:lo<=g) (hg:g<hi) (hn:n<=maxLen) (hl:vs.length=n) (hi':fM lo hi w vs xss):bq lo hi w (some ⟨g,0,none⟩) n n xss :=
 ⟨vs,⟨by simp [hl],.inr ⟨g,n,_,rfl,hb,hh,Nat.le_refl _,hn,by rw [BR (by omega)];omega,by rw [BQ hl,List.take_of_length_le (by simp [hl])]⟩⟩,by rintro a ⟨⟩;exact hg,hi'⟩
theorem nG {xss:List (List Int)} {k:Nat} (h:k<xss.length):xss.take (k+1)=xss.take k++[xss[k]?.getD []]:=by
 rw [List.take_succ_eq_append_getElem h,List.getElem?_eq_getElem h]
 rfl
theorem uf (A:Option Addr) (n c:Nat) (xss:List (List Int)) (w:World) (h:dZ w A n xss) (hz:af xss<=16777216) :
  Calls Tryz.prog 52 #[.slice A n c] w fun e w'=>∃A',e = .returned (.slice A' n n)/\bq w.heap.size w'.heap.size w' A' n n xss/\Below w.heap.size w w':=by
 obtain ⟨i0,hi,hz0,hz1,hz2⟩:=info_parts BN
 obtain ⟨hn,hrow⟩:n<=16777216/\∀j:Nat,(xss[j]?.getD []).length<=16777216:=dz h.1 hz
 have hmk:=fun W=>bU (P:=Tryz.prog) 26 27 i0 _ Tryz.underlying26 hi hz0 .i64 .i64 n n (Nat.le_refl _) (by rw [hz2];omega) (by omega) W
 rw [hz1,Nat.mul_one,show (Value.slice none 0 0).cells=#[Value.slice none 0 0] from rfl,←BP n] at hmk
 clear hi hz0 hz1 hz2
 obtain ⟨hx,hA⟩:=h
 have HX:=Hd hx
 have HR:=Hd hrow
 clear hx hrow
 go_enter Tryz.func52,Tryz.ntmps52
 go_wp2_with fail
 go_loopw [4] (fun i wr=>∃(k:Nat) (vs:List SV),k<=n/\i = .int .i64 k/\vs.length=k/\wr.heap[w.heap.size]?=some (.cells (jJ vs n) 27 (0,0))/\fM w.heap.size wr.heap.size wr vs (xss.take k)/\Below w.heap.size w wr) (fun i _=>n - (intOf i).toNat)
 case atStart=>exact ⟨0,[],Nat.zero_le _,rfl,rfl,aL _ _,by simpa using fM.nil,aB (Below.refl _ _) _⟩
 case round =>
  obtain ⟨k,vs,hk,rfl,hvl,hh,hin,hbe⟩:=hrel
  have HV:=Hd hvl
  have HIN:=Hd hin
  have HE:=Hd hbe
  have hB0:=aX hh
  have HH:=Hd hh
  clear hvl hin hh
  by_cases hlt:k<n
  ·obtain ⟨b,o,rfl,hb,hc⟩:=hA (by omega)
   obtain ⟨A1,m1,c1,hck,hI1⟩:=hc k hlt
   rw [←hbe.cell (p:=⟨b,o+k,none⟩) hb] at hck
   have J1:=Hd (hI1.below hbe)
   have hm1:m1<=16777216:=by have:=HR.out k;have:=hI1.1;omega
   clear hc hI1 hbe
   go_wp2_with fail
   refine (rY A1 m1 c1 _ _ J1.out hm1).mono ?_
   rintro e w2 ⟨A2,rfl,o2,b2⟩
   have H2:=Hd ((b2.block _ hB0).trans HH.out)
   have O2:=Hd o2
   have B2:=Hd b2
   have hcell2:w2.cell? ⟨w.heap.size,k,none⟩=some (.slice none 0 0):=by
    unfold World.cell?
    rw [H2.out]
    have:=DK (vs:=vs) (n:=n) (by rw [HV.out];exact hlt)
    rw [HV.out] at this
    exact this
   have hfz:w2.frozen? ⟨w.heap.size,k,none⟩=false:=by
    unfold World.frozen?
    rw [H2.out]
    simp
   have hs2:=b2.size
   clear o2 b2 hck
   go_wp2_with fail
   go_roundw
   case rel =>
    have hset:=bF H2.out k (SV.val (A2,m1,m1))
    rw [show (jJ vs n).setIfInBounds k (SV.val (A2,m1,m1))=jJ (vs++[(A2,m1,m1)]) n by rw [←DL (by rw [HV.out];exact hlt),HV.out]] at hset
    refine ⟨k+1,vs++[(A2,m1,m1)],by omega,by go_num,by simp [HV.out],hset,?_,(aA HE.out B2.out).setCell (p:=⟨w.heap.size,k,none⟩) (Nat.le_refl _) _⟩
    rw [nG (by rw [HX.out];exact hlt)]
    have hsn:=(HIN.out.below B2.out).snoc O2.out (Nat.le_refl _) HE.out.size
    rw [Nat.max_eq_right hs2] at hsn
    have:=hsn.put H2.out k (SV.val (A2,m1,m1))
    rw [show ∀(p:Addr) (v:Value),(w2.setCell p v).heap.size=w2.heap.size from fun p v=>by simp [World.setCell]]
    exact this
   case measure=>simp [intOf];omega
  ·have hkn:k=n:=by omega
   subst hkn
   go_wp2_with fail
   go_ret
   exact ⟨_,rfl,bq.made HH.out (Nat.le_refl _) hB0 (by unfold maxLen;omega) HV.out (by have:=HIN.out;rwa [List.take_of_length_le (by rw [HX.out];exact Nat.le_refl _)] at this),HE.out⟩
/-! ### marking -/
theorem bq.rowX {lo hi:Nat} {w:World} {A:Option Addr} {n c k:Nat} {yss:List (List Int)} (h:bq lo hi w A n c yss) (hk:k<n) :
  ∃b A1 m1 c1,A=some ⟨b,0,none⟩/\w.cell? ⟨b,k,none⟩=some (.slice A1 m1 c1)/\w.frozen? ⟨b,k,none⟩=false/\Own lo w A1 m1 c1 (yss[k]?.getD [])/\gJ A1 lo hi /\
   (∀w' zs,w.grownBy w' (A1.map (·.block))→Own lo w' A1 m1 c1 zs→bq lo hi w' A n c (yss.set k zs))/\(∀a,A1=some a→a.block≠b)/\lo<=b/\b<hi/\b<w.heap.size:=by
 have hlen:=h.len
 obtain ⟨vs,h1,h2,h3⟩:=h
 have hvl:vs.length=n:=by rw [h3.1];exact hlen
 have hvk:vs[k]?=some (vs[k]'(by omega)):=List.getElem?_eq_getElem (by omega)
 generalize vs[k]'(by omega)=v at hvk
 have hr:=h1.2
 rcases hr with ⟨_,h0⟩|⟨g,cap,cur,hv,hb,hh,hnc,hcap,hsz,ht⟩
 ·omega
 ·injection hv with hA
  subst hA
  obtain ⟨hok,hhi⟩:=h3.2.1 k v hvk
  have hcur:cur[k]?=some (SV.val v):=by
   have hx:(vs.map SV.val)[k]?=some (SV.val v):=by rw [List.getElem?_map,hvk];rfl
   rw [←ht,List.getElem?_take] at hx
   simp only [Nat.mul_one] at hx
   rw [if_pos hk,Array.getElem?_toList] at hx
   exact hx
  have hne:∀a,v.1=some a→a.block≠g:=by
   rintro a ha rfl
   rcases hok.2 with ⟨hn,_⟩|⟨g',cap',cur',hv',_,hh',_⟩
   ·injection hn with hn _ _
    rw [hn] at ha
    cases ha
   ·injection hv' with hA' _ _
    rw [hA'] at ha
    injection ha with ha
    subst ha
    rw [hh] at hh'
    injection hh' with hh'
    injection hh' with _ hty
    exact absurd hty (by decide)
  refine ⟨g,v.1,v.2.1,v.2.2,rfl,by unfold World.cell?;rw [hh];exact hcur,by unfold World.frozen?;rw [hh];simp,hok,fun a ha=>⟨(hok.lt a ha).1,hhi a ha⟩,fun w' zs hg ho=>?_,hne,hb,h2 _ rfl,aX hh⟩
  refine ⟨vs,aa h1 fun a ha=>?_,h2,by rw [List.length_set];exact h3.1,fun j u hu=>?_,h3.2.2⟩
  ·injection ha with ha
   subst ha
   refine hg.block g (aX hh) ?_
   cases hv1:v.1 with
   | none=>simp
   | some a=>simpa using fun e=>hne a hv1 e.symm
  ·obtain ⟨q1,q2⟩:=h3.2.1 j u hu
   refine ⟨?_,q2⟩
   by_cases hjk:j=k
   ·subst hjk
    rw [hvk] at hu
    injection hu with hu
    subst hu
    rw [List.getElem?_set_self (by omega)]
    exact ho
   ·rw [List.getElem?_set_ne (by omega)]
    refine aa q1 fun a ha=>hg.block _ (q1.lt a ha).2 ?_
    cases hv1:v.1 with
    | none=>simp
    | some a' =>
     simp only [Option.map_some,ne_eq,Option.some.injEq]
     rcases Nat.lt_or_gt_of_ne hjk with hjk|hjk
     ·exact fun e=>h3.2.2 j k u v hjk hu hvk a a' ha hv1 e
     ·exact fun e=>h3.2.2 k j v u hjk hvk hu a' a hv1 ha e.symm
theorem bq.row {lo hi:Nat} {w:World} {A:Option Addr} {n c k:Nat} {yss:List (List Int)} (h:bq lo hi w A n c yss) (hk:k<n) :
  ∃b A1 m1 c1,A=some ⟨b,0,none⟩/\w.cell? ⟨b,k,none⟩=some (.slice A1 m1 c1)/\w.frozen? ⟨b,k,none⟩=false/\Own lo w A1 m1 c1 (yss[k]?.getD [])/\gJ A1 lo hi /\
   ∀w' zs,w.grownBy w' (A1.map (·.block))→Own lo w' A1 m1 c1 zs→bq lo hi w' A n c (yss.set k zs):=by
 obtain ⟨b,A1,m1,c1,h1,h2,h3,h4,h5,h6,_⟩:=h.rowX hk
 exact ⟨b,A1,m1,c1,h1,h2,h3,h4,h5,h6⟩
def l9 (k0:Int) (xss:List (List Int)) (k:Nat):List (List Int) :=
 (List.range xss.length).map fun j=>if j<k then pG (k0+bA xss j) (xss[j]?.getD []).length else xss[j]?.getD []
def qC (k0:Int) (xss:List (List Int)):List (List Int):=l9 k0 xss xss.length
theorem uL {k0:Int} {xss:List (List Int)} {k j:Nat} (h:j<xss.length):(l9 k0 xss k)[j]?.getD []=if j<k then pG (k0+bA xss j) (xss[j]?.getD []).length else xss[j]?.getD []:=by
 simp [l9,h]
theorem wH (k0:Int) (xss:List (List Int)):l9 k0 xss 0=xss:=by
 apply List.ext_getElem?
 intro i
 simp only [l9,Nat.not_lt_zero,if_false,List.getElem?_map]
 rcases Nat.lt_or_ge i xss.length with h|h
 ·simp [h]
 ·simp [h]
theorem xy {k0:Int} {xss:List (List Int)} {k:Nat} (h:k<xss.length):(l9 k0 xss k).set k (pG (k0+bA xss k) (xss[k]?.getD []).length)=l9 k0 xss (k+1):=by
 apply List.ext_getElem?
 intro i
 by_cases hi:i=k
 ·subst hi
  rw [List.getElem?_set_self (by simp [l9,h])]
  simp [l9,h]
 ·rw [List.getElem?_set_ne (by omega)]
  simp only [l9,List.getElem?_map]
  rcases Nat.lt_or_ge i xss.length with h1|h1
  ·have e:(i<k+1)=(i<k):=propext (by omega)
   simp [h1,e]
  ·simp [h1]
theorem BS (k0:Int) (n:Nat):(pG k0 n).length=n:=by simp [pG]
theorem qf (lo hi:Nat) (A:Option Addr) (n c:Nat) (xss:List (List Int)) (k0:Int) (w:World) (h:bq lo hi w A n c xss) (hk0:0<=k0) (hk1:k0<=1099511627776) (hz:af xss<=1099511627776) :
  Calls Tryz.prog 60 #[.slice A n c,.int .i64 k0] w fun e w'=>e = .returned (.int .i64 (k0+bA xss n))/\bq lo hi w' A n c (qC k0 xss)/\Chg lo hi w w':=by
 have hx:=h.len
 obtain ⟨hn,hrow⟩:=dz hx hz
 have HX:=Hd hx
 have HR:=Hd hrow
 have HO:=Hd h
 clear hx hrow h
 go_enter Tryz.func60,Tryz.ntmps60
 go_wp2_with fail
 go_loopw [1,5] (fun v i wr=>∃k:Nat,k<=n/\i = .int .i64 k/\v = .int .i64 (k0+bA xss k)/\bq lo hi wr A n c (l9 k0 xss k)/\Chg lo hi w wr) (fun _ i _=>n - (intOf i).toNat)
 case atStart=>exact ⟨0,Nat.zero_le _,rfl,by simp [bA],by rw [wH];exact HO.out,Chg.refl _ _ _⟩
 case round =>
  obtain ⟨k,hk,rfl,rfl,ho,hg⟩:=hrel
  have HG:=Hd hg
  clear hg
  by_cases hlt:k<n
  ·obtain ⟨b,A1,m1,c1,rfl,hck,_,o1,l1,hup⟩:=ho.row hlt
   rw [uL (by rw [HX.out];exact hlt),if_neg (by omega)] at o1
   have hm:m1=(xss[k]?.getD []).length:=o1.len.symm
   have hs:bA xss (k+1)=bA xss k+m1:=by rw [bA,hm]
   have hfit:bA xss (k+1)<=af xss:=by have:=qP xss (j:=k+1) (k:=xss.length) (by rw [HX.out];omega);unfold af;omega
   have HS:=Hd hs
   have O1:=Hd o1
   have L1:=Hd l1
   have HM:=Hd hm
   have HUP:=Hd hup
   have hb1:bA xss k+m1<=1099511627776:=by omega
   clear ho o1 l1 hup hm hs hfit
   go_wp2_with fail
   refine (il lo A1 m1 c1 _ _ _ O1.out (by omega) (by omega) (by omega)).mono ?_
   rintro e w2 ⟨rfl,o2,g2⟩
   have O2:=Hd (HUP.out w2 _ g2 o2)
   have G2:=Hd (HG.out.trans (tT g2 L1.out))
   clear o2 g2 hck
   go_wp2_with fail
   go_roundw
   case rel=>exact ⟨k+1,by omega,by go_num,by rw [HS.out];go_num,by rw [←xy (by rw [HX.out];exact hlt),←HM.out];exact O2.out,G2.out⟩
   case measure=>simp [intOf];omega
  ·have hkn:k=n:=by omega
   subst hkn
   go_wp2_with fail
   go_ret
   exact ⟨rfl,by rw [qC,HX.out];exact ho,HG.out⟩
theorem qg (A:Option Addr) (n c:Nat) (yss:List (List Int)) (k0:Int) (w:World) {xss:List (List Int)} (h:dZ w A n yss) (hy:yss=qC k0 xss) (hk0:0<=k0) (hk1:k0<=1099511627776) (hz:af xss<=1099511627776) :
  Calls Tryz.prog 61 #[.slice A n c,.int .i64 k0] w fun e w'=>e = .returned (.int .i64 (k0+bA xss n))/\Below w.heap.size w w':=by
 obtain ⟨hl,hA⟩:=h
 have hx:xss.length=n:=by rw [←hl,hy];simp [qC,l9]
 obtain ⟨hn,hrow⟩:=dz hx hz
 have HX:=Hd hx
 have HR:=Hd hrow
 have HY:=Hd hy
 clear hx hrow hy hl
 go_enter Tryz.func61,Tryz.ntmps61
 go_wp2_with fail
 go_loopw [1,5] (fun v i wr=>∃k:Nat,k<=n/\i = .int .i64 k/\v = .int .i64 (k0+bA xss k)/\Below w.heap.size w wr) (fun _ i _=>n - (intOf i).toNat)
 case atStart=>exact ⟨0,Nat.zero_le _,rfl,by simp [bA],Below.refl _ _⟩
 case round =>
  obtain ⟨k,hk,rfl,rfl,hbe⟩:=hrel
  by_cases hlt:k<n
  ·obtain ⟨b,o,rfl,hb,hc⟩:=hA (by omega)
   obtain ⟨A1,m1,c1,hck,hI1⟩:=hc k hlt
   rw [←hbe.cell (p:=⟨b,o+k,none⟩) hb] at hck
   have hrowk:yss[k]?.getD []=pG (k0+bA xss k) (xss[k]?.getD []).length:=by
    rw [HY.out,qC,uL (by rw [HX.out];exact hlt),if_pos (by rw [HX.out];exact hlt)]
   have hm:m1=(xss[k]?.getD []).length:=by rw [←hI1.1,hrowk,BS]
   rw [hrowk,←hm] at hI1
   have J1:=Hd (hI1.below hbe)
   have hs:bA xss (k+1)=bA xss k+m1:=by rw [bA,hm]
   have hfit:bA xss (k+1)<=af xss:=by have:=qP xss (j:=k+1) (k:=xss.length) (by rw [HX.out];omega);unfold af;omega
   have HS:=Hd hs
   have HE:=Hd hbe
   have hb1:bA xss k+m1<=1099511627776:=by omega
   clear hc hI1 hbe hrowk hm hs hfit
   go_wp2_with fail
   refine (lI A1 m1 c1 _ _ _ J1.out rfl (by omega) (by omega) (by omega)).mono ?_
   rintro e w2 ⟨rfl,b2⟩
   have B2:=Hd (aA HE.out b2)
   clear b2 hck
   go_wp2_with fail
   go_roundw
   case rel=>exact ⟨k+1,by omega,by go_num,by rw [HS.out];go_num,B2.out⟩
   case measure=>simp [intOf];omega
  ·have hkn:k=n:=by omega
   subst hkn
   go_wp2_with fail
   go_ret
   exact ⟨rfl,hbe⟩
/-! ### a slice of slices among the arguments -/
section
variable {H:Type} {enc:TypeId × Value→H} {W:World} {b0 base:Nat} {held:Bool}
end
theorem mY {P:Program} (w:World) (base:Nat) (t ty e:TypeId) (i:TypeInfo) (size:Nat) (ht:P.underlying t=some (.slice e)) (hi:P.info? e=some i)
  (v:Value) (n:Nat) (xs:List Value) (hown:w.ownsRow base e size v n xs) (c:Nat):(Builtin.append_ #[t,t] ty #[v,.slice none 0 c]).run P w = .ok v w:=by
 rcases hown.2 with ⟨rfl,rfl⟩|⟨g,cap,cur,rfl,_,_,hnc,_⟩
 ·simp [Builtin.append_,run_underlying ht,sizeOf,typeInfo,hi,Builtin.lenOf,Builtin.firstCells]
 ·simp [Builtin.append_,run_underlying ht,sizeOf,typeInfo,hi,Builtin.lenOf,Builtin.firstCells,hnc,storeCells]
theorem lC {base:Nat} {W w w':World} {A:Option Addr} {lo:Nat} (hB:Below lo W w) (hg:w.grownBy w' (A.map (·.block))) (hA:∀a,A=some a→base<=a.block) (hb:lo<=base) (hs:lo<=w.heap.size):Below lo W w' :=
 hB.grown hg hs (by
  cases A with
  | none=>simp
  | some a =>
   have:=hA a rfl
   simp only [Option.map_some,Option.some.injEq]
   rintro k rfl
   omega)
theorem bP {ops:Array Oper} {rest:List Oper} {o:Oper} {a:Act} {Q:Exit→Act→World→Prop} {w W:World} (hgd:o.guard=none) (s x:Operand)
  (ho:o.op = .call { callee := .builtin .append,args:=#[s,x],argTypes:=#[27,27] })
  (base:Nat) (A:Option Addr) (n c:Nat) (xs:List Int) (hs:a.eval s = .slice A n c) (hown:Own base w A n c xs) (B:Option Addr) (m d:Nat) (ys:List Int) (hx:a.eval x = .slice B m d) (hr:bH w B m ys)
  (hn:n+m<=1099511627776) (hbase:base<=w.heap.size) (hB:Below base W w)
  (h:∀A' c' w',Own base w' A' (n+m) c' (xs++ys)→Below base W w'→w.grownBy w' (A.map (·.block))→wpList Tryz.prog ops Q rest (a.put o.dst (.slice A' (n+m) c')) w'):wpList Tryz.prog ops Q (o :: rest) a w:=by
 obtain ⟨i0,hi,hz0,hz1,hz2⟩:=info_parts eP
 cases B with
 | none =>
  have hm:m=0:=by
   rcases Nat.eq_zero_or_pos m with h0|h0
   ·exact h0
   ·obtain ⟨b,o',e,_⟩:=hr.2 h0
    cases e
  subst hm
  have hy:ys=[]:=List.eq_nil_of_length_eq_zero hr.1
  subst hy
  refine wpList_plain hgd fun K hK=>?_
  have hrun:=mY (P:=Tryz.prog) w base 27 o.type 3 i0 1 Tryz.underlying27 hi _ _ _ hown d
  unfold Oper.wp execOp
  simp only [ho,resolve,invoke,builtin,Sem.run_bind,Sem.run_pure,Result.andThen_ok,List.map_toArray,List.map_cons,List.map_nil,hs,hx,hrun]
  exact hK _ _ (h A c w (by simpa using hown) hB (iB _ _))
 | some ad =>
  refine wpList_append_own_at w hgd s x 27 ho base 3 i0 (.int .i64 0) 1 8 Tryz.underlying27 hi hz0 hz1 hz2 rfl (by omega) (.slice A n c) n _ hs hown ad m d (ys.map (Value.int .i64)) hx (by simp [hr.1])
   (fun j u hu=>?_) (fun u hu=>by simp at hu;obtain ⟨y,_,rfl⟩:=hu;rfl) (by unfold maxLen;omega) (by omega) hbase ?_
  ·have hj:j<m:=by
    have:=(List.getElem?_eq_some_iff.1 hu).1
    simpa [hr.1] using this
   obtain ⟨b,o',e,_,hc⟩:=hr.2 (by omega)
   injection e with e
   subst e
   rw [Addr.add_lit,hc j hj]
   have:j<ys.length:=by rw [hr.1];exact hj
   simp [this] at hu
   simp [this,←hu]
  ·intro v' w' h1 h2 _ _
   rw [fH] at h2
   have hB':Below base W w':=lC hB h2 (fun a ha=>(hown.lt a ha).1) (Nat.le_refl _) hbase
   rw [←List.map_append] at h1
   rcases h1.2 with ⟨rfl,h0⟩|⟨g,cap,cur,rfl,_⟩
   ·have e:n+m=0:=h0
    have:=h none 0 w' (by rw [e] at h1 ⊢;exact h1) hB' h2
    rwa [e] at this
   ·exact h (some ⟨g,0,none⟩) cap w' h1 hB' h2
theorem oM {ops:Array Oper} {rest:List Oper} {o:Oper} {a:Act} {Q:Exit→Act→World→Prop} {w W:World} (hgd:o.guard=none) (s x:Operand)
  (ho:o.op = .call { callee := .builtin .append,args:=#[s,x],argTypes:=#[26,26] })
  (lo hi:Nat) (A:Option Addr) (n c:Nat) (xss:List (List Int)) (base:Nat) (A1:Option Addr) (m1 c1:Nat) (xs:List Int) (hs:a.eval s = .slice A n c) (hown:bq lo hi w A n c xss) (hrow:Own base w A1 m1 c1 xs) (hx:a.eval x = .slice (some ⟨w.heap.size,0,none⟩) 1 1)
  (hn:n<=1099511627776) (hhb:hi<=base) (hlb:lo<=base) (hhw:hi<=w.heap.size) (hlw:lo<=w.heap.size) (hB:Below lo W w)
  (h:∀g cap w',bq lo w'.heap.size w' (some ⟨g,0,none⟩) (n+1) cap (xss++[xs])→Below lo W w' →
   wpList Tryz.prog ops Q rest (a.put o.dst (.slice (some ⟨g,0,none⟩) (n+1) cap)) w'):wpList Tryz.prog ops Q (o :: rest) a (w.alloc (.cells #[.slice A1 m1 c1] 27)):=by
 obtain ⟨i0,hi0,hz0,hz1,hz2⟩:=info_parts BN
 obtain ⟨vs,h1,h2,h3⟩:=hown
 have hl:=jI h1
 refine wpList_append_lies (w.alloc (.cells #[.slice A1 m1 c1] 27)) hgd s x 26 ho lo 27 i0 (.slice none 0 0) 1 24 Tryz.underlying26 hi0 hz0 hz1 hz2 rfl (by omega) (.slice A n c) n (vs.map SV.val) hs
  (aa h1 fun a ha=>Below.heap_alloc _ _ _ (hl a ha).2) ⟨w.heap.size,0,none⟩ 1 1 [.slice A1 m1 c1] hx rfl
  (fun j u hu=>?_) (fun u hu=>?_) (by omega) (by unfold maxLen;omega) (by omega) (by simp;omega) (w.heap.size+1) (by simp) ?_
 ·rcases j with _|j
  ·simp at hu
   subst hu
   rw [yH]
   unfold World.cell?
   rw [aL]
   rfl
  ·simp at hu
 ·simp at hu;subst hu;rfl
 ·intro g cap w' k1 k2 k3 k4
  rw [fH] at k2 k3
  have hkeep:∀k e cs f,k<w.heap.size→w.heap[k]?=some (.cells cs e f)→e=3→w'.heap[k]?=w.heap[k]?:=by
   intro k e cs f hk hh he
   refine (k2.block k (by simp;omega) ?_).trans (Below.heap_alloc _ _ _ hk)
   cases hA:A with
   | none=>simp
   | some a' =>
    simp only [Option.map_some,ne_eq,Option.some.injEq]
    rintro rfl
    rcases h1.2 with ⟨hv,_⟩|⟨g',cap',cur',hv,_,hh',_⟩
    ·injection hv with hv _ _
     rw [hA] at hv
     cases hv
    ·injection hv with hv _ _
     rw [hA] at hv
     injection hv with hv
     subst hv
     rw [hh] at hh'
     injection hh' with hh'
     injection hh' with _ hty
     rw [he] at hty
     exact absurd hty (by decide)
  have hin:fM lo hi w' vs xss:=h3.keep fun k e cs f hk _ _ hh he=>hkeep k e cs f hk hh he
  have hro:Own base w' A1 m1 c1 xs:=aa hrow fun a ha=>by
   have hla:=hrow.lt a ha
   rcases hrow.2 with ⟨hv,_⟩|⟨g',cap',cur',hv,_,hh',_⟩
   ·injection hv with hv _ _
    rw [hv] at ha
    cases ha
   ·injection hv with hv _ _
    rw [hv] at ha
    injection ha with ha
    subst ha
    exact hkeep g' _ _ _ hla.2 hh' rfl
  have hsz:w.heap.size<=w'.heap.size:=by have:=k2.size;simp at this;omega
  have hsn:=hin.snoc hro hhb hlb
  rw [Nat.max_eq_right (by omega)] at hsn
  refine h g cap w' ⟨vs++[(A1,m1,c1)],by simpa [SV.val] using k1,by rintro a ⟨⟩;exact k4,hsn⟩ ?_
  exact lC (base:=lo) (hB.alloc hlw _) k2 (fun a ha=>(hl a ha).1) (Nat.le_refl _) (by simp;omega)
end Go.Proofs.YtignkfhdkcgkgaaGreat
