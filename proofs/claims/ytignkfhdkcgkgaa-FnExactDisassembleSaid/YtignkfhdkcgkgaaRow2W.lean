/- How the laws' arguments read: structs of integers, slices of integers, bytes, slices of slices. Slices of slices of integers: reading, owning, copying, comparing, marking. The laws' helpers on slices of slices of integers. -/
import Derived.ChangeOld
import Derived.Deep.Matrix
import Derived.Lib.SmallJoins
import Derived.OpenShut
import Derived.ProofKit
import Derived.ShutString
import Derived.Test.YtignkfhdkcgkgaaBase
import Derived.Test.YtignkfhdkcgkgaaHar
namespace Go.Proofs.Ytignkfhdkcgkgaa
set_option maxRecDepth 100000
open Go.RowKit Go.ChangeShapes Go.WideShapes Go.ChangeAt

theorem Try.own:ownKnob Try.prog.godebug=none:=by kernel_rfl
theorem Try.laidOut:laidOutB Try.prog=true:=by kernel_rfl

def Wf (a:Int):Prop:=-9223372036854775808≤a∧a≤9223372036854775807
theorem wf_of {a:Int} (h:(Lit.int .i64 a).wf=true):Wf a:=by
 simp [Lit.wf,IntKind.min,IntKind.max,IntKind.signed,IntKind.bits] at h
 exact h
def Dev.wf (d:Dev):Prop:=Wf d.W∧Wf d.H∧Wf d.T∧Wf d.R
def Reg.wf (d:Reg):Prop:=Wf d.X0∧Wf d.Y0∧Wf d.X1∧Wf d.Y1

section
variable {H:Type} {enc:TypeId × Value→H} {W:World} {b0 base:Nat} {spare:Nat→Bool} {held:Bool}
theorem open_dev {v:Value} {d:DataW H} {p:List MemPlace} (hv:Value.okWide Try.prog W .any b0 23 v) (h:DataW.Trod enc Try.prog W base spare held 23 v d p) :
  ∃a:Dev,v = .agg #[.int .i64 a.W,.int .i64 a.H,.int .i64 a.T,.int .i64 a.R]∧a.wf:=by
 obtain ⟨v0,v1,v2,v3,y0,y1,y2,y3,n,rfl,_,_,h0,h1,h2,h3⟩:=Joins.open_agg4 Try.underlying23 (by kernel_rfl) (by kernel_rfl) hv h
 obtain ⟨a0,e0,_,w0⟩:=DataW.trod_int Try.underlying3 h0
 obtain ⟨a1,e1,_,w1⟩:=DataW.trod_int Try.underlying3 h1
 obtain ⟨a2,e2,_,w2⟩:=DataW.trod_int Try.underlying3 h2
 obtain ⟨a3,e3,_,w3⟩:=DataW.trod_int Try.underlying3 h3
 simp only [List.cons.injEq,and_true] at e0 e1 e2 e3
 subst e0 e1 e2 e3
 exact ⟨⟨a0,a1,a2,a3⟩,rfl,wf_of w0,wf_of w1,wf_of w2,wf_of w3⟩


theorem cell_lt {w:World} {a:Addr} {v:Value} (h:w.cell? a=some v):a.block<w.heap.size:=by
 rcases Nat.lt_or_ge a.block w.heap.size with hlt|hge
 ·exact hlt
 ·unfold World.cell? at h
  rw [Array.getElem?_eq_none hge] at h
  cases h
theorem add_lit0 (a:Addr):a.add 0=a:=by simp [Addr.add]

theorem ints_of {a:Addr} {n cap:Nat} {zs:List Int} (hl:n≤cap) (hz:zs.length=cap) (hc:∀i,i<zs.length→W.cell? (a.add i)=some (.int .i64 (zs.getD i 0))):Ints W (some a) n (zs.take n):=by
 refine ⟨by simp;omega,fun hn=>?_⟩
 have h0:=hc 0 (by omega)
 rw [add_lit0] at h0
 obtain ⟨b,o,s⟩:=a
 have hs:s=none:=World.cell?_spot h0
 subst hs
 refine ⟨b,o,rfl,cell_lt h0,fun j hj=>?_⟩
 have:=hc j (by omega)
 rw [Addr.add_lit] at this
 rw [this,List.getElem?_take,if_pos hj]
 rfl

end
end Go.Proofs.Ytignkfhdkcgkgaa

namespace Go.Proofs.Ytignkfhdkcgkgaa
set_option maxRecDepth 100000
open Go.RowKit

/-- A slice's value by its three parts. -/
abbrev SV:=Option Addr × Nat × Nat
def SV.val (v:SV):Value := .slice v.1 v.2.1 v.2.2

def Rows2 (w:World) (A:Option Addr) (n:Nat) (xss:List (List Int)):Prop :=
 xss.length=n∧(0<n→∃b o,A=some ⟨b,o,none⟩∧b<w.heap.size∧∀j,j<n→∃A' m c,w.cell? ⟨b,o+j,none⟩=some (.slice A' m c)∧Ints w A' m (xss[j]?.getD []))
theorem Rows2.below {w w':World} {A:Option Addr} {n:Nat} {xss:List (List Int)} (h:Rows2 w A n xss) (hb:Below w.heap.size w w'):Rows2 w' A n xss:=by
 refine ⟨h.1,fun hn=>?_⟩
 obtain ⟨b,o,e,hlt,hc⟩:=h.2 hn
 refine ⟨b,o,e,below_lt hb hlt,fun j hj=>?_⟩
 obtain ⟨A',m,c,h1,h2⟩:=hc j hj
 exact ⟨A',m,c,(hb.cell (p:=⟨b,o+j,none⟩) hlt).trans h1,h2.below hb⟩

/-- The rows within a slice of slices: each the call's own, no two in one block. -/
def Inner (lo hi:Nat) (w:World) (vs:List SV) (xss:List (List Int)):Prop :=
 vs.length=xss.length∧(∀(j:Nat) (v:SV),vs[j]?=some v→Own lo w v.1 v.2.1 v.2.2 (xss[j]?.getD [])∧∀a:Addr,v.1=some a→a.block<hi) ∧
 ∀(i j:Nat) (u v:SV),i<j→vs[i]?=some u→vs[j]?=some v→∀a b:Addr,u.1=some a→v.1=some b→a.block≠b.block
theorem Inner.nil {lo hi:Nat} {w:World}:Inner lo hi w [] []:=⟨rfl,fun j v h=>by simp at h,fun i j u v _ h=>by simp at h⟩
theorem Inner.keep {lo hi:Nat} {w w':World} {vs:List SV} {xss:List (List Int)} (h:Inner lo hi w vs xss) (hk:∀k e cs f,k<w.heap.size→lo≤k→k<hi→w.heap[k]?=some (.cells cs e f)→e=3→w'.heap[k]?=w.heap[k]?):Inner lo hi w' vs xss:=by
 refine ⟨h.1,fun j v hv=>?_,h.2.2⟩
 obtain ⟨h1,h2⟩:=h.2.1 j v hv
 refine ⟨ownsRow_block h1 fun a ha=>?_,h2⟩
 have hl:=h1.lt a ha
 rcases h1.2 with ⟨hn,_⟩|⟨g,cap,cur,hv',hb,hh,_⟩
 ·injection hn with hn _ _
  rw [hn] at ha
  cases ha
 ·injection hv' with hA _ _
  rw [hA] at ha
  injection ha with ha
  subst ha
  exact hk g _ _ _ hl.2 hb (h2 _ hA) hh rfl
theorem Inner.below {lo hi:Nat} {w w':World} {vs:List SV} {xss:List (List Int)} (h:Inner lo hi w vs xss) (hb:Below w.heap.size w w'):Inner lo hi w' vs xss :=
 h.keep fun k _ _ _ hk _ _ _ _=>hb.block k hk
theorem Inner.put {lo hi:Nat} {w:World} {vs:List SV} {xss:List (List Int)} (h:Inner lo hi w vs xss) {g:Nat} {cs:Array Value} {f:Nat × Nat} (hg:w.heap[g]?=some (.cells cs 28 f)) (j:Nat) (v:Value):Inner lo hi (w.setCell ⟨g,j,none⟩ v) vs xss :=
 h.keep fun k e cs' f' _ _ _ hk he=>Below.heap_setCell _ _ _ _ (by
  rintro rfl
  rw [hg] at hk
  injection hk with hk
  injection hk with _ ht
  rw [he] at ht
  exact absurd ht (by decide))
theorem Inner.widen {lo hi hi':Nat} {w:World} {vs:List SV} {xss:List (List Int)} (h:Inner lo hi w vs xss) (hh:hi≤hi'):Inner lo hi' w vs xss :=
 ⟨h.1,fun j v hv=>⟨(h.2.1 j v hv).1,fun a ha=>Nat.lt_of_lt_of_le ((h.2.1 j v hv).2 a ha) hh⟩,h.2.2⟩
theorem Inner.lower {lo lo' hi:Nat} {w:World} {vs:List SV} {xss:List (List Int)} (h:Inner lo hi w vs xss) (hh:lo'≤lo):Inner lo' hi w vs xss :=
 ⟨h.1,fun j v hv=>⟨(h.2.1 j v hv).1.more hh,(h.2.1 j v hv).2⟩,h.2.2⟩
theorem Inner.snoc {lo hi base:Nat} {w:World} {vs:List SV} {xss:List (List Int)} (h:Inner lo hi w vs xss) {A:Option Addr} {m c:Nat} {xs:List Int} (o:Own base w A m c xs) (hb:hi≤base) (hlo:lo≤base) :
  Inner lo (max hi w.heap.size) w (vs++[(A,m,c)]) (xss++[xs]):=by
 have hl:=h.1
 refine ⟨by simp [hl],fun j v hv=>?_,fun i j u v hij hu hv a b ha hb'=>?_⟩
 ·rw [List.getElem?_append] at hv
  split at hv
  ·rename_i hj
   obtain ⟨h1,h2⟩:=h.2.1 j v hv
   refine ⟨?_,fun a ha=>by have:=h2 a ha;omega⟩
   rw [List.getElem?_append_left (by omega)]
   exact h1
  ·rename_i hj
   have hj':j - vs.length=0:=by
    rcases Nat.eq_zero_or_pos (j - vs.length) with h0|h0
    ·exact h0
    ·simp [show j - vs.length≠0 by omega] at hv
   rw [hj'] at hv
   simp at hv
   subst hv
   refine ⟨?_,fun a ha=>by have:=(o.lt a ha).2;omega⟩
   rw [List.getElem?_append_right (by omega),show j - xss.length=0 by omega]
   exact o.more hlo
 ·rw [List.getElem?_append] at hu hv
  split at hv
  ·rename_i hj
   rw [if_pos (by omega)] at hu
   exact h.2.2 i j u v hij hu hv a b ha hb'
  ·rename_i hj
   have hj':j - vs.length=0:=by
    rcases Nat.eq_zero_or_pos (j - vs.length) with h0|h0
    ·exact h0
    ·simp [show j - vs.length≠0 by omega] at hv
   rw [hj'] at hv
   simp at hv
   subst hv
   rw [if_pos (by omega)] at hu
   have h1:=(h.2.1 i u hu).2 a ha
   have h2:=(o.lt b hb').1
   omega

def Own2 (lo hi:Nat) (w:World) (A:Option Addr) (n c:Nat) (xss:List (List Int)):Prop :=
 ∃vs:List SV,w.ownsRow lo 28 1 (.slice A n c) n (vs.map SV.val)∧(∀a:Addr,A=some a→a.block<hi)∧Inner lo hi w vs xss
theorem Own2.nil {lo hi:Nat} {w:World}:Own2 lo hi w none 0 0 []:=⟨[],⟨rfl,.inl ⟨rfl,rfl⟩⟩,by simp,Inner.nil⟩
theorem ownsRow_lt {base:Nat} {w:World} {A:Option Addr} {e:TypeId} {n c:Nat} {vs:List Value} (h:w.ownsRow base e 1 (.slice A n c) n vs):∀a,A=some a→base≤a.block∧a.block<w.heap.size:=by
 rintro a rfl
 rcases h.2 with ⟨hv,_⟩|⟨g,cap,cur,hv,hb,hh,_⟩
 ·cases hv
 ·injection hv with hA
  injection hA with hA
  subst hA
  exact ⟨hb,heap_lt0 hh⟩
theorem Own2.len {lo hi:Nat} {w:World} {A:Option Addr} {n c:Nat} {xss:List (List Int)} (h:Own2 lo hi w A n c xss):xss.length=n:=by
 obtain ⟨vs,h1,_,h2⟩:=h
 have:=h1.1
 rw [←h2.1]
 simpa using this
theorem Own2.below {lo hi:Nat} {w w':World} {A:Option Addr} {n c:Nat} {xss:List (List Int)} (h:Own2 lo hi w A n c xss) (hb:Below w.heap.size w w'):Own2 lo hi w' A n c xss:=by
 obtain ⟨vs,h1,h2,h3⟩:=h
 exact ⟨vs,ownsRow_block h1 fun a ha=>hb.block _ (ownsRow_lt h1 a ha).2,h2,h3.below hb⟩
theorem Own2.drewd {lo hi:Nat} {w:World} {A:Option Addr} {n c:Nat} {xss:List (List Int)} (h:Own2 lo hi w A n c xss):Own2 lo hi w.drew A n c xss:=h
theorem Own2.rd {lo hi:Nat} {w:World} {A:Option Addr} {n c:Nat} {xss:List (List Int)} (h:Own2 lo hi w A n c xss):Rows2 w A n xss:=by
 refine ⟨h.len,fun hn=>?_⟩
 have hlen:=h.len
 obtain ⟨vs,h1,h2,h3⟩:=h
 rcases h1.2 with ⟨_,h0⟩|⟨g,cap,cur,hv,hb,hh,hnc,hcap,hsz,ht⟩
 ·omega
 ·injection hv with hA
  subst hA
  refine ⟨g,0,rfl,heap_lt0 hh,fun j hj=>?_⟩
  have hvl:vs.length=n:=by rw [h3.1];exact hlen
  have hvj:vs[j]?=some (vs[j]'(by omega)):=List.getElem?_eq_getElem (by omega)
  refine ⟨(vs[j]'(by omega)).1,(vs[j]'(by omega)).2.1,(vs[j]'(by omega)).2.2,?_,(h3.2.1 j _ hvj).1.ints⟩
  have hx:(vs.map SV.val)[j]?=some (SV.val (vs[j]'(by omega))):=by rw [List.getElem?_map,hvj];rfl
  rw [←ht,List.getElem?_take] at hx
  simp only [Nat.mul_one] at hx
  rw [if_pos hj] at hx
  unfold World.cell?
  simp only [Nat.zero_add]
  rw [hh]
  rw [Array.getElem?_toList] at hx
  exact hx
end Go.Proofs.Ytignkfhdkcgkgaa

namespace Go.Proofs.Ytignkfhdkcgkgaa
set_option maxRecDepth 100000
open Go.RowKit

theorem slc_info:(Try.prog.info? 28).map (fun i=>(i.zero,i.size,i.bytes))=some (some (.slice none 0 0),1,24):=by kernel_rfl

/-! ### sizes -/
def sizeTo (xss:List (List Int)):Nat→Nat
 | 0=>0
 | k+1=>sizeTo xss k+(xss[k]?.getD []).length
def size2 (xss:List (List Int)):Nat:=xss.length+sizeTo xss xss.length
theorem sizeTo_mono (xss:List (List Int)) {j k:Nat} (h:j<k):sizeTo xss j+(xss[j]?.getD []).length≤sizeTo xss k:=by
 induction k with
 | zero=>omega
 | succ k ih =>
  rcases Nat.lt_or_ge j k with h1|h1
  ·have:=ih h1
   simp only [sizeTo]
   omega
  ·obtain rfl:j=k:=by omega
   exact Nat.le_refl _
theorem sizeTo_le (xss:List (List Int)) {j k:Nat} (h:j≤k):sizeTo xss j≤sizeTo xss k:=by
 rcases Nat.lt_or_ge j k with h1|h1
 ·have:=sizeTo_mono xss h1;omega
 ·obtain rfl:j=k:=by omega
  exact Nat.le_refl _
theorem size2_row {xss:List (List Int)} {j:Nat} (h:j<xss.length):(xss[j]?.getD []).length≤size2 xss:=by
 have:=sizeTo_mono xss h
 unfold size2
 omega
theorem size2_bd {xss:List (List Int)} {n M:Nat} (hx:xss.length=n) (h:size2 xss≤M):n≤M∧∀j:Nat,(xss[j]?.getD []).length≤M:=by
 refine ⟨by unfold size2 at h;omega,fun j=>?_⟩
 rcases Nat.lt_or_ge j xss.length with h1|h1
 ·exact Nat.le_trans (size2_row h1) h
 ·simp [List.getElem?_eq_none h1]
def leftOf (L:Int) (s:Nat):Int:=if (s:Int)≤L then L - s else -1
theorem leftOf_neg {L:Int} {s:Nat} (h:¬(s:Int)≤L):leftOf L s=-1:=if_neg h
theorem leftOf_pos {L:Int} {s:Nat} (h:(s:Int)≤L):leftOf L s=L - s:=if_pos h

set_option maxHeartbeats 400000 in
theorem szIntS_any (A:Option Addr) (n c:Nat) (L:Int) (w:World) (hL:0≤L) (hL':L≤1099511627776) (hn:n≤9223372036854775807) :
  Calls Try.prog 17 #[.slice A n c,.int .i64 L] w fun e w'=>e = .returned (.int .i64 (leftOf L n))∧w=w':=by
 by_cases h:(n:Int)≤L
 ·have hd:decide (L - (n:Int)<0)=false:=by simp;omega
  have hl:=Lib.hid (leftOf_pos h)
  go_enter Try.func17,Try.ntmps17
  go_wp2_with fail
  go_ret
  exact ⟨ret_int hl.out.symm,rfl⟩
 ·have hd:decide (L - (n:Int)<0)=true:=by simp;omega
  have hl:=Lib.hid (leftOf_neg h)
  go_enter Try.func17,Try.ntmps17
  go_wp2_with fail
  go_ret
  exact ⟨ret_int hl.out.symm,rfl⟩

set_option maxHeartbeats 1000000 in
theorem szIntSS_any (A:Option Addr) (n c:Nat) (xss:List (List Int)) (L:Int) (w:World) (h:Rows2 w A n xss) (hL:0≤L) (hL':L≤1099511627776) (hn:n≤9223372036854775807) (hrow:∀j:Nat,(xss[j]?.getD []).length≤9223372036854775807) :
  Calls Try.prog 4 #[.slice A n c,.int .i64 L] w fun e w'=>e = .returned (.int .i64 (leftOf L (size2 xss)))∧w=w':=by
 obtain ⟨hx,hA⟩:=h
 have HX:=Lib.hid hx
 have HR:=Lib.hid hrow
 clear hx hrow
 by_cases h0:(n:Int)≤L
 ·have hd:decide (L - (n:Int)<0)=false:=by simp;omega
  go_enter Try.func4,Try.ntmps4
  go_wp2_with fail
  go_loop [1,5] (fun v i=>∃k:Nat,k≤n∧i = .int .i64 k∧v = .int .i64 (L - n - sizeTo xss k)∧(sizeTo xss k:Int)≤L - n) (fun _ i=>n - (intOf i).toNat)
  case atStart=>exact ⟨0,Nat.zero_le _,rfl,by simp [sizeTo],by simp [sizeTo];omega⟩
  case round =>
   obtain ⟨k,hk,rfl,rfl,hle⟩:=hrel
   by_cases hlt:k<n
   ·obtain ⟨b,o,rfl,hb,hc⟩:=hA (by omega)
    obtain ⟨A',m,c',hck,hI⟩:=hc k hlt
    have hm:m=(xss[k]?.getD []).length:=hI.1.symm
    have hm':m≤9223372036854775807:=by have:=HR.out k;omega
    have hs:sizeTo xss (k+1)=sizeTo xss k+m:=by rw [sizeTo,hm]
    have hfit:(sizeTo xss k+m:Nat)≤sizeTo xss n:=by rw [←hs];exact sizeTo_le xss (by omega)
    have HS:=Lib.hid hs
    have HF:=Lib.hid hfit
    clear hc hm hI hs hfit
    generalize sizeTo xss k=s at *
    go_wp2_with fail
    refine (szIntS_any A' m c' _ _ (by omega) (by omega) hm').mono ?_
    rintro e w' ⟨rfl,rfl⟩
    by_cases h1:(m:Int)≤L - n - s
    ·rw [leftOf_pos h1]
     have hd2:decide (L - (n:Int) - s - m<0)=false:=by simp;omega
     go_wp2_with fail
     go_round
     case rel=>exact ⟨k+1,by omega,by go_num,by rw [HS.out];congr 1;omega,by rw [HS.out];omega⟩
     case measure=>simp [intOf];omega
    ·rw [leftOf_neg h1]
     go_wp2_with fail
     go_ret
     exact ⟨ret_int (by rw [leftOf_neg];have:=HF.out;unfold size2;rw [HX.out];omega),rfl⟩
   ·have hkn:k=n:=by omega
    subst hkn
    go_wp2_with fail
    go_ret
    exact ⟨ret_int (by rw [leftOf_pos (by unfold size2;rw [HX.out];omega)];unfold size2;rw [HX.out];omega),rfl⟩
 ·have hd:decide (L - (n:Int)<0)=true:=by simp;omega
  go_enter Try.func4,Try.ntmps4
  go_wp2_with fail
  go_ret
  exact ⟨ret_int (by rw [leftOf_neg];unfold size2;rw [HX.out];omega),rfl⟩

/-! ### comparing -/
set_option maxHeartbeats 1000000 in
theorem eqIntSS_same (A B:Option Addr) (n m c d:Nat) (xss:List (List Int)) (w:World) (hA:Rows2 w A n xss) (hB:Rows2 w B m xss) (hz:size2 xss≤1099511627776) :
  Calls Try.prog 11 #[.slice A n c,.slice B m d] w fun e w'=>e = .returned (.bool true)∧Below w.heap.size w w':=by
 obtain ⟨hx,hA⟩:=hA
 obtain ⟨hy,hB⟩:=hB
 obtain ⟨hn,hrow⟩:n≤1099511627776∧∀j:Nat,(xss[j]?.getD []).length≤1099511627776:=size2_bd hx hz
 obtain rfl:m=n:=by omega
 have HX:=Lib.hid hx
 have HR:=Lib.hid hrow
 clear hx hy hrow
 go_enter Try.func11,Try.ntmps11
 go_wp2_with fail
 go_loopw [5] (fun i wr=>∃k:Nat,k≤m∧i = .int .i64 k∧Below w.heap.size w wr) (fun i _=>m - (intOf i).toNat)
 case atStart=>exact ⟨0,Nat.zero_le _,rfl,Below.refl _ _⟩
 case round =>
  obtain ⟨k,hk,rfl,hbe⟩:=hrel
  by_cases hlt:k<m
  ·obtain ⟨b,o,rfl,hb,hc⟩:=hA (by omega)
   obtain ⟨b',o',rfl,hb',hc'⟩:=hB (by omega)
   obtain ⟨A1,m1,c1,hck,hI1⟩:=hc k hlt
   obtain ⟨A2,m2,c2,hck',hI2⟩:=hc' k hlt
   rw [←hbe.cell (p:=⟨b,o+k,none⟩) hb] at hck
   rw [←hbe.cell (p:=⟨b',o'+k,none⟩) hb'] at hck'
   have J1:=Lib.hid (hI1.below hbe).drewd
   have J2:=Lib.hid (hI2.below hbe).drewd
   have hm1:m1≤1099511627776:=by have:=HR.out k;have:=hI1.1;omega
   have hi0:(0:Int)≤(k:Int):=by omega
   have hi1:(k:Int)<(m:Int):=by omega
   have HE:=Lib.hid hbe.drew
   clear hc hc' hI1 hI2 hbe
   go_wp2_with fail
   go_region_held3 (fun w'=>w'.cell? ⟨b,o+k,none⟩=some (.slice A1 m1 c1)∧w'.cell? ⟨b',o'+k,none⟩=some (.slice A2 m2 c2)∧Below w.heap.size w w')
    (first|exact ⟨hck,hck',HE.out⟩|exact ⟨(b3.cell (p:=⟨b,o+k,none⟩) (Nat.lt_of_lt_of_le hb HE.out.size)).trans hck,(b3.cell (p:=⟨b',o'+k,none⟩) (Nat.lt_of_lt_of_le hb' HE.out.size)).trans hck',below_tr HE.out b3⟩)
    (first|(go_at_call 10;refine (eqIntS_same A1 A2 m1 m2 c1 c2 _ _ J1.out J2.out hm1).mono ?_;rintro e w3 ⟨rfl,b3⟩))
   rename_i hH
   obtain ⟨_,_,hE3⟩:=hH
   go_wp2_with fail
   go_roundw
   case rel=>exact ⟨k+1,by omega,by go_num,hE3⟩
   case measure=>simp [intOf];omega
  ·have hkn:k=m:=by omega
   subst hkn
   go_wp2_with fail
   go_ret
   exact ⟨rfl,hbe⟩

theorem rows_len {xss:List (List Int)} (h:∀ys∈xss,ys.length≤maxLen∧∀y∈ys,Wf y):∀j:Nat,(xss[j]?.getD []).length≤9223372036854775807:=by
 intro j
 rcases Nat.lt_or_ge j xss.length with h1|h1
 ·rw [List.getElem?_eq_getElem h1]
  exact (h _ (List.getElem_mem h1)).1
 ·simp [List.getElem?_eq_none h1]

/-! ### copying -/
def filled (vs:List SV) (n:Nat):Array Value:=(vs.map SV.val++List.replicate (n - vs.length) (Value.slice none 0 0)).toArray
theorem filled_zero (n:Nat):filled [] n=madeCells #[Value.slice none 0 0] n:=by
 apply Array.ext'
 rw [toList_madeCells_one]
 simp [filled]
theorem filled_get {vs:List SV} {n:Nat} (h:vs.length<n):(filled vs n)[vs.length]?=some (.slice none 0 0):=by
 simp only [filled,List.getElem?_toArray]
 rw [List.getElem?_append_right (by simp)]
 simp only [List.length_map,Nat.sub_self,List.getElem?_replicate]
 rw [if_pos (by omega)]
theorem filled_set {vs:List SV} {n:Nat} (h:vs.length<n) (v:SV):(filled vs n).setIfInBounds vs.length v.val=filled (vs++[v]) n:=by
 apply Array.ext'
 have e:n - vs.length=(n - (vs.length+1))+1:=by omega
 simp only [filled,List.setIfInBounds_toArray]
 rw [List.set_append,if_neg (by simp)]
 simp only [List.length_map,Nat.sub_self,e,List.replicate_succ,List.set_cons_zero,List.map_append,List.map_cons,List.map_nil,List.length_append,List.length_cons,List.length_nil,List.append_assoc,List.cons_append,List.nil_append,Nat.zero_add]
theorem filled_full {vs:List SV} {n:Nat} (h:vs.length=n):(filled vs n).toList=vs.map SV.val:=by
 simp [filled,h]
theorem filled_size {vs:List SV} {n:Nat} (h:vs.length≤n):(filled vs n).size=n:=by
 simp [filled];omega
theorem Own2.made {w:World} {lo hi g n:Nat} {vs:List SV} {xss:List (List Int)} (hh:w.heap[g]?=some (.cells (filled vs n) 28 (0,0))) (hb:lo≤g) (hg:g<hi) (hn:n≤maxLen) (hl:vs.length=n) (hi':Inner lo hi w vs xss):Own2 lo hi w (some ⟨g,0,none⟩) n n xss :=
 ⟨vs,⟨by simp [hl],.inr ⟨g,n,_,rfl,hb,hh,Nat.le_refl _,hn,by rw [filled_size (by omega)];omega,by rw [filled_full hl,List.take_of_length_le (by simp [hl])]⟩⟩,by rintro a ⟨⟩;exact hg,hi'⟩
theorem take_snoc_row {xss:List (List Int)} {k:Nat} (h:k<xss.length):xss.take (k+1)=xss.take k++[xss[k]?.getD []]:=by
 rw [List.take_succ_eq_append_getElem h,List.getElem?_eq_getElem h]
 rfl

set_option maxHeartbeats 1000000 in
theorem toIntSS_any (A:Option Addr) (n c:Nat) (xss:List (List Int)) (w:World) (h:Rows2 w A n xss) (hz:size2 xss≤16777216) :
  Calls Try.prog 7 #[.slice A n c] w fun e w'=>∃A',e = .returned (.slice A' n n)∧Own2 w.heap.size w'.heap.size w' A' n n xss∧Below w.heap.size w w':=by
 obtain ⟨i0,hi,hz0,hz1,hz2⟩:=info_parts slc_info
 obtain ⟨hn,hrow⟩:n≤16777216∧∀j:Nat,(xss[j]?.getD []).length≤16777216:=size2_bd h.1 hz
 have hmk:=fun W=>run_make_rowN (P:=Try.prog) 24 28 i0 _ Try.underlying24 hi hz0 .i64 .i64 n n (Nat.le_refl _) (by rw [hz2];omega) (by omega) W
 rw [hz1,Nat.mul_one,show (Value.slice none 0 0).cells=#[Value.slice none 0 0] from rfl,←filled_zero n] at hmk
 clear hi hz0 hz1 hz2
 obtain ⟨hx,hA⟩:=h
 have HX:=Lib.hid hx
 have HR:=Lib.hid hrow
 clear hx hrow
 go_enter Try.func7,Try.ntmps7
 go_wp2_with fail
 go_loopw [4] (fun i wr=>∃(k:Nat) (vs:List SV),k≤n∧i = .int .i64 k∧vs.length=k∧wr.heap[w.heap.size]?=some (.cells (filled vs n) 28 (0,0))∧Inner w.heap.size wr.heap.size wr vs (xss.take k)∧Below w.heap.size w wr) (fun i _=>n - (intOf i).toNat)
 case atStart=>exact ⟨0,[],Nat.zero_le _,rfl,rfl,heap_new _ _,by simpa using Inner.nil,below_new (Below.refl _ _) _⟩
 case round =>
  obtain ⟨k,vs,hk,rfl,hvl,hh,hin,hbe⟩:=hrel
  have HV:=Lib.hid hvl
  have HIN:=Lib.hid hin
  have HE:=Lib.hid hbe
  have hB0:=heap_lt0 hh
  have HH:=Lib.hid hh
  clear hvl hin hh
  by_cases hlt:k<n
  ·obtain ⟨b,o,rfl,hb,hc⟩:=hA (by omega)
   obtain ⟨A1,m1,c1,hck,hI1⟩:=hc k hlt
   rw [←hbe.cell (p:=⟨b,o+k,none⟩) hb] at hck
   have J1:=Lib.hid (hI1.below hbe)
   have hm1:m1≤16777216:=by have:=HR.out k;have:=hI1.1;omega
   clear hc hI1 hbe
   go_wp2_with fail
   refine (toIntS_any A1 m1 c1 _ _ J1.out hm1).mono ?_
   rintro e w2 ⟨A2,rfl,o2,b2⟩
   have H2:=Lib.hid ((b2.block _ hB0).trans HH.out)
   have O2:=Lib.hid o2
   have B2:=Lib.hid b2
   have hcell2:w2.cell? ⟨w.heap.size,k,none⟩=some (.slice none 0 0):=by
    unfold World.cell?
    rw [H2.out]
    have:=filled_get (vs:=vs) (n:=n) (by rw [HV.out];exact hlt)
    rw [HV.out] at this
    exact this
   have hfz:w2.frozen? ⟨w.heap.size,k,none⟩=false:=by
    unfold World.frozen?
    rw [H2.out]
    simp
   have hs2:=b2.size
   clear o2 b2 hck
   go_wp2_with fail
   go_roundw
   case rel =>
    have hset:=heap_set H2.out k (SV.val (A2,m1,m1))
    rw [show (filled vs n).setIfInBounds k (SV.val (A2,m1,m1))=filled (vs++[(A2,m1,m1)]) n by rw [←filled_set (by rw [HV.out];exact hlt),HV.out]] at hset
    refine ⟨k+1,vs++[(A2,m1,m1)],by omega,by go_num,by simp [HV.out],hset,?_,(below_tr HE.out B2.out).setCell (p:=⟨w.heap.size,k,none⟩) (Nat.le_refl _) _⟩
    rw [take_snoc_row (by rw [HX.out];exact hlt)]
    have hsn:=(HIN.out.below B2.out).snoc O2.out (Nat.le_refl _) HE.out.size
    rw [Nat.max_eq_right hs2] at hsn
    have:=hsn.put H2.out k (SV.val (A2,m1,m1))
    rw [show ∀(p:Addr) (v:Value),(w2.setCell p v).heap.size=w2.heap.size from fun p v=>by simp [World.setCell]]
    exact this
   case measure=>simp [intOf];omega
  ·have hkn:k=n:=by omega
   subst hkn
   go_wp2_with fail
   go_ret
   exact ⟨_,rfl,Own2.made HH.out (Nat.le_refl _) hB0 (by unfold maxLen;omega) HV.out (by have:=HIN.out;rwa [List.take_of_length_le (by rw [HX.out];exact Nat.le_refl _)] at this),HE.out⟩

/-! ### marking -/
theorem Own2.rowX {lo hi:Nat} {w:World} {A:Option Addr} {n c k:Nat} {yss:List (List Int)} (h:Own2 lo hi w A n c yss) (hk:k<n) :
  ∃b A1 m1 c1,A=some ⟨b,0,none⟩∧w.cell? ⟨b,k,none⟩=some (.slice A1 m1 c1)∧w.frozen? ⟨b,k,none⟩=false∧Own lo w A1 m1 c1 (yss[k]?.getD [])∧Lies A1 lo hi ∧
   (∀w' zs,w.grownBy w' (A1.map (·.block))→Own lo w' A1 m1 c1 zs→Own2 lo hi w' A n c (yss.set k zs))∧(∀a,A1=some a→a.block≠b)∧lo≤b∧b<hi∧b<w.heap.size:=by
 have hlen:=h.len
 obtain ⟨vs,h1,h2,h3⟩:=h
 have hvl:vs.length=n:=by rw [h3.1];exact hlen
 have hvk:vs[k]?=some (vs[k]'(by omega)):=List.getElem?_eq_getElem (by omega)
 generalize vs[k]'(by omega)=v at hvk
 have hr:=h1.2
 rcases hr with ⟨_,h0⟩|⟨g,cap,cur,hv,hb,hh,hnc,hcap,hsz,ht⟩
 ·omega
 ·injection hv with hA
  subst hA
  obtain ⟨hok,hhi⟩:=h3.2.1 k v hvk
  have hcur:cur[k]?=some (SV.val v):=by
   have hx:(vs.map SV.val)[k]?=some (SV.val v):=by rw [List.getElem?_map,hvk];rfl
   rw [←ht,List.getElem?_take] at hx
   simp only [Nat.mul_one] at hx
   rw [if_pos hk,Array.getElem?_toList] at hx
   exact hx
  have hne:∀a,v.1=some a→a.block≠g:=by
   rintro a ha rfl
   rcases hok.2 with ⟨hn,_⟩|⟨g',cap',cur',hv',_,hh',_⟩
   ·injection hn with hn _ _
    rw [hn] at ha
    cases ha
   ·injection hv' with hA' _ _
    rw [hA'] at ha
    injection ha with ha
    subst ha
    rw [hh] at hh'
    injection hh' with hh'
    injection hh' with _ hty
    exact absurd hty (by decide)
  refine ⟨g,v.1,v.2.1,v.2.2,rfl,by unfold World.cell?;rw [hh];exact hcur,by unfold World.frozen?;rw [hh];simp,hok,fun a ha=>⟨(hok.lt a ha).1,hhi a ha⟩,fun w' zs hg ho=>?_,hne,hb,h2 _ rfl,heap_lt0 hh⟩
  refine ⟨vs,ownsRow_block h1 fun a ha=>?_,h2,by rw [List.length_set];exact h3.1,fun j u hu=>?_,h3.2.2⟩
  ·injection ha with ha
   subst ha
   refine hg.block g (heap_lt0 hh) ?_
   cases hv1:v.1 with
   | none=>simp
   | some a=>simpa using fun e=>hne a hv1 e.symm
  ·obtain ⟨q1,q2⟩:=h3.2.1 j u hu
   refine ⟨?_,q2⟩
   by_cases hjk:j=k
   ·subst hjk
    rw [hvk] at hu
    injection hu with hu
    subst hu
    rw [List.getElem?_set_self (by omega)]
    exact ho
   ·rw [List.getElem?_set_ne (by omega)]
    refine ownsRow_block q1 fun a ha=>hg.block _ (q1.lt a ha).2 ?_
    cases hv1:v.1 with
    | none=>simp
    | some a' =>
     simp only [Option.map_some,ne_eq,Option.some.injEq]
     rcases Nat.lt_or_gt_of_ne hjk with hjk|hjk
     ·exact fun e=>h3.2.2 j k u v hjk hu hvk a a' ha hv1 e
     ·exact fun e=>h3.2.2 k j v u hjk hvk hu a' a hv1 ha e.symm

theorem Own2.row {lo hi:Nat} {w:World} {A:Option Addr} {n c k:Nat} {yss:List (List Int)} (h:Own2 lo hi w A n c yss) (hk:k<n) :
  ∃b A1 m1 c1,A=some ⟨b,0,none⟩∧w.cell? ⟨b,k,none⟩=some (.slice A1 m1 c1)∧w.frozen? ⟨b,k,none⟩=false∧Own lo w A1 m1 c1 (yss[k]?.getD [])∧Lies A1 lo hi ∧
   ∀w' zs,w.grownBy w' (A1.map (·.block))→Own lo w' A1 m1 c1 zs→Own2 lo hi w' A n c (yss.set k zs):=by
 obtain ⟨b,A1,m1,c1,h1,h2,h3,h4,h5,h6,_⟩:=h.rowX hk
 exact ⟨b,A1,m1,c1,h1,h2,h3,h4,h5,h6⟩

def mark2 (k0:Int) (xss:List (List Int)) (k:Nat):List (List Int) :=
 (List.range xss.length).map fun j=>if j<k then iota (k0+sizeTo xss j) (xss[j]?.getD []).length else xss[j]?.getD []
def iota2 (k0:Int) (xss:List (List Int)):List (List Int):=mark2 k0 xss xss.length
theorem mark2_get {k0:Int} {xss:List (List Int)} {k j:Nat} (h:j<xss.length):(mark2 k0 xss k)[j]?.getD []=if j<k then iota (k0+sizeTo xss j) (xss[j]?.getD []).length else xss[j]?.getD []:=by
 simp [mark2,h]
theorem mark2_zero (k0:Int) (xss:List (List Int)):mark2 k0 xss 0=xss:=by
 apply List.ext_getElem?
 intro i
 simp only [mark2,Nat.not_lt_zero,if_false,List.getElem?_map]
 rcases Nat.lt_or_ge i xss.length with h|h
 ·simp [h]
 ·simp [h]
theorem mark2_set {k0:Int} {xss:List (List Int)} {k:Nat} (h:k<xss.length):(mark2 k0 xss k).set k (iota (k0+sizeTo xss k) (xss[k]?.getD []).length)=mark2 k0 xss (k+1):=by
 apply List.ext_getElem?
 intro i
 by_cases hi:i=k
 ·subst hi
  rw [List.getElem?_set_self (by simp [mark2,h])]
  simp [mark2,h]
 ·rw [List.getElem?_set_ne (by omega)]
  simp only [mark2,List.getElem?_map]
  rcases Nat.lt_or_ge i xss.length with h1|h1
  ·have e:(i<k+1)=(i<k):=propext (by omega)
   simp [h1,e]
  ·simp [h1]
theorem iota_length (k0:Int) (n:Nat):(iota k0 n).length=n:=by simp [iota]
set_option maxHeartbeats 1000000 in
theorem markIntSS_chg (lo hi:Nat) (A:Option Addr) (n c:Nat) (xss:List (List Int)) (k0:Int) (w:World) (h:Own2 lo hi w A n c xss) (hk0:0≤k0) (hk1:k0≤1099511627776) (hz:size2 xss≤1099511627776) :
  Calls Try.prog 12 #[.slice A n c,.int .i64 k0] w fun e w'=>e = .returned (.int .i64 (k0+sizeTo xss n))∧Own2 lo hi w' A n c (iota2 k0 xss)∧Chg lo hi w w':=by
 have hx:=h.len
 obtain ⟨hn,hrow⟩:=size2_bd hx hz
 have HX:=Lib.hid hx
 have HR:=Lib.hid hrow
 have HO:=Lib.hid h
 clear hx hrow h
 go_enter Try.func12,Try.ntmps12
 go_wp2_with fail
 go_loopw [1,5] (fun v i wr=>∃k:Nat,k≤n∧i = .int .i64 k∧v = .int .i64 (k0+sizeTo xss k)∧Own2 lo hi wr A n c (mark2 k0 xss k)∧Chg lo hi w wr) (fun _ i _=>n - (intOf i).toNat)
 case atStart=>exact ⟨0,Nat.zero_le _,rfl,by simp [sizeTo],by rw [mark2_zero];exact HO.out,Chg.refl _ _ _⟩
 case round =>
  obtain ⟨k,hk,rfl,rfl,ho,hg⟩:=hrel
  have HG:=Lib.hid hg
  clear hg
  by_cases hlt:k<n
  ·obtain ⟨b,A1,m1,c1,rfl,hck,_,o1,l1,hup⟩:=ho.row hlt
   rw [mark2_get (by rw [HX.out];exact hlt),if_neg (by omega)] at o1
   have hm:m1=(xss[k]?.getD []).length:=o1.len.symm
   have hs:sizeTo xss (k+1)=sizeTo xss k+m1:=by rw [sizeTo,hm]
   have hfit:sizeTo xss (k+1)≤size2 xss:=by have:=sizeTo_le xss (j:=k+1) (k:=xss.length) (by rw [HX.out];omega);unfold size2;omega
   have HS:=Lib.hid hs
   have O1:=Lib.hid o1
   have L1:=Lib.hid l1
   have HM:=Lib.hid hm
   have HUP:=Lib.hid hup
   have hb1:sizeTo xss k+m1≤1099511627776:=by omega
   clear ho o1 l1 hup hm hs hfit
   go_wp2_with fail
   refine (markIntS_any lo A1 m1 c1 _ _ _ O1.out (by omega) (by omega) (by omega)).mono ?_
   rintro e w2 ⟨rfl,o2,g2⟩
   have O2:=Lib.hid (HUP.out w2 _ g2 o2)
   have G2:=Lib.hid (HG.out.trans (chg_of_grown g2 L1.out))
   clear o2 g2 hck
   go_wp2_with fail
   go_roundw
   case rel=>exact ⟨k+1,by omega,by go_num,by rw [HS.out];go_num,by rw [←mark2_set (by rw [HX.out];exact hlt),←HM.out];exact O2.out,G2.out⟩
   case measure=>simp [intOf];omega
  ·have hkn:k=n:=by omega
   subst hkn
   go_wp2_with fail
   go_ret
   exact ⟨rfl,by rw [iota2,HX.out];exact ho,HG.out⟩

/-! ### a slice of slices among the arguments -/
section
open Go.ChangeShapes Go.WideShapes Go.ChangeAt
variable {H:Type} {enc:TypeId × Value→H} {W:World} {b0 base:Nat} {held:Bool}
theorem open_intSS {v:Value} {d:DataW H} {p:List MemPlace} (hv:Value.okWide Try.prog W .any b0 24 v) (h:DataW.Trod enc Try.prog W base (fun _=>true) held 24 v d p) :
  ∃(A:Option Addr) (n c:Nat) (xss:List (List Int)),v = .slice A n c∧Rows2 W A n xss∧n≤maxLen∧∀ys∈xss,ys.length≤maxLen∧∀y∈ys,Wf y:=by
 obtain ⟨A,n,c,rfl⟩:=okWide_slice Try.underlying24 hv
 obtain ⟨fuel,hf⟩:=h
 rcases Go.Deep.open_int_rows Try.underlying24 Try.underlying28 Try.underlying3 (by kernel_rfl) (by kernel_rfl) hf with ⟨hcs,_⟩|⟨a,len,cap,As,L,C,Z,hcs,_,hl,hm,_,hr⟩
 ·simp [Value.cells] at hcs
  obtain ⟨rfl,rfl,rfl⟩:=hcs
  exact ⟨none,0,0,[],rfl,⟨rfl,fun h=>absurd h (by omega)⟩,Nat.zero_le _,by simp⟩
 ·simp [Value.cells] at hcs
  obtain ⟨rfl,rfl,rfl⟩:=hcs
  refine ⟨_,_,_,(List.range n).map fun r=>(Z r).take (L r),rfl,⟨by simp,fun hn=>?_⟩,Nat.le_trans hl hm,?_⟩
  ·obtain ⟨h0,_⟩:=hr 0 (by omega)
   rw [add_lit0] at h0
   obtain ⟨b,o,s⟩:=a
   have hs:s=none:=World.cell?_spot h0
   subst hs
   refine ⟨b,o,rfl,cell_lt h0,fun j hj=>?_⟩
   obtain ⟨hc,hLC,hCm,hZ,_,hnone,hsome⟩:=hr j (by omega)
   rw [Addr.add_lit] at hc
   refine ⟨As j,L j,C j,hc,?_⟩
   rw [show ((List.range n).map fun r=>(Z r).take (L r))[j]?.getD []=(Z j).take (L j) by simp [hj]]
   cases hA:As j with
   | none =>
    have hC0:=hnone hA
    have hL0:L j=0:=by omega
    rw [hL0]
    exact ⟨by simp,fun h=>absurd h (by omega)⟩
   | some a'=>exact ints_of hLC hZ fun i hi=>(hsome a' hA).2 i (by omega)
  ·intro ys hys
   simp only [List.mem_map,List.mem_range] at hys
   obtain ⟨r,hrn,rfl⟩:=hys
   obtain ⟨_,hLC,hCm,hZ,hwf,_⟩:=hr r (by omega)
   exact ⟨by rw [List.length_take];omega,fun y hy=>wf_of (hwf y (List.mem_of_mem_take hy))⟩
end
end Go.Proofs.Ytignkfhdkcgkgaa
