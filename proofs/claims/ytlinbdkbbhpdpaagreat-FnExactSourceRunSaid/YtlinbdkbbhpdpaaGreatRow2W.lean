/- How the laws' arguments read: structs of integers, slices of integers, bytes, slices of slices. Slices of slices of integers: reading, owning, copying, comparing, marking. The laws' helpers on slices of slices of integers. -/
import Derived.ChangeOld
import Derived.Deep.Matrix
import Derived.Lib.SmallJoins
import Derived.OpenShut
import Derived.ProofKit
import Derived.ShutString
import Derived.Test.YtlinbdkbbhpdpaaGreatBase
import Derived.Test.YtlinbdkbbhpdpaaGreatHar
namespace Go.Proofs.YtlinbdkbbhpdpaaGreat
set_option maxRecDepth 100000
open Go.RowKit Go.ChangeShapes Go.WideShapes Go.ChangeAt

theorem Tryz.own:ownKnob Tryz.prog.godebug=none:=by kernel_rfl
theorem Tryz.laidOut:laidOutB Tryz.prog=true:=by kernel_rfl

def Wf (a:Int):Prop:=-9223372036854775808≤a∧a≤9223372036854775807
theorem wf_of {a:Int} (h:(Lit.int .i64 a).wf=true):Wf a:=by
 simp [Lit.wf,IntKind.min,IntKind.max,IntKind.signed,IntKind.bits] at h
 exact h
def Dev.wf (d:Dev):Prop:=Wf d.W∧Wf d.H∧Wf d.T∧Wf d.R
def Reg.wf (d:Reg):Prop:=Wf d.X0∧Wf d.Y0∧Wf d.X1∧Wf d.Y1

section
variable {H:Type} {enc:TypeId × Value→H} {W:World} {b0 base:Nat} {spare:Nat→Bool} {held:Bool}
theorem open_int1 {v:Value} {d:DataW H} {p:List MemPlace} (hv:Value.okWide Tryz.prog W .any b0 3 v) (h:DataW.Trod enc Tryz.prog W base spare held 3 v d p) :
  ∃a:Int,v = .int .i64 a∧Wf a:=by
 obtain ⟨a,rfl,_,_,w⟩:=open_int Tryz.underlying3 hv h
 exact ⟨a,rfl,wf_of w⟩

theorem cell_lt {w:World} {a:Addr} {v:Value} (h:w.cell? a=some v):a.block<w.heap.size:=by
 rcases Nat.lt_or_ge a.block w.heap.size with hlt|hge
 ·exact hlt
 ·unfold World.cell? at h
  rw [Array.getElem?_eq_none hge] at h
  cases h
theorem add_lit0 (a:Addr):a.add 0=a:=by simp [Addr.add]

theorem ints_of {a:Addr} {n cap:Nat} {zs:List Int} (hl:n≤cap) (hz:zs.length=cap) (hc:∀i,i<zs.length→W.cell? (a.add i)=some (.int .i64 (zs.getD i 0))):Ints W (some a) n (zs.take n):=by
 refine ⟨by simp;omega,fun hn=>?_⟩
 have h0:=hc 0 (by omega)
 rw [add_lit0] at h0
 obtain ⟨b,o,s⟩:=a
 have hs:s=none:=World.cell?_spot h0
 subst hs
 refine ⟨b,o,rfl,cell_lt h0,fun j hj=>?_⟩
 have:=hc j (by omega)
 rw [Addr.add_lit] at this
 rw [this,List.getElem?_take,if_pos hj]
 rfl

theorem open_intS {v:Value} {d:DataW H} {p:List MemPlace} (hv:Value.okWide Tryz.prog W .any b0 29 v) (h:DataW.Trod enc Tryz.prog W base (fun _=>true) held 29 v d p) :
  ∃(A:Option Addr) (n c:Nat) (xs:List Int),v = .slice A n c∧Ints W A n xs∧n≤maxLen∧∀x∈xs,Wf x:=by
 obtain ⟨A,n,c,rfl⟩:=okWide_slice Tryz.underlying29 hv
 obtain ⟨fuel,hf⟩:=h
 rcases open_ints Tryz.underlying29 Tryz.underlying3 (by kernel_rfl) hf with ⟨hcs,_⟩|⟨x,l,c',zs,hcs,_,hl,hm,hz,_,hcell,hwz⟩
 ·simp [Value.cells] at hcs
  obtain ⟨rfl,rfl,rfl⟩:=hcs
  exact ⟨none,0,0,[],rfl,⟨rfl,fun h=>absurd h (by omega)⟩,Nat.zero_le _,by simp⟩
 ·simp [Value.cells] at hcs
  obtain ⟨rfl,rfl,rfl⟩:=hcs
  exact ⟨_,_,_,_,rfl,ints_of hl (by simpa using hz) hcell,Nat.le_trans hl hm,fun y hy=>wf_of (hwz y (List.mem_of_mem_take hy))⟩
end
end Go.Proofs.YtlinbdkbbhpdpaaGreat

namespace Go.Proofs.YtlinbdkbbhpdpaaGreat
set_option maxRecDepth 100000
open Go.RowKit

/-- A slice's value by its three parts. -/
abbrev SV:=Option Addr × Nat × Nat
def SV.val (v:SV):Value := .slice v.1 v.2.1 v.2.2

def Rows2 (w:World) (A:Option Addr) (n:Nat) (xss:List (List Int)):Prop :=
 xss.length=n∧(0<n→∃b o,A=some ⟨b,o,none⟩∧b<w.heap.size∧∀j,j<n→∃A' m c,w.cell? ⟨b,o+j,none⟩=some (.slice A' m c)∧Ints w A' m (xss[j]?.getD []))
theorem Rows2.below {w w':World} {A:Option Addr} {n:Nat} {xss:List (List Int)} (h:Rows2 w A n xss) (hb:Below w.heap.size w w'):Rows2 w' A n xss:=by
 refine ⟨h.1,fun hn=>?_⟩
 obtain ⟨b,o,e,hlt,hc⟩:=h.2 hn
 refine ⟨b,o,e,below_lt hb hlt,fun j hj=>?_⟩
 obtain ⟨A',m,c,h1,h2⟩:=hc j hj
 exact ⟨A',m,c,(hb.cell (p:=⟨b,o+j,none⟩) hlt).trans h1,h2.below hb⟩

/-- The rows within a slice of slices: each the call's own, no two in one block. -/
def Inner (lo hi:Nat) (w:World) (vs:List SV) (xss:List (List Int)):Prop :=
 vs.length=xss.length∧(∀(j:Nat) (v:SV),vs[j]?=some v→Own lo w v.1 v.2.1 v.2.2 (xss[j]?.getD [])∧∀a:Addr,v.1=some a→a.block<hi) ∧
 ∀(i j:Nat) (u v:SV),i<j→vs[i]?=some u→vs[j]?=some v→∀a b:Addr,u.1=some a→v.1=some b→a.block≠b.block
theorem Inner.nil {lo hi:Nat} {w:World}:Inner lo hi w [] []:=⟨rfl,fun j v h=>by simp at h,fun i j u v _ h=>by simp at h⟩
theorem Inner.keep {lo hi:Nat} {w w':World} {vs:List SV} {xss:List (List Int)} (h:Inner lo hi w vs xss) (hk:∀k e cs f,k<w.heap.size→lo≤k→k<hi→w.heap[k]?=some (.cells cs e f)→e=3→w'.heap[k]?=w.heap[k]?):Inner lo hi w' vs xss:=by
 refine ⟨h.1,fun j v hv=>?_,h.2.2⟩
 obtain ⟨h1,h2⟩:=h.2.1 j v hv
 refine ⟨ownsRow_block h1 fun a ha=>?_,h2⟩
 have hl:=h1.lt a ha
 rcases h1.2 with ⟨hn,_⟩|⟨g,cap,cur,hv',hb,hh,_⟩
 ·injection hn with hn _ _
  rw [hn] at ha
  cases ha
 ·injection hv' with hA _ _
  rw [hA] at ha
  injection ha with ha
  subst ha
  exact hk g _ _ _ hl.2 hb (h2 _ hA) hh rfl
theorem Inner.below {lo hi:Nat} {w w':World} {vs:List SV} {xss:List (List Int)} (h:Inner lo hi w vs xss) (hb:Below w.heap.size w w'):Inner lo hi w' vs xss :=
 h.keep fun k _ _ _ hk _ _ _ _=>hb.block k hk
theorem Inner.put {lo hi:Nat} {w:World} {vs:List SV} {xss:List (List Int)} (h:Inner lo hi w vs xss) {g:Nat} {cs:Array Value} {f:Nat × Nat} (hg:w.heap[g]?=some (.cells cs 29 f)) (j:Nat) (v:Value):Inner lo hi (w.setCell ⟨g,j,none⟩ v) vs xss :=
 h.keep fun k e cs' f' _ _ _ hk he=>Below.heap_setCell _ _ _ _ (by
  rintro rfl
  rw [hg] at hk
  injection hk with hk
  injection hk with _ ht
  rw [he] at ht
  exact absurd ht (by decide))
theorem Inner.widen {lo hi hi':Nat} {w:World} {vs:List SV} {xss:List (List Int)} (h:Inner lo hi w vs xss) (hh:hi≤hi'):Inner lo hi' w vs xss :=
 ⟨h.1,fun j v hv=>⟨(h.2.1 j v hv).1,fun a ha=>Nat.lt_of_lt_of_le ((h.2.1 j v hv).2 a ha) hh⟩,h.2.2⟩
theorem Inner.lower {lo lo' hi:Nat} {w:World} {vs:List SV} {xss:List (List Int)} (h:Inner lo hi w vs xss) (hh:lo'≤lo):Inner lo' hi w vs xss :=
 ⟨h.1,fun j v hv=>⟨(h.2.1 j v hv).1.more hh,(h.2.1 j v hv).2⟩,h.2.2⟩
theorem Inner.snoc {lo hi base:Nat} {w:World} {vs:List SV} {xss:List (List Int)} (h:Inner lo hi w vs xss) {A:Option Addr} {m c:Nat} {xs:List Int} (o:Own base w A m c xs) (hb:hi≤base) (hlo:lo≤base) :
  Inner lo (max hi w.heap.size) w (vs++[(A,m,c)]) (xss++[xs]):=by
 have hl:=h.1
 refine ⟨by simp [hl],fun j v hv=>?_,fun i j u v hij hu hv a b ha hb'=>?_⟩
 ·rw [List.getElem?_append] at hv
  split at hv
  ·rename_i hj
   obtain ⟨h1,h2⟩:=h.2.1 j v hv
   refine ⟨?_,fun a ha=>by have:=h2 a ha;omega⟩
   rw [List.getElem?_append_left (by omega)]
   exact h1
  ·rename_i hj
   have hj':j - vs.length=0:=by
    rcases Nat.eq_zero_or_pos (j - vs.length) with h0|h0
    ·exact h0
    ·simp [show j - vs.length≠0 by omega] at hv
   rw [hj'] at hv
   simp at hv
   subst hv
   refine ⟨?_,fun a ha=>by have:=(o.lt a ha).2;omega⟩
   rw [List.getElem?_append_right (by omega),show j - xss.length=0 by omega]
   exact o.more hlo
 ·rw [List.getElem?_append] at hu hv
  split at hv
  ·rename_i hj
   rw [if_pos (by omega)] at hu
   exact h.2.2 i j u v hij hu hv a b ha hb'
  ·rename_i hj
   have hj':j - vs.length=0:=by
    rcases Nat.eq_zero_or_pos (j - vs.length) with h0|h0
    ·exact h0
    ·simp [show j - vs.length≠0 by omega] at hv
   rw [hj'] at hv
   simp at hv
   subst hv
   rw [if_pos (by omega)] at hu
   have h1:=(h.2.1 i u hu).2 a ha
   have h2:=(o.lt b hb').1
   omega

def Own2 (lo hi:Nat) (w:World) (A:Option Addr) (n c:Nat) (xss:List (List Int)):Prop :=
 ∃vs:List SV,w.ownsRow lo 29 1 (.slice A n c) n (vs.map SV.val)∧(∀a:Addr,A=some a→a.block<hi)∧Inner lo hi w vs xss
theorem Own2.nil {lo hi:Nat} {w:World}:Own2 lo hi w none 0 0 []:=⟨[],⟨rfl,.inl ⟨rfl,rfl⟩⟩,by simp,Inner.nil⟩
theorem ownsRow_lt {base:Nat} {w:World} {A:Option Addr} {e:TypeId} {n c:Nat} {vs:List Value} (h:w.ownsRow base e 1 (.slice A n c) n vs):∀a,A=some a→base≤a.block∧a.block<w.heap.size:=by
 rintro a rfl
 rcases h.2 with ⟨hv,_⟩|⟨g,cap,cur,hv,hb,hh,_⟩
 ·cases hv
 ·injection hv with hA
  injection hA with hA
  subst hA
  exact ⟨hb,heap_lt0 hh⟩
theorem Own2.len {lo hi:Nat} {w:World} {A:Option Addr} {n c:Nat} {xss:List (List Int)} (h:Own2 lo hi w A n c xss):xss.length=n:=by
 obtain ⟨vs,h1,_,h2⟩:=h
 have:=h1.1
 rw [←h2.1]
 simpa using this
theorem Own2.below {lo hi:Nat} {w w':World} {A:Option Addr} {n c:Nat} {xss:List (List Int)} (h:Own2 lo hi w A n c xss) (hb:Below w.heap.size w w'):Own2 lo hi w' A n c xss:=by
 obtain ⟨vs,h1,h2,h3⟩:=h
 exact ⟨vs,ownsRow_block h1 fun a ha=>hb.block _ (ownsRow_lt h1 a ha).2,h2,h3.below hb⟩
theorem Own2.rd {lo hi:Nat} {w:World} {A:Option Addr} {n c:Nat} {xss:List (List Int)} (h:Own2 lo hi w A n c xss):Rows2 w A n xss:=by
 refine ⟨h.len,fun hn=>?_⟩
 have hlen:=h.len
 obtain ⟨vs,h1,h2,h3⟩:=h
 rcases h1.2 with ⟨_,h0⟩|⟨g,cap,cur,hv,hb,hh,hnc,hcap,hsz,ht⟩
 ·omega
 ·injection hv with hA
  subst hA
  refine ⟨g,0,rfl,heap_lt0 hh,fun j hj=>?_⟩
  have hvl:vs.length=n:=by rw [h3.1];exact hlen
  have hvj:vs[j]?=some (vs[j]'(by omega)):=List.getElem?_eq_getElem (by omega)
  refine ⟨(vs[j]'(by omega)).1,(vs[j]'(by omega)).2.1,(vs[j]'(by omega)).2.2,?_,(h3.2.1 j _ hvj).1.ints⟩
  have hx:(vs.map SV.val)[j]?=some (SV.val (vs[j]'(by omega))):=by rw [List.getElem?_map,hvj];rfl
  rw [←ht,List.getElem?_take] at hx
  simp only [Nat.mul_one] at hx
  rw [if_pos hj] at hx
  unfold World.cell?
  simp only [Nat.zero_add]
  rw [hh]
  rw [Array.getElem?_toList] at hx
  exact hx
end Go.Proofs.YtlinbdkbbhpdpaaGreat

namespace Go.Proofs.YtlinbdkbbhpdpaaGreat
set_option maxRecDepth 100000
open Go.RowKit

/-! ### sizes -/
def leftOf (L:Int) (s:Nat):Int:=if (s:Int)≤L then L - s else -1
theorem leftOf_neg {L:Int} {s:Nat} (h:¬(s:Int)≤L):leftOf L s=-1:=if_neg h
theorem leftOf_pos {L:Int} {s:Nat} (h:(s:Int)≤L):leftOf L s=L - s:=if_pos h

set_option maxHeartbeats 400000 in
theorem szIntS_any (A:Option Addr) (n c:Nat) (L:Int) (w:World) (hL:0≤L) (hL':L≤1099511627776) (hn:n≤9223372036854775807) :
  Calls Tryz.prog 220 #[.slice A n c,.int .i64 L] w fun e w'=>e = .returned (.int .i64 (leftOf L n))∧w=w':=by
 by_cases h:(n:Int)≤L
 ·have hd:decide (L - (n:Int)<0)=false:=by simp;omega
  have hl:=Lib.hid (leftOf_pos h)
  go_enter Tryz.func220,Tryz.ntmps220
  go_wp2_with fail
  go_ret
  exact ⟨ret_int hl.out.symm,rfl⟩
 ·have hd:decide (L - (n:Int)<0)=true:=by simp;omega
  have hl:=Lib.hid (leftOf_neg h)
  go_enter Tryz.func220,Tryz.ntmps220
  go_wp2_with fail
  go_ret
  exact ⟨ret_int hl.out.symm,rfl⟩

/-! ### comparing -/
/-! ### copying -/
def filled (vs:List SV) (n:Nat):Array Value:=(vs.map SV.val++List.replicate (n - vs.length) (Value.slice none 0 0)).toArray
theorem filled_full {vs:List SV} {n:Nat} (h:vs.length=n):(filled vs n).toList=vs.map SV.val:=by
 simp [filled,h]
theorem filled_size {vs:List SV} {n:Nat} (h:vs.length≤n):(filled vs n).size=n:=by
 simp [filled];omega
theorem Own2.made {w:World} {lo hi g n:Nat} {vs:List SV} {xss:List (List Int)} (hh:w.heap[g]?=some (.cells (filled vs n) 29 (0,0))) (hb:lo≤g) (hg:g<hi) (hn:n≤maxLen) (hl:vs.length=n) (hi':Inner lo hi w vs xss):Own2 lo hi w (some ⟨g,0,none⟩) n n xss :=
 ⟨vs,⟨by simp [hl],.inr ⟨g,n,_,rfl,hb,hh,Nat.le_refl _,hn,by rw [filled_size (by omega)];omega,by rw [filled_full hl,List.take_of_length_le (by simp [hl])]⟩⟩,by rintro a ⟨⟩;exact hg,hi'⟩
/-! ### marking -/
theorem Own2.rowX {lo hi:Nat} {w:World} {A:Option Addr} {n c k:Nat} {yss:List (List Int)} (h:Own2 lo hi w A n c yss) (hk:k<n) :
  ∃b A1 m1 c1,A=some ⟨b,0,none⟩∧w.cell? ⟨b,k,none⟩=some (.slice A1 m1 c1)∧w.frozen? ⟨b,k,none⟩=false∧Own lo w A1 m1 c1 (yss[k]?.getD [])∧Lies A1 lo hi ∧
   (∀w' zs,w.grownBy w' (A1.map (·.block))→Own lo w' A1 m1 c1 zs→Own2 lo hi w' A n c (yss.set k zs))∧(∀a,A1=some a→a.block≠b)∧lo≤b∧b<hi∧b<w.heap.size:=by
 have hlen:=h.len
 obtain ⟨vs,h1,h2,h3⟩:=h
 have hvl:vs.length=n:=by rw [h3.1];exact hlen
 have hvk:vs[k]?=some (vs[k]'(by omega)):=List.getElem?_eq_getElem (by omega)
 generalize vs[k]'(by omega)=v at hvk
 have hr:=h1.2
 rcases hr with ⟨_,h0⟩|⟨g,cap,cur,hv,hb,hh,hnc,hcap,hsz,ht⟩
 ·omega
 ·injection hv with hA
  subst hA
  obtain ⟨hok,hhi⟩:=h3.2.1 k v hvk
  have hcur:cur[k]?=some (SV.val v):=by
   have hx:(vs.map SV.val)[k]?=some (SV.val v):=by rw [List.getElem?_map,hvk];rfl
   rw [←ht,List.getElem?_take] at hx
   simp only [Nat.mul_one] at hx
   rw [if_pos hk,Array.getElem?_toList] at hx
   exact hx
  have hne:∀a,v.1=some a→a.block≠g:=by
   rintro a ha rfl
   rcases hok.2 with ⟨hn,_⟩|⟨g',cap',cur',hv',_,hh',_⟩
   ·injection hn with hn _ _
    rw [hn] at ha
    cases ha
   ·injection hv' with hA' _ _
    rw [hA'] at ha
    injection ha with ha
    subst ha
    rw [hh] at hh'
    injection hh' with hh'
    injection hh' with _ hty
    exact absurd hty (by decide)
  refine ⟨g,v.1,v.2.1,v.2.2,rfl,by unfold World.cell?;rw [hh];exact hcur,by unfold World.frozen?;rw [hh];simp,hok,fun a ha=>⟨(hok.lt a ha).1,hhi a ha⟩,fun w' zs hg ho=>?_,hne,hb,h2 _ rfl,heap_lt0 hh⟩
  refine ⟨vs,ownsRow_block h1 fun a ha=>?_,h2,by rw [List.length_set];exact h3.1,fun j u hu=>?_,h3.2.2⟩
  ·injection ha with ha
   subst ha
   refine hg.block g (heap_lt0 hh) ?_
   cases hv1:v.1 with
   | none=>simp
   | some a=>simpa using fun e=>hne a hv1 e.symm
  ·obtain ⟨q1,q2⟩:=h3.2.1 j u hu
   refine ⟨?_,q2⟩
   by_cases hjk:j=k
   ·subst hjk
    rw [hvk] at hu
    injection hu with hu
    subst hu
    rw [List.getElem?_set_self (by omega)]
    exact ho
   ·rw [List.getElem?_set_ne (by omega)]
    refine ownsRow_block q1 fun a ha=>hg.block _ (q1.lt a ha).2 ?_
    cases hv1:v.1 with
    | none=>simp
    | some a' =>
     simp only [Option.map_some,ne_eq,Option.some.injEq]
     rcases Nat.lt_or_gt_of_ne hjk with hjk|hjk
     ·exact fun e=>h3.2.2 j k u v hjk hu hvk a a' ha hv1 e
     ·exact fun e=>h3.2.2 k j v u hjk hvk hu a' a hv1 ha e.symm

theorem Own2.row {lo hi:Nat} {w:World} {A:Option Addr} {n c k:Nat} {yss:List (List Int)} (h:Own2 lo hi w A n c yss) (hk:k<n) :
  ∃b A1 m1 c1,A=some ⟨b,0,none⟩∧w.cell? ⟨b,k,none⟩=some (.slice A1 m1 c1)∧w.frozen? ⟨b,k,none⟩=false∧Own lo w A1 m1 c1 (yss[k]?.getD [])∧Lies A1 lo hi ∧
   ∀w' zs,w.grownBy w' (A1.map (·.block))→Own lo w' A1 m1 c1 zs→Own2 lo hi w' A n c (yss.set k zs):=by
 obtain ⟨b,A1,m1,c1,h1,h2,h3,h4,h5,h6,_⟩:=h.rowX hk
 exact ⟨b,A1,m1,c1,h1,h2,h3,h4,h5,h6⟩

/-! ### a slice of slices among the arguments -/
section
open Go.ChangeShapes Go.WideShapes Go.ChangeAt
variable {H:Type} {enc:TypeId × Value→H} {W:World} {b0 base:Nat} {held:Bool}
end
end Go.Proofs.YtlinbdkbbhpdpaaGreat
