/- How the laws' arguments read: structs of integers, slices of integers, bytes, slices of slices. Slices of slices of integers: reading, owning, copying, comparing, marking. The laws' helpers on slices of slices of integers. Appending lists and rows; the copies of lists of lists. -/
import Derived.ChangeOld
import Derived.Deep.Matrix
import Derived.Lib.SmallJoins
import Derived.OpenShut
import Derived.ProofKit
import Derived.ShutString
import Derived.Test.YtignkfhdkcgkgaaGreatHar
namespace Go.Proofs.YtignkfhdkcgkgaaGreat
set_option maxRecDepth 100000
open Go.RowKit Go.ChangeShapes Go.WideShapes Go.ChangeAt

theorem Tryz.own:ownKnob Tryz.prog.godebug=none:=by kernel_rfl
theorem Tryz.laidOut:laidOutB Tryz.prog=true:=by kernel_rfl

def Wf (a:Int):Prop:=-9223372036854775808≤a∧a≤9223372036854775807
def Dev.wf (d:Dev):Prop:=Wf d.W∧Wf d.H∧Wf d.T∧Wf d.R
def Reg.wf (d:Reg):Prop:=Wf d.X0∧Wf d.Y0∧Wf d.X1∧Wf d.Y1

section
variable {H:Type} {enc:TypeId × Value→H} {W:World} {b0 base:Nat} {spare:Nat→Bool} {held:Bool}
theorem cell_lt {w:World} {a:Addr} {v:Value} (h:w.cell? a=some v):a.block<w.heap.size:=by
 rcases Nat.lt_or_ge a.block w.heap.size with hlt|hge
 ·exact hlt
 ·unfold World.cell? at h
  rw [Array.getElem?_eq_none hge] at h
  cases h
theorem add_lit0 (a:Addr):a.add 0=a:=by simp [Addr.add]

end
end Go.Proofs.YtignkfhdkcgkgaaGreat

namespace Go.Proofs.YtignkfhdkcgkgaaGreat
set_option maxRecDepth 100000
open Go.RowKit

/-- A slice's value by its three parts. -/
abbrev SV:=Option Addr × Nat × Nat
def SV.val (v:SV):Value := .slice v.1 v.2.1 v.2.2

def Rows2 (w:World) (A:Option Addr) (n:Nat) (xss:List (List Int)):Prop :=
 xss.length=n∧(0<n→∃b o,A=some ⟨b,o,none⟩∧b<w.heap.size∧∀j,j<n→∃A' m c,w.cell? ⟨b,o+j,none⟩=some (.slice A' m c)∧Ints w A' m (xss[j]?.getD []))
theorem Rows2.below {w w':World} {A:Option Addr} {n:Nat} {xss:List (List Int)} (h:Rows2 w A n xss) (hb:Below w.heap.size w w'):Rows2 w' A n xss:=by
 refine ⟨h.1,fun hn=>?_⟩
 obtain ⟨b,o,e,hlt,hc⟩:=h.2 hn
 refine ⟨b,o,e,below_lt hb hlt,fun j hj=>?_⟩
 obtain ⟨A',m,c,h1,h2⟩:=hc j hj
 exact ⟨A',m,c,(hb.cell (p:=⟨b,o+j,none⟩) hlt).trans h1,h2.below hb⟩

/-- The rows within a slice of slices: each the call's own, no two in one block. -/
def Inner (lo hi:Nat) (w:World) (vs:List SV) (xss:List (List Int)):Prop :=
 vs.length=xss.length∧(∀(j:Nat) (v:SV),vs[j]?=some v→Own lo w v.1 v.2.1 v.2.2 (xss[j]?.getD [])∧∀a:Addr,v.1=some a→a.block<hi) ∧
 ∀(i j:Nat) (u v:SV),i<j→vs[i]?=some u→vs[j]?=some v→∀a b:Addr,u.1=some a→v.1=some b→a.block≠b.block
theorem Inner.nil {lo hi:Nat} {w:World}:Inner lo hi w [] []:=⟨rfl,fun j v h=>by simp at h,fun i j u v _ h=>by simp at h⟩
theorem Inner.keep {lo hi:Nat} {w w':World} {vs:List SV} {xss:List (List Int)} (h:Inner lo hi w vs xss) (hk:∀k e cs f,k<w.heap.size→lo≤k→k<hi→w.heap[k]?=some (.cells cs e f)→e=3→w'.heap[k]?=w.heap[k]?):Inner lo hi w' vs xss:=by
 refine ⟨h.1,fun j v hv=>?_,h.2.2⟩
 obtain ⟨h1,h2⟩:=h.2.1 j v hv
 refine ⟨ownsRow_block h1 fun a ha=>?_,h2⟩
 have hl:=h1.lt a ha
 rcases h1.2 with ⟨hn,_⟩|⟨g,cap,cur,hv',hb,hh,_⟩
 ·injection hn with hn _ _
  rw [hn] at ha
  cases ha
 ·injection hv' with hA _ _
  rw [hA] at ha
  injection ha with ha
  subst ha
  exact hk g _ _ _ hl.2 hb (h2 _ hA) hh rfl
theorem Inner.below {lo hi:Nat} {w w':World} {vs:List SV} {xss:List (List Int)} (h:Inner lo hi w vs xss) (hb:Below w.heap.size w w'):Inner lo hi w' vs xss :=
 h.keep fun k _ _ _ hk _ _ _ _=>hb.block k hk
theorem Inner.chg {lo hi lo' hi':Nat} {w w':World} {vs:List SV} {xss:List (List Int)} (h:Inner lo hi w vs xss) (hg:Chg lo' hi' w w') (ha:hi≤lo'∨hi'≤lo):Inner lo hi w' vs xss :=
 h.keep fun k _ _ _ hk h1 h2 _ _=>hg.block k hk (by omega)
theorem Inner.put {lo hi:Nat} {w:World} {vs:List SV} {xss:List (List Int)} (h:Inner lo hi w vs xss) {g:Nat} {cs:Array Value} {f:Nat × Nat} (hg:w.heap[g]?=some (.cells cs 27 f)) (j:Nat) (v:Value):Inner lo hi (w.setCell ⟨g,j,none⟩ v) vs xss :=
 h.keep fun k e cs' f' _ _ _ hk he=>Below.heap_setCell _ _ _ _ (by
  rintro rfl
  rw [hg] at hk
  injection hk with hk
  injection hk with _ ht
  rw [he] at ht
  exact absurd ht (by decide))
theorem Inner.widen {lo hi hi':Nat} {w:World} {vs:List SV} {xss:List (List Int)} (h:Inner lo hi w vs xss) (hh:hi≤hi'):Inner lo hi' w vs xss :=
 ⟨h.1,fun j v hv=>⟨(h.2.1 j v hv).1,fun a ha=>Nat.lt_of_lt_of_le ((h.2.1 j v hv).2 a ha) hh⟩,h.2.2⟩
theorem Inner.lower {lo lo' hi:Nat} {w:World} {vs:List SV} {xss:List (List Int)} (h:Inner lo hi w vs xss) (hh:lo'≤lo):Inner lo' hi w vs xss :=
 ⟨h.1,fun j v hv=>⟨(h.2.1 j v hv).1.more hh,(h.2.1 j v hv).2⟩,h.2.2⟩
theorem Inner.snoc {lo hi base:Nat} {w:World} {vs:List SV} {xss:List (List Int)} (h:Inner lo hi w vs xss) {A:Option Addr} {m c:Nat} {xs:List Int} (o:Own base w A m c xs) (hb:hi≤base) (hlo:lo≤base) :
  Inner lo (max hi w.heap.size) w (vs++[(A,m,c)]) (xss++[xs]):=by
 have hl:=h.1
 refine ⟨by simp [hl],fun j v hv=>?_,fun i j u v hij hu hv a b ha hb'=>?_⟩
 ·rw [List.getElem?_append] at hv
  split at hv
  ·rename_i hj
   obtain ⟨h1,h2⟩:=h.2.1 j v hv
   refine ⟨?_,fun a ha=>by have:=h2 a ha;omega⟩
   rw [List.getElem?_append_left (by omega)]
   exact h1
  ·rename_i hj
   have hj':j - vs.length=0:=by
    rcases Nat.eq_zero_or_pos (j - vs.length) with h0|h0
    ·exact h0
    ·simp [show j - vs.length≠0 by omega] at hv
   rw [hj'] at hv
   simp at hv
   subst hv
   refine ⟨?_,fun a ha=>by have:=(o.lt a ha).2;omega⟩
   rw [List.getElem?_append_right (by omega),show j - xss.length=0 by omega]
   exact o.more hlo
 ·rw [List.getElem?_append] at hu hv
  split at hv
  ·rename_i hj
   rw [if_pos (by omega)] at hu
   exact h.2.2 i j u v hij hu hv a b ha hb'
  ·rename_i hj
   have hj':j - vs.length=0:=by
    rcases Nat.eq_zero_or_pos (j - vs.length) with h0|h0
    ·exact h0
    ·simp [show j - vs.length≠0 by omega] at hv
   rw [hj'] at hv
   simp at hv
   subst hv
   rw [if_pos (by omega)] at hu
   have h1:=(h.2.1 i u hu).2 a ha
   have h2:=(o.lt b hb').1
   omega

def Own2 (lo hi:Nat) (w:World) (A:Option Addr) (n c:Nat) (xss:List (List Int)):Prop :=
 ∃vs:List SV,w.ownsRow lo 27 1 (.slice A n c) n (vs.map SV.val)∧(∀a:Addr,A=some a→a.block<hi)∧Inner lo hi w vs xss
theorem Own2.nil {lo hi:Nat} {w:World}:Own2 lo hi w none 0 0 []:=⟨[],⟨rfl,.inl ⟨rfl,rfl⟩⟩,by simp,Inner.nil⟩
theorem ownsRow_lt {base:Nat} {w:World} {A:Option Addr} {e:TypeId} {n c:Nat} {vs:List Value} (h:w.ownsRow base e 1 (.slice A n c) n vs):∀a,A=some a→base≤a.block∧a.block<w.heap.size:=by
 rintro a rfl
 rcases h.2 with ⟨hv,_⟩|⟨g,cap,cur,hv,hb,hh,_⟩
 ·cases hv
 ·injection hv with hA
  injection hA with hA
  subst hA
  exact ⟨hb,heap_lt0 hh⟩
theorem Own2.len {lo hi:Nat} {w:World} {A:Option Addr} {n c:Nat} {xss:List (List Int)} (h:Own2 lo hi w A n c xss):xss.length=n:=by
 obtain ⟨vs,h1,_,h2⟩:=h
 have:=h1.1
 rw [←h2.1]
 simpa using this
theorem Own2.below {lo hi:Nat} {w w':World} {A:Option Addr} {n c:Nat} {xss:List (List Int)} (h:Own2 lo hi w A n c xss) (hb:Below w.heap.size w w'):Own2 lo hi w' A n c xss:=by
 obtain ⟨vs,h1,h2,h3⟩:=h
 exact ⟨vs,ownsRow_block h1 fun a ha=>hb.block _ (ownsRow_lt h1 a ha).2,h2,h3.below hb⟩
theorem Own2.chg {lo hi lo' hi':Nat} {w w':World} {A:Option Addr} {n c:Nat} {xss:List (List Int)} (h:Own2 lo hi w A n c xss) (hg:Chg lo' hi' w w') (ha:hi≤lo'∨hi'≤lo):Own2 lo hi w' A n c xss:=by
 obtain ⟨vs,h1,h2,h3⟩:=h
 exact ⟨vs,ownsRow_block h1 fun a e=>hg.block _ (ownsRow_lt h1 a e).2 (by have:=ownsRow_lt h1 a e;have:=h2 a e;omega),h2,h3.chg hg ha⟩
theorem Own2.drewd {lo hi:Nat} {w:World} {A:Option Addr} {n c:Nat} {xss:List (List Int)} (h:Own2 lo hi w A n c xss):Own2 lo hi w.drew A n c xss:=h
theorem Own2.rd {lo hi:Nat} {w:World} {A:Option Addr} {n c:Nat} {xss:List (List Int)} (h:Own2 lo hi w A n c xss):Rows2 w A n xss:=by
 refine ⟨h.len,fun hn=>?_⟩
 have hlen:=h.len
 obtain ⟨vs,h1,h2,h3⟩:=h
 rcases h1.2 with ⟨_,h0⟩|⟨g,cap,cur,hv,hb,hh,hnc,hcap,hsz,ht⟩
 ·omega
 ·injection hv with hA
  subst hA
  refine ⟨g,0,rfl,heap_lt0 hh,fun j hj=>?_⟩
  have hvl:vs.length=n:=by rw [h3.1];exact hlen
  have hvj:vs[j]?=some (vs[j]'(by omega)):=List.getElem?_eq_getElem (by omega)
  refine ⟨(vs[j]'(by omega)).1,(vs[j]'(by omega)).2.1,(vs[j]'(by omega)).2.2,?_,(h3.2.1 j _ hvj).1.ints⟩
  have hx:(vs.map SV.val)[j]?=some (SV.val (vs[j]'(by omega))):=by rw [List.getElem?_map,hvj];rfl
  rw [←ht,List.getElem?_take] at hx
  simp only [Nat.mul_one] at hx
  rw [if_pos hj] at hx
  unfold World.cell?
  simp only [Nat.zero_add]
  rw [hh]
  rw [Array.getElem?_toList] at hx
  exact hx
end Go.Proofs.YtignkfhdkcgkgaaGreat

namespace Go.Proofs.YtignkfhdkcgkgaaGreat
set_option maxRecDepth 100000
open Go.RowKit

theorem slc_info:(Tryz.prog.info? 27).map (fun i=>(i.zero,i.size,i.bytes))=some (some (.slice none 0 0),1,24):=by kernel_rfl

/-! ### sizes -/
def sizeTo (xss:List (List Int)):Nat→Nat
 | 0=>0
 | k+1=>sizeTo xss k+(xss[k]?.getD []).length
def size2 (xss:List (List Int)):Nat:=xss.length+sizeTo xss xss.length
theorem sizeTo_mono (xss:List (List Int)) {j k:Nat} (h:j<k):sizeTo xss j+(xss[j]?.getD []).length≤sizeTo xss k:=by
 induction k with
 | zero=>omega
 | succ k ih =>
  rcases Nat.lt_or_ge j k with h1|h1
  ·have:=ih h1
   simp only [sizeTo]
   omega
  ·obtain rfl:j=k:=by omega
   exact Nat.le_refl _
theorem size2_row {xss:List (List Int)} {j:Nat} (h:j<xss.length):(xss[j]?.getD []).length≤size2 xss:=by
 have:=sizeTo_mono xss h
 unfold size2
 omega
theorem size2_bd {xss:List (List Int)} {n M:Nat} (hx:xss.length=n) (h:size2 xss≤M):n≤M∧∀j:Nat,(xss[j]?.getD []).length≤M:=by
 refine ⟨by unfold size2 at h;omega,fun j=>?_⟩
 rcases Nat.lt_or_ge j xss.length with h1|h1
 ·exact Nat.le_trans (size2_row h1) h
 ·simp [List.getElem?_eq_none h1]
/-! ### comparing -/
/-! ### copying -/
def filled (vs:List SV) (n:Nat):Array Value:=(vs.map SV.val++List.replicate (n - vs.length) (Value.slice none 0 0)).toArray
theorem filled_full {vs:List SV} {n:Nat} (h:vs.length=n):(filled vs n).toList=vs.map SV.val:=by
 simp [filled,h]
theorem filled_size {vs:List SV} {n:Nat} (h:vs.length≤n):(filled vs n).size=n:=by
 simp [filled];omega
theorem Own2.made {w:World} {lo hi g n:Nat} {vs:List SV} {xss:List (List Int)} (hh:w.heap[g]?=some (.cells (filled vs n) 27 (0,0))) (hb:lo≤g) (hg:g<hi) (hn:n≤maxLen) (hl:vs.length=n) (hi':Inner lo hi w vs xss):Own2 lo hi w (some ⟨g,0,none⟩) n n xss :=
 ⟨vs,⟨by simp [hl],.inr ⟨g,n,_,rfl,hb,hh,Nat.le_refl _,hn,by rw [filled_size (by omega)];omega,by rw [filled_full hl,List.take_of_length_le (by simp [hl])]⟩⟩,by rintro a ⟨⟩;exact hg,hi'⟩
/-! ### marking -/
theorem Own2.rowX {lo hi:Nat} {w:World} {A:Option Addr} {n c k:Nat} {yss:List (List Int)} (h:Own2 lo hi w A n c yss) (hk:k<n) :
  ∃b A1 m1 c1,A=some ⟨b,0,none⟩∧w.cell? ⟨b,k,none⟩=some (.slice A1 m1 c1)∧w.frozen? ⟨b,k,none⟩=false∧Own lo w A1 m1 c1 (yss[k]?.getD [])∧Lies A1 lo hi ∧
   (∀w' zs,w.grownBy w' (A1.map (·.block))→Own lo w' A1 m1 c1 zs→Own2 lo hi w' A n c (yss.set k zs))∧(∀a,A1=some a→a.block≠b)∧lo≤b∧b<hi∧b<w.heap.size:=by
 have hlen:=h.len
 obtain ⟨vs,h1,h2,h3⟩:=h
 have hvl:vs.length=n:=by rw [h3.1];exact hlen
 have hvk:vs[k]?=some (vs[k]'(by omega)):=List.getElem?_eq_getElem (by omega)
 generalize vs[k]'(by omega)=v at hvk
 have hr:=h1.2
 rcases hr with ⟨_,h0⟩|⟨g,cap,cur,hv,hb,hh,hnc,hcap,hsz,ht⟩
 ·omega
 ·injection hv with hA
  subst hA
  obtain ⟨hok,hhi⟩:=h3.2.1 k v hvk
  have hcur:cur[k]?=some (SV.val v):=by
   have hx:(vs.map SV.val)[k]?=some (SV.val v):=by rw [List.getElem?_map,hvk];rfl
   rw [←ht,List.getElem?_take] at hx
   simp only [Nat.mul_one] at hx
   rw [if_pos hk,Array.getElem?_toList] at hx
   exact hx
  have hne:∀a,v.1=some a→a.block≠g:=by
   rintro a ha rfl
   rcases hok.2 with ⟨hn,_⟩|⟨g',cap',cur',hv',_,hh',_⟩
   ·injection hn with hn _ _
    rw [hn] at ha
    cases ha
   ·injection hv' with hA' _ _
    rw [hA'] at ha
    injection ha with ha
    subst ha
    rw [hh] at hh'
    injection hh' with hh'
    injection hh' with _ hty
    exact absurd hty (by decide)
  refine ⟨g,v.1,v.2.1,v.2.2,rfl,by unfold World.cell?;rw [hh];exact hcur,by unfold World.frozen?;rw [hh];simp,hok,fun a ha=>⟨(hok.lt a ha).1,hhi a ha⟩,fun w' zs hg ho=>?_,hne,hb,h2 _ rfl,heap_lt0 hh⟩
  refine ⟨vs,ownsRow_block h1 fun a ha=>?_,h2,by rw [List.length_set];exact h3.1,fun j u hu=>?_,h3.2.2⟩
  ·injection ha with ha
   subst ha
   refine hg.block g (heap_lt0 hh) ?_
   cases hv1:v.1 with
   | none=>simp
   | some a=>simpa using fun e=>hne a hv1 e.symm
  ·obtain ⟨q1,q2⟩:=h3.2.1 j u hu
   refine ⟨?_,q2⟩
   by_cases hjk:j=k
   ·subst hjk
    rw [hvk] at hu
    injection hu with hu
    subst hu
    rw [List.getElem?_set_self (by omega)]
    exact ho
   ·rw [List.getElem?_set_ne (by omega)]
    refine ownsRow_block q1 fun a ha=>hg.block _ (q1.lt a ha).2 ?_
    cases hv1:v.1 with
    | none=>simp
    | some a' =>
     simp only [Option.map_some,ne_eq,Option.some.injEq]
     rcases Nat.lt_or_gt_of_ne hjk with hjk|hjk
     ·exact fun e=>h3.2.2 j k u v hjk hu hvk a a' ha hv1 e
     ·exact fun e=>h3.2.2 k j v u hjk hvk hu a' a hv1 ha e.symm

theorem Own2.row {lo hi:Nat} {w:World} {A:Option Addr} {n c k:Nat} {yss:List (List Int)} (h:Own2 lo hi w A n c yss) (hk:k<n) :
  ∃b A1 m1 c1,A=some ⟨b,0,none⟩∧w.cell? ⟨b,k,none⟩=some (.slice A1 m1 c1)∧w.frozen? ⟨b,k,none⟩=false∧Own lo w A1 m1 c1 (yss[k]?.getD [])∧Lies A1 lo hi ∧
   ∀w' zs,w.grownBy w' (A1.map (·.block))→Own lo w' A1 m1 c1 zs→Own2 lo hi w' A n c (yss.set k zs):=by
 obtain ⟨b,A1,m1,c1,h1,h2,h3,h4,h5,h6,_⟩:=h.rowX hk
 exact ⟨b,A1,m1,c1,h1,h2,h3,h4,h5,h6⟩

/-! ### a slice of slices among the arguments -/
section
open Go.ChangeShapes Go.WideShapes Go.ChangeAt
variable {H:Type} {enc:TypeId × Value→H} {W:World} {b0 base:Nat} {held:Bool}
end
end Go.Proofs.YtignkfhdkcgkgaaGreat

namespace Go.Proofs.YtignkfhdkcgkgaaGreat
set_option maxRecDepth 100000
open Go.RowKit

theorem run_append_of_nil {P:Program} (w:World) (base:Nat) (t ty e:TypeId) (i:TypeInfo) (size:Nat) (ht:P.underlying t=some (.slice e)) (hi:P.info? e=some i)
  (v:Value) (n:Nat) (xs:List Value) (hown:w.ownsRow base e size v n xs) (c:Nat):(Builtin.append_ #[t,t] ty #[v,.slice none 0 c]).run P w = .ok v w:=by
 rcases hown.2 with ⟨rfl,rfl⟩|⟨g,cap,cur,rfl,_,_,hnc,_⟩
 ·simp [Builtin.append_,run_underlying ht,sizeOf,typeInfo,hi,Builtin.lenOf,Builtin.firstCells]
 ·simp [Builtin.append_,run_underlying ht,sizeOf,typeInfo,hi,Builtin.lenOf,Builtin.firstCells,hnc,storeCells]

theorem own_grown_lo {base:Nat} {W w w':World} {A:Option Addr} {lo:Nat} (hB:Below lo W w) (hg:w.grownBy w' (A.map (·.block))) (hA:∀a,A=some a→base≤a.block) (hb:lo≤base) (hs:lo≤w.heap.size):Below lo W w' :=
 hB.grown hg hs (by
  cases A with
  | none=>simp
  | some a =>
   have:=hA a rfl
   simp only [Option.map_some,Option.some.injEq]
   rintro k rfl
   omega)

/-- append(s, xs...) for a row of the call's own and whatever list of integers. -/
theorem wpList_append_ints {ops:Array Oper} {rest:List Oper} {o:Oper} {a:Act} {Q:Exit→Act→World→Prop} {w W:World} (hgd:o.guard=none) (s x:Operand)
  (ho:o.op = .call { callee := .builtin .append,args:=#[s,x],argTypes:=#[27,27] })
  (base:Nat) (A:Option Addr) (n c:Nat) (xs:List Int) (hs:a.eval s = .slice A n c) (hown:Own base w A n c xs) (B:Option Addr) (m d:Nat) (ys:List Int) (hx:a.eval x = .slice B m d) (hr:Ints w B m ys)
  (hn:n+m≤1099511627776) (hbase:base≤w.heap.size) (hB:Below base W w)
  (h:∀A' c' w',Own base w' A' (n+m) c' (xs++ys)→Below base W w'→w.grownBy w' (A.map (·.block))→wpList Tryz.prog ops Q rest (a.put o.dst (.slice A' (n+m) c')) w'):wpList Tryz.prog ops Q (o :: rest) a w:=by
 obtain ⟨i0,hi,hz0,hz1,hz2⟩:=info_parts int_info
 cases B with
 | none =>
  have hm:m=0:=by
   rcases Nat.eq_zero_or_pos m with h0|h0
   ·exact h0
   ·obtain ⟨b,o',e,_⟩:=hr.2 h0
    cases e
  subst hm
  have hy:ys=[]:=List.eq_nil_of_length_eq_zero hr.1
  subst hy
  refine wpList_plain hgd fun K hK=>?_
  have hrun:=run_append_of_nil (P:=Tryz.prog) w base 27 o.type 3 i0 1 Tryz.underlying27 hi _ _ _ hown d
  unfold Oper.wp execOp
  simp only [ho,resolve,invoke,builtin,Sem.run_bind,Sem.run_pure,Result.andThen_ok,List.map_toArray,List.map_cons,List.map_nil,hs,hx,hrun]
  exact hK _ _ (h A c w (by simpa using hown) hB (grownBy_refl _ _))
 | some ad =>
  refine wpList_append_own_at w hgd s x 27 ho base 3 i0 (.int .i64 0) 1 8 Tryz.underlying27 hi hz0 hz1 hz2 rfl (by omega) (.slice A n c) n _ hs hown ad m d (ys.map (Value.int .i64)) hx (by simp [hr.1])
   (fun j u hu=>?_) (fun u hu=>by simp at hu;obtain ⟨y,_,rfl⟩:=hu;rfl) (by unfold maxLen;omega) (by omega) hbase ?_
  ·have hj:j<m:=by
    have:=(List.getElem?_eq_some_iff.1 hu).1
    simpa [hr.1] using this
   obtain ⟨b,o',e,_,hc⟩:=hr.2 (by omega)
   injection e with e
   subst e
   rw [Addr.add_lit,hc j hj]
   have:j<ys.length:=by rw [hr.1];exact hj
   simp [this] at hu
   simp [this,←hu]
  ·intro v' w' h1 h2 _ _
   rw [ownBlock_slice] at h2
   have hB':Below base W w':=own_grown_lo hB h2 (fun a ha=>(hown.lt a ha).1) (Nat.le_refl _) hbase
   rw [←List.map_append] at h1
   rcases h1.2 with ⟨rfl,h0⟩|⟨g,cap,cur,rfl,_⟩
   ·have e:n+m=0:=h0
    have:=h none 0 w' (by rw [e] at h1 ⊢;exact h1) hB' h2
    rwa [e] at this
   ·exact h (some ⟨g,0,none⟩) cap w' h1 hB' h2

/-- append of one row to a slice of slices of the call's own. -/
theorem wpList_push2 {ops:Array Oper} {rest:List Oper} {o:Oper} {a:Act} {Q:Exit→Act→World→Prop} {w W:World} (hgd:o.guard=none) (s x:Operand)
  (ho:o.op = .call { callee := .builtin .append,args:=#[s,x],argTypes:=#[26,26] })
  (lo hi:Nat) (A:Option Addr) (n c:Nat) (xss:List (List Int)) (base:Nat) (A1:Option Addr) (m1 c1:Nat) (xs:List Int) (hs:a.eval s = .slice A n c) (hown:Own2 lo hi w A n c xss) (hrow:Own base w A1 m1 c1 xs) (hx:a.eval x = .slice (some ⟨w.heap.size,0,none⟩) 1 1)
  (hn:n≤1099511627776) (hhb:hi≤base) (hlb:lo≤base) (hhw:hi≤w.heap.size) (hlw:lo≤w.heap.size) (hB:Below lo W w)
  (h:∀g cap w',Own2 lo w'.heap.size w' (some ⟨g,0,none⟩) (n+1) cap (xss++[xs])→Below lo W w' →
   wpList Tryz.prog ops Q rest (a.put o.dst (.slice (some ⟨g,0,none⟩) (n+1) cap)) w'):wpList Tryz.prog ops Q (o :: rest) a (w.alloc (.cells #[.slice A1 m1 c1] 27)):=by
 obtain ⟨i0,hi0,hz0,hz1,hz2⟩:=info_parts slc_info
 obtain ⟨vs,h1,h2,h3⟩:=hown
 have hl:=ownsRow_lt h1
 refine wpList_append_lies (w.alloc (.cells #[.slice A1 m1 c1] 27)) hgd s x 26 ho lo 27 i0 (.slice none 0 0) 1 24 Tryz.underlying26 hi0 hz0 hz1 hz2 rfl (by omega) (.slice A n c) n (vs.map SV.val) hs
  (ownsRow_block h1 fun a ha=>Below.heap_alloc _ _ _ (hl a ha).2) ⟨w.heap.size,0,none⟩ 1 1 [.slice A1 m1 c1] hx rfl
  (fun j u hu=>?_) (fun u hu=>?_) (by omega) (by unfold maxLen;omega) (by omega) (by simp;omega) (w.heap.size+1) (by simp) ?_
 ·rcases j with _|j
  ·simp at hu
   subst hu
   rw [add_lit0']
   unfold World.cell?
   rw [heap_new]
   rfl
  ·simp at hu
 ·simp at hu;subst hu;rfl
 ·intro g cap w' k1 k2 k3 k4
  rw [ownBlock_slice] at k2 k3
  have hkeep:∀k e cs f,k<w.heap.size→w.heap[k]?=some (.cells cs e f)→e=3→w'.heap[k]?=w.heap[k]?:=by
   intro k e cs f hk hh he
   refine (k2.block k (by simp;omega) ?_).trans (Below.heap_alloc _ _ _ hk)
   cases hA:A with
   | none=>simp
   | some a' =>
    simp only [Option.map_some,ne_eq,Option.some.injEq]
    rintro rfl
    rcases h1.2 with ⟨hv,_⟩|⟨g',cap',cur',hv,_,hh',_⟩
    ·injection hv with hv _ _
     rw [hA] at hv
     cases hv
    ·injection hv with hv _ _
     rw [hA] at hv
     injection hv with hv
     subst hv
     rw [hh] at hh'
     injection hh' with hh'
     injection hh' with _ hty
     rw [he] at hty
     exact absurd hty (by decide)
  have hin:Inner lo hi w' vs xss:=h3.keep fun k e cs f hk _ _ hh he=>hkeep k e cs f hk hh he
  have hro:Own base w' A1 m1 c1 xs:=ownsRow_block hrow fun a ha=>by
   have hla:=hrow.lt a ha
   rcases hrow.2 with ⟨hv,_⟩|⟨g',cap',cur',hv,_,hh',_⟩
   ·injection hv with hv _ _
    rw [hv] at ha
    cases ha
   ·injection hv with hv _ _
    rw [hv] at ha
    injection ha with ha
    subst ha
    exact hkeep g' _ _ _ hla.2 hh' rfl
  have hsz:w.heap.size≤w'.heap.size:=by have:=k2.size;simp at this;omega
  have hsn:=hin.snoc hro hhb hlb
  rw [Nat.max_eq_right (by omega)] at hsn
  refine h g cap w' ⟨vs++[(A1,m1,c1)],by simpa [SV.val] using k1,by rintro a ⟨⟩;exact k4,hsn⟩ ?_
  exact own_grown_lo (base:=lo) (hB.alloc hlw _) k2 (fun a ha=>(hl a ha).1) (Nat.le_refl _) (by simp;omega)
end Go.Proofs.YtignkfhdkcgkgaaGreat
