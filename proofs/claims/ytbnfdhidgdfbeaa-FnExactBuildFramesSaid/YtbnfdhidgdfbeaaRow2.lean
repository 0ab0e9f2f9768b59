/- How the laws' arguments read: structs of integers, slices of integers, bytes, slices of slices. Slices of slices of integers: reading, owning, copying, comparing, marking. -/
import Derived.ChangeOld
import Derived.Deep.Matrix
import Derived.Lib.SmallJoins
import Derived.OpenShut
import Derived.ProofKit
import Derived.ShutString
import Derived.Test.YtbnfdhidgdfbeaaBase
import Derived.Test.YtbnfdhidgdfbeaaHar
namespace Go.Proofs.Ytbnfdhidgdfbeaa
set_option maxRecDepth 100000
open Go.RowKit Go.ChangeShapes Go.WideShapes Go.ChangeAt

theorem Try.own:ownKnob Try.prog.godebug=none:=by kernel_rfl
theorem Try.laidOut:laidOutB Try.prog=true:=by kernel_rfl

def Wf (a:Int):Prop:=-9223372036854775808≤a∧a≤9223372036854775807
theorem wf_of {a:Int} (h:(Lit.int .i64 a).wf=true):Wf a:=by
 simp [Lit.wf,IntKind.min,IntKind.max,IntKind.signed,IntKind.bits] at h
 exact h
def Dev.wf (d:Dev):Prop:=Wf d.W∧Wf d.H∧Wf d.T∧Wf d.R
def Reg.wf (d:Reg):Prop:=Wf d.X0∧Wf d.Y0∧Wf d.X1∧Wf d.Y1

section
variable {H:Type} {enc:TypeId × Value→H} {W:World} {b0 base:Nat} {spare:Nat→Bool} {held:Bool}
theorem open_dev {v:Value} {d:DataW H} {p:List MemPlace} (hv:Value.okWide Try.prog W .any b0 23 v) (h:DataW.Trod enc Try.prog W base spare held 23 v d p) :
  ∃a:Dev,v = .agg #[.int .i64 a.W,.int .i64 a.H,.int .i64 a.T,.int .i64 a.R]∧a.wf:=by
 obtain ⟨v0,v1,v2,v3,y0,y1,y2,y3,n,rfl,_,_,h0,h1,h2,h3⟩:=Joins.open_agg4 Try.underlying23 (by kernel_rfl) (by kernel_rfl) hv h
 obtain ⟨a0,e0,_,w0⟩:=DataW.trod_int Try.underlying3 h0
 obtain ⟨a1,e1,_,w1⟩:=DataW.trod_int Try.underlying3 h1
 obtain ⟨a2,e2,_,w2⟩:=DataW.trod_int Try.underlying3 h2
 obtain ⟨a3,e3,_,w3⟩:=DataW.trod_int Try.underlying3 h3
 simp only [List.cons.injEq,and_true] at e0 e1 e2 e3
 subst e0 e1 e2 e3
 exact ⟨⟨a0,a1,a2,a3⟩,rfl,wf_of w0,wf_of w1,wf_of w2,wf_of w3⟩


theorem cell_lt {w:World} {a:Addr} {v:Value} (h:w.cell? a=some v):a.block<w.heap.size:=by
 rcases Nat.lt_or_ge a.block w.heap.size with hlt|hge
 ·exact hlt
 ·unfold World.cell? at h
  rw [Array.getElem?_eq_none hge] at h
  cases h
theorem add_lit0 (a:Addr):a.add 0=a:=by simp [Addr.add]

theorem ints_of {a:Addr} {n cap:Nat} {zs:List Int} (hl:n≤cap) (hz:zs.length=cap) (hc:∀i,i<zs.length→W.cell? (a.add i)=some (.int .i64 (zs.getD i 0))):Ints W (some a) n (zs.take n):=by
 refine ⟨by simp;omega,fun hn=>?_⟩
 have h0:=hc 0 (by omega)
 rw [add_lit0] at h0
 obtain ⟨b,o,s⟩:=a
 have hs:s=none:=World.cell?_spot h0
 subst hs
 refine ⟨b,o,rfl,cell_lt h0,fun j hj=>?_⟩
 have:=hc j (by omega)
 rw [Addr.add_lit] at this
 rw [this,List.getElem?_take,if_pos hj]
 rfl

end
end Go.Proofs.Ytbnfdhidgdfbeaa

namespace Go.Proofs.Ytbnfdhidgdfbeaa
set_option maxRecDepth 100000
open Go.RowKit

/-- A slice's value by its three parts. -/
abbrev SV:=Option Addr × Nat × Nat
def SV.val (v:SV):Value := .slice v.1 v.2.1 v.2.2

def Rows2 (w:World) (A:Option Addr) (n:Nat) (xss:List (List Int)):Prop :=
 xss.length=n∧(0<n→∃b o,A=some ⟨b,o,none⟩∧b<w.heap.size∧∀j,j<n→∃A' m c,w.cell? ⟨b,o+j,none⟩=some (.slice A' m c)∧Ints w A' m (xss[j]?.getD []))
theorem Rows2.below {w w':World} {A:Option Addr} {n:Nat} {xss:List (List Int)} (h:Rows2 w A n xss) (hb:Below w.heap.size w w'):Rows2 w' A n xss:=by
 refine ⟨h.1,fun hn=>?_⟩
 obtain ⟨b,o,e,hlt,hc⟩:=h.2 hn
 refine ⟨b,o,e,below_lt hb hlt,fun j hj=>?_⟩
 obtain ⟨A',m,c,h1,h2⟩:=hc j hj
 exact ⟨A',m,c,(hb.cell (p:=⟨b,o+j,none⟩) hlt).trans h1,h2.below hb⟩

/-- The rows within a slice of slices: each the call's own, no two in one block. -/
def Inner (lo hi:Nat) (w:World) (vs:List SV) (xss:List (List Int)):Prop :=
 vs.length=xss.length∧(∀(j:Nat) (v:SV),vs[j]?=some v→Own lo w v.1 v.2.1 v.2.2 (xss[j]?.getD [])∧∀a:Addr,v.1=some a→a.block<hi) ∧
 ∀(i j:Nat) (u v:SV),i<j→vs[i]?=some u→vs[j]?=some v→∀a b:Addr,u.1=some a→v.1=some b→a.block≠b.block
theorem Inner.nil {lo hi:Nat} {w:World}:Inner lo hi w [] []:=⟨rfl,fun j v h=>by simp at h,fun i j u v _ h=>by simp at h⟩
theorem Inner.keep {lo hi:Nat} {w w':World} {vs:List SV} {xss:List (List Int)} (h:Inner lo hi w vs xss) (hk:∀k e cs f,k<w.heap.size→lo≤k→k<hi→w.heap[k]?=some (.cells cs e f)→e=3→w'.heap[k]?=w.heap[k]?):Inner lo hi w' vs xss:=by
 refine ⟨h.1,fun j v hv=>?_,h.2.2⟩
 obtain ⟨h1,h2⟩:=h.2.1 j v hv
 refine ⟨ownsRow_block h1 fun a ha=>?_,h2⟩
 have hl:=h1.lt a ha
 rcases h1.2 with ⟨hn,_⟩|⟨g,cap,cur,hv',hb,hh,_⟩
 ·injection hn with hn _ _
  rw [hn] at ha
  cases ha
 ·injection hv' with hA _ _
  rw [hA] at ha
  injection ha with ha
  subst ha
  exact hk g _ _ _ hl.2 hb (h2 _ hA) hh rfl
theorem Inner.below {lo hi:Nat} {w w':World} {vs:List SV} {xss:List (List Int)} (h:Inner lo hi w vs xss) (hb:Below w.heap.size w w'):Inner lo hi w' vs xss :=
 h.keep fun k _ _ _ hk _ _ _ _=>hb.block k hk
theorem Inner.chg {lo hi lo' hi':Nat} {w w':World} {vs:List SV} {xss:List (List Int)} (h:Inner lo hi w vs xss) (hg:Chg lo' hi' w w') (ha:hi≤lo'∨hi'≤lo):Inner lo hi w' vs xss :=
 h.keep fun k _ _ _ hk h1 h2 _ _=>hg.block k hk (by omega)
theorem Inner.put {lo hi:Nat} {w:World} {vs:List SV} {xss:List (List Int)} (h:Inner lo hi w vs xss) {g:Nat} {cs:Array Value} {f:Nat × Nat} (hg:w.heap[g]?=some (.cells cs 44 f)) (j:Nat) (v:Value):Inner lo hi (w.setCell ⟨g,j,none⟩ v) vs xss :=
 h.keep fun k e cs' f' _ _ _ hk he=>Below.heap_setCell _ _ _ _ (by
  rintro rfl
  rw [hg] at hk
  injection hk with hk
  injection hk with _ ht
  rw [he] at ht
  exact absurd ht (by decide))
theorem Inner.widen {lo hi hi':Nat} {w:World} {vs:List SV} {xss:List (List Int)} (h:Inner lo hi w vs xss) (hh:hi≤hi'):Inner lo hi' w vs xss :=
 ⟨h.1,fun j v hv=>⟨(h.2.1 j v hv).1,fun a ha=>Nat.lt_of_lt_of_le ((h.2.1 j v hv).2 a ha) hh⟩,h.2.2⟩
theorem Inner.lower {lo lo' hi:Nat} {w:World} {vs:List SV} {xss:List (List Int)} (h:Inner lo hi w vs xss) (hh:lo'≤lo):Inner lo' hi w vs xss :=
 ⟨h.1,fun j v hv=>⟨(h.2.1 j v hv).1.more hh,(h.2.1 j v hv).2⟩,h.2.2⟩
theorem Inner.snoc {lo hi base:Nat} {w:World} {vs:List SV} {xss:List (List Int)} (h:Inner lo hi w vs xss) {A:Option Addr} {m c:Nat} {xs:List Int} (o:Own base w A m c xs) (hb:hi≤base) (hlo:lo≤base) :
  Inner lo (max hi w.heap.size) w (vs++[(A,m,c)]) (xss++[xs]):=by
 have hl:=h.1
 refine ⟨by simp [hl],fun j v hv=>?_,fun i j u v hij hu hv a b ha hb'=>?_⟩
 ·rw [List.getElem?_append] at hv
  split at hv
  ·rename_i hj
   obtain ⟨h1,h2⟩:=h.2.1 j v hv
   refine ⟨?_,fun a ha=>by have:=h2 a ha;omega⟩
   rw [List.getElem?_append_left (by omega)]
   exact h1
  ·rename_i hj
   have hj':j - vs.length=0:=by
    rcases Nat.eq_zero_or_pos (j - vs.length) with h0|h0
    ·exact h0
    ·simp [show j - vs.length≠0 by omega] at hv
   rw [hj'] at hv
   simp at hv
   subst hv
   refine ⟨?_,fun a ha=>by have:=(o.lt a ha).2;omega⟩
   rw [List.getElem?_append_right (by omega),show j - xss.length=0 by omega]
   exact o.more hlo
 ·rw [List.getElem?_append] at hu hv
  split at hv
  ·rename_i hj
   rw [if_pos (by omega)] at hu
   exact h.2.2 i j u v hij hu hv a b ha hb'
  ·rename_i hj
   have hj':j - vs.length=0:=by
    rcases Nat.eq_zero_or_pos (j - vs.length) with h0|h0
    ·exact h0
    ·simp [show j - vs.length≠0 by omega] at hv
   rw [hj'] at hv
   simp at hv
   subst hv
   rw [if_pos (by omega)] at hu
   have h1:=(h.2.1 i u hu).2 a ha
   have h2:=(o.lt b hb').1
   omega

def Own2 (lo hi:Nat) (w:World) (A:Option Addr) (n c:Nat) (xss:List (List Int)):Prop :=
 ∃vs:List SV,w.ownsRow lo 44 1 (.slice A n c) n (vs.map SV.val)∧(∀a:Addr,A=some a→a.block<hi)∧Inner lo hi w vs xss
theorem Own2.nil {lo hi:Nat} {w:World}:Own2 lo hi w none 0 0 []:=⟨[],⟨rfl,.inl ⟨rfl,rfl⟩⟩,by simp,Inner.nil⟩
theorem ownsRow_lt {base:Nat} {w:World} {A:Option Addr} {e:TypeId} {n c:Nat} {vs:List Value} (h:w.ownsRow base e 1 (.slice A n c) n vs):∀a,A=some a→base≤a.block∧a.block<w.heap.size:=by
 rintro a rfl
 rcases h.2 with ⟨hv,_⟩|⟨g,cap,cur,hv,hb,hh,_⟩
 ·cases hv
 ·injection hv with hA
  injection hA with hA
  subst hA
  exact ⟨hb,heap_lt0 hh⟩
theorem Own2.len {lo hi:Nat} {w:World} {A:Option Addr} {n c:Nat} {xss:List (List Int)} (h:Own2 lo hi w A n c xss):xss.length=n:=by
 obtain ⟨vs,h1,_,h2⟩:=h
 have:=h1.1
 rw [←h2.1]
 simpa using this
theorem Own2.below {lo hi:Nat} {w w':World} {A:Option Addr} {n c:Nat} {xss:List (List Int)} (h:Own2 lo hi w A n c xss) (hb:Below w.heap.size w w'):Own2 lo hi w' A n c xss:=by
 obtain ⟨vs,h1,h2,h3⟩:=h
 exact ⟨vs,ownsRow_block h1 fun a ha=>hb.block _ (ownsRow_lt h1 a ha).2,h2,h3.below hb⟩
theorem Own2.chg {lo hi lo' hi':Nat} {w w':World} {A:Option Addr} {n c:Nat} {xss:List (List Int)} (h:Own2 lo hi w A n c xss) (hg:Chg lo' hi' w w') (ha:hi≤lo'∨hi'≤lo):Own2 lo hi w' A n c xss:=by
 obtain ⟨vs,h1,h2,h3⟩:=h
 exact ⟨vs,ownsRow_block h1 fun a e=>hg.block _ (ownsRow_lt h1 a e).2 (by have:=ownsRow_lt h1 a e;have:=h2 a e;omega),h2,h3.chg hg ha⟩
theorem Own2.drewd {lo hi:Nat} {w:World} {A:Option Addr} {n c:Nat} {xss:List (List Int)} (h:Own2 lo hi w A n c xss):Own2 lo hi w.drew A n c xss:=h
theorem Own2.rd {lo hi:Nat} {w:World} {A:Option Addr} {n c:Nat} {xss:List (List Int)} (h:Own2 lo hi w A n c xss):Rows2 w A n xss:=by
 refine ⟨h.len,fun hn=>?_⟩
 have hlen:=h.len
 obtain ⟨vs,h1,h2,h3⟩:=h
 rcases h1.2 with ⟨_,h0⟩|⟨g,cap,cur,hv,hb,hh,hnc,hcap,hsz,ht⟩
 ·omega
 ·injection hv with hA
  subst hA
  refine ⟨g,0,rfl,heap_lt0 hh,fun j hj=>?_⟩
  have hvl:vs.length=n:=by rw [h3.1];exact hlen
  have hvj:vs[j]?=some (vs[j]'(by omega)):=List.getElem?_eq_getElem (by omega)
  refine ⟨(vs[j]'(by omega)).1,(vs[j]'(by omega)).2.1,(vs[j]'(by omega)).2.2,?_,(h3.2.1 j _ hvj).1.ints⟩
  have hx:(vs.map SV.val)[j]?=some (SV.val (vs[j]'(by omega))):=by rw [List.getElem?_map,hvj];rfl
  rw [←ht,List.getElem?_take] at hx
  simp only [Nat.mul_one] at hx
  rw [if_pos hj] at hx
  unfold World.cell?
  simp only [Nat.zero_add]
  rw [hh]
  rw [Array.getElem?_toList] at hx
  exact hx
end Go.Proofs.Ytbnfdhidgdfbeaa
