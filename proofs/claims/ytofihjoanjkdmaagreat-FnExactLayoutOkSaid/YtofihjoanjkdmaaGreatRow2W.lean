/- How the laws' arguments read: structs of integers, slices of integers, bytes, slices of slices. -/
import Derived.ChangeOld
import Derived.Deep.Matrix
import Derived.Lib.SmallJoins
import Derived.OpenShut
import Derived.ProofKit
import Derived.ShutString
import Derived.Test.YtofihjoanjkdmaaGreatHar
namespace Go.Proofs.YtofihjoanjkdmaaGreat
set_option maxHeartbeats 400000
set_option maxRecDepth 100000
open Go.RowKit Go.ChangeShapes Go.WideShapes Go.ChangeAt
theorem Tryz.own:ownKnob Tryz.prog.godebug=none:=by kernel_rfl
theorem Tryz.laidOut:laidOutB Tryz.prog=true:=by kernel_rfl
def Wf (a:Int):Prop:=-9223372036854775808<=a/\a<=9223372036854775807
theorem wM {a:Int} (h:(Lit.int .i64 a).wf=true):Wf a:=by
 simp [Lit.wf,IntKind.min,IntKind.max,IntKind.signed,IntKind.bits] at h
 exact h
def Dev.wf (d:Dev):Prop:=Wf d.W/\Wf d.H/\Wf d.T/\Wf d.R
def Reg.wf (d:Reg):Prop:=Wf d.X0/\Wf d.Y0/\Wf d.X1/\Wf d.Y1
section
variable {H:Type} {enc:TypeId × Value→H} {W:World} {b0 base:Nat} {spare:Nat→Bool} {held:Bool}
theorem xu {v:Value} {d:DataW H} {p:List MemPlace} (hv:Value.okWide Tryz.prog W .any b0 23 v) (h:DataW.Trod enc Tryz.prog W base spare held 23 v d p) :
  ∃a:Dev,v = .agg #[.int .i64 a.W,.int .i64 a.H,.int .i64 a.T,.int .i64 a.R]/\a.wf:=by
 obtain ⟨v0,v1,v2,v3,y0,y1,y2,y3,n,rfl,_,_,h0,h1,h2,h3⟩:=Joins.open_agg4 Tryz.underlying23 (by kernel_rfl) (by kernel_rfl) hv h
 obtain ⟨a0,e0,_,w0⟩:=DataW.trod_int Tryz.underlying3 h0
 obtain ⟨a1,e1,_,w1⟩:=DataW.trod_int Tryz.underlying3 h1
 obtain ⟨a2,e2,_,w2⟩:=DataW.trod_int Tryz.underlying3 h2
 obtain ⟨a3,e3,_,w3⟩:=DataW.trod_int Tryz.underlying3 h3
 simp only [List.cons.injEq,and_true] at e0 e1 e2 e3
 subst e0 e1 e2 e3
 exact ⟨⟨a0,a1,a2,a3⟩,rfl,wM w0,wM w1,wM w2,wM w3⟩
theorem yl {w:World} {a:Addr} {v:Value} (h:w.cell? a=some v):a.block<w.heap.size:=by
 rcases Nat.lt_or_ge a.block w.heap.size with hlt|hge
 ·exact hlt
 ·unfold World.cell? at h
  rw [Array.getElem?_eq_none hge] at h
  cases h
end
abbrev SV:=Option Addr × Nat × Nat
def SV.val (v:SV):Value := .slice v.1 v.2.1 v.2.2
def rD (w:World) (A:Option Addr) (n:Nat) (xss:List (List Int)):Prop :=
 xss.length=n/\(0<n→∃b o,A=some ⟨b,o,none⟩/\b<w.heap.size/\∀j,j<n→∃A' m c,w.cell? ⟨b,o+j,none⟩=some (.slice A' m c)/\dA w A' m (xss[j]?.getD []))
theorem rD.below {w w':World} {A:Option Addr} {n:Nat} {xss:List (List Int)} (h:rD w A n xss) (hb:Below w.heap.size w w'):rD w' A n xss:=by
 refine ⟨h.1,fun hn=>?_⟩
 obtain ⟨b,o,e,hlt,hc⟩:=h.2 hn
 refine ⟨b,o,e,aL hb hlt,fun j hj=>?_⟩
 obtain ⟨A',m,c,h1,h2⟩:=hc j hj
 exact ⟨A',m,c,(hb.cell (p:=⟨b,o+j,none⟩) hlt).trans h1,h2.below hb⟩
def ib (lo hi:Nat) (w:World) (vs:List SV) (xss:List (List Int)):Prop :=
 vs.length=xss.length/\(∀(j:Nat) (v:SV),vs[j]?=some v→Own lo w v.1 v.2.1 v.2.2 (xss[j]?.getD [])/\∀a:Addr,v.1=some a→a.block<hi) /\
 ∀(i j:Nat) (u v:SV),i<j→vs[i]?=some u→vs[j]?=some v→∀a b:Addr,u.1=some a→v.1=some b→a.block≠b.block
theorem ib.nil {lo hi:Nat} {w:World}:ib lo hi w [] []:=⟨rfl,fun j v h=>by simp at h,fun i j u v _ h=>by simp at h⟩
theorem ib.keep {lo hi:Nat} {w w':World} {vs:List SV} {xss:List (List Int)} (h:ib lo hi w vs xss) (hk:∀k e cs f,k<w.heap.size→lo<=k→k<hi→w.heap[k]?=some (.cells cs e f)→e=3→w'.heap[k]?=w.heap[k]?):ib lo hi w' vs xss:=by
 refine ⟨h.1,fun j v hv=>?_,h.2.2⟩
 obtain ⟨h1,h2⟩:=h.2.1 j v hv
 refine ⟨eZ h1 fun a ha=>?_,h2⟩
 have hl:=h1.lt a ha
 rcases h1.2 with ⟨hn,_⟩|⟨g,cap,cur,hv',hb,hh,_⟩
 ·injection hn with hn _ _
  rw [hn] at ha
  cases ha
 ·injection hv' with hA _ _
  rw [hA] at ha
  injection ha with ha
  subst ha
  exact hk g _ _ _ hl.2 hb (h2 _ hA) hh rfl
theorem ib.below {lo hi:Nat} {w w':World} {vs:List SV} {xss:List (List Int)} (h:ib lo hi w vs xss) (hb:Below w.heap.size w w'):ib lo hi w' vs xss :=
 h.keep fun k _ _ _ hk _ _ _ _=>hb.block k hk
theorem ib.put {lo hi:Nat} {w:World} {vs:List SV} {xss:List (List Int)} (h:ib lo hi w vs xss) {g:Nat} {cs:Array Value} {f:Nat × Nat} (hg:w.heap[g]?=some (.cells cs 26 f)) (j:Nat) (v:Value):ib lo hi (w.setCell ⟨g,j,none⟩ v) vs xss :=
 h.keep fun k e cs' f' _ _ _ hk he=>Below.heap_setCell _ _ _ _ (by
  rintro rfl
  rw [hg] at hk
  injection hk with hk
  injection hk with _ ht
  rw [he] at ht
  exact absurd ht (by decide))
theorem ib.widen {lo hi hi':Nat} {w:World} {vs:List SV} {xss:List (List Int)} (h:ib lo hi w vs xss) (hh:hi<=hi'):ib lo hi' w vs xss :=
 ⟨h.1,fun j v hv=>⟨(h.2.1 j v hv).1,fun a ha=>Nat.lt_of_lt_of_le ((h.2.1 j v hv).2 a ha) hh⟩,h.2.2⟩
theorem ib.lower {lo lo' hi:Nat} {w:World} {vs:List SV} {xss:List (List Int)} (h:ib lo hi w vs xss) (hh:lo'<=lo):ib lo' hi w vs xss :=
 ⟨h.1,fun j v hv=>⟨(h.2.1 j v hv).1.more hh,(h.2.1 j v hv).2⟩,h.2.2⟩
def je (lo hi:Nat) (w:World) (A:Option Addr) (n c:Nat) (xss:List (List Int)):Prop :=
 ∃vs:List SV,w.ownsRow lo 26 1 (.slice A n c) n (vs.map SV.val)/\(∀a:Addr,A=some a→a.block<hi)/\ib lo hi w vs xss
theorem je.nil {lo hi:Nat} {w:World}:je lo hi w none 0 0 []:=⟨[],⟨rfl,.inl ⟨rfl,rfl⟩⟩,by simp,ib.nil⟩
theorem vG {base:Nat} {w:World} {A:Option Addr} {e:TypeId} {n c:Nat} {vs:List Value} (h:w.ownsRow base e 1 (.slice A n c) n vs):∀a,A=some a→base<=a.block/\a.block<w.heap.size:=by
 rintro a rfl
 rcases h.2 with ⟨hv,_⟩|⟨g,cap,cur,hv,hb,hh,_⟩
 ·cases hv
 ·injection hv with hA
  injection hA with hA
  subst hA
  exact ⟨hb,aC hh⟩
theorem je.len {lo hi:Nat} {w:World} {A:Option Addr} {n c:Nat} {xss:List (List Int)} (h:je lo hi w A n c xss):xss.length=n:=by
 obtain ⟨vs,h1,_,h2⟩:=h
 have:=h1.1
 rw [←h2.1]
 simpa using this
theorem je.below {lo hi:Nat} {w w':World} {A:Option Addr} {n c:Nat} {xss:List (List Int)} (h:je lo hi w A n c xss) (hb:Below w.heap.size w w'):je lo hi w' A n c xss:=by
 obtain ⟨vs,h1,h2,h3⟩:=h
 exact ⟨vs,eZ h1 fun a ha=>hb.block _ (vG h1 a ha).2,h2,h3.below hb⟩
theorem je.drewd {lo hi:Nat} {w:World} {A:Option Addr} {n c:Nat} {xss:List (List Int)} (h:je lo hi w A n c xss):je lo hi w.drew A n c xss:=h
theorem je.rd {lo hi:Nat} {w:World} {A:Option Addr} {n c:Nat} {xss:List (List Int)} (h:je lo hi w A n c xss):rD w A n xss:=by
 refine ⟨h.len,fun hn=>?_⟩
 have hlen:=h.len
 obtain ⟨vs,h1,h2,h3⟩:=h
 rcases h1.2 with ⟨_,h0⟩|⟨g,cap,cur,hv,hb,hh,hnc,hcap,hsz,ht⟩
 ·omega
 ·injection hv with hA
  subst hA
  refine ⟨g,0,rfl,aC hh,fun j hj=>?_⟩
  have hvl:vs.length=n:=by rw [h3.1];exact hlen
  have hvj:vs[j]?=some (vs[j]'(by omega)):=List.getElem?_eq_getElem (by omega)
  refine ⟨(vs[j]'(by omega)).1,(vs[j]'(by omega)).2.1,(vs[j]'(by omega)).2.2,?_,(h3.2.1 j _ hvj).1.ints⟩
  have hx:(vs.map SV.val)[j]?=some (SV.val (vs[j]'(by omega))):=by rw [List.getElem?_map,hvj];rfl
  rw [←ht,List.getElem?_take] at hx
  simp only [Nat.mul_one] at hx
  rw [if_pos hj] at hx
  unfold World.cell?
  simp only [Nat.zero_add]
  rw [hh]
  rw [Array.getElem?_toList] at hx
  exact hx
/-! ### sizes -/
def iB (L:Int) (s:Nat):Int:=if (s:Int)<=L then L - s else -1
theorem aY {L:Int} {s:Nat} (h:¬(s:Int)<=L):iB L s=-1:=if_neg h
theorem ax {L:Int} {s:Nat} (h:(s:Int)<=L):iB L s=L - s:=if_pos h
theorem vH (A:Option Addr) (n c:Nat) (L:Int) (w:World) (hL:0<=L) (hL':L<=1099511627776) (hn:n<=9223372036854775807) :
  Calls Tryz.prog 33 #[.slice A n c,.int .i64 L] w fun e w'=>e = .returned (.int .i64 (iB L n))/\w=w':=by
 by_cases h:(n:Int)<=L
 ·have hd:decide (L - (n:Int)<0)=false:=by simp;omega
  have hl:=Hd (ax h)
  go_enter Tryz.func33,Tryz.ntmps33
  go_wp2_with fail
  go_ret
  exact ⟨aQ hl.out.symm,rfl⟩
 ·have hd:decide (L - (n:Int)<0)=true:=by simp;omega
  have hl:=Hd (aY h)
  go_enter Tryz.func33,Tryz.ntmps33
  go_wp2_with fail
  go_ret
  exact ⟨aQ hl.out.symm,rfl⟩
/-! ### comparing -/
/-! ### copying -/
def p8 (vs:List SV) (n:Nat):Array Value:=(vs.map SV.val++List.replicate (n - vs.length) (Value.slice none 0 0)).toArray
theorem tT {vs:List SV} {n:Nat} (h:vs.length=n):(p8 vs n).toList=vs.map SV.val:=by
 simp [p8,h]
theorem tV {vs:List SV} {n:Nat} (h:vs.length<=n):(p8 vs n).size=n:=by
 simp [p8];omega
theorem je.made {w:World} {lo hi g n:Nat} {vs:List SV} {xss:List (List Int)} (hh:w.heap[g]?=some (.cells (p8 vs n) 26 (0,0))) (hb:lo<=g) (hg:g<hi) (hn:n<=maxLen) (hl:vs.length=n) (hi':ib lo hi w vs xss):je lo hi w (some ⟨g,0,none⟩) n n xss :=
 ⟨vs,⟨by simp [hl],.inr ⟨g,n,_,rfl,hb,hh,Nat.le_refl _,hn,by rw [tV (by omega)];omega,by rw [tT hl,List.take_of_length_le (by simp [hl])]⟩⟩,by rintro a ⟨⟩;exact hg,hi'⟩
/-! ### marking -/
theorem je.rowX {lo hi:Nat} {w:World} {A:Option Addr} {n c k:Nat} {yss:List (List Int)} (h:je lo hi w A n c yss) (hk:k<n) :
  ∃b A1 m1 c1,A=some ⟨b,0,none⟩/\w.cell? ⟨b,k,none⟩=some (.slice A1 m1 c1)/\w.frozen? ⟨b,k,none⟩=false/\Own lo w A1 m1 c1 (yss[k]?.getD [])/\pQ A1 lo hi /\
   (∀w' zs,w.grownBy w' (A1.map (·.block))→Own lo w' A1 m1 c1 zs→je lo hi w' A n c (yss.set k zs))/\(∀a,A1=some a→a.block≠b)/\lo<=b/\b<hi/\b<w.heap.size:=by
 have hlen:=h.len
 obtain ⟨vs,h1,h2,h3⟩:=h
 have hvl:vs.length=n:=by rw [h3.1];exact hlen
 have hvk:vs[k]?=some (vs[k]'(by omega)):=List.getElem?_eq_getElem (by omega)
 generalize vs[k]'(by omega)=v at hvk
 have hr:=h1.2
 rcases hr with ⟨_,h0⟩|⟨g,cap,cur,hv,hb,hh,hnc,hcap,hsz,ht⟩
 ·omega
 ·injection hv with hA
  subst hA
  obtain ⟨hok,hhi⟩:=h3.2.1 k v hvk
  have hcur:cur[k]?=some (SV.val v):=by
   have hx:(vs.map SV.val)[k]?=some (SV.val v):=by rw [List.getElem?_map,hvk];rfl
   rw [←ht,List.getElem?_take] at hx
   simp only [Nat.mul_one] at hx
   rw [if_pos hk,Array.getElem?_toList] at hx
   exact hx
  have hne:∀a,v.1=some a→a.block≠g:=by
   rintro a ha rfl
   rcases hok.2 with ⟨hn,_⟩|⟨g',cap',cur',hv',_,hh',_⟩
   ·injection hn with hn _ _
    rw [hn] at ha
    cases ha
   ·injection hv' with hA' _ _
    rw [hA'] at ha
    injection ha with ha
    subst ha
    rw [hh] at hh'
    injection hh' with hh'
    injection hh' with _ hty
    exact absurd hty (by decide)
  refine ⟨g,v.1,v.2.1,v.2.2,rfl,by unfold World.cell?;rw [hh];exact hcur,by unfold World.frozen?;rw [hh];simp,hok,fun a ha=>⟨(hok.lt a ha).1,hhi a ha⟩,fun w' zs hg ho=>?_,hne,hb,h2 _ rfl,aC hh⟩
  refine ⟨vs,eZ h1 fun a ha=>?_,h2,by rw [List.length_set];exact h3.1,fun j u hu=>?_,h3.2.2⟩
  ·injection ha with ha
   subst ha
   refine hg.block g (aC hh) ?_
   cases hv1:v.1 with
   | none=>simp
   | some a=>simpa using fun e=>hne a hv1 e.symm
  ·obtain ⟨q1,q2⟩:=h3.2.1 j u hu
   refine ⟨?_,q2⟩
   by_cases hjk:j=k
   ·subst hjk
    rw [hvk] at hu
    injection hu with hu
    subst hu
    rw [List.getElem?_set_self (by omega)]
    exact ho
   ·rw [List.getElem?_set_ne (by omega)]
    refine eZ q1 fun a ha=>hg.block _ (q1.lt a ha).2 ?_
    cases hv1:v.1 with
    | none=>simp
    | some a' =>
     simp only [Option.map_some,ne_eq,Option.some.injEq]
     rcases Nat.lt_or_gt_of_ne hjk with hjk|hjk
     ·exact fun e=>h3.2.2 j k u v hjk hu hvk a a' ha hv1 e
     ·exact fun e=>h3.2.2 k j v u hjk hvk hu a' a hv1 ha e.symm
theorem je.row {lo hi:Nat} {w:World} {A:Option Addr} {n c k:Nat} {yss:List (List Int)} (h:je lo hi w A n c yss) (hk:k<n) :
  ∃b A1 m1 c1,A=some ⟨b,0,none⟩/\w.cell? ⟨b,k,none⟩=some (.slice A1 m1 c1)/\w.frozen? ⟨b,k,none⟩=false/\Own lo w A1 m1 c1 (yss[k]?.getD [])/\pQ A1 lo hi /\
   ∀w' zs,w.grownBy w' (A1.map (·.block))→Own lo w' A1 m1 c1 zs→je lo hi w' A n c (yss.set k zs):=by
 obtain ⟨b,A1,m1,c1,h1,h2,h3,h4,h5,h6,_⟩:=h.rowX hk
 exact ⟨b,A1,m1,c1,h1,h2,h3,h4,h5,h6⟩
/-! ### a slice of slices among the arguments -/
section
variable {H:Type} {enc:TypeId × Value→H} {W:World} {b0 base:Nat} {held:Bool}
end
end Go.Proofs.YtofihjoanjkdmaaGreat
