/- How the laws' arguments read: structs of integers, slices of integers, bytes, slices of slices. -/
import Derived.ChangeOld
import Derived.Deep.Matrix
import Derived.Lib.SmallJoins
import Derived.OpenShut
import Derived.ProofKit
import Derived.ShutString
import Derived.Test.YtofihjoanjkdmaaGreatHar
namespace Go.Proofs.YtofihjoanjkdmaaGreat
set_option maxHeartbeats 400000
set_option maxRecDepth 100000
open Go.RowKit Go.ChangeShapes Go.WideShapes Go.ChangeAt
theorem Tryz.own:ownKnob Tryz.prog.godebug=none:=by kernel_rfl
theorem Tryz.laidOut:laidOutB Tryz.prog=true:=by kernel_rfl
def Wf (a:Int):Prop:=-9223372036854775808<=a/\a<=9223372036854775807
theorem Bc {a:Int} (h:(Lit.int .i64 a).wf=true):Wf a:=by
 simp [Lit.wf,IntKind.min,IntKind.max,IntKind.signed,IntKind.bits] at h
 exact h
def Dev.wf (d:Dev):Prop:=Wf d.W/\Wf d.H/\Wf d.T/\Wf d.R
def Reg.wf (d:Reg):Prop:=Wf d.X0/\Wf d.Y0/\Wf d.X1/\Wf d.Y1
section
variable {H:Type} {enc:TypeId × Value→H} {W:World} {b0 base:Nat} {spare:Nat→Bool} {held:Bool}
theorem Dq {v:Value} {d:DataW H} {p:List MemPlace} (B:Value.okWide Tryz.prog W .any b0 23 v) (h:DataW.Trod enc Tryz.prog W base spare held 23 v d p) :
  ∃a:Dev,v = .agg (dv a)/\a.wf:=by
 obtain ⟨Y,U,K,J,V,Z,Q,R,n,rfl,_,_,h0,h1,h2,h3⟩:=Joins.open_agg4 Tryz.underlying23 (by kernel_rfl) (by kernel_rfl) B h
 obtain ⟨u,g,_,w0⟩:=DataW.trod_int Tryz.underlying3 h0
 obtain ⟨D,e1,_,I⟩:=DataW.trod_int Tryz.underlying3 h1
 obtain ⟨q,e2,_,z⟩:=DataW.trod_int Tryz.underlying3 h2
 obtain ⟨G,e3,_,j⟩:=DataW.trod_int Tryz.underlying3 h3
 simp only [List.cons.injEq,and_true] at g e1 e2 e3
 subst g e1 e2 e3
 exact ⟨⟨u,D,q,G⟩,rfl,Bc w0,Bc I,Bc z,Bc j⟩
theorem Ee {w:World} {a:Addr} {v:Value} (h:w.cell? a=some v):a.block<w.heap.size:=by
 rcases Nat.lt_or_ge a.block w.heap.size with g|j
 ·exact g
 unfold World.cell? at h
 rw [Array.getElem?_eq_none j] at h
 cases h
end
abbrev SV:=Option Addr × Nat × Nat
def SV.val (v:SV):Value := .slice v.1 v.2.1 v.2.2
def wQ (w:World) (A:Option Addr) (n:Nat) (g:List (List Int)):Prop :=
 g.length=n/\(0<n→∃b o,A=some ⟨b,o,none⟩/\b<w.heap.size/\∀j,j<n→∃q m c,w.cell? ⟨b,o+j,none⟩=some (.slice q m c)/\dP w q m (g[j]?.getD []))
theorem wQ.below {w w':World} {A:Option Addr} {n:Nat} {g:List (List Int)} (h:wQ w A n g) (u:Below w.heap.size w w'):wQ w' A n g:=by
 refine ⟨h.1,fun hn=>?_⟩
 obtain ⟨b,o,e,q,hc⟩:=h.2 hn
 refine ⟨b,o,e,aK u q,fun j hj=>?_⟩
 obtain ⟨z,m,c,h1,h2⟩:=hc j hj
 exact ⟨z,m,c,(u.cell (p:=⟨b,o+j,none⟩) q).trans h1,h2.below u⟩
def jw (lo hi:Nat) (w:World) (vs:List SV) (g:List (List Int)):Prop :=
 vs.length=g.length/\(∀(j:Nat) (v:SV),vs[j]?=some v→Own lo w v.1 v.2.1 v.2.2 (g[j]?.getD [])/\∀a:Addr,v.1=some a→a.block<hi) /\
 ∀(i j:Nat) (u v:SV),i<j→vs[i]?=some u→vs[j]?=some v→∀a b:Addr,u.1=some a→v.1=some b→a.block≠b.block
theorem jw.nil {lo hi:Nat} {w:World}:jw lo hi w [] []:=⟨rfl,fun j v h=>by simp at h,fun i j u v _ h=>by simp at h⟩
theorem jw.keep {lo hi:Nat} {w w':World} {vs:List SV} {u:List (List Int)} (h:jw lo hi w vs u) (hk:∀k e cs f,k<w.heap.size→lo<=k→k<hi→w.heap[k]?=some (.cells cs e f)→e=3→w'.heap[k]?=w.heap[k]?):jw lo hi w' vs u:=by
 refine ⟨h.1,fun j v D=>?_,h.2.2⟩
 obtain ⟨h1,h2⟩:=h.2.1 j v D
 refine ⟨fF h1 fun a q=>?_,h2⟩
 have hl:=h1.lt a q
 rcases h1.2 with ⟨hn,_⟩|⟨g,B,cur,z,H,G,_⟩
 ·injection hn with hn _ _
  rw [hn] at q
  cases q
 injection z with hA _ _
 rw [hA] at q
 injection q with q
 subst q
 exact hk g _ _ _ hl.2 H (h2 _ hA) G rfl
theorem jw.below {lo hi:Nat} {w w':World} {vs:List SV} {g:List (List Int)} (h:jw lo hi w vs g) (j:Below w.heap.size w w'):jw lo hi w' vs g :=
 h.keep fun k _ _ _ hk _ _ _ _=>j.block k hk
theorem jw.put {lo hi:Nat} {w:World} {vs:List SV} {q:List (List Int)} (h:jw lo hi w vs q) {g:Nat} {cs:Array Value} {f:Nat × Nat} (hg:w.heap[g]?=some (.cells cs 26 f)) (j:Nat) (v:Value):jw lo hi (w.setCell ⟨g,j,none⟩ v) vs q :=
 h.keep fun k e u z _ _ _ hk he=>Below.heap_setCell _ _ _ _ (by
  rintro rfl
  rw [hg] at hk
  injection hk with hk
  injection hk with _ ht
  rw [he] at ht
  exact absurd ht (by decide))
theorem jw.widen {lo hi g:Nat} {w:World} {vs:List SV} {q:List (List Int)} (h:jw lo hi w vs q) (B:hi<=g):jw lo g w vs q :=
 ⟨h.1,fun j v u=>⟨(h.2.1 j v u).1,fun a z=>Nat.lt_of_lt_of_le ((h.2.1 j v u).2 a z) B⟩,h.2.2⟩
theorem jw.lower {lo q hi:Nat} {w:World} {vs:List SV} {g:List (List Int)} (h:jw lo hi w vs g) (z:q<=lo):jw q hi w vs g :=
 ⟨h.1,fun j v u=>⟨(h.2.1 j v u).1.more z,(h.2.1 j v u).2⟩,h.2.2⟩
def lL (lo hi:Nat) (w:World) (A:Option Addr) (n c:Nat) (g:List (List Int)):Prop :=
 ∃vs:List SV,w.ownsRow lo 26 1 (.slice A n c) n (vs.map SV.val)/\(∀a:Addr,A=some a→a.block<hi)/\jw lo hi w vs g
theorem lL.nil {lo hi:Nat} {w:World}:lL lo hi w none 0 0 []:=⟨[],⟨rfl,.inl ⟨rfl,rfl⟩⟩,by simp,jw.nil⟩
theorem AJ {base:Nat} {w:World} {A:Option Addr} {e:TypeId} {n c:Nat} {vs:List Value} (h:w.ownsRow base e 1 (.slice A n c) n vs):∀a,A=some a→base<=a.block/\a.block<w.heap.size:=by
 rintro a rfl
 rcases h.2 with ⟨j,_⟩|⟨g,z,cur,j,q,u,_⟩
 ·cases j
 injection j with hA
 injection hA with hA
 subst hA
 exact ⟨q,aC u⟩
theorem lL.len {lo hi:Nat} {w:World} {A:Option Addr} {n c:Nat} {g:List (List Int)} (h:lL lo hi w A n c g):g.length=n:=by
 obtain ⟨vs,h1,_,h2⟩:=h
 have:=h1.1
 rw [←h2.1]
 simpa using this
theorem lL.below {lo hi:Nat} {w w':World} {A:Option Addr} {n c:Nat} {g:List (List Int)} (h:lL lo hi w A n c g) (j:Below w.heap.size w w'):lL lo hi w' A n c g:=by
 obtain ⟨vs,h1,h2,h3⟩:=h
 exact ⟨vs,fF h1 fun a q=>j.block _ (AJ h1 a q).2,h2,h3.below j⟩
theorem lL.drewd {lo hi:Nat} {w:World} {A:Option Addr} {n c:Nat} {g:List (List Int)} (h:lL lo hi w A n c g):lL lo hi w.drew A n c g:=h
theorem lL.rd {lo hi:Nat} {w:World} {A:Option Addr} {n c:Nat} {B:List (List Int)} (h:lL lo hi w A n c B):wQ w A n B:=by
 refine ⟨h.len,fun hn=>?_⟩
 have u:=h.len
 obtain ⟨vs,h1,h2,h3⟩:=h
 rcases h1.2 with ⟨_,h0⟩|⟨g,H,cur,K,R,G,I,D,J,ht⟩
 ·omega
 injection K with hA
 subst hA
 refine ⟨g,0,rfl,aC G,fun j hj=>?_⟩
 have Q:vs.length=n:=by rw [h3.1];exact u
 have q:vs[j]?=some (vs[j]'(by omega)):=List.getElem?_eq_getElem (by omega)
 refine ⟨(vs[j]'(by omega)).1,(vs[j]'(by omega)).2.1,(vs[j]'(by omega)).2.2,?_,(h3.2.1 j _ q).1.ints⟩
 have z:(vs.map SV.val)[j]?=some (SV.val (vs[j]'(by omega))):=by rw [List.getElem?_map,q];rfl
 rw [←ht,List.getElem?_take] at z
 simp only [Nat.mul_one] at z
 rw [if_pos hj] at z
 unfold World.cell?
 simp only [Nat.zero_add]
 rw [G]
 rw [Array.getElem?_toList] at z
 exact z
/-! ### sizes -/
def jS (L:Int) (s:Nat):Int:=if (s:Int)<=L then L - s else -1
theorem aZ {L:Int} {s:Nat} (h:¬(s:Int)<=L):jS L s=-1:=if_neg h
theorem bI {L:Int} {s:Nat} (h:(s:Int)<=L):jS L s=L - s:=if_pos h
theorem AO (A:Option Addr) (n c:Nat) (L:Int) (w:World) (q:0<=L) (j:L<=1099511627776) (hn:n<=9223372036854775807) :
  Calls Tryz.prog 33 #[.slice A n c,.int .i64 L] w fun e w'=>e = .returned (.int .i64 (jS L n))/\w=w':=by
 by_cases h:(n:Int)<=L
 ·have g:decide (L - (n:Int)<0)=false:=by simp;omega
  have hl:=Hd (bI h)
  go_enter Tryz.func33,Tryz.ntmps33
  go_wp2_with fail
  go_ret
  exact ⟨aL hl.out.symm,rfl⟩
 have g:decide (L - (n:Int)<0)=true:=by simp;omega
 have hl:=Hd (aZ h)
 go_enter Tryz.func33,Tryz.ntmps33
 go_wp2_with fail
 go_ret
 exact ⟨aL hl.out.symm,rfl⟩
/-! ### comparing -/
/-! ### copying -/
def uV (vs:List SV) (n:Nat):Array Value:=(vs.map SV.val++List.replicate (n - vs.length) (Value.slice none 0 0)).toArray
theorem yT {vs:List SV} {n:Nat} (h:vs.length=n):(uV vs n).toList=vs.map SV.val:=by
 simp [uV,h]
theorem yU {vs:List SV} {n:Nat} (h:vs.length<=n):(uV vs n).size=n:=by
 simp [uV];omega
theorem lL.made {w:World} {lo hi g n:Nat} {vs:List SV} {j:List (List Int)} (z:w.heap[g]?=some (.cells (uV vs n) 26 (0,0))) (u:lo<=g) (hg:g<hi) (hn:n<=maxLen) (hl:vs.length=n) (q:jw lo hi w vs j):lL lo hi w (some ⟨g,0,none⟩) n n j :=
 ⟨vs,⟨by simp [hl],.inr ⟨g,n,_,rfl,u,z,Nat.le_refl _,hn,by rw [yU (by omega)];omega,by rw [yT hl,List.take_of_length_le (by simp [hl])]⟩⟩,by rintro a ⟨⟩;exact hg,q⟩
/-! ### marking -/
theorem lL.rowX {lo hi:Nat} {w:World} {A:Option Addr} {n c k:Nat} {I:List (List Int)} (h:lL lo hi w A n c I) (hk:k<n) :
  ∃b A1 Y c1,A=some ⟨b,0,none⟩/\w.cell? ⟨b,k,none⟩=some (.slice A1 Y c1)/\w.frozen? ⟨b,k,none⟩=false/\Own lo w A1 Y c1 (I[k]?.getD [])/\uK A1 lo hi /\
   (∀w' W,w.grownBy w' (A1.map (·.block))→Own lo w' A1 Y c1 W→lL lo hi w' A n c (I.set k W))/\(∀a,A1=some a→a.block≠b)/\lo<=b/\b<hi/\b<w.heap.size:=by
 have Q:=h.len
 obtain ⟨vs,h1,h2,h3⟩:=h
 have aq:vs.length=n:=by rw [h3.1];exact Q
 have z:vs[k]?=some (vs[k]'(by omega)):=List.getElem?_eq_getElem (by omega)
 generalize vs[k]'(by omega)=v at z
 have hr:=h1.2
 rcases hr with ⟨_,h0⟩|⟨g,aj,cur,hv,hb,R,ak,ae,al,ht⟩
 ·omega
 injection hv with hA
 subst hA
 obtain ⟨J,ad⟩:=h3.2.1 k v z
 have K:cur[k]?=some (SV.val v):=by
  have V:(vs.map SV.val)[k]?=some (SV.val v):=by rw [List.getElem?_map,z];rfl
  rw [←ht,List.getElem?_take] at V
  simp only [Nat.mul_one] at V
  rw [if_pos hk,Array.getElem?_toList] at V
  exact V
 have U:∀a,v.1=some a→a.block≠g:=by
  rintro a q rfl
  rcases J.2 with ⟨hn,_⟩|⟨g',af,ag,Z,_,D,_⟩
  ·injection hn with hn _ _
   rw [hn] at q
   cases q
  injection Z with hA' _ _
  rw [hA'] at q
  injection q with q
  subst q
  rw [R] at D
  injection D with D
  injection D with _ hty
  exact absurd hty (by decide)
 refine ⟨g,v.1,v.2.1,v.2.2,rfl,by unfold World.cell?;rw [R];exact K,by unfold World.frozen?;rw [R];simp,J,fun a q=>⟨(J.lt a q).1,ad a q⟩,fun w' W hg ho=>?_,U,hb,h2 _ rfl,aC R⟩
 refine ⟨vs,fF h1 fun a q=>?_,h2,by rw [List.length_set];exact h3.1,fun j u H=>?_,h3.2.2⟩
 ·injection q with q
  subst q
  refine hg.block g (aC R) ?_
  cases G:v.1 with
  | none=>simp
  | some a=>simpa using fun e=>U a G e.symm
 obtain ⟨q1,q2⟩:=h3.2.1 j u H
 refine ⟨?_,q2⟩
 by_cases B:j=k
 ·subst B
  rw [z] at H
  injection H with H
  subst H
  rw [List.getElem?_set_self (by omega)]
  exact ho
 rw [List.getElem?_set_ne (by omega)]
 refine fF q1 fun a q=>hg.block _ (q1.lt a q).2 ?_
 cases G:v.1 with
 | none=>simp
 | some a' =>
  simp only [Option.map_some,ne_eq,Option.some.injEq]
  rcases Nat.lt_or_gt_of_ne B with B|B
  ·exact fun e=>h3.2.2 j k u v B H z a a' q G e
  exact fun e=>h3.2.2 k j v u B z H a' a G q e.symm
theorem lL.row {lo hi:Nat} {w:World} {A:Option Addr} {n c k:Nat} {g:List (List Int)} (h:lL lo hi w A n c g) (hk:k<n) :
  ∃b A1 j c1,A=some ⟨b,0,none⟩/\w.cell? ⟨b,k,none⟩=some (.slice A1 j c1)/\w.frozen? ⟨b,k,none⟩=false/\Own lo w A1 j c1 (g[k]?.getD [])/\uK A1 lo hi /\
   ∀w' q,w.grownBy w' (A1.map (·.block))→Own lo w' A1 j c1 q→lL lo hi w' A n c (g.set k q):=by
 obtain ⟨b,A1,j,c1,h1,h2,h3,h4,h5,u,_⟩:=h.rowX hk
 exact ⟨b,A1,j,c1,h1,h2,h3,h4,h5,u⟩
theorem tT (k0:Int) (n:Nat):(mJ k0 n).length=n:=by simp [mJ]
/-! ### a slice of slices among the arguments -/
section
variable {H:Type} {enc:TypeId × Value→H} {W:World} {b0 base:Nat} {held:Bool}
end
end Go.Proofs.YtofihjoanjkdmaaGreat
