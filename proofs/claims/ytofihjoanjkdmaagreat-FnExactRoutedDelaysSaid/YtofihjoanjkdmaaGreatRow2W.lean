/- How the laws' arguments read: structs of integers, slices of integers, bytes, slices of slices. -/
import Derived.ChangeOld
import Derived.Deep.Matrix
import Derived.Lib.SmallJoins
import Derived.OpenShut
import Derived.ProofKit
import Derived.ShutString
import Derived.Test.YtofihjoanjkdmaaGreatHar
namespace Go.Proofs.YtofihjoanjkdmaaGreat
set_option maxHeartbeats 400000
set_option maxRecDepth 100000
open Go.RowKit Go.ChangeShapes Go.WideShapes Go.ChangeAt
theorem Tryz.own:ownKnob Tryz.prog.godebug=none:=by kernel_rfl
theorem Tryz.laidOut:laidOutB Tryz.prog=true:=by kernel_rfl
def Wf (a:Int):Prop:=-9223372036854775808<=a/\a<=9223372036854775807
theorem BM {a:Int} (h:(Lit.int .i64 a).wf=true):Wf a:=by
 simp [Lit.wf,IntKind.min,IntKind.max,IntKind.signed,IntKind.bits] at h
 exact h
def Dev.wf (d:Dev):Prop:=Wf d.W/\Wf d.H/\Wf d.T/\Wf d.R
def Reg.wf (d:Reg):Prop:=Wf d.X0/\Wf d.Y0/\Wf d.X1/\Wf d.Y1
section
variable {H:Type} {enc:TypeId × Value→H} {W:World} {b0 base:Nat} {spare:Nat→Bool} {held:Bool}
theorem DV {v:Value} {d:DataW H} {p:List MemPlace} (j:Value.okWide Tryz.prog W .any b0 23 v) (h:DataW.Trod enc Tryz.prog W base spare held 23 v d p) :
  ∃a:Dev,v = .agg (dv a)/\a.wf:=by
 obtain ⟨U,Y,R,Q,Z,K,V,J,n,rfl,_,_,h0,h1,h2,h3⟩:=Joins.open_agg4 Tryz.underlying23 (by kernel_rfl) (by kernel_rfl) j h
 obtain ⟨z,g,_,w0⟩:=DataW.trod_int Tryz.underlying3 h0
 obtain ⟨q,e1,_,u⟩:=DataW.trod_int Tryz.underlying3 h1
 obtain ⟨D,e2,_,B⟩:=DataW.trod_int Tryz.underlying3 h2
 obtain ⟨G,e3,_,I⟩:=DataW.trod_int Tryz.underlying3 h3
 simp only [List.cons.injEq,and_true] at g e1 e2 e3
 subst g e1 e2 e3
 exact ⟨⟨z,q,D,G⟩,rfl,BM w0,BM u,BM B,BM I⟩
theorem EU {w:World} {a:Addr} {v:Value} (h:w.cell? a=some v):a.block<w.heap.size:=by
 rcases Nat.lt_or_ge a.block w.heap.size with j|g
 ·exact j
 unfold World.cell? at h
 rw [Array.getElem?_eq_none g] at h
 cases h
end
abbrev SV:=Option Addr × Nat × Nat
def SV.val (v:SV):Value := .slice v.1 v.2.1 v.2.2
def wT (w:World) (A:Option Addr) (n:Nat) (g:List (List Int)):Prop :=
 g.length=n/\(0<n→∃b o,A=some ⟨b,o,none⟩/\b<w.heap.size/\∀j,j<n→∃q m c,w.cell? ⟨b,o+j,none⟩=some (.slice q m c)/\dE w q m (g[j]?.getD []))
theorem wT.below {w w':World} {A:Option Addr} {n:Nat} {g:List (List Int)} (h:wT w A n g) (u:Below w.heap.size w w'):wT w' A n g:=by
 refine ⟨h.1,fun hn=>?_⟩
 obtain ⟨b,o,e,q,hc⟩:=h.2 hn
 refine ⟨b,o,e,aK u q,fun j hj=>?_⟩
 obtain ⟨z,m,c,h1,h2⟩:=hc j hj
 exact ⟨z,m,c,(u.cell (p:=⟨b,o+j,none⟩) q).trans h1,h2.below u⟩
def jq (lo hi:Nat) (w:World) (vs:List SV) (g:List (List Int)):Prop :=
 vs.length=g.length/\(∀(j:Nat) (v:SV),vs[j]?=some v→Own lo w v.1 v.2.1 v.2.2 (g[j]?.getD [])/\∀a:Addr,v.1=some a→a.block<hi) /\
 ∀(i j:Nat) (u v:SV),i<j→vs[i]?=some u→vs[j]?=some v→∀a b:Addr,u.1=some a→v.1=some b→a.block≠b.block
theorem jq.nil {lo hi:Nat} {w:World}:jq lo hi w [] []:=⟨rfl,fun j v h=>by simp at h,fun i j u v _ h=>by simp at h⟩
theorem jq.keep {lo hi:Nat} {w w':World} {vs:List SV} {u:List (List Int)} (h:jq lo hi w vs u) (hk:∀k e cs f,k<w.heap.size→lo<=k→k<hi→w.heap[k]?=some (.cells cs e f)→e=3→w'.heap[k]?=w.heap[k]?):jq lo hi w' vs u:=by
 refine ⟨h.1,fun j v B=>?_,h.2.2⟩
 obtain ⟨h1,h2⟩:=h.2.1 j v B
 refine ⟨fq h1 fun a q=>?_,h2⟩
 have hl:=h1.lt a q
 rcases h1.2 with ⟨hn,_⟩|⟨g,D,cur,z,H,G,_⟩
 ·injection hn with hn _ _
  rw [hn] at q
  cases q
 injection z with hA _ _
 rw [hA] at q
 injection q with q
 subst q
 exact hk g _ _ _ hl.2 H (h2 _ hA) G rfl
theorem jq.below {lo hi:Nat} {w w':World} {vs:List SV} {g:List (List Int)} (h:jq lo hi w vs g) (j:Below w.heap.size w w'):jq lo hi w' vs g :=
 h.keep fun k _ _ _ hk _ _ _ _=>j.block k hk
theorem jq.put {lo hi:Nat} {w:World} {vs:List SV} {q:List (List Int)} (h:jq lo hi w vs q) {g:Nat} {cs:Array Value} {f:Nat × Nat} (hg:w.heap[g]?=some (.cells cs 26 f)) (j:Nat) (v:Value):jq lo hi (w.setCell ⟨g,j,none⟩ v) vs q :=
 h.keep fun k e u z _ _ _ hk he=>Below.heap_setCell _ _ _ _ (by
  rintro rfl
  rw [hg] at hk
  injection hk with hk
  injection hk with _ ht
  rw [he] at ht
  exact absurd ht (by decide))
theorem jq.widen {lo hi q:Nat} {w:World} {vs:List SV} {g:List (List Int)} (h:jq lo hi w vs g) (B:hi<=q):jq lo q w vs g :=
 ⟨h.1,fun j v u=>⟨(h.2.1 j v u).1,fun a z=>Nat.lt_of_lt_of_le ((h.2.1 j v u).2 a z) B⟩,h.2.2⟩
theorem jq.lower {lo q hi:Nat} {w:World} {vs:List SV} {g:List (List Int)} (h:jq lo hi w vs g) (z:q<=lo):jq q hi w vs g :=
 ⟨h.1,fun j v u=>⟨(h.2.1 j v u).1.more z,(h.2.1 j v u).2⟩,h.2.2⟩
def lG (lo hi:Nat) (w:World) (A:Option Addr) (n c:Nat) (g:List (List Int)):Prop :=
 ∃vs:List SV,w.ownsRow lo 26 1 (.slice A n c) n (vs.map SV.val)/\(∀a:Addr,A=some a→a.block<hi)/\jq lo hi w vs g
theorem lG.nil {lo hi:Nat} {w:World}:lG lo hi w none 0 0 []:=⟨[],⟨rfl,.inl ⟨rfl,rfl⟩⟩,by simp,jq.nil⟩
theorem zy {base:Nat} {w:World} {A:Option Addr} {e:TypeId} {n c:Nat} {vs:List Value} (h:w.ownsRow base e 1 (.slice A n c) n vs):∀a,A=some a→base<=a.block/\a.block<w.heap.size:=by
 rintro a rfl
 rcases h.2 with ⟨j,_⟩|⟨g,z,cur,j,u,q,_⟩
 ·cases j
 injection j with hA
 injection hA with hA
 subst hA
 exact ⟨u,aB q⟩
theorem lG.len {lo hi:Nat} {w:World} {A:Option Addr} {n c:Nat} {g:List (List Int)} (h:lG lo hi w A n c g):g.length=n:=by
 obtain ⟨vs,h1,_,h2⟩:=h
 have:=h1.1
 rw [←h2.1]
 simpa using this
theorem lG.below {lo hi:Nat} {w w':World} {A:Option Addr} {n c:Nat} {g:List (List Int)} (h:lG lo hi w A n c g) (j:Below w.heap.size w w'):lG lo hi w' A n c g:=by
 obtain ⟨vs,h1,h2,h3⟩:=h
 exact ⟨vs,fq h1 fun a q=>j.block _ (zy h1 a q).2,h2,h3.below j⟩
theorem lG.drewd {lo hi:Nat} {w:World} {A:Option Addr} {n c:Nat} {g:List (List Int)} (h:lG lo hi w A n c g):lG lo hi w.drew A n c g:=h
theorem lG.rd {lo hi:Nat} {w:World} {A:Option Addr} {n c:Nat} {z:List (List Int)} (h:lG lo hi w A n c z):wT w A n z:=by
 refine ⟨h.len,fun hn=>?_⟩
 have B:=h.len
 obtain ⟨vs,h1,h2,h3⟩:=h
 rcases h1.2 with ⟨_,h0⟩|⟨g,K,cur,I,R,D,J,G,Q,ht⟩
 ·omega
 injection I with hA
 subst hA
 refine ⟨g,0,rfl,aB D,fun j hj=>?_⟩
 have H:vs.length=n:=by rw [h3.1];exact B
 have q:vs[j]?=some (vs[j]'(by omega)):=List.getElem?_eq_getElem (by omega)
 refine ⟨(vs[j]'(by omega)).1,(vs[j]'(by omega)).2.1,(vs[j]'(by omega)).2.2,?_,(h3.2.1 j _ q).1.ints⟩
 have u:(vs.map SV.val)[j]?=some (SV.val (vs[j]'(by omega))):=by rw [List.getElem?_map,q];rfl
 rw [←ht,List.getElem?_take] at u
 simp only [Nat.mul_one] at u
 rw [if_pos hj] at u
 unfold World.cell?
 simp only [Nat.zero_add]
 rw [D]
 rw [Array.getElem?_toList] at u
 exact u
/-! ### sizes -/
def jS (L:Int) (s:Nat):Int:=if (s:Int)<=L then L - s else -1
theorem aZ {L:Int} {s:Nat} (h:¬(s:Int)<=L):jS L s=-1:=if_neg h
theorem bF {L:Int} {s:Nat} (h:(s:Int)<=L):jS L s=L - s:=if_pos h
theorem zz (A:Option Addr) (n c:Nat) (L:Int) (w:World) (q:0<=L) (j:L<=1099511627776) (hn:n<=9223372036854775807) :
  Calls Tryz.prog 33 #[.slice A n c,.int .i64 L] w fun e w'=>e = .returned (.int .i64 (jS L n))/\w=w':=by
 by_cases h:(n:Int)<=L
 ·have g:decide (L - (n:Int)<0)=false:=by simp;omega
  have hl:=Hd (bF h)
  go_enter Tryz.func33,Tryz.ntmps33
  go_wp2_with fail
  go_ret
  exact ⟨aL hl.out.symm,rfl⟩
 have g:decide (L - (n:Int)<0)=true:=by simp;omega
 have hl:=Hd (aZ h)
 go_enter Tryz.func33,Tryz.ntmps33
 go_wp2_with fail
 go_ret
 exact ⟨aL hl.out.symm,rfl⟩
/-! ### comparing -/
/-! ### copying -/
def uf (vs:List SV) (n:Nat):Array Value:=(vs.map SV.val++List.replicate (n - vs.length) (Value.slice none 0 0)).toArray
theorem yS {vs:List SV} {n:Nat} (h:vs.length=n):(uf vs n).toList=vs.map SV.val:=by
 simp [uf,h]
theorem yT {vs:List SV} {n:Nat} (h:vs.length<=n):(uf vs n).size=n:=by
 simp [uf];omega
theorem lG.made {w:World} {lo hi g n:Nat} {vs:List SV} {j:List (List Int)} (u:w.heap[g]?=some (.cells (uf vs n) 26 (0,0))) (z:lo<=g) (hg:g<hi) (hn:n<=maxLen) (hl:vs.length=n) (q:jq lo hi w vs j):lG lo hi w (some ⟨g,0,none⟩) n n j :=
 ⟨vs,⟨by simp [hl],.inr ⟨g,n,_,rfl,z,u,Nat.le_refl _,hn,by rw [yT (by omega)];omega,by rw [yS hl,List.take_of_length_le (by simp [hl])]⟩⟩,by rintro a ⟨⟩;exact hg,q⟩
/-! ### marking -/
theorem lG.rowX {lo hi:Nat} {w:World} {A:Option Addr} {n c k:Nat} {H:List (List Int)} (h:lG lo hi w A n c H) (hk:k<n) :
  ∃b A1 m1 c1,A=some ⟨b,0,none⟩/\w.cell? ⟨b,k,none⟩=some (.slice A1 m1 c1)/\w.frozen? ⟨b,k,none⟩=false/\Own lo w A1 m1 c1 (H[k]?.getD [])/\uN A1 lo hi /\
   (∀w' Z,w.grownBy w' (A1.map (·.block))→Own lo w' A1 m1 c1 Z→lG lo hi w' A n c (H.set k Z))/\(∀a,A1=some a→a.block≠b)/\lo<=b/\b<hi/\b<w.heap.size:=by
 have U:=h.len
 obtain ⟨vs,h1,h2,h3⟩:=h
 have aj:vs.length=n:=by rw [h3.1];exact U
 have B:vs[k]?=some (vs[k]'(by omega)):=List.getElem?_eq_getElem (by omega)
 generalize vs[k]'(by omega)=v at B
 have hr:=h1.2
 rcases hr with ⟨_,h0⟩|⟨g,am,cur,hv,hb,R,al,ai,ap,ht⟩
 ·omega
 injection hv with hA
 subst hA
 obtain ⟨J,W⟩:=h3.2.1 k v B
 have Q:cur[k]?=some (SV.val v):=by
  have V:(vs.map SV.val)[k]?=some (SV.val v):=by rw [List.getElem?_map,B];rfl
  rw [←ht,List.getElem?_take] at V
  simp only [Nat.mul_one] at V
  rw [if_pos hk,Array.getElem?_toList] at V
  exact V
 have K:∀a,v.1=some a→a.block≠g:=by
  rintro a q rfl
  rcases J.2 with ⟨hn,_⟩|⟨g',ah,af,Y,_,D,_⟩
  ·injection hn with hn _ _
   rw [hn] at q
   cases q
  injection Y with hA' _ _
  rw [hA'] at q
  injection q with q
  subst q
  rw [R] at D
  injection D with D
  injection D with _ hty
  exact absurd hty (by decide)
 refine ⟨g,v.1,v.2.1,v.2.2,rfl,by unfold World.cell?;rw [R];exact Q,by unfold World.frozen?;rw [R];simp,J,fun a q=>⟨(J.lt a q).1,W a q⟩,fun w' Z hg ho=>?_,K,hb,h2 _ rfl,aB R⟩
 refine ⟨vs,fq h1 fun a q=>?_,h2,by rw [List.length_set];exact h3.1,fun j u I=>?_,h3.2.2⟩
 ·injection q with q
  subst q
  refine hg.block g (aB R) ?_
  cases G:v.1 with
  | none=>simp
  | some a=>simpa using fun e=>K a G e.symm
 obtain ⟨q1,q2⟩:=h3.2.1 j u I
 refine ⟨?_,q2⟩
 by_cases z:j=k
 ·subst z
  rw [B] at I
  injection I with I
  subst I
  rw [List.getElem?_set_self (by omega)]
  exact ho
 rw [List.getElem?_set_ne (by omega)]
 refine fq q1 fun a q=>hg.block _ (q1.lt a q).2 ?_
 cases G:v.1 with
 | none=>simp
 | some a' =>
  simp only [Option.map_some,ne_eq,Option.some.injEq]
  rcases Nat.lt_or_gt_of_ne z with z|z
  ·exact fun e=>h3.2.2 j k u v z I B a a' q G e
  exact fun e=>h3.2.2 k j v u z B I a' a G q e.symm
theorem lG.row {lo hi:Nat} {w:World} {A:Option Addr} {n c k:Nat} {g:List (List Int)} (h:lG lo hi w A n c g) (hk:k<n) :
  ∃b A1 j c1,A=some ⟨b,0,none⟩/\w.cell? ⟨b,k,none⟩=some (.slice A1 j c1)/\w.frozen? ⟨b,k,none⟩=false/\Own lo w A1 j c1 (g[k]?.getD [])/\uN A1 lo hi /\
   ∀w' q,w.grownBy w' (A1.map (·.block))→Own lo w' A1 j c1 q→lG lo hi w' A n c (g.set k q):=by
 obtain ⟨b,A1,j,c1,h1,h2,h3,h4,h5,u,_⟩:=h.rowX hk
 exact ⟨b,A1,j,c1,h1,h2,h3,h4,h5,u⟩
theorem yU (k0:Int) (n:Nat):(qd k0 n).length=n:=by simp [qd]
/-! ### a slice of slices among the arguments -/
section
variable {H:Type} {enc:TypeId × Value→H} {W:World} {b0 base:Nat} {held:Bool}
end
end Go.Proofs.YtofihjoanjkdmaaGreat
