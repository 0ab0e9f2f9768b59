/- How the laws' arguments read: structs of integers, slices of integers, bytes, slices of slices. -/
import Derived.ChangeOld
import Derived.Deep.Matrix
import Derived.Lib.SmallJoins
import Derived.OpenShut
import Derived.ProofKit
import Derived.ShutString
import Derived.Test.YtofihjoanjkdmaaGreatHar
namespace Go.Proofs.YtofihjoanjkdmaaGreat
set_option maxHeartbeats 400000
set_option maxRecDepth 100000
open Go.RowKit Go.ChangeShapes Go.WideShapes Go.ChangeAt
theorem Tryz.own:ownKnob Tryz.prog.godebug=none:=by kernel_rfl
theorem Tryz.laidOut:laidOutB Tryz.prog=true:=by kernel_rfl
def Wf(a:Int):Prop:=-9223372036854775808<=a/\a<=9223372036854775807
theorem Eb{a:Int}(h:(Lit.int .i64 a).wf=true):Wf a:=by
 simp[Lit.wf,IntKind.min,IntKind.max,IntKind.signed,IntKind.bits]at h;exact h
def Dev.wf(d:Dev):Prop:=Wf d.W/\Wf d.H/\Wf d.T/\Wf d.R
def Reg.wf(d:Reg):Prop:=Wf d.X0/\Wf d.Y0/\Wf d.X1/\Wf d.Y1
section
variable {H:Type} {enc:TypeId×Value→H} {W:World} {b0 base:Nat} {spare:Nat→Bool} {held:Bool}
theorem BP{v:Value}{d:DataW H}{p:List MemPlace}(g:Value.okWide Tryz.prog W .any b0 3 v)(h:DataW.Trod enc Tryz.prog W base spare held 3 v d p) :
  ∃a:Int,v=.int .i64 a/\Wf a:=by
 obtain⟨a,rfl,_,_,w⟩:=open_int Tryz.underlying3 g h;exact⟨a,rfl,Eb w⟩
theorem Ku{v:Value}{d:DataW H}{p:List MemPlace}(I:Value.okWide Tryz.prog W .any b0 23 v)(h:DataW.Trod enc Tryz.prog W base spare held 23 v d p) :
  ∃a:Dev,v=.agg (dv a)/\a.wf:=by
 obtain⟨J,R,Q,U,y0,K,Y,V,n,rfl,_,_,h0,h1,h2,h3⟩:=Joins.open_agg4 Tryz.underlying23 (by kernel_rfl) (by kernel_rfl) I h;obtain⟨G,g,_,w0⟩:=DataW.trod_int Tryz.underlying3 h0;obtain⟨j,e1,_,z⟩:=DataW.trod_int Tryz.underlying3 h1;obtain⟨D,e2,_,B⟩:=DataW.trod_int Tryz.underlying3 h2;obtain⟨q,e3,_,u⟩:=DataW.trod_int Tryz.underlying3 h3;simp only[List.cons.injEq,and_true]at g e1 e2 e3;subst g e1 e2 e3;exact⟨⟨G,j,D,q⟩,rfl,Eb w0,Eb z,Eb B,Eb u⟩
theorem M3{w:World}{a:Addr}{v:Value}(h:w.cell? a=some v):a.block<w.heap.size:=by
 rcases Nat.lt_or_ge a.block w.heap.size with j|g
 ·exact j
 unfold World.cell? at h;rw[Array.getElem?_eq_none g]at h
 cases h
end
abbrev SV:=Oh×Nat×Nat
def SV.val(v:SV):Value := .slice v.1 v.2.1 v.2.2
def BQ(w:World)(A:Oh)(n:Nat)(g:List (List Int)):Prop :=
 g.length=n/\(0<n→∃b o,A=some ⟨b,o,none⟩/\b<w.heap.size/\∀j,j<n→∃q m c,w.cell? ⟨b,o+j,none⟩=some (.slice q m c)/\bT w q m (g[j]?.getD []))
theorem BQ.below{w w':World}{A:Oh}{n:Nat}{g:List (List Int)}(h:BQ w A n g)(hb:Below w.heap.size w w'):BQ w' A n g:=by
 refine⟨h.1,fun hn=>?_⟩;obtain⟨b,o,e,q,hc⟩:=h.2 hn;refine⟨b,o,e,aJ hb q,fun j hj=>?_⟩;obtain⟨u,m,c,h1,h2⟩:=hc j hj;exact⟨u,m,c,(hb.cell (p:=⟨b,o+j,none⟩) q).trans h1,h2.below hb⟩
def kC(lo hi:Nat)(w:World)(vs:List SV)(g:List (List Int)):Prop :=
 vs.length=g.length/\(∀(j:Nat) (v:SV),vs[j]?=some v→Own lo w v.1 v.2.1 v.2.2 (g[j]?.getD [])/\∀a:Addr,v.1=some a→a.block<hi) /\
 ∀(i j:Nat) (u v:SV),i<j→vs[i]?=some u→vs[j]?=some v→∀a b:Addr,u.1=some a→v.1=some b→a.block≠b.block
theorem kC.nil{lo hi:Nat}{w:World}:kC lo hi w [] []:=⟨rfl,fun j v h=>by simp at h,fun i j u v _ h=>by simp at h⟩
theorem kC.keep{lo hi:Nat}{w w':World}{vs:List SV}{u:List (List Int)}(h:kC lo hi w vs u)(hk:∀k e cs f,k<w.heap.size→lo<=k→k<hi→w.heap[k]?=some (.cells cs e f)→e=3→w'.heap[k]?=w.heap[k]?):kC lo hi w' vs u:=by
 refine⟨h.1,fun j v D=>?_,h.2.2⟩;obtain⟨h1,h2⟩:=h.2.1 j v D;refine⟨fU h1 fun a q=>?_,h2⟩;have hl:=h1.lt a q
 rcases h1.2 with⟨hn,_⟩|⟨g,cap,cur,z,hb,B,_⟩
 ·injection hn with hn _ _
  rw[hn]at q
  cases q
 injection z with hA _ _
 rw[hA]at q;injection q with q
 subst q;exact hk g _ _ _ hl.2 hb (h2 _ hA) B rfl
theorem kC.below{lo hi:Nat}{w w':World}{vs:List SV}{g:List (List Int)}(h:kC lo hi w vs g)(hb:Below w.heap.size w w'):kC lo hi w' vs g :=
 h.keep fun k _ _ _ hk _ _ _ _=>hb.block k hk
theorem kC.put{lo hi:Nat}{w:World}{vs:List SV}{q:List (List Int)}(h:kC lo hi w vs q){g:Nat}{cs:Array Value}{f:Nat×Nat}(hg:w.heap[g]?=some (.cells cs 26 f))(j:Nat)(v:Value):kC lo hi (w.setCell ⟨g,j,none⟩ v) vs q :=
 h.keep fun k e u z _ _ _ hk he=>Below.heap_setCell _ _ _ _ (by
  rintro rfl;rw[hg]at hk;injection hk with hk
  injection hk with _ ht
  rw[he]at ht
  exact absurd ht (by decide))
theorem kC.widen{lo hi g:Nat}{w:World}{vs:List SV}{q:List (List Int)}(h:kC lo hi w vs q)(B:hi<=g):kC lo g w vs q :=
 ⟨h.1,fun j v u=>⟨(h.2.1 j v u).1,fun a z=>Nat.lt_of_lt_of_le ((h.2.1 j v u).2 a z) B⟩,h.2.2⟩
theorem kC.lower{lo q hi:Nat}{w:World}{vs:List SV}{g:List (List Int)}(h:kC lo hi w vs g)(z:q<=lo):kC q hi w vs g :=
 ⟨h.1,fun j v u=>⟨(h.2.1 j v u).1.more z,(h.2.1 j v u).2⟩,h.2.2⟩
def mJ(lo hi:Nat)(w:World)(A:Oh)(n c:Nat)(g:List (List Int)):Prop :=
 ∃vs:List SV,w.ownsRow lo 26 1 (.slice A n c) n (vs.map SV.val)/\(∀a:Addr,A=some a→a.block<hi)/\kC lo hi w vs g
theorem mJ.nil{lo hi:Nat}{w:World}:mJ lo hi w none 0 0 []:=⟨[],⟨rfl,.inl ⟨rfl,rfl⟩⟩,by simp,kC.nil⟩
theorem IE{base:Nat}{w:World}{A:Oh}{e:TypeId}{n c:Nat}{vs:List Value}(h:w.ownsRow base e 1 (.slice A n c) n vs):∀a,A=some a→base<=a.block/\a.block<w.heap.size:=by
 rintro a rfl
 rcases h.2 with⟨j,_⟩|⟨g,cap,cur,j,hb,q,_⟩
 ·cases j
 injection j with hA
 injection hA with hA
 subst hA;exact⟨hb,aH q⟩
theorem mJ.len{lo hi:Nat}{w:World}{A:Oh}{n c:Nat}{g:List (List Int)}(h:mJ lo hi w A n c g):g.length=n:=by
 obtain⟨vs,h1,_,h2⟩:=h;have:=h1.1;rw[←h2.1]
 simpa using this
theorem mJ.below{lo hi:Nat}{w w':World}{A:Oh}{n c:Nat}{g:List (List Int)}(h:mJ lo hi w A n c g)(hb:Below w.heap.size w w'):mJ lo hi w' A n c g:=by
 obtain⟨vs,h1,h2,h3⟩:=h;exact⟨vs,fU h1 fun a j=>hb.block _ (IE h1 a j).2,h2,h3.below hb⟩
theorem mJ.drewd{lo hi:Nat}{w:World}{A:Oh}{n c:Nat}{g:List (List Int)}(h:mJ lo hi w A n c g):mJ lo hi w.drew A n c g:=h
theorem mJ.rd{lo hi:Nat}{w:World}{A:Oh}{n c:Nat}{u:List (List Int)}(h:mJ lo hi w A n c u):BQ w A n u:=by
 refine⟨h.len,fun hn=>?_⟩;have q:=h.len;obtain⟨vs,h1,h2,h3⟩:=h
 rcases h1.2 with⟨_,h0⟩|⟨g,cap,cur,J,hb,B,H,D,I,ht⟩
 ·omega
 injection J with hA
 subst hA;refine⟨g,0,rfl,aH B,fun j hj=>?_⟩;have G:vs.length=n:=by rw[h3.1];exact q
 have z:vs[j]?=some (vs[j]'(by omega)):=List.getElem?_eq_getElem (by omega);refine⟨(vs[j]'(by omega)).1,(vs[j]'(by omega)).2.1,(vs[j]'(by omega)).2.2,?_,(h3.2.1 j _ z).1.ints⟩;have hx:(vs.map SV.val)[j]?=some (SV.val (vs[j]'(by omega))):=by rw[List.getElem?_map,z];rfl
 rw[←ht,List.getElem?_take]at hx;simp only[Nat.mul_one]at hx;rw[if_pos hj]at hx;unfold World.cell?;simp only[Nat.zero_add];rw[B];rw[Array.getElem?_toList]at hx;exact hx
/-! ### sizes -/
def qz(L:Int)(s:Nat):Int:=if(s:Int)<=L then L-s else -1
theorem eH{L:Int}{s:Nat}(h:¬(s:Int)<=L):qz L s=-1:=if_neg h
theorem fV{L:Int}{s:Nat}(h:(s:Int)<=L):qz L s=L-s:=if_pos h
theorem IG(A:Oh)(n c:Nat)(L:Int)(w:World)(j:0<=L)(g:L<=1099511627776)(hn:n<=9223372036854775807) :
  Calls Tryz.prog 33 #[.slice A n c,.int .i64 L] w fun e w'=>e=.returned (.int .i64 (qz L n))/\w=w':=by
 by_cases h:(n:Int)<=L
 ·have hd:decide (L-(n:Int)<0)=false:=by simp;omega
  have hl:=Hd (fV h);go_enter Tryz.func33,Tryz.ntmps33;go_wp2;go_ret;exact⟨aQ hl.1.symm,rfl⟩
 have hd:decide (L-(n:Int)<0)=true:=by simp;omega
 have hl:=Hd (eH h);go_enter Tryz.func33,Tryz.ntmps33;go_wp2;go_ret;exact⟨aQ hl.1.symm,rfl⟩
/-! ### comparing -/
/-! ### copying -/
def zC(vs:List SV)(n:Nat):Array Value:=(vs.map SV.val++List.replicate (n-vs.length) (Value.slice none 0 0)).toArray
theorem Ec{vs:List SV}{n:Nat}(h:vs.length=n):(zC vs n).toList=vs.map SV.val:=by
 simp[zC,h]
theorem Ed{vs:List SV}{n:Nat}(h:vs.length<=n):(zC vs n).size=n:=by
 simp[zC];omega
theorem mJ.made{w:World}{lo hi g n:Nat}{vs:List SV}{j:List (List Int)}(u:w.heap[g]?=some (.cells (zC vs n) 26 (0,0)))(hb:lo<=g)(hg:g<hi)(hn:n<=maxLen)(hl:vs.length=n)(q:kC lo hi w vs j):mJ lo hi w (some ⟨g,0,none⟩) n n j :=
 ⟨vs,⟨by simp[hl],.inr ⟨g,n,_,rfl,hb,u,Nat.le_refl _,hn,by rw[Ed (by omega)];omega,by rw[Ec hl,List.take_of_length_le (by simp[hl])]⟩⟩,by rintro a ⟨⟩;exact hg,q⟩
/-! ### marking -/
theorem mJ.rowX{lo hi:Nat}{w:World}{A:Oh}{n c k:Nat}{I:List (List Int)}(h:mJ lo hi w A n c I)(hk:k<n) :
  ∃b A1 V c1,A=some ⟨b,0,none⟩/\w.cell? ⟨b,k,none⟩=some (.slice A1 V c1)/\w.frozen? ⟨b,k,none⟩=false/\Own lo w A1 V c1 (I[k]?.getD [])/\yR A1 lo hi /\
   (∀w' Z,w.grownBy w' (A1.map (·.block))→Own lo w' A1 V c1 Z→mJ lo hi w' A n c (I.set k Z))/\(∀a,A1=some a→a.block≠b)/\lo<=b/\b<hi/\b<w.heap.size:=by
 have K:=h.len;obtain⟨vs,h1,h2,h3⟩:=h;have ai:vs.length=n:=by rw[h3.1];exact K
 have B:vs[k]?=some (vs[k]'(by omega)):=List.getElem?_eq_getElem (by omega);generalize vs[k]'(by omega)=v at B;have hr:=h1.2
 rcases hr with⟨_,h0⟩|⟨g,cap,cur,hv,hb,Q,ak,ag,al,ht⟩
 ·omega
 injection hv with hA
 subst hA;obtain⟨J,Y⟩:=h3.2.1 k v B
 have U:cur[k]?=some (SV.val v):=by
  have hx:(vs.map SV.val)[k]?=some (SV.val v):=by rw[List.getElem?_map,B];rfl
  rw[←ht,List.getElem?_take]at hx;simp only[Nat.mul_one]at hx;rw[if_pos hk,Array.getElem?_toList]at hx;exact hx
 have R:∀a,v.1=some a→a.block≠g:=by
  rintro a q rfl
  rcases J.2 with⟨hn,_⟩|⟨g',af,ah,W,_,G,_⟩
  ·injection hn with hn _ _
   rw[hn]at q
   cases q
  injection W with hA' _ _
  rw[hA']at q;injection q with q
  subst q;rw[Q]at G;injection G with G
  injection G with _ hty
  exact absurd hty (by decide)
 refine⟨g,v.1,v.2.1,v.2.2,rfl,by unfold World.cell?;rw[Q];exact U,by unfold World.frozen?;rw[Q];simp,J,fun a q=>⟨(J.lt a q).1,Y a q⟩,fun w' Z hg ho=>?_,R,hb,h2 _ rfl,aH Q⟩;refine⟨vs,fU h1 fun a q=>?_,h2,by rw[List.length_set];exact h3.1,fun j u H=>?_,h3.2.2⟩
 ·injection q with q
  subst q;refine hg.block g (aH Q) ?_
  cases D:v.1 with
  | none=>simp
  | some a=>simpa using fun e=>R a D e.symm
 obtain⟨q1,q2⟩:=h3.2.1 j u H;refine⟨?_,q2⟩;by_cases z:j=k
 ·subst z;rw[B]at H;injection H with H
  subst H;rw[List.getElem?_set_self (by omega)];exact ho
 rw[List.getElem?_set_ne (by omega)];refine fU q1 fun a q=>hg.block _ (q1.lt a q).2 ?_
 cases D:v.1 with
 | none=>simp
 | some a' =>
  simp only[Option.map_some,ne_eq,Option.some.injEq]
  rcases Nat.lt_or_gt_of_ne z with z|z
  ·exact fun e=>h3.2.2 j k u v z H B a a' q D e
  exact fun e=>h3.2.2 k j v u z B H a' a D q e.symm
theorem mJ.row{lo hi:Nat}{w:World}{A:Oh}{n c k:Nat}{g:List (List Int)}(h:mJ lo hi w A n c g)(hk:k<n) :
  ∃b A1 j c1,A=some ⟨b,0,none⟩/\w.cell? ⟨b,k,none⟩=some (.slice A1 j c1)/\w.frozen? ⟨b,k,none⟩=false/\Own lo w A1 j c1 (g[k]?.getD [])/\yR A1 lo hi /\
   ∀w' q,w.grownBy w' (A1.map (·.block))→Own lo w' A1 j c1 q→mJ lo hi w' A n c (g.set k q):=by
 obtain⟨b,A1,j,c1,h1,h2,h3,u,z,B,_⟩:=h.rowX hk;exact⟨b,A1,j,c1,h1,h2,h3,u,z,B⟩
/-! ### a slice of slices among the arguments -/
section
variable {H:Type} {enc:TypeId×Value→H} {W:World} {b0 base:Nat} {held:Bool}
end
end Go.Proofs.YtofihjoanjkdmaaGreat
