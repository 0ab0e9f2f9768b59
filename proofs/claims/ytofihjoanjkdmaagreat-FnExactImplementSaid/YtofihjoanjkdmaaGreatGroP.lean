/- Least costs of walks in a graph, and both ways to find them, plain. -/
import Derived.Test.YtofihjoanjkdmaaGreatLayP3
namespace Go.Proofs.YtofihjoanjkdmaaGreat
set_option maxRecDepth 100000
inductive Wk(G:List (List Int))(C S:List Int):Nat→Int→Prop
 | start {x:Nat}:(x:Int)∈S→Wk G C S x 0
 | step {x y:Nat} {c:Int}:Wk G C S y c→(y:Int)∈G[x]?.getD []→Wk G C S x (c+C[x]?.getD 0)
structure jk(G:List (List Int))(C S D:List Int):Prop where
 len:D.length=G.length
 val:∀x:Nat,x<G.length→D[x]?.getD 0=-1/\(∀c,¬Wk G C S x c)∨0<=D[x]?.getD 0/\Wk G C S x (D[x]?.getD 0)/\∀c,Wk G C S x c→D[x]?.getD 0<=c
theorem jk.uniq{G:List (List Int)}{C S D E:List Int}(h:jk G C S D)(k:jk G C S E):D=E:=by
 apply List.ext_getElem
 ·rw[h.len,k.len]
 intro x h1 h2;have hx:x<G.length:=by rw[←h.len];exact h1
 have a:=h.val x hx;have b:=k.val x hx;rw[List.getElem?_eq_getElem h1,Option.getD_some]at a;rw[List.getElem?_eq_getElem h2,Option.getD_some]at b
 rcases a with⟨g,q⟩|⟨z,g,q⟩ <;> rcases b with⟨u,j⟩|⟨b0,u,j⟩
 ·omega
 ·exact absurd u (q _)
 ·exact absurd g (j _)
 have:=q _ u;have:=j _ g;omega
open Classical in
noncomputable def distF (G:List (List Int)) (C S:List Int):List Int:=if h:∃D,jk G C S D then Classical.choose h else[]
theorem jk.eq{G:List (List Int)}{C S D:List Int}(h:jk G C S D):D=distF G C S:=by
 have he:∃D,jk G C S D:=⟨D,h⟩;unfold distF;rw[dif_pos he];exact h.uniq (Classical.choose_spec he)
structure jW(N:Nat)(G:List (List Int))(C S:List Int):Prop where
 nle:N<=828
 glen:G.length=N
 gin:∀x:Nat,x<N→∀y∈G[x]?.getD [],0<=y/\y<(N:Int)
 clen:C.length=N
 cin:∀x:Nat,x<N→1<=C[x]?.getD 0/\C[x]?.getD 0<=100000
 sin:∀s∈S,0<=s/\s<(N:Int)
theorem jW.row{N:Nat}{G:List (List Int)}{C S:List Int}(h:jW N G C S){x:Nat}{y:Int}(g:y∈G[x]?.getD []):x<N/\0<=y/\y<(N:Int):=by
 have hx:x<N:=by
  rcases Nat.lt_or_ge x G.length with h1|h1
  ·rw[←h.glen];exact h1
  rw[List.getElem?_eq_none h1]at g;simp at g
 exact⟨hx,h.gin x hx y g⟩
theorem Wk.nonneg{N:Nat}{G:List (List Int)}{C S:List Int}(h:jW N G C S){x:Nat}{c:Int}(g:Wk G C S x c):0<=c:=by
 induction g with
 | start _=>exact Int.le_refl _
 | step _ j ih =>
  have:=h.cin _ (h.row j).1;omega
/-! ### sums over the first places of a list -/
def l6(f:Int→Nat)(D:List Int):Nat→Nat
 | 0=>0
 | k+1=>l6 f D k+f (D[k]?.getD 0)
theorem wT(f:Int→Nat)(D:List Int)(x:Nat)(v:Int):∀k,k<=x→l6 f (D.set x v) k=l6 f D k
 | 0,_=>rfl
 | k+1,h=>by rw[l6,l6,wT f D x v k (by omega),List.getElem?_set_ne (by omega)]
theorem xU(f:Int→Nat)(D:List Int)(x:Nat)(v:Int):∀k,x<k→k<=D.length→l6 f (D.set x v) k+f (D[x]?.getD 0)=l6 f D k+f v
 | 0,h,_=>by omega
 | k+1,h,hl=>by
  rw[l6,l6];by_cases e:x=k
  ·subst e;rw[wT f D x v x (Nat.le_refl _),List.getElem?_set_self (by omega)];simp only[Option.getD_some];omega
  have:=xU f D x v k (by omega) (by omega);rw[List.getElem?_set_ne (by omega)];omega
theorem Gl(f:Int→Nat)(D:List Int)(m:Nat)(h:∀d,f d<=m):∀k,l6 f D k<=k*m
 | 0=>by simp[l6]
 | k+1=>by
  have:=Gl f D m h k;have:=h (D[k]?.getD 0);rw[l6,Nat.succ_mul];omega
def dPt(d:Int):Nat:=if d<0 then 82800001 else d.toNat
def dRc(d:Int):Nat:=if 0<=d then 1 else 0
def qQ(D:List Int):Nat:=l6 dPt D D.length
def EG(D:List Int):Nat:=l6 dRc D D.length
theorem NU(D:List Int):EG D<=D.length:=by
 have:=Gl dRc D 1 (fun d=>by unfold dRc;split <;> omega) D.length;unfold EG;omega
/-! ### relaxing -/
structure DI(N:Nat)(G:List (List Int))(C S D:List Int):Prop where
 len:D.length=N
 val:∀x:Nat,x<N→D[x]?.getD 0=-1∨0<=D[x]?.getD 0/\Wk G C S x (D[x]?.getD 0)
 start:∀x:Nat,(x:Int)∈S→D[x]?.getD 0=0
 bd:∀x:Nat,x<N→D[x]?.getD 0<=100000*(EG D:Int)
theorem DI.le{N:Nat}{G:List (List Int)}{C S D:List Int}(hg:jW N G C S)(h:DI N G C S D){x:Nat}(hx:x<N):-1<=D[x]?.getD 0/\D[x]?.getD 0<=82800000:=by
 have h1:=h.bd x hx;have h2:=NU D;have h3:=hg.nle;rw[h.len]at h2;refine⟨?_,by omega⟩
 rcases h.val x hx with h|h <;> omega
theorem AC{D:List Int}{x:Nat}{v:Int}(h:x<D.length)(z:Nat):(D.set x v)[z]?.getD 0=if x=z then v else D[z]?.getD 0:=by
 by_cases e:x=z
 ·subst e;rw[if_pos rfl,List.getElem?_set_self h];rfl
 rw[if_neg e,List.getElem?_set_ne e]
theorem DI.step{N:Nat}{G:List (List Int)}{C S D:List Int}(hg:jW N G C S)(h:DI N G C S D){x y:Nat}(R:(y:Int)∈G[x]?.getD [])(h0:0<=D[y]?.getD 0)(hr:D[x]?.getD 0<0∨D[y]?.getD 0+C[x]?.getD 0<D[x]?.getD 0) :
  DI N G C S (D.set x (D[y]?.getD 0+C[x]?.getD 0))/\qQ (D.set x (D[y]?.getD 0+C[x]?.getD 0))<qQ D:=by
 obtain⟨hx,W,Y⟩:=hg.row R;have hc:=hg.cin x hx;have q:y<N:=by omega
 have j:x<D.length:=by rw[h.len];exact hx
 have ae:=h.le hg hx;have U:=h.le hg q
 have K:Wk G C S x (D[y]?.getD 0+C[x]?.getD 0):=by
  rcases h.val y q with h|h
  ·omega
  exact .step h.2 R
 obtain⟨v,V⟩:∃v,D[y]?.getD 0+C[x]?.getD 0=v:=⟨_,rfl⟩;rw[V]at K hr ⊢
 have Z:EG (D.set x v)+dRc (D[x]?.getD 0)=EG D+dRc v:=by
  unfold EG;rw[List.length_set];exact xU dRc D x v _ j (Nat.le_refl _)
 have ad:qQ (D.set x v)+dPt (D[x]?.getD 0)=qQ D+dPt v:=by
  unfold qQ;rw[List.length_set];exact xU dPt D x v _ j (Nat.le_refl _)
 have e1:dRc v=1:=by unfold dRc;rw[if_pos (by omega)]
 have Q:=h.bd y q
 have H:EG D<=EG (D.set x v):=by
  have:dRc (D[x]?.getD 0)<=1:=by unfold dRc;split <;> omega
  omega
 have J:v<=100000*(EG (D.set x v):Int):=by
  rcases hr with hr|hr
  ·have:dRc (D[x]?.getD 0)=0:=by unfold dRc;rw[if_neg (by omega)]
   omega
  have:=h.bd x hx;omega
 have g:=AC (v:=v) j
 have B:DI N G C S (D.set x v):=by
  refine⟨by rw[List.length_set];exact h.len,fun z u=>?_,fun z u=>?_,fun z u=>?_⟩
  ·rw[g z]
   split
   ·rename_i e;subst e;exact .inr ⟨by omega,K⟩
   exact h.val z u
  ·rw[g z]
   split
   ·rename_i e;subst e;have:=h.start x u;omega
   exact h.start z u
  rw[g z]
  split
  ·exact J
  have:=h.bd z u;omega
 refine⟨B,?_⟩;have I:=B.le hg hx;rw[g x,if_pos rfl]at I;have e2:dPt v=v.toNat:=by unfold dPt;rw[if_neg (by omega)]
 rcases hr with hr|hr
 ·have:dPt (D[x]?.getD 0)=82800001:=by unfold dPt;rw[if_pos hr]
  omega
 have:dPt (D[x]?.getD 0)=(D[x]?.getD 0).toNat:=by unfold dPt;rw[if_neg (by omega)]
 omega
def Rlx(C D:List Int)(y x:Nat):Prop:=0<=D[y]?.getD 0→0<=D[x]?.getD 0/\D[x]?.getD 0<=D[y]?.getD 0+C[x]?.getD 0
theorem Rlx.of{C D:List Int}{y x:Nat}(h:¬(0<=D[y]?.getD 0/\(D[x]?.getD 0<0∨D[y]?.getD 0+C[x]?.getD 0<D[x]?.getD 0))):Rlx C D y x:=fun h0=>by omega
theorem DI.done{N:Nat}{G:List (List Int)}{C S D:List Int}(hg:jW N G C S)(h:DI N G C S D)(g:∀x y:Nat,(y:Int)∈G[x]?.getD []→Rlx C D y x):jk G C S D:=by
 have key:∀{x:Nat} {c:Int},Wk G C S x c→0<=D[x]?.getD 0/\D[x]?.getD 0<=c:=by
  intro x c j
  induction j with
  | start hx=>rw[h.start _ hx];omega
  | step _ q ih =>
   have:=g _ _ q ih.1;omega
 refine⟨by rw[h.len,hg.glen],fun x hx=>?_⟩;rw[hg.glen]at hx
 rcases h.val x hx with h1|h1
 ·refine .inl ⟨h1,fun c hc=>?_⟩;have:=(key hc).1;omega
 exact .inr ⟨h1.1,h1.2,fun c hc=>(key hc).2⟩
/-! ### the start -/
def dSt(N:Nat)(S:List Int)(k:Nat):List Int:=(List.range N).map fun(x:Nat)=>if(x:Int)∈S.take k then 0 else -1
theorem NV(N:Nat)(S:List Int)(k:Nat):(dSt N S k).length=N:=by simp[dSt]
theorem uP{N:Nat}{S:List Int}{k x:Nat}(h:x<N):(dSt N S k)[x]?.getD 0=if(x:Int)∈S.take k then 0 else -1:=by
 unfold dSt;rw[List.getElem?_map,List.getElem?_range h];rfl
theorem Gm(N:Nat)(S:List Int):dSt N S 0=List.replicate N (-1):=by
 apply List.ext_getElem
 ·simp[dSt]
 intro i _ _;simp[dSt]
theorem Gn{N:Nat}{S:List Int}{k:Nat}(hk:k<S.length)(h0:0<=S[k]?.getD 0):(dSt N S k).set (S[k]?.getD 0).toNat 0=dSt N S (k+1):=by
 apply List.ext_getElem
 ·simp[dSt]
 intro i h1 h2;have hi:i<N:=by simpa [dSt]using h2
 rw[List.getElem_set];simp only[dSt,List.getElem_map,List.getElem_range];rw[bF (z:=0) hk];by_cases e:(S[k]?.getD 0).toNat=i
 ·rw[if_pos e,if_pos];rw[List.mem_append,List.mem_singleton];omega
 rw[if_neg e];have:¬(i:Int)=S[k]?.getD 0:=by omega
 simp[this]
theorem MX{N:Nat}{S:List Int}{k:Nat}(hk:k<S.length)(h:S[k]?.getD 0∈S.take k):dSt N S (k+1)=dSt N S k:=by
 unfold dSt;rw[bF (z:=0) hk];refine List.map_congr_left fun x _=>?_;by_cases e:(x:Int)∈S.take k
 ·simp[e]
 have:¬(x:Int)=S[k]?.getD 0:=by rintro e2;rw[←e2]at h;exact e h
 simp[e,this]
theorem MZ{N:Nat}{G:List (List Int)}{C S:List Int}(hg:jW N G C S):DI N G C S (dSt N S S.length):=by
 refine⟨NV _ _ _,fun x hx=>?_,fun x hx=>?_,fun x hx=>?_⟩
 ·rw[uP hx,List.take_length]
  split
  ·rename_i h;exact .inr ⟨by omega,.start h⟩
  exact .inl rfl
 ·have:=hg.sin _ hx;rw[uP (by omega),List.take_length,if_pos hx]
 rw[uP hx]
 split <;> omega
/-! ### the reference: sweeps until nothing changes -/
structure SwI(N:Nat)(G:List (List Int))(C S:List Int)(p0:Nat)(D:List Int)(again:Bool)(k i:Nat):Prop where
 di:DI N G C S D
 pot:qQ D+(if again=true then 1 else 0)<=p0
 rl:again=false→∀x y:Nat,(x<k/\(y:Int)∈G[x]?.getD []∨x=k/\(y:Int)∈(G[k]?.getD []).take i)→Rlx C D y x
theorem SwI.start{N:Nat}{G:List (List Int)}{C S D:List Int}(h:DI N G C S D):SwI N G C S (qQ D) D false 0 0 :=
 ⟨h,by simp,fun _ x y g=>by rcases g with h|h <;> simp at h⟩
theorem SwI.keep{N:Nat}{G:List (List Int)}{C S D:List Int}{p0 k i:Nat}{again:Bool}(h:SwI N G C S p0 D again k i)(hi:i<(G[k]?.getD []).length){y:Nat}(u:(G[k]?.getD [])[i]?.getD 0=(y:Int))(hr:Rlx C D y k):SwI N G C S p0 D again k (i+1) :=
 ⟨h.di,h.pot,fun q x z g=>by
  rcases g with g|⟨rfl,j⟩
  ·exact h.rl q x z (.inl g)
  rw[bF (z:=0) hi,List.mem_append,List.mem_singleton]at j
  rcases j with j|j
  ·exact h.rl q x z (.inr ⟨rfl,j⟩)
  have:z=y:=by omega
  subst this
  exact hr⟩
theorem SwI.change{N:Nat}{G:List (List Int)}{C S D:List Int}{p0 k i:Nat}{again:Bool}(hg:jW N G C S)(h:SwI N G C S p0 D again k i){y:Nat}(j:(y:Int)∈G[k]?.getD [])(h0:0<=D[y]?.getD 0)(hr:D[k]?.getD 0<0∨D[y]?.getD 0+C[k]?.getD 0<D[k]?.getD 0) :
  SwI N G C S p0 (D.set k (D[y]?.getD 0+C[k]?.getD 0)) true k (i+1):=by
 obtain⟨h1,h2⟩:=h.di.step hg j h0 hr;refine⟨h1,?_,fun g=>by simp at g⟩;have:=h.pot;simp;omega
theorem SwI.next{N:Nat}{G:List (List Int)}{C S D:List Int}{p0 k:Nat}{again:Bool}(h:SwI N G C S p0 D again k (G[k]?.getD []).length):SwI N G C S p0 D again (k+1) 0 :=
 ⟨h.di,h.pot,fun q x y j=>by
  rcases j with⟨hx,g⟩|⟨_,g⟩
  ·by_cases e:x=k
   ·subst e;exact h.rl q x y (.inr ⟨rfl,by rw[List.take_length];exact g⟩)
   exact h.rl q x y (.inl ⟨by omega,g⟩)
  simp at g⟩
theorem SwI.done{N:Nat}{G:List (List Int)}{C S D:List Int}{p0:Nat}(hg:jW N G C S)(h:SwI N G C S p0 D false N 0):D=distF G C S :=
 (h.di.done hg fun x y g=>h.rl rfl x y (.inl ⟨(hg.row g).1,g⟩)).eq
/-! ### the program: a queue -/
structure QI(N:Nat)(G:List (List Int))(C S D:List Int)(T:List (Int×Int)):Prop where
 di:DI N G C S D
 ent:∀e∈T,∃n:Nat,e.2=(n:Int)/\n<N/\0<=D[n]?.getD 0/\D[n]?.getD 0<=e.1/\e.1<=82800000
 todo:∀y:Nat,y<N→0<=D[y]?.getD 0→(D[y]?.getD 0,(y:Int))∈T∨∀x:Nat,(y:Int)∈G[x]?.getD []→Rlx C D y x
theorem QI.perm{N:Nat}{G:List (List Int)}{C S D:List Int}{T U:List (Int×Int)}(h:QI N G C S D T)(hp:T.Perm U):QI N G C S D U :=
 ⟨h.di,fun e he=>h.ent e (hp.mem_iff.2 he),fun y g h0=>(h.todo y g h0).imp (fun h=>hp.mem_iff.1 h) id⟩
theorem QI.done{N:Nat}{G:List (List Int)}{C S D:List Int}(hg:jW N G C S)(h:QI N G C S D []):D=distF G C S :=
 (h.di.done hg fun x y g=>by
  intro h0
  rcases h.todo y (by have:=(hg.row g).2;omega) h0 with h1|h1
  ·simp at h1
  exact h1 x g h0).eq
theorem QI.stale{N:Nat}{G:List (List Int)}{C S D:List Int}{T:List (Int×Int)}{c:Int}{n:Nat}(h:QI N G C S D ((c,(n:Int))::T))(hs:D[n]?.getD 0<c):QI N G C S D T :=
 ⟨h.di,fun e he=>h.ent e (by simp[he]),fun y g h0=>by
  rcases h.todo y g h0 with h1|h1
  ·rw[List.mem_cons]at h1
   rcases h1 with h1|h1
   ·injection h1 with h2 h3
    have:y=n:=by omega
    subst this;omega
   exact .inl h1
  exact .inr h1⟩
structure QJ(N:Nat)(G:List (List Int))(C S D:List Int)(T:List (Int×Int))(y0:Nat)(c0:Int)(K:List Int):Prop where
 di:DI N G C S D
 at0:y0<N/\D[y0]?.getD 0=c0/\0<=c0
 ent:∀e∈T,∃n:Nat,e.2=(n:Int)/\n<N/\0<=D[n]?.getD 0/\D[n]?.getD 0<=e.1/\e.1<=82800000
 todo:∀y:Nat,y<N→y≠y0→0<=D[y]?.getD 0→(D[y]?.getD 0,(y:Int))∈T∨∀x:Nat,(y:Int)∈G[x]?.getD []→Rlx C D y x
 own:∀x:Nat,(x:Int)∈K→Rlx C D y0 x
theorem QJ.start{N:Nat}{G:List (List Int)}{C S D:List Int}{T:List (Int×Int)}{c:Int}{n:Nat}(h:QI N G C S D ((c,(n:Int))::T))(hs:¬D[n]?.getD 0<c):QJ N G C S D T n c []:=by
 obtain⟨m,h1,h2,h3,g,j⟩:=h.ent (c,(n:Int)) (by simp);have:m=n:=by simp only at h1;omega
 subst this;simp only at g j;refine⟨h.di,⟨h2,by omega,by omega⟩,fun e he=>h.ent e (by simp[he]),fun y u q h0=>?_,fun x hx=>by simp at hx⟩
 rcases h.todo y u h0 with h1|h1
 ·rw[List.mem_cons]at h1
  rcases h1 with h1|h1
  ·injection h1 with h2 h3
   omega
  exact .inl h1
 exact .inr h1
theorem QJ.perm{N:Nat}{G:List (List Int)}{C S D:List Int}{T U:List (Int×Int)}{y0:Nat}{c0:Int}{K:List Int}(h:QJ N G C S D T y0 c0 K)(hp:T.Perm U):QJ N G C S D U y0 c0 K :=
 ⟨h.di,h.at0,fun e he=>h.ent e (hp.mem_iff.2 he),fun y g hn h0=>(h.todo y g hn h0).imp (fun h=>hp.mem_iff.1 h) id,h.own⟩
theorem QJ.keep{N:Nat}{G:List (List Int)}{C S D:List Int}{T:List (Int×Int)}{y0 n:Nat}{c0:Int}{K:List Int}(h:QJ N G C S D T y0 c0 K)(hr:¬(D[n]?.getD 0<0∨c0+C[n]?.getD 0<D[n]?.getD 0)):QJ N G C S D T y0 c0 (K++[(n:Int)]) :=
 ⟨h.di,h.at0,h.ent,h.todo,fun x hx=>by
  rw[List.mem_append,List.mem_singleton]at hx
  rcases hx with hx|hx
  ·exact h.own x hx
  have:x=n:=by omega
  subst this
  exact Rlx.of fun h2=>hr (by rw[←h.at0.2.1];exact h2.2)⟩
theorem QJ.change{N:Nat}{G:List (List Int)}{C S D:List Int}{T:List (Int×Int)}{y0 n:Nat}{c0:Int}{K:List Int}(hg:jW N G C S)(h:QJ N G C S D T y0 c0 K)(U:(y0:Int)∈G[n]?.getD [])(hr:D[n]?.getD 0<0∨c0+C[n]?.getD 0<D[n]?.getD 0) :
  QJ N G C S (D.set n (c0+C[n]?.getD 0)) ((c0+C[n]?.getD 0,(n:Int))::T) y0 c0 (K++[(n:Int)])/\qQ (D.set n (c0+C[n]?.getD 0))<qQ D:=by
 obtain⟨h1,h2,h3⟩:=h.at0;obtain⟨hn,_,_⟩:=hg.row U;have hc:=hg.cin n hn;have Q:n<D.length:=by rw[h.di.len];exact hn
 rw[←h2]at hr h3 ⊢;obtain⟨H,d2⟩:=h.di.step hg U h3 hr;have B:n≠y0:=by rintro rfl;omega
 obtain⟨v,hv⟩:∃v,D[y0]?.getD 0+C[n]?.getD 0=v:=⟨_,rfl⟩;rw[hv]at H d2 hr ⊢;have g:=AC (v:=v) Q;have j:(D.set n v)[n]?.getD 0=v:=by rw[g,if_pos rfl]
 have q:=H.le hg hn;rw[j]at q;have u:(D.set n v)[y0]?.getD 0=D[y0]?.getD 0:=by rw[g,if_neg B]
 refine⟨⟨H,⟨h1,u,h3⟩,fun e he=>?_,fun y z J h0=>?_,fun x hx=>?_⟩,d2⟩
 ·rw[List.mem_cons]at he
  rcases he with rfl|he
  ·exact⟨n,rfl,hn,by rw[j];omega,by rw[j];exact Int.le_refl _,q.2⟩
  obtain⟨m,V,m2,Z,W,Y⟩:=h.ent e he;refine⟨m,V,m2,?_,?_,Y⟩ <;> rw[g] <;> split
  ·omega
  ·exact Z
  ·rename_i e;subst e;omega
  exact W
 ·by_cases e:n=y
  ·subst e;rw[j];exact .inl (by simp)
  rw[g,if_neg e]at h0 ⊢
  rcases h.todo y z J h0 with I|I
  ·exact .inl (by simp[I])
  refine .inr fun x hx=>?_;have R:=I x hx;unfold Rlx at R ⊢;rw[g y,if_neg e,g x]
  split
  ·rename_i e2;subst e2;omega
  exact R
 rw[List.mem_append,List.mem_singleton]at hx;unfold Rlx;rw[u,g x]
 split
 ·rename_i e;subst e;omega
 rcases hx with hx|hx
 ·exact h.own x hx
 omega
theorem QJ.done{N:Nat}{G:List (List Int)}{C S D:List Int}{T:List (Int×Int)}{y0:Nat}{c0:Int}{K:List Int}(h:QJ N G C S D T y0 c0 K)(j:∀x:Nat,(y0:Int)∈G[x]?.getD []→(x:Int)∈K):QI N G C S D T :=
 ⟨h.di,h.ent,fun y g h0=>by
  by_cases e:y=y0
  ·subst e;exact .inr fun x hx=>h.own x (j x hx)
  exact h.todo y g e h0⟩
theorem QI.start{N:Nat}{G:List (List Int)}{C S:List Int}{T:List (Int×Int)}(hg:jW N G C S)(h1:∀s∈S,(0,s)∈T)(h2:∀e∈T,e.1=0/\e.2∈S):QI N G C S (dSt N S S.length) T:=by
 refine⟨MZ hg,fun e he=>?_,fun y g h0 => .inl ?_⟩
 ·obtain⟨e1,e2⟩:=h2 e he;have:=hg.sin _ e2;refine⟨e.2.toNat,by omega,by omega,?_⟩;rw[uP (by omega),List.take_length,if_pos (by rw[show((e.2.toNat:Nat):Int)=e.2 by omega];exact e2)];omega
 rw[uP g,List.take_length]at h0 ⊢
 split at h0
 ·rename_i h;rw[if_pos h];exact h1 _ h
 omega
/-! ### the path back -/
def jl(C D:List Int)(x:Nat)(y:Int):Bool:=decide (0<=D[y.toNat]?.getD 0) && decide (D[y.toNat]?.getD 0+C[x]?.getD 0=D[x]?.getD 0)
def Jo(G:List (List Int))(C D:List Int)(x:Nat):Int:=((G[x]?.getD []).find? (jl C D x)).getD 0
theorem tq{N:Nat}{G:List (List Int)}{C S D:List Int}(hg:jW N G C S)(h:jk G C S D){x:Nat}(hx:x<N)(h0:0<D[x]?.getD 0) :
  ∃y:Nat,(G[x]?.getD []).find? (jl C D x)=some (y:Int)/\Jo G C D x=(y:Int)/\y<N/\(y:Int)∈G[x]?.getD []/\0<=D[y]?.getD 0/\D[y]?.getD 0<D[x]?.getD 0:=by
 have hc:=hg.cin x hx
 obtain⟨z,j,q⟩:∃z∈G[x]?.getD [],jl C D x z=true:=by
  rcases h.val x (by rw[hg.glen];exact hx)with h1|⟨h1,h2,h3⟩
  ·omega
  generalize hd:D[x]?.getD 0=d at *
  cases h2 with
  | start hs=>omega
  | step u g =>
   rename_i y c;have B:=(hg.row g).2;refine⟨_,g,?_⟩;unfold jl;rw[Int.toNat_natCast]
   rcases h.val y (by rw[hg.glen];omega)with k1|⟨k1,k2,k3⟩
   ·exact absurd u (k1.2 _)
   have:=k3 _ u;have:=h3 _ (.step k2 g);simp only[Bool.and_eq_true,decide_eq_true_eq];omega
 obtain⟨y,g⟩:∃y,(G[x]?.getD []).find? (jl C D x)=some y:=by
  rw[←Option.isSome_iff_exists,List.find?_isSome];exact⟨z,j,q⟩
 have hm:=List.mem_of_find?_eq_some g;have hp:=List.find?_some g;have hb:=(hg.row hm).2;have e:((y.toNat:Nat):Int)=y:=by omega
 unfold jl at hp;simp only[Bool.and_eq_true,decide_eq_true_eq]at hp;refine⟨y.toNat,by rw[e];exact g,by unfold Jo;rw[g,e];rfl,by omega,by rw[e];exact hm,hp.1,by omega⟩
def tu(G:List (List Int))(C D:List Int):Nat→Nat→List Int
 | 0,x=>[(x:Int)]
 | n+1,x=>if D[x]?.getD 0<=0 then[(x:Int)]else tu G C D n (Jo G C D x).toNat++[(x:Int)]
def lF(G:List (List Int))(C D:List Int)(x:Nat):List Int:=tu G C D (D[x]?.getD 0).toNat x
theorem AJ{N:Nat}{G:List (List Int)}{C S D:List Int}(hg:jW N G C S)(h:jk G C S D):∀{n m x:Nat},x<N→D[x]?.getD 0<=(n:Int)→D[x]?.getD 0<=(m:Int)→tu G C D n x=tu G C D m x
 | 0,0,_,_,_,_=>rfl
 | 0,m+1,x,_,h1,_=>by rw[tu,tu,if_pos (by omega)]
 | n+1,0,x,_,_,h2=>by rw[tu,tu,if_pos (by omega)]
 | n+1,m+1,x,hx,h1,h2=>by
  rw[tu,tu]
  split
  ·rfl
  obtain⟨y,_,j,g,_,_,q⟩:=tq hg h hx (by omega);rw[j,Int.toNat_natCast,AJ hg h g (n:=n) (m:=m) (by omega) (by omega)]
theorem pX{G:List (List Int)}{C D:List Int}{x:Nat}(h0:D[x]?.getD 0=0):lF G C D x=[(x:Int)]:=by
 unfold lF;rw[h0];rfl
theorem vT{N:Nat}{G:List (List Int)}{C S D:List Int}(hg:jW N G C S)(h:jk G C S D){x y:Nat}(hx:x<N)(h0:0<D[x]?.getD 0)(j:Jo G C D x=(y:Int)):lF G C D x=lF G C D y++[(x:Int)]:=by
 obtain⟨z,_,u,g,_,B,q⟩:=tq hg h hx h0;have:y=z:=by omega
 subst this;unfold lF;obtain⟨n,hn⟩:∃n,(D[x]?.getD 0).toNat=n+1:=⟨(D[x]?.getD 0).toNat-1,by omega⟩;rw[hn,tu,if_neg (by omega),j,Int.toNat_natCast];rw[AJ hg h g (n:=n) (m:=(D[y]?.getD 0).toNat) (by omega) (by omega)]
theorem Gp{N:Nat}{G:List (List Int)}{C S D:List Int}(hg:jW N G C S)(h:jk G C S D):∀(n:Nat) {x:Nat},x<N→0<=D[x]?.getD 0→D[x]?.getD 0<=(n:Int) →
  ∃(p:Int) (t:List Int),lF G C D x=p::t/\p∈S/\(∀a∈p::t,(0<=a/\a<(N:Int))/\D[a.toNat]?.getD 0<=D[x]?.getD 0)/\(∀a∈t,a∉S)/\(p::t).Nodup:=by
 have u:∀x:Nat,x<N→D[x]?.getD 0=0→(x:Int)∈S:=by
  intro x hx h0
  rcases h.val x (by rw[hg.glen];exact hx)with h1|⟨_,h2,_⟩
  ·omega
  rw[h0]at h2;generalize K:(0:Int)=z at h2
  cases h2 with
  | start hs=>exact hs
  | step B q =>
   have:=B.nonneg hg;have:=hg.cin _ (hg.row q).1;omega
 intro n
 induction n with
 | zero =>
  intro x hx h0 h1;have e:D[x]?.getD 0=0:=by omega
  refine⟨(x:Int),[],pX e,u x hx e,fun a g=>?_,by simp,by simp⟩;rw[List.mem_singleton]at g;subst g
  exact⟨by omega,by rw[Int.toNat_natCast];exact Int.le_refl _⟩
 | succ n ih =>
  intro x hx h0 h1;by_cases e:D[x]?.getD 0=0
  ·refine⟨(x:Int),[],pX e,u x hx e,fun a g=>?_,by simp,by simp⟩;rw[List.mem_singleton]at g;subst g;exact⟨by omega,by rw[Int.toNat_natCast];exact Int.le_refl _⟩
  obtain⟨y,_,q,j,_,y0,J⟩:=tq hg h hx (by omega);obtain⟨p,t,e1,e2,e3,H,I⟩:=ih j y0 (by omega);refine⟨p,t++[(x:Int)],by rw[vT hg h hx (by omega) q,e1];rfl,e2,fun a g=>?_,fun a g=>?_,?_⟩
  ·rw[←List.cons_append,List.mem_append,List.mem_singleton]at g
   rcases g with g|rfl
   ·have:=e3 a g;exact⟨this.1,by omega⟩
   exact⟨by omega,by rw[Int.toNat_natCast];exact Int.le_refl _⟩
  ·rw[List.mem_append,List.mem_singleton]at g
   rcases g with g|rfl
   ·exact H a g
   intro hs
   rcases h.val x (by rw[hg.glen];exact hx)with h1|⟨_,_,h3⟩
   ·omega
   have:=h3 0 (.start hs);omega
  rw[←List.cons_append,mM];refine⟨I,fun hm=>?_⟩;have:=(e3 _ hm).2;rw[Int.toNat_natCast]at this;omega
theorem Gq{p:Int→Prop}:∀(n:Nat) {c:Int},p c→c<=(n:Int)→(∀c,p c→0<=c)→∃m,p m/\∀c,p c→m<=c
 | 0,c,hc,hn,h0=>⟨c,hc,fun d hd=>by have:=h0 d hd;omega⟩
 | n+1,c,hc,hn,h0=>by
  by_cases h:∃d,p d/\d<=(n:Int)
  ·obtain⟨d,hd,g⟩:=h;exact Gq n hd g h0
  refine⟨c,hc,fun d hd=>?_⟩;by_cases e:d<=(n:Int)
  ·exact absurd ⟨d,hd,e⟩ h
  omega
open Classical in
theorem AL{N:Nat}{G:List (List Int)}{C S:List Int}(hg:jW N G C S):jk G C S (distF G C S):=by
 have g:∀x:Nat,(∃c,Wk G C S x c)→∃m,Wk G C S x m/\∀c,Wk G C S x c→m<=c:=fun x ⟨c,hc⟩ =>
  Gq c.toNat hc (by have:=hc.nonneg hg;omega) fun c hc=>hc.nonneg hg
 have he:∃D,jk G C S D:=by
  refine⟨(List.range G.length).map fun x=>if h:∃c,Wk G C S x c then Classical.choose (g x h)else -1,by simp,fun x hx=>?_⟩;rw[List.getElem?_map,List.getElem?_range hx,Option.map_some,Option.getD_some];by_cases h:∃c,Wk G C S x c
  ·rw[dif_pos h];have:=Classical.choose_spec (g x h);exact .inr ⟨this.1.nonneg hg,this⟩
  rw[dif_neg h];exact .inl ⟨rfl,fun c hc=>h ⟨c,hc⟩⟩
 unfold distF;rw[dif_pos he];exact Classical.choose_spec he
def jU(xs:List Int)(x:Int):Nat→Nat
 | 0=>0
 | k+1=>if xs[k]?.getD 0=x then k else jU xs x k
theorem xV(xs:List Int)(x:Int):∀k,jU xs x k<=k
 | 0=>Nat.le_refl _
 | k+1=>by
  have:=xV xs x k;rw[jU]
  split <;> omega
def iR(a n:Nat):Nat→List Int
 | 0=>[]
 | i+1=>iR a n i++[if i=0 then(a:Int)else((n+i-1:Nat):Int)]
theorem AO(a n:Nat):∀i,(iR a n i).length=i
 | 0=>rfl
 | i+1=>by rw[iR,List.length_append,AO a n i];rfl
def jy(r:Rou)(p:List Int):Rou:=⟨r.nodes++p.tail,r.from_++iR (jU r.nodes (p[0]?.getD 0) r.nodes.length) r.nodes.length p.tail.length⟩
open Classical in
noncomputable def growOne (G:List (List Int)) (C:List Int) (r:Rou) (s:Int):Option Rou :=
 if s∈r.nodes then some r else if(distF G C r.nodes)[s.toNat]?.getD 0=-1 then none else some (jy r (lF G C (distF G C r.nodes) s.toNat))
noncomputable def growTo (G:List (List Int)) (C:List Int) (source:Int) (sinks:List Int):Nat→Option Rou
 | 0=>some ⟨[source],[0]⟩
 | k+1=>(growTo G C source sinks k).bind fun r=>growOne G C r (sinks[k]?.getD 0)
noncomputable def growF (G:List (List Int)) (C:List Int) (source:Int) (sinks:List Int):Option Rou:=growTo G C source sinks sinks.length
theorem uA{G:List (List Int)}{C:List Int}{source:Int}{sinks:List Int}{k:Nat}(h:growTo G C source sinks k=none):∀{m},k<=m→growTo G C source sinks m=none
 | 0,hm=>by rw[show k=0 by omega]at h;exact h
 | m+1,hm=>by
  by_cases e:k=m+1
  ·subst e;exact h
  rw[growTo,uA h (show k<=m by omega)];rfl
structure pu(N:Nat)(r:Rou):Prop where
 pos:1<=r.nodes.length
 once:r.nodes.Nodup
 inn:∀n∈r.nodes,0<=n/\n<(N:Int)
 same:r.from_.length=r.nodes.length
theorem CP:∀{N:Nat} {xs:List Int},xs.Nodup→(∀n∈xs,0<=n/\n<(N:Int))→xs.length<=N
 | 0,[],_,_=>Nat.le_refl _
 | 0,x::xs,_,h=>by have:=h x (by simp);omega
 | N+1,xs,hn,h=>by
  have h1:(xs.filter fun x=>decide (x≠(N:Int))).length<=N:=by
   refine CP (List.Nodup.sublist List.filter_sublist hn) fun n hm=>?_;obtain⟨h2,h3⟩:=List.mem_filter.1 hm;have:=h n h2;have:=of_decide_eq_true h3;omega
  have h2:xs.length<=(xs.filter fun x=>decide (x≠(N:Int))).length+1:=by
   clear h1 h
   induction xs with
   | nil=>simp
   | cons x xs ih =>
    rw[List.nodup_cons]at hn;by_cases e:x=(N:Int)
    ·rw[List.filter_cons_of_neg (by simp[e]),List.filter_eq_self.2]
     ·simp
     intro y g;apply decide_eq_true;rintro rfl;exact hn.1 (e ▸ g)
    rw[List.filter_cons_of_pos (by simp[e])];have:=ih hn.2;simp only[List.length_cons];omega
  omega
theorem pu.le{N:Nat}{r:Rou}(h:pu N r):r.nodes.length<=N:=CP h.once h.inn
theorem pu.root{N:Nat}{s:Int}(h:0<=s/\s<(N:Int)):pu N ⟨[s],[0]⟩:=⟨by simp,by simp,fun n hn=>by rw[List.mem_singleton.1 hn];exact h,rfl⟩
theorem jW.starts{N:Nat}{G:List (List Int)}{C S:List Int}(h:jW N G C [])(hs:∀s∈S,0<=s/\s<(N:Int)):jW N G C S:=⟨h.nle,h.glen,h.gin,h.clen,h.cin,hs⟩
theorem xW{N:Nat}{G:List (List Int)}{C:List Int}(hg:jW N G C []){r:Rou}(hr:pu N r){s:Nat}(hs:s<N)(hd:(distF G C r.nodes)[s]?.getD 0≠-1) :
  ∃(p:Int) (t:List Int),lF G C (distF G C r.nodes) s=p::t/\(∀a∈t,(0<=a/\a<(N:Int))/\a∉r.nodes)/\t.Nodup/\pu N (jy r (p::t)):=by
 have j:=hg.starts hr.inn;have z:=AL j
 have h0:0<=(distF G C r.nodes)[s]?.getD 0:=by
  rcases z.val s (by rw[hg.glen];exact hs)with h|h
  ·exact absurd h.1 hd
  exact h.1
 obtain⟨p,t,e1,e2,e3,B,u⟩:=Gp j z ((distF G C r.nodes)[s]?.getD 0).toNat hs h0 (by omega);rw[List.nodup_cons]at u;have g:∀a∈t,(0<=a/\a<(N:Int))/\a∉r.nodes:=fun a q=>⟨(e3 a (by simp[q])).1,B a q⟩;refine⟨p,t,e1,g,u.2,?_,?_,?_,?_⟩
 ·have:=hr.pos;unfold jy;simp only[List.length_append];omega
 ·unfold jy;simp only[List.tail_cons];rw[List.nodup_append];exact⟨hr.once,u.2,fun a q b hb e=>(g b hb).2 (e ▸ q)⟩
 ·intro n hn;unfold jy at hn;simp only[List.tail_cons,List.mem_append]at hn
  rcases hn with hn|hn
  ·exact hr.inn n hn
  exact(g n hn).1
 unfold jy;simp only[List.length_append,AO,hr.same]
theorem Gs{N:Nat}{G:List (List Int)}{C:List Int}(hg:jW N G C []){r g:Rou}(hr:pu N r){s:Int}(hs:0<=s/\s<(N:Int))(h:growOne G C r s=some g):pu N g:=by
 unfold growOne at h
 split at h
 ·injection h with h;subst h;exact hr
 split at h
 ·exact absurd h (by simp)
 rename_i hd;injection h with h
 obtain⟨p,t,e1,_,_,j⟩:=xW hg hr (s:=s.toNat) (by omega) hd;rw[←h,e1];exact j
theorem AP{N:Nat}{G:List (List Int)}{C:List Int}(hg:jW N G C []){source:Int}{sinks:List Int}(h0:0<=source/\source<(N:Int))(hs:∀s∈sinks,0<=s/\s<(N:Int)):∀{k:Nat} {r:Rou},k<=sinks.length→growTo G C source sinks k=some r→pu N r
 | 0,r,_,h=>by
  rw[growTo]at h;injection h with h
  subst h
  exact pu.root h0
 | k+1,r,hk,h=>by
  rw[growTo]at h
  cases e:growTo G C source sinks k with
  | none=>rw[e]at h;simp at h
  | some g =>
   rw[e,Option.bind_some]at h;refine Gs hg (AP hg h0 hs (by omega) e) (hs _ ?_) h;rw[List.getElem?_eq_getElem (show k<sinks.length by omega)];exact List.getElem_mem _
/-! ### how often nodes are used -/
def usg(rs:List Rou)(x:Nat):Nat:=rs.countP fun r=>decide ((x:Int)∈r.nodes)
def gq(N:Nat)(rs:List Rou):List Int:=(List.range N).map fun(x:Nat)=>((usg rs x:Nat):Int)
def l7(N:Nat)(rs:List Rou)(ns:List Int):List Int:=(List.range N).map fun(x:Nat)=>((usg rs x:Nat):Int)+if(x:Int)∈ns then 1 else 0
theorem Mc(N:Nat)(rs:List Rou):(gq N rs).length=N:=by simp[gq]
theorem Gt{N x:Nat}(rs:List Rou)(h:x<N):(gq N rs)[x]?.getD 0=((usg rs x:Nat):Int):=by
 unfold gq;rw[List.getElem?_map,List.getElem?_range h];rfl
theorem EH(rs:List Rou)(x:Nat):usg rs x<=rs.length:=List.countP_le_length
theorem AQ{N x:Nat}(rs:List Rou)(ns:List Int)(h:x<N):(l7 N rs ns)[x]?.getD 0=((usg rs x:Nat):Int)+if(x:Int)∈ns then 1 else 0:=by
 unfold l7;rw[List.getElem?_map,List.getElem?_range h];rfl
theorem Gu(N:Nat)(rs:List Rou):l7 N rs []=gq N rs:=by simp[l7,gq]
theorem Gv(N:Nat):gq N []=List.replicate N 0:=by
 apply List.ext_getElem
 ·simp[gq]
 intro i _ _;simp[gq,usg]
theorem Gw(N:Nat)(rs:List Rou)(r:Rou):l7 N rs r.nodes=gq N (rs++[r]):=by
 unfold l7 gq;refine List.map_congr_left fun x _=>?_;unfold usg;rw[List.countP_append];by_cases h:(x:Int)∈r.nodes <;> simp[h]
theorem CQ(N:Nat)(rs:List Rou){ns:List Int}{x:Int}(h:x∈ns):l7 N rs (ns++[x])=l7 N rs ns:=by
 unfold l7;refine List.map_congr_left fun z _=>?_;by_cases e:(z:Int)∈ns
 ·simp[e]
 have:¬(z:Int)=x:=by rintro e2;rw[e2]at e;exact e h
 simp[e,this]
theorem Gx{N:Nat}(rs:List Rou){ns:List Int}{x:Nat}(hx:x<N)(h:(x:Int)∉ns):(l7 N rs ns).set x ((l7 N rs ns)[x]?.getD 0+1)=l7 N rs (ns++[(x:Int)]):=by
 rw[AQ _ _ hx];apply List.ext_getElem
 ·simp[l7]
 intro i h1 h2;have hi:i<N:=by simpa [l7]using h2
 rw[List.getElem_set];simp only[l7,List.getElem_map,List.getElem_range]
 split
 ·rename_i e;subst e;simp[h]
 rename_i e;have:¬(i:Int)=(x:Int):=by omega
 simp[this]
def skp(rs:List Rou)(k:Nat):List Rou:=rs.take k++rs.drop (k+1)
def jR(rs:List Rou)(k:Int):Nat→List Rou
 | 0=>[]
 | i+1=>if(i:Int)=k then jR rs k i else jR rs k i++[rs[i]?.getD Rou.zero]
theorem Gy(rs:List Rou)(k:Nat):∀i,i<=k→i<=rs.length→jR rs (k:Int) i=rs.take i
 | 0,_,_=>rfl
 | i+1,h,hl=>by
  rw[jR,if_neg (by omega),Gy rs k i (by omega) (by omega),bF (z:=Rou.zero) (by omega)]
theorem Gz(rs:List Rou)(k:Nat):∀i,k<i→i<=rs.length→jR rs (k:Int) i=rs.take k++(rs.take i).drop (k+1)
 | 0,h,_=>by omega
 | i+1,h,hl=>by
  rw[jR];by_cases e:k=i
  ·subst e;rw[if_pos rfl,Gy rs k k (Nat.le_refl _) (by omega),List.drop_eq_nil_of_le (by rw[List.length_take];omega),List.append_nil]
  rw[if_neg (by omega),Gz rs k i (by omega) (by omega),bF (z:=Rou.zero) (xs:=rs) (k:=i) (by omega),List.drop_append_of_le_length (by rw[List.length_take];omega),List.append_assoc]
theorem Kc(rs:List Rou){k:Nat}(h:k<rs.length):jR rs (k:Int) rs.length=skp rs k:=by
 rw[Gz rs k _ h (Nat.le_refl _),List.take_length];rfl
theorem CR(rs:List Rou):∀i,i<=rs.length→jR rs (-1) i=rs.take i
 | 0,_=>rfl
 | i+1,h=>by rw[jR,if_neg (by omega),CR rs i (by omega),bF (z:=Rou.zero) (by omega)]
/-! ### negotiation -/
def shc(H U:List Int)(p:Int):List Int:=(List.range H.length).map fun(x:Nat)=>min 100000 (10+H[x]?.getD 0+p*U[x]?.getD 0)
def ovr(U:List Int)(k:Nat):Prop:=∃x:Nat,x<k/\1<U[x]?.getD 0
def l8(H U:List Int)(k:Nat):List Int:=(List.range H.length).map fun(x:Nat)=>if x<k/\1<U[x]?.getD 0 then H[x]?.getD 0+4*(U[x]?.getD 0-1)else H[x]?.getD 0
theorem EI(H U:List Int)(p:Int):(shc H U p).length=H.length:=by simp[shc]
theorem EJ(H U:List Int)(p:Int){x:Nat}(h:x<H.length):(shc H U p)[x]?.getD 0=min 100000 (10+H[x]?.getD 0+p*U[x]?.getD 0):=by
 unfold shc;rw[List.getElem?_map,List.getElem?_range h];rfl
theorem Md(H U:List Int)(k:Nat):(l8 H U k).length=H.length:=by simp[l8]
theorem G5(H U:List Int)(k:Nat){x:Nat}(h:x<H.length):(l8 H U k)[x]?.getD 0=if x<k/\1<U[x]?.getD 0 then H[x]?.getD 0+4*(U[x]?.getD 0-1)else H[x]?.getD 0:=by
 unfold l8;rw[List.getElem?_map,List.getElem?_range h];rfl
theorem CS(H U:List Int):l8 H U 0=H:=by
 apply List.ext_getElem
 ·simp[l8]
 intro i h1 h2;simp[l8,List.getElem?_eq_getElem h2]
theorem CU(H U:List Int){k:Nat}(h:¬1<U[k]?.getD 0):l8 H U (k+1)=l8 H U k:=by
 unfold l8;refine List.map_congr_left fun x _=>?_;by_cases e:x=k
 ·subst e;rw[if_neg (fun h2=>h h2.2),if_neg (fun h2=>h h2.2)]
 have:(x<k+1)=(x<k):=by apply propext;omega
 simp only[this]
theorem CV{H U:List Int}{k:Nat}(hk:k<H.length)(h:1<U[k]?.getD 0):(l8 H U k).set k ((l8 H U k)[k]?.getD 0+4*(U[k]?.getD 0-1))=l8 H U (k+1):=by
 rw[G5 _ _ _ hk,if_neg (by omega)];apply List.ext_getElem
 ·simp[l8]
 intro i h1 h2;have hi:i<H.length:=by simpa [l8]using h2
 rw[List.getElem_set];simp only[l8,List.getElem_map,List.getElem_range]
 split
 ·rename_i e;subst e;rw[if_pos ⟨by omega,h⟩]
 rename_i e;have:(i<k+1)=(i<k):=by apply propext;omega
 simp only[this]
noncomputable def rtIn (N:Nat) (G:List (List Int)) (src:Nat→Int) (snk:Nat→List Int) (H:List Int) (g:Nat) (rs:List Rou):Nat→Option (List Rou)
 | 0=>some rs
 | k+1=>(rtIn N G src snk H g rs k).bind fun j=>(growF G (shc H (gq N (skp j k)) (5*(g:Int))) (src k) (snk k)).map fun r=>j.set k r
open Classical in
noncomputable def rtGo (N:Nat) (G:List (List Int)) (src:Nat→Int) (snk:Nat→List Int) (m:Nat):Nat→Nat→List Rou→List Int→List Rou×Bool
 | 0,_,_,_=>([],false)
 | f+1,t,rs,H=>match rtIn N G src snk H t rs m with
  | none=>([],false)
  | some g=>if ovr (gq N g) N then rtGo N G src snk m f (t+1) g (l8 H (gq N g) N)else(g,true)
structure vU(N:Nat)(H:List Int)(t:Nat):Prop where
 len:H.length=N
 bd:∀x:Nat,x<N→0<=H[x]?.getD 0/\H[x]?.getD 0<=400*(t:Int)
structure sN(N m:Nat)(rs:List Rou):Prop where
 len:rs.length=m
 inn:∀r∈rs,r=Rou.zero∨pu N r
theorem sN.start(N m:Nat):sN N m (List.replicate m Rou.zero):=⟨by simp,fun r hr => .inl (List.eq_of_mem_replicate hr)⟩
theorem sN.set{N m k:Nat}{rs:List Rou}{r:Rou}(h:sN N m rs)(hr:pu N r):sN N m (rs.set k r) :=
 ⟨by rw[List.length_set];exact h.len,fun x hx=>by
  rcases List.mem_or_eq_of_mem_set hx with hx|rfl
  ·exact h.inn x hx
  exact .inr hr⟩
theorem sN.nodes{N m:Nat}{rs:List Rou}(h:sN N m rs){r:Rou}(hr:r∈rs):r.nodes.length<=N/\∀n∈r.nodes,0<=n/\n<(N:Int):=by
 rcases h.inn r hr with rfl|h
 ·exact⟨by simp[Rou.zero],by simp[Rou.zero]⟩
 exact⟨h.le,h.inn⟩
theorem vU.step{N m t:Nat}{H:List Int}{rs:List Rou}(h:vU N H t)(hr:rs.length=m)(hm:m<=100)(k:Nat):vU N (l8 H (gq N rs) k) (t+1):=by
 refine⟨by rw[Md];exact h.len,fun x hx=>?_⟩;have h1:=h.bd x hx;have h2:=EH rs x;rw[G5 _ _ _ (by rw[h.len];exact hx),Gt _ hx]
 split <;> omega
theorem JG{N:Nat}{G:List (List Int)}{H U:List Int}{t:Nat}(j:G.length=N)(g:∀x:Nat,x<N→∀y∈G[x]?.getD [],0<=y/\y<(N:Int))(q:N<=828)(h:vU N H t)(u:∀x:Nat,0<=U[x]?.getD 0){p:Int}(hp:0<=p):jW N G (shc H U p) []:=by
 refine⟨q,j,g,by rw[EI];exact h.len,fun x hx=>?_,by simp⟩;have h1:=h.bd x hx;have h2:=Int.mul_nonneg hp (u x);rw[EJ _ _ _ (by rw[h.len];exact hx)];omega
end Go.Proofs.YtofihjoanjkdmaaGreat
