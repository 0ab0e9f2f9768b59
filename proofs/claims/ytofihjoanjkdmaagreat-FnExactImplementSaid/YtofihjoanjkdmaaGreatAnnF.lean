/- Spans, costs, moves and annealing, plain. -/
import Derived.Test.YtofihjoanjkdmaaGreatLayS11
import Derived.Test.YtofihjoanjkdmaaGreatLayS7
import Derived.Test.YtofihjoanjkdmaaGreatPinC
import Derived.Test.YtofihjoanjkdmaaGreatShC
namespace Go.Proofs.YtofihjoanjkdmaaGreat
set_option maxHeartbeats 8000000
set_option maxRecDepth 100000
def dR(s:Int):Int:=(1103515245*(s%2147483648)+12345)%2147483648
theorem qV(s:Int):0<=dR s/\dR s<2147483648:=by unfold dR;omega
/-! ### moves -/
def kV(p:List Int)(b:Nat)(t:Int)(k:Nat):List Int:=(List.range p.length).map fun(i:Nat)=>if i<k/\p[i]?.getD 0=t then p[b]?.getD 0 else p[i]?.getD 0
def yJ(p:List Int)(b:Nat)(t:Int):List Int:=(kV p b t p.length).set b t
theorem Kz(p:List Int)(b:Nat)(t:Int)(k:Nat):(kV p b t k).length=p.length:=by simp[kV]
theorem vY(p:List Int)(b:Nat)(t:Int):(yJ p b t).length=p.length:=by simp[yJ,kV]
theorem zF{p:List Int}{b:Nat}{t:Int}{k i:Nat}(h:i<p.length):(kV p b t k)[i]?.getD 0=if i<k/\p[i]?.getD 0=t then p[b]?.getD 0 else p[i]?.getD 0:=by
 unfold kV;rw[List.getElem?_map,List.getElem?_range h];rfl
theorem BR(p:List Int)(b:Nat)(t:Int):kV p b t 0=p:=by
 apply List.ext_getElem
 ·simp[kV]
 intro i h1 h2;simp[kV,List.getElem?_eq_getElem h2]
theorem K7{p:List Int}{b:Nat}(t:Int)(k:Nat)(h:b<p.length):(kV p b t k)[b]?.getD 0=p[b]?.getD 0:=by
 rw[zF h]
 split <;> rfl
theorem JQ{p:List Int}(b:Nat)(t:Int){k:Nat}(h:k<p.length):(kV p b t k)[k]?.getD 0=p[k]?.getD 0:=by
 rw[zF h,if_neg (by omega)]
theorem BU{p:List Int}(b:Nat){t:Int}{k:Nat}(h:¬p[k]?.getD 0=t):kV p b t (k+1)=kV p b t k:=by
 unfold kV;refine List.map_congr_left fun x _=>?_;by_cases e:x=k
 ·subst e;rw[if_neg (fun h2=>h h2.2),if_neg (fun h2=>h h2.2)]
 have:(x<k+1)=(x<k):=by apply propext;omega
 simp only[this]
theorem Ef{p:List Int}(b:Nat){t:Int}{k:Nat}(h:p[k]?.getD 0=t):(kV p b t k).set k (p[b]?.getD 0)=kV p b t (k+1):=by
 apply List.ext_getElem
 ·simp[kV]
 intro i h1 h2;have hi:i<p.length:=by simpa [kV]using h2
 rw[List.getElem_set];simp only[kV,List.getElem_map,List.getElem_range]
 split
 ·rename_i e;subst e;rw[if_pos ⟨by omega,h⟩]
 rename_i e;have:(i<k+1)=(i<k):=by apply propext;omega
 simp only[this]
theorem zG{p:List Int}{b:Nat}{t:Int}{i:Nat}(h:i<p.length):(yJ p b t)[i]?.getD 0=if b=i then t else if p[i]?.getD 0=t then p[b]?.getD 0 else p[i]?.getD 0:=by
 unfold yJ;by_cases e:b=i
 ·subst e;rw[if_pos rfl,List.getElem?_set_self (by rw[Kz];exact h)];rfl
 rw[if_neg e,List.getElem?_set_ne e,zF h];simp only[h,true_and]
theorem Ju{p:List Int}(h:p.Nodup){i j:Nat}(hi:i<p.length)(hj:j<p.length)(g:i≠j):p[i]?.getD 0≠p[j]?.getD 0:=by
 rw[List.getElem?_eq_getElem hi,List.getElem?_eq_getElem hj,Option.getD_some,Option.getD_some]
 rcases Nat.lt_or_gt_of_ne g with h1|h1
 ·exact List.pairwise_iff_getElem.1 h i j hi hj h1
 exact fun e=>List.pairwise_iff_getElem.1 h j i hj hi h1 e.symm
theorem K8{d:Dev}{ks p:List Int}(h:dA d ks p){b:Nat}(hb:b<ks.length){t:Int}(ht:ai d t=true)(hk:ah d t=aW (ks[b]?.getD 0)):dA d ks (yJ p b t):=by
 have g:b<p.length:=by rw[h.same];exact hb
 have inj:∀{i j:Nat},i<p.length→j<p.length→i≠j→p[i]?.getD 0≠p[j]?.getD 0:=fun hi hj u=>Ju h.once hi hj u;refine⟨h.dev,h.len,by rw[vY];exact h.same,fun k q=>?_,?_⟩
 ·have z:k<p.length:=by rw[h.same];exact q
  rw[zG z]
  split
  ·rename_i e;subst e;exact⟨ht,hk⟩
  split
  ·rename_i e;have h1:=h.tile k q;have h2:=h.tile b hb;rw[e]at h1;exact⟨h2.1,by rw[h2.2,←hk,h1.2]⟩
  exact h.tile k q
 rw[List.Nodup,List.pairwise_iff_getElem];intro i j hi hj u e;rw[vY]at hi hj
 have e2:(yJ p b t)[i]?.getD 0=(yJ p b t)[j]?.getD 0:=by
  rw[List.getElem?_eq_getElem (by rw[vY];exact hi),List.getElem?_eq_getElem (by rw[vY];exact hj),e]
 rw[zG hi,zG hj]at e2;have G:=inj hi hj (by omega);by_cases B:b=i
 ·rw[if_pos B]at e2;rw[if_neg (by omega)]at e2
  split at e2
  ·rename_i h1;have:=inj g hj (by omega);omega
  omega
 rw[if_neg B]at e2;by_cases D:b=j
 ·rw[if_pos D]at e2
  split at e2
  ·rename_i h1;have:=inj g hi (by omega);omega
  omega
 rw[if_neg D]at e2;have h1:=inj g hi (by omega);have h2:=inj g hj (by omega)
 split at e2 <;> split at e2 <;> omega
/-! ### spans -/
def kD(f:aL→Int)(g:List aL)(s:Int):Nat→Int
 | 0=>s
 | k+1=>min (kD f g s k) (f (g[k]?.getD aL.zero))
def kE(f:aL→Int)(g:List aL)(s:Int):Nat→Int
 | 0=>s
 | k+1=>max (kE f g s k) (f (g[k]?.getD aL.zero))
theorem uu(f:aL→Int)(g:List aL)(a b:Int)(h:∀p∈g,f p<=a/\f p<=b):∀k,k+1<=g.length→kD f g a (k+1)=kD f g b (k+1)
 | 0,hk=>by
  have:=h (g[0]?.getD aL.zero) (by rw[List.getElem?_eq_getElem (by omega)];exact List.getElem_mem _);simp only[kD]
  omega
 | k+1,hk=>by
  show min (kD f g a (k+1)) _=min (kD f g b (k+1)) _;rw[uu f g a b h k (by omega)]
theorem uw(f:aL→Int)(g:List aL)(a b:Int)(h:∀p∈g,a<=f p/\b<=f p):∀k,k+1<=g.length→kE f g a (k+1)=kE f g b (k+1)
 | 0,hk=>by
  have:=h (g[0]?.getD aL.zero) (by rw[List.getElem?_eq_getElem (by omega)];exact List.getElem_mem _);simp only[kE]
  omega
 | k+1,hk=>by
  show max (kE f g a (k+1)) _=max (kE f g b (k+1)) _;rw[uw f g a b h k (by omega)]
theorem lQ(f:aL→Int)(g:List aL){s:Int}(hs:0<=s/\s<=6)(h:∀p,0<=f p/\f p<=6):∀k,0<=kD f g s k/\kD f g s k<=6
 | 0=>hs
 | k+1=>by
  have:=lQ f g hs h k;have:=h (g[k]?.getD aL.zero);rw[kD];omega
theorem lS(f:aL→Int)(g:List aL){s:Int}(hs:-1<=s/\s<=6)(h:∀p,0<=f p/\f p<=6):∀k,-1<=kE f g s k/\kE f g s k<=6
 | 0=>hs
 | k+1=>by
  have:=lS f g hs h k;have:=h (g[k]?.getD aL.zero);rw[kE];omega
theorem K9(f:aL→Int)(g:List aL)(a b:Int):∀k,kD f g a (k+1)<=kE f g b (k+1)
 | 0=>by simp only[kD,kE];omega
 | k+1=>by
  have:=K9 f g a b k;rw[kD,kE];omega
def Eg(pl:List Int)(p:aL):Int:=pl[p.block.toNat]?.getD 0
def xOf(d:Dev)(pl:List Int)(p:aL):Int:=Eg pl p%d.W
def yOf(d:Dev)(pl:List Int)(p:aL):Int:=Eg pl p/d.W
def p9(d:Dev)(pl:List Int)(c:Cn):Int:=kE (xOf d pl) (bN c) (-1) (bN c).length-kD (xOf d pl) (bN c) 6 (bN c).length+kE (yOf d pl) (bN c) (-1) (bN c).length-kD (yOf d pl) (bN c) 6 (bN c).length
def uY(d:Dev)(pl:List Int):Prop:=∀t∈pl,ai d t=true
theorem uY.xy{d:Dev}(hd:bQ d=true){pl:List Int}(h:uY d pl)(p:aL):(0<=xOf d pl p/\xOf d pl p<=5)/\0<=yOf d pl p/\yOf d pl p<=5:=by
 obtain⟨j,u,g,q,_⟩:=ak hd;unfold xOf yOf Eg
 rcases Nat.lt_or_ge p.block.toNat pl.length with hb|hb
 ·rw[List.getElem?_eq_getElem hb,Option.getD_some];have:=jL (h _ (List.getElem_mem hb));omega
 rw[List.getElem?_eq_none hb,Option.getD_none];simp
theorem dA.tl{d:Dev}{ks pl:List Int}(h:dA d ks pl):uY d pl:=fun t ht=>by
 obtain⟨i,hi,rfl⟩:=List.getElem_of_mem ht;have:=(h.tile i (by rw[←h.same];exact hi)).1;rw[List.getElem?_eq_getElem hi]at this;exact this
theorem zH{d:Dev}(hd:bQ d=true){pl:List Int}(h:uY d pl)(c:Cn):0<=p9 d pl c/\p9 d pl c<=12:=by
 have hx:=fun p=>(h.xy hd p).1;have g:=fun p=>(h.xy hd p).2;have e:(bN c).length=c.sinks.length+1:=rfl;have l1:=K9 (xOf d pl) (bN c) 6 (-1) c.sinks.length;have l2:=K9 (yOf d pl) (bN c) 6 (-1) c.sinks.length;have z:=lQ (xOf d pl) (bN c) (s:=6) (by omega) (fun p=>by have:=hx p;omega) (bN c).length;have u:=lQ (yOf d pl) (bN c) (s:=6) (by omega) (fun p=>by have:=g p;omega) (bN c).length;have q:=lS (xOf d pl) (bN c) (s:=-1) (by omega) (fun p=>by have:=hx p;omega) (bN c).length;have j:=lS (yOf d pl) (bN c) (s:=-1) (by omega) (fun p=>by have:=g p;omega) (bN c).length;unfold p9;rw[e]at *;omega
theorem Jv{d:Dev}(hd:bQ d=true){pl:List Int}(h:uY d pl)(c:Cn) :
  p9 d pl c=kE (xOf d pl) (bN c) 0 (bN c).length-kD (xOf d pl) (bN c) d.W (bN c).length+kE (yOf d pl) (bN c) 0 (bN c).length-kD (yOf d pl) (bN c) d.H (bN c).length:=by
 obtain⟨q,z,j,u,_⟩:=ak hd
 have g:∀p,xOf d pl p<=d.W/\yOf d pl p<=d.H:=fun p=>by
  unfold xOf yOf Eg
  rcases Nat.lt_or_ge p.block.toNat pl.length with hb|hb
  ·rw[List.getElem?_eq_getElem hb,Option.getD_some];have:=jL (h _ (List.getElem_mem hb));omega
  rw[List.getElem?_eq_none hb,Option.getD_none];simp;omega
 have e:(bN c).length=c.sinks.length+1:=rfl;unfold p9
 rw[e,uu (xOf d pl) _ 6 d.W (fun p _=>by have:=h.xy hd p;have:=g p;omega) _ (by omega),uu (yOf d pl) _ 6 d.H (fun p _=>by have:=h.xy hd p;have:=g p;omega) _ (by omega),
  uw (xOf d pl) _ (-1) 0 (fun p _=>by have:=h.xy hd p;omega) _ (by omega),uw (yOf d pl) _ (-1) 0 (fun p _=>by have:=h.xy hd p;omega) _ (by omega)]
def lU(d:Dev)(pl:List Int)(cs:List Cn):Nat→Int
 | 0=>0
 | k+1=>lU d pl cs k+p9 d pl (cs[k]?.getD Cn.zero)
def ik(d:Dev)(pl:List Int)(cs:List Cn):Int:=lU d pl cs cs.length
theorem uD{d:Dev}(hd:bQ d=true){pl:List Int}(h:uY d pl)(cs:List Cn):∀k,0<=lU d pl cs k/\lU d pl cs k<=12*(k:Int)
 | 0=>by simp[lU]
 | k+1=>by
  have:=uD hd h cs k;have:=zH hd h (cs[k]?.getD Cn.zero);rw[lU];omega
/-! ### annealing -/
structure AnS where
 now:List Int
 cost:Int
 best:List Int
 least:Int
 heat:Int
 seed:Int
def anB(ks:List Int)(s:Int):Nat:=(dR s/256%(ks.length:Int)).toNat
def anT(d:Dev)(ks:List Int)(s:Int):Int:=(fq d (aW (ks[anB ks s]?.getD 0)))[(dR (dR s)/256%((fq d (aW (ks[anB ks s]?.getD 0))).length:Int)).toNat]?.getD 0
def anU(s:Int):Int:=dR (dR (dR s))/256%100
def anN(d:Dev)(ks:List Int)(a:AnS):List Int:=yJ a.now (anB ks a.seed) (anT d ks a.seed)
def anA(d:Dev)(ks:List Int)(cs:List Cn)(a:AnS):Prop:=ik d (anN d ks a) cs<=a.cost∨10000*(ik d (anN d ks a) cs-a.cost)<=a.heat*anU a.seed
instance (d:Dev) (ks:List Int) (cs:List Cn) (a:AnS):Decidable (anA d ks cs a):=by unfold anA;infer_instance
def anP(d:Dev)(ks:List Int)(cs:List Cn)(a:AnS):List Int×Int:=if anA d ks cs a then(anN d ks a,ik d (anN d ks a) cs)else(a.now,a.cost)
def anG(d:Dev)(ks:List Int)(cs:List Cn)(a:AnS):AnS :=
 ⟨(anP d ks cs a).1,(anP d ks cs a).2,if(anP d ks cs a).2<a.least then(anP d ks cs a).1 else a.best,if(anP d ks cs a).2<a.least then(anP d ks cs a).2 else a.least,a.heat*97/100,dR (dR (dR a.seed))⟩
def mD(d:Dev)(ks:List Int)(cs:List Cn)(p:List Int)(s:Int):Nat→AnS
 | 0=>⟨p,ik d p cs,p,ik d p cs,1200,s⟩
 | k+1=>anG d ks cs (mD d ks cs p s k)
def qM(d:Dev)(ks:List Int)(cs:List Cn)(p:List Int)(s:Int)(m:Nat):List Int:=if ks.length=0 then p else(mD d ks cs p s m).best
structure AnI(d:Dev)(ks:List Int)(cs:List Cn)(a:AnS):Prop where
 now:dA d ks a.now
 best:dA d ks a.best
 cost:a.cost=ik d a.now cs
 heat:0<=a.heat/\a.heat<=1200
theorem C9{ks:List Int}(h:0<ks.length)(s:Int):((anB ks s:Nat):Int)=dR s/256%(ks.length:Int)/\anB ks s<ks.length:=by
 have h1:=Int.emod_nonneg (dR s/256) (b:=(ks.length:Int)) (by omega);have h2:=Int.emod_lt_of_pos (dR s/256) (b:=(ks.length:Int)) (by omega);unfold anB;omega
theorem IK{d:Dev}{ks p:List Int}(hp:dA d ks p)(h:0<ks.length)(s:Int) :
  0<(fq d (aW (ks[anB ks s]?.getD 0))).length/\(dR (dR s)/256%((fq d (aW (ks[anB ks s]?.getD 0))).length:Int)).toNat<(fq d (aW (ks[anB ks s]?.getD 0))).length/\ai d (anT d ks s)=true/\ah d (anT d ks s)=aW (ks[anB ks s]?.getD 0):=by
 have hb:=(C9 h s).2;have h1:=(F5 hp.dev).2 (hp.tile _ hb);have h2:=List.length_pos_of_mem h1;have h3:=Int.emod_nonneg (dR (dR s)/256) (b:=((fq d (aW (ks[anB ks s]?.getD 0))).length:Int)) (by omega);have j:=Int.emod_lt_of_pos (dR (dR s)/256) (b:=((fq d (aW (ks[anB ks s]?.getD 0))).length:Int)) (by omega);have g:(dR (dR s)/256%((fq d (aW (ks[anB ks s]?.getD 0))).length:Int)).toNat<(fq d (aW (ks[anB ks s]?.getD 0))).length:=by omega
 refine⟨h2,g,?_⟩;unfold anT;rw[List.getElem?_eq_getElem g,Option.getD_some];exact qg (List.getElem_mem _)
theorem DC{d:Dev}{ks:List Int}{cs:List Cn}{a:AnS}(h:AnI d ks cs a)(hk:0<ks.length):dA d ks (anN d ks a):=by
 obtain⟨_,_,h3,g⟩:=IK h.now hk a.seed;exact K8 h.now (C9 hk _).2 h3 g
theorem M4{d:Dev}{ks:List Int}{cs:List Cn}{a:AnS}(h:AnI d ks cs a)(hk:0<ks.length):AnI d ks cs (anG d ks cs a):=by
 have hn:=DC h hk
 have hp:dA d ks (anP d ks cs a).1/\(anP d ks cs a).2=ik d (anP d ks cs a).1 cs:=by
  unfold anP
  split
  ·exact⟨hn,rfl⟩
  exact⟨h.now,h.cost⟩
 have g:=h.heat;refine⟨hp.1,?_,hp.2,?_⟩
 ·unfold anG;simp only
  split
  ·exact hp.1
  exact h.best
 unfold anG;simp only;omega
theorem vZ{d:Dev}{ks:List Int}{cs:List Cn}{p:List Int}(hp:dA d ks p)(hk:0<ks.length)(s:Int):∀k,AnI d ks cs (mD d ks cs p s k)
 | 0=>⟨hp,hp,rfl,by rw[mD];simp only;omega⟩
 | k+1=>M4 (vZ hp hk s k) hk
theorem LC{d:Dev}{ks:List Int}{cs:List Cn}{p:List Int}(hp:dA d ks p)(s:Int)(m:Nat):dA d ks (qM d ks cs p s m):=by
 unfold qM
 split
 ·exact hp
 exact(vZ hp (by omega) s m).best
open Go.RowKit
theorem vg(a b v:Int)(h:(if a<b then b else a)=v):Go.Builtin.max_ #[3,3] 3 #[.int .i64 a,.int .i64 b]=pure (.int .i64 v):=by
 rw[←h];rfl
theorem DD(d:Dev)(pl:List Int)(N a b:Int)(ss:List aL)(PA SA:Oh)(pn pc m mc:Nat)(w:World)(hp:bT w PA pn pl)(hd:bQ d=true)(ht:uY d pl)(cs:pn<=64)(hs:RdC w w.heap.size (aZ ss) (.slice SA m mc))(br:0<m)(hm:m<=120)(a2:∀p∈bN ⟨N,⟨a,b⟩,ss⟩,0<=p.block/\p.block<(pn:Int)) :
  Calls Tryz.prog 251 #[.agg (dv d),.slice PA pn pc,.agg #[.int .i64 N,.int .i64 a,.int .i64 b,.slice SA m mc]] w fun e w'=>e=.returned (.int .i64 (p9 d pl ⟨N,⟨a,b⟩,ss⟩))/\Below w.heap.size w w':=by
 have bY:=Hd (aB (aB (Below.refl w.heap.size w) (.cells (dv d) 36)) (.cells #[.int .i64 N,.int .i64 a,.int .i64 b,.slice SA m mc] 158));have aK:=Hd (dP (.cells #[.int .i64 N,.int .i64 a,.int .i64 b,.slice SA m mc] 158) (aG w (.cells (dv d) 36)));have ay:=aG (w.alloc (.cells (dv d) 36)) (.cells #[.int .i64 N,.int .i64 a,.int .i64 b,.slice SA m mc] 158);simp only[World.size_alloc]at ay;obtain⟨aO,HP⟩:=hd2 ay hp;have bu:Hv (pl.length=pn):=Hd<|hp.1
 obtain⟨HR,HD,bR,bl⟩:=hd4 hs hd ht a2;have a1:Hv ((bN ⟨N,⟨a,b⟩,ss⟩).length=1+m):=Hd<|by show _=_;unfold bN;rw[List.length_cons,hs.pinN];omega
 obtain⟨w1,w2,w3,w4,_⟩:=ak hd;obtain⟨R,hR⟩:∃R,p9 d pl ⟨N,⟨a,b⟩,ss⟩=R:=⟨_,rfl⟩;rw[hR];have bL:Hv (R=kE (xOf d pl) (bN ⟨N,⟨a,b⟩,ss⟩) (-1) (bN ⟨N,⟨a,b⟩,ss⟩).length-kD (xOf d pl) (bN ⟨N,⟨a,b⟩,ss⟩) 6 (bN ⟨N,⟨a,b⟩,ss⟩).length+kE (yOf d pl) (bN ⟨N,⟨a,b⟩,ss⟩) (-1) (bN ⟨N,⟨a,b⟩,ss⟩).length-kD (yOf d pl) (bN ⟨N,⟨a,b⟩,ss⟩) 6 (bN ⟨N,⟨a,b⟩,ss⟩).length):=Hd<|hR.symm
 have q:=Hd (fun p=>ht.xy hd p);clear hp hd ht hs a2 hR ay;go_enter Tryz.func251,Tryz.ntmps251;go_upto_region 1 with fail;obtain⟨gD,ax⟩:∃g,w.heap.size=g:=⟨_,rfl⟩;obtain⟨gC,aS⟩:∃g,gD+1=g:=⟨_,rfl⟩;generalize (w.alloc (.cells (dv d) 36)).alloc (.cells #[.int .i64 N,.int .i64 a,.int .i64 b,.slice SA m mc] 158)=W9 at *;rw[ax]at aK aO;rw[aS]at aO
 (try rw[ax])
 (try rw[aS])
 clear ax aS;obtain⟨x0,x1,x2,x3,lx⟩:=bA (aK.1);go_wp2_with fail;refine(eG d _).mono ?_;rw[HD.1];rintro _ wd ⟨rfl,aq⟩;have a4:=Hd (aA bY.1 aq);have bK:=Hd (aF aq aK.1);have bS:=Hd (aF aq aO.1);clear aq x0 x1 x2 x3 lx;go_upto_region 4 with fail;obtain⟨y0,y1,y2,y3,ly⟩:=bA (bS.1);go_wp2_with fail;refine(vJ N a b ss SA m mc _ (HR.1.below a4.1) br (by omega)).mono ?_;rintro _ w1 ⟨g,c,rfl,S1⟩;have bw:=Hd S1;have aV:=Hd (aA a4.1 S1.bel);have bm:=Hd (aF S1.bel bK.1);clear S1 y0 y1 y2 y3 ly;generalize bN ⟨N,⟨a,b⟩,ss⟩=j at *;go_wp2
 go_loopw[7,8,9,10,21] (fun lx hx ly hy i wr=>∃(k:Nat) (L1 V L2 I:Int),k<=1+m/\lx=.int .i64 L1/\hx=.int .i64 V/\ly=.int .i64 L2/\hy=.int .i64 I/\i=.int .i64 (k:Int)/\(kD (xOf d pl) j 6 k=L1/\kE (xOf d pl) j (-1) k=V/\kD (yOf d pl) j 6 k=L2/\kE (yOf d pl) j (-1) k=I)/\Below w1.heap.size w1 wr) (fun lx hx ly hy i _=>1+m-(intOf i).toNat)
 ·exact⟨0,_,_,_,_,by omega,rfl,rfl,rfl,rfl,rfl,⟨rfl,rfl,rfl,rfl⟩,Below.refl _ _⟩
 obtain⟨k,L1,V,L2,I,hk,rfl,rfl,rfl,rfl,rfl,hq,am⟩:=hrel;obtain⟨u,H⟩:=hd2 hq am;have ce:=Hd (aA aV.1 am);have bs:=Hd (aF am bm.1);clear hq am;by_cases bI:k<1+m
 ·have bB:decide ((k:Int)<((1+m:Nat):Int))=true:=by simp;omega
  have ap:k<j.length:=by rw[a1.1];exact bI
  have ah:=Hd (q.1 (j[k]?.getD aL.zero));have aU:=bl.1 _ (List.getElem_mem ap);rw[show j[k]=j[k]?.getD aL.zero by rw[List.getElem?_eq_getElem ap];rfl]at aU;have Z:=lQ (xOf d pl) j (s:=6) (by omega) (fun p=>by have:=q.1 p;omega) k;have U:=lQ (yOf d pl) j (s:=6) (by omega) (fun p=>by have:=q.1 p;omega) k;have J:=lS (xOf d pl) j (s:=(-1)) (by omega) (fun p=>by have:=q.1 p;omega) k;have Q:=lS (yOf d pl) j (s:=(-1)) (by omega) (fun p=>by have:=q.1 p;omega) k;rw[u.1.1]at Z;rw[u.1.2.1]at J;rw[u.1.2.2.1]at U;rw[u.1.2.2.2]at Q
  have D:Hv (kD (xOf d pl) j 6 (k+1)=min L1 (xOf d pl (j[k]?.getD aL.zero))/\kE (xOf d pl) j (-1) (k+1)=max V (xOf d pl (j[k]?.getD aL.zero))/\kD (yOf d pl) j 6 (k+1)=min L2 (yOf d pl (j[k]?.getD aL.zero))/\kE (yOf d pl) j (-1) (k+1)=max I (yOf d pl (j[k]?.getD aL.zero))) :=Hd<|
   ⟨by rw[kD,u.1.1],by rw[kE,u.1.2.1],by rw[kD,u.1.2.2.1],by rw[kE,u.1.2.2.2]⟩
  obtain⟨bp,op,hA,aw,c0,c1⟩:=(bw.1.rd 0 rfl).pin (k:=k) ap;injection hA with hA
  injection hA with hA hF
  subst hA hF;rw[Nat.zero_add]at c0 c1;obtain⟨B,hB⟩:∃B:Nat,(j[k]?.getD aL.zero).block=(B:Int):=⟨_,(Int.toNat_of_nonneg aU.1).symm⟩;have aY:B<pn:=by omega
  have aE:Hv (Eg pl (j[k]?.getD aL.zero)=pl[B]?.getD 0):=Hd<|by show _=_;unfold Eg;rw[hB,Int.toNat_natCast]
  have az:ai d (pl[B]?.getD 0)=true:=by
   rw[List.getElem?_eq_getElem (show B<pl.length by rw[bu.1];exact aY)];exact bR.1 _ (List.getElem_mem _)
  obtain⟨_,t0,t1⟩:=aP.1 az;have cv:=(eu HD.1).2;have bC:=Hd az;have aW:Hv (xOf d pl (j[k]?.getD aL.zero)=pl[B]?.getD 0%d.W):=Hd<|by show _=_;unfold xOf;rw[aE.1]
  have bb:Hv (yOf d pl (j[k]?.getD aL.zero)=pl[B]?.getD 0/d.W):=Hd<|by show _=_;unfold yOf;rw[aE.1]
  obtain⟨pb,po,a5,aX,aj⟩:=HP.1.2 (by omega);have aj:=aj B aY;rw[hB]at c0;clear ap aU hB az;generalize j[k]?.getD aL.zero=p at *;generalize pl[B]?.getD 0=t at *;rw[aW.1,bb.1]at D ah;have q0:¬d.W=0:=by omega
  have q1:t.tmod d.W=t%d.W:=Int.tmod_eq_emod_of_nonneg t0;have q2:IntKind.i64.wrap (t.tdiv d.W)=t/d.W:=IntWalk.i64_quo _ _ ⟨t0,by omega,by omega⟩;obtain⟨X,hX⟩:∃z,t%d.W=z:=⟨_,rfl⟩;obtain⟨Y,hY⟩:∃z,t/d.W=z:=⟨_,rfl⟩;rw[hX]at q1 D ah;rw[hY]at q2 D ah;clear hX hY aW bb aE;obtain⟨⟨cf,cj⟩,cu,cq⟩:=ah.1;obtain⟨Z,b4⟩:=Z;obtain⟨U,cd⟩:=U;obtain⟨J,ca⟩:=J;obtain⟨Q,b7⟩:=Q;have i0:(0:Int)<=(k:Int):=by omega
  have i1:(k:Int)<((1+m:Nat):Int):=by omega
  obtain⟨B0,B1⟩:=ib (by omega:B<pn);have bM:=Hd a5;clear a5;obtain⟨v1,aI⟩:∃v,min L1 X=v:=⟨_,rfl⟩;obtain⟨v2,ag⟩:∃v,max V X=v:=⟨_,rfl⟩;obtain⟨v3,aN⟩:∃v,min L2 Y=v:=⟨_,rfl⟩;obtain⟨v4,af⟩:∃v,max I Y=v:=⟨_,rfl⟩;have g1:(if X<L1 then X else L1)=v1:=by rw[←aI];split <;> omega
  have g2:(if X>V then X else V)=v2:=by rw[←ag];split <;> omega
  have g3:(if Y<L2 then Y else L2)=v3:=by rw[←aN];split <;> omega
  have g4:(if Y>I then Y else I)=v4:=by rw[←af];split <;> omega
  have g5:(if V<X then X else V)=v2:=by rw[←ag];split <;> omega
  have g6:(if I<Y then Y else I)=v4:=by rw[←af];split <;> omega
  have e1:=qw L1 X v1 g1;have e2:=vg V X v2 g5;have e3:=qw L2 Y v3 g3;have e4:=vg I Y v4 g6;obtain⟨bF,bz,bo,bU⟩:=hd4 aI ag aN af;clear aI ag aN af;have c0:=(H.1.cell (p:=⟨g,k*2,none⟩) aw).trans c0;have bJ:=(H.1.cell (p:=⟨g,k*2+1,none⟩) aw).trans c1;have bx:=aJ H.1 aw;have a7:=Hd (aB H.1 (.cells #[.int .i64 (B:Int),.int .i64 p.pin] 100));have HZ:=Hd (aG wr (.cells #[.int .i64 (B:Int),.int .i64 p.pin] 100));have K:=Hd (dP (.cells #[.int .i64 (B:Int),.int .i64 p.pin] 100) bs.1);have a6:=Hd (aA aV.1 a7.1);obtain rfl:=bM.1;clear c1;go_upto_region 7 with fail;obtain⟨gZ,aD⟩:∃g,wr.heap.size=g:=⟨_,rfl⟩;rw[aD]at HZ
  (try rw[aD])
  clear aD c0 bJ bx;generalize wr.alloc (.cells #[.int .i64 (B:Int),.int .i64 p.pin] 100)=W6 at *;have G:Hv (∀w',Below W6.heap.size W6 w'→(KD w' gD d (w'.cell? ⟨gZ,0,none⟩=some (.int .i64 (B:Int))/\w'.cell? ⟨pb,po+B,none⟩=some (.int .i64 t)))):=Hd<|fun v hv=>⟨aC (k:=0) (aF hv K.1) rfl,aC (k:=1) (aF hv K.1) rfl,aC (k:=2) (aF hv K.1) rfl,aC (k:=3) (aF hv K.1) rfl,aC (k:=0) (aF hv HZ.1) rfl,((aA a6.1 hv).cell (p:=⟨pb,po+B,none⟩) aX).trans aj⟩
  have av:Hv (∀w',Below W6.heap.size W6 w'→gD<w'.heap.size/\gZ<w'.heap.size/\pb<w'.heap.size):=Hd<|fun v hv=>⟨aJ hv (aH K.1),aJ hv (aH HZ.1),aJ (aA a6.1 hv) aX⟩
  have bO:Hv (∀x:World,Calls Tryz.prog 93 #[.int .i64 (B:Int),.int .i64 0,.int .i64 ((pn:Int)-1)] x fun e w'=>e=.returned (.bool true)/\x=w'):=Hd<|fun x=>by
   have h:=aM (B:Int) 0 ((pn:Int)-1) x;rw[aR.2 ⟨by omega,by omega⟩]at h;exact h
  have bW:Hv (∀x:World,Calls Tryz.prog 216 #[.agg (dv d),.int .i64 t] x fun e w'=>e=.returned (.bool true)/\Below x.heap.size x w'):=Hd<|fun x=>by
   have h:=pJ d t x;rw[bC.1]at h;exact h
  obtain⟨x0,x1,x2,x3,z0,cp⟩:=G.1 _ (Below.refl _ _);obtain⟨lx,lz,lp⟩:=av.1 _ (Below.refl _ _);have hD:=(Below.refl W6.heap.size W6).drew;have ct:IntKind.i64.wrap ((pn:Int)-1)=(pn:Int)-1:=IntWalk.i64_in _ (by omega);clear aj
  go_cut[41] (fun v w'=>v=.bool false/\Below W6.heap.size W6 w')
  case first =>
   go_region_held3 (fun w'=>KD w' gD d (w'.cell? ⟨gZ,0,none⟩=some (.int .i64 (B:Int))/\w'.cell? ⟨pb,po+B,none⟩=some (.int .i64 t)))
    (first|with_reducible exact G.1 _ hD)
    ((first
     | (go_at_call 93;(with_reducible refine(bO.1 _).mono ?_);rintro _ wi ⟨rfl,rfl⟩)
     | (go_at_call 216;(with_reducible refine(bW.1 _).mono ?_);rintro _ w5 ⟨rfl,b5⟩;replace hD:=aA hD b5;clear b5)))
   all_goals
    go_wp2;go_meet;exact⟨rfl,hD⟩
  obtain⟨rfl,hb⟩:=hcut;clear x0 x1 x2 x3 lx z0 lz cp lp;obtain⟨x0,x1,x2,x3,z0,cp⟩:=G.1 _ hb;obtain⟨lx,lz,lp⟩:=av.1 _ hb;have bD:=Hd (aA a7.1 hb);clear hb;go_upto_region 9 with fail
  go_quiet (fail)
  clear x0 x1 x2 x3 lx z0 lz cp lp q1 q2;go_wp2;go_roundw
  ·exact⟨k+1,v1,v2,v3,v4,by omega,rfl,rfl,rfl,rfl,by go_num,⟨by rw[D.1.1,bF.1],by rw[D.1.2.1,bz.1],by rw[D.1.2.2.1,bo.1],by rw[D.1.2.2.2,bU.1]⟩,ae bD.1 _⟩
  simp[intOf];omega
 have a0:k=1+m:=by omega
 have bB:decide ((k:Int)<((1+m:Nat):Int))=false:=by simp;omega
 have Z:=lQ (xOf d pl) j (s:=6) (by omega) (fun p=>by have:=q.1 p;omega) k;have U:=lQ (yOf d pl) j (s:=6) (by omega) (fun p=>by have:=q.1 p;omega) k;have J:=lS (xOf d pl) j (s:=-1) (by omega) (fun p=>by have:=q.1 p;omega) k;have Q:=lS (yOf d pl) j (s:=-1) (by omega) (fun p=>by have:=q.1 p;omega) k;rw[u.1.1]at Z;rw[u.1.2.1]at J;rw[u.1.2.2.1]at U;rw[u.1.2.2.2]at Q
 have HV:Hv (V-L1+I-L2=R):=Hd<|by
  show _=_;rw[bL.1,a1.1,←a0,u.1.1,u.1.2.1,u.1.2.2.1,u.1.2.2.2]
 clear a0;go_wp2;go_ret;exact⟨aQ HV.1,aA aV.1 H.1⟩
theorem Ai(d:Dev)(pl:List Int)(N a b:Int)(ss:List aL)(PA SA:Oh)(pn pc m mc:Nat)(w:World)(hp:bT w PA pn pl)(hd:bQ d=true)(ht:uY d pl)(cm:pn<=64)(hs:RdC w w.heap.size (aZ ss) (.slice SA m mc))(br:0<m)(hm:m<=120)(a7:∀p∈bN ⟨N,⟨a,b⟩,ss⟩,0<=p.block/\p.block<(pn:Int)) :
  Calls Tryz.prog 244 #[.agg (dv d),.slice PA pn pc,.agg #[.int .i64 N,.int .i64 a,.int .i64 b,.slice SA m mc]] w fun e w'=>e=.returned (.int .i64 (p9 d pl ⟨N,⟨a,b⟩,ss⟩))/\Below w.heap.size w w':=by
 have bP:=Hd (aB (aB (Below.refl w.heap.size w) (.cells (dv d) 36)) (.cells #[.int .i64 N,.int .i64 a,.int .i64 b,.slice SA m mc] 158));have aS:=Hd (dP (.cells #[.int .i64 N,.int .i64 a,.int .i64 b,.slice SA m mc] 158) (aG w (.cells (dv d) 36)));have aK:=aG (w.alloc (.cells (dv d) 36)) (.cells #[.int .i64 N,.int .i64 a,.int .i64 b,.slice SA m mc] 158);simp only[World.size_alloc]at aK;obtain⟨aU,HP⟩:=hd2 aK hp;have bt:Hv (pl.length=pn):=Hd<|hp.1
 obtain⟨HR,HD,bJ,bn⟩:=hd4 hs hd ht a7;have a6:Hv ((bN ⟨N,⟨a,b⟩,ss⟩).length=1+m):=Hd<|by show _=_;unfold bN;rw[List.length_cons,hs.pinN];omega
 obtain⟨w1,w2,w3,w4,_⟩:=ak hd;obtain⟨R,hR⟩:∃R,p9 d pl ⟨N,⟨a,b⟩,ss⟩=R:=⟨_,rfl⟩;rw[hR];have bH:Hv (R=kE (xOf d pl) (bN ⟨N,⟨a,b⟩,ss⟩) 0 (bN ⟨N,⟨a,b⟩,ss⟩).length-kD (xOf d pl) (bN ⟨N,⟨a,b⟩,ss⟩) d.W (bN ⟨N,⟨a,b⟩,ss⟩).length+kE (yOf d pl) (bN ⟨N,⟨a,b⟩,ss⟩) 0 (bN ⟨N,⟨a,b⟩,ss⟩).length-kD (yOf d pl) (bN ⟨N,⟨a,b⟩,ss⟩) d.H (bN ⟨N,⟨a,b⟩,ss⟩).length):=Hd<|hR.symm.trans (Jv hd ht _)
 have q:=Hd (fun p=>ht.xy hd p);clear hp hd ht hs a7 hR aK;go_enter Tryz.func244,Tryz.ntmps244;go_upto_region 1 with fail;obtain⟨gD,aI⟩:∃g,w.heap.size=g:=⟨_,rfl⟩;obtain⟨gC,aV⟩:∃g,gD+1=g:=⟨_,rfl⟩;generalize (w.alloc (.cells (dv d) 36)).alloc (.cells #[.int .i64 N,.int .i64 a,.int .i64 b,.slice SA m mc] 158)=W9 at *;rw[aI]at aS aU;rw[aV]at aU
 (try rw[aI])
 (try rw[aV])
 clear aI aV;obtain⟨x0,x1,x2,x3,I⟩:=bA (aS.1);go_wp2_with fail;refine(dw d _).mono ?_;rw[HD.1];rintro _ wd ⟨rfl,ay⟩;have a8:=Hd (aA bP.1 ay);have bb:=Hd (aF ay aS.1);have bK:=Hd (aF ay aU.1);clear ay x0 x1 x2 x3 I;go_upto_region 3 with fail;obtain⟨y0,y1,y2,y3,ly⟩:=bA (bK.1);obtain⟨x0,x1,x2,x3,I⟩:=bA (bb.1);have bc:=(aD.nil (Below.refl wd.heap.size wd)).consPins1 a b
 go_upto_region 4 with(at_builtin;refine tJ rfl _ _ rfl _ bc 0 1 1 m mc _ SA [⟨a,b⟩] ss rfl rfl rfl (HR.1.below (aA a8.1 bc.bel)) br (by omega) ?_;intro g c w1 S9 ci;have aN:=Hd (show aD wd w1 [.cel (aZ (bN ⟨N,⟨a,b⟩,ss⟩)) (.slice (some ⟨g,0,none⟩) (1+m) c)] from S9);clear S9)
 have be:=Hd (aA a8.1 aN.1.bel);have a4:=Hd (aF aN.1.bel bb.1);clear y0 y1 y2 y3 ly x0 x1 x2 x3 I;obtain⟨x0,x1,x2,x3,I⟩:=bA (a4.1);generalize bN ⟨N,⟨a,b⟩,ss⟩=j at *;go_wp2_with fail;clear x0 x1 x2 x3 I
 go_loopw[8,9,10,11,12] (fun I hx ly hy i wr=>∃(k:Nat) (L1 Z L2 K:Int),k<=1+m/\I=.int .i64 L1/\hx=.int .i64 Z/\ly=.int .i64 L2/\hy=.int .i64 K/\i=.int .i64 (k:Int)/\(kD (xOf d pl) j d.W k=L1/\kE (xOf d pl) j 0 k=Z/\kD (yOf d pl) j d.H k=L2/\kE (yOf d pl) j 0 k=K)/\Below w1.heap.size w1 wr) (fun I hx ly hy i _=>1+m-(intOf i).toNat)
 ·exact⟨0,_,_,_,_,by omega,rfl,rfl,rfl,rfl,rfl,⟨rfl,rfl,rfl,rfl⟩,Below.refl _ _⟩
 obtain⟨k,L1,Z,L2,K,hk,rfl,rfl,rfl,rfl,rfl,hq,aq⟩:=hrel;obtain⟨u,af⟩:=hd2 hq aq;have aY:=Hd (aA be.1 aq);have J:=Hd (aF aq a4.1);clear hq aq;by_cases bG:k<1+m
 ·have bz:decide ((k:Int)<((1+m:Nat):Int))=true:=by simp;omega
  have aw:k<j.length:=by rw[a6.1];exact bG
  have am:=Hd (q.1 (j[k]?.getD aL.zero));have aX:=bn.1 _ (List.getElem_mem aw);rw[show j[k]=j[k]?.getD aL.zero by rw[List.getElem?_eq_getElem aw];rfl]at aX;have ad:=lQ (xOf d pl) j (s:=d.W) (by omega) (fun p=>by have:=q.1 p;omega) k;have V:=lQ (yOf d pl) j (s:=d.H) (by omega) (fun p=>by have:=q.1 p;omega) k;have Q:=lS (xOf d pl) j (s:=0) (by omega) (fun p=>by have:=q.1 p;omega) k;have U:=lS (yOf d pl) j (s:=0) (by omega) (fun p=>by have:=q.1 p;omega) k;rw[u.1.1]at ad;rw[u.1.2.1]at Q;rw[u.1.2.2.1]at V;rw[u.1.2.2.2]at U
  have D:Hv (kD (xOf d pl) j d.W (k+1)=min L1 (xOf d pl (j[k]?.getD aL.zero))/\kE (xOf d pl) j 0 (k+1)=max Z (xOf d pl (j[k]?.getD aL.zero))/\kD (yOf d pl) j d.H (k+1)=min L2 (yOf d pl (j[k]?.getD aL.zero))/\kE (yOf d pl) j 0 (k+1)=max K (yOf d pl (j[k]?.getD aL.zero))) :=Hd<|
   ⟨by rw[kD,u.1.1],by rw[kE,u.1.2.1],by rw[kD,u.1.2.2.1],by rw[kE,u.1.2.2.2]⟩
  obtain⟨bp,op,hA,a0,c0,c1⟩:=(aN.1.rd 0 rfl).pin (k:=k) aw;injection hA with hA
  injection hA with hA hF
  subst hA hF;rw[Nat.zero_add]at c0 c1;obtain⟨B,hB⟩:∃B:Nat,(j[k]?.getD aL.zero).block=(B:Int):=⟨_,(Int.toNat_of_nonneg aX.1).symm⟩;have a3:B<pn:=by omega
  have aO:Hv (Eg pl (j[k]?.getD aL.zero)=pl[B]?.getD 0):=Hd<|by show _=_;unfold Eg;rw[hB,Int.toNat_natCast]
  have aM:ai d (pl[B]?.getD 0)=true:=by
   rw[List.getElem?_eq_getElem (show B<pl.length by rw[bt.1];exact a3)];exact bJ.1 _ (List.getElem_mem _)
  obtain⟨_,t0,t1⟩:=aP.1 aM;have cq:=(eu HD.1).2;have bB:=Hd aM;have a1:Hv (xOf d pl (j[k]?.getD aL.zero)=pl[B]?.getD 0%d.W):=Hd<|by show _=_;unfold xOf;rw[aO.1]
  have bd:Hv (yOf d pl (j[k]?.getD aL.zero)=pl[B]?.getD 0/d.W):=Hd<|by show _=_;unfold yOf;rw[aO.1]
  obtain⟨pb,po,a9,a2,ao⟩:=HP.1.2 (by omega);have ao:=ao B a3;rw[hB]at c0;clear aw aX hB aM;generalize j[k]?.getD aL.zero=p at *;generalize pl[B]?.getD 0=t at *;rw[a1.1,bd.1]at D am;have q0:¬d.W=0:=by omega
  have q1:t.tmod d.W=t%d.W:=Int.tmod_eq_emod_of_nonneg t0;have q2:IntKind.i64.wrap (t.tdiv d.W)=t/d.W:=IntWalk.i64_quo _ _ ⟨t0,by omega,by omega⟩;obtain⟨X,hX⟩:∃z,t%d.W=z:=⟨_,rfl⟩;obtain⟨Y,hY⟩:∃z,t/d.W=z:=⟨_,rfl⟩;rw[hX]at q1 D am;rw[hY]at q2 D am;clear hX hY a1 bd aO;obtain⟨⟨b7,cb⟩,co,ch⟩:=am.1;obtain⟨ad,bX⟩:=ad;obtain⟨V,b6⟩:=V;obtain⟨Q,b2⟩:=Q;obtain⟨U,bZ⟩:=U;have i0:(0:Int)<=(k:Int):=by omega
  have i1:(k:Int)<((1+m:Nat):Int):=by omega
  obtain⟨B0,B1⟩:=ib (by omega:B<pn);have bI:=Hd a9;clear a9;obtain⟨v1,aR⟩:∃v,min L1 X=v:=⟨_,rfl⟩;obtain⟨v2,al⟩:∃v,max Z X=v:=⟨_,rfl⟩;obtain⟨v3,aT⟩:∃v,min L2 Y=v:=⟨_,rfl⟩;obtain⟨v4,ag⟩:∃v,max K Y=v:=⟨_,rfl⟩;have g1:(if X<L1 then X else L1)=v1:=by rw[←aR];split <;> omega
  have g2:(if X>Z then X else Z)=v2:=by rw[←al];split <;> omega
  have g3:(if Y<L2 then Y else L2)=v3:=by rw[←aT];split <;> omega
  have g4:(if Y>K then Y else K)=v4:=by rw[←ag];split <;> omega
  have g5:(if Z<X then X else Z)=v2:=by rw[←al];split <;> omega
  have g6:(if K<Y then Y else K)=v4:=by rw[←ag];split <;> omega
  have e1:=qw L1 X v1 g1;have e2:=vg Z X v2 g5;have e3:=qw L2 Y v3 g3;have e4:=vg K Y v4 g6;obtain⟨bE,bx,bq,bL⟩:=hd4 aR al aT ag;clear aR al aT ag;have c0:=(af.1.cell (p:=⟨g,k*2,none⟩) a0).trans c0;have bv:=aJ af.1 a0;obtain rfl:=bI.1;clear c1;go_upto_region 12 with fail;clear c0 bv;have G:Hv (∀w',Below wr.heap.size wr w'→(KD w' gD d (w'.cell? ⟨pb,po+B,none⟩=some (.int .i64 t)))):=Hd<|fun v hv=>⟨aC (k:=0) (aF hv J.1) rfl,aC (k:=1) (aF hv J.1) rfl,aC (k:=2) (aF hv J.1) rfl,aC (k:=3) (aF hv J.1) rfl,((aA aY.1 hv).cell (p:=⟨pb,po+B,none⟩) a2).trans ao⟩
  have aE:Hv (∀w',Below wr.heap.size wr w'→gD<w'.heap.size/\pb<w'.heap.size):=Hd<|fun v hv=>⟨aJ hv (aH J.1),aJ (aA aY.1 hv) a2⟩
  have bM:Hv (∀x:World,Calls Tryz.prog 113 #[.agg (dv d),.int .i64 t] x fun e w'=>e=.returned (.int .i64 (ah d t))/\Below x.heap.size x w'):=Hd<|fun x=>by
   have h:=lH d t x;rw[show lK d t=ah d t from if_pos bB.1]at h;exact h
  have cs:=qZ d t;generalize ah d t=kd at *;have dk:decide (kd<0)=false:=decide_eq_false (by omega);have cj:decide ((B:Int)<0)=false:=by simp
  have cn:decide ((B:Int)≥(pn:Int))=false:=by simp;omega
  have ck:decide (pn<=B)=false:=by simp;omega
  obtain⟨x0,x1,x2,x3,cp⟩:=G.1 _ (Below.refl _ _);obtain⟨I,lp⟩:=aE.1 _ (Below.refl _ _);have hD:=(Below.refl wr.heap.size wr).drew;clear ao
  go_cut[54] (fun v w'=>v=.bool false/\Below wr.heap.size wr w')
  case first =>
   go_region_held3 (fun w'=>KD w' gD d (w'.cell? ⟨pb,po+B,none⟩=some (.int .i64 t)))
    (first|with_reducible exact G.1 _ hD)
    ((first
     | (go_at_call 113;(with_reducible refine(bM.1 _).mono ?_);rintro _ w5 ⟨rfl,b5⟩;replace hD:=aA hD b5;clear b5)))
   all_goals
    go_wp2;go_meet;exact⟨rfl,hD⟩
  obtain⟨rfl,hb⟩:=hcut;clear x0 x1 x2 x3 I cp lp;obtain⟨x0,x1,x2,x3,cp⟩:=G.1 _ hb;obtain⟨I,lp⟩:=aE.1 _ hb;have bC:=Hd (aA af.1 hb);clear hb;go_upto_region 14 with fail
  go_quiet (fail)
  go_upto_region 15 with fail
  go_quiet (fail)
  go_upto_region 16 with fail
  go_quiet (fail)
  go_upto_region 17 with fail
  go_quiet (fail)
  clear x0 x1 x2 x3 I cp lp q1 q2;go_wp2;go_roundw
  ·exact⟨k+1,v1,v2,v3,v4,by omega,rfl,rfl,rfl,rfl,by go_num,⟨by rw[D.1.1,bE.1],by rw[D.1.2.1,bx.1],by rw[D.1.2.2.1,bq.1],by rw[D.1.2.2.2,bL.1]⟩,ae bC.1 _⟩
  simp[intOf];omega
 have a5:k=1+m:=by omega
 have bz:decide ((k:Int)<((1+m:Nat):Int))=false:=by simp;omega
 have ad:=lQ (xOf d pl) j (s:=d.W) (by omega) (fun p=>by have:=q.1 p;omega) k;have V:=lQ (yOf d pl) j (s:=d.H) (by omega) (fun p=>by have:=q.1 p;omega) k;have Q:=lS (xOf d pl) j (s:=0) (by omega) (fun p=>by have:=q.1 p;omega) k;have U:=lS (yOf d pl) j (s:=0) (by omega) (fun p=>by have:=q.1 p;omega) k;rw[u.1.1]at ad;rw[u.1.2.1]at Q;rw[u.1.2.2.1]at V;rw[u.1.2.2.2]at U
 have HV:Hv (Z-L1+K-L2=R):=Hd<|by
  show _=_;rw[bH.1,a6.1,←a5,u.1.1,u.1.2.1,u.1.2.2.1,u.1.2.2.2]
 clear a5;go_wp2;go_ret;exact⟨aQ HV.1,aA be.1 af.1⟩
theorem uZ(d:Dev)(pl:List Int)(cs:List Cn)(PA CA:Oh)(pn pc cn cc:Nat)(w:World)(hp:bT w PA pn pl)(hC:RdC w w.heap.size (bL cs) (.slice CA cn cc))(hd:bQ d=true)(ht:uY d pl)(B:dW (pn:Int) cs) :
  Calls Tryz.prog 185 #[.agg (dv d),.slice PA pn pc,.slice CA cn cc] w fun e w'=>e=.returned (.int .i64 (ik d pl cs))/\Below w.heap.size w w':=by
 have ai:=Hd (aB (Below.refl w.heap.size w) (.cells (dv d) 36));have av:=Hd (aG w (.cells (dv d) 36));obtain⟨HP,HC⟩:=hd2 hp hC;have H:Hv (cs.length=cn):=Hd<|hC.cnN
 have ay:cn<=100:=by rw[←H.1];exact B.len
 have aL:pn<=64:=by have:=B.blocks;omega
 obtain⟨HD,ad,D⟩:=hd3 hd ht B;obtain⟨R,hR⟩:∃R,ik d pl cs=R:=⟨_,rfl⟩;rw[hR];have aC:Hv (R=lU d pl cs cs.length):=Hd<|hR.symm
 have aw:=Hd (uD hd ht cs);clear hp hC hd ht B hR;go_enter Tryz.func185,Tryz.ntmps185;go_upto_region 1 with fail;generalize w.alloc (.cells (dv d) 36)=W9 at *;go_wp2_with fail;refine(qD (pn:Int) cs CA cn cc _ (HC.1.below ai.1) (fun c hc=>by have:=(D.1.fit c hc).len;omega)).mono ?_;rw[bZ D.1];rintro _ w1 ⟨rfl,b1⟩;have Q:=Hd (aA ai.1 b1);have al:=Hd (aF b1 av.1);clear b1;go_wp2
 go_loopw[7,18] (fun v i wr=>∃(k:Nat) (C:Int),k<=cn/\v=.int .i64 C/\i=.int .i64 (k:Int)/\lU d pl cs k=C/\Below w1.heap.size w1 wr) (fun _ i _=>cn-(intOf i).toNat)
 ·exact⟨0,0,by omega,rfl,rfl,rfl,Below.refl _ _⟩
 obtain⟨k,C,hk,rfl,rfl,hq,z⟩:=hrel;obtain⟨HQ,ao⟩:=hd2 hq z;have q:=Hd (aA Q.1 z);have aq:=Hd (aF z al.1);have V:=aw.1 k;rw[hq]at V;obtain⟨aU,aS⟩:=V;clear hq z;by_cases ax:k<cn
 ·have au:=dT (by omega:k<cn);have K:k<cs.length:=by rw[H.1];exact ax
  have Z:Hv (lU d pl cs (k+1)=C+p9 d pl (cs[k]?.getD Cn.zero)):=Hd<|by show _=_;rw[lU,HQ.1]
  obtain⟨bc,oc,SA,m,J,ah,u,c0,c1,c2,c3,rs⟩:=HC.1.cn (k:=k) K;have j:=wE D.1 K;have ag:=zH HD.1 ad.1 (cs[k]?.getD Cn.zero);have am:=Hd ah
  have ak:Hv (∀p∈bN (cs[k]?.getD Cn.zero),0<=p.block/\p.block<(pn:Int)):=Hd<|fun p hp=>by
   unfold bN at hp;rw[List.mem_cons]at hp
   rcases hp with rfl|hp
   ·exact j.src.1
   exact(j.sinks p hp).1
  have G:=j.len;clear K ah j;obtain rfl:=am.1;have c0:=(q.1.cell (p:=⟨bc,oc+k*4,none⟩) u).trans c0;have c1:=(q.1.cell (p:=⟨bc,oc+k*4+1,none⟩) u).trans c1;have c2:=(q.1.cell (p:=⟨bc,oc+k*4+2,none⟩) u).trans c2;have c3:=(q.1.cell (p:=⟨bc,oc+k*4+3,none⟩) u).trans c3;have aM:=aJ q.1 u;generalize cs[k]?.getD Cn.zero=cx at *;obtain⟨N,⟨a,b⟩,ss⟩:=cx;simp only at c0 c1 c2 c3 G;have W:=Hd (show RdC w w.heap.size (aZ ss) (.slice SA m J) from rs);have ae:ss.length=m:=W.1.pinN;rw[ae]at G;obtain⟨aW,aI⟩:=G;obtain⟨S,hS⟩:∃S,p9 d pl ⟨N,⟨a,b⟩,ss⟩=S:=⟨_,rfl⟩
  have aE:Hv (∀v,Below w1.heap.size w1 v→Calls Tryz.prog 251 #[.agg (dv d),.slice PA pn pc,.agg #[.int .i64 N,.int .i64 a,.int .i64 b,.slice SA m J]] v fun e w'=>e=.returned (.int .i64 S)/\Below v.heap.size v w'):=Hd<|fun v hv=>by
   have h:=DD d pl N a b ss PA SA pn pc m J v (HP.1.below (aA Q.1 hv)) HD.1 ad.1 aL (W.1.below (aA Q.1 hv)) (by omega) aI ak.1;rw[hS]at h;exact h
  rw[hS]at ag Z;obtain⟨a4,a6⟩:=ag;obtain⟨i0,i1⟩:=ib (by omega:k<cn);have dS:decide (S<0)=false:=decide_eq_false (by omega);clear rs hS ae;have Y:=Hd (aB ao.1 (.cells #[.int .i64 N,.int .i64 a,.int .i64 b,.slice SA m J] 158));have aD:=Hd (dP (.cells #[.int .i64 N,.int .i64 a,.int .i64 b,.slice SA m J] 158) aq.1);have af:=Hd (aG wr (.cells #[.int .i64 N,.int .i64 a,.int .i64 b,.slice SA m J] 158));go_upto_region 7 with fail;obtain⟨gC,I⟩:∃g,wr.heap.size=g:=⟨_,rfl⟩;rw[I]at af
  (try rw[I])
  clear I c0 c1 c2 c3 aM;generalize wr.alloc (.cells #[.int .i64 N,.int .i64 a,.int .i64 b,.slice SA m J] 158)=W6 at *;obtain⟨x0,x1,x2,x3,lx⟩:=bA (aD.1);obtain⟨y0,y1,y2,y3,ly⟩:=bA (af.1);go_wp2_with fail;refine(aE.1 _ Y.1).mono ?_;rintro _ w8 ⟨rfl,b8⟩;have ap:=Hd (aA Y.1 b8);clear b8 x0 x1 x2 x3 lx y0 y1 y2 y3 ly;go_wp2;go_roundw
  ·exact⟨k+1,C+S,by omega,rfl,by go_num,Z.1,ap.1⟩
  simp[intOf];omega
 have U:k=cn:=by omega
 have au:=dF (by omega:cn<=k);have HV:Hv (C=R):=Hd<|by show _=_;rw[aC.1,H.1,←U,HQ.1]
 clear U;go_wp2;go_ret;exact⟨aQ HV.1,q.1⟩
theorem sP(d:Dev)(pl:List Int)(cs:List Cn)(PA CA:Oh)(pn pc cn cc:Nat)(w:World)(hp:bT w PA pn pl)(hC:RdC w w.heap.size (bL cs) (.slice CA cn cc))(hd:bQ d=true)(ht:uY d pl)(H:dW (pn:Int) cs) :
  Calls Tryz.prog 164 #[.agg (dv d),.slice PA pn pc,.slice CA cn cc] w fun e w'=>e=.returned (.int .i64 (ik d pl cs))/\Below w.heap.size w w':=by
 have ak:=Hd (aB (Below.refl w.heap.size w) (.cells (dv d) 36));have av:=Hd (aG w (.cells (dv d) 36));obtain⟨HP,HC⟩:=hd2 hp hC;have K:Hv (cs.length=cn):=Hd<|hC.cnN
 have ay:cn<=100:=by rw[←K.1];exact H.len
 have aM:pn<=64:=by have:=H.blocks;omega
 obtain⟨HD,af,I⟩:=hd3 hd ht H;obtain⟨R,hR⟩:∃R,ik d pl cs=R:=⟨_,rfl⟩;rw[hR];have aD:Hv (R=lU d pl cs cs.length):=Hd<|hR.symm
 have aw:=Hd (uD hd ht cs);clear hp hC hd ht H hR;go_enter Tryz.func164,Tryz.ntmps164;go_upto_region 1 with fail;generalize w.alloc (.cells (dv d) 36)=W9 at *;go_wp2_with fail;refine(nZ (pn:Int) cs CA cn cc _ (HC.1.below ak.1) (fun c hc=>by have:=(I.1.fit c hc).len;omega)).mono ?_;rw[bZ I.1];rintro _ w1 ⟨rfl,b1⟩;have U:=Hd (aA ak.1 b1);have ao:=Hd (aF b1 av.1);clear b1;go_wp2
 go_loopw[7,8] (fun v i wr=>∃(k:Nat) (C:Int),k<=cn/\v=.int .i64 C/\i=.int .i64 (k:Int)/\lU d pl cs k=C/\Below w1.heap.size w1 wr) (fun _ i _=>cn-(intOf i).toNat)
 ·exact⟨0,0,by omega,rfl,rfl,rfl,Below.refl _ _⟩
 obtain⟨k,C,hk,rfl,rfl,hq,G⟩:=hrel;obtain⟨HQ,Y⟩:=hd2 hq G;have j:=Hd (aA U.1 G);have q:=Hd (aF G ao.1);have Z:=aw.1 k;rw[hq]at Z;obtain⟨aT,aS⟩:=Z;clear hq G;by_cases ax:k<cn
 ·have au:=dT (by omega:k<cn);have Q:k<cs.length:=by rw[K.1];exact ax
  have ae:Hv (lU d pl cs (k+1)=C+p9 d pl (cs[k]?.getD Cn.zero)):=Hd<|by show _=_;rw[lU,HQ.1]
  obtain⟨bc,oc,SA,m,mc,ai,D,c0,c1,c2,c3,rs⟩:=HC.1.cn (k:=k) Q;have g:=wE I.1 Q;have ah:=zH HD.1 af.1 (cs[k]?.getD Cn.zero);have ap:=Hd ai
  have am:Hv (∀p∈bN (cs[k]?.getD Cn.zero),0<=p.block/\p.block<(pn:Int)):=Hd<|fun p hp=>by
   unfold bN at hp;rw[List.mem_cons]at hp
   rcases hp with rfl|hp
   ·exact g.src.1
   exact(g.sinks p hp).1
  have J:=g.len;clear Q ai g;obtain rfl:=ap.1;have c0:=(j.1.cell (p:=⟨bc,oc+k*4,none⟩) D).trans c0;have c1:=(j.1.cell (p:=⟨bc,oc+k*4+1,none⟩) D).trans c1;have c2:=(j.1.cell (p:=⟨bc,oc+k*4+2,none⟩) D).trans c2;have c3:=(j.1.cell (p:=⟨bc,oc+k*4+3,none⟩) D).trans c3;have B:=aJ j.1 D;generalize cs[k]?.getD Cn.zero=cx at *;obtain⟨N,⟨a,b⟩,ss⟩:=cx;simp only at c0 c1 c2 c3 J;have ad:=Hd (show RdC w w.heap.size (aZ ss) (.slice SA m mc) from rs);have ag:ss.length=m:=ad.1.pinN;rw[ag]at J;obtain⟨aU,aK⟩:=J;obtain⟨S,hS⟩:∃S,p9 d pl ⟨N,⟨a,b⟩,ss⟩=S:=⟨_,rfl⟩
  have aE:Hv (∀v,Below w1.heap.size w1 v→Calls Tryz.prog 244 #[.agg (dv d),.slice PA pn pc,.agg #[.int .i64 N,.int .i64 a,.int .i64 b,.slice SA m mc]] v fun e w'=>e=.returned (.int .i64 S)/\Below v.heap.size v w'):=Hd<|fun v u=>by
   have h:=Ai d pl N a b ss PA SA pn pc m mc v (HP.1.below (aA U.1 u)) HD.1 af.1 aM (ad.1.below (aA U.1 u)) (by omega) aK am.1;rw[hS]at h;exact h
  rw[hS]at ah ae;obtain⟨a0,a2⟩:=ah;obtain⟨i0,i1⟩:=ib (by omega:k<cn);have dS:decide (S<0)=false:=decide_eq_false (by omega);clear rs hS ag;go_upto_region 7 with fail;have z:Hv (∀w',Below wr.heap.size wr w'→(KD w' w.heap.size d (w'.cell? ⟨bc,oc+k*4,none⟩=some (.int .i64 N)/\w'.cell? ⟨bc,oc+k*4+1,none⟩=some (.int .i64 a)/\w'.cell? ⟨bc,oc+k*4+2,none⟩=some (.int .i64 b)/\w'.cell? ⟨bc,oc+k*4+3,none⟩=some (.slice SA m mc)))):=Hd<|fun v u=>⟨aC (k:=0) (aF u q.1) rfl,aC (k:=1) (aF u q.1) rfl,aC (k:=2) (aF u q.1) rfl,aC (k:=3) (aF u q.1) rfl,(u.cell (p:=⟨bc,oc+k*4,none⟩) B).trans c0,(u.cell (p:=⟨bc,oc+k*4+1,none⟩) B).trans c1,(u.cell (p:=⟨bc,oc+k*4+2,none⟩) B).trans c2,(u.cell (p:=⟨bc,oc+k*4+3,none⟩) B).trans c3⟩
  clear c0 c1 c2 c3;obtain⟨x0,x1,x2,x3,c0,c1,c2,c3⟩:=z.1 _ (Below.refl _ _);have lx:=aH q.1;have V:=(Below.refl wr.heap.size wr).drew
  go_cut[9] (fun v w'=>v=.int .i64 S/\Below wr.heap.size wr w')
  case first =>
   go_region_held3 (fun w'=>KD w' w.heap.size d (w'.cell? ⟨bc,oc+k*4,none⟩=some (.int .i64 N)/\w'.cell? ⟨bc,oc+k*4+1,none⟩=some (.int .i64 a)/\w'.cell? ⟨bc,oc+k*4+2,none⟩=some (.int .i64 b)/\w'.cell? ⟨bc,oc+k*4+3,none⟩=some (.slice SA m mc)))
    (first|with_reducible exact z.1 _ V)
    ((first
     | (go_at_call 244;(with_reducible refine(aE.1 _ (aA Y.1 V)).mono ?_);rintro _ w5 ⟨rfl,b5⟩;replace V:=aA V b5;clear b5)))
   all_goals
    go_wp2;go_meet;exact⟨rfl,V⟩
  obtain⟨rfl,hb⟩:=hcut;have aq:=Hd (aA Y.1 hb);clear hb x0 x1 x2 x3 c0 c1 c2 c3 lx B V;go_wp2;go_roundw
  ·exact⟨k+1,C+S,by omega,rfl,by go_num,ae.1,aq.1⟩
  simp[intOf];omega
 have W:k=cn:=by omega
 have au:=dF (by omega:cn<=k);have HV:Hv (C=R):=Hd<|by show _=_;rw[aD.1,K.1,←W,HQ.1]
 clear W;go_wp2;go_ret;exact⟨aQ HV.1,j.1⟩
theorem Eh(place:List Int)(b:Nat)(t:Int)(PA:Oh)(pn pc:Nat)(w:World)(hp:bT w PA pn place)(ag:pn<=64)(hb:b<pn) :
  Calls Tryz.prog 188 #[.slice PA pn pc,.int .i64 (b:Int),.int .i64 t] w fun e w'=>∃A c,e=.returned (.slice A pn c)/\Own w.heap.size w' A pn c (yJ place b t)/\Below w.heap.size w w':=by
 have q:Hv (place.length=pn):=Hd<|hp.1
 have HP:=Hd hp;clear hp;obtain⟨U,rfl⟩:∃x,x=w:=⟨w,rfl⟩;go_enter Tryz.func188,Tryz.ntmps188;go_wp2_with fail;refine(gV PA pn pc place _ HP.1 (by omega)).mono ?_;rintro _ w1 ⟨A,c,rfl,o1,b1⟩;have W:=Hd ((aD.refl U).consOwn b1 o1);clear o1 b1;go_wp2
 go_loopw[14] (fun i wr=>∃k:Nat,k<=pn/\i=.int .i64 (k:Int)/\aD U wr [.cel (aI (kV place b t k)) (.slice A pn c)]) (fun i _=>pn-(intOf i).toNat)
 ·exact⟨0,by omega,rfl,by rw[BR];exact W.1⟩
 obtain⟨k,hk,rfl,hs⟩:=hrel;have H:=Hd hs;clear hs;by_cases Q:k<pn
 ·have Y:=dT (by omega:k<pn);obtain⟨g,hA,_,lg,ck,fk,J⟩:=H.1.setI 0 rfl Q;obtain⟨g2,D,_,lb,cb,fb,_⟩:=H.1.setI 0 rfl hb;rw[JQ b t (by rw[q.1];exact Q)]at ck;rw[K7 t k (by rw[q.1];exact hb)]at cb;have Z:=Hd (J (place[b]?.getD 0));have u:=Hd hA;have R:=Hd (hA.symm.trans D);have K:=Hd (Ef (p:=place) b (t:=t) (k:=k));have j:=Hd (BU (p:=place) b (t:=t) (k:=k));clear J hA D;obtain rfl:g=g2:=by have h:=R.1;injection h with h;injection h
  obtain rfl:=u.1;generalize place[k]?.getD 0=x at *;generalize place[b]?.getD 0=y at *;obtain⟨i0,i1⟩:=ib (by omega:k<pn);obtain⟨j0,j1⟩:=ib (by omega:b<pn);by_cases hx:x=t
  ·have dx:(x==t)=true:=by simp[hx]
   have V:Hv (aD U (wr.setCell ⟨g,k,none⟩ (.int .i64 y)) [.cel (aI (kV place b t (k+1))) (.slice (some ⟨g,0,none⟩) pn c)]):=Hd<|by
    show aD _ _ _;rw[←K.1 hx];exact Z.1
   clear hx;go_wp2;go_roundw
   ·exact⟨k+1,by omega,by go_num,V.1⟩
   simp[intOf];omega
  have dx:(x==t)=false:=by simp[hx]
  have V:Hv (aD U wr [.cel (aI (kV place b t (k+1))) (.slice (some ⟨g,0,none⟩) pn c)]):=Hd<|by
   show aD _ _ _;rw[j.1 hx];exact H.1
  clear hx;go_wp2;go_roundw
  ·exact⟨k+1,by omega,by go_num,V.1⟩
  simp[intOf];omega
 have G:k=pn:=by omega
 have Y:=dF (by omega:pn<=k);have hs:=H.1;rw[show kV place b t k=kV place b t place.length by rw[q.1,G]]at hs;obtain⟨g,hA,_,lg,cb,fb,I⟩:=hs.setI 0 rfl hb;have B:=Hd (I t);have u:=Hd hA;clear I hA hs G H;obtain rfl:=u.1;obtain⟨j0,j1⟩:=ib (by omega:b<pn);generalize (kV place b t place.length)[b]?.getD 0=z at *;go_wp2;go_ret;exact⟨_,_,rfl,B.1.owned 0 rfl,B.1.bel⟩
theorem DF(d:Dev)(kinds place:List Int)(b:Nat)(t:Int)(KA PA:Oh)(B kc pn pc:Nat)(w:World)(hk:bT w KA B kinds)(hp:bT w PA pn place)(hf:dA d kinds place)(hb:b<pn)(ht:ai d t=true)(D:ah d t=aW (kinds[b]?.getD 0)) :
  Calls Tryz.prog 166 #[.agg (dv d),.slice KA B kc,.slice PA pn pc,.int .i64 (b:Int),.int .i64 t] w fun e w'=>∃A c,e=.returned (.tuple #[.slice A pn c,.bool true])/\Own w.heap.size w' A pn c (yJ place b t)/\Below w.heap.size w w':=by
 have q:=Hd (aB (Below.refl w.heap.size w) (.cells (dv d) 36));have aK:=Hd (aG w (.cells (dv d) 36));have G:Hv (place.length=pn):=Hd<|hp.1
 have aP:B=pn:=by rw[←hk.1,←hf.same,hp.1]
 have bk:pn<=64:=by rw[←G.1,hf.same];exact hf.len
 obtain⟨HF,HP,HK,aS⟩:=hd4 hf hp hk D;have aj:Hv (lK d t=aW (kinds[b]?.getD 0)):=Hd<|by show _=_;rw[←D];exact if_pos ht
 have a9:=vG (kinds[b]?.getD 0);have bc:0<=aW (kinds[b]?.getD 0):=by rw[←D];exact(qZ d t).1
 obtain⟨kb,ko,ar,u,ag⟩:=hk.2 (by omega);have K:=Hd (ag b (by omega));have aN:=Hd ar;subst aP;clear hp hk hf D ht ag ar;go_enter Tryz.func166,Tryz.ntmps166;go_upto_region 1 with fail;generalize w.alloc (.cells (dv d) 36)=H at *;have U:=(aD.nil (Below.refl H.heap.size H)).pushNew 3 1
 go_upto_region 2 with(at_builtin;refine eX rfl _ _ rfl _ U 0 _ 0 0 [] PA B pc place rfl rfl rfl (HP.1.below (aA q.1 U.bel)) (by omega) ?_;intro A c w1 S1 bj;have j:=Hd S1;clear S1)
 rw[List.nil_append,Nat.zero_add]at j;have e0:0+B=B:=Nat.zero_add _;have I:=Hd (aF j.1.bel aK.1);have bh:decide ((b:Int)<0)=false:=by simp
 have bl:decide ((b:Int)≥(B:Int))=false:=by simp;omega
 have ck:=((aA q.1 j.1.bel).cell (p:=⟨kb,ko+b,none⟩) u).trans K.1;have lk:=aJ (aA q.1 j.1.bel) u;obtain⟨x0,x1,x2,x3,lx⟩:=bA (I.1);go_wp2_with fail;refine(wU d kinds place KA PA B kc B pc _ (HK.1.below (aA q.1 j.1.bel)) (HP.1.below (aA q.1 j.1.bel))).mono ?_;rw[bZ HF.1];rintro _ w2 ⟨rfl,b2⟩;have Y:=Hd (j.1.below b2);have af:=Hd (aF b2 I.1);clear b2 x0 x1 x2 x3 lx ck lk j I;go_upto_region 4 with fail;obtain⟨x0,x1,x2,x3,lx⟩:=bA (af.1);go_wp2_with fail;refine(lH d t _).mono ?_;rw[aj.1];rintro _ w3 ⟨rfl,b3⟩;have j:=Hd (Y.1.below b3);clear b3 x0 x1 x2 x3 lx Y af;have ck:=((aA q.1 j.1.bel).cell (p:=⟨kb,ko+b,none⟩) u).trans K.1;have lk:=aJ (aA q.1 j.1.bel) u;obtain⟨j0,j1⟩:=ib (by omega:b<B);obtain rfl:=aN.1;have av:=Hd (fun(v:World)=>gu (kinds[b]?.getD 0) v);clear aS aj K;generalize kinds[b]?.getD 0=kd at *;generalize aW kd=bt at *;have dt:decide (bt<0)=false:=decide_eq_false (by omega);have dn:(bt != bt)=false:=by simp
 go_wp2_with fail;refine(av.1 _).mono ?_;rintro _ _ ⟨rfl,rfl⟩;clear ck lk av;obtain⟨pb,po,ap,W,ao⟩:=HP.1.2 (by omega);have aL:Hv (∀v,Below H.heap.size H v→v.cell? ⟨pb,po+b,none⟩=some (.int .i64 (place[b]?.getD 0))):=Hd<|fun v hv=>((aA q.1 hv).cell (p:=⟨pb,po+b,none⟩) W).trans (ao b hb)
 have aZ:Hv (∀v,Below H.heap.size H v→pb<v.heap.size):=Hd<|fun v hv=>aJ (aA q.1 hv) W
 have aQ:=Hd ap;clear ao ap;obtain rfl:=aQ.1;obtain⟨pn,rfl⟩:∃x,x=B:=⟨B,rfl⟩;go_wp2
 go_loopw[14] (fun i wr=>∃k:Nat,k<=pn/\i=.int .i64 (k:Int)/\aD H wr [.cel (aI (kV place b t k)) (.slice A pn c)]) (fun i _=>pn-(intOf i).toNat)
 ·exact⟨0,by omega,rfl,by rw[BR];exact j.1⟩
 obtain⟨k,hk,rfl,hs⟩:=hrel;have Q:=Hd hs;clear hs;by_cases al:k<pn
 ·have aC:=dT (by omega:k<pn);obtain⟨g,hA,_,lg,ck,fk,ae⟩:=Q.1.setI 0 rfl al;obtain⟨g2,Z,_,lb,cb,fb,_⟩:=Q.1.setI 0 rfl hb;rw[JQ b t (by rw[G.1];exact al)]at ck;rw[K7 t k (by rw[G.1];exact hb)]at cb;have aO:=Hd (ae (place[b]?.getD 0));have J:=Hd hA;have am:=Hd (hA.symm.trans Z);have aq:=Hd (Ef (p:=place) b (t:=t) (k:=k));have R:=Hd (BU (p:=place) b (t:=t) (k:=k));clear ae hA Z;obtain rfl:g=g2:=by have h:=am.1;injection h with h;injection h
  obtain rfl:=J.1;have bm:=aL.1 _ Q.1.bel;have bn:=aZ.1 _ Q.1.bel;generalize place[k]?.getD 0=x at *;generalize place[b]?.getD 0=y at *;obtain⟨i0,i1⟩:=ib (by omega:k<pn);obtain⟨j0,j1⟩:=ib (by omega:b<pn);by_cases hx:x=t
  ·have dx:(x==t)=true:=by simp[hx]
   have HN:Hv (aD H (wr.setCell ⟨g,k,none⟩ (.int .i64 y)) [.cel (aI (kV place b t (k+1))) (.slice (some ⟨g,0,none⟩) pn c)]):=Hd<|by
    show aD _ _ _;rw[←aq.1 hx];exact aO.1
   clear hx;go_wp2;go_roundw
   ·exact⟨k+1,by omega,by go_num,HN.1⟩
   simp[intOf];omega
  have dx:(x==t)=false:=by simp[hx]
  have HN:Hv (aD H wr [.cel (aI (kV place b t (k+1))) (.slice (some ⟨g,0,none⟩) pn c)]):=Hd<|by
   show aD _ _ _;rw[R.1 hx];exact Q.1
  clear hx;go_wp2;go_roundw
  ·exact⟨k+1,by omega,by go_num,HN.1⟩
  simp[intOf];omega
 have ad:k=pn:=by omega
 have aC:=dF (by omega:pn<=k);have hs:=Q.1;rw[show kV place b t k=kV place b t place.length by rw[G.1,ad]]at hs;obtain⟨g,hA,_,lg,cb,fb,ak⟩:=hs.setI 0 rfl hb;have V:=Hd (ak t);have J:=Hd hA;clear ak hA hs ad Q;obtain rfl:=J.1;obtain⟨j0,j1⟩:=ib (by omega:b<pn);generalize (kV place b t place.length)[b]?.getD 0=z at *;go_wp2
 go_ret2
 exact⟨_,_,rfl,V.1.owned 0 rfl |>.more q.1.size,aA q.1 V.1.bel⟩
theorem JR(n:Int):bits .and .i64 n 2147483647=n%2147483648:=by
 have g:(BitVec.ofInt 64 2147483647).toNat=2 ^ 31-1:=by decide
 have key:(BitVec.ofInt 64 n &&& BitVec.ofInt 64 2147483647).toNat=(n%((2 ^ 64:Nat):Int)).toNat%2 ^ 31:=by
  rw[BitVec.toNat_and,BitVec.toNat_ofInt,g,Nat.and_two_pow_sub_one_eq_mod]
 show IntKind.i64.wrap ((BitVec.ofInt 64 n &&& BitVec.ofInt 64 2147483647).toNat:Nat)=n%2147483648;rw[key,IntKind.wrap_i64];omega
theorem om(s:Int)(w:World) :
  Calls Tryz.prog 187 #[.int .i64 s] w fun e w'=>e=.returned (.int .i64 (dR s))/\w=w':=by
 have h1:=JR s;have h2:=JR (1103515245*(s%2147483648)+12345);have h3:(1103515245*(s%2147483648)+12345)%2147483648=dR s:=rfl;have b0:0<=s%2147483648/\s%2147483648<2147483648:=by omega
 obtain⟨r,hr⟩:∃r,s%2147483648=r:=⟨_,rfl⟩;rw[hr]at h1 h2 h3 b0;rw[h3]at h2;have j:=Hd hr;clear hr h3;obtain⟨b0,g⟩:=b0;go_enter Tryz.func187,Tryz.ntmps187;go_wp2;go_ret;exact⟨rfl,rfl⟩
theorem nQ(s:Int)(w:World) :
  Calls Tryz.prog 165 #[.int .i64 s] w fun e w'=>e=.returned (.int .i64 (dR s))/\w=w':=by
 have h1:=JR s;have h2:=JR (1103515245*(s%2147483648)+12345);have h3:(1103515245*(s%2147483648)+12345)%2147483648=dR s:=rfl;have b0:0<=s%2147483648/\s%2147483648<2147483648:=by omega
 obtain⟨r,hr⟩:∃r,s%2147483648=r:=⟨_,rfl⟩;rw[hr]at h1 h2 h3 b0;rw[h3]at h2;have j:=Hd hr;clear hr h3;obtain⟨b0,g⟩:=b0;go_enter Tryz.func165,Tryz.ntmps165;go_wp2;go_ret;exact⟨rfl,rfl⟩
theorem qW{d:Dev}{ks pl:List Int}(h:dA d ks pl){n:Int}{cs:List Cn}(hc:dW n cs):0<=ik d pl cs/\ik d pl cs<=1200:=by
 have h1:=uD h.dev h.tl cs cs.length;have h2:=hc.len;unfold ik;omega
theorem JS{d:Dev}{ks:List Int}{cs:List Cn}{a:AnS}(h:anA d ks cs a):anP d ks cs a=(anN d ks a,ik d (anN d ks a) cs):=if_pos h
theorem LD{d:Dev}{ks:List Int}{cs:List Cn}{a:AnS}(h:¬anA d ks cs a):anP d ks cs a=(a.now,a.cost):=if_neg h
theorem Ei{d:Dev}{ks:List Int}{cs:List Cn}{a:AnS}{N:List Int}{C:Int}(h:anP d ks cs a=(N,C))(hl:C<a.least):anG d ks cs a=⟨N,C,N,C,a.heat*97/100,dR (dR (dR a.seed))⟩:=by
 unfold anG;rw[h,if_pos hl,if_pos hl]
theorem Ej{d:Dev}{ks:List Int}{cs:List Cn}{a:AnS}{N:List Int}{C:Int}(h:anP d ks cs a=(N,C))(hl:¬C<a.least):anG d ks cs a=⟨N,C,a.best,a.least,a.heat*97/100,dR (dR (dR a.seed))⟩:=by
 unfold anG;rw[h,if_neg hl,if_neg hl]
theorem IL(d:Dev)(ks pl:List Int)(cs:List Cn)(KA CA PA:Oh)(g kc cn cc pn pc:Nat)(sd:Int)(M:Nat)(w:World)(hK:bT w KA g ks)(hC:RdC w w.heap.size (bL cs) (.slice CA cn cc))(hP:bT w PA pn pl)(hf:dA d ks pl)(aZ:dW (pn:Int) cs)(hM:M<=200)(cD:pn<=pc)(cm:pc<=1048576) :
  Calls Tryz.prog 96 #[.agg (dv d),.slice KA g kc,.slice CA cn cc,.slice PA pn pc,.int .i64 sd,.int .i64 (M:Int)] w fun e w'=>∃A c,e=.returned (.slice A pn c)/\Own w.heap.size w' A pn c (qM d ks cs pl sd M)/\Below w.heap.size w w':=by
 have bg:=Hd (aB (Below.refl w.heap.size w) (.cells (dv d) 36));have cj:=Hd (aG w (.cells (dv d) 36));obtain⟨HK,HC,HP⟩:=hd3 hK hC hP;have V:Hv (ks.length=g):=Hd<|hK.1
 have cI:g=pn:=by rw[←hK.1,←hf.same,hP.1]
 subst cI;have dt:g<=64:=by rw[←V.1];exact hf.len
 obtain⟨HF,ay⟩:=hd2 hf aZ;have al:=qW hf aZ;have cW:Hv (0<g→∀k,AnI d ks cs (mD d ks cs pl sd k)):=Hd<|fun h k=>vZ hf (by rw[V.1];exact h) sd k
 have cP:Hv (qM d ks cs pl sd M=if ks.length=0 then pl else(mD d ks cs pl sd M).best):=Hd<|rfl
 have bK:mD d ks cs pl sd 0=⟨pl,ik d pl cs,pl,ik d pl cs,1200,sd⟩:=rfl;have bh:=Hd bK;clear hK hC hP hf aZ bK;go_enter Tryz.func96,Tryz.ntmps96;go_upto_region 1 with fail;generalize w.alloc (.cells (dv d) 36)=W9 at *;obtain⟨x0,x1,x2,x3,lx⟩:=bA (cj.1);go_wp2_with fail;refine(uZ d pl cs PA CA g pc cn cc _ (HP.1.below bg.1) (HC.1.below bg.1) HF.1.dev HF.1.tl ay.1).mono ?_;rintro _ w1 ⟨rfl,b1⟩;have a4:=Hd (aA bg.1 b1);have cg:=Hd (aF b1 cj.1);clear b1 x0 x1 x2 x3 lx;obtain⟨C0,aL⟩:∃C0,ik d pl cs=C0:=⟨_,rfl⟩;have ex:=Hd aL;rw[aL]at al bh
 (try rw[aL])
 obtain⟨eh,ek⟩:=al;have dc:decide (C0<0)=false:=decide_eq_false (by omega);clear aL;go_upto_region 2 with fail;obtain⟨x0,x1,x2,x3,lx⟩:=bA (cg.1);go_wp2_with fail;refine(FZ d ks pl KA PA g kc g pc _ (HK.1.below a4.1) (HP.1.below a4.1) cD cm).mono ?_;rw[bZ HF.1];rintro _ w2 ⟨rfl,b2⟩;have aY:=Hd (aA a4.1 b2);have c3:=Hd (aF b2 cg.1);clear b2 x0 x1 x2 x3 lx;go_wp2_with fail;refine(aM (M:Int) 0 200 _).mono ?_;rw[aR.2 ⟨by omega,by omega⟩];rintro _ _ ⟨rfl,rfl⟩;go_wp2_with fail;refine(gV PA g pc pl _ (HP.1.below aY.1) (by omega)).mono ?_;rintro _ w3 ⟨A0,c0,rfl,o3,b3⟩;have a5:=Hd (aA aY.1 b3);have cV:=Hd (o3.more aY.1.size);have c7:=Hd (aF b3 c3.1);clear b3 o3;go_wp2_with fail;refine(gV PA g pc pl _ (HP.1.below a5.1) (by omega)).mono ?_;rintro _ w4 ⟨A1,c1,rfl,o4,b4⟩;have cM:=Hd (aA a5.1 b4);have ds:=Hd (o4.more a5.1.size);have cU:=Hd (cV.1.below b4);have di:=Hd (aF b4 c7.1);clear b4 o4;go_wp2
 go_loopw[4,13,14,15,16,17,18] (fun sv cv nv bv lv hv iv wr=>∃(k:Nat) (a:AnS) (A B:Oh) (c c':Nat),k<=M/\sv=.int .i64 a.seed/\cv=.int .i64 a.cost/\nv=.slice A g c/\bv=.slice B g c'/\lv=.int .i64 a.least/\hv=.int .i64 a.heat/\iv=.int .i64 (k:Int)/\mD d ks cs pl sd k=a/\(g=0→k=0)/\Own w.heap.size wr A g c a.now/\Own w.heap.size wr B g c' a.best/\Below w4.heap.size w4 wr) (fun sv cv nv bv lv hv iv _=>M-(intOf iv).toNat)
 ·exact⟨0,_,A0,A1,c0,c1,by omega,rfl,rfl,rfl,rfl,rfl,rfl,rfl,bh.1,fun _=>rfl,cU.1,ds.1,Below.refl _ _⟩
 obtain⟨k,a,A,B,c,c',hk,rfl,rfl,rfl,rfl,rfl,rfl,rfl,ae,hz,bN,b6,az⟩:=hrel;obtain⟨aN,cC,bb⟩:=hd3 ae bN b6;have aq:=Hd (aA cM.1 az);have dg:=Hd az;have ad:=Hd (aF az di.1);clear ae bN b6 az
 have aO:g=0∨¬k<M→a.best=qM d ks cs pl sd M:=fun h=>by
  rw[cP.1,V.1];by_cases h0:g=0
  ·rw[if_pos h0,←aN.1,hz h0,bh.1]
  rw[if_neg h0,←aN.1,show k=M by omega]
 have aS:=Hd aO;clear aO;by_cases dk:k<M
 ·have c6:=dT (by omega:k<M);by_cases h0:g=0
  ·have dp:decide ((g:Int)>0)=false:=by simp;omega
   have c4:decide (0<g)=false:=by simp;omega
   have HV:=Hd (aS.1 (.inl h0));clear h0;go_wp2;go_ret;exact⟨_,_,rfl,by rw[←HV.1];exact bb.1,aq.1⟩
  have dp:decide ((g:Int)>0)=true:=by simp;omega
  have c4:decide (0<g)=true:=by simp;omega
  have D:=cW.1 (by omega) k;rw[aN.1]at D;have bu:=Hd D;have ag:Hv (mD d ks cs pl sd (k+1)=anG d ks cs a):=Hd<|by show _=_;rw[mD,aN.1]
  have aI:=C9 (ks:=ks) (by rw[V.1];omega) a.seed;rw[V.1]at aI;have ae:=IK D.now (by rw[V.1];omega) a.seed;have aX:=Hd (DC D (by rw[V.1];omega));have ch:Hv (anN d ks a=yJ a.now (anB ks a.seed) (anT d ks a.seed)):=Hd<|rfl
  have af:Hv (anT d ks a.seed=(fq d (aW (ks[anB ks a.seed]?.getD 0)))[(dR (dR a.seed)/256%((fq d (aW (ks[anB ks a.seed]?.getD 0))).length:Int)).toNat]?.getD 0):=Hd<|rfl
  have al:=qW aX.1 ay.1;have hcc:=qW D.now ay.1;rw[←D.cost]at hcc;have hh:=D.heat;have ah:Hv (anA d ks cs a↔ik d (anN d ks a) cs<=a.cost∨10000*(ik d (anN d ks a) cs-a.cost)<=a.heat*anU a.seed):=Hd<|Iff.rfl
  have J:Hv (anU a.seed=dR (dR (dR a.seed))/256%100):=Hd<|rfl
  have aD:=Hd (JS (d:=d) (ks:=ks) (cs:=cs) (a:=a));have bX:=Hd (LD (d:=d) (ks:=ks) (cs:=cs) (a:=a));have W:Hv (∀N C,anP d ks cs a=(N,C)→C<a.least→anG d ks cs a=⟨N,C,N,C,a.heat*97/100,dR (dR (dR a.seed))⟩):=Hd<|fun N C h hl=>Ei h hl
  have R:Hv (∀N C,anP d ks cs a=(N,C)→¬C<a.least→anG d ks cs a=⟨N,C,a.best,a.least,a.heat*97/100,dR (dR (dR a.seed))⟩):=Hd<|fun N C h hl=>Ej h hl
  have bB:=Hd D.now;clear D bu;generalize anG d ks cs a=G at *;generalize anP d ks cs a=PP at *;generalize anA d ks cs a=ep at *;obtain⟨j,be⟩:∃j,ik d (anN d ks a) cs=j:=⟨_,rfl⟩;rw[be]at al ah aD;generalize anN d ks a=K at *;generalize anT d ks a.seed=TT at *;generalize anB ks a.seed=BB at *;generalize anU a.seed=U at *;obtain⟨now,cost,best,least,heat,s0⟩:=a;simp only at hcc hh aI af ch ah J W R bB aD bX;obtain⟨S1,a7⟩:∃S1,dR s0=S1:=⟨_,rfl⟩;obtain⟨S2,aU⟩:∃S2,dR S1=S2:=⟨_,rfl⟩;obtain⟨H,a6⟩:∃H,dR S2=H:=⟨_,rfl⟩;have cd:=qV s0;have bR:=qV S1;have bS:=qV S2;rw[a7]at aI ae af J W R cd;rw[aU]at ae af J W R bR;rw[a6]at J W R bS;have cB:Hv (∀v:World,Calls Tryz.prog 187 #[.int .i64 s0] v fun e w'=>e=.returned (.int .i64 S1)/\v=w'):=Hd<|fun v=>by rw[←a7];exact om s0 v
  have dd:Hv (∀v:World,Calls Tryz.prog 187 #[.int .i64 S1] v fun e w'=>e=.returned (.int .i64 S2)/\v=w'):=Hd<|fun v=>by rw[←aU];exact om S1 v
  have db:Hv (∀v:World,Calls Tryz.prog 187 #[.int .i64 S2] v fun e w'=>e=.returned (.int .i64 H)/\v=w'):=Hd<|fun v=>by rw[←a6];exact om S2 v
  obtain⟨aK,df⟩:=aI;obtain⟨bP,aV,ec,es⟩:=ae;obtain⟨kb,ko,co,bO,bQ⟩:=HK.1.2 (by omega);have de:Hv (∀v,Below w.heap.size w v→v.cell? ⟨kb,ko+BB,none⟩=some (.int .i64 (ks[BB]?.getD 0))):=Hd<|fun v hv=>(hv.cell (p:=⟨kb,ko+BB,none⟩) bO).trans (bQ BB df)
  have cH:=Hd co;generalize ks[BB]?.getD 0=kd at *;have da:=Hd (fun(v:World)=>kG kd v);have dh:=Hd (fun(v:World)=>vI d (aW kd) v);generalize aW kd=bt at *;have cQ:=uG d bt;generalize fq d bt=TS at *;obtain⟨tn,a9⟩:∃tn,TS.length=tn:=⟨_,rfl⟩;rw[a9]at bP aV af cQ;have ci:=Hd a9;obtain⟨JJ,bz⟩:∃JJ,(S2/256%(tn:Int)).toNat=JJ:=⟨_,rfl⟩;rw[bz]at aV af;have m0:=Int.emod_nonneg (S2/256) (b:=(tn:Int)) (by omega);have aE:S2/256%(tn:Int)=(JJ:Int):=by omega
  clear a7 aU a6 bQ co bz a9 m0;obtain rfl:=cH.1;obtain⟨cp,d6⟩:=cd;obtain⟨bx,dZ⟩:=bR;obtain⟨bG,d3⟩:=bS;have f1:S1.tdiv 256=S1/256:=Int.tdiv_eq_ediv_of_nonneg cp;have f2:S2.tdiv 256=S2/256:=Int.tdiv_eq_ediv_of_nonneg bx;have f3:H.tdiv 256=H/256:=Int.tdiv_eq_ediv_of_nonneg bG;obtain⟨Q1,bM⟩:∃Q,S1/256=Q:=⟨_,rfl⟩;obtain⟨Q2,bF⟩:∃Q,S2/256=Q:=⟨_,rfl⟩;obtain⟨Q3,bq⟩:∃Q,H/256=Q:=⟨_,rfl⟩;have hq1:0<=Q1/\Q1<=8388608:=by omega
  have hq2:0<=Q2/\Q2<=8388608:=by omega
  have cl:0<=Q3/\Q3<=8388608:=by omega
  rw[bM]at f1 aK;rw[bF]at f2 aE;rw[bq]at f3 J;have g1:Q1.tmod (g:Int)=(BB:Int):=by rw[aK];exact Int.tmod_eq_emod_of_nonneg hq1.1
  have g2:Q2.tmod (tn:Int)=(JJ:Int):=by rw[←aE];exact Int.tmod_eq_emod_of_nonneg hq2.1
  have g3:Q3.tmod 100=U:=by rw[J.1];exact Int.tmod_eq_emod_of_nonneg cl.1
  have hu:0<=U/\U<=99:=by have h:=J.1;omega
  have k1:Q1%(g:Int)=(BB:Int):=aK.symm;have k2:Q2%(tn:Int)=(JJ:Int):=aE;have k3:Q3%100=U:=J.1.symm;have l1:wrap64 Q1=Q1:=IntWalk.wrap64_in _ ⟨by omega,by omega⟩;have l2:wrap64 Q2=Q2:=IntWalk.wrap64_in _ ⟨by omega,by omega⟩;have l3:wrap64 Q3=Q3:=IntWalk.wrap64_in _ ⟨by omega,by omega⟩;have n1:¬(g:Int)=0:=by omega
  have n2:¬(tn:Int)=0:=by omega
  obtain⟨ey,ef,ew⟩:=hd3 bM bF bq;clear aK aE bP;obtain⟨cY,dj⟩:=hu;obtain⟨dI,dX⟩:=hq1;obtain⟨dL,dC⟩:=hq2;obtain⟨dD,dH⟩:=cl;have bW:=iB hh.1 hh.2 cY dj;obtain⟨Z,hZ⟩:∃Z,heat*U=Z:=⟨_,rfl⟩;have wZ:IntKind.i64.wrap (heat*U)=Z:=by rw[hZ];exact IntWalk.i64_in _ (by omega)
  rw[hZ]at bW ah;obtain⟨dx,dB⟩:=bW;obtain⟨d8,dJ⟩:=al;obtain⟨dP,d7⟩:=hcc;obtain⟨d9,ez⟩:=hh;have ea:=Hd hZ;clear hZ;have cE:Hv (ik d K cs=j):=Hd<|be
  clear be;go_wp2_with fail;refine(cB.1 _).mono ?_;rintro _ _ ⟨rfl,rfl⟩;go_upto_region 12 with fail;have ap:Hv (∀w',Below wr.heap.size wr w'→(KD w' w.heap.size d (w'.cell? ⟨kb,ko+BB,none⟩=some (.int .i64 kd)))):=Hd<|fun v hv=>⟨aC (k:=0) (aF hv ad.1) rfl,aC (k:=1) (aF hv ad.1) rfl,aC (k:=2) (aF hv ad.1) rfl,aC (k:=3) (aF hv ad.1) rfl,de.1 v (aA aq.1 hv)⟩
  obtain⟨x0,x1,x2,x3,ck⟩:=ap.1 _ (Below.refl _ _);have lx:=aH ad.1;have lk:=aJ aq.1 bO;obtain⟨eo,eA⟩:=ib (by omega:BB<g);have hD:=(Below.refl wr.heap.size wr).drew
  go_cut[20] (fun v w'=>∃A c,v=.slice A tn c/\bT w' A tn TS/\Below wr.heap.size wr w')
  case first =>
   go_region_held3 (fun w'=>KD w' w.heap.size d (w'.cell? ⟨kb,ko+BB,none⟩=some (.int .i64 kd)))
    (first|with_reducible exact ap.1 _ hD)
    ((first
     | (go_at_call 127;(with_reducible refine(da.1 _).mono ?_);rintro _ _ ⟨rfl,rfl⟩)
     | (go_at_call 182;(with_reducible refine(dh.1 _).mono ?_);rintro _ w5 ⟨A5,n5,c5,rfl,o5,b5⟩;have O5:=Hd o5.ints;replace hD:=aA hD b5;clear b5 o5)))
   all_goals
    go_wp2;go_meet;exact⟨_,_,by rw[←ci.1,O5.1.1],by rw[←ci.1,O5.1.1];exact O5.1,hD⟩
  obtain⟨AT,cT,rfl,bV,ak⟩:=hcut;have cG:=Hd bV;have bH:=Hd (aA aq.1 ak);have cb:=Hd (aA dg.1 ak);have aT:=Hd (cC.1.below ak);have cf:=Hd (bb.1.below ak);have dm:=Hd (aF ak ad.1);obtain⟨W6,rfl⟩:∃y,y=wc:=⟨wc,rfl⟩;clear bV ak x0 x1 x2 x3 ck lx lk hD;go_wp2_with fail;refine(dd.1 _).mono ?_;rintro _ _ ⟨rfl,rfl⟩;obtain⟨j0,j1⟩:=ib (by omega:JJ<tn);obtain⟨tb,eu,bw,dq,bs⟩:=cG.1.2 (by omega);have ct:=bs JJ aV;rw[←af.1]at ct;have cJ:=Hd bw;clear bw bs;obtain rfl:=cJ.1;go_wp2_with fail;refine(db.1 _).mono ?_;rintro _ _ ⟨rfl,rfl⟩;clear ct dq;go_wp2_with fail;refine(Eh now BB TT A g c _ aT.1.ints (by omega) (by omega)).mono ?_;rintro _ w7 ⟨AN,cN,rfl,o7,b7⟩;rw[←ch.1]at o7;have bY:=Hd (aA bH.1 b7);have bC:=Hd (aA cb.1 b7);have bJ:=Hd (o7.more bH.1.size);have ce:=Hd (aT.1.below b7);have bI:=Hd (cf.1.below b7);have cO:=Hd (aF b7 dm.1);clear b7 o7;go_upto_region 18 with fail;obtain⟨x0,x1,x2,x3,lx⟩:=bA (cO.1);go_wp2_with fail;refine(uZ d K cs AN CA g cN cn cc _ bJ.1.ints (HC.1.below bY.1) aX.1.dev aX.1.tl ay.1).mono ?_;rw[cE.1];rintro _ w8 ⟨rfl,b8⟩;have a0:=Hd (aA bY.1 b8);have u:=Hd (aA bC.1 b8);have z:=Hd (bJ.1.below b8);have am:=Hd (ce.1.below b8);have ar:=Hd (bI.1.below b8);clear b8 x0 x1 x2 x3 lx;have bU:heat*97/100=heat*97/100:=rfl;have p1:(heat*97).tdiv 100=heat*97/100:=Int.tdiv_eq_ediv_of_nonneg (by omega);have p2:wrap64 (heat*97/100)=heat*97/100:=IntWalk.wrap64_in _ ⟨by omega,by omega⟩;clear bU;by_cases Y:j<=cost
  ·have d1:decide (j<=cost)=true:=decide_eq_true Y;have I:=Hd (aD.1 (ah.1.2 (.inl Y)));clear Y;by_cases hl:j<least
   ·have q:Hv (mD d ks cs pl sd (k+1)=⟨K,j,K,j,heat*97/100,H⟩):=Hd<|by show _=_;rw[ag.1];exact W.1 _ _ I.1 hl
    have dl:decide (j<least)=true:=decide_eq_true hl;clear hl;go_wp2_with fail;refine(gV AN g cN K _ z.1.ints (by omega)).mono ?_;rintro _ w9 ⟨A9,c9,rfl,o9,b9⟩;have au:=Hd (o9.more a0.1.size);clear o9;go_wp2;go_roundw
    ·exact⟨k+1,⟨K,j,K,j,heat*97/100,H⟩,AN,A9,cN,c9,by omega,rfl,rfl,rfl,rfl,rfl,rfl,by go_num,q.1,fun h=>by omega,z.1.below b9,au.1,aA u.1 b9⟩
    simp[intOf];omega
   have q:Hv (mD d ks cs pl sd (k+1)=⟨K,j,best,least,heat*97/100,H⟩):=Hd<|by show _=_;rw[ag.1];exact R.1 _ _ I.1 (by omega)
   have dl:decide (j<least)=false:=decide_eq_false hl;clear hl;go_wp2;go_roundw
   ·exact⟨k+1,⟨K,j,best,least,heat*97/100,H⟩,AN,B,cN,c',by omega,rfl,rfl,rfl,rfl,rfl,rfl,by go_num,q.1,fun h=>by omega,z.1,ar.1,u.1⟩
   simp[intOf];omega
  have d1:decide (j<=cost)=false:=decide_eq_false Y;by_cases aj:10000*(j-cost)<=Z
  ·have d2:decide (10000*(j-cost)<=Z)=true:=decide_eq_true aj;have I:=Hd (aD.1 (ah.1.2 (.inr aj)));clear Y aj;by_cases hl:j<least
   ·have q:Hv (mD d ks cs pl sd (k+1)=⟨K,j,K,j,heat*97/100,H⟩):=Hd<|by show _=_;rw[ag.1];exact W.1 _ _ I.1 hl
    have dl:decide (j<least)=true:=decide_eq_true hl;clear hl;go_wp2_with fail;refine(gV AN g cN K _ z.1.ints (by omega)).mono ?_;rintro _ w9 ⟨A9,c9,rfl,o9,b9⟩;have au:=Hd (o9.more a0.1.size);clear o9;go_wp2;go_roundw
    ·exact⟨k+1,⟨K,j,K,j,heat*97/100,H⟩,AN,A9,cN,c9,by omega,rfl,rfl,rfl,rfl,rfl,rfl,by go_num,q.1,fun h=>by omega,z.1.below b9,au.1,aA u.1 b9⟩
    simp[intOf];omega
   have q:Hv (mD d ks cs pl sd (k+1)=⟨K,j,best,least,heat*97/100,H⟩):=Hd<|by show _=_;rw[ag.1];exact R.1 _ _ I.1 (by omega)
   have dl:decide (j<least)=false:=decide_eq_false hl;clear hl;go_wp2;go_roundw
   ·exact⟨k+1,⟨K,j,best,least,heat*97/100,H⟩,AN,B,cN,c',by omega,rfl,rfl,rfl,rfl,rfl,rfl,by go_num,q.1,fun h=>by omega,z.1,ar.1,u.1⟩
   simp[intOf];omega
  have d2:decide (10000*(j-cost)<=Z)=false:=decide_eq_false aj;have I:=Hd (bX.1 (fun h=>by rcases ah.1.1 h with h|h;exact Y h;exact aj h));clear Y aj;by_cases hl:cost<least
  ·have q:Hv (mD d ks cs pl sd (k+1)=⟨now,cost,now,cost,heat*97/100,H⟩):=Hd<|by show _=_;rw[ag.1];exact W.1 _ _ I.1 hl
   have dl:decide (cost<least)=true:=decide_eq_true hl;clear hl;go_wp2_with fail;refine(gV A g c now _ am.1.ints (by omega)).mono ?_;rintro _ w9 ⟨A9,c9,rfl,o9,b9⟩;have au:=Hd (o9.more a0.1.size);clear o9;go_wp2;go_roundw
   ·exact⟨k+1,⟨now,cost,now,cost,heat*97/100,H⟩,A,A9,c,c9,by omega,rfl,rfl,rfl,rfl,rfl,rfl,by go_num,q.1,fun h=>by omega,am.1.below b9,au.1,aA u.1 b9⟩
   simp[intOf];omega
  have q:Hv (mD d ks cs pl sd (k+1)=⟨now,cost,best,least,heat*97/100,H⟩):=Hd<|by show _=_;rw[ag.1];exact R.1 _ _ I.1 (by omega)
  have dl:decide (cost<least)=false:=decide_eq_false hl;clear hl;go_wp2;go_roundw
  ·exact⟨k+1,⟨now,cost,best,least,heat*97/100,H⟩,A,B,c,c',by omega,rfl,rfl,rfl,rfl,rfl,rfl,by go_num,q.1,fun h=>by omega,am.1,ar.1,u.1⟩
  simp[intOf];omega
 have c6:=dF (by omega:M<=k);have HV:=Hd (aS.1 (.inr dk));go_wp2;go_ret;exact⟨_,_,rfl,by rw[←HV.1];exact bb.1,aq.1⟩
end Go.Proofs.YtofihjoanjkdmaaGreat
