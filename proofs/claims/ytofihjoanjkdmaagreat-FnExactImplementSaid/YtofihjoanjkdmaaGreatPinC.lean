/- TilesOf: the tiles of a kind: both. -/
import Derived.Test.YtofihjoanjkdmaaGreatLayG2
import Derived.Test.YtofihjoanjkdmaaGreatSepV
namespace Go.Proofs.YtofihjoanjkdmaaGreat
set_option maxHeartbeats 2000000
set_option maxRecDepth 100000
open Go.RowKit
def nH(d:Dev)(g:Int):Nat→List Int
 | 0=>[]
 | k+1=>nH d g k++if ah d (k:Int)=g then[(k:Int)]else[]
def fq(d:Dev)(g:Int):List Int:=if bQ d then nH d g (pW d)else[]
theorem Lx(d:Dev)(g:Int)(k:Nat):(nH d g k).length<=k:=by
 induction k with
 | zero=>simp[nH]
 | succ k ih=>unfold nH;split <;> simp <;> omega
theorem uG(d:Dev)(g:Int):(fq d g).length<=36:=by
 unfold fq
 split
 ·rename_i h;have:=(jQ h).2.2;have:=Lx d g (pW d);omega
 simp
theorem vI(d:Dev)(u:Int)(w:World) :
  Calls Tryz.prog 182 #[.agg (dv d),.int .i64 u] w fun e w'=>∃A m c,e=.returned (.slice A m c)/\Own w.heap.size w' A m c (fq d u)/\Below w.heap.size w w':=by
 have z:Below w.heap.size w (w.alloc (.cells (dv d) 36)):=aB (Below.refl _ _) _;go_enter Tryz.func182,Tryz.ntmps182;go_wp2_with fail;refine(eG d _).mono ?_;rintro e w1 ⟨rfl,H⟩;have I:=H.size;simp only[World.size_alloc]at I;obtain⟨hcc,j⟩:=az H;have B1:=Hd H;clear H
 cases hd:bQ d with
 | false =>
  have G:=Hd hd;clear hd;go_wp2;go_ret
  exact⟨none,0,0,rfl,by rw[fq,G.1];exact Own.nil,aA z B1.1⟩
 | true =>
  obtain⟨hN,al,ag⟩:=jQ hd;have G:=Hd hd;clear hd;generalize Y:pW d=N at *;have HT:=Hd Y;clear Y;go_wp2
  go_loopw[5,6] (fun v i wr=>∃(k:Nat) (A:Oh) (m c:Nat),k<=N/\m<=k/\i=.int .i64 k/\v=.slice A m c/\Own ((w.alloc (.cells (dv d) 36))).heap.size wr A m c (nH d u k)/\Below ((w.alloc (.cells (dv d) 36))).heap.size (w.alloc (.cells (dv d) 36)) wr) (fun _ i _=>N-(intOf i).toNat)
  ·exact⟨0,none,0,0,Nat.zero_le _,Nat.zero_le _,rfl,rfl,Own.nil,B1.1⟩
  obtain⟨k,A,m,c,hk,ai,rfl,rfl,ho,q⟩:=hrel;clear hcc j;obtain⟨hcc,j⟩:=az q;have J:=q.size;simp only[World.size_alloc]at J;obtain⟨W,Z⟩:=hd2 ho q;clear ho q;by_cases am:k<N
  ·go_wp2_with fail;refine(lw d k _ G.1 (by omega) (by omega)).mono ?_;rintro e w3 ⟨rfl,D⟩;have U:=Hd (W.1.below D);have B:=Hd (aA Z.1 D);have s3:=D.size;clear D;have hs:=nH.eq_2 d u k;have V:=Hd hs;clear hs;by_cases g:ah d (k:Int)=u
   ·have hq:(ah d (k:Int)==u)=true:=by simp[g]
    have Q:=Hd g;clear g hcc j;obtain⟨hcc,j⟩:=az B.1
    go_wp2_with (at_builtin;refine fP rfl _ _ rfl ((w.alloc (.cells (dv d) 36))).heap.size A m c (nH d u k) (k:Int) rfl U.1 rfl (by omega) B.1.size B.1 ?_;rintro g4 cap w4 o4 b4 af R)
    go_roundw
    ·exact⟨k+1,_,_,_,by omega,by omega,by go_num,rfl,by rw[V.1,if_pos Q.1];exact o4,b4⟩
    simp[intOf];omega
   have hq:(ah d (k:Int)==u)=false:=by simp[g]
   have Q:=Hd g;clear g hcc j;obtain⟨hcc,j⟩:=az B.1;go_wp2;go_roundw
   ·exact⟨k+1,A,m,c,by omega,by omega,by go_num,rfl,by rw[V.1,if_neg Q.1];simpa using U.1,B.1⟩
   simp[intOf];omega
  have K:k=N:=by omega
  subst K;go_wp2;go_ret;exact⟨_,_,_,rfl,by rw[fq,G.1,if_pos rfl,HT.1];exact W.1.more z.size,aA z Z.1⟩
theorem Dp(d:Dev)(t:Int)(w:World)(hd:bQ d=true)(h0:0<=t)(h1:t<(pW d:Int)) :
  Calls Tryz.prog 113 #[.agg (dv d),.int .i64 t] w fun e w'=>e=.returned (.int .i64 (ah d t))/\Below w.heap.size w w':=by
 have h:=qP d t w (by have:=jQ hd;omega);rw[jf,if_pos ⟨hd,h0,by have:=(jQ hd).1;omega⟩]at h;exact h
theorem su(d:Dev)(B:Int)(w:World) :
  Calls Tryz.prog 161 #[.agg (dv d),.int .i64 B] w fun e w'=>∃A m c,e=.returned (.slice A m c)/\Own w.heap.size w' A m c (fq d B)/\Below w.heap.size w w':=by
 have u:Below w.heap.size w (w.alloc (.cells (dv d) 36)):=aB (Below.refl _ _) _;go_enter Tryz.func161,Tryz.ntmps161;go_wp2_with fail;refine(dw d _).mono ?_;rintro e w1 ⟨rfl,D⟩;have G:=D.size;simp only[World.size_alloc]at G;replace G:w.heap.size+2<=w1.heap.size:=by omega
 have W:=Hd ((Own.newAt (base:=((w.alloc (.cells (dv d) 36))).heap.size) (w:=(w.alloc (.cells (dv d) 36))) (g:=w.heap.size+1) (by simp) (by simp)).below D);replace D:=aA (aB (Below.refl ((w.alloc (.cells (dv d) 36))).heap.size (w.alloc (.cells (dv d) 36))) _) D;obtain⟨hcc,q⟩:=az D;have B1:=Hd D;clear D
 cases hd:bQ d with
 | false =>
  have J:=Hd hd;clear hd;go_wp2;go_ret
  exact⟨_,0,0,rfl,by rw[fq,J.1];exact W.1.more u.size,aA u B1.1⟩
 | true =>
  obtain⟨hN,ap,ak⟩:=jQ hd;have J:=Hd hd;clear hd;generalize hT:pW d=N at *;have HT:=Hd hT;clear hT;go_wp2
  go_loopw[5,6] (fun v i wr=>∃(k:Nat) (A:Oh) (m c:Nat),k<=N/\m<=k/\i=.int .i64 k/\v=.slice A m c/\Own ((w.alloc (.cells (dv d) 36))).heap.size wr A m c (nH d B k)/\Below ((w.alloc (.cells (dv d) 36))).heap.size (w.alloc (.cells (dv d) 36)) wr) (fun _ i _=>N-(intOf i).toNat)
  ·exact⟨0,_,0,0,Nat.zero_le _,Nat.zero_le _,rfl,rfl,W.1,B1.1⟩
  obtain⟨k,A,m,c,hk,al,rfl,rfl,ho,z⟩:=hrel;clear hcc q;obtain⟨hcc,q⟩:=az z;have K:=z.size;simp only[World.size_alloc]at K;obtain⟨Z,HE⟩:=hd2 ho z;clear ho z;by_cases aq:k<N
  ·go_wp2_with fail;refine(Dp d k _ J.1 (by omega) (by rw[HT.1];omega)).mono ?_;rintro e w3 ⟨rfl,I⟩;have V:=Hd (Z.1.below I);have H:=Hd (aA HE.1 I);have s3:=I.size;clear I;have hs:=nH.eq_2 d B k;have Y:=Hd hs;clear hs;by_cases j:ah d (k:Int)=B
   ·have hq:(ah d (k:Int)==B)=true:=by simp[j]
    have R:=Hd j;clear j hcc q;obtain⟨hcc,q⟩:=az H.1
    go_wp2_with (at_builtin;refine fP rfl _ _ rfl ((w.alloc (.cells (dv d) 36))).heap.size A m c (nH d B k) (k:Int) rfl V.1 rfl (by omega) H.1.size H.1 ?_;rintro g4 cap w4 o4 b4 aj U)
    go_roundw
    ·exact⟨k+1,_,_,_,by omega,by omega,by go_num,rfl,by rw[Y.1,if_pos R.1];exact o4,b4⟩
    simp[intOf];omega
   have hq:(ah d (k:Int)==B)=false:=by simp[j]
   have R:=Hd j;clear j hcc q;obtain⟨hcc,q⟩:=az H.1;go_wp2;go_roundw
   ·exact⟨k+1,A,m,c,by omega,by omega,by go_num,rfl,by rw[Y.1,if_neg R.1];simpa using V.1,H.1⟩
   simp[intOf];omega
  have Q:k=N:=by omega
  subst Q;go_wp2;go_ret;exact⟨_,_,_,rfl,by rw[fq,J.1,if_pos rfl,HT.1];exact Z.1.more u.size,aA u HE.1⟩
theorem xG{d:Dev}{g t:Int}:∀{k:Nat},t∈nH d g k↔(0<=t/\t<(k:Int))/\ah d t=g
 | 0=>by simp[nH];omega
 | k+1=>by
  rw[nH,List.mem_append,xG (k:=k)]
  constructor
  ·rintro(h|h)
   ·exact⟨by omega,h.2⟩
   split at h
   ·rename_i hk;rw[List.mem_singleton]at h;subst h;exact⟨by omega,hk⟩
   simp at h
  rintro⟨h1,h2⟩;by_cases e:t=(k:Int)
  ·right;subst e;rw[if_pos h2];simp
  exact .inl ⟨by omega,h2⟩
theorem F5{d:Dev}(hd:bQ d=true){g t:Int}:t∈fq d g↔ai d t=true/\ah d t=g:=by
 unfold fq;rw[if_pos hd,xG,aP];have:=(jQ hd).1
 constructor
 ·rintro⟨h1,h2⟩;exact⟨⟨hd,by omega,by omega⟩,h2⟩
 rintro⟨⟨_,h1,h2⟩,h3⟩;exact⟨⟨h1,by omega⟩,h3⟩
theorem sw(d:Dev)(g:Int):∀k,(nH d g k).Nodup
 | 0=>by simp[nH]
 | k+1=>by
  rw[nH]
  split
  ·rw[mM];refine⟨sw d g k,fun h=>?_⟩;have:=(xG.1 h).1;omega
  rw[List.append_nil];exact sw d g k
theorem Ie(d:Dev)(g:Int):(fq d g).Nodup:=by
 unfold fq
 split
 ·exact sw _ _ _
 simp
/-! ### the nearest free tile -/
def qf(d:Dev)(x y t:Int):Int:=(100*(t%d.W)-x)*(100*(t%d.W)-x)+(100*(t/d.W)-y)*(100*(t/d.W)-y)
def fI(d:Dev)(g:List Int)(x y:Int)(j:List Int):Nat→Int×Int
 | 0=>(-1,0)
 | k+1=>if g[k]?.getD 0∉j/\((fI d g x y j k).1<0∨qf d x y (g[k]?.getD 0)<(fI d g x y j k).2)then(g[k]?.getD 0,qf d x y (g[k]?.getD 0))else fI d g x y j k
def je(d:Dev)(g x y:Int)(j:List Int):Int:=(fI d (fq d g) x y j (fq d g).length).1
theorem yB(d:Dev)(g:List Int)(x y:Int){j tl:List Int}(h:∀t∈g,t∈j↔t∈tl):∀{k},k<=g.length→fI d g x y j k=fI d g x y tl k
 | 0,_=>rfl
 | k+1,hk=>by
  have hm:g[k]?.getD 0∈g:=by
   rw[List.getElem?_eq_getElem (show k<g.length by omega)];exact List.getElem_mem _
  rw[fI,fI,yB d g x y h (show k<=g.length by omega)];simp only[h _ hm]
theorem Br(d:Dev)(g:List Int)(x y:Int)(j:List Int):∀{k},k<=g.length→(fI d g x y j k).1=-1∨(fI d g x y j k).1∈g/\(fI d g x y j k).1∉j
 | 0,_ => .inl rfl
 | k+1,hk=>by
  rw[fI]
  split
  ·rename_i h;refine .inr ⟨?_,h.1⟩;simp only;rw[List.getElem?_eq_getElem (show k<g.length by omega)];exact List.getElem_mem _
  exact Br d g x y j (by omega)
theorem qg{d:Dev}{g t:Int}(h:t∈fq d g):ai d t=true/\ah d t=g:=by
 by_cases hd:bQ d=true
 ·exact(F5 hd).1 h
 unfold fq at h;rw[if_neg hd]at h;simp at h
theorem L6(d:Dev)(g x y:Int)(j:List Int):je d g x y j=-1∨(0<=je d g x y j/\ai d (je d g x y j)=true/\ah d (je d g x y j)=g)/\je d g x y j∉j:=by
 rcases Br d (fq d g) x y j (Nat.le_refl _)with h|h
 ·exact .inl h
 have h1:=qg h.1;exact .inr ⟨⟨(aP.1 h1.1).2.1,h1⟩,h.2⟩
theorem Ig(d:Dev)(g x y:Int){j tl:List Int}(h:∀t:Int,0<=t→(t∈j↔t∈tl)):je d g x y j=je d g x y tl:=by
 unfold je;rw[yB d _ x y (fun t ht=>h t (aP.1 (qg ht).1).2.1) (Nat.le_refl _)]
theorem zh{d:Dev}{x y t:Int}(ht:ai d t=true)(hx:0<=x/\x<=600)(D:0<=y/\y<=600):0<=qf d x y t/\qf d x y t<=720000:=by
 obtain⟨h1,h2,h3,g,_⟩:=jL ht;obtain⟨q,z,j,u,_⟩:=ak (aP.1 ht).1;unfold qf
 have sq:∀a:Int,-600<=a→a<=600→0<=a*a/\a*a<=360000:=fun a h1 h2=>by
  rcases Int.le_total 0 a with h|h
  ·exact⟨Int.mul_nonneg h h,(iB h h2 h h2).2⟩
  have:=iB (a:=-a) (b:=-a) (A:=600) (B:=600) (by omega) (by omega) (by omega) (by omega);rw[Int.neg_mul_neg]at this;exact this
 have:=sq (100*(t%d.W)-x) (by omega) (by omega);have:=sq (100*(t/d.W)-y) (by omega) (by omega);omega
/-! ### averages -/
def bN(c:Cn):List aL:=c.src::c.sinks
def tch(c:Cn)(i:Int):Prop:=∃p∈bN c,p.block=i
instance (c:Cn) (i:Int):Decidable (tch c i):=by unfold tch;infer_instance
structure A3 where
 x:Int
 y:Int
 n:Int
def A3.zero:A3:=⟨0,0,0⟩
def tC(o:List aL)(b:Int):aL:=o[b.toNat]?.getD aL.zero
def F6(o:List aL)(i:Int)(a:A3)(p:aL):A3:=if p.block≠i then⟨a.x+(tC o p.block).block,a.y+(tC o p.block).pin,a.n+1⟩else a
def pq(o:List aL)(i:Int)(g:List aL)(a:A3):Nat→A3
 | 0=>a
 | k+1=>F6 o i (pq o i g a k) (g[k]?.getD aL.zero)
def qh(o:List aL)(i:Int)(cs:List Cn):Nat→A3
 | 0=>A3.zero
 | k+1=>if tch (cs[k]?.getD Cn.zero) i then pq o i (bN (cs[k]?.getD Cn.zero)) (qh o i cs k) (bN (cs[k]?.getD Cn.zero)).length else qh o i cs k
def Ih(o:List aL)(i:Nat)(a:A3):List aL:=if 0<a.n then o.set i ⟨a.x/a.n,a.y/a.n⟩else o
def kH(fx:List Int)(cs:List Cn)(o:List aL):Nat→List aL
 | 0=>o
 | b+1=>if fx[b]?.getD 0=-1 then Ih (kH fx cs o b) b (qh (kH fx cs o b) (b:Int) cs cs.length)else kH fx cs o b
def wD(d:Dev)(t:Int):aL:=if t=-1 then⟨50*(d.W-1),50*(d.H-1)⟩else⟨100*(t%d.W),100*(t/d.W)⟩
def Nz(d:Dev)(fx:List Int):List aL:=fx.map (wD d)
def nT(d:Dev)(fx:List Int)(cs:List Cn):Nat→List aL
 | 0=>Nz d fx
 | r+1=>kH fx cs (nT d fx cs r) fx.length
structure xH(m:Nat)(o:List aL):Prop where
 len:o.length=m
 bd:∀p∈o,(0<=p.block/\p.block<=500)/\0<=p.pin/\p.pin<=500
theorem xH.at_{m:Nat}{o:List aL}(h:xH m o)(b:Int):(0<=(tC o b).block/\(tC o b).block<=500)/\0<=(tC o b).pin/\(tC o b).pin<=500:=by
 unfold tC
 rcases Nat.lt_or_ge b.toNat o.length with hb|hb
 ·rw[List.getElem?_eq_getElem hb];exact h.bd _ (List.getElem_mem _)
 rw[List.getElem?_eq_none hb];simp[aL.zero]
def A3I(a:A3):Prop:=0<=a.n/\(0<=a.x/\a.x<=500*a.n)/\0<=a.y/\a.y<=500*a.n
theorem NK{m:Nat}{o:List aL}(h:xH m o){i:Int}{a:A3}(g:A3I a)(p:aL):A3I (F6 o i a p)/\(F6 o i a p).n<=a.n+1:=by
 have:=h.at_ p.block;unfold A3I at *;unfold F6
 split
 ·simp only;omega
 omega
theorem yf{m:Nat}{o:List aL}(h:xH m o){i:Int}(g:List aL){a:A3}(j:A3I a):∀k,A3I (pq o i g a k)/\(pq o i g a k).n<=a.n+(k:Int)
 | 0=>⟨j,by rw[pq];omega⟩
 | k+1=>by
  have h1:=yf h g (i:=i) j k;have h2:=NK h (i:=i) h1.1 (g[k]?.getD aL.zero);exact⟨h2.1,by rw[pq];omega⟩
theorem KC{n:Int}{c:Cn}(h:nD n c):2<=(bN c).length/\(bN c).length<=121:=by
 have:=h.len;unfold bN;rw[List.length_cons];omega
theorem wE{n:Int}{cs:List Cn}(h:dW n cs){k:Nat}(hk:k<cs.length):nD n (cs[k]?.getD Cn.zero):=by
 rw[List.getElem?_eq_getElem hk];exact h.fit _ (List.getElem_mem _)
theorem uH{m:Nat}{n:Int}{o:List aL}(h:xH m o){i:Int}{cs:List Cn}(hc:dW n cs):∀{k},k<=cs.length→A3I (qh o i cs k)/\(qh o i cs k).n<=121*(k:Int)
 | 0,_=>⟨by simp[qh,A3I,A3.zero],by simp[qh,A3.zero]⟩
 | k+1,hk=>by
  have h1:=uH h (i:=i) hc (show k<=cs.length by omega);rw[qh]
  split
  ·have h2:=yf h (i:=i) (bN (cs[k]?.getD Cn.zero)) h1.1 (bN (cs[k]?.getD Cn.zero)).length;have h3:=KC (wE hc (show k<cs.length by omega));exact⟨h2.1,by omega⟩
  exact⟨h1.1,by omega⟩
theorem NL{m:Nat}{o:List aL}(h:xH m o)(i:Nat){a:A3}(g:A3I a):xH m (Ih o i a):=by
 unfold Ih
 split
 ·rename_i hn;refine⟨by rw[List.length_set];exact h.len,fun p hp=>?_⟩
  rcases List.mem_or_eq_of_mem_set hp with hp|rfl
  ·exact h.bd p hp
  unfold A3I at g
  have q:∀x:Int,0<=x→x<=500*a.n→0<=x/a.n/\x/a.n<=500:=fun x h0 h1 =>
   ⟨Int.ediv_nonneg h0 (by omega),by
    have:x/a.n<501:=Int.ediv_lt_of_lt_mul hn (by omega)
    omega⟩
  exact⟨q a.x (by omega) (by omega),q a.y (by omega) (by omega)⟩
 exact h
theorem yg{m:Nat}{n:Int}{fx:List Int}{cs:List Cn}(hc:dW n cs){o:List aL}(h:xH m o):∀b,xH m (kH fx cs o b)
 | 0=>h
 | b+1=>by
  have h1:=yg (fx:=fx) hc h b;rw[kH]
  split
  ·exact NL h1 b (uH h1 hc (Nat.le_refl _)).1
  exact h1
def F7(d:Dev)(fx:List Int):Prop:=∀t∈fx,t=-1∨ai d t=true
theorem NM{d:Dev}(hd:bQ d=true){fx:List Int}(h:F7 d fx):xH fx.length (Nz d fx):=by
 refine⟨by simp[Nz],fun p hp=>?_⟩;obtain⟨t,ht,rfl⟩:=List.mem_map.1 hp;have:=ak hd;unfold wD
 split
 ·simp only;omega
 rename_i h1;have:=jL ((h t ht).resolve_left h1);simp only;omega
theorem wF{d:Dev}(hd:bQ d=true){n:Int}{fx:List Int}(h:F7 d fx){cs:List Cn}(hc:dW n cs):∀r,xH fx.length (nT d fx cs r)
 | 0=>NM hd h
 | r+1=>yg hc (wF hd h hc r) _
/-! ### the first placement -/
def OQ(k:Int):Bool:=decide (aW k=0)
def ioN(ks:List Int)(b:Nat):Nat:=(ks.take b).countP OQ
def ioT(ks g:List Int)(n:Nat)(b:Nat):Int:=if aW (ks[b]?.getD 0)=0 then g[ioN ks b*g.length/n]?.getD 0 else -1
def ioL(ks g:List Int)(n:Nat)(b:Nat):List Int:=(List.range b).map (ioT ks g n)
theorem xI(ks:List Int)(b:Nat):ioN ks b<=b:=by
 have h1:ioN ks b<=(ks.take b).length:=List.countP_le_length;rw[List.length_take]at h1;omega
theorem qi(ks:List Int){b:Nat}(h:b<ks.length):ioN ks (b+1)=ioN ks b+if aW (ks[b]?.getD 0)=0 then 1 else 0:=by
 unfold ioN;rw[bF (z:=0) h,List.countP_append];by_cases e:aW (ks[b]?.getD 0)=0 <;> simp[OQ,e]
theorem F8(ks:List Int){a b:Nat}(h:a<=b):ioN ks a<=ioN ks b:=by
 unfold ioN;exact List.Sublist.countP_le (List.take_sublist_take_left h)
theorem yh(ks:List Int){b:Nat}(h:b<ks.length)(hk:aW (ks[b]?.getD 0)=0):ioN ks b<ioN ks ks.length:=by
 have h1:=qi ks h;rw[if_pos hk]at h1;have h2:=F8 ks (show b+1<=ks.length by omega);omega
theorem L8{i m n:Nat}(h:i<n)(hm:n<=m):i*m/n<m:=by
 rw[Nat.div_lt_iff_lt_mul (by omega),Nat.mul_comm m n];exact Nat.mul_lt_mul_of_pos_right h (by omega)
theorem OC{i j m n:Nat}(h:i<j)(hn:0<n)(hm:n<=m):i*m/n<j*m/n:=by
 have h1:i*m+n<=j*m:=by
  have:(i+1)*m<=j*m:=Nat.mul_le_mul_right m h;rw[Nat.succ_mul]at this;omega
 have h2:(i*m+n)/n<=j*m/n:=Nat.div_le_div_right h1;rw[Nat.add_div_right _ hn]at h2;omega
structure yQ(d:Dev)(ks o:List Int):Prop where
 len:o.length=ks.length
 at_:∀b:Nat,b<ks.length→o[b]?.getD 0=-1∨ai d (o[b]?.getD 0)=true/\ah d (o[b]?.getD 0)=aW (ks[b]?.getD 0)
 once:∀a b:Nat,a<b→b<ks.length→0<=o[a]?.getD 0→o[a]?.getD 0≠o[b]?.getD 0
theorem yQ.fx{d:Dev}{ks o:List Int}(h:yQ d ks o):F7 d o:=fun t ht=>by
 obtain⟨i,hi,rfl⟩:=List.getElem_of_mem ht;have:=h.at_ i (by rw[←h.len];exact hi);rw[List.getElem?_eq_getElem hi,Option.getD_some]at this;exact this.imp id fun h=>h.1
theorem Dq{ks g:List Int}{n m b:Nat}(h:b<m):(ioL ks g n m)[b]?.getD 0=ioT ks g n b:=by
 unfold ioL;rw[List.getElem?_map,List.getElem?_range h];rfl
theorem Ii{d:Dev}{ks:List Int}(h:ioN ks ks.length<=(fq d 0).length):yQ d ks (ioL ks (fq d 0) (ioN ks ks.length) ks.length):=by
 have key:∀b:Nat,b<ks.length→aW (ks[b]?.getD 0)=0→ioN ks b*(fq d 0).length/ioN ks ks.length<(fq d 0).length:=fun b hb hk=>L8 (yh ks hb hk) h;refine⟨by simp[ioL],fun b hb=>?_,fun a b u hb h0=>?_⟩
 ·rw[Dq hb];unfold ioT
  split
  ·rename_i hk;have:=key b hb hk;rw[List.getElem?_eq_getElem this,Option.getD_some,hk];exact .inr (qg (List.getElem_mem _))
  exact .inl rfl
 rw[Dq (by omega)]at h0 ⊢;rw[Dq hb];unfold ioT at h0 ⊢
 split at h0
 ·rename_i hk;have q:=key a (by omega) hk;rw[if_pos hk];rw[List.getElem?_eq_getElem q,Option.getD_some]at h0 ⊢
  split
  ·rename_i j;have g:=key b hb j;rw[List.getElem?_eq_getElem g,Option.getD_some];intro e
   have h1:ioN ks a<ioN ks b:=by
    have h2:=qi ks (show a<ks.length by omega);rw[if_pos hk]at h2;have:=F8 ks (show a+1<=b by omega);omega
   have hp:=yh ks hb j;have h3:=OC h1 (by omega) h;exact List.pairwise_iff_getElem.1 (Ie d 0) _ _ q g h3 e
  omega
 omega
def jP(d:Dev)(ks:List Int)(o:List Int)(g:List aL):Nat→Option (List Int)
 | 0=>some o
 | b+1=>(jP d ks o g b).bind fun p=>if 0<=p[b]?.getD 0 then some p else
   if je d (aW (ks[b]?.getD 0)) (g[b]?.getD aL.zero).block (g[b]?.getD aL.zero).pin p<0 then none
   else some (p.set b (je d (aW (ks[b]?.getD 0)) (g[b]?.getD aL.zero).block (g[b]?.getD aL.zero).pin p))
theorem yQ.put{d:Dev}{ks p:List Int}(h:yQ d ks p){b:Nat}(hb:b<ks.length){x y:Int}(hn:¬je d (aW (ks[b]?.getD 0)) x y p<0):yQ d ks (p.set b (je d (aW (ks[b]?.getD 0)) x y p)):=by
 obtain⟨⟨h0,h1,h2⟩,h3⟩:=(L6 d (aW (ks[b]?.getD 0)) x y p).resolve_left (by omega);generalize je d (aW (ks[b]?.getD 0)) x y p=t at *;have j:b<p.length:=by rw[h.len];exact hb
 have hg:∀z:Nat,(p.set b t)[z]?.getD 0=if b=z then t else p[z]?.getD 0:=fun z=>by
  by_cases e:b=z
  ·subst e;rw[if_pos rfl,List.getElem?_set_self j];rfl
  rw[if_neg e,List.getElem?_set_ne e]
 have hm:∀z:Nat,z<ks.length→p[z]?.getD 0≠t:=fun z g e=>h3 (by
  rw[←e,List.getElem?_eq_getElem (show z<p.length by rw[h.len];exact g)]
  exact List.getElem_mem _)
 refine⟨by rw[List.length_set];exact h.len,fun z g=>?_,fun a z q g hp=>?_⟩
 ·rw[hg]
  split
  ·rename_i e;subst e;exact .inr ⟨h1,h2⟩
  exact h.at_ z g
 rw[hg]at hp ⊢;rw[hg]
 split
 ·rw[if_neg (by omega)];exact fun e=>hm z g e.symm
 rename_i e;rw[if_neg e]at hp
 split
 ·exact hm a (by omega)
 exact h.once a z q g hp
theorem F9{d:Dev}{ks o:List Int}(h:yQ d ks o)(j:List aL):∀{b:Nat} {p:List Int},b<=ks.length→jP d ks o j b=some p→yQ d ks p/\∀a:Nat,a<b→0<=p[a]?.getD 0
 | 0,p,_,e=>by
  rw[jP]at e;injection e with e
  subst e
  exact⟨h,fun a u=>by omega⟩
 | b+1,p,hb,e=>by
  rw[jP]at e
  cases e1:jP d ks o j b with
  | none=>rw[e1]at e;simp at e
  | some q =>
   rw[e1,Option.bind_some]at e;obtain⟨h1,h2⟩:=F9 h j (by omega) e1
   split at e
   ·rename_i h0;injection e with e
    subst e
    exact⟨h1,fun a u=>by
     by_cases g:a=b
     ·subst g;exact h0
     exact h2 a (by omega)⟩
   split at e
   ·exact absurd e (by simp)
   rename_i hn;injection e with e
   subst e;refine⟨h1.put (by omega) hn,fun a u=>?_⟩;by_cases g:a=b
   ·subst g;rw[List.getElem?_set_self (by rw[h1.len];omega),Option.getD_some];omega
   rw[List.getElem?_set_ne (by omega)];exact h2 a (by omega)
theorem yQ.place{d:Dev}(hd:bQ d=true){ks o:List Int}(hl:ks.length<=64)(h:yQ d ks o)(h0:∀a:Nat,a<ks.length→0<=o[a]?.getD 0):dA d ks o:=by
 refine⟨hd,hl,h.len,fun k hk=>(h.at_ k hk).resolve_left (by have:=h0 k hk;omega),?_⟩;rw[List.Nodup,List.pairwise_iff_getElem];intro i j hi hj g;have:=h.once i j g (by rw[←h.len];exact hj) (h0 i (by rw[←h.len];exact hi));rw[List.getElem?_eq_getElem hi,List.getElem?_eq_getElem hj]at this;exact this
def A8(d:Dev)(ks:List Int)(cs:List Cn):Option (List Int) :=
 if(fq d 0).length<ioN ks ks.length then none else
  jP d ks (ioL ks (fq d 0) (ioN ks ks.length) ks.length) (nT d (ioL ks (fq d 0) (ioN ks ks.length) ks.length) cs 8) ks.length
theorem L9{d:Dev}(hd:bQ d=true){ks:List Int}{cs:List Cn}(hl:ks.length<=64){p:List Int}(h:A8 d ks cs=some p):dA d ks p:=by
 unfold A8 at h
 split at h
 ·exact absurd h (by simp)
 rename_i hn;obtain⟨h1,h2⟩:=F9 (Ii (by omega)) _ (Nat.le_refl _) h;exact h1.place hd hl h2
theorem vJ(N a b:Int)(ss:List aL)(SA:Oh)(m j:Nat)(w:World)(hs:RdC w w.heap.size (aZ ss) (.slice SA m j))(z:0<m)(hm:m<=1048576) :
  Calls Tryz.prog 250 #[.agg #[.int .i64 N,.int .i64 a,.int .i64 b,.slice SA m j]] w fun e w'=>∃g c,e=.returned (.slice (some ⟨g,0,none⟩) (1+m) c)/\aD w w' [.cel (aZ (bN ⟨N,⟨a,b⟩,ss⟩)) (.slice (some ⟨g,0,none⟩) (1+m) c)]:=by
 have G:=Hd hs;have q:=Hd (aB (Below.refl w.heap.size w) (.cells #[.int .i64 N,.int .i64 a,.int .i64 b,.slice SA m j] 158));obtain⟨-,J,U,H,K⟩:=bA (aG w (.cells #[.int .i64 N,.int .i64 a,.int .i64 b,.slice SA m j] 158));clear hs;go_enter Tryz.func250,Tryz.ntmps250;go_upto_region 1 with fail;generalize w.alloc (.cells #[.int .i64 N,.int .i64 a,.int .i64 b,.slice SA m j] 158)=Q at *
 go_wp2_with (at_builtin;refine tJ rfl _ _ rfl _ ((aD.nil q.1).consPins1 a b) 0 1 1 m j _ SA [⟨a,b⟩] ss rfl rfl rfl (G.1.below (aB q.1 _)) z (by omega) ?_;intro R cap I B D;have u:=Hd B;clear B)
 go_ret;exact⟨_,_,rfl,u.1⟩
theorem GD{g:List aL}{i:Int}{k:Nat}(hk:k<g.length):(∃p∈g.take (k+1),p.block=i)↔(∃p∈g.take k,p.block=i)∨(g[k]?.getD aL.zero).block=i:=by
 rw[bF (z:=aL.zero) hk]
 constructor
 ·rintro⟨p,hp,e⟩;rw[List.mem_append,List.mem_singleton]at hp
  rcases hp with hp|rfl
  ·exact .inl ⟨p,hp,e⟩
  exact .inr e
 rintro(⟨p,hp,e⟩|e)
 ·exact⟨p,by simp[hp],e⟩
 exact⟨_,by simp,e⟩
theorem GG(N a b:Int)(ss:List aL)(SA:Oh)(m z:Nat)(i:Int)(w:World)(hs:RdC w w.heap.size (aZ ss) (.slice SA m z))(W:0<m)(hm:m<=1048576) :
  Calls Tryz.prog 249 #[.agg #[.int .i64 N,.int .i64 a,.int .i64 b,.slice SA m z],.int .i64 i] w fun e w'=>e=.returned (.bool (tb (tch ⟨N,⟨a,b⟩,ss⟩ i)))/\Below w.heap.size w w':=by
 have hl:=hs.pinN;have HR:=Hd hs;have G:=Hd (aB (Below.refl w.heap.size w) (.cells #[.int .i64 N,.int .i64 a,.int .i64 b,.slice SA m z] 158));obtain⟨x0,x1,x2,x3,lx⟩:=bA (aG w (.cells #[.int .i64 N,.int .i64 a,.int .i64 b,.slice SA m z] 158));have HL:Hv ((bN ⟨N,⟨a,b⟩,ss⟩).length=1+m):=Hd<|by show _=_;unfold bN;rw[List.length_cons,hl];omega
 have HT:Hv (tch ⟨N,⟨a,b⟩,ss⟩ i↔∃p∈bN ⟨N,⟨a,b⟩,ss⟩,p.block=i):=Hd<|Iff.rfl
 clear hs hl;go_enter Tryz.func249,Tryz.ntmps249;go_upto_region 1 with fail;generalize w.alloc (.cells #[.int .i64 N,.int .i64 a,.int .i64 b,.slice SA m z] 158)=W0 at *;go_wp2_with fail;refine(vJ N a b ss SA m z _ (HR.1.below G.1) W hm).mono ?_;rintro _ w1 ⟨g,c,rfl,Z⟩;have J:=Hd Z;have I:=Hd (aA G.1 Z.bel);clear Z x0 x1 x2 x3 lx;generalize bN ⟨N,⟨a,b⟩,ss⟩=B at *;go_wp2
 go_loopw[10] (fun v wr=>∃k:Nat,k<=1+m/\v=.int .i64 (k:Int)/\Below w1.heap.size w1 wr/\¬∃p∈B.take k,p.block=i) (fun v _=>1+m-(intOf v).toNat)
 ·exact⟨0,by omega,rfl,Below.refl _ _,by simp⟩
 obtain⟨k,hk,rfl,hb,hn⟩:=hrel;obtain⟨D,HN⟩:=hd2 hb hn;clear hb hn;by_cases Y:k<1+m
 ·have R:decide ((k:Int)<((1+m:Nat):Int))=true:=by simp;omega
  have j:k<B.length:=by rw[HL.1];exact Y
  obtain⟨gb,fo,hA,q,c0,c1⟩:=(J.1.rd 0 rfl).pin (k:=k) j;injection hA with hA
  injection hA with hA hF
  subst hA hF;have c0:=(D.1.cell (p:=⟨g,0+k*2,none⟩) q).trans c0;have c1:=(D.1.cell (p:=⟨g,0+k*2+1,none⟩) q).trans c1;rw[Nat.zero_add]at c0 c1;have lb:=aJ D.1 q;have V:=Hd (GD (i:=i) j);have K:Hv ((B[k]?.getD aL.zero).block=i→∃p∈B,p.block=i):=Hd<|fun h=>⟨_,by rw[List.getElem?_eq_getElem j];exact List.getElem_mem j,h⟩
  clear j q;generalize B[k]?.getD aL.zero=p at *;obtain⟨U,pp⟩:=p;simp only at c0 c1;have i0:(0:Int)<=(k:Int):=by omega
  have i1:(k:Int)<((1+m:Nat):Int):=by omega
  by_cases hp:U=i
  ·have dp:(U==i)=true:=by simp[hp]
   have u:Hv (tch ⟨N,⟨a,b⟩,ss⟩ i):=Hd<|HT.1.2 (K.1 hp)
   clear hp;go_wp2;go_ret;exact⟨mY u.1,aB (aA I.1 D.1) _⟩
  have dp:(U==i)=false:=by simp[hp]
  have Q:Hv (¬∃p∈B.take (k+1),p.block=i):=Hd<|fun h=>by
   rcases V.1.1 h with h|h
   ·exact HN.1 h
   exact hp h
  clear hp;go_wp2;go_roundw
  ·exact⟨k+1,by omega,by go_num,aB D.1 _,Q.1⟩
  simp[intOf];omega
 have H:k=1+m:=by omega
 have R:decide ((k:Int)<((1+m:Nat):Int))=false:=by simp;omega
 have u:Hv (¬tch ⟨N,⟨a,b⟩,ss⟩ i):=Hd<|fun h=>HN.1 (by rw[H,←HL.1,List.take_length];exact HT.1.1 h)
 clear H;go_wp2;go_ret;exact⟨bg u.1,aA I.1 D.1⟩
theorem zi(N a b:Int)(ss:List aL)(SA:Oh)(m z:Nat)(i:Int)(w:World)(hs:RdC w w.heap.size (aZ ss) (.slice SA m z))(hm:m<=1048576) :
  Calls Tryz.prog 243 #[.agg #[.int .i64 N,.int .i64 a,.int .i64 b,.slice SA m z],.int .i64 i] w fun e w'=>e=.returned (.bool (tb (tch ⟨N,⟨a,b⟩,ss⟩ i)))/\Below w.heap.size w w':=by
 have V:Hv (ss.length=m):=Hd<|hs.pinN
 have HR:=Hd hs;have g:=Hd (aB (Below.refl w.heap.size w) (.cells #[.int .i64 N,.int .i64 a,.int .i64 b,.slice SA m z] 158));obtain⟨-,x1,-,x3,lx⟩:=bA (aG w (.cells #[.int .i64 N,.int .i64 a,.int .i64 b,.slice SA m z] 158))
 have HT:Hv (tch ⟨N,⟨a,b⟩,ss⟩ i↔a=i∨∃p∈ss,p.block=i):=Hd<|by
  show _↔_;unfold tch bN;simp
 clear hs;go_enter Tryz.func243,Tryz.ntmps243;go_upto_region 1 with fail;generalize w.alloc (.cells #[.int .i64 N,.int .i64 a,.int .i64 b,.slice SA m z] 158)=W0 at *;obtain⟨I,G⟩:∃I:Bool,(a==i)=I:=⟨_,rfl⟩;have D:Hv (I=true↔a=i):=Hd<|by show _↔_;rw[←G];simp
 go_wp2_with fail;clear G
 go_loopw[5,6] (fun f v wr=>∃(k:Nat) (F:Bool),k<=m/\f=.bool F/\v=.int .i64 (k:Int)/\W0=wr/\(F=true↔a=i∨∃p∈ss.take k,p.block=i)) (fun _ v _=>m-(intOf v).toNat)
 ·exact⟨0,I,by omega,rfl,rfl,rfl,by rw[D.1];simp⟩
 obtain⟨k,F,hk,rfl,rfl,rfl,hf⟩:=hrel;have R:=Hd hf;clear hf;by_cases U:k<m
 ·have Q:=dT (by omega:k<m);have j:k<ss.length:=by rw[V.1];exact U
  obtain⟨Z,fo,hA,q,c0,c1⟩:=HR.1.pin (k:=k) j;have c0:=(g.1.cell (p:=⟨Z,fo+k*2,none⟩) q).trans c0;have lb:=aJ g.1 q;have H:=Hd (GD (i:=i) j);have K:=Hd hA;clear j q c1 hA;obtain rfl:=K.1;generalize ss[k]?.getD aL.zero=p at *;obtain⟨W,pp⟩:=p;simp only at c0;obtain⟨i0,i1⟩:=ib (by omega:k<m)
  cases F with
  | true =>
   have u:Hv (true=true↔a=i∨∃p∈ss.take (k+1),p.block=i):=Hd<|by
    have h1:=R.1;have h2:=H.1;show _↔_;rw[h2];simp only[true_iff]at h1 ⊢
    rcases h1 with h|h
    ·exact .inl h
    exact .inr (.inl h)
   go_wp2;go_roundw
   ·exact⟨k+1,true,by omega,rfl,by go_num,by first|rfl|trivial,u.1⟩
   ·simp[intOf];omega
  | false =>
   obtain⟨P,Y⟩:∃P:Bool,(W==i)=P:=⟨_,rfl⟩
   have u:Hv (P=true↔a=i∨∃p∈ss.take (k+1),p.block=i):=Hd<|by
    have h1:=R.1;have h2:=H.1;show _↔_;rw[h2,←Y];simp at h1 ⊢
    constructor
    ·exact fun h => .inr (.inr h)
    rintro(h|h|h)
    ·exact absurd h h1.1
    ·obtain⟨p,hp,e⟩:=h;exact absurd e (h1.2 p hp)
    exact h
   go_wp2;go_roundw
   ·exact⟨k+1,P,by omega,rfl,by go_num,by first|rfl|trivial,u.1⟩
   simp[intOf];omega
 have B:k=m:=by omega
 have Q:=dF (by omega:m<=k)
 have J:Hv (F=tb (tch ⟨N,⟨a,b⟩,ss⟩ i)):=Hd<|by
  show _=_;have h1:=R.1;rw[B,←V.1,List.take_length,←HT.1]at h1;by_cases h:tch ⟨N,⟨a,b⟩,ss⟩ i
  ·rw[bZ h];exact h1.2 h
  rw[dU h]
  cases F with
  | true=>exact absurd (h1.1 rfl) h
  | false=>rfl
 clear B;go_wp2;go_ret;exact⟨congrArg (fun x=>Ending.returned (.bool x)) J.1,g.1⟩
end Go.Proofs.YtofihjoanjkdmaaGreat
