/- Reading tiles and logic elements out of memory. -/
import Derived.Test.YtofihjoanjkdmaaGreatCopy
import Derived.Test.YtofihjoanjkdmaaGreatTilePure
namespace Go.Proofs.YtofihjoanjkdmaaGreat
set_option maxRecDepth 100000
open Go.RowKit
theorem Le.cells_length(e:Le):e.cells.length=4:=rfl
theorem lI.cells_length(t:lI):t.cells.length=4:=rfl
theorem ng{α:Type}{f:α→List Cel}(hf:∀x,(f x).length=4)(xs:List α):(xs.flatMap f).length=xs.length*4:=by rw[xf hf,Nat.mul_comm]
theorem wP{α:Type}{f:α→List Cel}(hf:∀x,(f x).length=4){xs:List α}{k j:Nat}{x:α}(h:xs[k]?=some x)(hj:j<4):(xs.flatMap f)[k*4+j]?=(f x)[j]?:=by rw[Nat.mul_comm];exact zD hf h hj
theorem getD_some{α:Type}{xs:List α}{k:Nat}(d:α)(h:k<xs.length):xs[k]?=some (xs[k]?.getD d):=by rw[List.getElem?_eq_getElem h];rfl
theorem gz{w:World}{B e s:Nat}{cs:List Cel}{v:Value}(h:RdC w B (.row e s cs) v):∃A n c,v=.slice A n c:=by
 rw[kQ]at h;obtain⟨A,n,cap,rfl,_⟩:=h;exact⟨A,n,cap,rfl⟩
theorem RdC.tile{w:World}{B n c k:Nat}{A:Oh}{u:List lI}(h:RdC w B (OL u) (.slice A n c))(hk:k<u.length) :
  ∃b o S m p L l q,A=some ⟨b,o,none⟩/\b<B/\w.cell? ⟨b,o+k*4,none⟩=some (.slice S m p)/\w.cell? ⟨b,o+k*4+1,none⟩=some (.slice L l q)/\w.cell? ⟨b,o+k*4+2,none⟩=some (.int .i64 (u[k]?.getD lI.zero).pad)/\w.cell? ⟨b,o+k*4+3,none⟩=some (.int .i64 (u[k]?.getD lI.zero).ram) /\
   RdC w B (aI (u[k]?.getD lI.zero).mux) (.slice S m p)/\RdC w B (Ky (u[k]?.getD lI.zero).les) (.slice L l q):=by
 have hl:=ng lI.cells_length u;obtain⟨b,o,rfl,hb,hc⟩:=h.cell (by rw[hl];omega);have hx:=getD_some lI.zero hk;generalize u[k]?.getD lI.zero=t at *;have g:=fun(j:Nat) (hj:j<4)=>hc (k*4+j) (by rw[hl];omega);obtain⟨c0,U,z,K,G⟩:=g 0 (by omega);obtain⟨c1,W,e1,J,D⟩:=g 1 (by omega);obtain⟨c2,V,e2,R,H⟩:=g 2 (by omega);obtain⟨c3,Y,e3,Q,I⟩:=g 3 (by omega);rw[wP lI.cells_length hx (by omega)]at z e1 e2 e3;simp only[lI.cells,List.getElem?_cons_zero,List.getElem?_cons_succ,Option.some.injEq]at z e1 e2 e3;subst z e1 e2 e3;rw[jJ]at H I;subst H I;obtain⟨S,m,p,rfl⟩:=gz (e:=3) (s:=1) G;obtain⟨L,l,q,rfl⟩:=gz (e:=121) (s:=4) D;exact⟨b,o,S,m,p,L,l,q,rfl,hb,K,J,R,Q,G,D⟩
theorem RdC.le{w:World}{B n c k:Nat}{A:Oh}{es:List Le}(h:RdC w B (Ky es) (.slice A n c))(hk:k<es.length) :
  ∃b o S m p,A=some ⟨b,o,none⟩/\b<B/\w.cell? ⟨b,o+k*4,none⟩=some (.slice S m p)/\w.cell? ⟨b,o+k*4+1,none⟩=some (.int .i64 (es[k]?.getD Le.zero).mask)/\w.cell? ⟨b,o+k*4+2,none⟩=some (.int .i64 (es[k]?.getD Le.zero).flop)/\w.cell? ⟨b,o+k*4+3,none⟩=some (.int .i64 (es[k]?.getD Le.zero).init) /\
   RdC w B (aI (es[k]?.getD Le.zero).sel) (.slice S m p):=by
 have hl:=ng Le.cells_length es;obtain⟨b,o,rfl,hb,hc⟩:=h.cell (by rw[hl];omega);have hx:=getD_some Le.zero hk;generalize es[k]?.getD Le.zero=t at *;have g:=fun(j:Nat) (hj:j<4)=>hc (k*4+j) (by rw[hl];omega);obtain⟨c0,Q,q,I,z⟩:=g 0 (by omega);obtain⟨c1,U,e1,H,u⟩:=g 1 (by omega);obtain⟨c2,R,e2,K,D⟩:=g 2 (by omega);obtain⟨c3,V,e3,J,G⟩:=g 3 (by omega);rw[wP Le.cells_length hx (by omega)]at q e1 e2 e3;simp only[Le.cells,List.getElem?_cons_zero,List.getElem?_cons_succ,Option.some.injEq]at q e1 e2 e3;subst q e1 e2 e3;rw[jJ]at u D G;subst u D G;obtain⟨S,m,p,rfl⟩:=gz (e:=3) (s:=1) z;exact⟨b,o,S,m,p,rfl,hb,I,H,K,J,z⟩
theorem iM.sub{lo hi:Nat}{w:World}{e s n cap j:Nat}{A:Oh}{cs:List Cel}(h:iM lo hi w (.row e s cs) (.slice A n cap))(hj:j<cs.length) :
  ∃g c v,A=some ⟨g,0,none⟩/\lo<=g/\g<hi/\g<w.heap.size/\cs[j]?=some c/\w.cell? ⟨g,j,none⟩=some v/\iM lo hi w c v:=by
 obtain⟨g,c,v,e1,h1,h2,h3,q,u,_,⟨z,k1,k2,_,k3,_⟩,_⟩:=h.cell hj;exact⟨g,c,v,e1,h1,h2,h3,q,u,z,k1,k2,k3⟩
theorem tQ{lo hi:Nat}{w:World}{x:Int}{v:Value}(h:iM lo hi w (.int x) v):v=.int .i64 x:=by
 obtain⟨F,h1,_⟩:=h;rw[dZ]at h1;exact h1.1
theorem vP{lo hi:Nat}{w:World}{e s:Nat}{cs:List Cel}{v:Value}(h:iM lo hi w (.row e s cs) v):∃A n c,v=.slice A n c:=by
 obtain⟨F,h1,_⟩:=h;rw[dV]at h1;obtain⟨A,n,cap,vs,F',rfl,_⟩:=h1;exact⟨A,n,cap,rfl⟩
theorem iM.tile{lo hi:Nat}{w:World}{n c k:Nat}{A:Oh}{u:List lI}(h:iM lo hi w (OL u) (.slice A n c))(hk:k<u.length) :
  ∃g S m p L l q,A=some ⟨g,0,none⟩/\lo<=g/\g<hi/\g<w.heap.size/\w.cell? ⟨g,k*4,none⟩=some (.slice S m p)/\w.cell? ⟨g,k*4+1,none⟩=some (.slice L l q)/\w.cell? ⟨g,k*4+2,none⟩=some (.int .i64 (u[k]?.getD lI.zero).pad)/\w.cell? ⟨g,k*4+3,none⟩=some (.int .i64 (u[k]?.getD lI.zero).ram) /\
   iM lo hi w (aI (u[k]?.getD lI.zero).mux) (.slice S m p)/\iM lo hi w (Ky (u[k]?.getD lI.zero).les) (.slice L l q):=by
 have hl:=ng lI.cells_length u;have hx:=getD_some lI.zero hk;generalize u[k]?.getD lI.zero=t at *;have g:=fun(j:Nat) (hj:j<4)=>h.sub (j:=k*4+j) (by rw[hl];omega);obtain⟨V,c0,v0,Y,Z,U,W,G,K,I⟩:=g 0 (by omega);obtain⟨g1,c1,v1,z,_,_,_,e1,J,H⟩:=g 1 (by omega);obtain⟨g2,c2,v2,D,_,_,_,e2,R,r2⟩:=g 2 (by omega);obtain⟨g3,c3,v3,B,_,_,_,e3,Q,r3⟩:=g 3 (by omega);subst Y;injection z with z
 injection D with D
 injection B with B
 injection z with z
 injection D with D
 injection B with B
 subst z D B;rw[wP lI.cells_length hx (by omega)]at G e1 e2 e3;simp only[lI.cells,List.getElem?_cons_zero,List.getElem?_cons_succ,Option.some.injEq]at G e1 e2 e3;subst G e1 e2 e3;obtain rfl:=tQ r2;obtain rfl:=tQ r3;obtain⟨S,m,p,rfl⟩:=vP (e:=3) (s:=1) I;obtain⟨L,l,q,rfl⟩:=vP (e:=121) (s:=4) H;exact⟨V,S,m,p,L,l,q,rfl,Z,U,W,K,J,R,Q,I,H⟩
theorem iM.le{lo hi:Nat}{w:World}{n c k:Nat}{A:Oh}{es:List Le}(h:iM lo hi w (Ky es) (.slice A n c))(hk:k<es.length) :
  ∃g S m p,A=some ⟨g,0,none⟩/\lo<=g/\g<hi/\g<w.heap.size/\w.cell? ⟨g,k*4,none⟩=some (.slice S m p)/\w.cell? ⟨g,k*4+1,none⟩=some (.int .i64 (es[k]?.getD Le.zero).mask)/\w.cell? ⟨g,k*4+2,none⟩=some (.int .i64 (es[k]?.getD Le.zero).flop)/\w.cell? ⟨g,k*4+3,none⟩=some (.int .i64 (es[k]?.getD Le.zero).init) /\
   iM lo hi w (aI (es[k]?.getD Le.zero).sel) (.slice S m p):=by
 have hl:=ng Le.cells_length es;have hx:=getD_some Le.zero hk;generalize es[k]?.getD Le.zero=t at *;have g:=fun(j:Nat) (hj:j<4)=>h.sub (j:=k*4+j) (by rw[hl];omega);obtain⟨R,c0,v0,V,W,Q,U,B,I,D⟩:=g 0 (by omega);obtain⟨g1,c1,v1,q,_,_,_,e1,G,H⟩:=g 1 (by omega);obtain⟨g2,c2,v2,z,_,_,_,e2,K,Y⟩:=g 2 (by omega);obtain⟨g3,c3,v3,u,_,_,_,e3,J,Z⟩:=g 3 (by omega);subst V;injection q with q
 injection z with z
 injection u with u
 injection q with q
 injection z with z
 injection u with u
 subst q z u;rw[wP Le.cells_length hx (by omega)]at B e1 e2 e3;simp only[Le.cells,List.getElem?_cons_zero,List.getElem?_cons_succ,Option.some.injEq]at B e1 e2 e3;subst B e1 e2 e3;obtain rfl:=tQ H;obtain rfl:=tQ Y;obtain rfl:=tQ Z;obtain⟨S,m,p,rfl⟩:=vP (e:=3) (s:=1) D;exact⟨R,S,m,p,rfl,W,Q,U,I,G,K,J,D⟩
structure iZ(F:List Nat)(w w':World):Prop where
 os:w'.os=w.os
 tape:w'.tape=w.tape
 output:w'.output=w.output
 size:w.heap.size<=w'.heap.size
 block:∀k,k<w.heap.size→k∉F→w'.heap[k]?=w.heap[k]?
theorem iZ.refl(F:List Nat)(w:World):iZ F w w:=⟨rfl,rfl,rfl,Nat.le_refl _,fun _ _ _=>rfl⟩
theorem iZ.trans{F:List Nat}{a b c:World}(h:iZ F a b)(k:iZ F b c):iZ F a c :=
 ⟨k.os.trans h.os,k.tape.trans h.tape,k.output.trans h.output,Nat.le_trans h.size k.size,fun i hi hn=>(k.block i (Nat.lt_of_lt_of_le hi h.size) hn).trans (h.block i hi hn)⟩
theorem iZ.more{F G:List Nat}{a b:World}(h:iZ F a b)(hs:∀k∈F,k∈G):iZ G a b:=⟨h.os,h.tape,h.output,h.size,fun i hi hn=>h.block i hi fun hf=>hn (hs i hf)⟩
theorem JA{A:Oh}{a b:World}(h:a.grownBy b (A.map (·.block))):iZ (blk A) a b:=⟨h.os,h.tape,h.output,h.size,fun i hi hn=>h.block i hi (by
 cases A with
 | none=>simp
 | some g =>
  simp only[Option.map_some,ne_eq,Option.some.injEq];rintro rfl
  exact hn (by simp[blk]))⟩
theorem tT{F:List Nat}{w:World}{p:Addr}(hp:p.block∈F)(v:Value):iZ F w (w.setCell p v) :=
 ⟨rfl,rfl,rfl,by simp[World.setCell],fun k _ hn=>Below.heap_setCell _ _ _ _ (by rintro rfl;exact hn hp)⟩
theorem dJ.child{w:World}{e s n cap j:Nat}{A:Oh}{cs:List Cel}{F:List Nat}{c:Cel}(h:dJ w (.row e s cs) (.slice A n cap) F)(hF:F.Nodup)(hc:cs[j]?=some c) :
  ∃g v q,A=some ⟨g,0,none⟩/\g∈F/\w.cell? ⟨g,j,none⟩=some v/\dJ w c v q/\q.Nodup/\g∉q/\(∀k∈q,k∈F) /\
   ∀(w':World) (H:Cel),dJ w' H v q→iZ q w w'→dJ w' (.row e s (cs.set j H)) (.slice A n cap) F:=by
 have hj:=(List.getElem?_eq_some_iff.1 hc).1;have D:=h.lt;obtain⟨g,c0,v,Q,q,F2,rfl,e1,u,_,rfl,J,K,_⟩:=h.cell hj;rw[hc]at e1;injection e1 with e1
 subst e1;rw[List.nodup_cons]at hF;obtain⟨z,G⟩:=hF;simp only[List.mem_append,not_or]at z;rw[List.nodup_append,List.nodup_append]at G;obtain⟨n1,⟨n2,n3,n4⟩,n5⟩:=G;refine⟨g,v,q,rfl,by simp,u,J,n2,z.2.1,fun k hk=>by simp[hk],fun w' H I ho=>?_⟩;refine K w' H I (ho.block g (D g (by simp)) z.2.1) (fun k hk=>ho.block k (D k (by simp[hk])) fun B=>?_) (fun k hk=>ho.block k (D k (by simp[hk])) fun B=>?_)
 ·exact n5 k hk k (by simp[B]) rfl
 exact n4 k B k hk rfl
theorem dJ.num{w:World}{e s n cap j:Nat}{A:Oh}{cs:List Cel}{F:List Nat}{x:Int}(h:dJ w (.row e s cs) (.slice A n cap) F)(hF:F.Nodup)(hc:cs[j]?=some (.int x)) :
  ∃g,A=some ⟨g,0,none⟩/\g∈F/\w.cell? ⟨g,j,none⟩=some (.int .i64 x)/\w.frozen? ⟨g,j,none⟩=false /\
   ∀y:Int,dJ (w.setCell ⟨g,j,none⟩ (.int .i64 y)) (.row e s (cs.set j (.int y))) (.slice A n cap) F:=by
 have hj:=(List.getElem?_eq_some_iff.1 hc).1;obtain⟨g,c0,v,G,H,F2,rfl,e1,q,z,rfl,B,_,D⟩:=h.cell hj;rw[hc]at e1;injection e1 with e1
 subst e1;rw[dZ]at B;obtain⟨rfl,rfl⟩:=B;rw[List.nodup_cons]at hF;obtain⟨u,_⟩:=hF;simp only[List.nil_append,List.mem_append,not_or]at u;exact⟨g,rfl,by simp,q,z,fun y=>D (.int y) (.int .i64 y) [] (dZ.2 ⟨rfl,rfl⟩) u.1 (by simp) u.2⟩
/-! ### marking tiles -/
theorem MR{w:World}(e s:Nat){g:Nat}(hg:w.heap.size=g):iM g (g+1) (w.alloc (.cells #[] e)) (.row e s []) (.slice (some ⟨g,0,none⟩) 0 0):=by
 subst hg;refine⟨[w.heap.size],?_,by simp,by simp⟩;rw[dV];exact⟨_,0,0,[],[],rfl,⟨by simp,.inr ⟨w.heap.size,0,#[],rfl,Nat.zero_le _,aG _ _,Nat.le_refl _,Nat.zero_le _,by simp,by simp⟩⟩,by simp[blk],dH.2 ⟨rfl,rfl⟩⟩
theorem iD.part{lo hi:Nat}{w:World}{cs:List Cel}{vs:List Value}{j:Nat}{c:Cel}{v:Value}(h:iD lo hi w cs vs)(hc:cs[j]?=some c)(K:vs[j]?=some v) :
  ∃z,dJ w c v z/\z.Nodup/\(∀k∈z,lo<=k/\k<hi) /\
   ∀(w':World) (G:Cel) (H:Value) (g:List Nat) (u:Nat),dJ w' G H g→g.Nodup→(∀k∈g,k∈z∨(hi<=k/\lo<=k/\k<u))→hi<=u→iZ z w w'→iD lo u w' (cs.set j G) (vs.set j H):=by
 obtain⟨F,h1,h2,h3⟩:=h;have hj:j<cs.length:=(List.getElem?_eq_some_iff.1 hc).1;have D:=h1.lt;obtain⟨c0,V,J,z,F2,e1,e2,rfl,Q,R⟩:=h1.at_ hj;rw[hc]at e1;rw[K]at e2;injection e1 with e1
 injection e2 with e2
 subst e1 e2;rw[List.nodup_append,List.nodup_append]at h2;obtain⟨n1,⟨n2,n3,n4⟩,n5⟩:=h2;refine⟨z,Q,n2,fun k hk=>h3 k (by simp[hk]),fun w' G H g u I hn q U ho=>⟨J++(g++F2),R w' G H g I ?_ ?_,?_,?_⟩⟩
 ·exact fun k hk=>ho.block k (D k (by simp[hk])) fun hm=>n5 k hk k (by simp[hm]) rfl
 ·exact fun k hk=>ho.block k (D k (by simp[hk])) fun hm=>n4 k hm k hk rfl
 ·rw[List.nodup_append,List.nodup_append];refine⟨n1,⟨hn,n3,fun a B b hb e=>?_⟩,fun a B b hb e=>?_⟩
  ·subst e
   rcases q a B with hm|hm
   ·exact n4 a hm a hb rfl
   have:=h3 a (by simp[hb]);omega
  subst e
  rcases List.mem_append.1 hb with hb|hb
  ·rcases q a hb with hm|hm
   ·exact n5 a B a (by simp[hm]) rfl
   have:=h3 a (by simp[B]);omega
  exact n5 a B a (by simp[hb]) rfl
 intro k hk;simp only[List.mem_append]at hk
 rcases hk with hk|hk|hk
 ·have:=h3 k (by simp[hk]);omega
 ·rcases q k hk with hm|hm
  ·have:=h3 k (by simp[hm]);omega
  omega
 have:=h3 k (by simp[hk]);omega
theorem dJ.slot{w:World}{e s n cap j:Nat}{A:Oh}{cs:List Cel}{F:List Nat}{c:Cel}(h:dJ w (.row e s cs) (.slice A n cap) F)(hF:F.Nodup)(hc:cs[j]?=some c) :
  ∃g v D,A=some ⟨g,0,none⟩/\g∈F/\w.cell? ⟨g,j,none⟩=some v/\w.frozen? ⟨g,j,none⟩=false/\dJ w c v D/\D.Nodup/\g∉D/\(∀k∈D,k∈F) /\
   ∀(w':World) (R:Cel) (I:Value) (q:List Nat),dJ w' R I q→q.Nodup→(∀k∈q,k∈D∨k∉F)→iZ D w w' →
    ∃F',dJ (w'.setCell ⟨g,j,none⟩ I) (.row e s (cs.set j R)) (.slice A n cap) F'/\F'.Nodup/\∀k∈F',k∈F∨k∈q:=by
 have hj:=(List.getElem?_eq_some_iff.1 hc).1;have z:=h.lt;rw[dV]at h;obtain⟨A',n',ai,vs,F',hv,ho,rfl,hl⟩:=h;injection hv with hA hn hcc
 subst hA hn hcc;obtain⟨c0,v,F1,D,F2,e1,e2,rfl,h3,h4⟩:=hl.at_ hj;rw[hc]at e1;injection e1 with e1
 subst e1;obtain⟨g,cur,rfl,al,ad,V,hh,af,ht,G,U⟩:=lN ho e2;have W:blk (some (⟨g,0,none⟩:Addr))=[g]:=rfl;rw[W]at hF z;simp only[List.singleton_append,List.nodup_cons,List.mem_append,not_or]at hF;obtain⟨⟨g1,Y,g2⟩,Q⟩:=hF;rw[List.nodup_append,List.nodup_append]at Q;obtain⟨n1,⟨n2,n3,n4⟩,n5⟩:=Q;refine⟨g,v,D,rfl,by simp[blk],G,U,h3,n2,Y,fun k hk=>by simp[hk],fun w' R I q ae hn' u J=>?_⟩
 have B:g∉q:=fun hm=>by
  rcases u g hm with hm|hm
  ·exact Y hm
  exact hm (by simp[blk])
 have H:∀{L:List Nat},g∉L→∀k∈L,(w'.setCell ⟨g,j,none⟩ I).heap[k]?=w'.heap[k]?:=fun hn k hk=>Below.heap_setCell _ _ _ _ (by rintro rfl;exact hn hk);have Z:w'.heap[g]?=some (.cells cur e (0,0)):=(J.block g (z g (by simp)) Y).trans hh;refine⟨[g]++(F1++(q++F2)),?_,?_,fun k hk=>?_⟩
 ·rw[dV]
  refine⟨_,n,cap,vs.set j I,F1++(q++F2),rfl,⟨by rw[List.length_set];exact ho.1,.inr ⟨g,cap,cur.setIfInBounds j I,rfl,Nat.zero_le _,by simp[World.setCell,Array.getElem?_modify,Z],ad,V,by simp[af],?_⟩⟩,rfl,
   h4 _ R I q (ae.keep (H B)) (fun k hk=>(H g1 k hk).trans (J.block k (z k (by simp[hk])) fun hm=>n5 k hk k (by simp[hm]) rfl)) (fun k hk=>(H g2 k hk).trans (J.block k (z k (by simp[hk])) fun hm=>n4 k hm k hk rfl))⟩
  simp only[Array.toList_setIfInBounds,List.take_set,ht]
 ·simp only[List.singleton_append,List.nodup_cons,List.mem_append,not_or];refine⟨⟨g1,B,g2⟩,?_⟩;rw[List.nodup_append,List.nodup_append];refine⟨n1,⟨hn',n3,fun a K b hb e=>?_⟩,fun a K b hb e=>?_⟩
  ·subst e
   rcases u a K with hm|hm
   ·exact n4 a hm a hb rfl
   exact hm (by simp[hb])
  subst e
  rcases List.mem_append.1 hb with hb|hb
  ·rcases u a hb with hm|hm
   ·exact n5 a K a (by simp[hm]) rfl
   exact hm (by simp[K])
  exact n5 a K a (by simp[hb]) rfl
 simp only[List.singleton_append,List.mem_cons,List.mem_append]at hk
 rcases hk with rfl|hk|hk|hk
 ·exact .inl (by simp[blk])
 ·exact .inl (by simp[hk])
 ·exact .inr hk
 exact .inl (by simp[hk])
/-! ### pieces -/
inductive Pc where
 | cel (c:Cel) (v:Value)
 | cels (cs:List Cel) (vs:List Value)
 | own (g:Nat) (P:World→Prop)
abbrev Pc.blk(g:Nat)(cs:Array Value)(t:TypeId):Pc := .own g fun w=>w.heap[g]?=some (.cells cs t (0,0))
def tV(w:World):Pc→List Nat→Prop
 | .cel c v,F=>dJ w c v F
 | .cels cs vs,F=>dh w cs vs F
 | .own g P,F=>F=[g]/\g<w.heap.size/\P w/\∀j q:World,q.heap[g]?=j.heap[g]?→P j→P q
theorem tV.keep{w w':World}{p:Pc}{F:List Nat}(h:tV w p F)(j:w.heap.size<=w'.heap.size)(hk:∀k∈F,w'.heap[k]?=w.heap[k]?):tV w' p F:=by
 cases p with
 | cel c v=>exact dJ.keep h hk
 | cels cs vs=>exact dh.keep h hk
 | own g P =>
  obtain⟨rfl,h1,h2,h3⟩:=h;exact⟨rfl,Nat.lt_of_lt_of_le h1 j,h3 w w' (hk g (by simp)) h2,h3⟩
theorem tV.lt{w:World}{p:Pc}{F:List Nat}(h:tV w p F):∀k∈F,k<w.heap.size:=by
 cases p with
 | cel c v=>exact dJ.lt h
 | cels cs vs=>exact dh.lt h
 | own g P =>
  obtain⟨rfl,h1,_⟩:=h;intro k hk;rw[List.mem_singleton]at hk;exact hk ▸ h1
def iW(w:World):List Pc→List Nat→Prop
 | [],F=>F=[]
 | p::j,F=>∃g F2,F=g++F2/\tV w p g/\iW w j F2
theorem iW.keep{w w':World}:∀{j:List Pc} {F:List Nat},iW w j F→w.heap.size<=w'.heap.size→(∀k∈F,w'.heap[k]?=w.heap[k]?)→iW w' j F
 | [],_,h,_,_=>h
 | p::j,F,h,q,hk=>by
  obtain⟨u,F2,rfl,h1,h2⟩:=h;exact⟨u,F2,rfl,h1.keep q fun k g=>hk k (List.mem_append_left _ g),iW.keep h2 q fun k g=>hk k (List.mem_append_right _ g)⟩
theorem iW.lt{w:World}:∀{g:List Pc} {F:List Nat},iW w g F→∀k∈F,k<w.heap.size
 | [],F,h=>by rw[show F=[] from h];simp
 | p::g,F,h=>by
  obtain⟨j,F2,rfl,h1,h2⟩:=h;intro k hk
  rcases List.mem_append.1 hk with hk|hk
  ·exact h1.lt k hk
  exact iW.lt h2 k hk
theorem iW.append{w:World}:∀{g qs:List Pc} {F G:List Nat},iW w g F→iW w qs G→iW w (g++qs) (F++G)
 | [],qs,F,G,h,k=>by rw[show F=[] from h];exact k
 | p::g,qs,F,G,h,k=>by
  obtain⟨j,F2,rfl,h1,h2⟩:=h;exact⟨j,F2++G,List.append_assoc _ _ _,h1,iW.append h2 k⟩
theorem iW.at_{w:World}:∀{z:List Pc} {F:List Nat},iW w z F→∀{j:Nat} {p:Pc},z[j]?=some p →
  ∃u J F2,F=u++(J++F2)/\tV w p J /\
   ∀(w':World) (p':Pc) (g:List Nat),tV w' p' g→w.heap.size<=w'.heap.size→(∀k∈u,w'.heap[k]?=w.heap[k]?)→(∀k∈F2,w'.heap[k]?=w.heap[k]?)→iW w' (z.set j p') (u++(g++F2))
 | [],F,h,j,p,hj=>by simp at hj
 | q::z,F,h,0,p,hj=>by
  obtain⟨u,F2,rfl,h1,h2⟩:=h;simp only[List.getElem?_cons_zero,Option.some.injEq]at hj;subst hj;refine⟨[],u,F2,rfl,h1,fun w' p' g hp D _ hk=>?_⟩;rw[List.set_cons_zero,List.nil_append]
  exact⟨g,F2,rfl,hp,h2.keep D hk⟩
 | q::z,F,h,j+1,p,hj=>by
  obtain⟨u,F2,rfl,h1,h2⟩:=h;rw[List.getElem?_cons_succ]at hj;obtain⟨H,Q,I,rfl,h3,K⟩:=iW.at_ h2 hj;refine⟨u++H,Q,I,by simp,h3,fun w' p' g hp D B G=>?_⟩;rw[List.set_cons_succ];exact⟨u,H++(g++I),by simp,h1.keep D fun k hk=>B k (List.mem_append_left _ hk),K w' p' g hp D (fun k hk=>B k (List.mem_append_right _ hk)) G⟩
def aD(W w:World)(g:List Pc):Prop:=Below W.heap.size W w/\∃F,iW w g F/\F.Nodup/\∀k∈F,W.heap.size<=k
theorem aD.bel{W w:World}{g:List Pc}(h:aD W w g):Below W.heap.size W w:=h.1
theorem aD.size{W w:World}{g:List Pc}(h:aD W w g):W.heap.size<=w.heap.size:=h.1.size
theorem aD.refl(W:World):aD W W []:=⟨Below.refl _ _,[],rfl,by simp,by simp⟩
theorem aD.nil{W w:World}(h:Below W.heap.size W w):aD W w []:=⟨h,[],rfl,by simp,by simp⟩
theorem aD.below{W w w':World}{g:List Pc}(h:aD W w g)(hb:Below w.heap.size w w'):aD W w' g:=by
 obtain⟨h1,F,h2,h3,j⟩:=h;exact⟨aA h1 hb,F,h2.keep hb.size fun k hk=>hb.block k (h2.lt k hk),h3,j⟩
theorem aD.alloc{W w:World}{g:List Pc}(h:aD W w g)(o:Obj):aD W (w.alloc o) g:=h.below (aB (Below.refl _ _) o)
theorem aD.drew{W w:World}{g:List Pc}(h:aD W w g):aD W w.drew g:=h.below (Below.refl _ _).drew
theorem aD.drewN{W w:World}{g:List Pc}(h:aD W w g)(n:Nat):aD W (w.drewN n) g:=h.below (ae (Below.refl _ _) n)
theorem aD.push{W w w':World}{j:List Pc}{p:Pc}{G:List Nat}(h:aD W w j)(hb:Below w.heap.size w w')(hp:tV w' p G)(hn:G.Nodup)(hg:∀k∈G,w.heap.size<=k):aD W w' (j++[p]):=by
 obtain⟨h1,F,h2,h3,u⟩:=h;have hl:=h2.lt;refine⟨aA h1 hb,F++(G++[]),(h2.keep hb.size fun k hk=>hb.block k (hl k hk)).append ⟨G,[],rfl,hp,rfl⟩,?_,fun k hk=>?_⟩
 ·rw[List.append_nil,List.nodup_append];exact⟨h3,hn,fun a q b g e=>by have:=hl a q;have:=hg b g;omega⟩
 rw[List.append_nil,List.mem_append]at hk
 rcases hk with hk|hk
 ·exact u k hk
 have:=hg k hk;have:=h1.size;omega
theorem aD.cons{W w w':World}{j:List Pc}{p:Pc}{G:List Nat}(h:aD W w j)(hb:Below w.heap.size w w')(hp:tV w' p G)(hn:G.Nodup)(hg:∀k∈G,w.heap.size<=k):aD W w' (p::j):=by
 obtain⟨h1,F,h2,h3,u⟩:=h;have hl:=h2.lt;refine⟨aA h1 hb,G++F,⟨G,F,rfl,hp,h2.keep hb.size fun k hk=>hb.block k (hl k hk)⟩,?_,fun k hk=>?_⟩
 ·rw[List.nodup_append];exact⟨hn,h3,fun a q b g e=>by have:=hl b g;have:=hg a q;omega⟩
 rw[List.mem_append]at hk
 rcases hk with hk|hk
 ·have:=hg k hk;have:=h1.size;omega
 exact u k hk
theorem aD.consOwn{W w w':World}{g:List Pc}{A:Oh}{n c:Nat}{xs:List Int}(h:aD W w g)(hb:Below w.heap.size w w')(ho:Own w.heap.size w' A n c xs):aD W w' (.cel (aI xs) (.slice A n c)::g) :=
 h.cons hb (show dJ w' (aI xs) (.slice A n c) (blk A) from gy.2 ⟨ho.more (Nat.zero_le _),rfl⟩) (by cases A <;> simp[blk]) fun k hk=>by
  obtain⟨a,rfl,rfl⟩:=nW.1 hk;exact(ho.lt a rfl).1
theorem aD.consT{W w w':World}{g:List Pc}{c:Cel}{v:Value}{hi:Nat}(h:aD W w g)(hb:Below w.heap.size w w')(ho:iM w.heap.size hi w' c v):aD W w' (.cel c v::g):=by
 obtain⟨F,h1,h2,h3⟩:=ho;exact h.cons hb h1 h2 fun k hk=>(h3 k hk).1
theorem aD.tail{W w:World}{p:Pc}{g:List Pc}(h:aD W w (p::g)):aD W w g:=by
 obtain⟨h1,F,⟨u,F2,rfl,_,h3⟩,q,j⟩:=h;exact⟨h1,F2,h3,(List.nodup_append.1 q).2.1,fun k hk=>j k (List.mem_append_right _ hk)⟩
theorem aD.pushOwn{W w w':World}{g:List Pc}{A:Oh}{n c:Nat}{xs:List Int}(h:aD W w g)(hb:Below w.heap.size w w')(ho:Own w.heap.size w' A n c xs):aD W w' (g++[.cel (aI xs) (.slice A n c)]) :=
 h.push hb (show dJ w' (aI xs) (.slice A n c) (blk A) from gy.2 ⟨ho.more (Nat.zero_le _),rfl⟩) (by cases A <;> simp[blk]) fun k hk=>by
  obtain⟨a,rfl,rfl⟩:=nW.1 hk;exact(ho.lt a rfl).1
theorem aD.pushT{W w w':World}{g:List Pc}{c:Cel}{v:Value}{hi:Nat}(h:aD W w g)(hb:Below w.heap.size w w')(ho:iM w.heap.size hi w' c v):aD W w' (g++[.cel c v]):=by
 obtain⟨F,h1,h2,h3⟩:=ho;exact h.push hb h1 h2 fun k hk=>(h3 k hk).1
theorem aD.pushBlk{W w:World}{g:List Pc}(h:aD W w g)(cs:Array Value)(t:TypeId):aD W (w.alloc (.cells cs t)) (g++[.blk w.heap.size cs t]) :=
 h.push (aB (Below.refl _ _) _) (G:=[w.heap.size]) ⟨rfl,by simp,aG _ _,fun j q e h=>e.trans h⟩ (by simp) (by simp)
theorem aD.pushNil{W w:World}{g:List Pc}(h:aD W w g)(e s:Nat):aD W w (g++[.cel (.row e s []) (.slice none 0 0)]) :=
 h.push (Below.refl _ _) (G:=[]) (show dJ w (.row e s []) (.slice none 0 0) [] by rw[dV];exact⟨none,0,0,[],[],rfl,⟨by simp,.inl ⟨rfl,rfl⟩⟩,rfl,dH.2 ⟨rfl,rfl⟩⟩) (by simp) (by simp)
theorem aD.pushNew{W w:World}{g:List Pc}(h:aD W w g)(e s:Nat):aD W (w.alloc (.cells #[] e)) (g++[.cel (.row e s []) (.slice (some ⟨w.heap.size,0,none⟩) 0 0)]):=by
 obtain⟨F,h1,h2,h3⟩:=MR (w:=w) e s rfl;exact h.push (aB (Below.refl _ _) _) h1 h2 fun k hk=>(h3 k hk).1
theorem iW.sub{w:World}{u qs:List Pc}(hs:qs.Sublist u):∀{F:List Nat},iW w u F→∃G,iW w qs G/\G.Sublist F:=by
 induction hs with
 | slnil=>intro F h;exact⟨F,h,List.Sublist.refl _⟩
 | cons p _ ih =>
  intro F h;obtain⟨g,F2,rfl,_,h2⟩:=h;obtain⟨G,j,q⟩:=ih h2
  exact⟨G,j,q.trans (List.sublist_append_right _ _)⟩
 | cons_cons p _ ih =>
  intro F h;obtain⟨g,F2,rfl,h1,h2⟩:=h;obtain⟨G,j,q⟩:=ih h2;exact⟨g++G,⟨g,G,rfl,h1,j⟩,List.Sublist.append (List.Sublist.refl _) q⟩
theorem aD.sub{W w:World}{g qs:List Pc}(h:aD W w g)(hs:qs.Sublist g):aD W w qs:=by
 obtain⟨h1,F,h2,h3,q⟩:=h;obtain⟨G,u,j⟩:=h2.sub hs;exact⟨h1,G,u,j.nodup h3,fun k hk=>q k (j.subset hk)⟩
theorem aD.part{W w:World}{D:List Pc}(h:aD W w D)(j:Nat){p:Pc}(hj:D[j]?=some p) :
  ∃u,tV w p u/\u.Nodup/\(∀k∈u,W.heap.size<=k/\k<w.heap.size) /\
   ∀(w':World) (p':Pc) (g:List Nat),tV w' p' g→g.Nodup→(∀k∈g,k∈u∨w.heap.size<=k)→iZ u w w'→aD W w' (D.set j p'):=by
 obtain⟨h1,F,h2,h3,B⟩:=h;have hl:=h2.lt;obtain⟨G,u,F2,rfl,k1,k2⟩:=h2.at_ hj;have H:=h3;rw[List.nodup_append,List.nodup_append]at h3;obtain⟨n1,⟨n2,n3,n4⟩,n5⟩:=h3;refine⟨u,k1,n2,fun k hk=>⟨B k (by simp[hk]),hl k (by simp[hk])⟩,fun w' p' g hp hn q ho=>⟨?_,G++(g++F2),k2 w' p' g hp ho.size ?_ ?_,?_,?_⟩⟩
 ·refine⟨ho.os.trans h1.os,ho.tape.trans h1.tape,ho.output.trans h1.output,Nat.le_trans h1.size ho.size,fun k hk=>?_⟩;refine(ho.block k (Nat.lt_of_lt_of_le hk h1.size) fun hm=>?_).trans (h1.block k hk);have:=B k (by simp[hm]);omega
 ·exact fun k hk=>ho.block k (hl k (by simp[hk])) fun hm=>n5 k hk k (by simp[hm]) rfl
 ·exact fun k hk=>ho.block k (hl k (by simp[hk])) fun hm=>n4 k hm k hk rfl
 ·rw[List.nodup_append,List.nodup_append];refine⟨n1,⟨hn,n3,fun a z b hb e=>?_⟩,fun a z b hb e=>?_⟩
  ·subst e
   rcases q a z with hm|hm
   ·exact n4 a hm a hb rfl
   have:=hl a (by simp[hb]);omega
  subst e
  rcases List.mem_append.1 hb with hb|hb
  ·rcases q a hb with hm|hm
   ·exact n5 a z a (by simp[hm]) rfl
   have:=hl a (by simp[z]);omega
  exact n5 a z a (by simp[hb]) rfl
 intro k hk;simp only[List.mem_append]at hk
 rcases hk with hk|hk|hk
 ·exact B k (by simp[hk])
 ·rcases q k hk with hm|hm
  ·exact B k (by simp[hm])
  have:=h1.size;omega
 exact B k (by simp[hk])
theorem aD.same{W w:World}{g:List Pc}(h:aD W w g)(j:Nat){p p':Pc}(hj:g[j]?=some p)(hp:∀F,tV w p F→tV w p' F):aD W w (g.set j p'):=by
 obtain⟨q,k1,k2,_,u⟩:=h.part j hj;exact u w p' q (hp q k1) k2 (fun k hk => .inl hk) (iZ.refl _ _)
theorem aD.two{W w:World}{K:List Pc}(h:aD W w K)(i j:Nat)(ao:i≠j){p q:Pc}(hi:K[i]?=some p)(hj:K[j]?=some q) :
  ∃z D,tV w p z/\tV w q D/\z.Nodup/\D.Nodup/\(∀k∈D,k∉z)/\(∀k∈z,W.heap.size<=k/\k<w.heap.size)/\(∀k∈D,W.heap.size<=k/\k<w.heap.size) /\
   ∀(w':World) (p':Pc) (u:List Nat),tV w' p' u→u.Nodup→(∀k∈u,k∈z∨k∈D∨w.heap.size<=k)→iZ z w w'→aD W w' ((K.set j (.cels [] [])).set i p'):=by
 obtain⟨h1,F,h2,h3,V⟩:=h;have hl:=h2.lt;obtain⟨U,D,F2,rfl,k1,k2⟩:=h2.at_ hj
 -- the second piece is given up: its blocks stay beside the first one's
 have am:=h3;rw[List.nodup_append,List.nodup_append]at h3;obtain⟨n1,⟨n2,n3,n4⟩,n5⟩:=h3;have hE:iW w (K.set j (.cels [] [])) (U++([]++F2)):=k2 w (.cels [] []) [] (show dh w [] [] [] from dH.2 ⟨rfl,rfl⟩) (Nat.le_refl _) (fun _ _=>rfl) (fun _ _=>rfl);rw[List.nil_append]at hE;have Z:(K.set j (.cels [] []))[i]?=some p:=by rw[List.getElem?_set_ne (by omega)];exact hi
 obtain⟨Q,z,R,hG,m1,m2⟩:=hE.at_ Z;have H:∀k,k∈U++F2↔k∈Q++(z++R):=fun k=>by rw[hG]
 have I:(Q++(z++R)).Nodup:=by
  rw[←hG,List.nodup_append];exact⟨n1,n3,fun a G b hb=>n5 a G b (by simp[hb])⟩
 have ad:=I;rw[List.nodup_append,List.nodup_append]at I;obtain⟨q1,⟨q2,q3,q4⟩,Y⟩:=I
 have J:∀k∈D,k∉Q++(z++R):=fun k hk hm=>by
  rcases List.mem_append.1 ((H k).2 hm)with hm|hm
  ·exact n5 k hm k (by simp[hk]) rfl
  exact n4 k hk k hm rfl
 have g:∀k,k∈Q++(z++R)→W.heap.size<=k/\k<w.heap.size:=fun k hk=>by
  have:=(H k).2 hk
  have hm:k∈U++(D++F2):=by
   rcases List.mem_append.1 this with h|h
   ·simp[h]
   simp[h]
  exact⟨V k hm,hl k hm⟩
 refine⟨z,D,m1,k1,q2,n2,fun k hk hm=>J k hk (by simp[hm]),fun k hk=>g k (by simp[hk]),fun k hk=>⟨V k (by simp[hk]),hl k (by simp[hk])⟩,fun w' p' u hp hn B ho=>⟨?_,Q++(u++R),m2 w' p' u hp ho.size ?_ ?_,?_,?_⟩⟩
 ·refine⟨ho.os.trans h1.os,ho.tape.trans h1.tape,ho.output.trans h1.output,Nat.le_trans h1.size ho.size,fun k hk=>?_⟩;refine(ho.block k (Nat.lt_of_lt_of_le hk h1.size) fun hm=>?_).trans (h1.block k hk);have:=g k (by simp[hm]);omega
 ·exact fun k hk=>ho.block k (g k (by simp[hk])).2 fun hm=>Y k hk k (by simp[hm]) rfl
 ·exact fun k hk=>ho.block k (g k (by simp[hk])).2 fun hm=>q4 k hm k hk rfl
 ·rw[List.nodup_append,List.nodup_append];refine⟨q1,⟨hn,q3,fun a G b hb e=>?_⟩,fun a G b hb e=>?_⟩
  ·subst e
   rcases B a G with hm|hm|hm
   ·exact q4 a hm a hb rfl
   ·exact J a hm (by simp[hb])
   have:=g a (by simp[hb]);omega
  subst e
  rcases List.mem_append.1 hb with hb|hb
  ·rcases B a hb with hm|hm|hm
   ·exact Y a G a (by simp[hm]) rfl
   ·exact J a hm (by simp[G])
   have:=g a (by simp[G]);omega
  exact Y a G a (by simp[hb]) rfl
 intro k hk;simp only[List.mem_append]at hk
 rcases hk with hk|hk|hk
 ·exact(g k (by simp[hk])).1
 ·rcases B k hk with hm|hm|hm
  ·exact(g k (by simp[hm])).1
  ·exact V k (by simp[hm])
  have:=h1.size;omega
 exact(g k (by simp[hk])).1
/-! ### blocks -/
theorem aD.blk{W w:World}{q:List Pc}(h:aD W w q)(j:Nat){g:Nat}{cs:Array Value}{t:TypeId}(hj:q[j]?=some (.blk g cs t)):w.heap[g]?=some (.cells cs t (0,0))/\W.heap.size<=g:=by
 obtain⟨F,k1,_,k3,_⟩:=h.part j hj;obtain⟨rfl,_,h3,_⟩:=k1;exact⟨h3,(k3 g (by simp)).1⟩
theorem aD.own{W w:World}{q:List Pc}(h:aD W w q)(j:Nat){g:Nat}{P:World→Prop}(hj:q[j]?=some (.own g P)):P w/\W.heap.size<=g/\g<w.heap.size:=by
 obtain⟨F,k1,_,k3,_⟩:=h.part j hj;obtain⟨rfl,h2,h3,_⟩:=k1;exact⟨h3,(k3 g (by simp)).1,h2⟩
theorem aD.put{W w:World}{q:List Pc}(h:aD W w q)(j:Nat){g:Nat}{cs:Array Value}{t:TypeId}(hj:q[j]?=some (.blk g cs t))(k:Nat)(v:Value):aD W (w.setCell ⟨g,k,none⟩ v) (q.set j (.blk g (cs.setIfInBounds k v) t)):=by
 obtain⟨F,k1,_,_,u⟩:=h.part j hj;obtain⟨rfl,h2,h3,_⟩:=k1;exact u _ _ [g] ⟨rfl,by simpa [World.setCell]using h2,nP h3 k v,fun z B e h=>e.trans h⟩ (by simp) (fun k hk => .inl hk) (tT (by simp) v)
theorem aD.own_upd{W w w':World}{q:List Pc}(h:aD W w q)(j:Nat){g:Nat}{P Q:World→Prop}(hj:q[j]?=some (.own g P))(hg:w.grownBy w' (some g))(G:Q w')(u:∀z B:World,B.heap[g]?=z.heap[g]?→Q z→Q B):aD W w' (q.set j (.own g Q)):=by
 obtain⟨F,k1,_,_,D⟩:=h.part j hj;obtain⟨rfl,h2,h3,_⟩:=k1;exact D _ _ [g] ⟨rfl,Nat.lt_of_lt_of_le h2 hg.size,G,u⟩ (by simp) (fun k hk => .inl hk) ⟨hg.os,hg.tape,hg.output,hg.size,fun i hi hn=>hg.block i hi (by intro e;injection e with e;subst e;exact hn (by simp))⟩
/-! ### rows -/
theorem aD.rd{W w:World}{g:List Pc}(h:aD W w g)(j:Nat){c:Cel}{v:Value}(hj:g[j]?=some (.cel c v)):RdC w w.heap.size c v:=by
 obtain⟨F,k1,_⟩:=h.part j hj;exact dJ.rd k1
theorem aD.ints{W w:World}{g:List Pc}(h:aD W w g)(j:Nat){xs:List Int}{A:Oh}{n c:Nat}(hj:g[j]?=some (.cel (aI xs) (.slice A n c))):bT w A n xs:=(h.rd j hj).ints
theorem aD.owned{W w:World}{g:List Pc}(h:aD W w g)(j:Nat){xs:List Int}{A:Oh}{n c:Nat}(hj:g[j]?=some (.cel (aI xs) (.slice A n c))):Own W.heap.size w A n c xs:=by
 obtain⟨F,k1,_,k3,_⟩:=h.part j hj;obtain⟨o,rfl⟩:=gy.1 k1;exact o.at0 fun k hk=>(k3 k hk).1
theorem aD.tree{W w:World}{g:List Pc}(h:aD W w g)(j:Nat){c:Cel}{v:Value}(hj:g[j]?=some (.cel c v)):iM W.heap.size w.heap.size w c v:=by
 obtain⟨F,k1,k2,k3,_⟩:=h.part j hj;exact⟨F,k1,k2,k3⟩
theorem aD.num{W w:World}{q:List Pc}(h:aD W w q)(j:Nat){e s n cap i:Nat}{A:Oh}{cs:List Cel}{x:Int}(hj:q[j]?=some (.cel (.row e s cs) (.slice A n cap)))(hi:cs[i]?=some (.int x)) :
  ∃g,A=some ⟨g,0,none⟩/\W.heap.size<=g/\g<w.heap.size/\w.cell? ⟨g,i,none⟩=some (.int .i64 x)/\w.frozen? ⟨g,i,none⟩=false /\
   ∀y:Int,aD W (w.setCell ⟨g,i,none⟩ (.int .i64 y)) (q.set j (.cel (.row e s (cs.set i (.int y))) (.slice A n cap))):=by
 obtain⟨F,k1,k2,k3,u⟩:=h.part j hj;obtain⟨g,rfl,hg,hc,hf,z⟩:=dJ.num k1 k2 hi;exact⟨g,rfl,(k3 g hg).1,(k3 g hg).2,hc,hf,fun y=>u _ _ F (z y) k2 (fun k hk => .inl hk) (tT hg _)⟩
theorem aD.slot{W w:World}{q:List Pc}(h:aD W w q)(i j:Nat)(B:i≠j){e s n cap m:Nat}{A:Oh}{cs:List Cel}{c u:Cel}{z:Value}(hi:q[i]?=some (.cel (.row e s cs) (.slice A n cap)))(hm:cs[m]?=some c)(hj:q[j]?=some (.cel u z)) :
  ∃g,A=some ⟨g,0,none⟩/\W.heap.size<=g/\g<w.heap.size/\(∃v,w.cell? ⟨g,m,none⟩=some v)/\w.frozen? ⟨g,m,none⟩=false /\
   aD W (w.setCell ⟨g,m,none⟩ z) ((q.set j (.cels [] [])).set i (.cel (.row e s (cs.set m u)) (.slice A n cap))):=by
 obtain⟨V,R,k1,k2,k3,G,Q,D,Y,K⟩:=h.two i j B hi hj;obtain⟨g,v,Z,rfl,hg,hc,hf,_,_,_,_,J⟩:=dJ.slot k1 k3 hm;obtain⟨F',H,I,U⟩:=J w u z R k2 G (fun k hk => .inr (Q k hk)) (iZ.refl _ _);exact⟨g,rfl,(D g hg).1,(D g hg).2,⟨v,hc⟩,hf,K _ _ F' H I (fun k hk=>by rcases U k hk with h|h;exact .inl h;exact .inr (.inl h)) (tT hg _)⟩
/-! ### append -/
theorem vQ{w w':World}{e size n g cap lo:Nat}{A:Oh}{cs nc:List Cel}{F F2:List Nat}{V:List Value}
  (hF:F.Nodup) (B:dh w nc V F2) (U:F2.Nodup) (hd:∀k∈F2,k∉F) {vs:List Value} {F':List Nat} (Q:F=blk A++F') (hl:dh w cs vs F')
  (W:w'.ownsRow lo e size (.slice (some ⟨g,0,none⟩) n cap) n (vs++V)) (J:w.grownBy w' (A.map (·.block))) (Y:A.map (·.block)=some g∨g=w.heap.size) :
  ∃G,dJ w' (.row e size (cs++nc)) (.slice (some ⟨g,0,none⟩) n cap) G/\G.Nodup/\(∀k∈G,k∈F∨k∈F2∨w.heap.size<=k)/\iZ F w w':=by
 subst Q;have K:∀k∈F',k<w.heap.size:=hl.lt;have z:∀k∈F2,k<w.heap.size:=B.lt;rw[List.nodup_append]at hF;obtain⟨m1,m2,m3⟩:=hF
 have j:∀k,k<w.heap.size→k∉blk A→w'.heap[k]?=w.heap[k]?:=fun k hk u=>by
  refine J.block k hk ?_
  cases hA':A with
  | none=>simp
  | some ad =>
   simp only[Option.map_some,ne_eq,Option.some.injEq];rintro rfl;exact u (by rw[hA'];simp[_root_.Go.Proofs.YtofihjoanjkdmaaGreat.blk])
 have H:∀k∈F2,k∉blk A:=fun k hk u=>hd k hk (List.mem_append_left _ u);have I:∀k∈F',k∉blk A:=fun k hk u=>m3 k u k hk rfl;have Z:dh w' (cs++nc) (vs++V) (F'++F2):=(hl.keep fun k hk=>j k (K k hk) (I k hk)).append (B.keep fun k hk=>j k (z k hk) (H k hk))
 have D:A.map (·.block)=some g→g∈blk A:=fun hg=>by
  cases hA':A with
  | none=>rw[hA']at hg;cases hg
  | some ad=>rw[hA']at hg;simp at hg;simp[_root_.Go.Proofs.YtofihjoanjkdmaaGreat.blk,hg]
 have R:g∉F'/\g∉F2:=by
  rcases Y with hg|hg
  ·exact⟨fun hk=>I g hk (D hg),fun hk=>H g hk (D hg)⟩
  subst hg;exact⟨fun hk=>by have:=K _ hk;omega,fun hk=>by have:=z _ hk;omega⟩
 refine⟨g::(F'++F2),?_,?_,fun k hk=>?_,⟨J.os,J.tape,J.output,J.size,fun k hk hn=>j k hk fun hA=>hn (List.mem_append_left _ hA)⟩⟩
 ·rw[dV];exact⟨_,_,_,_,F'++F2,rfl,⟨W.1,by rcases W.2 with h|⟨a,b,c',h,_,h'⟩;exact .inl h;exact .inr ⟨a,b,c',h,Nat.zero_le _,h'⟩⟩,rfl,Z⟩
 ·rw[List.nodup_cons,List.nodup_append];exact⟨by simp only[List.mem_append,not_or];exact R,m2,U,fun p hp q hq e=>hd q hq (List.mem_append_right _ (e ▸ hp))⟩
 simp only[List.mem_cons,List.mem_append]at hk
 rcases hk with rfl|hk|hk
 ·rcases Y with hg|hg
  ·exact .inl (List.mem_append_left _ (D hg))
  exact .inr (.inr (by omega))
 ·exact .inl (List.mem_append_right _ hk)
 exact .inr (.inl hk)
theorem yt{w:World}{B:Nat}{g:Array Value}{e:TypeId}{z:Nat×Nat}(D:w.heap[B]?=some (.cells g e z))(j:Nat)(u:Value)(q:g.toList[j]?=some u):w.cell? ((⟨B,0,none⟩:Addr).add j)=some u:=World.news_of_block D j u q
section
variable {ops:Array Oper} {rest:List Oper} {o:Oper} {a:Act} {Q:Exit→Act→World→Prop} {K:Act→World→Prop} {E:Prop} {w W:World}
theorem wQ(q:List Pc)(S:aD W w q)(i j:Nat)(B:i≠j)(e size n m c:Nat)(A:Oh)(cs nc:List Cel)(D:List Value)(hi:q[i]?=some (.cel (.row e size cs) (.slice A n c)))(hj:q[j]?=some (.cels nc D))
  {g cap:Nat} {w':World} (vs:List Value) (u:∀F,dJ w (.row e size cs) (.slice A n c) F→∃F',F=blk A++F'/\dh w cs vs F') (R:w'.ownsRow 0 e size (.slice (some ⟨g,0,none⟩) m cap) m (vs++D)) (Z:w.grownBy w' (A.map (·.block))) (V:A.map (·.block)=some g∨g=w.heap.size) :
  aD W w' ((q.set j (.cels [] [])).set i (.cel (.row e size (cs++nc)) (.slice (some ⟨g,0,none⟩) m cap))):=by
 obtain⟨Q,Fj,k1,k2,k3,H,U,_,_,K⟩:=S.two i j B hi hj;obtain⟨F',z,hl⟩:=u Q k1;obtain⟨G,I,J,u3,Y⟩:=vQ k3 k2 H U z hl R Z V;exact K w' _ G I J u3 Y
theorem EC{w:World}{e size n c:Nat}{A:Oh}{cs:List Cel}{R:List Nat}(h:dJ w (.row e size cs) (.slice A n c) R):∃vs,w.ownsRow 0 e size (.slice A n c) n vs/\∀F,dJ w (.row e size cs) (.slice A n c) F→∃F',F=blk A++F'/\dh w cs vs F':=by
 have h1:=h;rw[dV]at h1;obtain⟨W,Y,V,vs,F',B,z,rfl,hl⟩:=h1;injection B with hA hn hc
 subst hA hn hc;refine⟨vs,z,fun F hF=>?_⟩;rw[dV]at hF;obtain⟨A2,n2,c2,I,F2,D,u,rfl,H⟩:=hF;injection D with hA hn hc
 subst hA hn hc
 have e:I=vs:=by
  rcases z.2 with⟨B,rfl⟩|⟨g,cap,cur,B,_,Q,_,_,_,ht⟩
  ·have h2:=u.1;have h3:=z.1;rw[Nat.zero_mul]at h2 h3;rw[List.length_eq_zero_iff.1 h2,List.length_eq_zero_iff.1 h3]
  rcases u.2 with⟨q,_⟩|⟨U,J,K,q,_,j,_,_,_,G⟩
  ·rw[B]at q;injection q with hA _ _;cases hA
  rw[B]at q;injection q with hA _ _
  injection hA with hA
  injection hA with hA _ _
  subst hA;rw[Q]at j;injection j with j
  injection j with j _ _
  subst j;rw[←ht,←G]
 subst e;exact⟨F2,rfl,H⟩
theorem af(I:o.guard=none)(s x:Operand)(t e:TypeId)
  (ho:o.op=.call { callee := .builtin .append,args:=#[s,x],argTypes:=#[t,t] }) (D:TypeInfo) (z:Value) (size bytes:Nat) (ht:Tryz.prog.underlying t=some (.slice e)) (Y:Tryz.prog.info? e=some D) (J:D.zero=some z)
  (K:D.size=size) (ag:D.bytes=bytes) (Z:z.cells.size=size) (ae:0<size) (H:bytes<=64)
  (q:List Pc) (S:aD W w q) (i j:Nat) (G:i≠j) (n c B:Nat) (A:Oh) (cs nc:List Cel) (u:Array Value) (fr:Nat×Nat) (hi:q[i]?=some (.cel (.row e size cs) (.slice A n c))) (hj:q[j]?=some (.cels nc u.toList))
  (hs:a.eval s=.slice A n c) (hx:a.eval x=.slice (some ⟨B,0,none⟩) 1 1) (hB:w.heap[B]?=some (.cells u e fr)) (V:u.size=size) (hn:n<=1099511627776)
  (h:∀g cap w',aD W w' ((q.set j (.cels [] [])).set i (.cel (.row e size (cs++nc)) (.slice (some ⟨g,0,none⟩) (n+1) cap)))→w.heap.size<=w'.heap.size →
   wpList Tryz.prog ops Q rest (a.put o.dst (.slice (some ⟨g,0,none⟩) (n+1) cap)) w'):wpList Tryz.prog ops Q (o::rest) a w:=by
 obtain⟨Fi,Fj,k1,k2,_⟩:=S.two i j G hi hj;obtain⟨vs,U,R⟩:=EC k1
 exact wpList_append_lies w I s x t ho 0 e D z size bytes ht Y J K ag Z ae (.slice A n c) n vs hs U ⟨B,0,none⟩ 1 1 u.toList hx (by simp[V]) (yt hB) (dh.one k2) (by omega) (by unfold maxLen;omega) (Nat.le_trans (Nat.mul_le_mul_left _ H) (by omega)) (Nat.zero_le _) _ rfl
  fun g cap w' g1 g2 g3 _=>by rw[fu]at g2 g3;exact h g cap w' (wQ q S i j G e size n (n+1) c A cs nc u.toList hi hj vs R g1 g2 g3) g2.size
theorem iL(I:o.guard=none)(s x:Operand)(t e:TypeId)
  (ho:o.op=.call { callee := .builtin .append,args:=#[s,x],argTypes:=#[t,t] }) (D:TypeInfo) (z:Value) (size bytes:Nat) (ht:Tryz.prog.underlying t=some (.slice e)) (Z:Tryz.prog.info? e=some D) (J:D.zero=some z)
  (R:D.size=size) (ag:D.bytes=bytes) (ad:z.cells.size=size) (af:0<size) (H:bytes<=64)
  (q:List Pc) (S:aD W w q) (i j:Nat) (G:i≠j) (n c B:Nat) (A:Oh) (cs nc:List Cel) (u:Array Value) (fr:Nat×Nat) (hi:q[i]?=some (.cel (.row e size cs) (.slice A n c))) (hj:q[j]?=some (.cels nc u.toList))
  (hs:a.eval s=.slice A n c) (hx:a.eval x=.slice (some ⟨B,0,none⟩) 1 1) (hB:w.heap[B]?=some (.cells u e fr)) (Y:u.size=size) (hn:n<=1099511627776)
  (h:∀g cap w',aD W w' ((q.set j (.cels [] [])).set i (.cel (.row e size (cs++nc)) (.slice (some ⟨g,0,none⟩) (n+1) cap)))→w.heap.size<=w'.heap.size →
   K (a.put o.dst (.slice (some ⟨g,0,none⟩) (n+1) cap)) w'):if Region.wanted o (yielded ops a.tmps)=true then Oper.wp Tryz.prog o a w K Q else E:=by
 obtain⟨Fi,Fj,k1,k2,_⟩:=S.two i j G hi hj;obtain⟨vs,V,U⟩:=EC k1
 exact step_append_lies w I s x t ho 0 e D z size bytes ht Z J R ag ad af (.slice A n c) n vs hs V ⟨B,0,none⟩ 1 1 u.toList hx (by simp[Y]) (yt hB) (dh.one k2) (by omega) (by unfold maxLen;omega) (Nat.le_trans (Nat.mul_le_mul_left _ H) (by omega)) (Nat.zero_le _) _ rfl
  fun g cap w' g1 g2 g3 _=>by rw[fu]at g2 g3;exact h g cap w' (wQ q S i j G e size n (n+1) c A cs nc u.toList hi hj vs U g1 g2 g3) g2.size
theorem rZ(q:List Pc)(S:aD W w q)(i:Nat)(n m c:Nat)(A:Oh)(xs j:List Int)(hi:q[i]?=some (.cel (aI xs) (.slice A n c)))
  {g cap:Nat} {w':World} (D:w'.ownsRow 0 3 1 (.slice (some ⟨g,0,none⟩) m cap) m (xs.map (Value.int .i64)++j.map (Value.int .i64))) (J:w.grownBy w' (A.map (·.block))) (H:A.map (·.block)=some g∨g=w.heap.size) :
  aD W w' (q.set i (.cel (aI (xs++j)) (.slice (some ⟨g,0,none⟩) m cap))):=by
 obtain⟨F,k1,k2,_,u⟩:=S.part i hi;obtain⟨ho,rfl⟩:=gy.1 k1;obtain⟨G,z,B,K,I⟩:=vQ (cs:=xs.map .int) (nc:=j.map .int) (F2:=[]) (F':=[]) k2 (oJ.2 ⟨rfl,rfl⟩) (by simp) (by simp) (List.append_nil _).symm (oJ.2 ⟨rfl,rfl⟩) D J H;refine u w' _ G (by rw[aI,List.map_append];exact z) B (fun k hk=>?_) I
 rcases K k hk with h|h|h
 ·exact .inl h
 ·simp at h
 exact .inr h
theorem qF(g:List Pc)(S:aD W w g)(i:Nat)(n c:Nat)(A:Oh)(xs:List Int)(hi:g[i]?=some (.cel (aI xs) (.slice A n c))):w.ownsRow 0 3 1 (.slice A n c) n (xs.map (Value.int .i64)):=(S.owned i hi).more (Nat.zero_le _)
theorem bP(q:o.guard=none)(s x:Operand)
  (ho:o.op=.call { callee := .builtin .append,args:=#[s,x],argTypes:=#[26,26] })
  (j:List Pc) (S:aD W w j) (i:Nat) (A:Oh) (n c:Nat) (xs:List Int) (y:Int) (B:Nat) (U:Nat×Nat) (hi:j[i]?=some (.cel (aI xs) (.slice A n c))) (hs:a.eval s=.slice A n c) (hx:a.eval x=.slice (some ⟨B,0,none⟩) 1 1) (Y:w.heap[B]?=some (.cells #[.int .i64 y] 3 U))
  (hn:n<=1099511627776)
  (h:∀g cap w',aD W w' (j.set i (.cel (aI (xs++[y])) (.slice (some ⟨g,0,none⟩) (n+1) cap)))→w.heap.size<=w'.heap.size →
   wpList Tryz.prog ops Q rest (a.put o.dst (.slice (some ⟨g,0,none⟩) (n+1) cap)) w'):wpList Tryz.prog ops Q (o::rest) a w:=by
 obtain⟨R,G,z,D,I⟩:=info_parts iE
 exact wpList_append_lies w q s x 26 ho 0 3 R (.int .i64 0) 1 8 Tryz.underlying26 G z D I rfl (by omega) (.slice A n c) n (xs.map (Value.int .i64)) hs (qF j S i n c A xs hi) ⟨B,0,none⟩ 1 1 [.int .i64 y] hx rfl (yt Y) (fun u J=>by simp at J;subst J;rfl) (by omega) (by unfold maxLen;omega) (by omega) (Nat.zero_le _) _ rfl
  fun g cap w' V H K _=>by rw[fu]at H K;exact h g cap w' (rZ j S i n (n+1) c A xs [y] hi V H K) H.size
theorem iH(q:o.guard=none)(s x:Operand)
  (ho:o.op=.call { callee := .builtin .append,args:=#[s,x],argTypes:=#[26,26] })
  (j:List Pc) (S:aD W w j) (i:Nat) (A:Oh) (n c:Nat) (xs:List Int) (y:Int) (B:Nat) (V:Nat×Nat) (hi:j[i]?=some (.cel (aI xs) (.slice A n c))) (hs:a.eval s=.slice A n c) (hx:a.eval x=.slice (some ⟨B,0,none⟩) 1 1) (Z:w.heap[B]?=some (.cells #[.int .i64 y] 3 V))
  (hn:n<=1099511627776)
  (h:∀g cap w',aD W w' (j.set i (.cel (aI (xs++[y])) (.slice (some ⟨g,0,none⟩) (n+1) cap)))→w.heap.size<=w'.heap.size →
   K (a.put o.dst (.slice (some ⟨g,0,none⟩) (n+1) cap)) w'):if Region.wanted o (yielded ops a.tmps)=true then Oper.wp Tryz.prog o a w K Q else E:=by
 obtain⟨U,G,z,D,I⟩:=info_parts iE
 exact step_append_lies w q s x 26 ho 0 3 U (.int .i64 0) 1 8 Tryz.underlying26 G z D I rfl (by omega) (.slice A n c) n (xs.map (Value.int .i64)) hs (qF j S i n c A xs hi) ⟨B,0,none⟩ 1 1 [.int .i64 y] hx rfl (yt Z) (fun u J=>by simp at J;subst J;rfl) (by omega) (by unfold maxLen;omega) (by omega) (Nat.zero_le _) _ rfl
  fun g cap w' Y H R _=>by rw[fu]at H R;exact h g cap w' (rZ j S i n (n+1) c A xs [y] hi Y H R) H.size
end
end Go.Proofs.YtofihjoanjkdmaaGreat
