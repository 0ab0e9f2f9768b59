/- Reading tiles and logic elements out of memory. -/
import Derived.Test.YtofihjoanjkdmaaGreatCopy
import Derived.Test.YtofihjoanjkdmaaGreatTilePure
namespace Go.Proofs.YtofihjoanjkdmaaGreat
set_option maxRecDepth 100000
open Go.RowKit
theorem Le.cells_length (e:Le):e.cells.length=4:=rfl
theorem kT.cells_length (t:kT):t.cells.length=4:=rfl
theorem mQ {α:Type} {f:α→List Cel} (hf:∀x,(f x).length=4) (xs:List α):(xs.flatMap f).length=xs.length * 4:=by rw [tT hf,Nat.mul_comm]
theorem sQ {α:Type} {f:α→List Cel} (hf:∀x,(f x).length=4) {xs:List α} {k j:Nat} {x:α} (h:xs[k]?=some x) (hj:j<4):(xs.flatMap f)[k * 4+j]?=(f x)[j]?:=by rw [Nat.mul_comm];exact uh hf h hj
theorem getD_some {α:Type} {xs:List α} {k:Nat} (d:α) (h:k<xs.length):xs[k]?=some (xs[k]?.getD d):=by rw [List.getElem?_eq_getElem h];rfl
theorem eX {w:World} {B e s:Nat} {cs:List Cel} {v:Value} (h:RdC w B (.row e s cs) v):∃A n c,v = .slice A n c:=by
 rw [mI] at h
 obtain ⟨A,n,g,rfl,_⟩:=h
 exact ⟨A,n,g,rfl⟩
theorem RdC.tile {w:World} {B n c k:Nat} {A:Option Addr} {u:List kT} (h:RdC w B (FT u) (.slice A n c)) (hk:k<u.length) :
  ∃b o S m p L l q,A=some ⟨b,o,none⟩/\b<B/\w.cell? ⟨b,o+k * 4,none⟩=some (.slice S m p)/\w.cell? ⟨b,o+k * 4+1,none⟩=some (.slice L l q)/\w.cell? ⟨b,o+k * 4+2,none⟩=some (.int .i64 (u[k]?.getD kT.zero).pad)/\w.cell? ⟨b,o+k * 4+3,none⟩=some (.int .i64 (u[k]?.getD kT.zero).ram) /\
   RdC w B (aG (u[k]?.getD kT.zero).mux) (.slice S m p)/\RdC w B (DY (u[k]?.getD kT.zero).les) (.slice L l q):=by
 have hl:=mQ kT.cells_length u
 obtain ⟨b,o,rfl,Q,hc⟩:=h.cell (by rw [hl];omega)
 have J:=getD_some kT.zero hk
 generalize u[k]?.getD kT.zero=t at *
 have g:=fun (j:Nat) (hj:j<4)=>hc (k * 4+j) (by rw [hl];omega)
 obtain ⟨c0,Z,z,V,H⟩:=g 0 (by omega)
 obtain ⟨c1,v1,e1,U,G⟩:=g 1 (by omega)
 obtain ⟨c2,Y,e2,K,D⟩:=g 2 (by omega)
 obtain ⟨c3,W,e3,R,I⟩:=g 3 (by omega)
 rw [sQ kT.cells_length J (by omega)] at z e1 e2 e3
 simp only [kT.cells,List.getElem?_cons_zero,List.getElem?_cons_succ,Option.some.injEq] at z e1 e2 e3
 subst z e1 e2 e3
 rw [jV] at D I
 subst D I
 obtain ⟨S,m,p,rfl⟩:=eX (e:=3) (s:=1) H
 obtain ⟨L,l,q,rfl⟩:=eX (e:=121) (s:=4) G
 exact ⟨b,o,S,m,p,L,l,q,rfl,Q,V,U,K,R,H,G⟩
theorem RdC.le {w:World} {B n c k:Nat} {A:Option Addr} {es:List Le} (h:RdC w B (DY es) (.slice A n c)) (hk:k<es.length) :
  ∃b o S m p,A=some ⟨b,o,none⟩/\b<B/\w.cell? ⟨b,o+k * 4,none⟩=some (.slice S m p)/\w.cell? ⟨b,o+k * 4+1,none⟩=some (.int .i64 (es[k]?.getD Le.zero).mask)/\w.cell? ⟨b,o+k * 4+2,none⟩=some (.int .i64 (es[k]?.getD Le.zero).flop)/\w.cell? ⟨b,o+k * 4+3,none⟩=some (.int .i64 (es[k]?.getD Le.zero).init) /\
   RdC w B (aG (es[k]?.getD Le.zero).sel) (.slice S m p):=by
 have hl:=mQ Le.cells_length es
 obtain ⟨b,o,rfl,J,hc⟩:=h.cell (by rw [hl];omega)
 have H:=getD_some Le.zero hk
 generalize es[k]?.getD Le.zero=t at *
 have g:=fun (j:Nat) (hj:j<4)=>hc (k * 4+j) (by rw [hl];omega)
 obtain ⟨Y,W,q,R,D⟩:=g 0 (by omega)
 obtain ⟨c1,Z,e1,Q,z⟩:=g 1 (by omega)
 obtain ⟨c2,V,e2,I,u⟩:=g 2 (by omega)
 obtain ⟨c3,U,e3,K,G⟩:=g 3 (by omega)
 rw [sQ Le.cells_length H (by omega)] at q e1 e2 e3
 simp only [Le.cells,List.getElem?_cons_zero,List.getElem?_cons_succ,Option.some.injEq] at q e1 e2 e3
 subst q e1 e2 e3
 rw [jV] at z u G
 subst z u G
 obtain ⟨S,m,p,rfl⟩:=eX (e:=3) (s:=1) D
 exact ⟨b,o,S,m,p,rfl,J,R,Q,I,K,D⟩
theorem gF.sub {lo hi:Nat} {w:World} {e s n q j:Nat} {A:Option Addr} {cs:List Cel} (h:gF lo hi w (.row e s cs) (.slice A n q)) (hj:j<cs.length) :
  ∃g c v,A=some ⟨g,0,none⟩/\lo<=g/\g<hi/\g<w.heap.size/\cs[j]?=some c/\w.cell? ⟨g,j,none⟩=some v/\gF lo hi w c v:=by
 obtain ⟨g,c,v,e1,h1,h2,h3,h4,h5,_,⟨u,z,D,_,B,_⟩,_⟩:=h.cell hj
 exact ⟨g,c,v,e1,h1,h2,h3,h4,h5,u,z,D,B⟩
theorem qR {lo hi:Nat} {w:World} {x:Int} {v:Value} (h:gF lo hi w (.int x) v):v = .int .i64 x:=by
 obtain ⟨F,h1,_⟩:=h
 rw [fU] at h1
 exact h1.1
theorem rR {lo hi:Nat} {w:World} {e s:Nat} {cs:List Cel} {v:Value} (h:gF lo hi w (.row e s cs) v):∃A n c,v = .slice A n c:=by
 obtain ⟨F,h1,_⟩:=h
 rw [eY] at h1
 obtain ⟨A,n,g,vs,F',rfl,_⟩:=h1
 exact ⟨A,n,g,rfl⟩
theorem gF.tile {lo hi:Nat} {w:World} {n c k:Nat} {A:Option Addr} {u:List kT} (h:gF lo hi w (FT u) (.slice A n c)) (hk:k<u.length) :
  ∃g S m p L l q,A=some ⟨g,0,none⟩/\lo<=g/\g<hi/\g<w.heap.size/\w.cell? ⟨g,k * 4,none⟩=some (.slice S m p)/\w.cell? ⟨g,k * 4+1,none⟩=some (.slice L l q)/\w.cell? ⟨g,k * 4+2,none⟩=some (.int .i64 (u[k]?.getD kT.zero).pad)/\w.cell? ⟨g,k * 4+3,none⟩=some (.int .i64 (u[k]?.getD kT.zero).ram) /\
   gF lo hi w (aG (u[k]?.getD kT.zero).mux) (.slice S m p)/\gF lo hi w (DY (u[k]?.getD kT.zero).les) (.slice L l q):=by
 have hl:=mQ kT.cells_length u
 have J:=getD_some kT.zero hk
 generalize u[k]?.getD kT.zero=t at *
 have g:=fun (j:Nat) (hj:j<4)=>h.sub (j:=k * 4+j) (by rw [hl];omega)
 obtain ⟨Y,c0,v0,V,Q,b2,R,G,m0,I⟩:=g 0 (by omega)
 obtain ⟨g1,c1,v1,z,_,_,_,e1,Z,H⟩:=g 1 (by omega)
 obtain ⟨g2,c2,v2,B,_,_,_,e2,U,K⟩:=g 2 (by omega)
 obtain ⟨g3,c3,v3,D,_,_,_,e3,W,r3⟩:=g 3 (by omega)
 subst V
 injection z with z
 injection B with B
 injection D with D
 injection z with z
 injection B with B
 injection D with D
 subst z B D
 rw [sQ kT.cells_length J (by omega)] at G e1 e2 e3
 simp only [kT.cells,List.getElem?_cons_zero,List.getElem?_cons_succ,Option.some.injEq] at G e1 e2 e3
 subst G e1 e2 e3
 obtain rfl:=qR K
 obtain rfl:=qR r3
 obtain ⟨S,m,p,rfl⟩:=rR (e:=3) (s:=1) I
 obtain ⟨L,l,q,rfl⟩:=rR (e:=121) (s:=4) H
 exact ⟨Y,S,m,p,L,l,q,rfl,Q,b2,R,m0,Z,U,W,I,H⟩
theorem gF.le {lo hi:Nat} {w:World} {n c k:Nat} {A:Option Addr} {es:List Le} (h:gF lo hi w (DY es) (.slice A n c)) (hk:k<es.length) :
  ∃g S m p,A=some ⟨g,0,none⟩/\lo<=g/\g<hi/\g<w.heap.size/\w.cell? ⟨g,k * 4,none⟩=some (.slice S m p)/\w.cell? ⟨g,k * 4+1,none⟩=some (.int .i64 (es[k]?.getD Le.zero).mask)/\w.cell? ⟨g,k * 4+2,none⟩=some (.int .i64 (es[k]?.getD Le.zero).flop)/\w.cell? ⟨g,k * 4+3,none⟩=some (.int .i64 (es[k]?.getD Le.zero).init) /\
   gF lo hi w (aG (es[k]?.getD Le.zero).sel) (.slice S m p):=by
 have hl:=mQ Le.cells_length es
 have G:=getD_some Le.zero hk
 generalize es[k]?.getD Le.zero=t at *
 have g:=fun (j:Nat) (hj:j<4)=>h.sub (j:=k * 4+j) (by rw [hl];omega)
 obtain ⟨V,c0,v0,R,I,Y,J,B,Z,D⟩:=g 0 (by omega)
 obtain ⟨g1,c1,v1,q,_,_,_,e1,W,Q⟩:=g 1 (by omega)
 obtain ⟨g2,c2,v2,u,_,_,_,e2,K,H⟩:=g 2 (by omega)
 obtain ⟨g3,c3,v3,z,_,_,_,e3,U,r3⟩:=g 3 (by omega)
 subst R
 injection q with q
 injection u with u
 injection z with z
 injection q with q
 injection u with u
 injection z with z
 subst q u z
 rw [sQ Le.cells_length G (by omega)] at B e1 e2 e3
 simp only [Le.cells,List.getElem?_cons_zero,List.getElem?_cons_succ,Option.some.injEq] at B e1 e2 e3
 subst B e1 e2 e3
 obtain rfl:=qR Q
 obtain rfl:=qR H
 obtain rfl:=qR r3
 obtain ⟨S,m,p,rfl⟩:=rR (e:=3) (s:=1) D
 exact ⟨V,S,m,p,rfl,I,Y,J,Z,W,K,U,D⟩
structure iU (F:List Nat) (w w':World):Prop where
 os:w'.os=w.os
 tape:w'.tape=w.tape
 output:w'.output=w.output
 size:w.heap.size<=w'.heap.size
 block:∀k,k<w.heap.size→k∉F→w'.heap[k]?=w.heap[k]?
theorem iU.refl (F:List Nat) (w:World):iU F w w:=⟨rfl,rfl,rfl,Nat.le_refl _,fun _ _ _=>rfl⟩
theorem iU.trans {F:List Nat} {a b c:World} (h:iU F a b) (k:iU F b c):iU F a c :=
 ⟨k.os.trans h.os,k.tape.trans h.tape,k.output.trans h.output,Nat.le_trans h.size k.size,fun i hi hn=>(k.block i (Nat.lt_of_lt_of_le hi h.size) hn).trans (h.block i hi hn)⟩
theorem iU.more {F G:List Nat} {a b:World} (h:iU F a b) (hs:∀k∈F,k∈G):iU G a b:=⟨h.os,h.tape,h.output,h.size,fun i hi hn=>h.block i hi fun hf=>hn (hs i hf)⟩
theorem BF {A:Option Addr} {a b:World} (h:a.grownBy b (A.map (·.block))):iU (blk A) a b:=⟨h.os,h.tape,h.output,h.size,fun i hi hn=>h.block i hi (by
 cases A with
 | none=>simp
 | some g =>
  simp only [Option.map_some,ne_eq,Option.some.injEq]
  rintro rfl
  exact hn (by simp [blk]))⟩
theorem sS {F:List Nat} {w:World} {p:Addr} (g:p.block∈F) (v:Value):iU F w (w.setCell p v) :=
 ⟨rfl,rfl,rfl,by simp [World.setCell],fun k _ hn=>Below.heap_setCell _ _ _ _ (by rintro rfl;exact hn g)⟩
theorem dD.child {w:World} {e s n H j:Nat} {A:Option Addr} {cs:List Cel} {F:List Nat} {c:Cel} (h:dD w (.row e s cs) (.slice A n H) F) (K:F.Nodup) (hc:cs[j]?=some c) :
  ∃g v q,A=some ⟨g,0,none⟩/\g∈F/\w.cell? ⟨g,j,none⟩=some v/\dD w c v q/\q.Nodup/\g∉q/\(∀k∈q,k∈F) /\
   ∀(w':World) (I:Cel),dD w' I v q→iU q w w'→dD w' (.row e s (cs.set j I)) (.slice A n H) F:=by
 have hj:=(List.getElem?_eq_some_iff.1 hc).1
 have D:=h.lt
 obtain ⟨g,U,v,V,q,F2,rfl,e1,z,_,rfl,h4,h5,_⟩:=h.cell hj
 rw [hc] at e1
 injection e1 with e1
 subst e1
 rw [List.nodup_cons] at K
 obtain ⟨u,G⟩:=K
 simp only [List.mem_append,not_or] at u
 rw [List.nodup_append,List.nodup_append] at G
 obtain ⟨n1,⟨n2,n3,R⟩,Q⟩:=G
 refine ⟨g,v,q,rfl,by simp,z,h4,n2,u.2.1,fun k hk=>by simp [hk],fun w' I J ho=>?_⟩
 refine h5 w' I J (ho.block g (D g (by simp)) u.2.1) (fun k hk=>ho.block k (D k (by simp [hk])) fun B=>?_) (fun k hk=>ho.block k (D k (by simp [hk])) fun B=>?_)
 ·exact Q k hk k (by simp [B]) rfl
 exact R k B k hk rfl
theorem dD.num {w:World} {e s n z j:Nat} {A:Option Addr} {cs:List Cel} {F:List Nat} {x:Int} (h:dD w (.row e s cs) (.slice A n z) F) (D:F.Nodup) (hc:cs[j]?=some (.int x)) :
  ∃g,A=some ⟨g,0,none⟩/\g∈F/\w.cell? ⟨g,j,none⟩=some (.int .i64 x)/\w.frozen? ⟨g,j,none⟩=false /\
   ∀y:Int,dD (w.setCell ⟨g,j,none⟩ (.int .i64 y)) (.row e s (cs.set j (.int y))) (.slice A n z) F:=by
 have hj:=(List.getElem?_eq_some_iff.1 hc).1
 obtain ⟨g,H,v,J,I,F2,rfl,e1,u,B,rfl,h4,_,G⟩:=h.cell hj
 rw [hc] at e1
 injection e1 with e1
 subst e1
 rw [fU] at h4
 obtain ⟨rfl,rfl⟩:=h4
 rw [List.nodup_cons] at D
 obtain ⟨q,_⟩:=D
 simp only [List.nil_append,List.mem_append,not_or] at q
 exact ⟨g,rfl,by simp,u,B,fun y=>G (.int y) (.int .i64 y) [] (fU.2 ⟨rfl,rfl⟩) q.1 (by simp) q.2⟩
/-! ### marking tiles -/
theorem EI {w:World} (e s:Nat) {g:Nat} (hg:w.heap.size=g):gF g (g+1) (w.alloc (.cells #[] e)) (.row e s []) (.slice (some ⟨g,0,none⟩) 0 0):=by
 subst hg
 refine ⟨[w.heap.size],?_,by simp,by simp⟩
 rw [eY]
 exact ⟨_,0,0,[],[],rfl,⟨by simp,.inr ⟨w.heap.size,0,#[],rfl,Nat.zero_le _,aI _ _,Nat.le_refl _,Nat.zero_le _,by simp,by simp⟩⟩,by simp [blk],fF.2 ⟨rfl,rfl⟩⟩
theorem di.part {lo hi:Nat} {w:World} {cs:List Cel} {vs:List Value} {j:Nat} {c:Cel} {v:Value} (h:di lo hi w cs vs) (hc:cs[j]?=some c) (U:vs[j]?=some v) :
  ∃D,dD w c v D/\D.Nodup/\(∀k∈D,lo<=k/\k<hi) /\
   ∀(w':World) (J:Cel) (I:Value) (g:List Nat) (z:Nat),dD w' J I g→g.Nodup→(∀k∈g,k∈D∨(hi<=k/\lo<=k/\k<z))→hi<=z→iU D w w'→di lo z w' (cs.set j J) (vs.set j I):=by
 obtain ⟨F,h1,h2,h3⟩:=h
 have hj:j<cs.length:=(List.getElem?_eq_some_iff.1 hc).1
 have H:=h1.lt
 obtain ⟨Y,W,V,D,F2,e1,e2,rfl,h4,h5⟩:=h1.at_ hj
 rw [hc] at e1
 rw [U] at e2
 injection e1 with e1
 injection e2 with e2
 subst e1 e2
 rw [List.nodup_append,List.nodup_append] at h2
 obtain ⟨n1,⟨n2,n3,R⟩,K⟩:=h2
 refine ⟨D,h4,n2,fun k hk=>h3 k (by simp [hk]),fun w' J I g z Q hn u Z ho=>⟨V++(g++F2),h5 w' J I g Q ?_ ?_,?_,?_⟩⟩
 ·exact fun k hk=>ho.block k (H k (by simp [hk])) fun q=>K k hk k (by simp [q]) rfl
 ·exact fun k hk=>ho.block k (H k (by simp [hk])) fun q=>R k q k hk rfl
 ·rw [List.nodup_append,List.nodup_append]
  refine ⟨n1,⟨hn,n3,fun a G b B e=>?_⟩,fun a G b B e=>?_⟩
  ·subst e
   rcases u a G with q|q
   ·exact R a q a B rfl
   have:=h3 a (by simp [B]);omega
  subst e
  rcases List.mem_append.1 B with B|B
  ·rcases u a B with q|q
   ·exact K a G a (by simp [q]) rfl
   have:=h3 a (by simp [G]);omega
  exact K a G a (by simp [B]) rfl
 intro k hk
 simp only [List.mem_append] at hk
 rcases hk with hk|hk|hk
 ·have:=h3 k (by simp [hk]);omega
 ·rcases u k hk with q|q
  ·have:=h3 k (by simp [q]);omega
  omega
 have:=h3 k (by simp [hk]);omega
theorem dD.slot {w:World} {e s n B j:Nat} {A:Option Addr} {cs:List Cel} {F:List Nat} {c:Cel} (h:dD w (.row e s cs) (.slice A n B) F) (hF:F.Nodup) (hc:cs[j]?=some c) :
  ∃g v I,A=some ⟨g,0,none⟩/\g∈F/\w.cell? ⟨g,j,none⟩=some v/\w.frozen? ⟨g,j,none⟩=false/\dD w c v I/\I.Nodup/\g∉I/\(∀k∈I,k∈F) /\
   ∀(w':World) (W:Cel) (Q:Value) (q:List Nat),dD w' W Q q→q.Nodup→(∀k∈q,k∈I∨k∉F)→iU I w w' →
    ∃F',dD (w'.setCell ⟨g,j,none⟩ Q) (.row e s (cs.set j W)) (.slice A n B) F'/\F'.Nodup/\∀k∈F',k∈F∨k∈q:=by
 have hj:=(List.getElem?_eq_some_iff.1 hc).1
 have D:=h.lt
 rw [eY] at h
 obtain ⟨A',n',ar,vs,F',hv,ho,rfl,hl⟩:=h
 injection hv with hA hn hcc
 subst hA hn hcc
 obtain ⟨c0,v,F1,I,F2,e1,e2,rfl,h3,h4⟩:=hl.at_ hj
 rw [hc] at e1
 injection e1 with e1
 subst e1
 obtain ⟨g,cur,rfl,au,af,ak,hh,ah,ht,K,ag⟩:=mF ho e2
 have al:blk (some (⟨g,0,none⟩:Addr))=[g]:=rfl
 rw [al] at hF D
 simp only [List.singleton_append,List.nodup_cons,List.mem_append,not_or] at hF
 obtain ⟨⟨g1,gj,g2⟩,U⟩:=hF
 rw [List.nodup_append,List.nodup_append] at U
 obtain ⟨n1,⟨n2,n3,n4⟩,Y⟩:=U
 refine ⟨g,v,I,rfl,by simp [blk],K,ag,h3,n2,gj,fun k hk=>by simp [hk],fun w' W Q q ad ae z R=>?_⟩
 have G:g∉q:=fun u=>by
  rcases z g u with u|u
  ·exact gj u
  exact u (by simp [blk])
 have J:∀{L:List Nat},g∉L→∀k∈L,(w'.setCell ⟨g,j,none⟩ Q).heap[k]?=w'.heap[k]?:=fun hn k hk=>Below.heap_setCell _ _ _ _ (by rintro rfl;exact hn hk)
 have Z:w'.heap[g]?=some (.cells cur e (0,0)):=(R.block g (D g (by simp)) gj).trans hh
 refine ⟨[g]++(F1++(q++F2)),?_,?_,fun k hk=>?_⟩
 ·rw [eY]
  refine ⟨_,n,B,vs.set j Q,F1++(q++F2),rfl,⟨by rw [List.length_set];exact ho.1,.inr ⟨g,B,cur.setIfInBounds j Q,rfl,Nat.zero_le _,by simp [World.setCell,Array.getElem?_modify,Z],af,ak,by simp [ah],?_⟩⟩,rfl,
   h4 _ W Q q (ad.keep (J G)) (fun k hk=>(J g1 k hk).trans (R.block k (D k (by simp [hk])) fun u=>Y k hk k (by simp [u]) rfl)) (fun k hk=>(J g2 k hk).trans (R.block k (D k (by simp [hk])) fun u=>n4 k u k hk rfl))⟩
  simp only [Array.toList_setIfInBounds,List.take_set,ht]
 ·simp only [List.singleton_append,List.nodup_cons,List.mem_append,not_or]
  refine ⟨⟨g1,G,g2⟩,?_⟩
  rw [List.nodup_append,List.nodup_append]
  refine ⟨n1,⟨ae,n3,fun a V b H e=>?_⟩,fun a V b H e=>?_⟩
  ·subst e
   rcases z a V with u|u
   ·exact n4 a u a H rfl
   exact u (by simp [H])
  subst e
  rcases List.mem_append.1 H with H|H
  ·rcases z a H with u|u
   ·exact Y a V a (by simp [u]) rfl
   exact u (by simp [V])
  exact Y a V a (by simp [H]) rfl
 simp only [List.singleton_append,List.mem_cons,List.mem_append] at hk
 rcases hk with rfl|hk|hk|hk
 ·exact .inl (by simp [blk])
 ·exact .inl (by simp [hk])
 ·exact .inr hk
 exact .inl (by simp [hk])
/-! ### pieces -/
inductive Pc where
 | cel (c:Cel) (v:Value)
 | cels (cs:List Cel) (vs:List Value)
 | own (g:Nat) (P:World→Prop)
abbrev Pc.blk (g:Nat) (cs:Array Value) (t:TypeId):Pc := .own g fun w=>w.heap[g]?=some (.cells cs t (0,0))
def qU (w:World):Pc→List Nat→Prop
 | .cel c v,F=>dD w c v F
 | .cels cs vs,F=>ek w cs vs F
 | .own g P,F=>F=[g]/\g<w.heap.size/\P w/\∀j q:World,q.heap[g]?=j.heap[g]?→P j→P q
theorem qU.keep {w w':World} {p:Pc} {F:List Nat} (h:qU w p F) (j:w.heap.size<=w'.heap.size) (hk:∀k∈F,w'.heap[k]?=w.heap[k]?):qU w' p F:=by
 cases p with
 | cel c v=>exact dD.keep h hk
 | cels cs vs=>exact ek.keep h hk
 | own g P =>
  obtain ⟨rfl,h1,h2,h3⟩:=h
  exact ⟨rfl,Nat.lt_of_lt_of_le h1 j,h3 w w' (hk g (by simp)) h2,h3⟩
theorem qU.lt {w:World} {p:Pc} {F:List Nat} (h:qU w p F):∀k∈F,k<w.heap.size:=by
 cases p with
 | cel c v=>exact dD.lt h
 | cels cs vs=>exact ek.lt h
 | own g P =>
  obtain ⟨rfl,h1,_⟩:=h
  intro k hk
  rw [List.mem_singleton] at hk
  exact hk ▸ h1
def iO (w:World):List Pc→List Nat→Prop
 | [],F=>F=[]
 | p :: j,F=>∃g F2,F=g++F2/\qU w p g/\iO w j F2
theorem iO.keep {w w':World}:∀{j:List Pc} {F:List Nat},iO w j F→w.heap.size<=w'.heap.size→(∀k∈F,w'.heap[k]?=w.heap[k]?)→iO w' j F
 | [],_,h,_,_=>h
 | p :: j,F,h,q,hk=>by
  obtain ⟨u,F2,rfl,h1,h2⟩:=h
  exact ⟨u,F2,rfl,h1.keep q fun k g=>hk k (List.mem_append_left _ g),iO.keep h2 q fun k g=>hk k (List.mem_append_right _ g)⟩
theorem iO.lt {w:World}:∀{g:List Pc} {F:List Nat},iO w g F→∀k∈F,k<w.heap.size
 | [],F,h=>by rw [show F=[] from h];simp
 | p :: g,F,h=>by
  obtain ⟨j,F2,rfl,h1,h2⟩:=h
  intro k hk
  rcases List.mem_append.1 hk with hk|hk
  ·exact h1.lt k hk
  exact iO.lt h2 k hk
theorem iO.append {w:World}:∀{g qs:List Pc} {F G:List Nat},iO w g F→iO w qs G→iO w (g++qs) (F++G)
 | [],qs,F,G,h,k=>by rw [show F=[] from h];exact k
 | p :: g,qs,F,G,h,k=>by
  obtain ⟨j,F2,rfl,h1,h2⟩:=h
  exact ⟨j,F2++G,List.append_assoc _ _ _,h1,iO.append h2 k⟩
theorem iO.at_ {w:World}:∀{D:List Pc} {F:List Nat},iO w D F→∀{j:Nat} {p:Pc},D[j]?=some p →
  ∃u K F2,F=u++(K++F2)/\qU w p K /\
   ∀(w':World) (z:Pc) (g:List Nat),qU w' z g→w.heap.size<=w'.heap.size→(∀k∈u,w'.heap[k]?=w.heap[k]?)→(∀k∈F2,w'.heap[k]?=w.heap[k]?)→iO w' (D.set j z) (u++(g++F2))
 | [],F,h,j,p,hj=>by simp at hj
 | q :: D,F,h,0,p,hj=>by
  obtain ⟨u,F2,rfl,h1,h2⟩:=h
  simp only [List.getElem?_cons_zero,Option.some.injEq] at hj
  subst hj
  refine ⟨[],u,F2,rfl,h1,fun w' z g H G _ hk=>?_⟩
  rw [List.set_cons_zero,List.nil_append]
  exact ⟨g,F2,rfl,H,h2.keep G hk⟩
 | q :: D,F,h,j+1,p,hj=>by
  obtain ⟨u,F2,rfl,h1,h2⟩:=h
  rw [List.getElem?_cons_succ] at hj
  obtain ⟨J,R,Q,rfl,h3,h4⟩:=iO.at_ h2 hj
  refine ⟨u++J,R,Q,by simp,h3,fun w' z g H G B I=>?_⟩
  rw [List.set_cons_succ]
  exact ⟨u,J++(g++Q),by simp,h1.keep G fun k hk=>B k (List.mem_append_left _ hk),h4 w' z g H G (fun k hk=>B k (List.mem_append_right _ hk)) I⟩
def aJ (W w:World) (g:List Pc):Prop:=Below W.heap.size W w/\∃F,iO w g F/\F.Nodup/\∀k∈F,W.heap.size<=k
theorem aJ.bel {W w:World} {g:List Pc} (h:aJ W w g):Below W.heap.size W w:=h.1
theorem aJ.size {W w:World} {g:List Pc} (h:aJ W w g):W.heap.size<=w.heap.size:=h.1.size
theorem aJ.refl (W:World):aJ W W []:=⟨Below.refl _ _,[],rfl,by simp,by simp⟩
theorem aJ.nil {W w:World} (h:Below W.heap.size W w):aJ W w []:=⟨h,[],rfl,by simp,by simp⟩
theorem aJ.below {W w w':World} {j:List Pc} (h:aJ W w j) (g:Below w.heap.size w w'):aJ W w' j:=by
 obtain ⟨h1,F,h2,h3,h4⟩:=h
 exact ⟨aA h1 g,F,h2.keep g.size fun k hk=>g.block k (h2.lt k hk),h3,h4⟩
theorem aJ.alloc {W w:World} {g:List Pc} (h:aJ W w g) (o:Obj):aJ W (w.alloc o) g:=h.below (aD (Below.refl _ _) o)
theorem aJ.drew {W w:World} {g:List Pc} (h:aJ W w g):aJ W w.drew g:=h.below (Below.refl _ _).drew
theorem aJ.drewN {W w:World} {g:List Pc} (h:aJ W w g) (n:Nat):aJ W (w.drewN n) g:=h.below (bB (Below.refl _ _) n)
theorem aJ.push {W w w':World} {q:List Pc} {p:Pc} {G:List Nat} (h:aJ W w q) (j:Below w.heap.size w w') (u:qU w' p G) (hn:G.Nodup) (hg:∀k∈G,w.heap.size<=k):aJ W w' (q++[p]):=by
 obtain ⟨h1,F,h2,h3,h4⟩:=h
 have hl:=h2.lt
 refine ⟨aA h1 j,F++(G++[]),(h2.keep j.size fun k hk=>j.block k (hl k hk)).append ⟨G,[],rfl,u,rfl⟩,?_,fun k hk=>?_⟩
 ·rw [List.append_nil,List.nodup_append]
  exact ⟨h3,hn,fun a z b g e=>by have:=hl a z;have:=hg b g;omega⟩
 rw [List.append_nil,List.mem_append] at hk
 rcases hk with hk|hk
 ·exact h4 k hk
 have:=hg k hk;have:=h1.size;omega
theorem aJ.cons {W w w':World} {q:List Pc} {p:Pc} {G:List Nat} (h:aJ W w q) (j:Below w.heap.size w w') (u:qU w' p G) (hn:G.Nodup) (hg:∀k∈G,w.heap.size<=k):aJ W w' (p :: q):=by
 obtain ⟨h1,F,h2,h3,h4⟩:=h
 have hl:=h2.lt
 refine ⟨aA h1 j,G++F,⟨G,F,rfl,u,h2.keep j.size fun k hk=>j.block k (hl k hk)⟩,?_,fun k hk=>?_⟩
 ·rw [List.nodup_append]
  exact ⟨hn,h3,fun a z b g e=>by have:=hl b g;have:=hg a z;omega⟩
 rw [List.mem_append] at hk
 rcases hk with hk|hk
 ·have:=hg k hk;have:=h1.size;omega
 exact h4 k hk
theorem aJ.consOwn {W w w':World} {g:List Pc} {A:Option Addr} {n c:Nat} {xs:List Int} (h:aJ W w g) (j:Below w.heap.size w w') (ho:Own w.heap.size w' A n c xs):aJ W w' (.cel (aG xs) (.slice A n c) :: g) :=
 h.cons j (show dD w' (aG xs) (.slice A n c) (blk A) from gB.2 ⟨ho.more (Nat.zero_le _),rfl⟩) (by cases A <;> simp [blk]) fun k hk=>by
  obtain ⟨a,rfl,rfl⟩:=nz.1 hk
  exact (ho.lt a rfl).1
theorem aJ.tail {W w:World} {p:Pc} {g:List Pc} (h:aJ W w (p :: g)):aJ W w g:=by
 obtain ⟨h1,F,⟨j,F2,rfl,_,h3⟩,h4,h5⟩:=h
 exact ⟨h1,F2,h3,(List.nodup_append.1 h4).2.1,fun k hk=>h5 k (List.mem_append_right _ hk)⟩
theorem aJ.pushOwn {W w w':World} {g:List Pc} {A:Option Addr} {n c:Nat} {xs:List Int} (h:aJ W w g) (j:Below w.heap.size w w') (ho:Own w.heap.size w' A n c xs):aJ W w' (g++[.cel (aG xs) (.slice A n c)]) :=
 h.push j (show dD w' (aG xs) (.slice A n c) (blk A) from gB.2 ⟨ho.more (Nat.zero_le _),rfl⟩) (by cases A <;> simp [blk]) fun k hk=>by
  obtain ⟨a,rfl,rfl⟩:=nz.1 hk
  exact (ho.lt a rfl).1
theorem aJ.pushT {W w w':World} {g:List Pc} {c:Cel} {v:Value} {hi:Nat} (h:aJ W w g) (j:Below w.heap.size w w') (ho:gF w.heap.size hi w' c v):aJ W w' (g++[.cel c v]):=by
 obtain ⟨F,h1,h2,h3⟩:=ho
 exact h.push j h1 h2 fun k hk=>(h3 k hk).1
theorem aJ.pushBlk {W w:World} {g:List Pc} (h:aJ W w g) (cs:Array Value) (t:TypeId):aJ W (w.alloc (.cells cs t)) (g++[.blk w.heap.size cs t]) :=
 h.push (aD (Below.refl _ _) _) (G:=[w.heap.size]) ⟨rfl,by simp,aI _ _,fun j q e h=>e.trans h⟩ (by simp) (by simp)
theorem aJ.pushNil {W w:World} {g:List Pc} (h:aJ W w g) (e s:Nat):aJ W w (g++[.cel (.row e s []) (.slice none 0 0)]) :=
 h.push (Below.refl _ _) (G:=[]) (show dD w (.row e s []) (.slice none 0 0) [] by rw [eY];exact ⟨none,0,0,[],[],rfl,⟨by simp,.inl ⟨rfl,rfl⟩⟩,rfl,fF.2 ⟨rfl,rfl⟩⟩) (by simp) (by simp)
theorem aJ.pushNew {W w:World} {g:List Pc} (h:aJ W w g) (e s:Nat):aJ W (w.alloc (.cells #[] e)) (g++[.cel (.row e s []) (.slice (some ⟨w.heap.size,0,none⟩) 0 0)]):=by
 obtain ⟨F,h1,h2,h3⟩:=EI (w:=w) e s rfl
 exact h.push (aD (Below.refl _ _) _) h1 h2 fun k hk=>(h3 k hk).1
theorem iO.sub {w:World} {u qs:List Pc} (hs:qs.Sublist u):∀{F:List Nat},iO w u F→∃G,iO w qs G/\G.Sublist F:=by
 induction hs with
 | slnil=>intro F h;exact ⟨F,h,List.Sublist.refl _⟩
 | cons p _ ih =>
  intro F h
  obtain ⟨j,F2,rfl,_,h2⟩:=h
  obtain ⟨G,g,q⟩:=ih h2
  exact ⟨G,g,q.trans (List.sublist_append_right _ _)⟩
 | cons_cons p _ ih =>
  intro F h
  obtain ⟨j,F2,rfl,h1,h2⟩:=h
  obtain ⟨G,g,q⟩:=ih h2
  exact ⟨j++G,⟨j,G,rfl,h1,g⟩,List.Sublist.append (List.Sublist.refl _) q⟩
theorem aJ.sub {W w:World} {g qs:List Pc} (h:aJ W w g) (hs:qs.Sublist g):aJ W w qs:=by
 obtain ⟨h1,F,h2,h3,h4⟩:=h
 obtain ⟨G,q,j⟩:=h2.sub hs
 exact ⟨h1,G,q,j.nodup h3,fun k hk=>h4 k (j.subset hk)⟩
theorem aJ.part {W w:World} {I:List Pc} (h:aJ W w I) (j:Nat) {p:Pc} (hj:I[j]?=some p) :
  ∃B,qU w p B/\B.Nodup/\(∀k∈B,W.heap.size<=k/\k<w.heap.size) /\
   ∀(w':World) (G:Pc) (q:List Nat),qU w' G q→q.Nodup→(∀k∈q,k∈B∨w.heap.size<=k)→iU B w w'→aJ W w' (I.set j G):=by
 obtain ⟨h1,F,h2,h3,h4⟩:=h
 have hl:=h2.lt
 obtain ⟨R,B,F2,rfl,U,V⟩:=h2.at_ hj
 have Q:=h3
 rw [List.nodup_append,List.nodup_append] at h3
 obtain ⟨n1,⟨n2,n3,J⟩,H⟩:=h3
 refine ⟨B,U,n2,fun k hk=>⟨h4 k (by simp [hk]),hl k (by simp [hk])⟩,fun w' G q K hn u ho=>⟨?_,R++(q++F2),V w' G q K ho.size ?_ ?_,?_,?_⟩⟩
 ·refine ⟨ho.os.trans h1.os,ho.tape.trans h1.tape,ho.output.trans h1.output,Nat.le_trans h1.size ho.size,fun k hk=>?_⟩
  refine (ho.block k (Nat.lt_of_lt_of_le hk h1.size) fun g=>?_).trans (h1.block k hk)
  have:=h4 k (by simp [g])
  omega
 ·exact fun k hk=>ho.block k (hl k (by simp [hk])) fun g=>H k hk k (by simp [g]) rfl
 ·exact fun k hk=>ho.block k (hl k (by simp [hk])) fun g=>J k g k hk rfl
 ·rw [List.nodup_append,List.nodup_append]
  refine ⟨n1,⟨hn,n3,fun a D b z e=>?_⟩,fun a D b z e=>?_⟩
  ·subst e
   rcases u a D with g|g
   ·exact J a g a z rfl
   have:=hl a (by simp [z]);omega
  subst e
  rcases List.mem_append.1 z with z|z
  ·rcases u a z with g|g
   ·exact H a D a (by simp [g]) rfl
   have:=hl a (by simp [D]);omega
  exact H a D a (by simp [z]) rfl
 intro k hk
 simp only [List.mem_append] at hk
 rcases hk with hk|hk|hk
 ·exact h4 k (by simp [hk])
 ·rcases u k hk with g|g
  ·exact h4 k (by simp [g])
  have:=h1.size;omega
 exact h4 k (by simp [hk])
theorem aJ.same {W w:World} {g:List Pc} (h:aJ W w g) (j:Nat) {p q:Pc} (hj:g[j]?=some p) (B:∀F,qU w p F→qU w q F):aJ W w (g.set j q):=by
 obtain ⟨u,z,D,_,G⟩:=h.part j hj
 exact G w q u (B u z) D (fun k hk => .inl hk) (iU.refl _ _)
theorem aJ.two {W w:World} {R:List Pc} (h:aJ W w R) (i j:Nat) (ao:i≠j) {p q:Pc} (hi:R[i]?=some p) (hj:R[j]?=some q) :
  ∃B H,qU w p B/\qU w q H/\B.Nodup/\H.Nodup/\(∀k∈H,k∉B)/\(∀k∈B,W.heap.size<=k/\k<w.heap.size)/\(∀k∈H,W.heap.size<=k/\k<w.heap.size) /\
   ∀(w':World) (Y:Pc) (z:List Nat),qU w' Y z→z.Nodup→(∀k∈z,k∈B∨k∈H∨w.heap.size<=k)→iU B w w'→aJ W w' ((R.set j (.cels [] [])).set i Y):=by
 obtain ⟨h1,F,h2,h3,h4⟩:=h
 have hl:=h2.lt
 obtain ⟨F1,H,F2,rfl,k1,k2⟩:=h2.at_ hj
 -- the second piece is given up: its blocks stay beside the first one's
 have am:=h3
 rw [List.nodup_append,List.nodup_append] at h3
 obtain ⟨n1,⟨n2,n3,n4⟩,n5⟩:=h3
 have hE:iO w (R.set j (.cels [] [])) (F1++([]++F2)):=k2 w (.cels [] []) [] (show ek w [] [] [] from fF.2 ⟨rfl,rfl⟩) (Nat.le_refl _) (fun _ _=>rfl) (fun _ _=>rfl)
 rw [List.nil_append] at hE
 have Z:(R.set j (.cels [] []))[i]?=some p:=by rw [List.getElem?_set_ne (by omega)];exact hi
 obtain ⟨U,B,V,hG,m1,m2⟩:=hE.at_ Z
 have J:∀k,k∈F1++F2↔k∈U++(B++V):=fun k=>by rw [hG]
 have K:(U++(B++V)).Nodup:=by
  rw [←hG,List.nodup_append]
  exact ⟨n1,n3,fun a I b G=>n5 a I b (by simp [G])⟩
 have ai:=K
 rw [List.nodup_append,List.nodup_append] at K
 obtain ⟨q1,⟨q2,q3,q4⟩,q5⟩:=K
 have Q:∀k∈H,k∉U++(B++V):=fun k hk g=>by
  rcases List.mem_append.1 ((J k).2 g) with g|g
  ·exact n5 k g k (by simp [hk]) rfl
  exact n4 k hk k g rfl
 have u:∀k,k∈U++(B++V)→W.heap.size<=k/\k<w.heap.size:=fun k hk=>by
  have:=(J k).2 hk
  have g:k∈F1++(H++F2):=by
   rcases List.mem_append.1 this with h|h
   ·simp [h]
   simp [h]
  exact ⟨h4 k g,hl k g⟩
 refine ⟨B,H,m1,k1,q2,n2,fun k hk g=>Q k hk (by simp [g]),fun k hk=>u k (by simp [hk]),fun k hk=>⟨h4 k (by simp [hk]),hl k (by simp [hk])⟩,fun w' Y z hp hn D ho=>⟨?_,U++(z++V),m2 w' Y z hp ho.size ?_ ?_,?_,?_⟩⟩
 ·refine ⟨ho.os.trans h1.os,ho.tape.trans h1.tape,ho.output.trans h1.output,Nat.le_trans h1.size ho.size,fun k hk=>?_⟩
  refine (ho.block k (Nat.lt_of_lt_of_le hk h1.size) fun g=>?_).trans (h1.block k hk)
  have:=u k (by simp [g])
  omega
 ·exact fun k hk=>ho.block k (u k (by simp [hk])).2 fun g=>q5 k hk k (by simp [g]) rfl
 ·exact fun k hk=>ho.block k (u k (by simp [hk])).2 fun g=>q4 k g k hk rfl
 ·rw [List.nodup_append,List.nodup_append]
  refine ⟨q1,⟨hn,q3,fun a I b G e=>?_⟩,fun a I b G e=>?_⟩
  ·subst e
   rcases D a I with g|g|g
   ·exact q4 a g a G rfl
   ·exact Q a g (by simp [G])
   have:=u a (by simp [G]);omega
  subst e
  rcases List.mem_append.1 G with G|G
  ·rcases D a G with g|g|g
   ·exact q5 a I a (by simp [g]) rfl
   ·exact Q a g (by simp [I])
   have:=u a (by simp [I]);omega
  exact q5 a I a (by simp [G]) rfl
 intro k hk
 simp only [List.mem_append] at hk
 rcases hk with hk|hk|hk
 ·exact (u k (by simp [hk])).1
 ·rcases D k hk with g|g|g
  ·exact (u k (by simp [g])).1
  ·exact h4 k (by simp [g])
  have:=h1.size;omega
 exact (u k (by simp [hk])).1
/-! ### blocks -/
theorem aJ.blk {W w:World} {q:List Pc} (h:aJ W w q) (j:Nat) {g:Nat} {cs:Array Value} {t:TypeId} (hj:q[j]?=some (.blk g cs t)):w.heap[g]?=some (.cells cs t (0,0))/\W.heap.size<=g:=by
 obtain ⟨F,u,_,z,_⟩:=h.part j hj
 obtain ⟨rfl,_,h3,_⟩:=u
 exact ⟨h3,(z g (by simp)).1⟩
theorem aJ.own {W w:World} {q:List Pc} (h:aJ W w q) (j:Nat) {g:Nat} {P:World→Prop} (hj:q[j]?=some (.own g P)):P w/\W.heap.size<=g/\g<w.heap.size:=by
 obtain ⟨F,u,_,z,_⟩:=h.part j hj
 obtain ⟨rfl,h2,h3,_⟩:=u
 exact ⟨h3,(z g (by simp)).1,h2⟩
theorem aJ.put {W w:World} {q:List Pc} (h:aJ W w q) (j:Nat) {g:Nat} {cs:Array Value} {t:TypeId} (hj:q[j]?=some (.blk g cs t)) (k:Nat) (v:Value):aJ W (w.setCell ⟨g,k,none⟩ v) (q.set j (.blk g (cs.setIfInBounds k v) t)):=by
 obtain ⟨F,u,_,_,z⟩:=h.part j hj
 obtain ⟨rfl,h2,h3,_⟩:=u
 exact z _ _ [g] ⟨rfl,by simpa [World.setCell] using h2,jf h3 k v,fun B D e h=>e.trans h⟩ (by simp) (fun k hk => .inl hk) (sS (by simp) v)
theorem aJ.own_upd {W w w':World} {u:List Pc} (h:aJ W w u) (j:Nat) {g:Nat} {P Q:World→Prop} (hj:u[j]?=some (.own g P)) (hg:w.grownBy w' (some g)) (D:Q w') (q:∀z B:World,B.heap[g]?=z.heap[g]?→Q z→Q B):aJ W w' (u.set j (.own g Q)):=by
 obtain ⟨F,G,_,_,H⟩:=h.part j hj
 obtain ⟨rfl,h2,h3,_⟩:=G
 exact H _ _ [g] ⟨rfl,Nat.lt_of_lt_of_le h2 hg.size,D,q⟩ (by simp) (fun k hk => .inl hk) ⟨hg.os,hg.tape,hg.output,hg.size,fun i hi hn=>hg.block i hi (by intro e;injection e with e;subst e;exact hn (by simp))⟩
/-! ### rows -/
theorem aJ.rd {W w:World} {g:List Pc} (h:aJ W w g) (j:Nat) {c:Cel} {v:Value} (hj:g[j]?=some (.cel c v)):RdC w w.heap.size c v:=by
 obtain ⟨F,q,_⟩:=h.part j hj
 exact dD.rd q
theorem aJ.ints {W w:World} {g:List Pc} (h:aJ W w g) (j:Nat) {xs:List Int} {A:Option Addr} {n c:Nat} (hj:g[j]?=some (.cel (aG xs) (.slice A n c))):dE w A n xs:=(h.rd j hj).ints
theorem aJ.owned {W w:World} {g:List Pc} (h:aJ W w g) (j:Nat) {xs:List Int} {A:Option Addr} {n c:Nat} (hj:g[j]?=some (.cel (aG xs) (.slice A n c))):Own W.heap.size w A n c xs:=by
 obtain ⟨F,q,_,u,_⟩:=h.part j hj
 obtain ⟨o,rfl⟩:=gB.1 q
 exact o.at0 fun k hk=>(u k hk).1
theorem aJ.tree {W w:World} {g:List Pc} (h:aJ W w g) (j:Nat) {c:Cel} {v:Value} (hj:g[j]?=some (.cel c v)):gF W.heap.size w.heap.size w c v:=by
 obtain ⟨F,q,z,u,_⟩:=h.part j hj
 exact ⟨F,q,z,u⟩
theorem aJ.num {W w:World} {u:List Pc} (h:aJ W w u) (j:Nat) {e s n q i:Nat} {A:Option Addr} {cs:List Cel} {x:Int} (hj:u[j]?=some (.cel (.row e s cs) (.slice A n q))) (hi:cs[i]?=some (.int x)) :
  ∃g,A=some ⟨g,0,none⟩/\W.heap.size<=g/\g<w.heap.size/\w.cell? ⟨g,i,none⟩=some (.int .i64 x)/\w.frozen? ⟨g,i,none⟩=false /\
   ∀y:Int,aJ W (w.setCell ⟨g,i,none⟩ (.int .i64 y)) (u.set j (.cel (.row e s (cs.set i (.int y))) (.slice A n q))):=by
 obtain ⟨F,G,B,z,H⟩:=h.part j hj
 obtain ⟨g,rfl,hg,hc,hf,D⟩:=dD.num G B hi
 exact ⟨g,rfl,(z g hg).1,(z g hg).2,hc,hf,fun y=>H _ _ F (D y) B (fun k hk => .inl hk) (sS hg _)⟩
theorem aJ.slot {W w:World} {u:List Pc} (h:aJ W w u) (i j:Nat) (D:i≠j) {e s n q m:Nat} {A:Option Addr} {cs:List Cel} {c B:Cel} {z:Value} (hi:u[i]?=some (.cel (.row e s cs) (.slice A n q))) (U:cs[m]?=some c) (hj:u[j]?=some (.cel B z)) :
  ∃g,A=some ⟨g,0,none⟩/\W.heap.size<=g/\g<w.heap.size/\(∃v,w.cell? ⟨g,m,none⟩=some v)/\w.frozen? ⟨g,m,none⟩=false /\
   aJ W (w.setCell ⟨g,m,none⟩ z) ((u.set j (.cels [] [])).set i (.cel (.row e s (cs.set m B)) (.slice A n q))):=by
 obtain ⟨Fi,V,Y,k2,Z,k4,Q,G,k7,R⟩:=h.two i j D hi hj
 obtain ⟨g,v,Fm,rfl,hg,hc,hf,_,_,_,_,J⟩:=dD.slot Y Z U
 obtain ⟨F',K,I,H⟩:=J w B z V k2 k4 (fun k hk => .inr (Q k hk)) (iU.refl _ _)
 exact ⟨g,rfl,(G g hg).1,(G g hg).2,⟨v,hc⟩,hf,R _ _ F' K I (fun k hk=>by rcases H k hk with h|h;exact .inl h;exact .inr (.inl h)) (sS hg _)⟩
/-! ### append -/
theorem vT {w w':World} {e size n g K lo:Nat} {A:Option Addr} {cs nc:List Cel} {F F2:List Nat} {V:List Value}
  (hF:F.Nodup) (z:ek w nc V F2) (U:F2.Nodup) (Y:∀k∈F2,k∉F) {vs:List Value} {F':List Nat} (W:F=blk A++F') (hl:ek w cs vs F')
  (Z:w'.ownsRow lo e size (.slice (some ⟨g,0,none⟩) n K) n (vs++V)) (H:w.grownBy w' (A.map (·.block))) (g3:A.map (·.block)=some g∨g=w.heap.size) :
  ∃G,dD w' (.row e size (cs++nc)) (.slice (some ⟨g,0,none⟩) n K) G/\G.Nodup/\(∀k∈G,k∈F∨k∈F2∨w.heap.size<=k)/\iU F w w':=by
 subst W
 have I:∀k∈F',k<w.heap.size:=hl.lt
 have B:∀k∈F2,k<w.heap.size:=z.lt
 rw [List.nodup_append] at hF
 obtain ⟨m1,m2,m3⟩:=hF
 have j:∀k,k<w.heap.size→k∉blk A→w'.heap[k]?=w.heap[k]?:=fun k hk u=>by
  refine H.block k hk ?_
  cases hA':A with
  | none=>simp
  | some ad =>
   simp only [Option.map_some,ne_eq,Option.some.injEq]
   rintro rfl
   exact u (by rw [hA'];simp [_root_.Go.Proofs.YtofihjoanjkdmaaGreat.blk])
 have Q:∀k∈F2,k∉blk A:=fun k hk u=>Y k hk (List.mem_append_left _ u)
 have J:∀k∈F',k∉blk A:=fun k hk u=>m3 k u k hk rfl
 have hL:ek w' (cs++nc) (vs++V) (F'++F2):=(hl.keep fun k hk=>j k (I k hk) (J k hk)).append (z.keep fun k hk=>j k (B k hk) (Q k hk))
 have D:A.map (·.block)=some g→g∈blk A:=fun hg=>by
  cases hA':A with
  | none=>rw [hA'] at hg;cases hg
  | some ad=>rw [hA'] at hg;simp at hg;simp [_root_.Go.Proofs.YtofihjoanjkdmaaGreat.blk,hg]
 have R:g∉F'/\g∉F2:=by
  rcases g3 with hg|hg
  ·exact ⟨fun hk=>J g hk (D hg),fun hk=>Q g hk (D hg)⟩
  subst hg
  exact ⟨fun hk=>by have:=I _ hk;omega,fun hk=>by have:=B _ hk;omega⟩
 refine ⟨g :: (F'++F2),?_,?_,fun k hk=>?_,⟨H.os,H.tape,H.output,H.size,fun k hk hn=>j k hk fun hA=>hn (List.mem_append_left _ hA)⟩⟩
 ·rw [eY]
  exact ⟨_,_,_,_,F'++F2,rfl,⟨Z.1,by rcases Z.2 with h|⟨a,b,c',h,_,h'⟩;exact .inl h;exact .inr ⟨a,b,c',h,Nat.zero_le _,h'⟩⟩,rfl,hL⟩
 ·rw [List.nodup_cons,List.nodup_append]
  exact ⟨by simp only [List.mem_append,not_or];exact R,m2,U,fun p hp q hq e=>Y q hq (List.mem_append_right _ (e ▸ hp))⟩
 simp only [List.mem_cons,List.mem_append] at hk
 rcases hk with rfl|hk|hk
 ·rcases g3 with hg|hg
  ·exact .inl (List.mem_append_left _ (D hg))
  exact .inr (.inr (by omega))
 ·exact .inl (List.mem_append_right _ hk)
 exact .inr (.inl hk)
theorem uV {w:World} {B:Nat} {g:Array Value} {e:TypeId} {z:Nat × Nat} (q:w.heap[B]?=some (.cells g e z)) (j:Nat) (u:Value) (D:g.toList[j]?=some u):w.cell? ((⟨B,0,none⟩:Addr).add j)=some u:=World.news_of_block q j u D
section
variable {ops:Array Oper} {rest:List Oper} {o:Oper} {a:Act} {Q:Exit→Act→World→Prop} {K:Act→World→Prop} {E:Prop} {w W:World}
theorem sU (u:List Pc) (S:aJ W w u) (i j:Nat) (D:i≠j) (e size n m c:Nat) (A:Option Addr) (cs nc:List Cel) (H:List Value) (hi:u[i]?=some (.cel (.row e size cs) (.slice A n c))) (hj:u[j]?=some (.cels nc H))
  {g q:Nat} {w':World} (vs:List Value) (B:∀F,dD w (.row e size cs) (.slice A n c) F→∃F',F=blk A++F'/\ek w cs vs F') (V:w'.ownsRow 0 e size (.slice (some ⟨g,0,none⟩) m q) m (vs++H)) (K:w.grownBy w' (A.map (·.block))) (Z:A.map (·.block)=some g∨g=w.heap.size) :
  aJ W w' ((u.set j (.cels [] [])).set i (.cel (.row e size (cs++nc)) (.slice (some ⟨g,0,none⟩) m q))):=by
 obtain ⟨Fi,Fj,k1,k2,k3,k4,U,_,_,Y⟩:=S.two i j D hi hj
 obtain ⟨F',z,hl⟩:=B Fi k1
 obtain ⟨G,R,Q,J,I⟩:=vT k3 k2 k4 U z hl V K Z
 exact Y w' _ G R Q J I
theorem Bq {w:World} {e size n c:Nat} {A:Option Addr} {cs:List Cel} {R:List Nat} (h:dD w (.row e size cs) (.slice A n c) R):∃vs,w.ownsRow 0 e size (.slice A n c) n vs/\∀F,dD w (.row e size cs) (.slice A n c) F→∃F',F=blk A++F'/\ek w cs vs F':=by
 have h1:=h
 rw [eY] at h1
 obtain ⟨W,Y,Z,vs,F',B,z,rfl,hl⟩:=h1
 injection B with hA hn hc
 subst hA hn hc
 refine ⟨vs,z,fun F J=>?_⟩
 rw [eY] at J
 obtain ⟨A2,n2,c2,G,F2,H,u,rfl,I⟩:=J
 injection H with hA hn hc
 subst hA hn hc
 have e:G=vs:=by
  rcases z.2 with ⟨B,rfl⟩|⟨g,U,cur,B,_,V,_,_,_,ht⟩
  ·have h2:=u.1
   have h3:=z.1
   rw [Nat.zero_mul] at h2 h3
   rw [List.length_eq_zero_iff.1 h2,List.length_eq_zero_iff.1 h3]
  rcases u.2 with ⟨q,_⟩|⟨g',Q,K,q,_,j,_,_,_,D⟩
  ·rw [B] at q;injection q with hA _ _;cases hA
  rw [B] at q
  injection q with hA _ _
  injection hA with hA
  injection hA with hA _ _
  subst hA
  rw [V] at j
  injection j with j
  injection j with j _ _
  subst j
  rw [←ht,←D]
 subst e
 exact ⟨F2,rfl,I⟩
theorem jL (af:o.guard=none) (s x:Operand) (t e:TypeId)
  (ho:o.op = .call { callee := .builtin .append,args:=#[s,x],argTypes:=#[t,t] }) (u:TypeInfo) (z:Value) (size bytes:Nat) (ht:Tryz.prog.underlying t=some (.slice e)) (ag:Tryz.prog.info? e=some u) (Z:u.zero=some z)
  (V:u.size=size) (J:u.bytes=bytes) (Y:z.cells.size=size) (ad:0<size) (I:bytes<=64)
  (G:List Pc) (S:aJ W w G) (i j:Nat) (H:i≠j) (n c B:Nat) (A:Option Addr) (cs nc:List Cel) (D:Array Value) (fr:Nat × Nat) (hi:G[i]?=some (.cel (.row e size cs) (.slice A n c))) (hj:G[j]?=some (.cels nc D.toList))
  (hs:a.eval s = .slice A n c) (hx:a.eval x = .slice (some ⟨B,0,none⟩) 1 1) (hB:w.heap[B]?=some (.cells D e fr)) (R:D.size=size) (hn:n<=1099511627776)
  (h:∀g q w',aJ W w' ((G.set j (.cels [] [])).set i (.cel (.row e size (cs++nc)) (.slice (some ⟨g,0,none⟩) (n+1) q)))→w.heap.size<=w'.heap.size →
   wpList Tryz.prog ops Q rest (a.put o.dst (.slice (some ⟨g,0,none⟩) (n+1) q)) w'):wpList Tryz.prog ops Q (o :: rest) a w:=by
 obtain ⟨Fi,Fj,k1,k2,_⟩:=S.two i j H hi hj
 obtain ⟨vs,U,ae⟩:=Bq k1
 exact wpList_append_lies w af s x t ho 0 e u z size bytes ht ag Z V J Y ad (.slice A n c) n vs hs U ⟨B,0,none⟩ 1 1 D.toList hx (by simp [R]) (uV hB) (ek.one k2) (by omega) (by unfold maxLen;omega) (Nat.le_trans (Nat.mul_le_mul_left _ I) (by omega)) (Nat.zero_le _) _ rfl
  fun g q w' g1 K g3 _=>by rw [iI] at K g3;exact h g q w' (sU G S i j H e size n (n+1) c A cs nc D.toList hi hj vs ae g1 K g3) K.size
theorem wH (ag:o.guard=none) (s x:Operand) (t e:TypeId)
  (ho:o.op = .call { callee := .builtin .append,args:=#[s,x],argTypes:=#[t,t] }) (u:TypeInfo) (z:Value) (size bytes:Nat) (ht:Tryz.prog.underlying t=some (.slice e)) (ah:Tryz.prog.info? e=some u) (ad:u.zero=some z)
  (Y:u.size=size) (J:u.bytes=bytes) (Z:z.cells.size=size) (ae:0<size) (I:bytes<=64)
  (G:List Pc) (S:aJ W w G) (i j:Nat) (H:i≠j) (n c B:Nat) (A:Option Addr) (cs nc:List Cel) (D:Array Value) (fr:Nat × Nat) (hi:G[i]?=some (.cel (.row e size cs) (.slice A n c))) (hj:G[j]?=some (.cels nc D.toList))
  (hs:a.eval s = .slice A n c) (hx:a.eval x = .slice (some ⟨B,0,none⟩) 1 1) (hB:w.heap[B]?=some (.cells D e fr)) (U:D.size=size) (hn:n<=1099511627776)
  (h:∀g q w',aJ W w' ((G.set j (.cels [] [])).set i (.cel (.row e size (cs++nc)) (.slice (some ⟨g,0,none⟩) (n+1) q)))→w.heap.size<=w'.heap.size →
   K (a.put o.dst (.slice (some ⟨g,0,none⟩) (n+1) q)) w'):if Region.wanted o (yielded ops a.tmps)=true then Oper.wp Tryz.prog o a w K Q else E:=by
 obtain ⟨Fi,Fj,k1,k2,_⟩:=S.two i j H hi hj
 obtain ⟨vs,V,af⟩:=Bq k1
 exact step_append_lies w ag s x t ho 0 e u z size bytes ht ah ad Y J Z ae (.slice A n c) n vs hs V ⟨B,0,none⟩ 1 1 D.toList hx (by simp [U]) (uV hB) (ek.one k2) (by omega) (by unfold maxLen;omega) (Nat.le_trans (Nat.mul_le_mul_left _ I) (by omega)) (Nat.zero_le _) _ rfl
  fun g q w' g1 R g3 _=>by rw [iI] at R g3;exact h g q w' (sU G S i j H e size n (n+1) c A cs nc D.toList hi hj vs af g1 R g3) R.size
theorem p9 (u:List Pc) (S:aJ W w u) (i:Nat) (n m c:Nat) (A:Option Addr) (xs j:List Int) (hi:u[i]?=some (.cel (aG xs) (.slice A n c)))
  {g q:Nat} {w':World} (J:w'.ownsRow 0 3 1 (.slice (some ⟨g,0,none⟩) m q) m (xs.map (Value.int .i64)++j.map (Value.int .i64))) (D:w.grownBy w' (A.map (·.block))) (K:A.map (·.block)=some g∨g=w.heap.size) :
  aJ W w' (u.set i (.cel (aG (xs++j)) (.slice (some ⟨g,0,none⟩) m q))):=by
 obtain ⟨F,Q,R,_,U⟩:=S.part i hi
 obtain ⟨ho,rfl⟩:=gB.1 Q
 obtain ⟨G,I,H,B,z⟩:=vT (cs:=xs.map .int) (nc:=j.map .int) (F2:=[]) (F':=[]) R (mV.2 ⟨rfl,rfl⟩) (by simp) (by simp) (List.append_nil _).symm (mV.2 ⟨rfl,rfl⟩) J D K
 refine U w' _ G (by rw [aG,List.map_append];exact I) H (fun k hk=>?_) z
 rcases B k hk with h|h|h
 ·exact .inl h
 ·simp at h
 exact .inr h
theorem oI (g:List Pc) (S:aJ W w g) (i:Nat) (n c:Nat) (A:Option Addr) (xs:List Int) (hi:g[i]?=some (.cel (aG xs) (.slice A n c))):w.ownsRow 0 3 1 (.slice A n c) n (xs.map (Value.int .i64)):=(S.owned i hi).more (Nat.zero_le _)
theorem dW (I:o.guard=none) (s x:Operand)
  (ho:o.op = .call { callee := .builtin .append,args:=#[s,x],argTypes:=#[26,26] })
  (q:List Pc) (S:aJ W w q) (i:Nat) (A:Option Addr) (n c:Nat) (xs:List Int) (y:Int) (B:Nat) (V:Nat × Nat) (hi:q[i]?=some (.cel (aG xs) (.slice A n c))) (hs:a.eval s = .slice A n c) (Y:a.eval x = .slice (some ⟨B,0,none⟩) 1 1) (U:w.heap[B]?=some (.cells #[.int .i64 y] 3 V))
  (hn:n<=1099511627776)
  (h:∀g j w',aJ W w' (q.set i (.cel (aG (xs++[y])) (.slice (some ⟨g,0,none⟩) (n+1) j)))→w.heap.size<=w'.heap.size →
   wpList Tryz.prog ops Q rest (a.put o.dst (.slice (some ⟨g,0,none⟩) (n+1) j)) w'):wpList Tryz.prog ops Q (o :: rest) a w:=by
 obtain ⟨Z,J,H,G,z⟩:=info_parts kC
 exact wpList_append_lies w I s x 26 ho 0 3 Z (.int .i64 0) 1 8 Tryz.underlying26 J H G z rfl (by omega) (.slice A n c) n (xs.map (Value.int .i64)) hs (oI q S i n c A xs hi) ⟨B,0,none⟩ 1 1 [.int .i64 y] Y rfl (uV U) (fun u K=>by simp at K;subst K;rfl) (by omega) (by unfold maxLen;omega) (by omega) (Nat.zero_le _) _ rfl
  fun g j w' g1 D R _=>by rw [iI] at D R;exact h g j w' (p9 q S i n (n+1) c A xs [y] hi g1 D R) D.size
theorem gu (I:o.guard=none) (s x:Operand)
  (ho:o.op = .call { callee := .builtin .append,args:=#[s,x],argTypes:=#[26,26] })
  (q:List Pc) (S:aJ W w q) (i:Nat) (A:Option Addr) (n c:Nat) (xs:List Int) (y:Int) (B:Nat) (Y:Nat × Nat) (hi:q[i]?=some (.cel (aG xs) (.slice A n c))) (hs:a.eval s = .slice A n c) (Z:a.eval x = .slice (some ⟨B,0,none⟩) 1 1) (V:w.heap[B]?=some (.cells #[.int .i64 y] 3 Y))
  (hn:n<=1099511627776)
  (h:∀g j w',aJ W w' (q.set i (.cel (aG (xs++[y])) (.slice (some ⟨g,0,none⟩) (n+1) j)))→w.heap.size<=w'.heap.size →
   K (a.put o.dst (.slice (some ⟨g,0,none⟩) (n+1) j)) w'):if Region.wanted o (yielded ops a.tmps)=true then Oper.wp Tryz.prog o a w K Q else E:=by
 obtain ⟨i0,J,H,G,z⟩:=info_parts kC
 exact step_append_lies w I s x 26 ho 0 3 i0 (.int .i64 0) 1 8 Tryz.underlying26 J H G z rfl (by omega) (.slice A n c) n (xs.map (Value.int .i64)) hs (oI q S i n c A xs hi) ⟨B,0,none⟩ 1 1 [.int .i64 y] Z rfl (uV V) (fun u R=>by simp at R;subst R;rfl) (by omega) (by unfold maxLen;omega) (by omega) (Nat.zero_le _) _ rfl
  fun g j w' g1 D U _=>by rw [iI] at D U;exact h g j w' (p9 q S i n (n+1) c A xs [y] hi g1 D U) D.size
end
end Go.Proofs.YtofihjoanjkdmaaGreat
