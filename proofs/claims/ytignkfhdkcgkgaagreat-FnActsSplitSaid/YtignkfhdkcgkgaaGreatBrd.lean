/- Reading tiles and logic elements out of memory. -/
import Derived.Test.YtignkfhdkcgkgaaGreatTilePure
namespace Go.Proofs.YtignkfhdkcgkgaaGreat
set_option maxRecDepth 100000
open Go.RowKit
theorem Le.cells_length (e:Le):e.cells.length=4:=rfl
theorem aZ.cells_length (t:aZ):t.cells.length=4:=rfl
theorem jW {α:Type} {f:α→List Cel} (hf:∀x,(f x).length=4) (xs:List α):(xs.flatMap f).length=xs.length * 4:=by rw [rD hf,Nat.mul_comm]
theorem qj {α:Type} {f:α→List Cel} (hf:∀x,(f x).length=4) {xs:List α} {k j:Nat} {x:α} (h:xs[k]?=some x) (hj:j<4):(xs.flatMap f)[k * 4+j]?=(f x)[j]?:=by rw [Nat.mul_comm];exact Du hf h hj
theorem getD_some {α:Type} {xs:List α} {k:Nat} (d:α) (h:k<xs.length):xs[k]?=some (xs[k]?.getD d):=by rw [List.getElem?_eq_getElem h];rfl
theorem rO {w:World} {B e s:Nat} {cs:List Cel} {v:Value} (h:RdC w B (.row e s cs) v):∃A n c,v = .slice A n c:=by
 rw [qE] at h
 obtain ⟨A,n,cap,rfl,_⟩:=h
 exact ⟨A,n,cap,rfl⟩
theorem RdC.tile {w:World} {B n c k:Nat} {A:Option Addr} {ts:List aZ} (h:RdC w B (kY ts) (.slice A n c)) (hk:k<ts.length) :
  ∃b o S m p L l q,A=some ⟨b,o,none⟩/\b<B/\w.cell? ⟨b,o+k * 4,none⟩=some (.slice S m p)/\w.cell? ⟨b,o+k * 4+1,none⟩=some (.slice L l q)/\w.cell? ⟨b,o+k * 4+2,none⟩=some (.int .i64 (ts[k]?.getD aZ.zero).pad)/\w.cell? ⟨b,o+k * 4+3,none⟩=some (.int .i64 (ts[k]?.getD aZ.zero).ram) /\
   RdC w B (jI (ts[k]?.getD aZ.zero).mux) (.slice S m p)/\RdC w B (nR (ts[k]?.getD aZ.zero).les) (.slice L l q):=by
 have hl:=jW aZ.cells_length ts
 obtain ⟨b,o,rfl,hb,hc⟩:=h.cell (by rw [hl];omega)
 have hx:=getD_some aZ.zero hk
 generalize ts[k]?.getD aZ.zero=t at *
 have g:=fun (j:Nat) (hj:j<4)=>hc (k * 4+j) (by rw [hl];omega)
 obtain ⟨c0,v0,e0,m0,r0⟩:=g 0 (by omega)
 obtain ⟨c1,v1,e1,m1,r1⟩:=g 1 (by omega)
 obtain ⟨c2,v2,e2,m2,r2⟩:=g 2 (by omega)
 obtain ⟨c3,v3,e3,m3,r3⟩:=g 3 (by omega)
 rw [qj aZ.cells_length hx (by omega)] at e0 e1 e2 e3
 simp only [aZ.cells,List.getElem?_cons_zero,List.getElem?_cons_succ,Option.some.injEq] at e0 e1 e2 e3
 subst e0 e1 e2 e3
 rw [qD] at r2 r3
 subst r2 r3
 obtain ⟨S,m,p,rfl⟩:=rO (e:=3) (s:=1) r0
 obtain ⟨L,l,q,rfl⟩:=rO (e:=107) (s:=4) r1
 exact ⟨b,o,S,m,p,L,l,q,rfl,hb,m0,m1,m2,m3,r0,r1⟩
theorem RdC.le {w:World} {B n c k:Nat} {A:Option Addr} {es:List Le} (h:RdC w B (nR es) (.slice A n c)) (hk:k<es.length) :
  ∃b o S m p,A=some ⟨b,o,none⟩/\b<B/\w.cell? ⟨b,o+k * 4,none⟩=some (.slice S m p)/\w.cell? ⟨b,o+k * 4+1,none⟩=some (.int .i64 (es[k]?.getD Le.zero).mask)/\w.cell? ⟨b,o+k * 4+2,none⟩=some (.int .i64 (es[k]?.getD Le.zero).flop)/\w.cell? ⟨b,o+k * 4+3,none⟩=some (.int .i64 (es[k]?.getD Le.zero).init) /\
   RdC w B (jI (es[k]?.getD Le.zero).sel) (.slice S m p):=by
 have hl:=jW Le.cells_length es
 obtain ⟨b,o,rfl,hb,hc⟩:=h.cell (by rw [hl];omega)
 have hx:=getD_some Le.zero hk
 generalize es[k]?.getD Le.zero=t at *
 have g:=fun (j:Nat) (hj:j<4)=>hc (k * 4+j) (by rw [hl];omega)
 obtain ⟨c0,v0,e0,m0,r0⟩:=g 0 (by omega)
 obtain ⟨c1,v1,e1,m1,r1⟩:=g 1 (by omega)
 obtain ⟨c2,v2,e2,m2,r2⟩:=g 2 (by omega)
 obtain ⟨c3,v3,e3,m3,r3⟩:=g 3 (by omega)
 rw [qj Le.cells_length hx (by omega)] at e0 e1 e2 e3
 simp only [Le.cells,List.getElem?_cons_zero,List.getElem?_cons_succ,Option.some.injEq] at e0 e1 e2 e3
 subst e0 e1 e2 e3
 rw [qD] at r1 r2 r3
 subst r1 r2 r3
 obtain ⟨S,m,p,rfl⟩:=rO (e:=3) (s:=1) r0
 exact ⟨b,o,S,m,p,rfl,hb,m0,m1,m2,m3,r0⟩
theorem RdC.tlen {w:World} {B n c:Nat} {A:Option Addr} {ts:List aZ} (h:RdC w B (kY ts) (.slice A n c)):ts.length=n:=by
 have:=RdC.len h
 rw [jW aZ.cells_length] at this
 omega
theorem RdC.elen {w:World} {B n c:Nat} {A:Option Addr} {es:List Le} (h:RdC w B (nR es) (.slice A n c)):es.length=n:=by
 have:=RdC.len h
 rw [jW Le.cells_length] at this
 omega
theorem dQ.sub {lo hi:Nat} {w:World} {e s n cap j:Nat} {A:Option Addr} {cs:List Cel} (h:dQ lo hi w (.row e s cs) (.slice A n cap)) (hj:j<cs.length) :
  ∃g c v,A=some ⟨g,0,none⟩/\lo<=g/\g<hi/\g<w.heap.size/\cs[j]?=some c/\w.cell? ⟨g,j,none⟩=some v/\dQ lo hi w c v:=by
 obtain ⟨g,c,v,e1,h1,h2,h3,h4,h5,_,⟨Fj,k1,k2,_,k3,_⟩,_⟩:=h.cell hj
 exact ⟨g,c,v,e1,h1,h2,h3,h4,h5,Fj,k1,k2,k3⟩
theorem ql {lo hi:Nat} {w:World} {x:Int} {v:Value} (h:dQ lo hi w (.int x) v):v = .int .i64 x:=by
 obtain ⟨F,h1,_⟩:=h
 rw [fo] at h1
 exact h1.1
theorem tC {lo hi:Nat} {w:World} {e s:Nat} {cs:List Cel} {v:Value} (h:dQ lo hi w (.row e s cs) v):∃A n c,v = .slice A n c:=by
 obtain ⟨F,h1,_⟩:=h
 rw [dY] at h1
 obtain ⟨A,n,cap,vs,F',rfl,_⟩:=h1
 exact ⟨A,n,cap,rfl⟩
theorem dQ.tile {lo hi:Nat} {w:World} {n c k:Nat} {A:Option Addr} {ts:List aZ} (h:dQ lo hi w (kY ts) (.slice A n c)) (hk:k<ts.length) :
  ∃g S m p L l q,A=some ⟨g,0,none⟩/\lo<=g/\g<hi/\g<w.heap.size/\w.cell? ⟨g,k * 4,none⟩=some (.slice S m p)/\w.cell? ⟨g,k * 4+1,none⟩=some (.slice L l q)/\w.cell? ⟨g,k * 4+2,none⟩=some (.int .i64 (ts[k]?.getD aZ.zero).pad)/\w.cell? ⟨g,k * 4+3,none⟩=some (.int .i64 (ts[k]?.getD aZ.zero).ram) /\
   dQ lo hi w (jI (ts[k]?.getD aZ.zero).mux) (.slice S m p)/\dQ lo hi w (nR (ts[k]?.getD aZ.zero).les) (.slice L l q):=by
 have hl:=jW aZ.cells_length ts
 have hx:=getD_some aZ.zero hk
 generalize ts[k]?.getD aZ.zero=t at *
 have g:=fun (j:Nat) (hj:j<4)=>h.sub (j:=k * 4+j) (by rw [hl];omega)
 obtain ⟨g0,c0,v0,a0,b1,b2,b3,e0,m0,r0⟩:=g 0 (by omega)
 obtain ⟨g1,c1,v1,a1,_,_,_,e1,m1,r1⟩:=g 1 (by omega)
 obtain ⟨g2,c2,v2,a2,_,_,_,e2,m2,r2⟩:=g 2 (by omega)
 obtain ⟨g3,c3,v3,a3,_,_,_,e3,m3,r3⟩:=g 3 (by omega)
 subst a0
 injection a1 with a1
 injection a2 with a2
 injection a3 with a3
 injection a1 with a1
 injection a2 with a2
 injection a3 with a3
 subst a1 a2 a3
 rw [qj aZ.cells_length hx (by omega)] at e0 e1 e2 e3
 simp only [aZ.cells,List.getElem?_cons_zero,List.getElem?_cons_succ,Option.some.injEq] at e0 e1 e2 e3
 subst e0 e1 e2 e3
 obtain rfl:=ql r2
 obtain rfl:=ql r3
 obtain ⟨S,m,p,rfl⟩:=tC (e:=3) (s:=1) r0
 obtain ⟨L,l,q,rfl⟩:=tC (e:=107) (s:=4) r1
 exact ⟨g0,S,m,p,L,l,q,rfl,b1,b2,b3,m0,m1,m2,m3,r0,r1⟩
theorem dQ.le {lo hi:Nat} {w:World} {n c k:Nat} {A:Option Addr} {es:List Le} (h:dQ lo hi w (nR es) (.slice A n c)) (hk:k<es.length) :
  ∃g S m p,A=some ⟨g,0,none⟩/\lo<=g/\g<hi/\g<w.heap.size/\w.cell? ⟨g,k * 4,none⟩=some (.slice S m p)/\w.cell? ⟨g,k * 4+1,none⟩=some (.int .i64 (es[k]?.getD Le.zero).mask)/\w.cell? ⟨g,k * 4+2,none⟩=some (.int .i64 (es[k]?.getD Le.zero).flop)/\w.cell? ⟨g,k * 4+3,none⟩=some (.int .i64 (es[k]?.getD Le.zero).init) /\
   dQ lo hi w (jI (es[k]?.getD Le.zero).sel) (.slice S m p):=by
 have hl:=jW Le.cells_length es
 have hx:=getD_some Le.zero hk
 generalize es[k]?.getD Le.zero=t at *
 have g:=fun (j:Nat) (hj:j<4)=>h.sub (j:=k * 4+j) (by rw [hl];omega)
 obtain ⟨g0,c0,v0,a0,b1,b2,b3,e0,m0,r0⟩:=g 0 (by omega)
 obtain ⟨g1,c1,v1,a1,_,_,_,e1,m1,r1⟩:=g 1 (by omega)
 obtain ⟨g2,c2,v2,a2,_,_,_,e2,m2,r2⟩:=g 2 (by omega)
 obtain ⟨g3,c3,v3,a3,_,_,_,e3,m3,r3⟩:=g 3 (by omega)
 subst a0
 injection a1 with a1
 injection a2 with a2
 injection a3 with a3
 injection a1 with a1
 injection a2 with a2
 injection a3 with a3
 subst a1 a2 a3
 rw [qj Le.cells_length hx (by omega)] at e0 e1 e2 e3
 simp only [Le.cells,List.getElem?_cons_zero,List.getElem?_cons_succ,Option.some.injEq] at e0 e1 e2 e3
 subst e0 e1 e2 e3
 obtain rfl:=ql r1
 obtain rfl:=ql r2
 obtain rfl:=ql r3
 obtain ⟨S,m,p,rfl⟩:=tC (e:=3) (s:=1) r0
 exact ⟨g0,S,m,p,rfl,b1,b2,b3,m0,m1,m2,m3,r0⟩
structure uW (F:List Nat) (w w':World):Prop where
 os:w'.os=w.os
 tape:w'.tape=w.tape
 output:w'.output=w.output
 size:w.heap.size<=w'.heap.size
 block:∀k,k<w.heap.size→k∉F→w'.heap[k]?=w.heap[k]?
theorem uW.refl (F:List Nat) (w:World):uW F w w:=⟨rfl,rfl,rfl,Nat.le_refl _,fun _ _ _=>rfl⟩
theorem uW.trans {F:List Nat} {a b c:World} (h:uW F a b) (k:uW F b c):uW F a c :=
 ⟨k.os.trans h.os,k.tape.trans h.tape,k.output.trans h.output,Nat.le_trans h.size k.size,fun i hi hn=>(k.block i (Nat.lt_of_lt_of_le hi h.size) hn).trans (h.block i hi hn)⟩
theorem uW.more {F G:List Nat} {a b:World} (h:uW F a b) (hs:∀k∈F,k∈G):uW G a b:=⟨h.os,h.tape,h.output,h.size,fun i hi hn=>h.block i hi fun hf=>hn (hs i hf)⟩
theorem IM {F:List Nat} {w:World} {p:Addr} (hp:p.block∈F) (v:Value):uW F w (w.setCell p v) :=
 ⟨rfl,rfl,rfl,by simp [World.setCell],fun k _ hn=>Below.heap_setCell _ _ _ _ (by rintro rfl;exact hn hp)⟩
theorem uW.chg {F:List Nat} {lo hi:Nat} {a b:World} (h:uW F a b) (hf:∀k∈F,lo<=k/\k<hi):Chg lo hi a b :=
 ⟨h.os,h.tape,h.output,h.size,fun k hk hne=>h.block k hk fun hm=>by have:=hf k hm;omega⟩
theorem dh.child {w:World} {e s n cap j:Nat} {A:Option Addr} {cs:List Cel} {F:List Nat} {c:Cel} (h:dh w (.row e s cs) (.slice A n cap) F) (hF:F.Nodup) (hc:cs[j]?=some c) :
  ∃g v Fj,A=some ⟨g,0,none⟩/\g∈F/\w.cell? ⟨g,j,none⟩=some v/\dh w c v Fj/\Fj.Nodup/\g∉Fj/\(∀k∈Fj,k∈F) /\
   ∀(w':World) (c':Cel),dh w' c' v Fj→uW Fj w w'→dh w' (.row e s (cs.set j c')) (.slice A n cap) F:=by
 have hj:=(List.getElem?_eq_some_iff.1 hc).1
 have hlt:=h.lt
 obtain ⟨g,c0,v,F1,Fj,F2,rfl,e1,hcell,_,rfl,h4,h5,_⟩:=h.cell hj
 rw [hc] at e1
 injection e1 with e1
 subst e1
 rw [List.nodup_cons] at hF
 obtain ⟨hgn,hnd⟩:=hF
 simp only [List.mem_append,not_or] at hgn
 rw [List.nodup_append,List.nodup_append] at hnd
 obtain ⟨n1,⟨n2,n3,n4⟩,n5⟩:=hnd
 refine ⟨g,v,Fj,rfl,by simp,hcell,h4,n2,hgn.2.1,fun k hk=>by simp [hk],fun w' c' hc' ho=>?_⟩
 refine h5 w' c' hc' (ho.block g (hlt g (by simp)) hgn.2.1) (fun k hk=>ho.block k (hlt k (by simp [hk])) fun hj'=>?_) (fun k hk=>ho.block k (hlt k (by simp [hk])) fun hj'=>?_)
 ·exact n5 k hk k (by simp [hj']) rfl
 ·exact n4 k hj' k hk rfl
theorem dh.num {w:World} {e s n cap j:Nat} {A:Option Addr} {cs:List Cel} {F:List Nat} {x:Int} (h:dh w (.row e s cs) (.slice A n cap) F) (hF:F.Nodup) (hc:cs[j]?=some (.int x)) :
  ∃g,A=some ⟨g,0,none⟩/\g∈F/\w.cell? ⟨g,j,none⟩=some (.int .i64 x)/\w.frozen? ⟨g,j,none⟩=false /\
   ∀y:Int,dh (w.setCell ⟨g,j,none⟩ (.int .i64 y)) (.row e s (cs.set j (.int y))) (.slice A n cap) F:=by
 have hj:=(List.getElem?_eq_some_iff.1 hc).1
 obtain ⟨g,c0,v,F1,Fj,F2,rfl,e1,hcell,hfz,rfl,h4,_,h6⟩:=h.cell hj
 rw [hc] at e1
 injection e1 with e1
 subst e1
 rw [fo] at h4
 obtain ⟨rfl,rfl⟩:=h4
 rw [List.nodup_cons] at hF
 obtain ⟨hgn,_⟩:=hF
 simp only [List.nil_append,List.mem_append,not_or] at hgn
 exact ⟨g,rfl,by simp,hcell,hfz,fun y=>h6 (.int y) (.int .i64 y) [] (fo.2 ⟨rfl,rfl⟩) hgn.1 (by simp) hgn.2⟩
theorem zK {α:Type} {f:α→List Cel} (hf:∀x,(f x).length=4):∀{xs:List α} {k j:Nat} {x y:α} {c:Cel},xs[k]?=some x→j<4→f y=(f x).set j c→(xs.flatMap f).set (k * 4+j) c=(xs.set k y).flatMap f
 | [],k,j,x,y,c,h,hj,hy=>by simp at h
 | a :: l,0,j,x,y,c,h,hj,hy=>by
  simp at h
  subst h
  rw [List.flatMap_cons,Nat.zero_mul,Nat.zero_add,List.set_append,if_pos (by rw [hf];exact hj),List.set_cons_zero,List.flatMap_cons,hy]
 | a :: l,k+1,j,x,y,c,h,hj,hy=>by
  rw [List.flatMap_cons,List.set_append,if_neg (by rw [hf];omega),hf,show (k+1) * 4+j - 4=k * 4+j by omega,zK hf (by simpa using h) hj hy,List.set_cons_succ,List.flatMap_cons]
/-! ### marking tiles -/
structure Bd where
 dev:Dev
 frames:List (List Int)
 state:List Int
 phase:Int
 reg:Reg
 saved:List (List Int)
structure Sl3 where
 A1:Option Addr
 n1:Nat
 c1:Nat
 A2:Option Addr
 n2:Nat
 c2:Nat
 A3:Option Addr
 n3:Nat
 c3:Nat
abbrev aD (b:Bd) (s:Sl3):Array Value:=#[.int .i64 b.dev.W,.int .i64 b.dev.H,.int .i64 b.dev.T,.int .i64 b.dev.R,.slice s.A1 s.n1 s.c1,.slice s.A2 s.n2 s.c2,.int .i64 b.phase,.int .i64 b.reg.X0,.int .i64 b.reg.Y0,.int .i64 b.reg.X1,.int .i64 b.reg.Y1,.slice s.A3 s.n3 s.c3]
structure bT (w:World) (b:Bd) (s:Sl3):Prop where
 frames:eD w s.A1 s.n1 b.frames
 state:bN w s.A2 s.n2 b.state
 saved:eD w s.A3 s.n3 b.saved
theorem bT.below {w w':World} {b:Bd} {s:Sl3} (h:bT w b s) (hb:Below w.heap.size w w'):bT w' b s:=⟨h.frames.below hb,h.state.below hb,h.saved.below hb⟩
def Ap (l1 h1 l2 h2:Nat):Prop:=h1<=l2∨h2<=l1
structure JG (w:World) (b:Bd) (s:Sl3) (lo hi l1 h1 l2 h2 l3 h3:Nat):Prop where
 frames:dA l1 h1 w s.A1 s.n1 s.c1 b.frames
 state:Own l2 w s.A2 s.n2 s.c2 b.state
 lies:ig s.A2 l2 h2
 saved:dA l3 h3 w s.A3 s.n3 s.c3 b.saved
 a12:Ap l1 h1 l2 h2
 a13:Ap l1 h1 l3 h3
 a23:Ap l2 h2 l3 h3
 in1:lo<=l1/\h1<=hi
 in2:lo<=l2/\h2<=hi
 in3:lo<=l3/\h3<=hi
def eY (lo hi:Nat) (w:World) (b:Bd) (s:Sl3):Prop:=∃l1 h1 l2 h2 l3 h3,JG w b s lo hi l1 h1 l2 h2 l3 h3
theorem ig.own {A:Option Addr} {lo hi base:Nat} {w:World} {n c:Nat} {xs:List Int} (l:ig A lo hi) (_:Own base w A n c xs):ig A lo hi:=l
theorem eY.rd {lo hi:Nat} {w:World} {b:Bd} {s:Sl3} (h:eY lo hi w b s):bT w b s:=by
 obtain ⟨l1,h1,l2,h2,l3,h3,hb⟩:=h
 exact ⟨hb.frames.rd,hb.state.rd,hb.saved.rd⟩
theorem eY.below {lo hi:Nat} {w w':World} {b:Bd} {s:Sl3} (h:eY lo hi w b s) (hb:Below w.heap.size w w'):eY lo hi w' b s:=by
 obtain ⟨l1,h1,l2,h2,l3,h3,k⟩:=h
 exact ⟨l1,h1,l2,h2,l3,h3,k.frames.below hb,k.state.below hb,k.lies,k.saved.below hb,k.a12,k.a13,k.a23,k.in1,k.in2,k.in3⟩
theorem eY.chg {lo hi lo' hi':Nat} {w w':World} {b:Bd} {s:Sl3} (h:eY lo hi w b s) (hg:Chg lo' hi' w w') (ha:hi<=lo'∨hi'<=lo):eY lo hi w' b s:=by
 obtain ⟨l1,h1,l2,h2,l3,h3,k⟩:=h
 have i1:=k.in1
 have i2:=k.in2
 have i3:=k.in3
 exact ⟨l1,h1,l2,h2,l3,h3,k.frames.chg hg (by omega),k.state.chg hg k.lies (by omega),k.lies,k.saved.chg hg (by omega),k.a12,k.a13,k.a23,k.in1,k.in2,k.in3⟩
theorem eY.widen {lo hi lo' hi':Nat} {w:World} {b:Bd} {s:Sl3} (h:eY lo hi w b s) (e1:lo'<=lo) (e2:hi<=hi'):eY lo' hi' w b s:=by
 obtain ⟨l1,h1,l2,h2,l3,h3,k⟩:=h
 have i1:=k.in1
 have i2:=k.in2
 have i3:=k.in3
 exact ⟨l1,h1,l2,h2,l3,h3,k.frames,k.state,k.lies,k.saved,k.a12,k.a13,k.a23,⟨by omega,by omega⟩,⟨by omega,by omega⟩,⟨by omega,by omega⟩⟩
theorem eY.drewd {lo hi:Nat} {w:World} {b:Bd} {s:Sl3} (h:eY lo hi w b s):eY lo hi w.drew b s:=by
 obtain ⟨l1,h1,l2,h2,l3,h3,k⟩:=h
 exact ⟨l1,h1,l2,h2,l3,h3,k.frames.drewd,k.state.drewd,k.lies,k.saved.drewd,k.a12,k.a13,k.a23,k.in1,k.in2,k.in3⟩
def oD (b:Bd):Prop:=bF b.frames<=1099511627776/\b.state.length<=1099511627776/\bF b.saved<=1099511627776
def bdN (b:Bd):Nat:=iO b.frames b.frames.length+b.state.length+iO b.saved b.saved.length
theorem Chg.wide {lo hi lo' hi':Nat} {w w':World} (h:Chg lo hi w w') (a:lo'<=lo) (b:hi<=hi'):Chg lo' hi' w w':=⟨h.os,h.tape,h.output,h.size,fun k hk hn=>h.block k hk (by omega)⟩
end Go.Proofs.YtignkfhdkcgkgaaGreat
