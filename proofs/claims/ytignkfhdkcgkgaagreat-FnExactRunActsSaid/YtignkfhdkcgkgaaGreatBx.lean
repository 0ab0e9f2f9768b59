/- Reading tiles and logic elements out of memory. -/
import Derived.Laws.Rows
import Derived.Lib.SmallJoins
import Derived.Test.YtignkfhdkcgkgaaGreatEmpty
namespace Go.Proofs.YtignkfhdkcgkgaaGreat
set_option maxHeartbeats 2000000
set_option maxRecDepth 100000
open Go.RowKit
theorem Le.cells_length (e:Le):e.cells.length=4:=rfl
theorem au.cells_length (t:au):t.cells.length=4:=rfl
theorem ik {α:Type} {f:α→List Cel} (hf:∀x,(f x).length=4) (xs:List α):(xs.flatMap f).length=xs.length * 4:=by rw [qH hf,Nat.mul_comm]
theorem qD {α:Type} {f:α→List Cel} (hf:∀x,(f x).length=4) {xs:List α} {k j:Nat} {x:α} (h:xs[k]?=some x) (hj:j<4):(xs.flatMap f)[k * 4+j]?=(f x)[j]?:=by rw [Nat.mul_comm];exact Bj hf h hj
theorem getD_some {α:Type} {xs:List α} {k:Nat} (d:α) (h:k<xs.length):xs[k]?=some (xs[k]?.getD d):=by rw [List.getElem?_eq_getElem h];rfl
theorem qQ {w:World} {B e s:Nat} {cs:List Cel} {v:Value} (h:RdC w B (.row e s cs) v):∃A n c,v = .slice A n c:=by
 rw [oI] at h
 obtain ⟨A,n,cap,rfl,_⟩:=h
 exact ⟨A,n,cap,rfl⟩
theorem RdC.tile {w:World} {B n c k:Nat} {A:Option Addr} {ts:List au} (h:RdC w B (lH ts) (.slice A n c)) (hk:k<ts.length) :
  ∃b o S m p L l q,A=some ⟨b,o,none⟩/\b<B/\w.cell? ⟨b,o+k * 4,none⟩=some (.slice S m p)/\w.cell? ⟨b,o+k * 4+1,none⟩=some (.slice L l q)/\w.cell? ⟨b,o+k * 4+2,none⟩=some (.int .i64 (ts[k]?.getD au.zero).pad)/\w.cell? ⟨b,o+k * 4+3,none⟩=some (.int .i64 (ts[k]?.getD au.zero).ram) /\
   RdC w B (ig (ts[k]?.getD au.zero).mux) (.slice S m p)/\RdC w B (qG (ts[k]?.getD au.zero).les) (.slice L l q):=by
 have hl:=ik au.cells_length ts
 obtain ⟨b,o,rfl,hb,hc⟩:=h.cell (by rw [hl];omega)
 have hx:=getD_some au.zero hk
 generalize ts[k]?.getD au.zero=t at *
 have g:=fun (j:Nat) (hj:j<4)=>hc (k * 4+j) (by rw [hl];omega)
 obtain ⟨c0,v0,e0,m0,r0⟩:=g 0 (by omega)
 obtain ⟨c1,v1,e1,m1,r1⟩:=g 1 (by omega)
 obtain ⟨c2,v2,e2,m2,r2⟩:=g 2 (by omega)
 obtain ⟨c3,v3,e3,m3,r3⟩:=g 3 (by omega)
 rw [qD au.cells_length hx (by omega)] at e0 e1 e2 e3
 simp only [au.cells,List.getElem?_cons_zero,List.getElem?_cons_succ,Option.some.injEq] at e0 e1 e2 e3
 subst e0 e1 e2 e3
 rw [oH] at r2 r3
 subst r2 r3
 obtain ⟨S,m,p,rfl⟩:=qQ (e:=3) (s:=1) r0
 obtain ⟨L,l,q,rfl⟩:=qQ (e:=107) (s:=4) r1
 exact ⟨b,o,S,m,p,L,l,q,rfl,hb,m0,m1,m2,m3,r0,r1⟩
theorem RdC.le {w:World} {B n c k:Nat} {A:Option Addr} {es:List Le} (h:RdC w B (qG es) (.slice A n c)) (hk:k<es.length) :
  ∃b o S m p,A=some ⟨b,o,none⟩/\b<B/\w.cell? ⟨b,o+k * 4,none⟩=some (.slice S m p)/\w.cell? ⟨b,o+k * 4+1,none⟩=some (.int .i64 (es[k]?.getD Le.zero).mask)/\w.cell? ⟨b,o+k * 4+2,none⟩=some (.int .i64 (es[k]?.getD Le.zero).flop)/\w.cell? ⟨b,o+k * 4+3,none⟩=some (.int .i64 (es[k]?.getD Le.zero).init) /\
   RdC w B (ig (es[k]?.getD Le.zero).sel) (.slice S m p):=by
 have hl:=ik Le.cells_length es
 obtain ⟨b,o,rfl,hb,hc⟩:=h.cell (by rw [hl];omega)
 have hx:=getD_some Le.zero hk
 generalize es[k]?.getD Le.zero=t at *
 have g:=fun (j:Nat) (hj:j<4)=>hc (k * 4+j) (by rw [hl];omega)
 obtain ⟨c0,v0,e0,m0,r0⟩:=g 0 (by omega)
 obtain ⟨c1,v1,e1,m1,r1⟩:=g 1 (by omega)
 obtain ⟨c2,v2,e2,m2,r2⟩:=g 2 (by omega)
 obtain ⟨c3,v3,e3,m3,r3⟩:=g 3 (by omega)
 rw [qD Le.cells_length hx (by omega)] at e0 e1 e2 e3
 simp only [Le.cells,List.getElem?_cons_zero,List.getElem?_cons_succ,Option.some.injEq] at e0 e1 e2 e3
 subst e0 e1 e2 e3
 rw [oH] at r1 r2 r3
 subst r1 r2 r3
 obtain ⟨S,m,p,rfl⟩:=qQ (e:=3) (s:=1) r0
 exact ⟨b,o,S,m,p,rfl,hb,m0,m1,m2,m3,r0⟩
theorem RdC.tlen {w:World} {B n c:Nat} {A:Option Addr} {ts:List au} (h:RdC w B (lH ts) (.slice A n c)):ts.length=n:=by
 have:=RdC.len h
 rw [ik au.cells_length] at this
 omega
theorem RdC.elen {w:World} {B n c:Nat} {A:Option Addr} {es:List Le} (h:RdC w B (qG es) (.slice A n c)):es.length=n:=by
 have:=RdC.len h
 rw [ik Le.cells_length] at this
 omega
theorem eB.sub {lo hi:Nat} {w:World} {e s n cap j:Nat} {A:Option Addr} {cs:List Cel} (h:eB lo hi w (.row e s cs) (.slice A n cap)) (hj:j<cs.length) :
  ∃g c v,A=some ⟨g,0,none⟩/\lo<=g/\g<hi/\g<w.heap.size/\cs[j]?=some c/\w.cell? ⟨g,j,none⟩=some v/\eB lo hi w c v:=by
 obtain ⟨g,c,v,e1,h1,h2,h3,h4,h5,_,⟨Fj,k1,k2,_,k3,_⟩,_⟩:=h.cell hj
 exact ⟨g,c,v,e1,h1,h2,h3,h4,h5,Fj,k1,k2,k3⟩
theorem qE {lo hi:Nat} {w:World} {x:Int} {v:Value} (h:eB lo hi w (.int x) v):v = .int .i64 x:=by
 obtain ⟨F,h1,_⟩:=h
 rw [fo] at h1
 exact h1.1
theorem rU {lo hi:Nat} {w:World} {e s:Nat} {cs:List Cel} {v:Value} (h:eB lo hi w (.row e s cs) v):∃A n c,v = .slice A n c:=by
 obtain ⟨F,h1,_⟩:=h
 rw [dn] at h1
 obtain ⟨A,n,cap,vs,F',rfl,_⟩:=h1
 exact ⟨A,n,cap,rfl⟩
theorem eB.tile {lo hi:Nat} {w:World} {n c k:Nat} {A:Option Addr} {ts:List au} (h:eB lo hi w (lH ts) (.slice A n c)) (hk:k<ts.length) :
  ∃g S m p L l q,A=some ⟨g,0,none⟩/\lo<=g/\g<hi/\g<w.heap.size/\w.cell? ⟨g,k * 4,none⟩=some (.slice S m p)/\w.cell? ⟨g,k * 4+1,none⟩=some (.slice L l q)/\w.cell? ⟨g,k * 4+2,none⟩=some (.int .i64 (ts[k]?.getD au.zero).pad)/\w.cell? ⟨g,k * 4+3,none⟩=some (.int .i64 (ts[k]?.getD au.zero).ram) /\
   eB lo hi w (ig (ts[k]?.getD au.zero).mux) (.slice S m p)/\eB lo hi w (qG (ts[k]?.getD au.zero).les) (.slice L l q):=by
 have hl:=ik au.cells_length ts
 have hx:=getD_some au.zero hk
 generalize ts[k]?.getD au.zero=t at *
 have g:=fun (j:Nat) (hj:j<4)=>h.sub (j:=k * 4+j) (by rw [hl];omega)
 obtain ⟨g0,c0,v0,a0,b1,b2,b3,e0,m0,r0⟩:=g 0 (by omega)
 obtain ⟨g1,c1,v1,a1,_,_,_,e1,m1,r1⟩:=g 1 (by omega)
 obtain ⟨g2,c2,v2,a2,_,_,_,e2,m2,r2⟩:=g 2 (by omega)
 obtain ⟨g3,c3,v3,a3,_,_,_,e3,m3,r3⟩:=g 3 (by omega)
 subst a0
 injection a1 with a1
 injection a2 with a2
 injection a3 with a3
 injection a1 with a1
 injection a2 with a2
 injection a3 with a3
 subst a1 a2 a3
 rw [qD au.cells_length hx (by omega)] at e0 e1 e2 e3
 simp only [au.cells,List.getElem?_cons_zero,List.getElem?_cons_succ,Option.some.injEq] at e0 e1 e2 e3
 subst e0 e1 e2 e3
 obtain rfl:=qE r2
 obtain rfl:=qE r3
 obtain ⟨S,m,p,rfl⟩:=rU (e:=3) (s:=1) r0
 obtain ⟨L,l,q,rfl⟩:=rU (e:=107) (s:=4) r1
 exact ⟨g0,S,m,p,L,l,q,rfl,b1,b2,b3,m0,m1,m2,m3,r0,r1⟩
theorem eB.le {lo hi:Nat} {w:World} {n c k:Nat} {A:Option Addr} {es:List Le} (h:eB lo hi w (qG es) (.slice A n c)) (hk:k<es.length) :
  ∃g S m p,A=some ⟨g,0,none⟩/\lo<=g/\g<hi/\g<w.heap.size/\w.cell? ⟨g,k * 4,none⟩=some (.slice S m p)/\w.cell? ⟨g,k * 4+1,none⟩=some (.int .i64 (es[k]?.getD Le.zero).mask)/\w.cell? ⟨g,k * 4+2,none⟩=some (.int .i64 (es[k]?.getD Le.zero).flop)/\w.cell? ⟨g,k * 4+3,none⟩=some (.int .i64 (es[k]?.getD Le.zero).init) /\
   eB lo hi w (ig (es[k]?.getD Le.zero).sel) (.slice S m p):=by
 have hl:=ik Le.cells_length es
 have hx:=getD_some Le.zero hk
 generalize es[k]?.getD Le.zero=t at *
 have g:=fun (j:Nat) (hj:j<4)=>h.sub (j:=k * 4+j) (by rw [hl];omega)
 obtain ⟨g0,c0,v0,a0,b1,b2,b3,e0,m0,r0⟩:=g 0 (by omega)
 obtain ⟨g1,c1,v1,a1,_,_,_,e1,m1,r1⟩:=g 1 (by omega)
 obtain ⟨g2,c2,v2,a2,_,_,_,e2,m2,r2⟩:=g 2 (by omega)
 obtain ⟨g3,c3,v3,a3,_,_,_,e3,m3,r3⟩:=g 3 (by omega)
 subst a0
 injection a1 with a1
 injection a2 with a2
 injection a3 with a3
 injection a1 with a1
 injection a2 with a2
 injection a3 with a3
 subst a1 a2 a3
 rw [qD Le.cells_length hx (by omega)] at e0 e1 e2 e3
 simp only [Le.cells,List.getElem?_cons_zero,List.getElem?_cons_succ,Option.some.injEq] at e0 e1 e2 e3
 subst e0 e1 e2 e3
 obtain rfl:=qE r1
 obtain rfl:=qE r2
 obtain rfl:=qE r3
 obtain ⟨S,m,p,rfl⟩:=rU (e:=3) (s:=1) r0
 exact ⟨g0,S,m,p,rfl,b1,b2,b3,m0,m1,m2,m3,r0⟩
structure mD (F:List Nat) (w w':World):Prop where
 os:w'.os=w.os
 tape:w'.tape=w.tape
 output:w'.output=w.output
 size:w.heap.size<=w'.heap.size
 block:∀k,k<w.heap.size→k∉F→w'.heap[k]?=w.heap[k]?
theorem mD.refl (F:List Nat) (w:World):mD F w w:=⟨rfl,rfl,rfl,Nat.le_refl _,fun _ _ _=>rfl⟩
theorem mD.trans {F:List Nat} {a b c:World} (h:mD F a b) (k:mD F b c):mD F a c :=
 ⟨k.os.trans h.os,k.tape.trans h.tape,k.output.trans h.output,Nat.le_trans h.size k.size,fun i hi hn=>(k.block i (Nat.lt_of_lt_of_le hi h.size) hn).trans (h.block i hi hn)⟩
theorem mD.more {F G:List Nat} {a b:World} (h:mD F a b) (hs:∀k∈F,k∈G):mD G a b:=⟨h.os,h.tape,h.output,h.size,fun i hi hn=>h.block i hi fun hf=>hn (hs i hf)⟩
theorem DN {A:Option Addr} {a b:World} (h:a.grownBy b (A.map (·.block))):mD (blk A) a b:=⟨h.os,h.tape,h.output,h.size,fun i hi hn=>h.block i hi (by
 cases A with
 | none=>simp
 | some ad =>
  simp only [Option.map_some,ne_eq,Option.some.injEq]
  rintro rfl
  exact hn (by simp [blk]))⟩
theorem jk {F:List Nat} {w:World} {p:Addr} (hp:p.block∈F) (v:Value):mD F w (w.setCell p v) :=
 ⟨rfl,rfl,rfl,by simp [World.setCell],fun k _ hn=>Below.heap_setCell _ _ _ _ (by rintro rfl;exact hn hp)⟩
theorem mD.chg {F:List Nat} {lo hi:Nat} {a b:World} (h:mD F a b) (hf:∀k∈F,lo<=k/\k<hi):Chg lo hi a b :=
 ⟨h.os,h.tape,h.output,h.size,fun k hk hne=>h.block k hk fun hm=>by have:=hf k hm;omega⟩
theorem dG.child {w:World} {e s n cap j:Nat} {A:Option Addr} {cs:List Cel} {F:List Nat} {c:Cel} (h:dG w (.row e s cs) (.slice A n cap) F) (hF:F.Nodup) (hc:cs[j]?=some c) :
  ∃g v Fj,A=some ⟨g,0,none⟩/\g∈F/\w.cell? ⟨g,j,none⟩=some v/\dG w c v Fj/\Fj.Nodup/\g∉Fj/\(∀k∈Fj,k∈F) /\
   ∀(w':World) (c':Cel),dG w' c' v Fj→mD Fj w w'→dG w' (.row e s (cs.set j c')) (.slice A n cap) F:=by
 have hj:=(List.getElem?_eq_some_iff.1 hc).1
 have hlt:=h.lt
 obtain ⟨g,c0,v,F1,Fj,F2,rfl,e1,hcell,_,rfl,h4,h5,_⟩:=h.cell hj
 rw [hc] at e1
 injection e1 with e1
 subst e1
 rw [List.nodup_cons] at hF
 obtain ⟨hgn,hnd⟩:=hF
 simp only [List.mem_append,not_or] at hgn
 rw [List.nodup_append,List.nodup_append] at hnd
 obtain ⟨n1,⟨n2,n3,n4⟩,n5⟩:=hnd
 refine ⟨g,v,Fj,rfl,by simp,hcell,h4,n2,hgn.2.1,fun k hk=>by simp [hk],fun w' c' hc' ho=>?_⟩
 refine h5 w' c' hc' (ho.block g (hlt g (by simp)) hgn.2.1) (fun k hk=>ho.block k (hlt k (by simp [hk])) fun hj'=>?_) (fun k hk=>ho.block k (hlt k (by simp [hk])) fun hj'=>?_)
 ·exact n5 k hk k (by simp [hj']) rfl
 ·exact n4 k hj' k hk rfl
theorem dG.num {w:World} {e s n cap j:Nat} {A:Option Addr} {cs:List Cel} {F:List Nat} {x:Int} (h:dG w (.row e s cs) (.slice A n cap) F) (hF:F.Nodup) (hc:cs[j]?=some (.int x)) :
  ∃g,A=some ⟨g,0,none⟩/\g∈F/\w.cell? ⟨g,j,none⟩=some (.int .i64 x)/\w.frozen? ⟨g,j,none⟩=false /\
   ∀y:Int,dG (w.setCell ⟨g,j,none⟩ (.int .i64 y)) (.row e s (cs.set j (.int y))) (.slice A n cap) F:=by
 have hj:=(List.getElem?_eq_some_iff.1 hc).1
 obtain ⟨g,c0,v,F1,Fj,F2,rfl,e1,hcell,hfz,rfl,h4,_,h6⟩:=h.cell hj
 rw [hc] at e1
 injection e1 with e1
 subst e1
 rw [fo] at h4
 obtain ⟨rfl,rfl⟩:=h4
 rw [List.nodup_cons] at hF
 obtain ⟨hgn,_⟩:=hF
 simp only [List.nil_append,List.mem_append,not_or] at hgn
 exact ⟨g,rfl,by simp,hcell,hfz,fun y=>h6 (.int y) (.int .i64 y) [] (fo.2 ⟨rfl,rfl⟩) hgn.1 (by simp) hgn.2⟩
theorem xz {α:Type} {f:α→List Cel} (hf:∀x,(f x).length=4):∀{xs:List α} {k j:Nat} {x y:α} {c:Cel},xs[k]?=some x→j<4→f y=(f x).set j c→(xs.flatMap f).set (k * 4+j) c=(xs.set k y).flatMap f
 | [],k,j,x,y,c,h,hj,hy=>by simp at h
 | a :: l,0,j,x,y,c,h,hj,hy=>by
  simp at h
  subst h
  rw [List.flatMap_cons,Nat.zero_mul,Nat.zero_add,List.set_append,if_pos (by rw [hf];exact hj),List.set_cons_zero,List.flatMap_cons,hy]
 | a :: l,k+1,j,x,y,c,h,hj,hy=>by
  rw [List.flatMap_cons,List.set_append,if_neg (by rw [hf];omega),hf,show (k+1) * 4+j - 4=k * 4+j by omega,xz hf (by simpa using h) hj hy,List.set_cons_succ,List.flatMap_cons]
/-! ### marking tiles -/
structure Bd where
 dev:Dev
 frames:List (List Int)
 state:List Int
 phase:Int
 reg:Reg
 saved:List (List Int)
structure Sl3 where
 A1:Option Addr
 n1:Nat
 c1:Nat
 A2:Option Addr
 n2:Nat
 c2:Nat
 A3:Option Addr
 n3:Nat
 c3:Nat
abbrev aD (b:Bd) (s:Sl3):Array Value:=#[.int .i64 b.dev.W,.int .i64 b.dev.H,.int .i64 b.dev.T,.int .i64 b.dev.R,.slice s.A1 s.n1 s.c1,.slice s.A2 s.n2 s.c2,.int .i64 b.phase,.int .i64 b.reg.X0,.int .i64 b.reg.Y0,.int .i64 b.reg.X1,.int .i64 b.reg.Y1,.slice s.A3 s.n3 s.c3]
structure bV (w:World) (b:Bd) (s:Sl3):Prop where
 frames:dZ w s.A1 s.n1 b.frames
 state:bH w s.A2 s.n2 b.state
 saved:dZ w s.A3 s.n3 b.saved
theorem bV.below {w w':World} {b:Bd} {s:Sl3} (h:bV w b s) (hb:Below w.heap.size w w'):bV w' b s:=⟨h.frames.below hb,h.state.below hb,h.saved.below hb⟩
def Ap (l1 h1 l2 h2:Nat):Prop:=h1<=l2∨h2<=l1
structure Gp (w:World) (b:Bd) (s:Sl3) (lo hi l1 h1 l2 h2 l3 h3:Nat):Prop where
 frames:bq l1 h1 w s.A1 s.n1 s.c1 b.frames
 state:Own l2 w s.A2 s.n2 s.c2 b.state
 lies:gJ s.A2 l2 h2
 saved:bq l3 h3 w s.A3 s.n3 s.c3 b.saved
 a12:Ap l1 h1 l2 h2
 a13:Ap l1 h1 l3 h3
 a23:Ap l2 h2 l3 h3
 in1:lo<=l1/\h1<=hi
 in2:lo<=l2/\h2<=hi
 in3:lo<=l3/\h3<=hi
def dm (lo hi:Nat) (w:World) (b:Bd) (s:Sl3):Prop:=∃l1 h1 l2 h2 l3 h3,Gp w b s lo hi l1 h1 l2 h2 l3 h3
theorem gJ.own {A:Option Addr} {lo hi base:Nat} {w:World} {n c:Nat} {xs:List Int} (l:gJ A lo hi) (_:Own base w A n c xs):gJ A lo hi:=l
theorem dm.rd {lo hi:Nat} {w:World} {b:Bd} {s:Sl3} (h:dm lo hi w b s):bV w b s:=by
 obtain ⟨l1,h1,l2,h2,l3,h3,hb⟩:=h
 exact ⟨hb.frames.rd,hb.state.rd,hb.saved.rd⟩
theorem dm.below {lo hi:Nat} {w w':World} {b:Bd} {s:Sl3} (h:dm lo hi w b s) (hb:Below w.heap.size w w'):dm lo hi w' b s:=by
 obtain ⟨l1,h1,l2,h2,l3,h3,k⟩:=h
 exact ⟨l1,h1,l2,h2,l3,h3,k.frames.below hb,k.state.below hb,k.lies,k.saved.below hb,k.a12,k.a13,k.a23,k.in1,k.in2,k.in3⟩
theorem dm.chg {lo hi lo' hi':Nat} {w w':World} {b:Bd} {s:Sl3} (h:dm lo hi w b s) (hg:Chg lo' hi' w w') (ha:hi<=lo'∨hi'<=lo):dm lo hi w' b s:=by
 obtain ⟨l1,h1,l2,h2,l3,h3,k⟩:=h
 have i1:=k.in1
 have i2:=k.in2
 have i3:=k.in3
 exact ⟨l1,h1,l2,h2,l3,h3,k.frames.chg hg (by omega),k.state.chg hg k.lies (by omega),k.lies,k.saved.chg hg (by omega),k.a12,k.a13,k.a23,k.in1,k.in2,k.in3⟩
theorem dm.widen {lo hi lo' hi':Nat} {w:World} {b:Bd} {s:Sl3} (h:dm lo hi w b s) (e1:lo'<=lo) (e2:hi<=hi'):dm lo' hi' w b s:=by
 obtain ⟨l1,h1,l2,h2,l3,h3,k⟩:=h
 have i1:=k.in1
 have i2:=k.in2
 have i3:=k.in3
 exact ⟨l1,h1,l2,h2,l3,h3,k.frames,k.state,k.lies,k.saved,k.a12,k.a13,k.a23,⟨by omega,by omega⟩,⟨by omega,by omega⟩,⟨by omega,by omega⟩⟩
theorem dm.drewd {lo hi:Nat} {w:World} {b:Bd} {s:Sl3} (h:dm lo hi w b s):dm lo hi w.drew b s:=by
 obtain ⟨l1,h1,l2,h2,l3,h3,k⟩:=h
 exact ⟨l1,h1,l2,h2,l3,h3,k.frames.drewd,k.state.drewd,k.lies,k.saved.drewd,k.a12,k.a13,k.a23,k.in1,k.in2,k.in3⟩
def kF (b:Bd):Prop:=af b.frames<=1099511627776/\b.state.length<=1099511627776/\af b.saved<=1099511627776
def bdN (b:Bd):Nat:=bA b.frames b.frames.length+b.state.length+bA b.saved b.saved.length
def BU (k:Int) (b:Bd):Bd:=⟨b.dev,qC k b.frames,pG (k+bA b.frames b.frames.length) b.state.length,b.phase,b.reg,qC (k+bA b.frames b.frames.length+b.state.length) b.saved⟩
theorem xF (d:Dev) (w:World) :
  Calls Tryz.prog 56 #[.agg #[.int .i64 d.W,.int .i64 d.H,.int .i64 d.T,.int .i64 d.R],.agg #[.int .i64 d.W,.int .i64 d.H,.int .i64 d.T,.int .i64 d.R]] w fun e w'=>e = .returned (.bool true)/\Below w.heap.size w w':=by
 go_enter Tryz.func56,Tryz.ntmps56
 go_wp2_with fail
 go_ret
 exact ⟨rfl,aB (aB (Below.refl _ _) _) _⟩
theorem qh (r:Reg) (w:World) :
  Calls Tryz.prog 58 #[.agg #[.int .i64 r.X0,.int .i64 r.Y0,.int .i64 r.X1,.int .i64 r.Y1],.agg #[.int .i64 r.X0,.int .i64 r.Y0,.int .i64 r.X1,.int .i64 r.Y1]] w fun e w'=>e = .returned (.bool true)/\Below w.heap.size w w':=by
 go_enter Tryz.func58,Tryz.ntmps58
 go_wp2_with fail
 go_ret
 exact ⟨rfl,aB (aB (Below.refl _ _) _) _⟩
theorem lD (b:Bd) (s t:Sl3) (w:World) (hA:bV w b s) (hB:bV w b t) (hz:kF b) :
  Calls Tryz.prog 19 #[.agg (aD b s),.agg (aD b t)] w fun e w'=>e = .returned (.bool true)/\Below w.heap.size w w':=by
 have HA:=Hd hA
 have HB:=Hd hB
 obtain ⟨z1,z2,z3⟩:=hz
 have hb0:Below w.heap.size w ((w.alloc (.cells (aD b s) 31)).alloc (.cells (aD b t) 31)):=aB (aB (Below.refl _ _) _) _
 have hl:=hA.state.1
 have hz2:s.n2<=1099511627776:=by omega
 clear hA hB hl
 go_enter Tryz.func19,Tryz.ntmps19
 go_wp2_with fail
 refine (xF b.dev _).mono ?_
 rintro e w1 ⟨rfl,b1⟩
 obtain ⟨hcc,hff⟩:=aO b1
 have B1:=Hd (aA hb0 b1)
 have C1:=Hd b1
 clear b1 hb0
 go_wp2_with fail
 refine (tJ _ _ _ _ _ _ b.frames _ (HA.out.frames.below B1.out) (HB.out.frames.below B1.out) z1).mono ?_
 rintro e w2 ⟨rfl,b2⟩
 clear hcc hff
 obtain ⟨hcc,hff⟩:=aO (aA C1.out b2)
 have B2:=Hd (aA B1.out b2)
 have C2:=Hd (aA C1.out b2)
 clear b2
 go_wp2_with fail
 refine (ja _ _ _ _ _ _ b.state _ (HA.out.state.below B2.out) (HB.out.state.below B2.out) hz2).mono ?_
 rintro e w3 ⟨rfl,b3⟩
 clear hcc hff
 obtain ⟨hcc,hff⟩:=aO (aA C2.out b3)
 have B3:=Hd (aA B2.out b3)
 have C3:=Hd (aA C2.out b3)
 clear b3
 go_wp2_with fail
 refine (qh b.reg _).mono ?_
 rintro e w4 ⟨rfl,b4⟩
 clear hcc hff
 obtain ⟨hcc,hff⟩:=aO (aA C3.out b4)
 have B4:=Hd (aA B3.out b4)
 clear b4
 go_wp2_with fail
 refine (tJ _ _ _ _ _ _ b.saved _ (HA.out.saved.below B4.out) (HB.out.saved.below B4.out) z3).mono ?_
 rintro e w5 ⟨rfl,b5⟩
 have B5:=Hd (aA B4.out b5)
 clear hcc hff b5
 go_wp2_with fail
 go_ret
 exact ⟨rfl,B5.out⟩
theorem qi (b:Bd) (s:Sl3) (k0:Int) (w:World) (h:bV w (BU k0 b) s) (hz:kF b) (hk0:0<=k0) (hk1:k0<=1048576) (hN:bdN b<=1073741824) :
  Calls Tryz.prog 25 #[.agg (aD (BU k0 b) s),.int .i64 k0] w fun e w'=>e = .returned (.int .i64 (k0+bdN b))/\Below w.heap.size w w':=by
 have HA:=Hd h
 obtain ⟨z1,z2,z3⟩:=hz
 have hl1:s.n1=b.frames.length:=by have:=h.frames.1;simpa [BU,qC,l9] using this.symm
 have hl2:s.n2=b.state.length:=by have:=h.state.1;simpa [BU,pG] using this.symm
 have hl3:s.n3=b.saved.length:=by have:=h.saved.1;simpa [BU,qC,l9] using this.symm
 have hb0:Below w.heap.size w (w.alloc (.cells (aD (BU k0 b) s) 31)):=aB (Below.refl _ _) _
 unfold bdN at *
 have HL1:=Hd hl1
 have HL2:=Hd hl2
 have HL3:=Hd hl3
 clear h hl1 hl2 hl3
 go_enter Tryz.func25,Tryz.ntmps25
 go_wp2_with fail
 refine (qg s.A1 s.n1 s.c1 _ k0 _ (HA.out.frames.below hb0) rfl hk0 (by omega) z1).mono ?_
 rintro e w1 ⟨rfl,b1⟩
 rw [HL1.out]
 obtain ⟨hcc,hff⟩:=aO b1
 have B1:=Hd (aA hb0 b1)
 have C1:=Hd b1
 have g1:decide (k0+(bA b.frames b.frames.length:Int)<0)=false:=by simp;omega
 clear b1 hb0
 go_wp2_with fail
 refine (lI s.A2 s.n2 s.c2 _ _ _ (HA.out.state.below B1.out) (by rw [HL2.out];rfl) (by omega) (by omega) (by rw [HL2.out];exact z2)).mono ?_
 rintro e w2 ⟨rfl,b2⟩
 rw [HL2.out]
 clear hcc hff
 obtain ⟨hcc,hff⟩:=aO (aA C1.out b2)
 have B2:=Hd (aA B1.out b2)
 have g2:decide (k0+(bA b.frames b.frames.length:Int)+(b.state.length:Int)<0)=false:=by simp;omega
 clear b2 g1
 go_wp2_with fail
 refine (qg s.A3 s.n3 s.c3 _ _ _ (HA.out.saved.below B2.out) rfl (by omega) (by omega) z3).mono ?_
 rintro e w3 ⟨rfl,b3⟩
 rw [HL3.out]
 have B3:=Hd (aA B2.out b3)
 have g3:decide (k0+(bA b.frames b.frames.length:Int)+(b.state.length:Int)+(bA b.saved b.saved.length:Int)<0)=false:=by simp;omega
 clear hcc hff b3 g2
 go_wp2_with fail
 go_ret
 exact ⟨aP (by omega),B3.out⟩
theorem vJ {a w:World} {lo hi:Nat} {B:Obj} (h:Chg lo hi (a.alloc B) w) (hh:hi<=a.heap.size):(∀o,w.cell? ⟨a.heap.size,o,none⟩=(a.alloc B).cell? ⟨a.heap.size,o,none⟩)/\(∀o,w.frozen? ⟨a.heap.size,o,none⟩=(a.alloc B).frozen? ⟨a.heap.size,o,none⟩):=by
 have e:=h.block a.heap.size (by show a.heap.size<(a.heap.push B).size;rw [Array.size_push];omega) (.inr hh)
 exact ⟨fun o=>by simp only [World.cell?,e],fun o=>by simp only [World.frozen?,e]⟩
theorem Chg.wide {lo hi lo' hi':Nat} {w w':World} (h:Chg lo hi w w') (a:lo'<=lo) (b:hi<=hi'):Chg lo' hi' w w':=⟨h.os,h.tape,h.output,h.size,fun k hk hn=>h.block k hk (by omega)⟩
theorem xG (lo hi:Nat) (b:Bd) (s:Sl3) (k0:Int) (w:World) (h:dm lo hi w b s) (hh:hi<=w.heap.size) (hz:kF b) (hk0:0<=k0) (hk1:k0<=1048576) (hN:bdN b<=1073741824) :
  Calls Tryz.prog 22 #[.agg (aD b s),.int .i64 k0] w fun e w'=>e = .returned (.int .i64 (k0+bdN b))/\dm lo hi w' (BU k0 b) s/\Chg lo hi w w':=by
 obtain ⟨l1,h1,l2,h2,l3,h3,k⟩:=h
 obtain ⟨z1,z2,z3⟩:=hz
 have e1:=k.in1
 have e2:=k.in2
 have e3:=k.in3
 have a12:=k.a12
 have a13:=k.a13
 have a23:=k.a23
 unfold Ap at a12 a13 a23
 have hl1:s.n1=b.frames.length:=k.frames.len.symm
 have hl2:s.n2=b.state.length:=k.state.len.symm
 have hl3:s.n3=b.saved.length:=k.saved.len.symm
 have hb0:Below w.heap.size w (w.alloc (.cells (aD b s) 31)):=aB (Below.refl _ _) _
 have hc0:Chg lo hi w (w.alloc (.cells (aD b s) 31)):=⟨hb0.os,hb0.tape,hb0.output,hb0.size,fun i hi' _=>hb0.block i hi'⟩
 have K1:=Hd (k.frames.below hb0)
 have K2:=Hd (k.state.below hb0)
 have K3:=Hd (k.saved.below hb0)
 have KK:=Hd k
 have HC:=Hd hc0
 have HL1:=Hd hl1
 have HL2:=Hd hl2
 have HL3:=Hd hl3
 unfold bdN at *
 clear k hl1 hl2 hl3 hb0 hc0
 go_enter Tryz.func22,Tryz.ntmps22
 go_wp2_with fail
 refine (qf l1 h1 s.A1 s.n1 s.c1 b.frames k0 _ K1.out hk0 (by omega) z1).mono ?_
 rintro e w1 ⟨rfl,o1,c1⟩
 rw [HL1.out]
 obtain ⟨hcc,hff⟩:=vJ c1 (by omega)
 have O1:=Hd o1
 have P2:=Hd (K2.out.chg c1 KK.out.lies (by omega))
 have P3:=Hd (K3.out.chg c1 (by omega))
 have C1:=Hd c1
 have g1:decide (k0+(bA b.frames b.frames.length:Int)<0)=false:=by simp;omega
 clear o1 c1
 go_wp2_with fail
 refine (zX l2 l2 h2 s.A2 s.n2 s.c2 b.state _ _ P2.out KK.out.lies (by omega) (by omega) (by rw [HL2.out];exact z2)).mono ?_
 rintro e w2 ⟨rfl,o2,c2⟩
 rw [HL2.out] at o2 ⊢
 clear hcc hff
 have C2w:=Hd ((C1.out.wide (lo':=lo) (hi':=hi) e1.1 e1.2).trans (c2.wide e2.1 e2.2))
 obtain ⟨hcc,hff⟩:=vJ C2w.out (by omega)
 have Q1:=Hd (O1.out.chg c2 (by omega))
 have O2:=Hd o2
 have Q3:=Hd (P3.out.chg c2 (by omega))
 have g2:decide (k0+(bA b.frames b.frames.length:Int)+(b.state.length:Int)<0)=false:=by simp;omega
 clear o2 c2 g1
 go_wp2_with fail
 refine (qf l3 h3 s.A3 s.n3 s.c3 b.saved _ _ Q3.out (by omega) (by omega) z3).mono ?_
 rintro e w3 ⟨rfl,o3,c3⟩
 rw [HL3.out]
 have C3w:=Hd (HC.out.trans (C2w.out.trans (c3.wide e3.1 e3.2)))
 have R1:=Hd (Q1.out.chg c3 (by omega))
 have R2:=Hd (O2.out.chg c3 KK.out.lies (by omega))
 have O3:=Hd o3
 have g3:decide (k0+(bA b.frames b.frames.length:Int)+(b.state.length:Int)+(bA b.saved b.saved.length:Int)<0)=false:=by simp;omega
 clear hcc hff o3 c3 g2
 go_wp2_with fail
 go_ret
 refine ⟨aP (by omega),⟨l1,h1,l2,h2,l3,h3,R1.out,?_,KK.out.lies,O3.out,KK.out.a12,KK.out.a13,KK.out.a23,e1,e2,e3⟩,C3w.out⟩
 rw [HL2.out]
 exact R2.out
def dQ (ws:List Int) (p b N k:Nat):List Int:=((List.range k).map fun i=>ag ws (p+b * i) b)++List.replicate (N - k) 0
theorem wI (ws:List Int) (p b N:Nat):dQ ws p b N 0=List.replicate N 0:=by simp [dQ]
theorem fu {ws:List Int} {p b N k:Nat} (h:k<=N):(dQ ws p b N k).length=N:=by simp [dQ];omega
theorem qR {ws:List Int} {p b N k:Nat} (h:k<N):(dQ ws p b N k).set k (ag ws (p+b * k) b)=dQ ws p b N (k+1):=by
 have e:N - k=(N - (k+1))+1:=by omega
 have hl:((List.range k).map fun i=>ag ws (p+b * i) b).length=k:=by simp
 rw [dQ,List.set_append,if_neg (by omega),hl,Nat.sub_self,e,List.replicate_succ,List.set_cons_zero,dQ,List.range_succ,List.map_append,List.append_assoc]
 rfl
theorem rV (ws:List Int) (p b N:Nat):dQ ws p b N N=(List.range N).map fun i=>ag ws (p+b * i) b:=by simp [dQ]
abbrev oO (gm gl M:Nat) (pad ram:Int):Array Value:=#[.slice (some ⟨gm,0,none⟩) M M,.slice (some ⟨gl,0,none⟩) 2 2,.int .i64 pad,.int .i64 ram]
abbrev DR (g0 g1:Nat) (a0 b0 c0 a1 b1 c1:Int):Array Value:=#[.slice (some ⟨g0,0,none⟩) 4 4,.int .i64 a0,.int .i64 b0,.int .i64 c0,.slice (some ⟨g1,0,none⟩) 4 4,.int .i64 a1,.int .i64 b1,.int .i64 c1]
structure Bk where
 g:Nat
 gr:Nat
 gc:Nat
 gm:Nat
 gl:Nat
 g0:Nat
 g1:Nat
structure Tl where
 mux:List Int
 s0:List Int
 s1:List Int
 a0:Int
 b0:Int
 c0:Int
 a1:Int
 b1:Int
 c1:Int
 pad:Int
 ram:Int
structure Sep (k:Bk) (lo:Nat):Prop where
 le:lo<=k.g/\lo<=k.gr/\lo<=k.gc/\lo<=k.gm/\lo<=k.gl/\lo<=k.g0/\lo<=k.g1
 n1:k.g≠k.gr/\k.g≠k.gc/\k.g≠k.gm/\k.g≠k.gl/\k.g≠k.g0/\k.g≠k.g1
 n2:k.gr≠k.gc/\k.gr≠k.gm/\k.gr≠k.gl/\k.gr≠k.g0/\k.gr≠k.g1
 n3:k.gc≠k.gm/\k.gc≠k.gl/\k.gc≠k.g0/\k.gc≠k.g1
 n4:k.gm≠k.gl/\k.gm≠k.g0/\k.gm≠k.g1
 n5:k.gl≠k.g0/\k.gl≠k.g1/\k.g0≠k.g1
structure DW (w:World) (k:Bk) (A:Option Addr) (n c p M:Nat) (t:Tl):Prop where
 r:Rdr w k.g A n c p
 res:w.heap[k.gr]?=some (.cells #[.slice none 0 0,.slice none 0 0,.int .i64 0,.int .i64 0] 103 (0,0))
 tile:w.heap[k.gc]?=some (.cells (oO k.gm k.gl M t.pad t.ram) 103 (0,0))
 mux:w.heap[k.gm]?=some (.cells (arr t.mux) 3 (0,0))
 les:w.heap[k.gl]?=some (.cells (DR k.g0 k.g1 t.a0 t.b0 t.c0 t.a1 t.b1 t.c1) 107 (0,0))
 s0:w.heap[k.g0]?=some (.cells (arr t.s0) 3 (0,0))
 s1:w.heap[k.g1]?=some (.cells (arr t.s1) 3 (0,0))
theorem kG {w w':World} {g k:Nat} {o:Obj} (hg:w.grownBy w' (some g)) (h:w.heap[k]?=some o) (hne:g≠k):w'.heap[k]?=some o :=
 (hg.block k (aX h) (by simpa using fun e=>hne e.symm)).trans h
theorem DW.got {w w':World} {k:Bk} {lo:Nat} {A:Option Addr} {n c p q M:Nat} {t:Tl} (h:DW w k A n c p M t) (hs:Sep k lo) (hr:Rdr w' k.g A n c q) (hg:w.grownBy w' (some k.g)):DW w' k A n c q M t:=by
 obtain ⟨h1,h2,h3,h4,h5,h6⟩:=hs.n1
 exact ⟨hr,kG hg h.res h1,kG hg h.tile h2,kG hg h.mux h3,kG hg h.les h4,kG hg h.s0 h5,kG hg h.s1 h6⟩
theorem DW.drew {w:World} {k:Bk} {A:Option Addr} {n c p M:Nat} {t:Tl} (h:DW w k A n c p M t):DW w.drew k A n c p M t:=⟨h.r,h.res,h.tile,h.mux,h.les,h.s0,h.s1⟩
theorem DW.setMux {w:World} {k:Bk} {lo:Nat} {A:Option Addr} {n c p M:Nat} {t:Tl} (h:DW w k A n c p M t) (hs:Sep k lo) (j:Nat) (x:Int):DW (w.setCell ⟨k.gm,j,none⟩ (.int .i64 x)) k A n c p M { t with mux:=t.mux.set j x }:=by
 obtain ⟨a1,a2,a3,a4,a5,a6⟩:=hs.n1
 obtain ⟨b1,b2,b3,b4,b5⟩:=hs.n2
 obtain ⟨c1,c2,c3,c4⟩:=hs.n3
 obtain ⟨d1,d2,d3⟩:=hs.n4
 exact ⟨aU _ h.r a3,aU _ h.res b2,aU _ h.tile c1,by rw [bF h.mux j,iA],aU _ h.les d1.symm,aU _ h.s0 d2.symm,aU _ h.s1 d3.symm⟩
theorem DW.setS0 {w:World} {k:Bk} {lo:Nat} {A:Option Addr} {n c p M:Nat} {t:Tl} (h:DW w k A n c p M t) (hs:Sep k lo) (j:Nat) (x:Int):DW (w.setCell ⟨k.g0,j,none⟩ (.int .i64 x)) k A n c p M { t with s0:=t.s0.set j x }:=by
 obtain ⟨a1,a2,a3,a4,a5,a6⟩:=hs.n1
 obtain ⟨b1,b2,b3,b4,b5⟩:=hs.n2
 obtain ⟨c1,c2,c3,c4⟩:=hs.n3
 obtain ⟨d1,d2,d3⟩:=hs.n4
 obtain ⟨e1,e2,e3⟩:=hs.n5
 exact ⟨aU _ h.r a5,aU _ h.res b4,aU _ h.tile c3,aU _ h.mux d2,aU _ h.les e1,by rw [bF h.s0 j,iA],aU _ h.s1 e3.symm⟩
theorem DW.setS1 {w:World} {k:Bk} {lo:Nat} {A:Option Addr} {n c p M:Nat} {t:Tl} (h:DW w k A n c p M t) (hs:Sep k lo) (j:Nat) (x:Int):DW (w.setCell ⟨k.g1,j,none⟩ (.int .i64 x)) k A n c p M { t with s1:=t.s1.set j x }:=by
 obtain ⟨a1,a2,a3,a4,a5,a6⟩:=hs.n1
 obtain ⟨b1,b2,b3,b4,b5⟩:=hs.n2
 obtain ⟨c1,c2,c3,c4⟩:=hs.n3
 obtain ⟨d1,d2,d3⟩:=hs.n4
 obtain ⟨e1,e2,e3⟩:=hs.n5
 exact ⟨aU _ h.r a6,aU _ h.res b5,aU _ h.tile c4,aU _ h.mux d3,aU _ h.les e2,aU _ h.s0 e3,by rw [bF h.s1 j,iA]⟩
theorem DW.setA0 {w:World} {k:Bk} {lo:Nat} {A:Option Addr} {n c p M:Nat} {t:Tl} (h:DW w k A n c p M t) (hs:Sep k lo) (x:Int):DW (w.setCell ⟨k.gl,1,none⟩ (.int .i64 x)) k A n c p M { t with a0:=x }:=by
 obtain ⟨a1,a2,a3,a4,a5,a6⟩:=hs.n1
 obtain ⟨b1,b2,b3,b4,b5⟩:=hs.n2
 obtain ⟨c1,c2,c3,c4⟩:=hs.n3
 obtain ⟨d1,d2,d3⟩:=hs.n4
 obtain ⟨e1,e2,e3⟩:=hs.n5
 exact ⟨aU _ h.r a4,aU _ h.res b3,aU _ h.tile c2,aU _ h.mux d1,(bF h.les 1 _).trans rfl,aU _ h.s0 e1.symm,aU _ h.s1 e2.symm⟩
theorem DW.setB0 {w:World} {k:Bk} {lo:Nat} {A:Option Addr} {n c p M:Nat} {t:Tl} (h:DW w k A n c p M t) (hs:Sep k lo) (x:Int):DW (w.setCell ⟨k.gl,2,none⟩ (.int .i64 x)) k A n c p M { t with b0:=x }:=by
 obtain ⟨a1,a2,a3,a4,a5,a6⟩:=hs.n1
 obtain ⟨b1,b2,b3,b4,b5⟩:=hs.n2
 obtain ⟨c1,c2,c3,c4⟩:=hs.n3
 obtain ⟨d1,d2,d3⟩:=hs.n4
 obtain ⟨e1,e2,e3⟩:=hs.n5
 exact ⟨aU _ h.r a4,aU _ h.res b3,aU _ h.tile c2,aU _ h.mux d1,(bF h.les 2 _).trans rfl,aU _ h.s0 e1.symm,aU _ h.s1 e2.symm⟩
theorem DW.setC0 {w:World} {k:Bk} {lo:Nat} {A:Option Addr} {n c p M:Nat} {t:Tl} (h:DW w k A n c p M t) (hs:Sep k lo) (x:Int):DW (w.setCell ⟨k.gl,3,none⟩ (.int .i64 x)) k A n c p M { t with c0:=x }:=by
 obtain ⟨a1,a2,a3,a4,a5,a6⟩:=hs.n1
 obtain ⟨b1,b2,b3,b4,b5⟩:=hs.n2
 obtain ⟨c1,c2,c3,c4⟩:=hs.n3
 obtain ⟨d1,d2,d3⟩:=hs.n4
 obtain ⟨e1,e2,e3⟩:=hs.n5
 exact ⟨aU _ h.r a4,aU _ h.res b3,aU _ h.tile c2,aU _ h.mux d1,(bF h.les 3 _).trans rfl,aU _ h.s0 e1.symm,aU _ h.s1 e2.symm⟩
theorem DW.setA1 {w:World} {k:Bk} {lo:Nat} {A:Option Addr} {n c p M:Nat} {t:Tl} (h:DW w k A n c p M t) (hs:Sep k lo) (x:Int):DW (w.setCell ⟨k.gl,5,none⟩ (.int .i64 x)) k A n c p M { t with a1:=x }:=by
 obtain ⟨a1,a2,a3,a4,a5,a6⟩:=hs.n1
 obtain ⟨b1,b2,b3,b4,b5⟩:=hs.n2
 obtain ⟨c1,c2,c3,c4⟩:=hs.n3
 obtain ⟨d1,d2,d3⟩:=hs.n4
 obtain ⟨e1,e2,e3⟩:=hs.n5
 exact ⟨aU _ h.r a4,aU _ h.res b3,aU _ h.tile c2,aU _ h.mux d1,(bF h.les 5 _).trans rfl,aU _ h.s0 e1.symm,aU _ h.s1 e2.symm⟩
theorem DW.setB1 {w:World} {k:Bk} {lo:Nat} {A:Option Addr} {n c p M:Nat} {t:Tl} (h:DW w k A n c p M t) (hs:Sep k lo) (x:Int):DW (w.setCell ⟨k.gl,6,none⟩ (.int .i64 x)) k A n c p M { t with b1:=x }:=by
 obtain ⟨a1,a2,a3,a4,a5,a6⟩:=hs.n1
 obtain ⟨b1,b2,b3,b4,b5⟩:=hs.n2
 obtain ⟨c1,c2,c3,c4⟩:=hs.n3
 obtain ⟨d1,d2,d3⟩:=hs.n4
 obtain ⟨e1,e2,e3⟩:=hs.n5
 exact ⟨aU _ h.r a4,aU _ h.res b3,aU _ h.tile c2,aU _ h.mux d1,(bF h.les 6 _).trans rfl,aU _ h.s0 e1.symm,aU _ h.s1 e2.symm⟩
theorem DW.setC1 {w:World} {k:Bk} {lo:Nat} {A:Option Addr} {n c p M:Nat} {t:Tl} (h:DW w k A n c p M t) (hs:Sep k lo) (x:Int):DW (w.setCell ⟨k.gl,7,none⟩ (.int .i64 x)) k A n c p M { t with c1:=x }:=by
 obtain ⟨a1,a2,a3,a4,a5,a6⟩:=hs.n1
 obtain ⟨b1,b2,b3,b4,b5⟩:=hs.n2
 obtain ⟨c1,c2,c3,c4⟩:=hs.n3
 obtain ⟨d1,d2,d3⟩:=hs.n4
 obtain ⟨e1,e2,e3⟩:=hs.n5
 exact ⟨aU _ h.r a4,aU _ h.res b3,aU _ h.tile c2,aU _ h.mux d1,(bF h.les 7 _).trans rfl,aU _ h.s0 e1.symm,aU _ h.s1 e2.symm⟩
theorem DW.setPad {w:World} {k:Bk} {lo:Nat} {A:Option Addr} {n c p M:Nat} {t:Tl} (h:DW w k A n c p M t) (hs:Sep k lo) (x:Int):DW (w.setCell ⟨k.gc,2,none⟩ (.int .i64 x)) k A n c p M { t with pad:=x }:=by
 obtain ⟨a1,a2,a3,a4,a5,a6⟩:=hs.n1
 obtain ⟨b1,b2,b3,b4,b5⟩:=hs.n2
 obtain ⟨c1,c2,c3,c4⟩:=hs.n3
 exact ⟨aU _ h.r a2,aU _ h.res b1,(bF h.tile 2 _).trans rfl,aU _ h.mux c1.symm,aU _ h.les c2.symm,aU _ h.s0 c3.symm,aU _ h.s1 c4.symm⟩
theorem DW.setRam {w:World} {k:Bk} {lo:Nat} {A:Option Addr} {n c p M:Nat} {t:Tl} (h:DW w k A n c p M t) (hs:Sep k lo) (x:Int):DW (w.setCell ⟨k.gc,3,none⟩ (.int .i64 x)) k A n c p M { t with ram:=x }:=by
 obtain ⟨a1,a2,a3,a4,a5,a6⟩:=hs.n1
 obtain ⟨b1,b2,b3,b4,b5⟩:=hs.n2
 obtain ⟨c1,c2,c3,c4⟩:=hs.n3
 exact ⟨aU _ h.r a2,aU _ h.res b1,(bF h.tile 3 _).trans rfl,aU _ h.mux c1.symm,aU _ h.les c2.symm,aU _ h.s0 c3.symm,aU _ h.s1 c4.symm⟩
theorem aJ {w:World} {g:Nat} {cs:Array Value} {t:TypeId} (h:w.heap[g]?=some (.cells cs t (0,0))) (k:Nat):w.frozen? ⟨g,k,none⟩=false:=by unfold World.frozen?;rw [h];simp
theorem jl {w:World} {g:Nat} {A:Option Addr} {n c p:Nat} (h:Rdr w g A n c p):Rdr w.drew g A n c p:=h
structure DT (w:World) (k:Bk) (t:Tl):Prop where
 mux:w.heap[k.gm]?=some (.cells (arr t.mux) 3 (0,0))
 les:w.heap[k.gl]?=some (.cells (DR k.g0 k.g1 t.a0 t.b0 t.c0 t.a1 t.b1 t.c1) 107 (0,0))
 s0:w.heap[k.g0]?=some (.cells (arr t.s0) 3 (0,0))
 s1:w.heap[k.g1]?=some (.cells (arr t.s1) 3 (0,0))
theorem DW.dt {w:World} {k:Bk} {A:Option Addr} {n c p M:Nat} {t:Tl} (h:DW w k A n c p M t):DT w k t:=⟨h.mux,h.les,h.s0,h.s1⟩
theorem DT.setR {w:World} {k:Bk} {lo:Nat} {t:Tl} (h:DT w k t) (hs:Sep k lo) (j:Nat) (v:Value):DT (w.setCell ⟨k.gr,j,none⟩ v) k t:=by
 obtain ⟨b1,b2,b3,b4,b5⟩:=hs.n2
 exact ⟨aU _ h.mux b2.symm,aU _ h.les b3.symm,aU _ h.s0 b4.symm,aU _ h.s1 b5.symm⟩
theorem DT.done {w:World} {k:Bk} {lo M:Nat} {t:Tl} (h:DT w k t) (hs:Sep k lo) (hm:t.mux.length=M) (hM:M<=maxLen) (h0:t.s0.length=4) (h1:t.s1.length=4) :
  dP lo w.heap.size w (au.cells ⟨t.mux,[⟨t.s0,t.a0,t.b0,t.c0⟩,⟨t.s1,t.a1,t.b1,t.c1⟩],t.pad,t.ram⟩) (oO k.gm k.gl M t.pad t.ram).toList:=by
 obtain ⟨l1,l2,l3,l4,l5,l6,l7⟩:=hs.le
 obtain ⟨d1,d2,d3⟩:=hs.n4
 obtain ⟨e1,e2,e3⟩:=hs.n5
 have om:dG w (ig t.mux) (.slice (some ⟨k.gm,0,none⟩) M M) [k.gm]:=fQ.2 ⟨Own.arr h.mux (Nat.zero_le _) hM hm,rfl⟩
 have o0:dG w (ig t.s0) (.slice (some ⟨k.g0,0,none⟩) 4 4) [k.g0]:=fQ.2 ⟨Own.arr h.s0 (Nat.zero_le _) (by unfold maxLen;omega) h0,rfl⟩
 have o1:dG w (ig t.s1) (.slice (some ⟨k.g1,0,none⟩) 4 4) [k.g1]:=fQ.2 ⟨Own.arr h.s1 (Nat.zero_le _) (by unfold maxLen;omega) h1,rfl⟩
 have ci:∀x:Int,dG w (.int x) (.int .i64 x) []:=fun x=>fo.2 ⟨rfl,rfl⟩
 have ol:dG w (qG [⟨t.s0,t.a0,t.b0,t.c0⟩,⟨t.s1,t.a1,t.b1,t.c1⟩]) (.slice (some ⟨k.gl,0,none⟩) 2 2) [k.gl,k.g0,k.g1]:=by
  unfold qG
  rw [dn]
  refine ⟨_,2,2,(DR k.g0 k.g1 t.a0 t.b0 t.c0 t.a1 t.b1 t.c1).toList,[k.g0,k.g1],rfl,⟨rfl,.inr ⟨k.gl,2,_,rfl,Nat.zero_le _,h.les,Nat.le_refl _,by unfold maxLen;omega,rfl,rfl⟩⟩,rfl,?_⟩
  show fO w [ig t.s0,.int t.a0,.int t.b0,.int t.c0,ig t.s1,.int t.a1,.int t.b1,.int t.c1] _ _
  simp only [bz,eX]
  exact ⟨_,_,[k.g0],[k.g1],rfl,rfl,o0,_,_,[],[k.g1],rfl,rfl,ci _,_,_,[],[k.g1],rfl,rfl,ci _,_,_,[],[k.g1],rfl,rfl,ci _,_,_,[k.g1],[],rfl,rfl,o1,_,_,[],[],rfl,rfl,ci _,_,_,[],[],rfl,rfl,ci _,_,_,[],[],rfl,rfl,ci _,rfl,rfl⟩
 refine ⟨[k.gm,k.gl,k.g0,k.g1],?_,by simp [d1,d2,d3,e1,e2,e3],fun x hx=>?_⟩
 ·show fO w [ig t.mux,qG _,.int t.pad,.int t.ram] _ _
  simp only [bz,eX]
  exact ⟨_,_,[k.gm],[k.gl,k.g0,k.g1],rfl,rfl,om,_,_,[k.gl,k.g0,k.g1],[],rfl,rfl,ol,_,_,[],[],rfl,rfl,ci _,_,_,[],[],rfl,rfl,ci _,rfl,rfl⟩
 ·have q1:=aX h.mux
  have q2:=aX h.les
  have q3:=aX h.s0
  have q4:=aX h.s1
  simp only [List.mem_cons,List.not_mem_nil,or_false] at hx
  omega
theorem Chg.set {lo hi g k:Nat} {w w':World} (h:Chg lo hi w w') (h1:lo<=g) (h2:g<hi) (v:Value):Chg lo hi w (w'.setCell ⟨g,k,none⟩ v):=by
 have b:=(Below.refl g w').setCell (p:=⟨g,k,none⟩) (Nat.le_refl g) v
 exact ⟨b.os.trans h.os,b.tape.trans h.tape,b.output.trans h.output,Nat.le_trans h.size b.size,fun i hi' hn=>(Below.heap_setCell w' ⟨g,k,none⟩ v i (by show i≠g;omega)).trans (h.block i hi' hn)⟩
theorem gp {w:World} {g:Nat} {o:Obj} (h:w.heap[g]?=some o) {p:Addr} (hp:g≠p.block) (v:Value):(w.setCell p v).heap[g]?=some o:=(Below.heap_setCell w p v g hp).trans h
theorem bD {w:World} {g k:Nat} {cs cs':Array Value} {t:TypeId} (h:w.heap[g]?=some (.cells cs t (0,0))) (v:Value) (e:cs.setIfInBounds k v=cs'):(w.setCell ⟨g,k,none⟩ v).heap[g]?=some (.cells cs' t (0,0)):=by
 rw [←e];exact Go.Joins.block_setCell h v
theorem iJ {fn:Func} {p:Tmp} {ty t:TypeId} {tmps cs:Array Value} {P:Program} {w:World} {g:Nat} {fs:Array Field} (h:fn.results=#[.cell p ty]) (ht:tmps.getD p undef = .pointer (some ⟨g,0,none⟩)) (hg:w.heap[g]?=some (.cells cs t (0,0)))
  (hu:P.underlying ty=some (.struct fs)) (hi:(P.info? ty).map (·.size)=some cs.size):(results fn tmps).run P w = .ok (.agg cs) w:=by
 have hl:(loadVar ty ⟨g,0,none⟩).run P w = .ok (.agg cs) w:=run_loadVar_row w g t ty cs (0,0) (.struct fs) hg hu rfl hi
 simp only [results,h]
 simp only [Array.getD_eq_getD_getElem?] at ht
 simp [ht,asAddr,hl]
theorem aI {fn:Func} {p u:Tmp} {ty t:TypeId} {tmps cs:Array Value} {P:Program} {w:World} {g:Nat} {fs:Array Field} (h:fn.results=#[.cell p ty,.tmp u]) (ht:tmps.getD p undef = .pointer (some ⟨g,0,none⟩)) (hg:w.heap[g]?=some (.cells cs t (0,0)))
  (hu:P.underlying ty=some (.struct fs)) (hi:(P.info? ty).map (·.size)=some cs.size):(results fn tmps).run P w = .ok (.tuple #[.agg cs,tmps.getD u undef]) w:=by
 have hl:(loadVar ty ⟨g,0,none⟩).run P w = .ok (.agg cs) w:=run_loadVar_row w g t ty cs (0,0) (.struct fs) hg hu rfl hi
 simp only [results,h]
 simp only [Array.getD_eq_getD_getElem?] at ht
 simp [ht,asAddr,hl]
theorem aK {w:World} {g:Nat} {v0 v1 v2 v3 v4 v5 v6 v7 v8 v9 v10 v11:Value} {t:TypeId} (h:w.heap[g]?=some (.cells #[v0,v1,v2,v3,v4,v5,v6,v7,v8,v9,v10,v11] t (0,0))):w.cell? ⟨g,0,none⟩=some v0/\w.cell? ⟨g,1,none⟩=some v1/\w.cell? ⟨g,2,none⟩=some v2/\w.cell? ⟨g,3,none⟩=some v3/\w.cell? ⟨g,4,none⟩=some v4/\w.cell? ⟨g,5,none⟩=some v5/\w.cell? ⟨g,6,none⟩=some v6/\w.cell? ⟨g,7,none⟩=some v7/\w.cell? ⟨g,8,none⟩=some v8/\w.cell? ⟨g,9,none⟩=some v9/\w.cell? ⟨g,10,none⟩=some v10/\w.cell? ⟨g,11,none⟩=some v11 :=
 ⟨aC h rfl,aC h rfl,aC h rfl,aC h rfl,aC h rfl,aC h rfl,aC h rfl,aC h rfl,aC h rfl,aC h rfl,aC h rfl,aC h rfl⟩
def mE (w:World) (g0 g1 g:Nat) (cs cs1 cs':Array Value):Prop:=w.heap[g0]?=some (.cells cs 44 (0,0))/\w.heap[g1]?=some (.cells cs1 31 (0,0))/\w.heap[g]?=some (.cells cs' 31 (0,0))
theorem mE.tr {w w':World} {g0 g1 g:Nat} {cs cs1 cs':Array Value} (h:mE w g0 g1 g cs cs1 cs') (hb:Below w.heap.size w w'):mE w' g0 g1 g cs cs1 cs':=⟨aF hb h.1,aF hb h.2.1,aF hb h.2.2⟩
theorem mE.set {w:World} {g0 g1 g k:Nat} {cs cs1 cs' cs2:Array Value} (h:mE w g0 g1 g cs cs1 cs') (hn:g0≠g) (hn1:g1≠g) (v:Value) (e:cs'.setIfInBounds k v=cs2):mE (w.setCell ⟨g,k,none⟩ v) g0 g1 g cs cs1 cs2:=⟨gp h.1 hn v,gp h.2.1 hn1 v,bD h.2.2 v e⟩
theorem wJ {lo hi l1 h1 l2 h2 l3 h3:Nat} {w:World} {b:Bd} {s:Sl3} (k1:bq l1 h1 w s.A1 s.n1 s.c1 b.frames) (k2:Own l2 w s.A2 s.n2 s.c2 b.state) (l:gJ s.A2 l2 h2) (k3:bq l3 h3 w s.A3 s.n3 s.c3 b.saved)
  (e0:lo<=l1/\l1<=h1/\h1<=l2/\l2<=h2/\h2<=l3/\l3<=h3/\h3<=hi):dm lo hi w b s :=
 ⟨l1,h1,l2,h2,l3,h3,k1,k2,l,k3,.inl e0.2.2.1,.inl (by omega),.inl e0.2.2.2.2.1,⟨e0.1,by omega⟩,⟨by omega,by omega⟩,⟨by omega,by omega⟩⟩
theorem EG {w:World} {g:Nat} {v0 v1 v2 v3 v4 v5 v6 v7 v8 v9 v10 v11 u0 u1 u2 u3 u4 u5 u6 u7 u8 u9 u10 u11:Value} {t:TypeId} (h:w.heap[g]?=some (.cells #[v0,v1,v2,v3,v4,v5,v6,v7,v8,v9,v10,v11] t (0,0))):((((((((((((w.setCell ⟨g,0,none⟩ u0).setCell ⟨g,1,none⟩ u1).setCell ⟨g,2,none⟩ u2).setCell ⟨g,3,none⟩ u3).setCell ⟨g,4,none⟩ u4).setCell ⟨g,5,none⟩ u5).setCell ⟨g,6,none⟩ u6).setCell ⟨g,7,none⟩ u7).setCell ⟨g,8,none⟩ u8).setCell ⟨g,9,none⟩ u9).setCell ⟨g,10,none⟩ u10).setCell ⟨g,11,none⟩ u11).heap[g]?=some (.cells #[u0,u1,u2,u3,u4,u5,u6,u7,u8,u9,u10,u11] t (0,0)):=by
 have h1:=bD (k:=0) (cs':=#[u0,v1,v2,v3,v4,v5,v6,v7,v8,v9,v10,v11]) h u0 rfl
 have h2:=bD (k:=1) (cs':=#[u0,u1,v2,v3,v4,v5,v6,v7,v8,v9,v10,v11]) h1 u1 rfl
 have h3:=bD (k:=2) (cs':=#[u0,u1,u2,v3,v4,v5,v6,v7,v8,v9,v10,v11]) h2 u2 rfl
 have h4:=bD (k:=3) (cs':=#[u0,u1,u2,u3,v4,v5,v6,v7,v8,v9,v10,v11]) h3 u3 rfl
 have h5:=bD (k:=4) (cs':=#[u0,u1,u2,u3,u4,v5,v6,v7,v8,v9,v10,v11]) h4 u4 rfl
 have h6:=bD (k:=5) (cs':=#[u0,u1,u2,u3,u4,u5,v6,v7,v8,v9,v10,v11]) h5 u5 rfl
 have h7:=bD (k:=6) (cs':=#[u0,u1,u2,u3,u4,u5,u6,v7,v8,v9,v10,v11]) h6 u6 rfl
 have h8:=bD (k:=7) (cs':=#[u0,u1,u2,u3,u4,u5,u6,u7,v8,v9,v10,v11]) h7 u7 rfl
 have h9:=bD (k:=8) (cs':=#[u0,u1,u2,u3,u4,u5,u6,u7,u8,v9,v10,v11]) h8 u8 rfl
 have h10:=bD (k:=9) (cs':=#[u0,u1,u2,u3,u4,u5,u6,u7,u8,u9,v10,v11]) h9 u9 rfl
 have h11:=bD (k:=10) (cs':=#[u0,u1,u2,u3,u4,u5,u6,u7,u8,u9,u10,v11]) h10 u10 rfl
 have h12:=bD (k:=11) (cs':=#[u0,u1,u2,u3,u4,u5,u6,u7,u8,u9,u10,u11]) h11 u11 rfl
 exact h12
end Go.Proofs.YtignkfhdkcgkgaaGreat
