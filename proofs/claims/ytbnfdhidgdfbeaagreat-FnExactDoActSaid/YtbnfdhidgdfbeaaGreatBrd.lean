/- Reading tiles and logic elements out of memory. Plain lemmas. Changing what the call owns: a cell, or what lies behind a cell. Plain lemmas. Boards: what they read as, what the call owns of them; the laws' helpers on boards. -/
import Derived.Test.YtbnfdhidgdfbeaaGreatCopies
import Derived.Test.YtbnfdhidgdfbeaaGreatTilePure
namespace Go.Proofs.YtbnfdhidgdfbeaaGreat
set_option maxRecDepth 100000
open Go.RowKit

theorem Le.cells_length (e:Le):e.cells.length=4:=rfl
theorem Tile.cells_length (t:Tile):t.cells.length=4:=rfl
theorem flat4_length {α:Type} {f:α→List Cel} (hf:∀x,(f x).length=4) (xs:List α):(xs.flatMap f).length=xs.length * 4:=by rw [flat_length hf,Nat.mul_comm]
theorem flat4_at {α:Type} {f:α→List Cel} (hf:∀x,(f x).length=4) {xs:List α} {k j:Nat} {x:α} (h:xs[k]?=some x) (hj:j<4):(xs.flatMap f)[k * 4+j]?=(f x)[j]?:=by rw [Nat.mul_comm];exact flat_get hf h hj
theorem getD_some {α:Type} {xs:List α} {k:Nat} (d:α) (h:k<xs.length):xs[k]?=some (xs[k]?.getD d):=by rw [List.getElem?_eq_getElem h];rfl
theorem rdC_slice {w:World} {B e s:Nat} {cs:List Cel} {v:Value} (h:RdC w B (.row e s cs) v):∃A n c,v = .slice A n c:=by
 rw [rdC_row] at h
 obtain ⟨A,n,cap,rfl,_⟩:=h
 exact ⟨A,n,cap,rfl⟩

theorem RdC.tile {w:World} {B n c k:Nat} {A:Option Addr} {ts:List Tile} (h:RdC w B (celT ts) (.slice A n c)) (hk:k<ts.length) :
  ∃b o S m p L l q,A=some ⟨b,o,none⟩∧b<B∧w.cell? ⟨b,o+k * 4,none⟩=some (.slice S m p)∧w.cell? ⟨b,o+k * 4+1,none⟩=some (.slice L l q)∧w.cell? ⟨b,o+k * 4+2,none⟩=some (.int .i64 (ts[k]?.getD Tile.zero).pad)∧w.cell? ⟨b,o+k * 4+3,none⟩=some (.int .i64 (ts[k]?.getD Tile.zero).ram) ∧
   RdC w B (celI (ts[k]?.getD Tile.zero).mux) (.slice S m p)∧RdC w B (celE (ts[k]?.getD Tile.zero).les) (.slice L l q):=by
 have hl:=flat4_length Tile.cells_length ts
 obtain ⟨b,o,rfl,hb,hc⟩:=h.cell (by rw [hl];omega)
 have hx:=getD_some Tile.zero hk
 generalize ts[k]?.getD Tile.zero=t at *
 have g:=fun (j:Nat) (hj:j<4)=>hc (k * 4+j) (by rw [hl];omega)
 obtain ⟨c0,v0,e0,m0,r0⟩:=g 0 (by omega)
 obtain ⟨c1,v1,e1,m1,r1⟩:=g 1 (by omega)
 obtain ⟨c2,v2,e2,m2,r2⟩:=g 2 (by omega)
 obtain ⟨c3,v3,e3,m3,r3⟩:=g 3 (by omega)
 rw [flat4_at Tile.cells_length hx (by omega)] at e0 e1 e2 e3
 simp only [Tile.cells,List.getElem?_cons_zero,List.getElem?_cons_succ,Option.some.injEq] at e0 e1 e2 e3
 subst e0 e1 e2 e3
 rw [rdC_int] at r2 r3
 subst r2 r3
 obtain ⟨S,m,p,rfl⟩:=rdC_slice (e:=3) (s:=1) r0
 obtain ⟨L,l,q,rfl⟩:=rdC_slice (e:=104) (s:=4) r1
 exact ⟨b,o,S,m,p,L,l,q,rfl,hb,m0,m1,m2,m3,r0,r1⟩
theorem RdC.le {w:World} {B n c k:Nat} {A:Option Addr} {es:List Le} (h:RdC w B (celE es) (.slice A n c)) (hk:k<es.length) :
  ∃b o S m p,A=some ⟨b,o,none⟩∧b<B∧w.cell? ⟨b,o+k * 4,none⟩=some (.slice S m p)∧w.cell? ⟨b,o+k * 4+1,none⟩=some (.int .i64 (es[k]?.getD Le.zero).mask)∧w.cell? ⟨b,o+k * 4+2,none⟩=some (.int .i64 (es[k]?.getD Le.zero).flop)∧w.cell? ⟨b,o+k * 4+3,none⟩=some (.int .i64 (es[k]?.getD Le.zero).init) ∧
   RdC w B (celI (es[k]?.getD Le.zero).sel) (.slice S m p):=by
 have hl:=flat4_length Le.cells_length es
 obtain ⟨b,o,rfl,hb,hc⟩:=h.cell (by rw [hl];omega)
 have hx:=getD_some Le.zero hk
 generalize es[k]?.getD Le.zero=t at *
 have g:=fun (j:Nat) (hj:j<4)=>hc (k * 4+j) (by rw [hl];omega)
 obtain ⟨c0,v0,e0,m0,r0⟩:=g 0 (by omega)
 obtain ⟨c1,v1,e1,m1,r1⟩:=g 1 (by omega)
 obtain ⟨c2,v2,e2,m2,r2⟩:=g 2 (by omega)
 obtain ⟨c3,v3,e3,m3,r3⟩:=g 3 (by omega)
 rw [flat4_at Le.cells_length hx (by omega)] at e0 e1 e2 e3
 simp only [Le.cells,List.getElem?_cons_zero,List.getElem?_cons_succ,Option.some.injEq] at e0 e1 e2 e3
 subst e0 e1 e2 e3
 rw [rdC_int] at r1 r2 r3
 subst r1 r2 r3
 obtain ⟨S,m,p,rfl⟩:=rdC_slice (e:=3) (s:=1) r0
 exact ⟨b,o,S,m,p,rfl,hb,m0,m1,m2,m3,r0⟩
theorem RdC.tlen {w:World} {B n c:Nat} {A:Option Addr} {ts:List Tile} (h:RdC w B (celT ts) (.slice A n c)):ts.length=n:=by
 have:=RdC.len h
 rw [flat4_length Tile.cells_length] at this
 omega
theorem RdC.elen {w:World} {B n c:Nat} {A:Option Addr} {es:List Le} (h:RdC w B (celE es) (.slice A n c)):es.length=n:=by
 have:=RdC.len h
 rw [flat4_length Le.cells_length] at this
 omega
theorem OwnT.sub {lo hi:Nat} {w:World} {e s n cap j:Nat} {A:Option Addr} {cs:List Cel} (h:OwnT lo hi w (.row e s cs) (.slice A n cap)) (hj:j<cs.length) :
  ∃g c v,A=some ⟨g,0,none⟩∧lo≤g∧g<hi∧g<w.heap.size∧cs[j]?=some c∧w.cell? ⟨g,j,none⟩=some v∧OwnT lo hi w c v:=by
 obtain ⟨g,c,v,e1,h1,h2,h3,h4,h5,_,⟨Fj,k1,k2,_,k3,_⟩,_⟩:=h.cell hj
 exact ⟨g,c,v,e1,h1,h2,h3,h4,h5,Fj,k1,k2,k3⟩
theorem ownT_int {lo hi:Nat} {w:World} {x:Int} {v:Value} (h:OwnT lo hi w (.int x) v):v = .int .i64 x:=by
 obtain ⟨F,h1,_⟩:=h
 rw [ownC_int] at h1
 exact h1.1
theorem ownT_slice {lo hi:Nat} {w:World} {e s:Nat} {cs:List Cel} {v:Value} (h:OwnT lo hi w (.row e s cs) v):∃A n c,v = .slice A n c:=by
 obtain ⟨F,h1,_⟩:=h
 rw [ownC_row] at h1
 obtain ⟨A,n,cap,vs,F',rfl,_⟩:=h1
 exact ⟨A,n,cap,rfl⟩
theorem OwnT.tile {lo hi:Nat} {w:World} {n c k:Nat} {A:Option Addr} {ts:List Tile} (h:OwnT lo hi w (celT ts) (.slice A n c)) (hk:k<ts.length) :
  ∃g S m p L l q,A=some ⟨g,0,none⟩∧lo≤g∧g<hi∧g<w.heap.size∧w.cell? ⟨g,k * 4,none⟩=some (.slice S m p)∧w.cell? ⟨g,k * 4+1,none⟩=some (.slice L l q)∧w.cell? ⟨g,k * 4+2,none⟩=some (.int .i64 (ts[k]?.getD Tile.zero).pad)∧w.cell? ⟨g,k * 4+3,none⟩=some (.int .i64 (ts[k]?.getD Tile.zero).ram) ∧
   OwnT lo hi w (celI (ts[k]?.getD Tile.zero).mux) (.slice S m p)∧OwnT lo hi w (celE (ts[k]?.getD Tile.zero).les) (.slice L l q):=by
 have hl:=flat4_length Tile.cells_length ts
 have hx:=getD_some Tile.zero hk
 generalize ts[k]?.getD Tile.zero=t at *
 have g:=fun (j:Nat) (hj:j<4)=>h.sub (j:=k * 4+j) (by rw [hl];omega)
 obtain ⟨g0,c0,v0,a0,b1,b2,b3,e0,m0,r0⟩:=g 0 (by omega)
 obtain ⟨g1,c1,v1,a1,_,_,_,e1,m1,r1⟩:=g 1 (by omega)
 obtain ⟨g2,c2,v2,a2,_,_,_,e2,m2,r2⟩:=g 2 (by omega)
 obtain ⟨g3,c3,v3,a3,_,_,_,e3,m3,r3⟩:=g 3 (by omega)
 subst a0
 injection a1 with a1
 injection a2 with a2
 injection a3 with a3
 injection a1 with a1
 injection a2 with a2
 injection a3 with a3
 subst a1 a2 a3
 rw [flat4_at Tile.cells_length hx (by omega)] at e0 e1 e2 e3
 simp only [Tile.cells,List.getElem?_cons_zero,List.getElem?_cons_succ,Option.some.injEq] at e0 e1 e2 e3
 subst e0 e1 e2 e3
 obtain rfl:=ownT_int r2
 obtain rfl:=ownT_int r3
 obtain ⟨S,m,p,rfl⟩:=ownT_slice (e:=3) (s:=1) r0
 obtain ⟨L,l,q,rfl⟩:=ownT_slice (e:=104) (s:=4) r1
 exact ⟨g0,S,m,p,L,l,q,rfl,b1,b2,b3,m0,m1,m2,m3,r0,r1⟩
theorem OwnT.le {lo hi:Nat} {w:World} {n c k:Nat} {A:Option Addr} {es:List Le} (h:OwnT lo hi w (celE es) (.slice A n c)) (hk:k<es.length) :
  ∃g S m p,A=some ⟨g,0,none⟩∧lo≤g∧g<hi∧g<w.heap.size∧w.cell? ⟨g,k * 4,none⟩=some (.slice S m p)∧w.cell? ⟨g,k * 4+1,none⟩=some (.int .i64 (es[k]?.getD Le.zero).mask)∧w.cell? ⟨g,k * 4+2,none⟩=some (.int .i64 (es[k]?.getD Le.zero).flop)∧w.cell? ⟨g,k * 4+3,none⟩=some (.int .i64 (es[k]?.getD Le.zero).init) ∧
   OwnT lo hi w (celI (es[k]?.getD Le.zero).sel) (.slice S m p):=by
 have hl:=flat4_length Le.cells_length es
 have hx:=getD_some Le.zero hk
 generalize es[k]?.getD Le.zero=t at *
 have g:=fun (j:Nat) (hj:j<4)=>h.sub (j:=k * 4+j) (by rw [hl];omega)
 obtain ⟨g0,c0,v0,a0,b1,b2,b3,e0,m0,r0⟩:=g 0 (by omega)
 obtain ⟨g1,c1,v1,a1,_,_,_,e1,m1,r1⟩:=g 1 (by omega)
 obtain ⟨g2,c2,v2,a2,_,_,_,e2,m2,r2⟩:=g 2 (by omega)
 obtain ⟨g3,c3,v3,a3,_,_,_,e3,m3,r3⟩:=g 3 (by omega)
 subst a0
 injection a1 with a1
 injection a2 with a2
 injection a3 with a3
 injection a1 with a1
 injection a2 with a2
 injection a3 with a3
 subst a1 a2 a3
 rw [flat4_at Le.cells_length hx (by omega)] at e0 e1 e2 e3
 simp only [Le.cells,List.getElem?_cons_zero,List.getElem?_cons_succ,Option.some.injEq] at e0 e1 e2 e3
 subst e0 e1 e2 e3
 obtain rfl:=ownT_int r1
 obtain rfl:=ownT_int r2
 obtain rfl:=ownT_int r3
 obtain ⟨S,m,p,rfl⟩:=ownT_slice (e:=3) (s:=1) r0
 exact ⟨g0,S,m,p,rfl,b1,b2,b3,m0,m1,m2,m3,r0⟩
end Go.Proofs.YtbnfdhidgdfbeaaGreat

namespace Go.Proofs.YtbnfdhidgdfbeaaGreat
set_option maxRecDepth 100000
open Go.RowKit

/-- Only the blocks F may have changed. -/
structure Only (F:List Nat) (w w':World):Prop where
 os:w'.os=w.os
 tape:w'.tape=w.tape
 output:w'.output=w.output
 size:w.heap.size≤w'.heap.size
 block:∀k,k<w.heap.size→k∉F→w'.heap[k]?=w.heap[k]?
theorem Only.refl (F:List Nat) (w:World):Only F w w:=⟨rfl,rfl,rfl,Nat.le_refl _,fun _ _ _=>rfl⟩
theorem Only.trans {F:List Nat} {a b c:World} (h:Only F a b) (k:Only F b c):Only F a c :=
 ⟨k.os.trans h.os,k.tape.trans h.tape,k.output.trans h.output,Nat.le_trans h.size k.size,fun i hi hn=>(k.block i (Nat.lt_of_lt_of_le hi h.size) hn).trans (h.block i hi hn)⟩
theorem Only.more {F G:List Nat} {a b:World} (h:Only F a b) (hs:∀k∈F,k∈G):Only G a b:=⟨h.os,h.tape,h.output,h.size,fun i hi hn=>h.block i hi fun hf=>hn (hs i hf)⟩
theorem Only.chg {F:List Nat} {lo hi:Nat} {a b:World} (h:Only F a b) (hf:∀k∈F,lo≤k∧k<hi):Chg lo hi a b :=
 ⟨h.os,h.tape,h.output,h.size,fun k hk hne=>h.block k hk fun hm=>by have:=hf k hm;omega⟩

theorem OwnC.num {w:World} {e s n cap j:Nat} {A:Option Addr} {cs:List Cel} {F:List Nat} {x:Int} (h:OwnC w (.row e s cs) (.slice A n cap) F) (hF:F.Nodup) (hc:cs[j]?=some (.int x)) :
  ∃g,A=some ⟨g,0,none⟩∧g∈F∧w.cell? ⟨g,j,none⟩=some (.int .i64 x)∧w.frozen? ⟨g,j,none⟩=false ∧
   ∀y:Int,OwnC (w.setCell ⟨g,j,none⟩ (.int .i64 y)) (.row e s (cs.set j (.int y))) (.slice A n cap) F:=by
 have hj:=(List.getElem?_eq_some_iff.1 hc).1
 obtain ⟨g,c0,v,F1,Fj,F2,rfl,e1,hcell,hfz,rfl,h4,_,h6⟩:=h.cell hj
 rw [hc] at e1
 injection e1 with e1
 subst e1
 rw [ownC_int] at h4
 obtain ⟨rfl,rfl⟩:=h4
 rw [List.nodup_cons] at hF
 obtain ⟨hgn,_⟩:=hF
 simp only [List.nil_append,List.mem_append,not_or] at hgn
 exact ⟨g,rfl,by simp,hcell,hfz,fun y=>h6 (.int y) (.int .i64 y) [] (ownC_int.2 ⟨rfl,rfl⟩) hgn.1 (by simp) hgn.2⟩

/-! ### marking tiles -/
end Go.Proofs.YtbnfdhidgdfbeaaGreat

namespace Go.Proofs.YtbnfdhidgdfbeaaGreat
set_option maxRecDepth 100000
open Go.RowKit

structure Bd where
 dev:Dev
 frames:List (List Int)
 state:List Int
 phase:Int
 reg:Reg
 saved:List (List Int)
/-- The three slices of a board's value. -/
structure Sl3 where
 A1:Option Addr
 n1:Nat
 c1:Nat
 A2:Option Addr
 n2:Nat
 c2:Nat
 A3:Option Addr
 n3:Nat
 c3:Nat
abbrev bdArr (b:Bd) (s:Sl3):Array Value:=#[.int .i64 b.dev.W,.int .i64 b.dev.H,.int .i64 b.dev.T,.int .i64 b.dev.R,.slice s.A1 s.n1 s.c1,.slice s.A2 s.n2 s.c2,.int .i64 b.phase,.int .i64 b.reg.X0,.int .i64 b.reg.Y0,.int .i64 b.reg.X1,.int .i64 b.reg.Y1,.slice s.A3 s.n3 s.c3]
structure BoardRd (w:World) (b:Bd) (s:Sl3):Prop where
 frames:Rows2 w s.A1 s.n1 b.frames
 state:Ints w s.A2 s.n2 b.state
 saved:Rows2 w s.A3 s.n3 b.saved
theorem BoardRd.below {w w':World} {b:Bd} {s:Sl3} (h:BoardRd w b s) (hb:Below w.heap.size w w'):BoardRd w' b s:=⟨h.frames.below hb,h.state.below hb,h.saved.below hb⟩
/-- Two ranges of blocks lie apart. -/
def Ap (l1 h1 l2 h2:Nat):Prop:=h1≤l2∨h2≤l1
structure BoardIn (w:World) (b:Bd) (s:Sl3) (lo hi l1 h1 l2 h2 l3 h3:Nat):Prop where
 frames:Own2 l1 h1 w s.A1 s.n1 s.c1 b.frames
 state:Own l2 w s.A2 s.n2 s.c2 b.state
 lies:Lies s.A2 l2 h2
 saved:Own2 l3 h3 w s.A3 s.n3 s.c3 b.saved
 a12:Ap l1 h1 l2 h2
 a13:Ap l1 h1 l3 h3
 a23:Ap l2 h2 l3 h3
 in1:lo≤l1∧h1≤hi
 in2:lo≤l2∧h2≤hi
 in3:lo≤l3∧h3≤hi
def BoardAt (lo hi:Nat) (w:World) (b:Bd) (s:Sl3):Prop:=∃l1 h1 l2 h2 l3 h3,BoardIn w b s lo hi l1 h1 l2 h2 l3 h3
theorem Lies.own {A:Option Addr} {lo hi base:Nat} {w:World} {n c:Nat} {xs:List Int} (l:Lies A lo hi) (_:Own base w A n c xs):Lies A lo hi:=l
theorem BoardAt.rd {lo hi:Nat} {w:World} {b:Bd} {s:Sl3} (h:BoardAt lo hi w b s):BoardRd w b s:=by
 obtain ⟨l1,h1,l2,h2,l3,h3,hb⟩:=h
 exact ⟨hb.frames.rd,hb.state.rd,hb.saved.rd⟩
theorem BoardAt.below {lo hi:Nat} {w w':World} {b:Bd} {s:Sl3} (h:BoardAt lo hi w b s) (hb:Below w.heap.size w w'):BoardAt lo hi w' b s:=by
 obtain ⟨l1,h1,l2,h2,l3,h3,k⟩:=h
 exact ⟨l1,h1,l2,h2,l3,h3,k.frames.below hb,k.state.below hb,k.lies,k.saved.below hb,k.a12,k.a13,k.a23,k.in1,k.in2,k.in3⟩
theorem BoardAt.chg {lo hi lo' hi':Nat} {w w':World} {b:Bd} {s:Sl3} (h:BoardAt lo hi w b s) (hg:Chg lo' hi' w w') (ha:hi≤lo'∨hi'≤lo):BoardAt lo hi w' b s:=by
 obtain ⟨l1,h1,l2,h2,l3,h3,k⟩:=h
 have i1:=k.in1
 have i2:=k.in2
 have i3:=k.in3
 exact ⟨l1,h1,l2,h2,l3,h3,k.frames.chg hg (by omega),k.state.chg hg k.lies (by omega),k.lies,k.saved.chg hg (by omega),k.a12,k.a13,k.a23,k.in1,k.in2,k.in3⟩
theorem BoardAt.widen {lo hi lo' hi':Nat} {w:World} {b:Bd} {s:Sl3} (h:BoardAt lo hi w b s) (e1:lo'≤lo) (e2:hi≤hi'):BoardAt lo' hi' w b s:=by
 obtain ⟨l1,h1,l2,h2,l3,h3,k⟩:=h
 have i1:=k.in1
 have i2:=k.in2
 have i3:=k.in3
 exact ⟨l1,h1,l2,h2,l3,h3,k.frames,k.state,k.lies,k.saved,k.a12,k.a13,k.a23,⟨by omega,by omega⟩,⟨by omega,by omega⟩,⟨by omega,by omega⟩⟩
theorem BoardAt.drewd {lo hi:Nat} {w:World} {b:Bd} {s:Sl3} (h:BoardAt lo hi w b s):BoardAt lo hi w.drew b s:=by
 obtain ⟨l1,h1,l2,h2,l3,h3,k⟩:=h
 exact ⟨l1,h1,l2,h2,l3,h3,k.frames.drewd,k.state.drewd,k.lies,k.saved.drewd,k.a12,k.a13,k.a23,k.in1,k.in2,k.in3⟩
/-- A bound on what a board holds. -/
def BdOk (b:Bd):Prop:=size2 b.frames≤1099511627776∧b.state.length≤1099511627776∧size2 b.saved≤1099511627776
def bdN (b:Bd):Nat:=sizeTo b.frames b.frames.length+b.state.length+sizeTo b.saved b.saved.length
def mkBd (k:Int) (b:Bd):Bd:=⟨b.dev,iota2 k b.frames,iota (k+sizeTo b.frames b.frames.length) b.state.length,b.phase,b.reg,iota2 (k+sizeTo b.frames b.frames.length+b.state.length) b.saved⟩

set_option maxHeartbeats 400000 in
theorem eqDevice_same (d:Dev) (w:World) :
  Calls Tryz.prog 97 #[.agg #[.int .i64 d.W,.int .i64 d.H,.int .i64 d.T,.int .i64 d.R],.agg #[.int .i64 d.W,.int .i64 d.H,.int .i64 d.T,.int .i64 d.R]] w fun e w'=>e = .returned (.bool true)∧Below w.heap.size w w':=by
 go_enter Tryz.func97,Tryz.ntmps97
 go_wp2_with fail
 go_ret
 exact ⟨rfl,below_new (below_new (Below.refl _ _) _) _⟩
set_option maxHeartbeats 400000 in
theorem eqRegion_same (r:Reg) (w:World) :
  Calls Tryz.prog 100 #[.agg #[.int .i64 r.X0,.int .i64 r.Y0,.int .i64 r.X1,.int .i64 r.Y1],.agg #[.int .i64 r.X0,.int .i64 r.Y0,.int .i64 r.X1,.int .i64 r.Y1]] w fun e w'=>e = .returned (.bool true)∧Below w.heap.size w w':=by
 go_enter Tryz.func100,Tryz.ntmps100
 go_wp2_with fail
 go_ret
 exact ⟨rfl,below_new (below_new (Below.refl _ _) _) _⟩
set_option maxHeartbeats 2000000 in
theorem eqBoard_same (b:Bd) (s t:Sl3) (w:World) (hA:BoardRd w b s) (hB:BoardRd w b t) (hz:BdOk b) :
  Calls Tryz.prog 36 #[.agg (bdArr b s),.agg (bdArr b t)] w fun e w'=>e = .returned (.bool true)∧Below w.heap.size w w':=by
 have HA:=Lib.hid hA
 have HB:=Lib.hid hB
 obtain ⟨z1,z2,z3⟩:=hz
 have hb0:Below w.heap.size w ((w.alloc (.cells (bdArr b s) 31)).alloc (.cells (bdArr b t) 31)):=below_new (below_new (Below.refl _ _) _) _
 have hl:=hA.state.1
 have hz2:s.n2≤1099511627776:=by omega
 clear hA hB hl
 go_enter Tryz.func36,Tryz.ntmps36
 go_wp2_with fail
 refine (eqDevice_same b.dev _).mono ?_
 rintro e w1 ⟨rfl,b1⟩
 obtain ⟨hcc,hff⟩:=bcell b1
 have B1:=Lib.hid (below_tr hb0 b1)
 have C1:=Lib.hid b1
 clear b1 hb0
 go_wp2_with fail
 refine (eqIntSS_same _ _ _ _ _ _ b.frames _ (HA.out.frames.below B1.out) (HB.out.frames.below B1.out) z1).mono ?_
 rintro e w2 ⟨rfl,b2⟩
 clear hcc hff
 obtain ⟨hcc,hff⟩:=bcell (below_tr C1.out b2)
 have B2:=Lib.hid (below_tr B1.out b2)
 have C2:=Lib.hid (below_tr C1.out b2)
 clear b2
 go_wp2_with fail
 refine (eqIntS_same _ _ _ _ _ _ b.state _ (HA.out.state.below B2.out) (HB.out.state.below B2.out) hz2).mono ?_
 rintro e w3 ⟨rfl,b3⟩
 clear hcc hff
 obtain ⟨hcc,hff⟩:=bcell (below_tr C2.out b3)
 have B3:=Lib.hid (below_tr B2.out b3)
 have C3:=Lib.hid (below_tr C2.out b3)
 clear b3
 go_wp2_with fail
 refine (eqRegion_same b.reg _).mono ?_
 rintro e w4 ⟨rfl,b4⟩
 clear hcc hff
 obtain ⟨hcc,hff⟩:=bcell (below_tr C3.out b4)
 have B4:=Lib.hid (below_tr B3.out b4)
 clear b4
 go_wp2_with fail
 refine (eqIntSS_same _ _ _ _ _ _ b.saved _ (HA.out.saved.below B4.out) (HB.out.saved.below B4.out) z3).mono ?_
 rintro e w5 ⟨rfl,b5⟩
 have B5:=Lib.hid (below_tr B4.out b5)
 clear hcc hff b5
 go_wp2_with fail
 go_ret
 exact ⟨rfl,B5.out⟩
set_option maxHeartbeats 2000000 in
theorem heldBoard_any (b:Bd) (s:Sl3) (k0:Int) (w:World) (h:BoardRd w (mkBd k0 b) s) (hz:BdOk b) (hk0:0≤k0) (hk1:k0≤1048576) (hN:bdN b≤1073741824) :
  Calls Tryz.prog 40 #[.agg (bdArr (mkBd k0 b) s),.int .i64 k0] w fun e w'=>e = .returned (.int .i64 (k0+bdN b))∧Below w.heap.size w w':=by
 have HA:=Lib.hid h
 obtain ⟨z1,z2,z3⟩:=hz
 have hl1:s.n1=b.frames.length:=by have:=h.frames.1;simpa [mkBd,iota2,mark2] using this.symm
 have hl2:s.n2=b.state.length:=by have:=h.state.1;simpa [mkBd,iota] using this.symm
 have hl3:s.n3=b.saved.length:=by have:=h.saved.1;simpa [mkBd,iota2,mark2] using this.symm
 have hb0:Below w.heap.size w (w.alloc (.cells (bdArr (mkBd k0 b) s) 31)):=below_new (Below.refl _ _) _
 unfold bdN at *
 have HL1:=Lib.hid hl1
 have HL2:=Lib.hid hl2
 have HL3:=Lib.hid hl3
 clear h hl1 hl2 hl3
 go_enter Tryz.func40,Tryz.ntmps40
 go_wp2_with fail
 refine (heldIntSS_any s.A1 s.n1 s.c1 _ k0 _ (HA.out.frames.below hb0) rfl hk0 (by omega) z1).mono ?_
 rintro e w1 ⟨rfl,b1⟩
 rw [HL1.out]
 obtain ⟨hcc,hff⟩:=bcell b1
 have B1:=Lib.hid (below_tr hb0 b1)
 have C1:=Lib.hid b1
 have g1:decide (k0+(sizeTo b.frames b.frames.length:Int)<0)=false:=by simp;omega
 clear b1 hb0
 go_wp2_with fail
 refine (heldIntS_any s.A2 s.n2 s.c2 _ _ _ (HA.out.state.below B1.out) (by rw [HL2.out];rfl) (by omega) (by omega) (by rw [HL2.out];exact z2)).mono ?_
 rintro e w2 ⟨rfl,b2⟩
 rw [HL2.out]
 clear hcc hff
 obtain ⟨hcc,hff⟩:=bcell (below_tr C1.out b2)
 have B2:=Lib.hid (below_tr B1.out b2)
 have g2:decide (k0+(sizeTo b.frames b.frames.length:Int)+(b.state.length:Int)<0)=false:=by simp;omega
 clear b2 g1
 go_wp2_with fail
 refine (heldIntSS_any s.A3 s.n3 s.c3 _ _ _ (HA.out.saved.below B2.out) rfl (by omega) (by omega) z3).mono ?_
 rintro e w3 ⟨rfl,b3⟩
 rw [HL3.out]
 have B3:=Lib.hid (below_tr B2.out b3)
 have g3:decide (k0+(sizeTo b.frames b.frames.length:Int)+(b.state.length:Int)+(sizeTo b.saved b.saved.length:Int)<0)=false:=by simp;omega
 clear hcc hff b3 g2
 go_wp2_with fail
 go_ret
 exact ⟨ret_int (by omega),B3.out⟩
theorem chg_new {a w:World} {lo hi:Nat} {B:Obj} (h:Chg lo hi (a.alloc B) w) (hh:hi≤a.heap.size):(∀o,w.cell? ⟨a.heap.size,o,none⟩=(a.alloc B).cell? ⟨a.heap.size,o,none⟩)∧(∀o,w.frozen? ⟨a.heap.size,o,none⟩=(a.alloc B).frozen? ⟨a.heap.size,o,none⟩):=by
 have e:=h.block a.heap.size (by show a.heap.size<(a.heap.push B).size;rw [Array.size_push];omega) (.inr hh)
 exact ⟨fun o=>by simp only [World.cell?,e],fun o=>by simp only [World.frozen?,e]⟩
theorem Chg.wide {lo hi lo' hi':Nat} {w w':World} (h:Chg lo hi w w') (a:lo'≤lo) (b:hi≤hi'):Chg lo' hi' w w':=⟨h.os,h.tape,h.output,h.size,fun k hk hn=>h.block k hk (by omega)⟩
set_option maxHeartbeats 2000000 in
theorem markBoard_chg (lo hi:Nat) (b:Bd) (s:Sl3) (k0:Int) (w:World) (h:BoardAt lo hi w b s) (hh:hi≤w.heap.size) (hz:BdOk b) (hk0:0≤k0) (hk1:k0≤1048576) (hN:bdN b≤1073741824) :
  Calls Tryz.prog 38 #[.agg (bdArr b s),.int .i64 k0] w fun e w'=>e = .returned (.int .i64 (k0+bdN b))∧BoardAt lo hi w' (mkBd k0 b) s∧Chg lo hi w w':=by
 obtain ⟨l1,h1,l2,h2,l3,h3,k⟩:=h
 obtain ⟨z1,z2,z3⟩:=hz
 have e1:=k.in1
 have e2:=k.in2
 have e3:=k.in3
 have a12:=k.a12
 have a13:=k.a13
 have a23:=k.a23
 unfold Ap at a12 a13 a23
 have hl1:s.n1=b.frames.length:=k.frames.len.symm
 have hl2:s.n2=b.state.length:=k.state.len.symm
 have hl3:s.n3=b.saved.length:=k.saved.len.symm
 have hb0:Below w.heap.size w (w.alloc (.cells (bdArr b s) 31)):=below_new (Below.refl _ _) _
 have hc0:Chg lo hi w (w.alloc (.cells (bdArr b s) 31)):=⟨hb0.os,hb0.tape,hb0.output,hb0.size,fun i hi' _=>hb0.block i hi'⟩
 have K1:=Lib.hid (k.frames.below hb0)
 have K2:=Lib.hid (k.state.below hb0)
 have K3:=Lib.hid (k.saved.below hb0)
 have KK:=Lib.hid k
 have HC:=Lib.hid hc0
 have HL1:=Lib.hid hl1
 have HL2:=Lib.hid hl2
 have HL3:=Lib.hid hl3
 unfold bdN at *
 clear k hl1 hl2 hl3 hb0 hc0
 go_enter Tryz.func38,Tryz.ntmps38
 go_wp2_with fail
 refine (markIntSS_chg l1 h1 s.A1 s.n1 s.c1 b.frames k0 _ K1.out hk0 (by omega) z1).mono ?_
 rintro e w1 ⟨rfl,o1,c1⟩
 rw [HL1.out]
 obtain ⟨hcc,hff⟩:=chg_new c1 (by omega)
 have O1:=Lib.hid o1
 have P2:=Lib.hid (K2.out.chg c1 KK.out.lies (by omega))
 have P3:=Lib.hid (K3.out.chg c1 (by omega))
 have C1:=Lib.hid c1
 have g1:decide (k0+(sizeTo b.frames b.frames.length:Int)<0)=false:=by simp;omega
 clear o1 c1
 go_wp2_with fail
 refine (markIntS_chg l2 l2 h2 s.A2 s.n2 s.c2 b.state _ _ P2.out KK.out.lies (by omega) (by omega) (by rw [HL2.out];exact z2)).mono ?_
 rintro e w2 ⟨rfl,o2,c2⟩
 rw [HL2.out] at o2 ⊢
 clear hcc hff
 have C2w:=Lib.hid ((C1.out.wide (lo':=lo) (hi':=hi) e1.1 e1.2).trans (c2.wide e2.1 e2.2))
 obtain ⟨hcc,hff⟩:=chg_new C2w.out (by omega)
 have Q1:=Lib.hid (O1.out.chg c2 (by omega))
 have O2:=Lib.hid o2
 have Q3:=Lib.hid (P3.out.chg c2 (by omega))
 have g2:decide (k0+(sizeTo b.frames b.frames.length:Int)+(b.state.length:Int)<0)=false:=by simp;omega
 clear o2 c2 g1
 go_wp2_with fail
 refine (markIntSS_chg l3 h3 s.A3 s.n3 s.c3 b.saved _ _ Q3.out (by omega) (by omega) z3).mono ?_
 rintro e w3 ⟨rfl,o3,c3⟩
 rw [HL3.out]
 have C3w:=Lib.hid (HC.out.trans (C2w.out.trans (c3.wide e3.1 e3.2)))
 have R1:=Lib.hid (Q1.out.chg c3 (by omega))
 have R2:=Lib.hid (O2.out.chg c3 KK.out.lies (by omega))
 have O3:=Lib.hid o3
 have g3:decide (k0+(sizeTo b.frames b.frames.length:Int)+(b.state.length:Int)+(sizeTo b.saved b.saved.length:Int)<0)=false:=by simp;omega
 clear hcc hff o3 c3 g2
 go_wp2_with fail
 go_ret
 refine ⟨ret_int (by omega),⟨l1,h1,l2,h2,l3,h3,R1.out,?_,KK.out.lies,O3.out,KK.out.a12,KK.out.a13,KK.out.a23,e1,e2,e3⟩,C3w.out⟩
 rw [HL2.out]
 exact R2.out
end Go.Proofs.YtbnfdhidgdfbeaaGreat
