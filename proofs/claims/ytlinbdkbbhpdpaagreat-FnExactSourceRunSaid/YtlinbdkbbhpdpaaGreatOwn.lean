/- Reading tiles and logic elements out of memory. Plain lemmas. Changing what the call owns: a cell, or what lies behind a cell. Plain lemmas. -/
import Derived.Test.YtlinbdkbbhpdpaaGreatTilePure
namespace Go.Proofs.YtlinbdkbbhpdpaaGreat
set_option maxRecDepth 100000
open Go.RowKit

theorem Le.cells_length (e:Le):e.cells.length=4:=rfl
theorem Tile.cells_length (t:Tile):t.cells.length=4:=rfl
theorem flat4_length {α:Type} {f:α→List Cel} (hf:∀x,(f x).length=4) (xs:List α):(xs.flatMap f).length=xs.length * 4:=by rw [flat_length hf,Nat.mul_comm]
theorem flat4_at {α:Type} {f:α→List Cel} (hf:∀x,(f x).length=4) {xs:List α} {k j:Nat} {x:α} (h:xs[k]?=some x) (hj:j<4):(xs.flatMap f)[k * 4+j]?=(f x)[j]?:=by rw [Nat.mul_comm];exact flat_get hf h hj
theorem getD_some {α:Type} {xs:List α} {k:Nat} (d:α) (h:k<xs.length):xs[k]?=some (xs[k]?.getD d):=by rw [List.getElem?_eq_getElem h];rfl
theorem rdC_slice {w:World} {B e s:Nat} {cs:List Cel} {v:Value} (h:RdC w B (.row e s cs) v):∃A n c,v = .slice A n c:=by
 rw [rdC_row] at h
 obtain ⟨A,n,cap,rfl,_⟩:=h
 exact ⟨A,n,cap,rfl⟩

theorem RdC.tile {w:World} {B n c k:Nat} {A:Option Addr} {ts:List Tile} (h:RdC w B (celT ts) (.slice A n c)) (hk:k<ts.length) :
  ∃b o S m p L l q,A=some ⟨b,o,none⟩∧b<B∧w.cell? ⟨b,o+k * 4,none⟩=some (.slice S m p)∧w.cell? ⟨b,o+k * 4+1,none⟩=some (.slice L l q)∧w.cell? ⟨b,o+k * 4+2,none⟩=some (.int .i64 (ts[k]?.getD Tile.zero).pad)∧w.cell? ⟨b,o+k * 4+3,none⟩=some (.int .i64 (ts[k]?.getD Tile.zero).ram) ∧
   RdC w B (celI (ts[k]?.getD Tile.zero).mux) (.slice S m p)∧RdC w B (celE (ts[k]?.getD Tile.zero).les) (.slice L l q):=by
 have hl:=flat4_length Tile.cells_length ts
 obtain ⟨b,o,rfl,hb,hc⟩:=h.cell (by rw [hl];omega)
 have hx:=getD_some Tile.zero hk
 generalize ts[k]?.getD Tile.zero=t at *
 have g:=fun (j:Nat) (hj:j<4)=>hc (k * 4+j) (by rw [hl];omega)
 obtain ⟨c0,v0,e0,m0,r0⟩:=g 0 (by omega)
 obtain ⟨c1,v1,e1,m1,r1⟩:=g 1 (by omega)
 obtain ⟨c2,v2,e2,m2,r2⟩:=g 2 (by omega)
 obtain ⟨c3,v3,e3,m3,r3⟩:=g 3 (by omega)
 rw [flat4_at Tile.cells_length hx (by omega)] at e0 e1 e2 e3
 simp only [Tile.cells,List.getElem?_cons_zero,List.getElem?_cons_succ,Option.some.injEq] at e0 e1 e2 e3
 subst e0 e1 e2 e3
 rw [rdC_int] at r2 r3
 subst r2 r3
 obtain ⟨S,m,p,rfl⟩:=rdC_slice (e:=3) (s:=1) r0
 obtain ⟨L,l,q,rfl⟩:=rdC_slice (e:=71) (s:=4) r1
 exact ⟨b,o,S,m,p,L,l,q,rfl,hb,m0,m1,m2,m3,r0,r1⟩
theorem RdC.le {w:World} {B n c k:Nat} {A:Option Addr} {es:List Le} (h:RdC w B (celE es) (.slice A n c)) (hk:k<es.length) :
  ∃b o S m p,A=some ⟨b,o,none⟩∧b<B∧w.cell? ⟨b,o+k * 4,none⟩=some (.slice S m p)∧w.cell? ⟨b,o+k * 4+1,none⟩=some (.int .i64 (es[k]?.getD Le.zero).mask)∧w.cell? ⟨b,o+k * 4+2,none⟩=some (.int .i64 (es[k]?.getD Le.zero).flop)∧w.cell? ⟨b,o+k * 4+3,none⟩=some (.int .i64 (es[k]?.getD Le.zero).init) ∧
   RdC w B (celI (es[k]?.getD Le.zero).sel) (.slice S m p):=by
 have hl:=flat4_length Le.cells_length es
 obtain ⟨b,o,rfl,hb,hc⟩:=h.cell (by rw [hl];omega)
 have hx:=getD_some Le.zero hk
 generalize es[k]?.getD Le.zero=t at *
 have g:=fun (j:Nat) (hj:j<4)=>hc (k * 4+j) (by rw [hl];omega)
 obtain ⟨c0,v0,e0,m0,r0⟩:=g 0 (by omega)
 obtain ⟨c1,v1,e1,m1,r1⟩:=g 1 (by omega)
 obtain ⟨c2,v2,e2,m2,r2⟩:=g 2 (by omega)
 obtain ⟨c3,v3,e3,m3,r3⟩:=g 3 (by omega)
 rw [flat4_at Le.cells_length hx (by omega)] at e0 e1 e2 e3
 simp only [Le.cells,List.getElem?_cons_zero,List.getElem?_cons_succ,Option.some.injEq] at e0 e1 e2 e3
 subst e0 e1 e2 e3
 rw [rdC_int] at r1 r2 r3
 subst r1 r2 r3
 obtain ⟨S,m,p,rfl⟩:=rdC_slice (e:=3) (s:=1) r0
 exact ⟨b,o,S,m,p,rfl,hb,m0,m1,m2,m3,r0⟩
theorem OwnT.sub {lo hi:Nat} {w:World} {e s n cap j:Nat} {A:Option Addr} {cs:List Cel} (h:OwnT lo hi w (.row e s cs) (.slice A n cap)) (hj:j<cs.length) :
  ∃g c v,A=some ⟨g,0,none⟩∧lo≤g∧g<hi∧g<w.heap.size∧cs[j]?=some c∧w.cell? ⟨g,j,none⟩=some v∧OwnT lo hi w c v:=by
 obtain ⟨g,c,v,e1,h1,h2,h3,h4,h5,_,⟨Fj,k1,k2,_,k3,_⟩,_⟩:=h.cell hj
 exact ⟨g,c,v,e1,h1,h2,h3,h4,h5,Fj,k1,k2,k3⟩
theorem ownT_int {lo hi:Nat} {w:World} {x:Int} {v:Value} (h:OwnT lo hi w (.int x) v):v = .int .i64 x:=by
 obtain ⟨F,h1,_⟩:=h
 rw [ownC_int] at h1
 exact h1.1
theorem ownT_slice {lo hi:Nat} {w:World} {e s:Nat} {cs:List Cel} {v:Value} (h:OwnT lo hi w (.row e s cs) v):∃A n c,v = .slice A n c:=by
 obtain ⟨F,h1,_⟩:=h
 rw [ownC_row] at h1
 obtain ⟨A,n,cap,vs,F',rfl,_⟩:=h1
 exact ⟨A,n,cap,rfl⟩
theorem OwnT.tile {lo hi:Nat} {w:World} {n c k:Nat} {A:Option Addr} {ts:List Tile} (h:OwnT lo hi w (celT ts) (.slice A n c)) (hk:k<ts.length) :
  ∃g S m p L l q,A=some ⟨g,0,none⟩∧lo≤g∧g<hi∧g<w.heap.size∧w.cell? ⟨g,k * 4,none⟩=some (.slice S m p)∧w.cell? ⟨g,k * 4+1,none⟩=some (.slice L l q)∧w.cell? ⟨g,k * 4+2,none⟩=some (.int .i64 (ts[k]?.getD Tile.zero).pad)∧w.cell? ⟨g,k * 4+3,none⟩=some (.int .i64 (ts[k]?.getD Tile.zero).ram) ∧
   OwnT lo hi w (celI (ts[k]?.getD Tile.zero).mux) (.slice S m p)∧OwnT lo hi w (celE (ts[k]?.getD Tile.zero).les) (.slice L l q):=by
 have hl:=flat4_length Tile.cells_length ts
 have hx:=getD_some Tile.zero hk
 generalize ts[k]?.getD Tile.zero=t at *
 have g:=fun (j:Nat) (hj:j<4)=>h.sub (j:=k * 4+j) (by rw [hl];omega)
 obtain ⟨g0,c0,v0,a0,b1,b2,b3,e0,m0,r0⟩:=g 0 (by omega)
 obtain ⟨g1,c1,v1,a1,_,_,_,e1,m1,r1⟩:=g 1 (by omega)
 obtain ⟨g2,c2,v2,a2,_,_,_,e2,m2,r2⟩:=g 2 (by omega)
 obtain ⟨g3,c3,v3,a3,_,_,_,e3,m3,r3⟩:=g 3 (by omega)
 subst a0
 injection a1 with a1
 injection a2 with a2
 injection a3 with a3
 injection a1 with a1
 injection a2 with a2
 injection a3 with a3
 subst a1 a2 a3
 rw [flat4_at Tile.cells_length hx (by omega)] at e0 e1 e2 e3
 simp only [Tile.cells,List.getElem?_cons_zero,List.getElem?_cons_succ,Option.some.injEq] at e0 e1 e2 e3
 subst e0 e1 e2 e3
 obtain rfl:=ownT_int r2
 obtain rfl:=ownT_int r3
 obtain ⟨S,m,p,rfl⟩:=ownT_slice (e:=3) (s:=1) r0
 obtain ⟨L,l,q,rfl⟩:=ownT_slice (e:=71) (s:=4) r1
 exact ⟨g0,S,m,p,L,l,q,rfl,b1,b2,b3,m0,m1,m2,m3,r0,r1⟩
theorem OwnT.le {lo hi:Nat} {w:World} {n c k:Nat} {A:Option Addr} {es:List Le} (h:OwnT lo hi w (celE es) (.slice A n c)) (hk:k<es.length) :
  ∃g S m p,A=some ⟨g,0,none⟩∧lo≤g∧g<hi∧g<w.heap.size∧w.cell? ⟨g,k * 4,none⟩=some (.slice S m p)∧w.cell? ⟨g,k * 4+1,none⟩=some (.int .i64 (es[k]?.getD Le.zero).mask)∧w.cell? ⟨g,k * 4+2,none⟩=some (.int .i64 (es[k]?.getD Le.zero).flop)∧w.cell? ⟨g,k * 4+3,none⟩=some (.int .i64 (es[k]?.getD Le.zero).init) ∧
   OwnT lo hi w (celI (es[k]?.getD Le.zero).sel) (.slice S m p):=by
 have hl:=flat4_length Le.cells_length es
 have hx:=getD_some Le.zero hk
 generalize es[k]?.getD Le.zero=t at *
 have g:=fun (j:Nat) (hj:j<4)=>h.sub (j:=k * 4+j) (by rw [hl];omega)
 obtain ⟨g0,c0,v0,a0,b1,b2,b3,e0,m0,r0⟩:=g 0 (by omega)
 obtain ⟨g1,c1,v1,a1,_,_,_,e1,m1,r1⟩:=g 1 (by omega)
 obtain ⟨g2,c2,v2,a2,_,_,_,e2,m2,r2⟩:=g 2 (by omega)
 obtain ⟨g3,c3,v3,a3,_,_,_,e3,m3,r3⟩:=g 3 (by omega)
 subst a0
 injection a1 with a1
 injection a2 with a2
 injection a3 with a3
 injection a1 with a1
 injection a2 with a2
 injection a3 with a3
 subst a1 a2 a3
 rw [flat4_at Le.cells_length hx (by omega)] at e0 e1 e2 e3
 simp only [Le.cells,List.getElem?_cons_zero,List.getElem?_cons_succ,Option.some.injEq] at e0 e1 e2 e3
 subst e0 e1 e2 e3
 obtain rfl:=ownT_int r1
 obtain rfl:=ownT_int r2
 obtain rfl:=ownT_int r3
 obtain ⟨S,m,p,rfl⟩:=ownT_slice (e:=3) (s:=1) r0
 exact ⟨g0,S,m,p,rfl,b1,b2,b3,m0,m1,m2,m3,r0⟩
end Go.Proofs.YtlinbdkbbhpdpaaGreat

namespace Go.Proofs.YtlinbdkbbhpdpaaGreat
set_option maxRecDepth 100000
open Go.RowKit

/-- Only the blocks F may have changed. -/
structure Only (F:List Nat) (w w':World):Prop where
 os:w'.os=w.os
 tape:w'.tape=w.tape
 output:w'.output=w.output
 size:w.heap.size≤w'.heap.size
 block:∀k,k<w.heap.size→k∉F→w'.heap[k]?=w.heap[k]?
theorem Only.refl (F:List Nat) (w:World):Only F w w:=⟨rfl,rfl,rfl,Nat.le_refl _,fun _ _ _=>rfl⟩
theorem Only.trans {F:List Nat} {a b c:World} (h:Only F a b) (k:Only F b c):Only F a c :=
 ⟨k.os.trans h.os,k.tape.trans h.tape,k.output.trans h.output,Nat.le_trans h.size k.size,fun i hi hn=>(k.block i (Nat.lt_of_lt_of_le hi h.size) hn).trans (h.block i hi hn)⟩
theorem Only.more {F G:List Nat} {a b:World} (h:Only F a b) (hs:∀k∈F,k∈G):Only G a b:=⟨h.os,h.tape,h.output,h.size,fun i hi hn=>h.block i hi fun hf=>hn (hs i hf)⟩
theorem only_grown {A:Option Addr} {a b:World} (h:a.grownBy b (A.map (·.block))):Only (blk A) a b:=⟨h.os,h.tape,h.output,h.size,fun i hi hn=>h.block i hi (by
 cases A with
 | none=>simp
 | some ad =>
  simp only [Option.map_some,ne_eq,Option.some.injEq]
  rintro rfl
  exact hn (by simp [blk]))⟩
theorem only_set {F:List Nat} {w:World} {p:Addr} (hp:p.block∈F) (v:Value):Only F w (w.setCell p v) :=
 ⟨rfl,rfl,rfl,by simp [World.setCell],fun k _ hn=>Below.heap_setCell _ _ _ _ (by rintro rfl;exact hn hp)⟩
theorem OwnC.child {w:World} {e s n cap j:Nat} {A:Option Addr} {cs:List Cel} {F:List Nat} {c:Cel} (h:OwnC w (.row e s cs) (.slice A n cap) F) (hF:F.Nodup) (hc:cs[j]?=some c) :
  ∃g v Fj,A=some ⟨g,0,none⟩∧g∈F∧w.cell? ⟨g,j,none⟩=some v∧OwnC w c v Fj∧Fj.Nodup∧g∉Fj∧(∀k∈Fj,k∈F) ∧
   ∀(w':World) (c':Cel),OwnC w' c' v Fj→Only Fj w w'→OwnC w' (.row e s (cs.set j c')) (.slice A n cap) F:=by
 have hj:=(List.getElem?_eq_some_iff.1 hc).1
 have hlt:=h.lt
 obtain ⟨g,c0,v,F1,Fj,F2,rfl,e1,hcell,_,rfl,h4,h5,_⟩:=h.cell hj
 rw [hc] at e1
 injection e1 with e1
 subst e1
 rw [List.nodup_cons] at hF
 obtain ⟨hgn,hnd⟩:=hF
 simp only [List.mem_append,not_or] at hgn
 rw [List.nodup_append,List.nodup_append] at hnd
 obtain ⟨n1,⟨n2,n3,n4⟩,n5⟩:=hnd
 refine ⟨g,v,Fj,rfl,by simp,hcell,h4,n2,hgn.2.1,fun k hk=>by simp [hk],fun w' c' hc' ho=>?_⟩
 refine h5 w' c' hc' (ho.block g (hlt g (by simp)) hgn.2.1) (fun k hk=>ho.block k (hlt k (by simp [hk])) fun hj'=>?_) (fun k hk=>ho.block k (hlt k (by simp [hk])) fun hj'=>?_)
 ·exact n5 k hk k (by simp [hj']) rfl
 ·exact n4 k hj' k hk rfl
theorem OwnC.num {w:World} {e s n cap j:Nat} {A:Option Addr} {cs:List Cel} {F:List Nat} {x:Int} (h:OwnC w (.row e s cs) (.slice A n cap) F) (hF:F.Nodup) (hc:cs[j]?=some (.int x)) :
  ∃g,A=some ⟨g,0,none⟩∧g∈F∧w.cell? ⟨g,j,none⟩=some (.int .i64 x)∧w.frozen? ⟨g,j,none⟩=false ∧
   ∀y:Int,OwnC (w.setCell ⟨g,j,none⟩ (.int .i64 y)) (.row e s (cs.set j (.int y))) (.slice A n cap) F:=by
 have hj:=(List.getElem?_eq_some_iff.1 hc).1
 obtain ⟨g,c0,v,F1,Fj,F2,rfl,e1,hcell,hfz,rfl,h4,_,h6⟩:=h.cell hj
 rw [hc] at e1
 injection e1 with e1
 subst e1
 rw [ownC_int] at h4
 obtain ⟨rfl,rfl⟩:=h4
 rw [List.nodup_cons] at hF
 obtain ⟨hgn,_⟩:=hF
 simp only [List.nil_append,List.mem_append,not_or] at hgn
 exact ⟨g,rfl,by simp,hcell,hfz,fun y=>h6 (.int y) (.int .i64 y) [] (ownC_int.2 ⟨rfl,rfl⟩) hgn.1 (by simp) hgn.2⟩

/-! ### marking tiles -/
end Go.Proofs.YtlinbdkbbhpdpaaGreat
