/- Reading tiles and logic elements out of memory. -/
import Derived.Test.YtofihjoanjkdmaaGreatTilePure
namespace Go.Proofs.YtofihjoanjkdmaaGreat
set_option maxRecDepth 100000
open Go.RowKit
theorem Le.cells_length (e:Le):e.cells.length=4:=rfl
theorem jP.cells_length (t:jP):t.cells.length=4:=rfl
theorem oO {α:Type} {f:α→List Cel} (hf:∀x,(f x).length=4) (xs:List α):(xs.flatMap f).length=xs.length * 4:=by rw [ol hf,Nat.mul_comm]
theorem vC {α:Type} {f:α→List Cel} (hf:∀x,(f x).length=4) {xs:List α} {k j:Nat} {x:α} (h:xs[k]?=some x) (hj:j<4):(xs.flatMap f)[k * 4+j]?=(f x)[j]?:=by rw [Nat.mul_comm];exact p9 hf h hj
theorem getD_some {α:Type} {xs:List α} {k:Nat} (d:α) (h:k<xs.length):xs[k]?=some (xs[k]?.getD d):=by rw [List.getElem?_eq_getElem h];rfl
theorem eO {w:World} {B e s:Nat} {cs:List Cel} {v:Value} (h:RdC w B (.row e s cs) v):∃A n c,v = .slice A n c:=by
 rw [kC] at h
 obtain ⟨A,n,cap,rfl,_⟩:=h
 exact ⟨A,n,cap,rfl⟩
theorem RdC.tile {w:World} {B n c k:Nat} {A:Option Addr} {ts:List jP} (h:RdC w B (zQ ts) (.slice A n c)) (hk:k<ts.length) :
  ∃b o S m p L l q,A=some ⟨b,o,none⟩/\b<B/\w.cell? ⟨b,o+k * 4,none⟩=some (.slice S m p)/\w.cell? ⟨b,o+k * 4+1,none⟩=some (.slice L l q)/\w.cell? ⟨b,o+k * 4+2,none⟩=some (.int .i64 (ts[k]?.getD jP.zero).pad)/\w.cell? ⟨b,o+k * 4+3,none⟩=some (.int .i64 (ts[k]?.getD jP.zero).ram) /\
   RdC w B (aJ (ts[k]?.getD jP.zero).mux) (.slice S m p)/\RdC w B (zJ (ts[k]?.getD jP.zero).les) (.slice L l q):=by
 have hl:=oO jP.cells_length ts
 obtain ⟨b,o,rfl,hb,hc⟩:=h.cell (by rw [hl];omega)
 have hx:=getD_some jP.zero hk
 generalize ts[k]?.getD jP.zero=t at *
 have g:=fun (j:Nat) (hj:j<4)=>hc (k * 4+j) (by rw [hl];omega)
 obtain ⟨c0,v0,e0,m0,r0⟩:=g 0 (by omega)
 obtain ⟨c1,v1,e1,m1,r1⟩:=g 1 (by omega)
 obtain ⟨c2,v2,e2,m2,r2⟩:=g 2 (by omega)
 obtain ⟨c3,v3,e3,m3,r3⟩:=g 3 (by omega)
 rw [vC jP.cells_length hx (by omega)] at e0 e1 e2 e3
 simp only [jP.cells,List.getElem?_cons_zero,List.getElem?_cons_succ,Option.some.injEq] at e0 e1 e2 e3
 subst e0 e1 e2 e3
 rw [iQ] at r2 r3
 subst r2 r3
 obtain ⟨S,m,p,rfl⟩:=eO (e:=3) (s:=1) r0
 obtain ⟨L,l,q,rfl⟩:=eO (e:=121) (s:=4) r1
 exact ⟨b,o,S,m,p,L,l,q,rfl,hb,m0,m1,m2,m3,r0,r1⟩
theorem fQ.sub {lo hi:Nat} {w:World} {e s n cap j:Nat} {A:Option Addr} {cs:List Cel} (h:fQ lo hi w (.row e s cs) (.slice A n cap)) (hj:j<cs.length) :
  ∃g c v,A=some ⟨g,0,none⟩/\lo<=g/\g<hi/\g<w.heap.size/\cs[j]?=some c/\w.cell? ⟨g,j,none⟩=some v/\fQ lo hi w c v:=by
 obtain ⟨g,c,v,e1,h1,h2,h3,h4,h5,_,⟨Fj,k1,k2,_,k3,_⟩,_⟩:=h.cell hj
 exact ⟨g,c,v,e1,h1,h2,h3,h4,h5,Fj,k1,k2,k3⟩
theorem vD {lo hi:Nat} {w:World} {x:Int} {v:Value} (h:fQ lo hi w (.int x) v):v = .int .i64 x:=by
 obtain ⟨F,h1,_⟩:=h
 rw [ed] at h1
 exact h1.1
theorem qb {lo hi:Nat} {w:World} {e s:Nat} {cs:List Cel} {v:Value} (h:fQ lo hi w (.row e s cs) v):∃A n c,v = .slice A n c:=by
 obtain ⟨F,h1,_⟩:=h
 rw [ek] at h1
 obtain ⟨A,n,cap,vs,F',rfl,_⟩:=h1
 exact ⟨A,n,cap,rfl⟩
theorem fQ.tile {lo hi:Nat} {w:World} {n c k:Nat} {A:Option Addr} {ts:List jP} (h:fQ lo hi w (zQ ts) (.slice A n c)) (hk:k<ts.length) :
  ∃g S m p L l q,A=some ⟨g,0,none⟩/\lo<=g/\g<hi/\g<w.heap.size/\w.cell? ⟨g,k * 4,none⟩=some (.slice S m p)/\w.cell? ⟨g,k * 4+1,none⟩=some (.slice L l q)/\w.cell? ⟨g,k * 4+2,none⟩=some (.int .i64 (ts[k]?.getD jP.zero).pad)/\w.cell? ⟨g,k * 4+3,none⟩=some (.int .i64 (ts[k]?.getD jP.zero).ram) /\
   fQ lo hi w (aJ (ts[k]?.getD jP.zero).mux) (.slice S m p)/\fQ lo hi w (zJ (ts[k]?.getD jP.zero).les) (.slice L l q):=by
 have hl:=oO jP.cells_length ts
 have hx:=getD_some jP.zero hk
 generalize ts[k]?.getD jP.zero=t at *
 have g:=fun (j:Nat) (hj:j<4)=>h.sub (j:=k * 4+j) (by rw [hl];omega)
 obtain ⟨g0,c0,v0,a0,b1,b2,b3,e0,m0,r0⟩:=g 0 (by omega)
 obtain ⟨g1,c1,v1,a1,_,_,_,e1,m1,r1⟩:=g 1 (by omega)
 obtain ⟨g2,c2,v2,a2,_,_,_,e2,m2,r2⟩:=g 2 (by omega)
 obtain ⟨g3,c3,v3,a3,_,_,_,e3,m3,r3⟩:=g 3 (by omega)
 subst a0
 injection a1 with a1
 injection a2 with a2
 injection a3 with a3
 injection a1 with a1
 injection a2 with a2
 injection a3 with a3
 subst a1 a2 a3
 rw [vC jP.cells_length hx (by omega)] at e0 e1 e2 e3
 simp only [jP.cells,List.getElem?_cons_zero,List.getElem?_cons_succ,Option.some.injEq] at e0 e1 e2 e3
 subst e0 e1 e2 e3
 obtain rfl:=vD r2
 obtain rfl:=vD r3
 obtain ⟨S,m,p,rfl⟩:=qb (e:=3) (s:=1) r0
 obtain ⟨L,l,q,rfl⟩:=qb (e:=121) (s:=4) r1
 exact ⟨g0,S,m,p,L,l,q,rfl,b1,b2,b3,m0,m1,m2,m3,r0,r1⟩
structure nC (F:List Nat) (w w':World):Prop where
 os:w'.os=w.os
 tape:w'.tape=w.tape
 output:w'.output=w.output
 size:w.heap.size<=w'.heap.size
 block:∀k,k<w.heap.size→k∉F→w'.heap[k]?=w.heap[k]?
theorem nC.refl (F:List Nat) (w:World):nC F w w:=⟨rfl,rfl,rfl,Nat.le_refl _,fun _ _ _=>rfl⟩
theorem nC.trans {F:List Nat} {a b c:World} (h:nC F a b) (k:nC F b c):nC F a c :=
 ⟨k.os.trans h.os,k.tape.trans h.tape,k.output.trans h.output,Nat.le_trans h.size k.size,fun i hi hn=>(k.block i (Nat.lt_of_lt_of_le hi h.size) hn).trans (h.block i hi hn)⟩
theorem nC.more {F G:List Nat} {a b:World} (h:nC F a b) (hs:∀k∈F,k∈G):nC G a b:=⟨h.os,h.tape,h.output,h.size,fun i hi hn=>h.block i hi fun hf=>hn (hs i hf)⟩
theorem qc {F:List Nat} {w:World} {p:Addr} (hp:p.block∈F) (v:Value):nC F w (w.setCell p v) :=
 ⟨rfl,rfl,rfl,by simp [World.setCell],fun k _ hn=>Below.heap_setCell _ _ _ _ (by rintro rfl;exact hn hp)⟩
theorem eQ.num {w:World} {e s n cap j:Nat} {A:Option Addr} {cs:List Cel} {F:List Nat} {x:Int} (h:eQ w (.row e s cs) (.slice A n cap) F) (hF:F.Nodup) (hc:cs[j]?=some (.int x)) :
  ∃g,A=some ⟨g,0,none⟩/\g∈F/\w.cell? ⟨g,j,none⟩=some (.int .i64 x)/\w.frozen? ⟨g,j,none⟩=false /\
   ∀y:Int,eQ (w.setCell ⟨g,j,none⟩ (.int .i64 y)) (.row e s (cs.set j (.int y))) (.slice A n cap) F:=by
 have hj:=(List.getElem?_eq_some_iff.1 hc).1
 obtain ⟨g,c0,v,F1,Fj,F2,rfl,e1,hcell,hfz,rfl,h4,_,h6⟩:=h.cell hj
 rw [hc] at e1
 injection e1 with e1
 subst e1
 rw [ed] at h4
 obtain ⟨rfl,rfl⟩:=h4
 rw [List.nodup_cons] at hF
 obtain ⟨hgn,_⟩:=hF
 simp only [List.nil_append,List.mem_append,not_or] at hgn
 exact ⟨g,rfl,by simp,hcell,hfz,fun y=>h6 (.int y) (.int .i64 y) [] (ed.2 ⟨rfl,rfl⟩) hgn.1 (by simp) hgn.2⟩
/-! ### marking tiles -/
end Go.Proofs.YtofihjoanjkdmaaGreat
