/- Reading tiles and logic elements out of memory. -/
import Derived.Test.YtofihjoanjkdmaaGreatTilePure
namespace Go.Proofs.YtofihjoanjkdmaaGreat
set_option maxRecDepth 100000
open Go.RowKit
theorem Le.cells_length (e:Le):e.cells.length=4:=rfl
theorem bC.cells_length (t:bC):t.cells.length=4:=rfl
theorem jo {α:Type} {f:α→List Cel} (hf:∀x,(f x).length=4) (xs:List α):(xs.flatMap f).length=xs.length * 4:=by rw [tX hf,Nat.mul_comm]
theorem iJ {α:Type} {f:α→List Cel} (hf:∀x,(f x).length=4) {xs:List α} {k j:Nat} {x:α} (h:xs[k]?=some x) (hj:j<4):(xs.flatMap f)[k * 4+j]?=(f x)[j]?:=by rw [Nat.mul_comm];exact uX hf h hj
theorem getD_some {α:Type} {xs:List α} {k:Nat} (d:α) (h:k<xs.length):xs[k]?=some (xs[k]?.getD d):=by rw [List.getElem?_eq_getElem h];rfl
theorem eu {w:World} {B e s:Nat} {cs:List Cel} {v:Value} (h:RdC w B (.row e s cs) v):∃A n c,v = .slice A n c:=by
 rw [mQ] at h
 obtain ⟨A,n,g,rfl,_⟩:=h
 exact ⟨A,n,g,rfl⟩
theorem RdC.tile {w:World} {B n c k:Nat} {A:Option Addr} {ts:List bC} (h:RdC w B (dW ts) (.slice A n c)) (hk:k<ts.length) :
  ∃b o S m p L l q,A=some ⟨b,o,none⟩/\b<B/\w.cell? ⟨b,o+k * 4,none⟩=some (.slice S m p)/\w.cell? ⟨b,o+k * 4+1,none⟩=some (.slice L l q)/\w.cell? ⟨b,o+k * 4+2,none⟩=some (.int .i64 (ts[k]?.getD bC.zero).pad)/\w.cell? ⟨b,o+k * 4+3,none⟩=some (.int .i64 (ts[k]?.getD bC.zero).ram) /\
   RdC w B (aH (ts[k]?.getD bC.zero).mux) (.slice S m p)/\RdC w B (iE (ts[k]?.getD bC.zero).les) (.slice L l q):=by
 have hl:=jo bC.cells_length ts
 obtain ⟨b,o,rfl,U,hc⟩:=h.cell (by rw [hl];omega)
 have Q:=getD_some bC.zero hk
 generalize ts[k]?.getD bC.zero=t at *
 have g:=fun (j:Nat) (hj:j<4)=>hc (k * 4+j) (by rw [hl];omega)
 obtain ⟨V,v0,u,I,H⟩:=g 0 (by omega)
 obtain ⟨c1,Z,e1,K,D⟩:=g 1 (by omega)
 obtain ⟨c2,Y,e2,J,z⟩:=g 2 (by omega)
 obtain ⟨c3,W,e3,R,G⟩:=g 3 (by omega)
 rw [iJ bC.cells_length Q (by omega)] at u e1 e2 e3
 simp only [bC.cells,List.getElem?_cons_zero,List.getElem?_cons_succ,Option.some.injEq] at u e1 e2 e3
 subst u e1 e2 e3
 rw [jV] at z G
 subst z G
 obtain ⟨S,m,p,rfl⟩:=eu (e:=3) (s:=1) H
 obtain ⟨L,l,q,rfl⟩:=eu (e:=121) (s:=4) D
 exact ⟨b,o,S,m,p,L,l,q,rfl,U,I,K,J,R,H,D⟩
theorem RdC.le {w:World} {B n c k:Nat} {A:Option Addr} {es:List Le} (h:RdC w B (iE es) (.slice A n c)) (hk:k<es.length) :
  ∃b o S m p,A=some ⟨b,o,none⟩/\b<B/\w.cell? ⟨b,o+k * 4,none⟩=some (.slice S m p)/\w.cell? ⟨b,o+k * 4+1,none⟩=some (.int .i64 (es[k]?.getD Le.zero).mask)/\w.cell? ⟨b,o+k * 4+2,none⟩=some (.int .i64 (es[k]?.getD Le.zero).flop)/\w.cell? ⟨b,o+k * 4+3,none⟩=some (.int .i64 (es[k]?.getD Le.zero).init) /\
   RdC w B (aH (es[k]?.getD Le.zero).sel) (.slice S m p):=by
 have hl:=jo Le.cells_length es
 obtain ⟨b,o,rfl,R,hc⟩:=h.cell (by rw [hl];omega)
 have K:=getD_some Le.zero hk
 generalize es[k]?.getD Le.zero=t at *
 have g:=fun (j:Nat) (hj:j<4)=>hc (k * 4+j) (by rw [hl];omega)
 obtain ⟨U,Z,q,H,G⟩:=g 0 (by omega)
 obtain ⟨c1,Y,e1,J,z⟩:=g 1 (by omega)
 obtain ⟨c2,W,e2,I,u⟩:=g 2 (by omega)
 obtain ⟨c3,V,e3,Q,D⟩:=g 3 (by omega)
 rw [iJ Le.cells_length K (by omega)] at q e1 e2 e3
 simp only [Le.cells,List.getElem?_cons_zero,List.getElem?_cons_succ,Option.some.injEq] at q e1 e2 e3
 subst q e1 e2 e3
 rw [jV] at z u D
 subst z u D
 obtain ⟨S,m,p,rfl⟩:=eu (e:=3) (s:=1) G
 exact ⟨b,o,S,m,p,rfl,R,H,J,I,Q,G⟩
theorem RdC.tlen {w:World} {B n c:Nat} {A:Option Addr} {ts:List bC} (h:RdC w B (dW ts) (.slice A n c)):ts.length=n:=by
 have:=RdC.len h
 rw [jo bC.cells_length] at this
 omega
theorem RdC.elen {w:World} {B n c:Nat} {A:Option Addr} {es:List Le} (h:RdC w B (iE es) (.slice A n c)):es.length=n:=by
 have:=RdC.len h
 rw [jo Le.cells_length] at this
 omega
theorem gI.sub {lo hi:Nat} {w:World} {e s n q j:Nat} {A:Option Addr} {cs:List Cel} (h:gI lo hi w (.row e s cs) (.slice A n q)) (hj:j<cs.length) :
  ∃g c v,A=some ⟨g,0,none⟩/\lo<=g/\g<hi/\g<w.heap.size/\cs[j]?=some c/\w.cell? ⟨g,j,none⟩=some v/\gI lo hi w c v:=by
 obtain ⟨g,c,v,e1,h1,h2,h3,h4,h5,_,⟨z,D,u,_,B,_⟩,_⟩:=h.cell hj
 exact ⟨g,c,v,e1,h1,h2,h3,h4,h5,z,D,u,B⟩
theorem qb {lo hi:Nat} {w:World} {x:Int} {v:Value} (h:gI lo hi w (.int x) v):v = .int .i64 x:=by
 obtain ⟨F,h1,_⟩:=h
 rw [ed] at h1
 exact h1.1
theorem ru {lo hi:Nat} {w:World} {e s:Nat} {cs:List Cel} {v:Value} (h:gI lo hi w (.row e s cs) v):∃A n c,v = .slice A n c:=by
 obtain ⟨F,h1,_⟩:=h
 rw [dV] at h1
 obtain ⟨A,n,g,vs,F',rfl,_⟩:=h1
 exact ⟨A,n,g,rfl⟩
theorem gI.tile {lo hi:Nat} {w:World} {n c k:Nat} {A:Option Addr} {ts:List bC} (h:gI lo hi w (dW ts) (.slice A n c)) (hk:k<ts.length) :
  ∃g S m p L l q,A=some ⟨g,0,none⟩/\lo<=g/\g<hi/\g<w.heap.size/\w.cell? ⟨g,k * 4,none⟩=some (.slice S m p)/\w.cell? ⟨g,k * 4+1,none⟩=some (.slice L l q)/\w.cell? ⟨g,k * 4+2,none⟩=some (.int .i64 (ts[k]?.getD bC.zero).pad)/\w.cell? ⟨g,k * 4+3,none⟩=some (.int .i64 (ts[k]?.getD bC.zero).ram) /\
   gI lo hi w (aH (ts[k]?.getD bC.zero).mux) (.slice S m p)/\gI lo hi w (iE (ts[k]?.getD bC.zero).les) (.slice L l q):=by
 have hl:=jo bC.cells_length ts
 have V:=getD_some bC.zero hk
 generalize ts[k]?.getD bC.zero=t at *
 have g:=fun (j:Nat) (hj:j<4)=>h.sub (j:=k * 4+j) (by rw [hl];omega)
 obtain ⟨J,c0,v0,K,Z,b2,b3,D,I,H⟩:=g 0 (by omega)
 obtain ⟨g1,c1,v1,z,_,_,_,e1,U,G⟩:=g 1 (by omega)
 obtain ⟨g2,c2,v2,u,_,_,_,e2,Q,R⟩:=g 2 (by omega)
 obtain ⟨g3,c3,v3,B,_,_,_,e3,Y,W⟩:=g 3 (by omega)
 subst K
 injection z with z
 injection u with u
 injection B with B
 injection z with z
 injection u with u
 injection B with B
 subst z u B
 rw [iJ bC.cells_length V (by omega)] at D e1 e2 e3
 simp only [bC.cells,List.getElem?_cons_zero,List.getElem?_cons_succ,Option.some.injEq] at D e1 e2 e3
 subst D e1 e2 e3
 obtain rfl:=qb R
 obtain rfl:=qb W
 obtain ⟨S,m,p,rfl⟩:=ru (e:=3) (s:=1) H
 obtain ⟨L,l,q,rfl⟩:=ru (e:=121) (s:=4) G
 exact ⟨J,S,m,p,L,l,q,rfl,Z,b2,b3,I,U,Q,Y,H,G⟩
theorem gI.le {lo hi:Nat} {w:World} {n c k:Nat} {A:Option Addr} {es:List Le} (h:gI lo hi w (iE es) (.slice A n c)) (hk:k<es.length) :
  ∃g S m p,A=some ⟨g,0,none⟩/\lo<=g/\g<hi/\g<w.heap.size/\w.cell? ⟨g,k * 4,none⟩=some (.slice S m p)/\w.cell? ⟨g,k * 4+1,none⟩=some (.int .i64 (es[k]?.getD Le.zero).mask)/\w.cell? ⟨g,k * 4+2,none⟩=some (.int .i64 (es[k]?.getD Le.zero).flop)/\w.cell? ⟨g,k * 4+3,none⟩=some (.int .i64 (es[k]?.getD Le.zero).init) /\
   gI lo hi w (aH (es[k]?.getD Le.zero).sel) (.slice S m p):=by
 have hl:=jo Le.cells_length es
 have R:=getD_some Le.zero hk
 generalize es[k]?.getD Le.zero=t at *
 have g:=fun (j:Nat) (hj:j<4)=>h.sub (j:=k * 4+j) (by rw [hl];omega)
 obtain ⟨H,c0,v0,I,Y,b2,Z,B,G,D⟩:=g 0 (by omega)
 obtain ⟨g1,c1,v1,u,_,_,_,e1,Q,U⟩:=g 1 (by omega)
 obtain ⟨g2,c2,v2,q,_,_,_,e2,J,K⟩:=g 2 (by omega)
 obtain ⟨g3,c3,v3,z,_,_,_,e3,W,V⟩:=g 3 (by omega)
 subst I
 injection u with u
 injection q with q
 injection z with z
 injection u with u
 injection q with q
 injection z with z
 subst u q z
 rw [iJ Le.cells_length R (by omega)] at B e1 e2 e3
 simp only [Le.cells,List.getElem?_cons_zero,List.getElem?_cons_succ,Option.some.injEq] at B e1 e2 e3
 subst B e1 e2 e3
 obtain rfl:=qb U
 obtain rfl:=qb K
 obtain rfl:=qb V
 obtain ⟨S,m,p,rfl⟩:=ru (e:=3) (s:=1) D
 exact ⟨H,S,m,p,rfl,Y,b2,Z,G,Q,J,W,D⟩
structure gp (F:List Nat) (w w':World):Prop where
 os:w'.os=w.os
 tape:w'.tape=w.tape
 output:w'.output=w.output
 size:w.heap.size<=w'.heap.size
 block:∀k,k<w.heap.size→k∉F→w'.heap[k]?=w.heap[k]?
theorem gp.refl (F:List Nat) (w:World):gp F w w:=⟨rfl,rfl,rfl,Nat.le_refl _,fun _ _ _=>rfl⟩
theorem gp.trans {F:List Nat} {a b c:World} (h:gp F a b) (k:gp F b c):gp F a c :=
 ⟨k.os.trans h.os,k.tape.trans h.tape,k.output.trans h.output,Nat.le_trans h.size k.size,fun i hi hn=>(k.block i (Nat.lt_of_lt_of_le hi h.size) hn).trans (h.block i hi hn)⟩
theorem gp.more {F G:List Nat} {a b:World} (h:gp F a b) (hs:∀k∈F,k∈G):gp G a b:=⟨h.os,h.tape,h.output,h.size,fun i hi hn=>h.block i hi fun hf=>hn (hs i hf)⟩
theorem vW {F:List Nat} {a b:World} (h:Below a.heap.size a b):gp F a b:=⟨h.os,h.tape,h.output,h.size,fun i hi _=>h.block i hi⟩
theorem ry {A:Option Addr} {a b:World} (h:a.grownBy b (A.map (·.block))):gp (blk A) a b:=⟨h.os,h.tape,h.output,h.size,fun i hi hn=>h.block i hi (by
 cases A with
 | none=>simp
 | some g =>
  simp only [Option.map_some,ne_eq,Option.some.injEq]
  rintro rfl
  exact hn (by simp [blk]))⟩
theorem iU {F:List Nat} {w:World} {p:Addr} (g:p.block∈F) (v:Value):gp F w (w.setCell p v) :=
 ⟨rfl,rfl,rfl,by simp [World.setCell],fun k _ hn=>Below.heap_setCell _ _ _ _ (by rintro rfl;exact hn g)⟩
theorem bO.child {w:World} {e s n G j:Nat} {A:Option Addr} {cs:List Cel} {F:List Nat} {c:Cel} (h:bO w (.row e s cs) (.slice A n G) F) (K:F.Nodup) (hc:cs[j]?=some c) :
  ∃g v q,A=some ⟨g,0,none⟩/\g∈F/\w.cell? ⟨g,j,none⟩=some v/\bO w c v q/\q.Nodup/\g∉q/\(∀k∈q,k∈F) /\
   ∀(w':World) (I:Cel),bO w' I v q→gp q w w'→bO w' (.row e s (cs.set j I)) (.slice A n G) F:=by
 have hj:=(List.getElem?_eq_some_iff.1 hc).1
 have D:=h.lt
 obtain ⟨g,U,v,V,q,F2,rfl,e1,u,_,rfl,h4,h5,_⟩:=h.cell hj
 rw [hc] at e1
 injection e1 with e1
 subst e1
 rw [List.nodup_cons] at K
 obtain ⟨B,H⟩:=K
 simp only [List.mem_append,not_or] at B
 rw [List.nodup_append,List.nodup_append] at H
 obtain ⟨n1,⟨n2,n3,R⟩,Q⟩:=H
 refine ⟨g,v,q,rfl,by simp,u,h4,n2,B.2.1,fun k hk=>by simp [hk],fun w' I J ho=>?_⟩
 refine h5 w' I J (ho.block g (D g (by simp)) B.2.1) (fun k hk=>ho.block k (D k (by simp [hk])) fun z=>?_) (fun k hk=>ho.block k (D k (by simp [hk])) fun z=>?_)
 ·exact Q k hk k (by simp [z]) rfl
 exact R k z k hk rfl
theorem bO.num {w:World} {e s n z j:Nat} {A:Option Addr} {cs:List Cel} {F:List Nat} {x:Int} (h:bO w (.row e s cs) (.slice A n z) F) (D:F.Nodup) (hc:cs[j]?=some (.int x)) :
  ∃g,A=some ⟨g,0,none⟩/\g∈F/\w.cell? ⟨g,j,none⟩=some (.int .i64 x)/\w.frozen? ⟨g,j,none⟩=false /\
   ∀y:Int,bO (w.setCell ⟨g,j,none⟩ (.int .i64 y)) (.row e s (cs.set j (.int y))) (.slice A n z) F:=by
 have hj:=(List.getElem?_eq_some_iff.1 hc).1
 obtain ⟨g,H,v,I,J,F2,rfl,e1,q,B,rfl,h4,_,G⟩:=h.cell hj
 rw [hc] at e1
 injection e1 with e1
 subst e1
 rw [ed] at h4
 obtain ⟨rfl,rfl⟩:=h4
 rw [List.nodup_cons] at D
 obtain ⟨u,_⟩:=D
 simp only [List.nil_append,List.mem_append,not_or] at u
 exact ⟨g,rfl,by simp,q,B,fun y=>G (.int y) (.int .i64 y) [] (ed.2 ⟨rfl,rfl⟩) u.1 (by simp) u.2⟩
theorem jq {α:Type} {f:α→List Cel} (hf:∀x,(f x).length=4):∀{xs:List α} {k j:Nat} {x y:α} {c:Cel},xs[k]?=some x→j<4→f y=(f x).set j c→(xs.flatMap f).set (k * 4+j) c=(xs.set k y).flatMap f
 | [],k,j,x,y,c,h,hj,g=>by simp at h
 | a :: l,0,j,x,y,c,h,hj,g=>by
  simp at h
  subst h
  rw [List.flatMap_cons,Nat.zero_mul,Nat.zero_add,List.set_append,if_pos (by rw [hf];exact hj),List.set_cons_zero,List.flatMap_cons,g]
 | a :: l,k+1,j,x,y,c,h,hj,g=>by
  rw [List.flatMap_cons,List.set_append,if_neg (by rw [hf];omega),hf,show (k+1) * 4+j - 4=k * 4+j by omega,jq hf (by simpa using h) hj g,List.set_cons_succ,List.flatMap_cons]
/-! ### marking tiles -/
def xK (e:Le):Nat:=e.sel.length+3
def jU (es:List Le):Nat→Nat
 | 0=>0
 | k+1=>jU es k+xK (es[k]?.getD Le.zero)
def zy (k:Int) (e:Le):Le:=⟨mJ k e.sel.length,k+e.sel.length,k+e.sel.length+1,k+e.sel.length+2⟩
def lu (k:Int) (es:List Le) (j:Nat):List Le:=(List.range es.length).map fun i=>if i<j then zy (k+jU es i) (es[i]?.getD Le.zero) else es[i]?.getD Le.zero
def qN (k:Int) (es:List Le):List Le:=lu k es es.length
def Dp (t:bC):Nat:=t.mux.length+jU t.les t.les.length+2
def tsN (ts:List bC):Nat→Nat
 | 0=>0
 | k+1=>tsN ts k+Dp (ts[k]?.getD bC.zero)
def mkT (k:Int) (t:bC):bC:=⟨mJ k t.mux.length,qN (k+t.mux.length) t.les,k+t.mux.length+jU t.les t.les.length,k+t.mux.length+jU t.les t.les.length+1⟩
def pW (k:Int) (ts:List bC) (j:Nat):List bC:=(List.range ts.length).map fun i=>if i<j then mkT (k+tsN ts i) (ts[i]?.getD bC.zero) else ts[i]?.getD bC.zero
def uO (k:Int) (ts:List bC):List bC:=pW k ts ts.length
theorem xL {α:Type} {d:α} {g:Nat→α} (xs:List α):((List.range xs.length).map fun i=>if i<0 then g i else xs[i]?.getD d)=xs:=by
 apply List.ext_getElem?
 intro i
 simp only [Nat.not_lt_zero,if_false,List.getElem?_map]
 rcases Nat.lt_or_ge i xs.length with h|h
 ·simp [h]
 simp [h]
theorem tH {α:Type} {d:α} {g:Nat→α} {xs:List α} {j i:Nat} (h:i<xs.length):((List.range xs.length).map fun i=>if i<j then g i else xs[i]?.getD d)[i]?=some (if i<j then g i else xs[i]?.getD d):=by simp [h]
theorem zz {α:Type} {d:α} {g:Nat→α} {xs:List α} {j:Nat} (h:j<xs.length):((List.range xs.length).map fun i=>if i<j then g i else xs[i]?.getD d).set j (g j)=((List.range xs.length).map fun i=>if i<j+1 then g i else xs[i]?.getD d):=by
 apply List.ext_getElem?
 intro i
 by_cases hi:i=j
 ·subst hi
  rw [List.getElem?_set_self (by simpa using h)]
  simp [h]
 rw [List.getElem?_set_ne (by omega)]
 simp only [List.getElem?_map]
 rcases Nat.lt_or_ge i xs.length with h1|h1
 ·have e:(i<j+1)=(i<j):=propext (by omega)
  simp [h1,e]
 simp [h1]
theorem yN (es : List Le) {j k : Nat} (h : j <= k) : jU es j <= jU es k := by
  induction k with
  | zero => obtain rfl : j = 0 := by omega
            exact Nat.le_refl _
  | succ k ih =>
    rcases Nat.lt_or_ge k j with h1 | h1
    · obtain rfl : j = k + 1 := by omega
      exact Nat.le_refl _
    have := ih h1
    rw [jU]
    omega
theorem BZ (ts : List bC) {j k : Nat} (h : j <= k) : tsN ts j <= tsN ts k := by
  induction k with
  | zero => obtain rfl : j = 0 := by omega
            exact Nat.le_refl _
  | succ k ih =>
    rcases Nat.lt_or_ge k j with h1 | h1
    · obtain rfl : j = k + 1 := by omega
      exact Nat.le_refl _
    have := ih h1
    rw [tsN]
    omega
end Go.Proofs.YtofihjoanjkdmaaGreat
