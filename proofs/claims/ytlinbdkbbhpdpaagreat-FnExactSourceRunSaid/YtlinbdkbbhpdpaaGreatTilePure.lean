/- Words for nested memory: cells that hold integers or slices of cells; what the call owns, block by block; what can be read. Plain lemmas. Codewords: one flipped bit is found; plain arithmetic. Tile configurations: numbers in the bits of words, put there and read again; plain. -/
import Derived.Test.YtlinbdkbbhpdpaaGreatCwPure
import Derived.Test.YtlinbdkbbhpdpaaGreatFrame
import Derived.Test.YtlinbdkbbhpdpaaGreatHar
namespace Go.Proofs.YtlinbdkbbhpdpaaGreat
set_option maxRecDepth 100000
open Go.RowKit

/-- What a cell holds: an integer, or a slice whose elements have 'size' cells each. -/
inductive Cel where
 | int (x:Int)
 | row (e size:Nat) (cs:List Cel)

def blk (A:Option Addr):List Nat:=match A with|none=>[]|some a=>[a.block]
theorem mem_blk {A:Option Addr} {k:Nat}:k∈blk A↔∃a,A=some a∧a.block=k:=by cases A <;> simp [blk,eq_comm]

mutual
def OwnC (w:World):Cel→Value→List Nat→Prop
 | .int x,v,F=>v = .int .i64 x∧F=[]
 | .row e s cs,v,F=>∃A n cap vs F',v = .slice A n cap∧w.ownsRow 0 e s v n vs∧F=blk A++F'∧OwnL w cs vs F'
def OwnL (w:World):List Cel→List Value→List Nat→Prop
 | [],vs,F=>vs=[]∧F=[]
 | c :: cs,vs,F=>∃v vs' F1 F2,vs=v :: vs'∧F=F1++F2∧OwnC w c v F1∧OwnL w cs vs' F2
end
theorem ownC_int {w:World} {x:Int} {v:Value} {F:List Nat}:OwnC w (.int x) v F↔v = .int .i64 x∧F=[]:=by rw [OwnC]
theorem ownC_row {w:World} {e s:Nat} {cs:List Cel} {v:Value} {F:List Nat}:OwnC w (.row e s cs) v F↔∃A n cap vs F',v = .slice A n cap∧w.ownsRow 0 e s v n vs∧F=blk A++F'∧OwnL w cs vs F':=by rw [OwnC]
theorem ownL_nil {w:World} {vs:List Value} {F:List Nat}:OwnL w [] vs F↔vs=[]∧F=[]:=by rw [OwnL]
theorem ownL_cons {w:World} {c:Cel} {cs:List Cel} {vs:List Value} {F:List Nat}:OwnL w (c :: cs) vs F↔∃v vs' F1 F2,vs=v :: vs'∧F=F1++F2∧OwnC w c v F1∧OwnL w cs vs' F2:=by rw [OwnL]

theorem ownsRow_keep {w w':World} {base e s n c m:Nat} {A:Option Addr} {xs:List Value} (h:w.ownsRow base e s (.slice A n c) m xs) (hk:∀k∈blk A,w'.heap[k]?=w.heap[k]?):w'.ownsRow base e s (.slice A n c) m xs :=
 ownsRow_block h fun a ha=>hk _ (mem_blk.2 ⟨a,ha,rfl⟩)
theorem ownsRow_lt' {w:World} {base e s n c m:Nat} {A:Option Addr} {xs:List Value} (h:w.ownsRow base e s (.slice A n c) m xs):∀k∈blk A,base≤k∧k<w.heap.size:=by
 intro k hk
 obtain ⟨a,rfl,rfl⟩:=mem_blk.1 hk
 exact h.lt _ rfl

mutual
theorem OwnC.keep {w w':World}:∀{c:Cel} {v:Value} {F:List Nat},OwnC w c v F→(∀k∈F,w'.heap[k]?=w.heap[k]?)→OwnC w' c v F
 | .int x,v,F,h,_=>by rw [ownC_int] at h ⊢;exact h
 | .row e s cs,v,F,h,hk=>by
  rw [ownC_row] at h ⊢
  obtain ⟨A,n,cap,vs,F',rfl,ho,rfl,hl⟩:=h
  exact ⟨A,n,cap,vs,F',rfl,ownsRow_keep ho fun k hk'=>hk k (List.mem_append_left _ hk'),rfl,OwnL.keep hl fun k hk'=>hk k (List.mem_append_right _ hk')⟩
theorem OwnL.keep {w w':World}:∀{cs:List Cel} {vs:List Value} {F:List Nat},OwnL w cs vs F→(∀k∈F,w'.heap[k]?=w.heap[k]?)→OwnL w' cs vs F
 | [],vs,F,h,_=>by rw [ownL_nil] at h ⊢;exact h
 | c :: cs,vs,F,h,hk=>by
  rw [ownL_cons] at h ⊢
  obtain ⟨v,vs',F1,F2,rfl,rfl,h1,h2⟩:=h
  exact ⟨v,vs',F1,F2,rfl,rfl,OwnC.keep h1 fun k hk'=>hk k (List.mem_append_left _ hk'),OwnL.keep h2 fun k hk'=>hk k (List.mem_append_right _ hk')⟩
end
mutual
theorem OwnC.lt {w:World}:∀{c:Cel} {v:Value} {F:List Nat},OwnC w c v F→∀k∈F,k<w.heap.size
 | .int x,v,F,h=>by rw [ownC_int] at h;rw [h.2];simp
 | .row e s cs,v,F,h=>by
  rw [ownC_row] at h
  obtain ⟨A,n,cap,vs,F',rfl,ho,rfl,hl⟩:=h
  intro k hk
  rcases List.mem_append.1 hk with hk|hk
  ·exact (ownsRow_lt' ho k hk).2
  ·exact OwnL.lt hl k hk
theorem OwnL.lt {w:World}:∀{cs:List Cel} {vs:List Value} {F:List Nat},OwnL w cs vs F→∀k∈F,k<w.heap.size
 | [],vs,F,h=>by rw [ownL_nil] at h;rw [h.2];simp
 | c :: cs,vs,F,h=>by
  rw [ownL_cons] at h
  obtain ⟨v,vs',F1,F2,rfl,rfl,h1,h2⟩:=h
  intro k hk
  rcases List.mem_append.1 hk with hk|hk
  ·exact OwnC.lt h1 k hk
  ·exact OwnL.lt h2 k hk
end
theorem OwnL.len {w:World}:∀{cs:List Cel} {vs:List Value} {F:List Nat},OwnL w cs vs F→vs.length=cs.length
 | [],vs,F,h=>by rw [ownL_nil] at h;rw [h.1];rfl
 | c :: cs,vs,F,h=>by
  rw [ownL_cons] at h
  obtain ⟨v,vs',F1,F2,rfl,rfl,h1,h2⟩:=h
  simp [OwnL.len h2]
theorem OwnC.one {w:World}:∀{c:Cel} {v:Value} {F:List Nat},OwnC w c v F→v.oneCell'=true
 | .int x,v,F,h=>by rw [ownC_int] at h;rw [h.1];rfl
 | .row e s cs,v,F,h=>by
  rw [ownC_row] at h
  obtain ⟨A,n,cap,vs,F',rfl,_⟩:=h
  rfl
theorem OwnL.one {w:World}:∀{cs:List Cel} {vs:List Value} {F:List Nat},OwnL w cs vs F→∀v∈vs,v.oneCell'=true
 | [],vs,F,h=>by rw [ownL_nil] at h;rw [h.1];simp
 | c :: cs,vs,F,h=>by
  rw [ownL_cons] at h
  obtain ⟨v,vs',F1,F2,rfl,rfl,h1,h2⟩:=h
  intro u hu
  rcases List.mem_cons.1 hu with rfl|hu
  ·exact h1.one
  ·exact OwnL.one h2 u hu
theorem OwnL.append {w:World}:∀{cs:List Cel} {vs:List Value} {F:List Nat},OwnL w cs vs F→∀{cs':List Cel} {vs':List Value} {F':List Nat},OwnL w cs' vs' F'→OwnL w (cs++cs') (vs++vs') (F++F')
 | [],vs,F,h,cs',vs',F',h'=>by rw [ownL_nil] at h;rw [h.1,h.2];exact h'
 | c :: cs,vs,F,h,cs',vs',F',h'=>by
  rw [ownL_cons] at h
  obtain ⟨v,ws,F1,F2,rfl,rfl,h1,h2⟩:=h
  rw [List.cons_append,ownL_cons]
  exact ⟨v,ws++vs',F1,F2++F',rfl,List.append_assoc _ _ _,h1,OwnL.append h2 h'⟩

/-- One of several cells: its value, its own blocks, and what becomes of the whole when it changes. -/
theorem OwnL.at_ {w:World}:∀{cs:List Cel} {vs:List Value} {F:List Nat},OwnL w cs vs F→∀{j:Nat},j<cs.length →
  ∃c v F1 Fj F2,cs[j]?=some c∧vs[j]?=some v∧F=F1++(Fj++F2)∧OwnC w c v Fj ∧
   ∀(w':World) (c':Cel) (v':Value) (Fj':List Nat),OwnC w' c' v' Fj'→(∀k∈F1,w'.heap[k]?=w.heap[k]?)→(∀k∈F2,w'.heap[k]?=w.heap[k]?)→OwnL w' (cs.set j c') (vs.set j v') (F1++(Fj'++F2))
 | [],vs,F,h,j,hj=>by simp at hj
 | c :: cs,vs,F,h,0,hj=>by
  rw [ownL_cons] at h
  obtain ⟨v,vs',F1,F2,rfl,rfl,h1,h2⟩:=h
  refine ⟨c,v,[],F1,F2,rfl,rfl,rfl,h1,fun w' c' v' Fj' hc _ hk=>?_⟩
  rw [List.set_cons_zero,List.set_cons_zero,ownL_cons]
  exact ⟨v',vs',Fj',F2,rfl,rfl,hc,h2.keep hk⟩
 | c :: cs,vs,F,h,j+1,hj=>by
  rw [ownL_cons] at h
  obtain ⟨v,vs',F1,F2,rfl,rfl,h1,h2⟩:=h
  obtain ⟨c0,v0,G1,Gj,G2,e1,e2,rfl,h3,h4⟩:=OwnL.at_ h2 (j:=j) (by simpa using hj)
  refine ⟨c0,v0,F1++G1,Gj,G2,by simpa using e1,by simpa using e2,by simp,h3,fun w' c' v' Fj' hc hk1 hk2=>?_⟩
  rw [List.set_cons_succ,List.set_cons_succ,ownL_cons]
  exact ⟨v,vs'.set j v',F1,G1++(Fj'++G2),rfl,by simp,h1.keep fun k hk=>hk1 k (List.mem_append_left _ hk),h4 w' c' v' Fj' hc (fun k hk=>hk1 k (List.mem_append_right _ hk)) hk2⟩

theorem ownsRow_cell {w:World} {base e s n c m j:Nat} {A:Option Addr} {xs:List Value} (h:w.ownsRow base e s (.slice A n c) m xs) {v:Value} (hv:xs[j]?=some v) :
  ∃g cur,A=some ⟨g,0,none⟩∧n=m∧n≤c∧c≤maxLen∧w.heap[g]?=some (.cells cur e (0,0))∧cur.size=c * s∧cur.toList.take (m * s)=xs∧w.cell? ⟨g,j,none⟩=some v∧w.frozen? ⟨g,j,none⟩=false:=by
 have hj:j<xs.length:=(List.getElem?_eq_some_iff.1 hv).1
 rcases h.2 with ⟨_,h0⟩|⟨g,cap,cur,hA,_,hh,h1,h2,h3,h4⟩
 ·have:=h.1
  subst h0
  simp at this
  subst this
  simp at hj
 ·injection hA with hA hn hc
  subst hA hn hc
  refine ⟨g,cur,rfl,rfl,h1,h2,hh,h3,h4,?_,by unfold World.frozen?;rw [hh];simp⟩
  unfold World.cell?
  rw [hh]
  simp only [Option.isSome_none,Bool.false_eq_true,if_false]
  rw [←h4,List.getElem?_take] at hv
  split at hv
  ·simpa using hv
  ·cases hv

theorem set_same {α:Type} {xs:List α} {j:Nat} {x:α} (h:xs[j]?=some x):xs.set j x=xs:=by
 apply List.ext_getElem?
 intro i
 rw [List.getElem?_set]
 split
 ·rename_i e
  subst e
  split
  ·exact h.symm
  ·rename_i hj
   rw [List.getElem?_eq_none (by omega)]
 ·rfl
/-- A cell of a row that the call owns. -/
theorem OwnC.cell {w:World} {e s n cap j:Nat} {A:Option Addr} {cs:List Cel} {F:List Nat} (h:OwnC w (.row e s cs) (.slice A n cap) F) (hj:j<cs.length) :
  ∃g c v F1 Fj F2,A=some ⟨g,0,none⟩∧cs[j]?=some c∧w.cell? ⟨g,j,none⟩=some v∧w.frozen? ⟨g,j,none⟩=false∧F=g :: (F1++(Fj++F2))∧OwnC w c v Fj ∧
   (∀(w':World) (c':Cel),OwnC w' c' v Fj→w'.heap[g]?=w.heap[g]?→(∀k∈F1,w'.heap[k]?=w.heap[k]?)→(∀k∈F2,w'.heap[k]?=w.heap[k]?)→OwnC w' (.row e s (cs.set j c')) (.slice A n cap) F) ∧
   (∀(c':Cel) (v':Value) (Fj':List Nat),OwnC w c' v' Fj'→g∉F1→g∉Fj'→g∉F2→OwnC (w.setCell ⟨g,j,none⟩ v') (.row e s (cs.set j c')) (.slice A n cap) (g :: (F1++(Fj'++F2)))):=by
 rw [ownC_row] at h
 obtain ⟨A',n',cap',vs,F',hv,ho,rfl,hl⟩:=h
 injection hv with hA hn hc
 subst hA hn hc
 obtain ⟨c,v,F1,Fj,F2,e1,e2,rfl,h3,h4⟩:=hl.at_ hj
 obtain ⟨g,cur,rfl,hnm,hnc,hcm,hh,hsz,ht,hcell,hfz⟩:=ownsRow_cell ho e2
 refine ⟨g,c,v,F1,Fj,F2,rfl,e1,hcell,hfz,rfl,h3,fun w' c' hc hg hk1 hk2=>?_,fun c' v' Fj' hc hg1 hgj hg2=>?_⟩
 ·rw [ownC_row]
  refine ⟨_,n,cap,vs,_,rfl,ownsRow_block ho (by rintro a ⟨⟩;exact hg),rfl,?_⟩
  have:=h4 w' c' v Fj hc hk1 hk2
  rwa [show vs.set j v=vs from set_same e2] at this
 ·rw [ownC_row]
  have hne:∀{L:List Nat},g∉L→∀k∈L,(w.setCell ⟨g,j,none⟩ v').heap[k]?=w.heap[k]?:=fun hn k hk=>Below.heap_setCell _ _ _ _ (by rintro rfl;exact hn hk)
  refine ⟨_,n,cap,vs.set j v',F1++(Fj'++F2),rfl,⟨by rw [List.length_set];exact ho.1,.inr ⟨g,cap,cur.setIfInBounds j v',rfl,Nat.zero_le _,by simp [World.setCell,Array.getElem?_modify,hh],hnc,hcm,by simp [hsz],?_⟩⟩,rfl,
   h4 _ c' v' Fj' (hc.keep (hne hgj)) (hne hg1) (hne hg2)⟩
  simp only [Array.toList_setIfInBounds,List.take_set,ht]

/-- What the call owns, between two numbers of blocks, no two of its rows in one block. -/
def OwnT (lo hi:Nat) (w:World) (c:Cel) (v:Value):Prop:=∃F,OwnC w c v F∧F.Nodup∧∀k∈F,lo≤k∧k<hi
theorem OwnT.keep {lo hi:Nat} {w w':World} {c:Cel} {v:Value} (h:OwnT lo hi w c v) (hk:∀k,lo≤k→k<hi→k<w.heap.size→w'.heap[k]?=w.heap[k]?):OwnT lo hi w' c v:=by
 obtain ⟨F,h1,h2,h3⟩:=h
 exact ⟨F,h1.keep fun k hk'=>hk k (h3 k hk').1 (h3 k hk').2 (h1.lt k hk'),h2,h3⟩
theorem OwnT.below {lo hi:Nat} {w w':World} {c:Cel} {v:Value} (h:OwnT lo hi w c v) (hb:Below w.heap.size w w'):OwnT lo hi w' c v:=h.keep fun k _ _ hk=>hb.block k hk
theorem OwnT.widen {lo hi lo' hi':Nat} {w:World} {c:Cel} {v:Value} (h:OwnT lo hi w c v) (h1:lo'≤lo) (h2:hi≤hi'):OwnT lo' hi' w c v:=by
 obtain ⟨F,k1,k2,k3⟩:=h
 exact ⟨F,k1,k2,fun k hk=>by have:=k3 k hk;omega⟩
theorem OwnT.int {lo hi:Nat} {w:World} (x:Int):OwnT lo hi w (.int x) (.int .i64 x):=⟨[],ownC_int.2 ⟨rfl,rfl⟩,by simp,by simp⟩
/-- Several cells that the call owns. -/
def OwnsL (lo hi:Nat) (w:World) (cs:List Cel) (vs:List Value):Prop:=∃F,OwnL w cs vs F∧F.Nodup∧∀k∈F,lo≤k∧k<hi
theorem OwnsL.keep {lo hi:Nat} {w w':World} {cs:List Cel} {vs:List Value} (h:OwnsL lo hi w cs vs) (hk:∀k,lo≤k→k<hi→k<w.heap.size→w'.heap[k]?=w.heap[k]?):OwnsL lo hi w' cs vs:=by
 obtain ⟨F,h1,h2,h3⟩:=h
 exact ⟨F,h1.keep fun k hk'=>hk k (h3 k hk').1 (h3 k hk').2 (h1.lt k hk'),h2,h3⟩
theorem OwnsL.below {lo hi:Nat} {w w':World} {cs:List Cel} {vs:List Value} (h:OwnsL lo hi w cs vs) (hb:Below w.heap.size w w'):OwnsL lo hi w' cs vs:=h.keep fun k _ _ hk=>hb.block k hk
theorem OwnsL.nil {lo hi:Nat} {w:World}:OwnsL lo hi w [] []:=⟨[],ownL_nil.2 ⟨rfl,rfl⟩,by simp,by simp⟩
theorem OwnsL.widen {lo hi lo' hi':Nat} {w:World} {cs:List Cel} {vs:List Value} (h:OwnsL lo hi w cs vs) (h1:lo'≤lo) (h2:hi≤hi'):OwnsL lo' hi' w cs vs:=by
 obtain ⟨F,k1,k2,k3⟩:=h
 exact ⟨F,k1,k2,fun k hk=>by have:=k3 k hk;omega⟩
theorem OwnsL.snoc {lo mid mid' hi:Nat} {w:World} {cs:List Cel} {vs:List Value} {c:Cel} {v:Value} (h:OwnsL lo mid w cs vs) (k:OwnT mid' hi w c v) (h1:mid≤mid') (h2:lo≤mid') (h3:mid≤hi):OwnsL lo hi w (cs++[c]) (vs++[v]):=by
 obtain ⟨F,a1,a2,a3⟩:=h
 obtain ⟨G,b1,b2,b3⟩:=k
 refine ⟨F++(G++[]),a1.append (ownL_cons.2 ⟨v,[],G,[],rfl,rfl,b1,ownL_nil.2 ⟨rfl,rfl⟩⟩),?_,fun k hk=>?_⟩
 ·rw [List.append_nil,List.nodup_append]
  exact ⟨a2,b2,fun x hx y hy=>by have:=a3 x hx;have:=b3 y hy;omega⟩
 ·rw [List.append_nil,List.mem_append] at hk
  rcases hk with hk|hk
  ·have:=a3 k hk;omega
  ·have:=b3 k hk;omega
/-- A cell of a row that the call owns: what it holds, a store of an integer, a change behind it. -/
theorem OwnT.cell {lo hi:Nat} {w:World} {e s n cap j:Nat} {A:Option Addr} {cs:List Cel} (h:OwnT lo hi w (.row e s cs) (.slice A n cap)) (hj:j<cs.length) :
  ∃g c v,A=some ⟨g,0,none⟩∧lo≤g∧g<hi∧g<w.heap.size∧cs[j]?=some c∧w.cell? ⟨g,j,none⟩=some v∧w.frozen? ⟨g,j,none⟩=false ∧
   (∃Fj,OwnC w c v Fj∧Fj.Nodup∧g∉Fj∧(∀k∈Fj,lo≤k∧k<hi) ∧
    (∀(w':World) (c':Cel),OwnC w' c' v Fj→(∀k,lo≤k→k<hi→k<w.heap.size→k∉Fj→w'.heap[k]?=w.heap[k]?)→OwnT lo hi w' (.row e s (cs.set j c')) (.slice A n cap))) ∧
   (∀(c':Cel) (v':Value) (lo' hi':Nat),OwnT lo' hi' w c' v'→hi≤lo'∨(∃x,c' = .int x)→lo≤lo'→hi≤hi'→OwnT lo hi' (w.setCell ⟨g,j,none⟩ v') (.row e s (cs.set j c')) (.slice A n cap)):=by
 obtain ⟨F,h1,h2,h3⟩:=h
 obtain ⟨g,c,v,F1,Fj,F2,rfl,e1,hc,hf,rfl,h4,h5,h6⟩:=h1.cell hj
 have hg:=h3 g (by simp)
 rw [List.nodup_cons] at h2
 obtain ⟨hgn,hnd⟩:=h2
 simp only [List.mem_append,not_or] at hgn
 have hnd':=hnd
 rw [List.nodup_append,List.nodup_append] at hnd
 obtain ⟨n1,⟨n2,n3,n4⟩,n5⟩:=hnd
 refine ⟨g,c,v,rfl,hg.1,hg.2,h1.lt g (by simp),e1,hc,hf,⟨Fj,h4,n2,hgn.2.1,fun k hk=>h3 k (by simp [hk]),fun w' c' hc' hk=>?_⟩,fun c' v' lo' hi' ho hsep hlo hhi=>?_⟩
 ·refine ⟨_,h5 w' c' hc' (hk g hg.1 hg.2 (h1.lt g (by simp)) hgn.2.1) (fun k hk1=>?_) (fun k hk2=>?_),?_,h3⟩
  ·have hm:k∈g :: (F1++(Fj++F2)):=by simp [hk1]
   exact hk k (h3 k hm).1 (h3 k hm).2 (h1.lt k hm) fun hj'=>n5 k hk1 k (by simp [hj']) rfl
  ·have hm:k∈g :: (F1++(Fj++F2)):=by simp [hk2]
   exact hk k (h3 k hm).1 (h3 k hm).2 (h1.lt k hm) fun hj'=>n4 k hj' k hk2 rfl
  ·rw [List.nodup_cons]
   exact ⟨by simp only [List.mem_append,not_or];exact hgn,hnd'⟩
 ·obtain ⟨G,g1,g2,g3⟩:=ho
  have hsep':∀x∈g :: (F1++(Fj++F2)),x∉G:=by
   intro x hx hxG
   rcases hsep with hs|⟨y,rfl⟩
   ·have:=h3 x hx
    have:=g3 x hxG
    omega
   ·rw [ownC_int] at g1
    rw [g1.2] at hxG
    simp at hxG
  refine ⟨_,h6 c' v' G g1 hgn.1 (hsep' g (by simp)) hgn.2.2,?_,fun k hk=>?_⟩
  ·rw [List.nodup_cons,List.nodup_append,List.nodup_append]
   refine ⟨by simp only [List.mem_append,not_or];exact ⟨hgn.1,hsep' g (by simp),hgn.2.2⟩,n1,⟨g2,n3,fun x hx y hy=>?_⟩,fun x hx y hy=>?_⟩
   ·rintro rfl
    exact hsep' x (by simp [hy]) hx
   ·rintro rfl
    rcases List.mem_append.1 hy with hy|hy
    ·exact hsep' x (by simp [hx]) hy
    ·exact n5 x hx x (by simp [hy]) rfl
  ·simp only [List.mem_cons,List.mem_append] at hk
   rcases hk with rfl|hk|hk|hk
   ·omega
   ·have:=h3 k (by simp [hk]);omega
   ·have:=g3 k hk;omega
   ·have:=h3 k (by simp [hk]);omega

/-! ### reading -/
mutual
def RdC (w:World) (B:Nat):Cel→Value→Prop
 | .int x,v=>v = .int .i64 x
 | .row _ s cs,v=>∃A n cap,v = .slice A n cap∧cs.length=n * s∧(cs=[]∨∃b o vs,A=some ⟨b,o,none⟩∧b<B∧(∀(j:Nat) (u:Value),vs[j]?=some u→w.cell? ⟨b,o+j,none⟩=some u)∧RdL w B cs vs)
def RdL (w:World) (B:Nat):List Cel→List Value→Prop
 | [],vs=>vs=[]
 | c :: cs,vs=>∃v vs',vs=v :: vs'∧RdC w B c v∧RdL w B cs vs'
end
theorem rdC_int {w:World} {B:Nat} {x:Int} {v:Value}:RdC w B (.int x) v↔v = .int .i64 x:=by rw [RdC]
theorem rdC_row {w:World} {B e s:Nat} {cs:List Cel} {v:Value}:RdC w B (.row e s cs) v↔∃A n cap,v = .slice A n cap∧cs.length=n * s∧(cs=[]∨∃b o vs,A=some ⟨b,o,none⟩∧b<B∧(∀(j:Nat) (u:Value),vs[j]?=some u→w.cell? ⟨b,o+j,none⟩=some u)∧RdL w B cs vs):=by rw [RdC]
theorem rdL_nil {w:World} {B:Nat} {vs:List Value}:RdL w B [] vs↔vs=[]:=by rw [RdL]
theorem rdL_cons {w:World} {B:Nat} {c:Cel} {cs:List Cel} {vs:List Value}:RdL w B (c :: cs) vs↔∃v vs',vs=v :: vs'∧RdC w B c v∧RdL w B cs vs':=by rw [RdL]
mutual
theorem RdC.keep {w w':World} {B B':Nat} (hB:B≤B') (hk:∀k,k<B→w'.heap[k]?=w.heap[k]?):∀{c:Cel} {v:Value},RdC w B c v→RdC w' B' c v
 | .int x,v,h=>by rw [rdC_int] at h ⊢;exact h
 | .row e s cs,v,h=>by
  rw [rdC_row] at h ⊢
  obtain ⟨A,n,cap,rfl,hl,h⟩:=h
  refine ⟨A,n,cap,rfl,hl,?_⟩
  rcases h with h|⟨b,o,vs,rfl,hb,hc,hr⟩
  ·exact .inl h
  ·exact .inr ⟨b,o,vs,rfl,Nat.lt_of_lt_of_le hb hB,fun j u hu=>(World.cell?_of_block (a:=⟨b,o+j,none⟩) (hk b hb)).trans (hc j u hu),RdL.keep hB hk hr⟩
theorem RdL.keep {w w':World} {B B':Nat} (hB:B≤B') (hk:∀k,k<B→w'.heap[k]?=w.heap[k]?):∀{cs:List Cel} {vs:List Value},RdL w B cs vs→RdL w' B' cs vs
 | [],vs,h=>by rw [rdL_nil] at h ⊢;exact h
 | c :: cs,vs,h=>by
  rw [rdL_cons] at h ⊢
  obtain ⟨v,vs',rfl,h1,h2⟩:=h
  exact ⟨v,vs',rfl,RdC.keep hB hk h1,RdL.keep hB hk h2⟩
end
theorem RdC.below {w w':World} {c:Cel} {v:Value} (h:RdC w w.heap.size c v) (hb:Below w.heap.size w w'):RdC w' w'.heap.size c v:=h.keep hb.size hb.block
theorem RdL.at_ {w:World} {B:Nat}:∀{cs:List Cel} {vs:List Value},RdL w B cs vs→∀{j:Nat},j<cs.length→∃c v,cs[j]?=some c∧vs[j]?=some v∧RdC w B c v
 | [],vs,h,j,hj=>by simp at hj
 | c :: cs,vs,h,0,hj=>by
  rw [rdL_cons] at h
  obtain ⟨v,vs',rfl,h1,h2⟩:=h
  exact ⟨c,v,rfl,rfl,h1⟩
 | c :: cs,vs,h,j+1,hj=>by
  rw [rdL_cons] at h
  obtain ⟨v,vs',rfl,h1,h2⟩:=h
  obtain ⟨c0,v0,e1,e2,h3⟩:=RdL.at_ h2 (j:=j) (by simpa using hj)
  exact ⟨c0,v0,by simpa using e1,by simpa using e2,h3⟩
theorem RdC.len {w:World} {B e s n cap:Nat} {A:Option Addr} {cs:List Cel} (h:RdC w B (.row e s cs) (.slice A n cap)):cs.length=n * s:=by
 rw [rdC_row] at h
 obtain ⟨A',n',cap',hv,hl,_⟩:=h
 injection hv with _ hn _
 subst hn
 exact hl
theorem RdC.cell {w:World} {B e s n cap:Nat} {A:Option Addr} {cs:List Cel} (h:RdC w B (.row e s cs) (.slice A n cap)) (h0:0<cs.length) :
  ∃b o,A=some ⟨b,o,none⟩∧b<B∧∀j,j<cs.length→∃c v,cs[j]?=some c∧w.cell? ⟨b,o+j,none⟩=some v∧RdC w B c v:=by
 rw [rdC_row] at h
 obtain ⟨A',n',cap',hv,hl,h⟩:=h
 injection hv with hA _ _
 subst hA
 rcases h with rfl|⟨b,o,vs,rfl,hb,hc,hr⟩
 ·simp at h0
 ·refine ⟨b,o,rfl,hb,fun j hj=>?_⟩
  obtain ⟨c,v,e1,e2,h3⟩:=hr.at_ hj
  exact ⟨c,v,e1,hc j v e2,h3⟩
mutual
theorem OwnC.rd {w:World}:∀{c:Cel} {v:Value} {F:List Nat},OwnC w c v F→RdC w w.heap.size c v
 | .int x,v,F,h=>by rw [ownC_int] at h;rw [rdC_int];exact h.1
 | .row e s cs,v,F,h=>by
  rw [ownC_row] at h
  obtain ⟨A,n,cap,vs,F',rfl,ho,rfl,hl⟩:=h
  rw [rdC_row]
  refine ⟨A,n,cap,rfl,by rw [←hl.len];exact ho.1,?_⟩
  rcases Nat.eq_zero_or_pos cs.length with h0|h0
  ·exact .inl (List.eq_nil_of_length_eq_zero h0)
  ·right
   have hlen:=hl.len
   have hv0:vs[0]?=some (vs[0]'(by omega)):=List.getElem?_eq_getElem (by omega)
   obtain ⟨g,cur,rfl,_⟩:=ownsRow_cell ho hv0
   refine ⟨g,0,vs,rfl,(ownsRow_lt' ho g (by simp [blk])).2,fun j u hu=>?_,OwnL.rd hl⟩
   obtain ⟨g',cur',hA,_,_,_,_,_,_,hc,_⟩:=ownsRow_cell ho hu
   injection hA with hA
   injection hA with hA
   subst hA
   rw [Nat.zero_add]
   exact hc
theorem OwnL.rd {w:World}:∀{cs:List Cel} {vs:List Value} {F:List Nat},OwnL w cs vs F→RdL w w.heap.size cs vs
 | [],vs,F,h=>by rw [ownL_nil] at h;rw [rdL_nil];exact h.1
 | c :: cs,vs,F,h=>by
  rw [ownL_cons] at h
  obtain ⟨v,vs',F1,F2,rfl,rfl,h1,h2⟩:=h
  rw [rdL_cons]
  exact ⟨v,vs',rfl,OwnC.rd h1,OwnL.rd h2⟩
end
theorem OwnT.rd {lo hi:Nat} {w:World} {c:Cel} {v:Value} (h:OwnT lo hi w c v):RdC w w.heap.size c v:=by
 obtain ⟨F,h1,_⟩:=h
 exact h1.rd

/-! ### rows of integers -/
def celI (xs:List Int):Cel := .row 3 1 (xs.map .int)
theorem ownL_ints {w:World}:∀{xs:List Int} {vs:List Value} {F:List Nat},OwnL w (xs.map .int) vs F↔vs=xs.map (Value.int .i64)∧F=[]
 | [],vs,F=>by simp [ownL_nil]
 | x :: xs,vs,F=>by
  rw [List.map_cons,ownL_cons]
  constructor
  ·rintro ⟨v,vs',F1,F2,rfl,rfl,h1,h2⟩
   rw [ownC_int] at h1
   rw [ownL_ints] at h2
   simp [h1,h2]
  ·rintro ⟨rfl,rfl⟩
   exact ⟨_,_,[],[],rfl,rfl,ownC_int.2 ⟨rfl,rfl⟩,ownL_ints.2 ⟨rfl,rfl⟩⟩
theorem ownC_ints {w:World} {A:Option Addr} {n c:Nat} {xs:List Int} {F:List Nat}:OwnC w (celI xs) (.slice A n c) F↔Own 0 w A n c xs∧F=blk A:=by
 unfold celI
 rw [ownC_row]
 constructor
 ·rintro ⟨A',n',c',vs,F',hv,ho,rfl,hl⟩
  injection hv with hA hn hc
  subst hA hn hc
  rw [ownL_ints] at hl
  obtain ⟨rfl,rfl⟩:=hl
  exact ⟨ho,by simp⟩
 ·rintro ⟨ho,rfl⟩
  exact ⟨A,n,c,_,[],rfl,ho,by simp,ownL_ints.2 ⟨rfl,rfl⟩⟩
theorem Own.at0 {w:World} {base:Nat} {A:Option Addr} {n c:Nat} {xs:List Int} (h:Own 0 w A n c xs) (hb:∀k∈blk A,base≤k):Own base w A n c xs:=by
 refine ⟨h.1,?_⟩
 rcases h.2 with h0|⟨g,cap,cur,hv,_,r⟩
 ·exact .inl h0
 ·refine .inr ⟨g,cap,cur,hv,?_,r⟩
  injection hv with hA
  exact hb g (by simp [blk,hA])
theorem Own.tree {w:World} {base hi:Nat} {A:Option Addr} {n c:Nat} {xs:List Int} (h:Own base w A n c xs) (hh:w.heap.size≤hi):OwnT base hi w (celI xs) (.slice A n c):=by
 refine ⟨blk A,ownC_ints.2 ⟨h.more (Nat.zero_le _),rfl⟩,by cases A <;> simp [blk],fun k hk=>?_⟩
 obtain ⟨a,rfl,rfl⟩:=mem_blk.1 hk
 have:=h.lt a rfl
 omega
theorem OwnT.ints {w:World} {lo hi:Nat} {A:Option Addr} {n c:Nat} {xs:List Int} (h:OwnT lo hi w (celI xs) (.slice A n c)):Own lo w A n c xs∧∀a,A=some a→a.block<hi:=by
 obtain ⟨F,h1,_,h3⟩:=h
 rw [ownC_ints] at h1
 obtain ⟨h1,rfl⟩:=h1
 exact ⟨h1.at0 fun k hk=>(h3 k hk).1,fun a ha=>(h3 _ (mem_blk.2 ⟨a,ha,rfl⟩)).2⟩
theorem rdL_ints {w:World} {B:Nat}:∀{xs:List Int} {vs:List Value},RdL w B (xs.map .int) vs↔vs=xs.map (Value.int .i64)
 | [],vs=>by simp [rdL_nil]
 | x :: xs,vs=>by
  rw [List.map_cons,rdL_cons]
  constructor
  ·rintro ⟨v,vs',rfl,h1,h2⟩
   rw [rdC_int] at h1
   rw [rdL_ints] at h2
   simp [h1,h2]
  ·rintro rfl
   exact ⟨_,_,rfl,rdC_int.2 rfl,rdL_ints.2 rfl⟩
theorem RdC.ints {w:World} {A:Option Addr} {n c:Nat} {xs:List Int} (h:RdC w w.heap.size (celI xs) (.slice A n c)):Ints w A n xs:=by
 unfold celI at h
 rw [rdC_row] at h
 obtain ⟨A',n',c',hv,hl,h⟩:=h
 injection hv with hA hn hc
 subst hA hn hc
 refine ⟨by simpa using hl,fun hn=>?_⟩
 rcases h with h|⟨b,o,vs,rfl,hb,hc,hr⟩
 ·rw [h] at hl
  simp at hl
  omega
 ·rw [rdL_ints] at hr
  subst hr
  refine ⟨b,o,rfl,hb,fun j hj=>hc j _ ?_⟩
  have:j<xs.length:=by simp at hl;omega
  simp [this]
theorem Ints.tree {w:World} {A:Option Addr} {n:Nat} {xs:List Int} (h:Ints w A n xs) (c:Nat):RdC w w.heap.size (celI xs) (.slice A n c):=by
 unfold celI
 rw [rdC_row]
 refine ⟨A,n,c,rfl,by simp [h.1],?_⟩
 rcases Nat.eq_zero_or_pos n with h0|h0
 ·exact .inl (by have:=h.1;simp;exact List.eq_nil_of_length_eq_zero (by omega))
 ·obtain ⟨b,o,rfl,hb,hc⟩:=h.2 h0
  refine .inr ⟨b,o,_,rfl,hb,fun j u hu=>?_,rdL_ints.2 rfl⟩
  have hj:j<xs.length:=by simpa using (List.getElem?_eq_some_iff.1 hu).1
  rw [hc j (by rw [←h.1];exact hj)]
  simp [hj] at hu
  simp [hj,hu]

/-! ### counting and marking -/
mutual
def cntC:Cel→Nat
 | .int _=>1
 | .row _ _ cs=>cntL cs
def cntL:List Cel→Nat
 | []=>0
 | c :: cs=>cntC c+cntL cs
end
mutual
def mkC (k:Int):Cel→Cel
 | .int _ => .int k
 | .row e s cs => .row e s (mkL k cs)
def mkL (k:Int):List Cel→List Cel
 | []=>[]
 | c :: cs=>mkC k c :: mkL (k+cntC c) cs
end
theorem mkL_length (k:Int) (cs:List Cel):(mkL k cs).length=cs.length:=by
 induction cs generalizing k with
 | nil=>rw [mkL]
 | cons c cs ih=>rw [mkL];simp [ih]
theorem cntL_append (cs ds:List Cel):cntL (cs++ds)=cntL cs+cntL ds:=by
 induction cs with
 | nil=>simp [cntL]
 | cons c cs ih=>simp [cntL,ih,Nat.add_assoc]
theorem mkL_append (k:Int) (cs ds:List Cel):mkL k (cs++ds)=mkL k cs++mkL (k+cntL cs) ds:=by
 induction cs generalizing k with
 | nil=>simp [cntL,mkL]
 | cons c cs ih=>simp [mkL,ih,cntL,Int.add_assoc]
def mkP (k:Int) (cs:List Cel) (j:Nat):List Cel:=mkL k (cs.take j)++cs.drop j
theorem mkP_zero (k:Int) (cs:List Cel):mkP k cs 0=cs:=by simp [mkP,mkL]
theorem mkP_full (k:Int) (cs:List Cel) {j:Nat} (h:cs.length≤j):mkP k cs j=mkL k cs:=by simp [mkP,List.take_of_length_le h,List.drop_of_length_le h]
theorem mkP_get {k:Int} {cs:List Cel} {j:Nat} {c:Cel} (h:cs[j]?=some c):(mkP k cs j)[j]?=some c:=by
 have hj:=(List.getElem?_eq_some_iff.1 h).1
 have hl:(mkL k (cs.take j)).length=j:=by rw [mkL_length];simp;omega
 rw [mkP,List.getElem?_append_right (by omega),hl,Nat.sub_self,List.getElem?_drop]
 exact h
theorem mkP_set {k:Int} {cs:List Cel} {j:Nat} {c:Cel} (h:cs[j]?=some c):(mkP k cs j).set j (mkC (k+cntL (cs.take j)) c)=mkP k cs (j+1):=by
 have hj:=(List.getElem?_eq_some_iff.1 h).1
 have hg:=(List.getElem?_eq_some_iff.1 h).2
 have hl:(mkL k (cs.take j)).length=j:=by rw [mkL_length];simp;omega
 rw [mkP,List.set_append,if_neg (by omega),hl,Nat.sub_self,List.drop_eq_getElem_cons hj,List.set_cons_zero,mkP,List.take_succ_eq_append_getElem hj,mkL_append,hg]
 simp [mkL]
theorem cntL_succ {cs:List Cel} {j:Nat} {c:Cel} (h:cs[j]?=some c):cntL (cs.take (j+1))=cntL (cs.take j)+cntC c:=by
 have hj:=(List.getElem?_eq_some_iff.1 h).1
 rw [List.take_succ_eq_append_getElem hj,cntL_append,(List.getElem?_eq_some_iff.1 h).2]
 simp [cntL]
theorem cntL_take_le (cs:List Cel) (j:Nat):cntL (cs.take j)≤cntL cs:=by
 have:=cntL_append (cs.take j) (cs.drop j)
 rw [List.take_append_drop] at this
 omega
theorem cnt_ints (xs:List Int):cntL (xs.map .int)=xs.length:=by
 induction xs with
 | nil=>rfl
 | cons x xs ih=>simp [cntL,cntC,ih];omega
theorem mk_ints (k:Int) (xs:List Int):mkL k (xs.map .int)=(iota k xs.length).map .int:=by
 induction xs generalizing k with
 | nil=>simp [mkL,iota]
 | cons x xs ih =>
  simp only [List.map_cons,mkL,mkC,ih,cntC,List.length_cons,iota,List.range_succ_eq_map]
  simp [Function.comp_def]
  intros
  omega
end Go.Proofs.YtlinbdkbbhpdpaaGreat

namespace Go.Proofs.YtlinbdkbbhpdpaaGreat.Cw

def Lin (f:Nat→Nat):Prop:=∀a b,f (a ^^^ b)=f a ^^^ f b
theorem Lin.bit (i c:Nat):Lin fun x=>if x.testBit i then c else 0:=by
 intro a b
 simp only [Nat.testBit_xor]
 cases a.testBit i <;> cases b.testBit i <;> simp
theorem xor_swap (p q r s:Nat):p ^^^ q ^^^ (r ^^^ s)=p ^^^ r ^^^ (q ^^^ s):=by
 rw [Nat.xor_assoc,←Nat.xor_assoc q r s,Nat.xor_comm q r,Nat.xor_assoc r q s,←Nat.xor_assoc]
theorem Lin.xor {f g:Nat→Nat} (hf:Lin f) (hg:Lin g):Lin fun x=>f x ^^^ g x:=by
 intro a b
 simp only [hf a b,hg a b]
 exact xor_swap _ _ _ _
theorem Lin.zero {f:Nat→Nat} (hf:Lin f):f 0=0:=by
 have:=hf 0 0
 simpa using this
end Go.Proofs.YtlinbdkbbhpdpaaGreat.Cw

namespace Go.Proofs.YtlinbdkbbhpdpaaGreat
set_option maxRecDepth 100000
open Cw

structure Le where
 sel:List Int
 mask:Int
 flop:Int
 init:Int
structure Tile where
 mux:List Int
 les:List Le
 pad:Int
 ram:Int
def Le.zero:Le:=⟨[],0,0,0⟩
def Tile.zero:Tile:=⟨[],[],0,0⟩
def Le.cells (e:Le):List Cel:=[celI e.sel,.int e.mask,.int e.flop,.int e.init]
def celE (es:List Le):Cel := .row 71 4 (es.flatMap Le.cells)
def Tile.cells (t:Tile):List Cel:=[celI t.mux,celE t.les,.int t.pad,.int t.ram]
def celT (ts:List Tile):Cel := .row 67 4 (ts.flatMap Tile.cells)

/-! ### reading -/
/-! ### writing -/
def putB (n:Nat) (x:Int):List Nat:=(List.range n).map fun i=>bit x.toNat i
def Le.bits (e:Le):List Nat:=e.sel.flatMap (putB 3)++(putB 16 e.mask++(putB 1 e.flop++putB 1 e.init))
def Tile.bits (t:Tile):List Nat:=t.mux.flatMap (putB 5)++(t.les.flatMap Le.bits++(putB 2 t.pad++putB 5 t.ram))
theorem flat_length {α β:Type} {f:α→List β} {L:Nat} (hf:∀x,(f x).length=L) (xs:List α):(xs.flatMap f).length=L * xs.length:=by
 induction xs with
 | nil=>simp
 | cons x xs ih=>simp [ih,hf,Nat.mul_add,Nat.add_comm]
theorem flat_get {α β:Type} {f:α→List β} {L:Nat} (hf:∀x,(f x).length=L):∀{xs:List α} {i k:Nat} {x:α},xs[i]?=some x→k<L→(xs.flatMap f)[L * i+k]?=(f x)[k]?
 | [],i,k,x,h,hk=>by simp at h
 | y :: ys,0,k,x,h,hk=>by
  simp at h
  subst h
  rw [List.flatMap_cons,Nat.mul_zero,Nat.zero_add,List.getElem?_append_left (by rw [hf];exact hk)]
 | y :: ys,i+1,k,x,h,hk=>by
  rw [List.flatMap_cons,List.getElem?_append_right (by rw [hf,Nat.mul_add];omega),hf,show L * (i+1)+k - L=L * i+k by rw [Nat.mul_add];omega]
  exact flat_get hf (by simpa using h) hk
/-! ### which tiles are valid -/
end Go.Proofs.YtlinbdkbbhpdpaaGreat
