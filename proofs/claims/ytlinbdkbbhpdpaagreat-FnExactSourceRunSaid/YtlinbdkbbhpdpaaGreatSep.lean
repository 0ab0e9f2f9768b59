/- append of one element of several cells to a row that the call owns. What a call owns, in several pieces no two of which share a block: lists of rows that the call owns, changing one of them, appending to one of them, changing a slice inside of one. Plain lemmas, and the law of append over such pieces. -/
import Derived.Test.YtlinbdkbbhpdpaaGreatCopy
import Derived.Test.YtlinbdkbbhpdpaaGreatOwn
import Derived.Test.YtlinbdkbbhpdpaaGreatTilePure
namespace Go.Proofs.YtlinbdkbbhpdpaaGreat
set_option maxRecDepth 100000
open Go.RowKit

theorem ownT_new {w:World} (e s:Nat) {g:Nat} (hg:w.heap.size=g):OwnT g (g+1) (w.alloc (.cells #[] e)) (.row e s []) (.slice (some ⟨g,0,none⟩) 0 0):=by
 subst hg
 refine ⟨[w.heap.size],?_,by simp,by simp⟩
 rw [ownC_row]
 exact ⟨_,0,0,[],[],rfl,⟨by simp,.inr ⟨w.heap.size,0,#[],rfl,Nat.zero_le _,heap_new _ _,Nat.le_refl _,Nat.zero_le _,by simp,by simp⟩⟩,by simp [blk],ownL_nil.2 ⟨rfl,rfl⟩⟩
end Go.Proofs.YtlinbdkbbhpdpaaGreat

namespace Go.Proofs.YtlinbdkbbhpdpaaGreat
set_option maxRecDepth 100000
open Go.RowKit

/-- One of several cells: what becomes of all of them when it changes. -/
theorem OwnsL.part {lo hi:Nat} {w:World} {cs:List Cel} {vs:List Value} {j:Nat} {c:Cel} {v:Value} (h:OwnsL lo hi w cs vs) (hc:cs[j]?=some c) (hv:vs[j]?=some v) :
  ∃Fj,OwnC w c v Fj∧Fj.Nodup∧(∀k∈Fj,lo≤k∧k<hi) ∧
   ∀(w':World) (c':Cel) (v':Value) (Fj':List Nat) (hi':Nat),OwnC w' c' v' Fj'→Fj'.Nodup→(∀k∈Fj',k∈Fj∨(hi≤k∧lo≤k∧k<hi'))→hi≤hi'→Only Fj w w'→OwnsL lo hi' w' (cs.set j c') (vs.set j v'):=by
 obtain ⟨F,h1,h2,h3⟩:=h
 have hj:j<cs.length:=(List.getElem?_eq_some_iff.1 hc).1
 have hlt:=h1.lt
 obtain ⟨c0,v0,F1,Fj,F2,e1,e2,rfl,h4,h5⟩:=h1.at_ hj
 rw [hc] at e1
 rw [hv] at e2
 injection e1 with e1
 injection e2 with e2
 subst e1 e2
 rw [List.nodup_append,List.nodup_append] at h2
 obtain ⟨n1,⟨n2,n3,n4⟩,n5⟩:=h2
 refine ⟨Fj,h4,n2,fun k hk=>h3 k (by simp [hk]),fun w' c' v' Fj' hi' hc' hn hsub hh ho=>⟨F1++(Fj'++F2),h5 w' c' v' Fj' hc' ?_ ?_,?_,?_⟩⟩
 ·exact fun k hk=>ho.block k (hlt k (by simp [hk])) fun hm=>n5 k hk k (by simp [hm]) rfl
 ·exact fun k hk=>ho.block k (hlt k (by simp [hk])) fun hm=>n4 k hm k hk rfl
 ·rw [List.nodup_append,List.nodup_append]
  refine ⟨n1,⟨hn,n3,fun a ha b hb e=>?_⟩,fun a ha b hb e=>?_⟩
  ·subst e
   rcases hsub a ha with hm|hm
   ·exact n4 a hm a hb rfl
   ·have:=h3 a (by simp [hb]);omega
  ·subst e
   rcases List.mem_append.1 hb with hb|hb
   ·rcases hsub a hb with hm|hm
    ·exact n5 a ha a (by simp [hm]) rfl
    ·have:=h3 a (by simp [ha]);omega
   ·exact n5 a ha a (by simp [hb]) rfl
 ·intro k hk
  simp only [List.mem_append] at hk
  rcases hk with hk|hk|hk
  ·have:=h3 k (by simp [hk]);omega
  ·rcases hsub k hk with hm|hm
   ·have:=h3 k (by simp [hm]);omega
   ·omega
  ·have:=h3 k (by simp [hk]);omega

/-! ### pieces -/
/-- A piece of what a call owns: nested memory behind a value or behind several, or one block of which something is known. -/
inductive Pc where
 | cel (c:Cel) (v:Value)
 | cels (cs:List Cel) (vs:List Value)
 | own (g:Nat) (P:World→Prop)
/-- A block of cells, known whole. -/
abbrev Pc.blk (g:Nat) (cs:Array Value) (t:TypeId):Pc := .own g fun w=>w.heap[g]?=some (.cells cs t (0,0))
def PcAt (w:World):Pc→List Nat→Prop
 | .cel c v,F=>OwnC w c v F
 | .cels cs vs,F=>OwnL w cs vs F
 | .own g P,F=>F=[g]∧g<w.heap.size∧P w∧∀w1 w2:World,w2.heap[g]?=w1.heap[g]?→P w1→P w2
theorem PcAt.keep {w w':World} {p:Pc} {F:List Nat} (h:PcAt w p F) (hz:w.heap.size≤w'.heap.size) (hk:∀k∈F,w'.heap[k]?=w.heap[k]?):PcAt w' p F:=by
 cases p with
 | cel c v=>exact OwnC.keep h hk
 | cels cs vs=>exact OwnL.keep h hk
 | own g P =>
  obtain ⟨rfl,h1,h2,h3⟩:=h
  exact ⟨rfl,Nat.lt_of_lt_of_le h1 hz,h3 w w' (hk g (by simp)) h2,h3⟩
theorem PcAt.lt {w:World} {p:Pc} {F:List Nat} (h:PcAt w p F):∀k∈F,k<w.heap.size:=by
 cases p with
 | cel c v=>exact OwnC.lt h
 | cels cs vs=>exact OwnL.lt h
 | own g P =>
  obtain ⟨rfl,h1,_⟩:=h
  intro k hk
  rw [List.mem_singleton] at hk
  exact hk ▸ h1
def PcsAt (w:World):List Pc→List Nat→Prop
 | [],F=>F=[]
 | p :: ps,F=>∃F1 F2,F=F1++F2∧PcAt w p F1∧PcsAt w ps F2
theorem PcsAt.keep {w w':World}:∀{ps:List Pc} {F:List Nat},PcsAt w ps F→w.heap.size≤w'.heap.size→(∀k∈F,w'.heap[k]?=w.heap[k]?)→PcsAt w' ps F
 | [],_,h,_,_=>h
 | p :: ps,F,h,hz,hk=>by
  obtain ⟨F1,F2,rfl,h1,h2⟩:=h
  exact ⟨F1,F2,rfl,h1.keep hz fun k hk'=>hk k (List.mem_append_left _ hk'),PcsAt.keep h2 hz fun k hk'=>hk k (List.mem_append_right _ hk')⟩
theorem PcsAt.lt {w:World}:∀{ps:List Pc} {F:List Nat},PcsAt w ps F→∀k∈F,k<w.heap.size
 | [],F,h=>by rw [show F=[] from h];simp
 | p :: ps,F,h=>by
  obtain ⟨F1,F2,rfl,h1,h2⟩:=h
  intro k hk
  rcases List.mem_append.1 hk with hk|hk
  ·exact h1.lt k hk
  ·exact PcsAt.lt h2 k hk
theorem PcsAt.append {w:World}:∀{ps qs:List Pc} {F G:List Nat},PcsAt w ps F→PcsAt w qs G→PcsAt w (ps++qs) (F++G)
 | [],qs,F,G,h,k=>by rw [show F=[] from h];exact k
 | p :: ps,qs,F,G,h,k=>by
  obtain ⟨F1,F2,rfl,h1,h2⟩:=h
  exact ⟨F1,F2++G,List.append_assoc _ _ _,h1,PcsAt.append h2 k⟩
/-- One of several pieces: its blocks, and what becomes of all of them when it changes. -/
theorem PcsAt.at_ {w:World}:∀{ps:List Pc} {F:List Nat},PcsAt w ps F→∀{j:Nat} {p:Pc},ps[j]?=some p →
  ∃F1 Fj F2,F=F1++(Fj++F2)∧PcAt w p Fj ∧
   ∀(w':World) (p':Pc) (Fj':List Nat),PcAt w' p' Fj'→w.heap.size≤w'.heap.size→(∀k∈F1,w'.heap[k]?=w.heap[k]?)→(∀k∈F2,w'.heap[k]?=w.heap[k]?)→PcsAt w' (ps.set j p') (F1++(Fj'++F2))
 | [],F,h,j,p,hj=>by simp at hj
 | q :: ps,F,h,0,p,hj=>by
  obtain ⟨F1,F2,rfl,h1,h2⟩:=h
  simp only [List.getElem?_cons_zero,Option.some.injEq] at hj
  subst hj
  refine ⟨[],F1,F2,rfl,h1,fun w' p' Fj' hp hz _ hk=>?_⟩
  rw [List.set_cons_zero,List.nil_append]
  exact ⟨Fj',F2,rfl,hp,h2.keep hz hk⟩
 | q :: ps,F,h,j+1,p,hj=>by
  obtain ⟨F1,F2,rfl,h1,h2⟩:=h
  rw [List.getElem?_cons_succ] at hj
  obtain ⟨G1,Gj,G2,rfl,h3,h4⟩:=PcsAt.at_ h2 hj
  refine ⟨F1++G1,Gj,G2,by simp,h3,fun w' p' Fj' hp hz hk1 hk2=>?_⟩
  rw [List.set_cons_succ]
  exact ⟨F1,G1++(Fj'++G2),by simp,h1.keep hz fun k hk=>hk1 k (List.mem_append_left _ hk),h4 w' p' Fj' hp hz (fun k hk=>hk1 k (List.mem_append_right _ hk)) hk2⟩
/-- From the world W on only new memory was made and written; the pieces ps of it are owned, no two in one block. -/
def Sepa (W w:World) (ps:List Pc):Prop:=Below W.heap.size W w∧∃F,PcsAt w ps F∧F.Nodup∧∀k∈F,W.heap.size≤k
theorem Sepa.bel {W w:World} {ps:List Pc} (h:Sepa W w ps):Below W.heap.size W w:=h.1
theorem Sepa.size {W w:World} {ps:List Pc} (h:Sepa W w ps):W.heap.size≤w.heap.size:=h.1.size
theorem Sepa.refl (W:World):Sepa W W []:=⟨Below.refl _ _,[],rfl,by simp,by simp⟩
theorem Sepa.nil {W w:World} (h:Below W.heap.size W w):Sepa W w []:=⟨h,[],rfl,by simp,by simp⟩
theorem Sepa.below {W w w':World} {ps:List Pc} (h:Sepa W w ps) (hb:Below w.heap.size w w'):Sepa W w' ps:=by
 obtain ⟨h1,F,h2,h3,h4⟩:=h
 exact ⟨below_tr h1 hb,F,h2.keep hb.size fun k hk=>hb.block k (h2.lt k hk),h3,h4⟩
theorem Sepa.alloc {W w:World} {ps:List Pc} (h:Sepa W w ps) (o:Obj):Sepa W (w.alloc o) ps:=h.below (below_new (Below.refl _ _) o)
theorem Sepa.drew {W w:World} {ps:List Pc} (h:Sepa W w ps):Sepa W w.drew ps:=h.below (Below.refl _ _).drew
theorem Sepa.drewN {W w:World} {ps:List Pc} (h:Sepa W w ps) (n:Nat):Sepa W (w.drewN n) ps:=h.below (below_drewN (Below.refl _ _) n)
/-- A new piece beside the others. -/
theorem Sepa.push {W w w':World} {ps:List Pc} {p:Pc} {G:List Nat} (h:Sepa W w ps) (hb:Below w.heap.size w w') (hp:PcAt w' p G) (hn:G.Nodup) (hg:∀k∈G,w.heap.size≤k):Sepa W w' (ps++[p]):=by
 obtain ⟨h1,F,h2,h3,h4⟩:=h
 have hl:=h2.lt
 refine ⟨below_tr h1 hb,F++(G++[]),(h2.keep hb.size fun k hk=>hb.block k (hl k hk)).append ⟨G,[],rfl,hp,rfl⟩,?_,fun k hk=>?_⟩
 ·rw [List.append_nil,List.nodup_append]
  exact ⟨h3,hn,fun a ha b hb' e=>by have:=hl a ha;have:=hg b hb';omega⟩
 ·rw [List.append_nil,List.mem_append] at hk
  rcases hk with hk|hk
  ·exact h4 k hk
  ·have:=hg k hk;have:=h1.size;omega
/-- A new piece ahead of the others. -/
theorem Sepa.cons {W w w':World} {ps:List Pc} {p:Pc} {G:List Nat} (h:Sepa W w ps) (hb:Below w.heap.size w w') (hp:PcAt w' p G) (hn:G.Nodup) (hg:∀k∈G,w.heap.size≤k):Sepa W w' (p :: ps):=by
 obtain ⟨h1,F,h2,h3,h4⟩:=h
 have hl:=h2.lt
 refine ⟨below_tr h1 hb,G++F,⟨G,F,rfl,hp,h2.keep hb.size fun k hk=>hb.block k (hl k hk)⟩,?_,fun k hk=>?_⟩
 ·rw [List.nodup_append]
  exact ⟨hn,h3,fun a ha b hb' e=>by have:=hl b hb';have:=hg a ha;omega⟩
 ·rw [List.mem_append] at hk
  rcases hk with hk|hk
  ·have:=hg k hk;have:=h1.size;omega
  ·exact h4 k hk
theorem Sepa.consOwn {W w w':World} {ps:List Pc} {A:Option Addr} {n c:Nat} {xs:List Int} (h:Sepa W w ps) (hb:Below w.heap.size w w') (ho:Own w.heap.size w' A n c xs):Sepa W w' (.cel (celI xs) (.slice A n c) :: ps) :=
 h.cons hb (show OwnC w' (celI xs) (.slice A n c) (blk A) from ownC_ints.2 ⟨ho.more (Nat.zero_le _),rfl⟩) (by cases A <;> simp [blk]) fun k hk=>by
  obtain ⟨a,rfl,rfl⟩:=mem_blk.1 hk
  exact (ho.lt a rfl).1
theorem Sepa.tail {W w:World} {p:Pc} {ps:List Pc} (h:Sepa W w (p :: ps)):Sepa W w ps:=by
 obtain ⟨h1,F,⟨F1,F2,rfl,_,h3⟩,h4,h5⟩:=h
 exact ⟨h1,F2,h3,(List.nodup_append.1 h4).2.1,fun k hk=>h5 k (List.mem_append_right _ hk)⟩
theorem Sepa.pushOwn {W w w':World} {ps:List Pc} {A:Option Addr} {n c:Nat} {xs:List Int} (h:Sepa W w ps) (hb:Below w.heap.size w w') (ho:Own w.heap.size w' A n c xs):Sepa W w' (ps++[.cel (celI xs) (.slice A n c)]) :=
 h.push hb (show OwnC w' (celI xs) (.slice A n c) (blk A) from ownC_ints.2 ⟨ho.more (Nat.zero_le _),rfl⟩) (by cases A <;> simp [blk]) fun k hk=>by
  obtain ⟨a,rfl,rfl⟩:=mem_blk.1 hk
  exact (ho.lt a rfl).1
theorem Sepa.pushT {W w w':World} {ps:List Pc} {c:Cel} {v:Value} {hi:Nat} (h:Sepa W w ps) (hb:Below w.heap.size w w') (ho:OwnT w.heap.size hi w' c v):Sepa W w' (ps++[.cel c v]):=by
 obtain ⟨F,h1,h2,h3⟩:=ho
 exact h.push hb h1 h2 fun k hk=>(h3 k hk).1
theorem Sepa.pushBlk {W w:World} {ps:List Pc} (h:Sepa W w ps) (cs:Array Value) (t:TypeId):Sepa W (w.alloc (.cells cs t)) (ps++[.blk w.heap.size cs t]) :=
 h.push (below_new (Below.refl _ _) _) (G:=[w.heap.size]) ⟨rfl,by simp,heap_new _ _,fun w1 w2 e h=>e.trans h⟩ (by simp) (by simp)
theorem Sepa.pushNil {W w:World} {ps:List Pc} (h:Sepa W w ps) (e s:Nat):Sepa W w (ps++[.cel (.row e s []) (.slice none 0 0)]) :=
 h.push (Below.refl _ _) (G:=[]) (show OwnC w (.row e s []) (.slice none 0 0) [] by rw [ownC_row];exact ⟨none,0,0,[],[],rfl,⟨by simp,.inl ⟨rfl,rfl⟩⟩,rfl,ownL_nil.2 ⟨rfl,rfl⟩⟩) (by simp) (by simp)
theorem Sepa.pushNew {W w:World} {ps:List Pc} (h:Sepa W w ps) (e s:Nat):Sepa W (w.alloc (.cells #[] e)) (ps++[.cel (.row e s []) (.slice (some ⟨w.heap.size,0,none⟩) 0 0)]):=by
 obtain ⟨F,h1,h2,h3⟩:=ownT_new (w:=w) e s rfl
 exact h.push (below_new (Below.refl _ _) _) h1 h2 fun k hk=>(h3 k hk).1
/-- Fewer pieces. -/
theorem PcsAt.sub {w:World} {ps qs:List Pc} (hs:qs.Sublist ps):∀{F:List Nat},PcsAt w ps F→∃G,PcsAt w qs G∧G.Sublist F:=by
 induction hs with
 | slnil=>intro F h;exact ⟨F,h,List.Sublist.refl _⟩
 | cons p _ ih =>
  intro F h
  obtain ⟨F1,F2,rfl,_,h2⟩:=h
  obtain ⟨G,g1,g2⟩:=ih h2
  exact ⟨G,g1,g2.trans (List.sublist_append_right _ _)⟩
 | cons_cons p _ ih =>
  intro F h
  obtain ⟨F1,F2,rfl,h1,h2⟩:=h
  obtain ⟨G,g1,g2⟩:=ih h2
  exact ⟨F1++G,⟨F1,G,rfl,h1,g1⟩,List.Sublist.append (List.Sublist.refl _) g2⟩
theorem Sepa.sub {W w:World} {ps qs:List Pc} (h:Sepa W w ps) (hs:qs.Sublist ps):Sepa W w qs:=by
 obtain ⟨h1,F,h2,h3,h4⟩:=h
 obtain ⟨G,g1,g2⟩:=h2.sub hs
 exact ⟨h1,G,g1,g2.nodup h3,fun k hk=>h4 k (g2.subset hk)⟩
/-- One piece: what it is, and what becomes of all of them when it changes. -/
theorem Sepa.part {W w:World} {ps:List Pc} (h:Sepa W w ps) (j:Nat) {p:Pc} (hj:ps[j]?=some p) :
  ∃Fj,PcAt w p Fj∧Fj.Nodup∧(∀k∈Fj,W.heap.size≤k∧k<w.heap.size) ∧
   ∀(w':World) (p':Pc) (Fj':List Nat),PcAt w' p' Fj'→Fj'.Nodup→(∀k∈Fj',k∈Fj∨w.heap.size≤k)→Only Fj w w'→Sepa W w' (ps.set j p'):=by
 obtain ⟨h1,F,h2,h3,h4⟩:=h
 have hl:=h2.lt
 obtain ⟨F1,Fj,F2,rfl,k1,k2⟩:=h2.at_ hj
 have h3':=h3
 rw [List.nodup_append,List.nodup_append] at h3
 obtain ⟨n1,⟨n2,n3,n4⟩,n5⟩:=h3
 refine ⟨Fj,k1,n2,fun k hk=>⟨h4 k (by simp [hk]),hl k (by simp [hk])⟩,fun w' p' Fj' hp hn hsub ho=>⟨?_,F1++(Fj'++F2),k2 w' p' Fj' hp ho.size ?_ ?_,?_,?_⟩⟩
 ·refine ⟨ho.os.trans h1.os,ho.tape.trans h1.tape,ho.output.trans h1.output,Nat.le_trans h1.size ho.size,fun k hk=>?_⟩
  refine (ho.block k (Nat.lt_of_lt_of_le hk h1.size) fun hm=>?_).trans (h1.block k hk)
  have:=h4 k (by simp [hm])
  omega
 ·exact fun k hk=>ho.block k (hl k (by simp [hk])) fun hm=>n5 k hk k (by simp [hm]) rfl
 ·exact fun k hk=>ho.block k (hl k (by simp [hk])) fun hm=>n4 k hm k hk rfl
 ·rw [List.nodup_append,List.nodup_append]
  refine ⟨n1,⟨hn,n3,fun a ha b hb e=>?_⟩,fun a ha b hb e=>?_⟩
  ·subst e
   rcases hsub a ha with hm|hm
   ·exact n4 a hm a hb rfl
   ·have:=hl a (by simp [hb]);omega
  ·subst e
   rcases List.mem_append.1 hb with hb|hb
   ·rcases hsub a hb with hm|hm
    ·exact n5 a ha a (by simp [hm]) rfl
    ·have:=hl a (by simp [ha]);omega
   ·exact n5 a ha a (by simp [hb]) rfl
 ·intro k hk
  simp only [List.mem_append] at hk
  rcases hk with hk|hk|hk
  ·exact h4 k (by simp [hk])
  ·rcases hsub k hk with hm|hm
   ·exact h4 k (by simp [hm])
   ·have:=h1.size;omega
  ·exact h4 k (by simp [hk])
/-- Another word for the same piece. -/
theorem Sepa.same {W w:World} {ps:List Pc} (h:Sepa W w ps) (j:Nat) {p p':Pc} (hj:ps[j]?=some p) (hp:∀F,PcAt w p F→PcAt w p' F):Sepa W w (ps.set j p'):=by
 obtain ⟨Fj,k1,k2,_,k4⟩:=h.part j hj
 exact k4 w p' Fj (hp Fj k1) k2 (fun k hk => .inl hk) (Only.refl _ _)
/-- Two pieces: what they are, and what becomes of all of them when both change. -/
theorem Sepa.two {W w:World} {ps:List Pc} (h:Sepa W w ps) (i j:Nat) (hij:i≠j) {p q:Pc} (hi:ps[i]?=some p) (hj:ps[j]?=some q) :
  ∃Fi Fj,PcAt w p Fi∧PcAt w q Fj∧Fi.Nodup∧Fj.Nodup∧(∀k∈Fj,k∉Fi)∧(∀k∈Fi,W.heap.size≤k∧k<w.heap.size)∧(∀k∈Fj,W.heap.size≤k∧k<w.heap.size) ∧
   ∀(w':World) (p':Pc) (Fi':List Nat),PcAt w' p' Fi'→Fi'.Nodup→(∀k∈Fi',k∈Fi∨k∈Fj∨w.heap.size≤k)→Only Fi w w'→Sepa W w' ((ps.set j (.cels [] [])).set i p'):=by
 obtain ⟨h1,F,h2,h3,h4⟩:=h
 have hl:=h2.lt
 obtain ⟨F1,Fj,F2,rfl,k1,k2⟩:=h2.at_ hj
 -- the second piece is given up: its blocks stay beside the first one's
 have h3':=h3
 rw [List.nodup_append,List.nodup_append] at h3
 obtain ⟨n1,⟨n2,n3,n4⟩,n5⟩:=h3
 have hE:PcsAt w (ps.set j (.cels [] [])) (F1++([]++F2)):=k2 w (.cels [] []) [] (show OwnL w [] [] [] from ownL_nil.2 ⟨rfl,rfl⟩) (Nat.le_refl _) (fun _ _=>rfl) (fun _ _=>rfl)
 rw [List.nil_append] at hE
 have hi':(ps.set j (.cels [] []))[i]?=some p:=by rw [List.getElem?_set_ne (by omega)];exact hi
 obtain ⟨G1,Fi,G2,hG,m1,m2⟩:=hE.at_ hi'
 have hmem:∀k,k∈F1++F2↔k∈G1++(Fi++G2):=fun k=>by rw [hG]
 have hnd:(G1++(Fi++G2)).Nodup:=by
  rw [←hG,List.nodup_append]
  exact ⟨n1,n3,fun a ha b hb=>n5 a ha b (by simp [hb])⟩
 have hnd':=hnd
 rw [List.nodup_append,List.nodup_append] at hnd
 obtain ⟨q1,⟨q2,q3,q4⟩,q5⟩:=hnd
 have hFj:∀k∈Fj,k∉G1++(Fi++G2):=fun k hk hm=>by
  rcases List.mem_append.1 ((hmem k).2 hm) with hm|hm
  ·exact n5 k hm k (by simp [hk]) rfl
  ·exact n4 k hk k hm rfl
 have hin:∀k,k∈G1++(Fi++G2)→W.heap.size≤k∧k<w.heap.size:=fun k hk=>by
  have:=(hmem k).2 hk
  have hm:k∈F1++(Fj++F2):=by
   rcases List.mem_append.1 this with h|h
   ·simp [h]
   ·simp [h]
  exact ⟨h4 k hm,hl k hm⟩
 refine ⟨Fi,Fj,m1,k1,q2,n2,fun k hk hm=>hFj k hk (by simp [hm]),fun k hk=>hin k (by simp [hk]),fun k hk=>⟨h4 k (by simp [hk]),hl k (by simp [hk])⟩,fun w' p' Fi' hp hn hsub ho=>⟨?_,G1++(Fi'++G2),m2 w' p' Fi' hp ho.size ?_ ?_,?_,?_⟩⟩
 ·refine ⟨ho.os.trans h1.os,ho.tape.trans h1.tape,ho.output.trans h1.output,Nat.le_trans h1.size ho.size,fun k hk=>?_⟩
  refine (ho.block k (Nat.lt_of_lt_of_le hk h1.size) fun hm=>?_).trans (h1.block k hk)
  have:=hin k (by simp [hm])
  omega
 ·exact fun k hk=>ho.block k (hin k (by simp [hk])).2 fun hm=>q5 k hk k (by simp [hm]) rfl
 ·exact fun k hk=>ho.block k (hin k (by simp [hk])).2 fun hm=>q4 k hm k hk rfl
 ·rw [List.nodup_append,List.nodup_append]
  refine ⟨q1,⟨hn,q3,fun a ha b hb e=>?_⟩,fun a ha b hb e=>?_⟩
  ·subst e
   rcases hsub a ha with hm|hm|hm
   ·exact q4 a hm a hb rfl
   ·exact hFj a hm (by simp [hb])
   ·have:=hin a (by simp [hb]);omega
  ·subst e
   rcases List.mem_append.1 hb with hb|hb
   ·rcases hsub a hb with hm|hm|hm
    ·exact q5 a ha a (by simp [hm]) rfl
    ·exact hFj a hm (by simp [ha])
    ·have:=hin a (by simp [ha]);omega
   ·exact q5 a ha a (by simp [hb]) rfl
 ·intro k hk
  simp only [List.mem_append] at hk
  rcases hk with hk|hk|hk
  ·exact (hin k (by simp [hk])).1
  ·rcases hsub k hk with hm|hm|hm
   ·exact (hin k (by simp [hm])).1
   ·exact h4 k (by simp [hm])
   ·have:=h1.size;omega
  ·exact (hin k (by simp [hk])).1

/-! ### blocks -/
theorem Sepa.blk {W w:World} {ps:List Pc} (h:Sepa W w ps) (j:Nat) {g:Nat} {cs:Array Value} {t:TypeId} (hj:ps[j]?=some (.blk g cs t)):w.heap[g]?=some (.cells cs t (0,0))∧W.heap.size≤g:=by
 obtain ⟨F,k1,_,k3,_⟩:=h.part j hj
 obtain ⟨rfl,_,h3,_⟩:=k1
 exact ⟨h3,(k3 g (by simp)).1⟩
theorem Sepa.own {W w:World} {ps:List Pc} (h:Sepa W w ps) (j:Nat) {g:Nat} {P:World→Prop} (hj:ps[j]?=some (.own g P)):P w∧W.heap.size≤g∧g<w.heap.size:=by
 obtain ⟨F,k1,_,k3,_⟩:=h.part j hj
 obtain ⟨rfl,h2,h3,_⟩:=k1
 exact ⟨h3,(k3 g (by simp)).1,h2⟩
theorem Sepa.put {W w:World} {ps:List Pc} (h:Sepa W w ps) (j:Nat) {g:Nat} {cs:Array Value} {t:TypeId} (hj:ps[j]?=some (.blk g cs t)) (k:Nat) (v:Value):Sepa W (w.setCell ⟨g,k,none⟩ v) (ps.set j (.blk g (cs.setIfInBounds k v) t)):=by
 obtain ⟨F,k1,_,_,k4⟩:=h.part j hj
 obtain ⟨rfl,h2,h3,_⟩:=k1
 exact k4 _ _ [g] ⟨rfl,by simpa [World.setCell] using h2,heap_set h3 k v,fun w1 w2 e h=>e.trans h⟩ (by simp) (fun k hk => .inl hk) (only_set (by simp) v)
/-- One block of which something is known changes as a store of its own law says. -/
theorem Sepa.own_upd {W w w':World} {ps:List Pc} (h:Sepa W w ps) (j:Nat) {g:Nat} {P Q:World→Prop} (hj:ps[j]?=some (.own g P)) (hg:w.grownBy w' (some g)) (hQ:Q w') (hst:∀w1 w2:World,w2.heap[g]?=w1.heap[g]?→Q w1→Q w2):Sepa W w' (ps.set j (.own g Q)):=by
 obtain ⟨F,k1,_,_,k4⟩:=h.part j hj
 obtain ⟨rfl,h2,h3,_⟩:=k1
 exact k4 _ _ [g] ⟨rfl,Nat.lt_of_lt_of_le h2 hg.size,hQ,hst⟩ (by simp) (fun k hk => .inl hk) ⟨hg.os,hg.tape,hg.output,hg.size,fun i hi hn=>hg.block i hi (by intro e;injection e with e;subst e;exact hn (by simp))⟩

/-! ### rows -/
theorem Sepa.rd {W w:World} {ps:List Pc} (h:Sepa W w ps) (j:Nat) {c:Cel} {v:Value} (hj:ps[j]?=some (.cel c v)):RdC w w.heap.size c v:=by
 obtain ⟨F,k1,_⟩:=h.part j hj
 exact OwnC.rd k1
theorem Sepa.ints {W w:World} {ps:List Pc} (h:Sepa W w ps) (j:Nat) {xs:List Int} {A:Option Addr} {n c:Nat} (hj:ps[j]?=some (.cel (celI xs) (.slice A n c))):Ints w A n xs:=(h.rd j hj).ints
theorem Sepa.owned {W w:World} {ps:List Pc} (h:Sepa W w ps) (j:Nat) {xs:List Int} {A:Option Addr} {n c:Nat} (hj:ps[j]?=some (.cel (celI xs) (.slice A n c))):Own W.heap.size w A n c xs:=by
 obtain ⟨F,k1,_,k3,_⟩:=h.part j hj
 obtain ⟨o,rfl⟩:=ownC_ints.1 k1
 exact o.at0 fun k hk=>(k3 k hk).1
theorem Sepa.tree {W w:World} {ps:List Pc} (h:Sepa W w ps) (j:Nat) {c:Cel} {v:Value} (hj:ps[j]?=some (.cel c v)):OwnT W.heap.size w.heap.size w c v:=by
 obtain ⟨F,k1,k2,k3,_⟩:=h.part j hj
 exact ⟨F,k1,k2,k3⟩
/-- A number in a row is stored anew. -/
theorem Sepa.num {W w:World} {ps:List Pc} (h:Sepa W w ps) (j:Nat) {e s n cap i:Nat} {A:Option Addr} {cs:List Cel} {x:Int} (hj:ps[j]?=some (.cel (.row e s cs) (.slice A n cap))) (hi:cs[i]?=some (.int x)) :
  ∃g,A=some ⟨g,0,none⟩∧W.heap.size≤g∧g<w.heap.size∧w.cell? ⟨g,i,none⟩=some (.int .i64 x)∧w.frozen? ⟨g,i,none⟩=false ∧
   ∀y:Int,Sepa W (w.setCell ⟨g,i,none⟩ (.int .i64 y)) (ps.set j (.cel (.row e s (cs.set i (.int y))) (.slice A n cap))):=by
 obtain ⟨F,k1,k2,k3,k4⟩:=h.part j hj
 obtain ⟨g,rfl,hg,hc,hf,hu⟩:=OwnC.num k1 k2 hi
 exact ⟨g,rfl,(k3 g hg).1,(k3 g hg).2,hc,hf,fun y=>k4 _ _ F (hu y) k2 (fun k hk => .inl hk) (only_set hg _)⟩
/-! ### append -/
/-- What an append to a row of several cells makes of it. -/
theorem push_fact1 {w w':World} {e size n g cap lo:Nat} {A:Option Addr} {cs nc:List Cel} {F F2:List Nat} {nv:List Value}
  (hF:F.Nodup) (hnew:OwnL w nc nv F2) (hF2:F2.Nodup) (hd:∀k∈F2,k∉F) {vs:List Value} {F':List Nat} (hFe:F=blk A++F') (hl:OwnL w cs vs F')
  (g1:w'.ownsRow lo e size (.slice (some ⟨g,0,none⟩) n cap) n (vs++nv)) (g2:w.grownBy w' (A.map (·.block))) (g3:A.map (·.block)=some g∨g=w.heap.size) :
  ∃G,OwnC w' (.row e size (cs++nc)) (.slice (some ⟨g,0,none⟩) n cap) G∧G.Nodup∧(∀k∈G,k∈F∨k∈F2∨w.heap.size≤k)∧Only F w w':=by
 subst hFe
 have hlF:∀k∈F',k<w.heap.size:=hl.lt
 have hlF2:∀k∈F2,k<w.heap.size:=hnew.lt
 rw [List.nodup_append] at hF
 obtain ⟨m1,m2,m3⟩:=hF
 have hkeep:∀k,k<w.heap.size→k∉blk A→w'.heap[k]?=w.heap[k]?:=fun k hk hkA=>by
  refine g2.block k hk ?_
  cases hA':A with
  | none=>simp
  | some ad =>
   simp only [Option.map_some,ne_eq,Option.some.injEq]
   rintro rfl
   exact hkA (by rw [hA'];simp [_root_.Go.Proofs.YtlinbdkbbhpdpaaGreat.blk])
 have hA2:∀k∈F2,k∉blk A:=fun k hk hkA=>hd k hk (List.mem_append_left _ hkA)
 have hF1:∀k∈F',k∉blk A:=fun k hk hkA=>m3 k hkA k hk rfl
 have hL:OwnL w' (cs++nc) (vs++nv) (F'++F2):=(hl.keep fun k hk=>hkeep k (hlF k hk) (hF1 k hk)).append (hnew.keep fun k hk=>hkeep k (hlF2 k hk) (hA2 k hk))
 have hgA:A.map (·.block)=some g→g∈blk A:=fun hg=>by
  cases hA':A with
  | none=>rw [hA'] at hg;cases hg
  | some ad=>rw [hA'] at hg;simp at hg;simp [_root_.Go.Proofs.YtlinbdkbbhpdpaaGreat.blk,hg]
 have hgn:g∉F'∧g∉F2:=by
  rcases g3 with hg|hg
  ·exact ⟨fun hk=>hF1 g hk (hgA hg),fun hk=>hA2 g hk (hgA hg)⟩
  ·subst hg
   exact ⟨fun hk=>by have:=hlF _ hk;omega,fun hk=>by have:=hlF2 _ hk;omega⟩
 refine ⟨g :: (F'++F2),?_,?_,fun k hk=>?_,⟨g2.os,g2.tape,g2.output,g2.size,fun k hk hn=>hkeep k hk fun hA=>hn (List.mem_append_left _ hA)⟩⟩
 ·rw [ownC_row]
  exact ⟨_,_,_,_,F'++F2,rfl,⟨g1.1,by rcases g1.2 with h|⟨a,b,c',h,_,h'⟩;exact .inl h;exact .inr ⟨a,b,c',h,Nat.zero_le _,h'⟩⟩,rfl,hL⟩
 ·rw [List.nodup_cons,List.nodup_append]
  exact ⟨by simp only [List.mem_append,not_or];exact hgn,m2,hF2,fun p hp q hq e=>hd q hq (List.mem_append_right _ (e ▸ hp))⟩
 ·simp only [List.mem_cons,List.mem_append] at hk
  rcases hk with rfl|hk|hk
  ·rcases g3 with hg|hg
   ·exact .inl (List.mem_append_left _ (hgA hg))
   ·exact .inr (.inr (by omega))
  ·exact .inl (List.mem_append_right _ hk)
  ·exact .inr (.inl hk)
theorem news_at {w:World} {B:Nat} {nv:Array Value} {e:TypeId} {fr:Nat × Nat} (hB:w.heap[B]?=some (.cells nv e fr)) (j:Nat) (u:Value) (hu:nv.toList[j]?=some u):w.cell? ((⟨B,0,none⟩:Addr).add j)=some u:=World.news_of_block hB j u hu
section
variable {ops:Array Oper} {rest:List Oper} {o:Oper} {a:Act} {Q:Exit→Act→World→Prop} {K:Act→World→Prop} {E:Prop} {w W:World}
/-- What the run of an append among the pieces leaves: m elements of 'size' cells each, which lie in block B and are a piece of their own (piece j). -/
theorem sepPush_post (ps:List Pc) (S:Sepa W w ps) (i j:Nat) (hij:i≠j) (e size n m c:Nat) (A:Option Addr) (cs nc:List Cel) (nv:List Value) (hi:ps[i]?=some (.cel (.row e size cs) (.slice A n c))) (hj:ps[j]?=some (.cels nc nv))
  {g cap:Nat} {w':World} (vs:List Value) (hvs:∀F,OwnC w (.row e size cs) (.slice A n c) F→∃F',F=blk A++F'∧OwnL w cs vs F') (g1:w'.ownsRow 0 e size (.slice (some ⟨g,0,none⟩) m cap) m (vs++nv)) (g2:w.grownBy w' (A.map (·.block))) (g3:A.map (·.block)=some g∨g=w.heap.size) :
  Sepa W w' ((ps.set j (.cels [] [])).set i (.cel (.row e size (cs++nc)) (.slice (some ⟨g,0,none⟩) m cap))):=by
 obtain ⟨Fi,Fj,k1,k2,k3,k4,k5,_,_,k8⟩:=S.two i j hij hi hj
 obtain ⟨F',hFe,hl⟩:=hvs Fi k1
 obtain ⟨G,u1,u2,u3,u4⟩:=push_fact1 k3 k2 k4 k5 hFe hl g1 g2 g3
 exact k8 w' _ G u1 u2 u3 u4
theorem rowVals {w:World} {e size n c:Nat} {A:Option Addr} {cs:List Cel} {F0:List Nat} (h:OwnC w (.row e size cs) (.slice A n c) F0):∃vs,w.ownsRow 0 e size (.slice A n c) n vs∧∀F,OwnC w (.row e size cs) (.slice A n c) F→∃F',F=blk A++F'∧OwnL w cs vs F':=by
 have h1:=h
 rw [ownC_row] at h1
 obtain ⟨A',n',c',vs,F',hv,hro,rfl,hl⟩:=h1
 injection hv with hA hn hc
 subst hA hn hc
 refine ⟨vs,hro,fun F hF=>?_⟩
 rw [ownC_row] at hF
 obtain ⟨A2,n2,c2,vs2,F2,hv2,hro2,rfl,hl2⟩:=hF
 injection hv2 with hA hn hc
 subst hA hn hc
 have e:vs2=vs:=by
  rcases hro.2 with ⟨hv,rfl⟩|⟨g,cap,cur,hv,_,hh,_,_,_,ht⟩
  ·have h2:=hro2.1
   have h3:=hro.1
   rw [Nat.zero_mul] at h2 h3
   rw [List.length_eq_zero_iff.1 h2,List.length_eq_zero_iff.1 h3]
  ·rcases hro2.2 with ⟨hv',_⟩|⟨g',cap',cur',hv',_,hh',_,_,_,ht'⟩
   ·rw [hv] at hv';injection hv' with hA _ _;cases hA
   ·rw [hv] at hv'
    injection hv' with hA _ _
    injection hA with hA
    injection hA with hA _ _
    subst hA
    rw [hh] at hh'
    injection hh' with hh'
    injection hh' with hh' _ _
    subst hh'
    rw [←ht,←ht']
 subst e
 exact ⟨F2,rfl,hl2⟩
theorem wpList_sepPushG (hgd:o.guard=none) (s x:Operand) (t e:TypeId)
  (ho:o.op = .call { callee := .builtin .append,args:=#[s,x],argTypes:=#[t,t] }) (ti:TypeInfo) (z:Value) (size bytes:Nat) (ht:Tryz.prog.underlying t=some (.slice e)) (hi0:Tryz.prog.info? e=some ti) (hz0:ti.zero=some z)
  (hz1:ti.size=size) (hz2:ti.bytes=bytes) (hzc:z.cells.size=size) (hsz:0<size) (hby:bytes≤64)
  (ps:List Pc) (S:Sepa W w ps) (i j:Nat) (hij:i≠j) (n c B:Nat) (A:Option Addr) (cs nc:List Cel) (nv:Array Value) (fr:Nat × Nat) (hi:ps[i]?=some (.cel (.row e size cs) (.slice A n c))) (hj:ps[j]?=some (.cels nc nv.toList))
  (hs:a.eval s = .slice A n c) (hx:a.eval x = .slice (some ⟨B,0,none⟩) 1 1) (hB:w.heap[B]?=some (.cells nv e fr)) (hnl:nv.size=size) (hn:n≤1099511627776)
  (h:∀g cap w',Sepa W w' ((ps.set j (.cels [] [])).set i (.cel (.row e size (cs++nc)) (.slice (some ⟨g,0,none⟩) (n+1) cap)))→w.heap.size≤w'.heap.size →
   wpList Tryz.prog ops Q rest (a.put o.dst (.slice (some ⟨g,0,none⟩) (n+1) cap)) w'):wpList Tryz.prog ops Q (o :: rest) a w:=by
 obtain ⟨Fi,Fj,k1,k2,_⟩:=S.two i j hij hi hj
 obtain ⟨vs,hro,hvs⟩:=rowVals k1
 exact wpList_append_lies w hgd s x t ho 0 e ti z size bytes ht hi0 hz0 hz1 hz2 hzc hsz (.slice A n c) n vs hs hro ⟨B,0,none⟩ 1 1 nv.toList hx (by simp [hnl]) (news_at hB) (OwnL.one k2) (by omega) (by unfold maxLen;omega) (Nat.le_trans (Nat.mul_le_mul_left _ hby) (by omega)) (Nat.zero_le _) _ rfl
  fun g cap w' g1 g2 g3 _=>by rw [ownBlock_slice] at g2 g3;exact h g cap w' (sepPush_post ps S i j hij e size n (n+1) c A cs nc nv.toList hi hj vs hvs g1 g2 g3) g2.size
theorem step_sepPushG (hgd:o.guard=none) (s x:Operand) (t e:TypeId)
  (ho:o.op = .call { callee := .builtin .append,args:=#[s,x],argTypes:=#[t,t] }) (ti:TypeInfo) (z:Value) (size bytes:Nat) (ht:Tryz.prog.underlying t=some (.slice e)) (hi0:Tryz.prog.info? e=some ti) (hz0:ti.zero=some z)
  (hz1:ti.size=size) (hz2:ti.bytes=bytes) (hzc:z.cells.size=size) (hsz:0<size) (hby:bytes≤64)
  (ps:List Pc) (S:Sepa W w ps) (i j:Nat) (hij:i≠j) (n c B:Nat) (A:Option Addr) (cs nc:List Cel) (nv:Array Value) (fr:Nat × Nat) (hi:ps[i]?=some (.cel (.row e size cs) (.slice A n c))) (hj:ps[j]?=some (.cels nc nv.toList))
  (hs:a.eval s = .slice A n c) (hx:a.eval x = .slice (some ⟨B,0,none⟩) 1 1) (hB:w.heap[B]?=some (.cells nv e fr)) (hnl:nv.size=size) (hn:n≤1099511627776)
  (h:∀g cap w',Sepa W w' ((ps.set j (.cels [] [])).set i (.cel (.row e size (cs++nc)) (.slice (some ⟨g,0,none⟩) (n+1) cap)))→w.heap.size≤w'.heap.size →
   K (a.put o.dst (.slice (some ⟨g,0,none⟩) (n+1) cap)) w'):if Region.wanted o (yielded ops a.tmps)=true then Oper.wp Tryz.prog o a w K Q else E:=by
 obtain ⟨Fi,Fj,k1,k2,_⟩:=S.two i j hij hi hj
 obtain ⟨vs,hro,hvs⟩:=rowVals k1
 exact step_append_lies w hgd s x t ho 0 e ti z size bytes ht hi0 hz0 hz1 hz2 hzc hsz (.slice A n c) n vs hs hro ⟨B,0,none⟩ 1 1 nv.toList hx (by simp [hnl]) (news_at hB) (OwnL.one k2) (by omega) (by unfold maxLen;omega) (Nat.le_trans (Nat.mul_le_mul_left _ hby) (by omega)) (Nat.zero_le _) _ rfl
  fun g cap w' g1 g2 g3 _=>by rw [ownBlock_slice] at g2 g3;exact h g cap w' (sepPush_post ps S i j hij e size n (n+1) c A cs nc nv.toList hi hj vs hvs g1 g2 g3) g2.size
/-- Numbers are appended to a row of numbers among the pieces: what the run leaves. -/
theorem sepInts_post (ps:List Pc) (S:Sepa W w ps) (i:Nat) (n m c:Nat) (A:Option Addr) (xs news:List Int) (hi:ps[i]?=some (.cel (celI xs) (.slice A n c)))
  {g cap:Nat} {w':World} (g1:w'.ownsRow 0 3 1 (.slice (some ⟨g,0,none⟩) m cap) m (xs.map (Value.int .i64)++news.map (Value.int .i64))) (g2:w.grownBy w' (A.map (·.block))) (g3:A.map (·.block)=some g∨g=w.heap.size) :
  Sepa W w' (ps.set i (.cel (celI (xs++news)) (.slice (some ⟨g,0,none⟩) m cap))):=by
 obtain ⟨F,k1,k2,_,k4⟩:=S.part i hi
 obtain ⟨ho,rfl⟩:=ownC_ints.1 k1
 obtain ⟨G,u1,u2,u3,u4⟩:=push_fact1 (cs:=xs.map .int) (nc:=news.map .int) (F2:=[]) (F':=[]) k2 (ownL_ints.2 ⟨rfl,rfl⟩) (by simp) (by simp) (List.append_nil _).symm (ownL_ints.2 ⟨rfl,rfl⟩) g1 g2 g3
 refine k4 w' _ G (by rw [celI,List.map_append];exact u1) u2 (fun k hk=>?_) u4
 rcases u3 k hk with h|h|h
 ·exact .inl h
 ·simp at h
 ·exact .inr h
theorem sepInts_own (ps:List Pc) (S:Sepa W w ps) (i:Nat) (n c:Nat) (A:Option Addr) (xs:List Int) (hi:ps[i]?=some (.cel (celI xs) (.slice A n c))):w.ownsRow 0 3 1 (.slice A n c) n (xs.map (Value.int .i64)):=(S.owned i hi).more (Nat.zero_le _)
theorem wpList_sepPush (hgd:o.guard=none) (s x:Operand)
  (ho:o.op = .call { callee := .builtin .append,args:=#[s,x],argTypes:=#[29,29] })
  (ps:List Pc) (S:Sepa W w ps) (i:Nat) (A:Option Addr) (n c:Nat) (xs:List Int) (y:Int) (B:Nat) (fr:Nat × Nat) (hi:ps[i]?=some (.cel (celI xs) (.slice A n c))) (hs:a.eval s = .slice A n c) (hx:a.eval x = .slice (some ⟨B,0,none⟩) 1 1) (hB:w.heap[B]?=some (.cells #[.int .i64 y] 3 fr))
  (hn:n≤1099511627776)
  (h:∀g cap w',Sepa W w' (ps.set i (.cel (celI (xs++[y])) (.slice (some ⟨g,0,none⟩) (n+1) cap)))→w.heap.size≤w'.heap.size →
   wpList Tryz.prog ops Q rest (a.put o.dst (.slice (some ⟨g,0,none⟩) (n+1) cap)) w'):wpList Tryz.prog ops Q (o :: rest) a w:=by
 obtain ⟨i0,hi0,hz0,hz1,hz2⟩:=info_parts int_info
 exact wpList_append_lies w hgd s x 29 ho 0 3 i0 (.int .i64 0) 1 8 Tryz.underlying29 hi0 hz0 hz1 hz2 rfl (by omega) (.slice A n c) n (xs.map (Value.int .i64)) hs (sepInts_own ps S i n c A xs hi) ⟨B,0,none⟩ 1 1 [.int .i64 y] hx rfl (news_at hB) (fun u hu=>by simp at hu;subst hu;rfl) (by omega) (by unfold maxLen;omega) (by omega) (Nat.zero_le _) _ rfl
  fun g cap w' g1 g2 g3 _=>by rw [ownBlock_slice] at g2 g3;exact h g cap w' (sepInts_post ps S i n (n+1) c A xs [y] hi g1 g2 g3) g2.size
theorem step_sepPush (hgd:o.guard=none) (s x:Operand)
  (ho:o.op = .call { callee := .builtin .append,args:=#[s,x],argTypes:=#[29,29] })
  (ps:List Pc) (S:Sepa W w ps) (i:Nat) (A:Option Addr) (n c:Nat) (xs:List Int) (y:Int) (B:Nat) (fr:Nat × Nat) (hi:ps[i]?=some (.cel (celI xs) (.slice A n c))) (hs:a.eval s = .slice A n c) (hx:a.eval x = .slice (some ⟨B,0,none⟩) 1 1) (hB:w.heap[B]?=some (.cells #[.int .i64 y] 3 fr))
  (hn:n≤1099511627776)
  (h:∀g cap w',Sepa W w' (ps.set i (.cel (celI (xs++[y])) (.slice (some ⟨g,0,none⟩) (n+1) cap)))→w.heap.size≤w'.heap.size →
   K (a.put o.dst (.slice (some ⟨g,0,none⟩) (n+1) cap)) w'):if Region.wanted o (yielded ops a.tmps)=true then Oper.wp Tryz.prog o a w K Q else E:=by
 obtain ⟨i0,hi0,hz0,hz1,hz2⟩:=info_parts int_info
 exact step_append_lies w hgd s x 29 ho 0 3 i0 (.int .i64 0) 1 8 Tryz.underlying29 hi0 hz0 hz1 hz2 rfl (by omega) (.slice A n c) n (xs.map (Value.int .i64)) hs (sepInts_own ps S i n c A xs hi) ⟨B,0,none⟩ 1 1 [.int .i64 y] hx rfl (news_at hB) (fun u hu=>by simp at hu;subst hu;rfl) (by omega) (by unfold maxLen;omega) (by omega) (Nat.zero_le _) _ rfl
  fun g cap w' g1 g2 g3 _=>by rw [ownBlock_slice] at g2 g3;exact h g cap w' (sepInts_post ps S i n (n+1) c A xs [y] hi g1 g2 g3) g2.size
end
end Go.Proofs.YtlinbdkbbhpdpaaGreat
