/- Changing what the call owns: a cell, or what lies behind a cell. Plain lemmas. -/
import Derived.Test.YtignkfhdkcgkgaaGreatTileRd
namespace Go.Proofs.YtignkfhdkcgkgaaGreat
set_option maxRecDepth 100000
open Go.RowKit

/-- Only the blocks F may have changed. -/
structure Only (F:List Nat) (w w':World):Prop where
 os:w'.os=w.os
 tape:w'.tape=w.tape
 output:w'.output=w.output
 size:w.heap.size≤w'.heap.size
 block:∀k,k<w.heap.size→k∉F→w'.heap[k]?=w.heap[k]?
theorem Only.refl (F:List Nat) (w:World):Only F w w:=⟨rfl,rfl,rfl,Nat.le_refl _,fun _ _ _=>rfl⟩
theorem Only.trans {F:List Nat} {a b c:World} (h:Only F a b) (k:Only F b c):Only F a c :=
 ⟨k.os.trans h.os,k.tape.trans h.tape,k.output.trans h.output,Nat.le_trans h.size k.size,fun i hi hn=>(k.block i (Nat.lt_of_lt_of_le hi h.size) hn).trans (h.block i hi hn)⟩
theorem Only.more {F G:List Nat} {a b:World} (h:Only F a b) (hs:∀k∈F,k∈G):Only G a b:=⟨h.os,h.tape,h.output,h.size,fun i hi hn=>h.block i hi fun hf=>hn (hs i hf)⟩
theorem only_set {F:List Nat} {w:World} {p:Addr} (hp:p.block∈F) (v:Value):Only F w (w.setCell p v) :=
 ⟨rfl,rfl,rfl,by simp [World.setCell],fun k _ hn=>Below.heap_setCell _ _ _ _ (by rintro rfl;exact hn hp)⟩
theorem Only.chg {F:List Nat} {lo hi:Nat} {a b:World} (h:Only F a b) (hf:∀k∈F,lo≤k∧k<hi):Chg lo hi a b :=
 ⟨h.os,h.tape,h.output,h.size,fun k hk hne=>h.block k hk fun hm=>by have:=hf k hm;omega⟩

theorem OwnC.child {w:World} {e s n cap j:Nat} {A:Option Addr} {cs:List Cel} {F:List Nat} {c:Cel} (h:OwnC w (.row e s cs) (.slice A n cap) F) (hF:F.Nodup) (hc:cs[j]?=some c) :
  ∃g v Fj,A=some ⟨g,0,none⟩∧g∈F∧w.cell? ⟨g,j,none⟩=some v∧OwnC w c v Fj∧Fj.Nodup∧g∉Fj∧(∀k∈Fj,k∈F) ∧
   ∀(w':World) (c':Cel),OwnC w' c' v Fj→Only Fj w w'→OwnC w' (.row e s (cs.set j c')) (.slice A n cap) F:=by
 have hj:=(List.getElem?_eq_some_iff.1 hc).1
 have hlt:=h.lt
 obtain ⟨g,c0,v,F1,Fj,F2,rfl,e1,hcell,_,rfl,h4,h5,_⟩:=h.cell hj
 rw [hc] at e1
 injection e1 with e1
 subst e1
 rw [List.nodup_cons] at hF
 obtain ⟨hgn,hnd⟩:=hF
 simp only [List.mem_append,not_or] at hgn
 rw [List.nodup_append,List.nodup_append] at hnd
 obtain ⟨n1,⟨n2,n3,n4⟩,n5⟩:=hnd
 refine ⟨g,v,Fj,rfl,by simp,hcell,h4,n2,hgn.2.1,fun k hk=>by simp [hk],fun w' c' hc' ho=>?_⟩
 refine h5 w' c' hc' (ho.block g (hlt g (by simp)) hgn.2.1) (fun k hk=>ho.block k (hlt k (by simp [hk])) fun hj'=>?_) (fun k hk=>ho.block k (hlt k (by simp [hk])) fun hj'=>?_)
 ·exact n5 k hk k (by simp [hj']) rfl
 ·exact n4 k hj' k hk rfl
theorem OwnC.num {w:World} {e s n cap j:Nat} {A:Option Addr} {cs:List Cel} {F:List Nat} {x:Int} (h:OwnC w (.row e s cs) (.slice A n cap) F) (hF:F.Nodup) (hc:cs[j]?=some (.int x)) :
  ∃g,A=some ⟨g,0,none⟩∧g∈F∧w.cell? ⟨g,j,none⟩=some (.int .i64 x)∧w.frozen? ⟨g,j,none⟩=false ∧
   ∀y:Int,OwnC (w.setCell ⟨g,j,none⟩ (.int .i64 y)) (.row e s (cs.set j (.int y))) (.slice A n cap) F:=by
 have hj:=(List.getElem?_eq_some_iff.1 hc).1
 obtain ⟨g,c0,v,F1,Fj,F2,rfl,e1,hcell,hfz,rfl,h4,_,h6⟩:=h.cell hj
 rw [hc] at e1
 injection e1 with e1
 subst e1
 rw [ownC_int] at h4
 obtain ⟨rfl,rfl⟩:=h4
 rw [List.nodup_cons] at hF
 obtain ⟨hgn,_⟩:=hF
 simp only [List.nil_append,List.mem_append,not_or] at hgn
 exact ⟨g,rfl,by simp,hcell,hfz,fun y=>h6 (.int y) (.int .i64 y) [] (ownC_int.2 ⟨rfl,rfl⟩) hgn.1 (by simp) hgn.2⟩

theorem flat4_set {α:Type} {f:α→List Cel} (hf:∀x,(f x).length=4):∀{xs:List α} {k j:Nat} {x y:α} {c:Cel},xs[k]?=some x→j<4→f y=(f x).set j c→(xs.flatMap f).set (k * 4+j) c=(xs.set k y).flatMap f
 | [],k,j,x,y,c,h,hj,hy=>by simp at h
 | a :: l,0,j,x,y,c,h,hj,hy=>by
  simp at h
  subst h
  rw [List.flatMap_cons,Nat.zero_mul,Nat.zero_add,List.set_append,if_pos (by rw [hf];exact hj),List.set_cons_zero,List.flatMap_cons,hy]
 | a :: l,k+1,j,x,y,c,h,hj,hy=>by
  rw [List.flatMap_cons,List.set_append,if_neg (by rw [hf];omega),hf,show (k+1) * 4+j - 4=k * 4+j by omega,flat4_set hf (by simpa using h) hj hy,List.set_cons_succ,List.flatMap_cons]

/-! ### marking tiles -/
end Go.Proofs.YtignkfhdkcgkgaaGreat
