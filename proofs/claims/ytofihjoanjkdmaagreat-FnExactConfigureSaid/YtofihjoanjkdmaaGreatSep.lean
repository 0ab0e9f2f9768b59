/- append of one element of several cells to a row that the call owns. -/
import Derived.Test.YtofihjoanjkdmaaGreatCopy
import Derived.Test.YtofihjoanjkdmaaGreatOwn
namespace Go.Proofs.YtofihjoanjkdmaaGreat
set_option maxRecDepth 100000
open Go.RowKit
theorem ER {w:World} (e s:Nat) {g:Nat} (hg:w.heap.size=g):gI g (g+1) (w.alloc (.cells #[] e)) (.row e s []) (.slice (some ⟨g,0,none⟩) 0 0):=by
 subst hg
 refine ⟨[w.heap.size],?_,by simp,by simp⟩
 rw [dV]
 exact ⟨_,0,0,[],[],rfl,⟨by simp,.inr ⟨w.heap.size,0,#[],rfl,Nat.zero_le _,aI _ _,Nat.le_refl _,Nat.zero_le _,by simp,by simp⟩⟩,by simp [blk],ek.2 ⟨rfl,rfl⟩⟩
theorem dh.part {lo hi:Nat} {w:World} {cs:List Cel} {vs:List Value} {j:Nat} {c:Cel} {v:Value} (h:dh lo hi w cs vs) (hc:cs[j]?=some c) (U:vs[j]?=some v) :
  ∃D,bO w c v D/\D.Nodup/\(∀k∈D,lo<=k/\k<hi) /\
   ∀(w':World) (I:Cel) (J:Value) (g:List Nat) (z:Nat),bO w' I J g→g.Nodup→(∀k∈g,k∈D∨(hi<=k/\lo<=k/\k<z))→hi<=z→gp D w w'→dh lo z w' (cs.set j I) (vs.set j J):=by
 obtain ⟨F,h1,h2,h3⟩:=h
 have hj:j<cs.length:=(List.getElem?_eq_some_iff.1 hc).1
 have H:=h1.lt
 obtain ⟨W,Z,V,D,F2,e1,e2,rfl,h4,h5⟩:=h1.at_ hj
 rw [hc] at e1
 rw [U] at e2
 injection e1 with e1
 injection e2 with e2
 subst e1 e2
 rw [List.nodup_append,List.nodup_append] at h2
 obtain ⟨n1,⟨n2,n3,R⟩,K⟩:=h2
 refine ⟨D,h4,n2,fun k hk=>h3 k (by simp [hk]),fun w' I J g z Q hn u Y ho=>⟨V++(g++F2),h5 w' I J g Q ?_ ?_,?_,?_⟩⟩
 ·exact fun k hk=>ho.block k (H k (by simp [hk])) fun q=>K k hk k (by simp [q]) rfl
 ·exact fun k hk=>ho.block k (H k (by simp [hk])) fun q=>R k q k hk rfl
 ·rw [List.nodup_append,List.nodup_append]
  refine ⟨n1,⟨hn,n3,fun a G b B e=>?_⟩,fun a G b B e=>?_⟩
  ·subst e
   rcases u a G with q|q
   ·exact R a q a B rfl
   have:=h3 a (by simp [B]);omega
  subst e
  rcases List.mem_append.1 B with B|B
  ·rcases u a B with q|q
   ·exact K a G a (by simp [q]) rfl
   have:=h3 a (by simp [G]);omega
  exact K a G a (by simp [B]) rfl
 intro k hk
 simp only [List.mem_append] at hk
 rcases hk with hk|hk|hk
 ·have:=h3 k (by simp [hk]);omega
 ·rcases u k hk with q|q
  ·have:=h3 k (by simp [q]);omega
  omega
 have:=h3 k (by simp [hk]);omega
theorem bO.slot {w:World} {e s n B j:Nat} {A:Option Addr} {cs:List Cel} {F:List Nat} {c:Cel} (h:bO w (.row e s cs) (.slice A n B) F) (hF:F.Nodup) (hc:cs[j]?=some c) :
  ∃g v H,A=some ⟨g,0,none⟩/\g∈F/\w.cell? ⟨g,j,none⟩=some v/\w.frozen? ⟨g,j,none⟩=false/\bO w c v H/\H.Nodup/\g∉H/\(∀k∈H,k∈F) /\
   ∀(w':World) (W:Cel) (Q:Value) (q:List Nat),bO w' W Q q→q.Nodup→(∀k∈q,k∈H∨k∉F)→gp H w w' →
    ∃F',bO (w'.setCell ⟨g,j,none⟩ Q) (.row e s (cs.set j W)) (.slice A n B) F'/\F'.Nodup/\∀k∈F',k∈F∨k∈q:=by
 have hj:=(List.getElem?_eq_some_iff.1 hc).1
 have D:=h.lt
 rw [dV] at h
 obtain ⟨A',n',ar,vs,F',hv,ho,rfl,hl⟩:=h
 injection hv with hA hn hcc
 subst hA hn hcc
 obtain ⟨c0,v,F1,H,F2,e1,e2,rfl,h3,h4⟩:=hl.at_ hj
 rw [hc] at e1
 injection e1 with e1
 subst e1
 obtain ⟨g,cur,rfl,av,ad,ai,hh,af,ht,J,Y⟩:=kX ho e2
 have ak:blk (some (⟨g,0,none⟩:Addr))=[g]:=rfl
 rw [ak] at hF D
 simp only [List.singleton_append,List.nodup_cons,List.mem_append,not_or] at hF
 obtain ⟨⟨g1,gj,g2⟩,V⟩:=hF
 rw [List.nodup_append,List.nodup_append] at V
 obtain ⟨n1,⟨n2,n3,n4⟩,Z⟩:=V
 refine ⟨g,v,H,rfl,by simp [blk],J,Y,h3,n2,gj,fun k hk=>by simp [hk],fun w' W Q q ae ag z K=>?_⟩
 have G:g∉q:=fun u=>by
  rcases z g u with u|u
  ·exact gj u
  exact u (by simp [blk])
 have R:∀{L:List Nat},g∉L→∀k∈L,(w'.setCell ⟨g,j,none⟩ Q).heap[k]?=w'.heap[k]?:=fun hn k hk=>Below.heap_setCell _ _ _ _ (by rintro rfl;exact hn hk)
 have aj:w'.heap[g]?=some (.cells cur e (0,0)):=(K.block g (D g (by simp)) gj).trans hh
 refine ⟨[g]++(F1++(q++F2)),?_,?_,fun k hk=>?_⟩
 ·rw [dV]
  refine ⟨_,n,B,vs.set j Q,F1++(q++F2),rfl,⟨by rw [List.length_set];exact ho.1,.inr ⟨g,B,cur.setIfInBounds j Q,rfl,Nat.zero_le _,by simp [World.setCell,Array.getElem?_modify,aj],ad,ai,by simp [af],?_⟩⟩,rfl,
   h4 _ W Q q (ae.keep (R G)) (fun k hk=>(R g1 k hk).trans (K.block k (D k (by simp [hk])) fun u=>Z k hk k (by simp [u]) rfl)) (fun k hk=>(R g2 k hk).trans (K.block k (D k (by simp [hk])) fun u=>n4 k u k hk rfl))⟩
  simp only [Array.toList_setIfInBounds,List.take_set,ht]
 ·simp only [List.singleton_append,List.nodup_cons,List.mem_append,not_or]
  refine ⟨⟨g1,G,g2⟩,?_⟩
  rw [List.nodup_append,List.nodup_append]
  refine ⟨n1,⟨ag,n3,fun a U b I e=>?_⟩,fun a U b I e=>?_⟩
  ·subst e
   rcases z a U with u|u
   ·exact n4 a u a I rfl
   exact u (by simp [I])
  subst e
  rcases List.mem_append.1 I with I|I
  ·rcases z a I with u|u
   ·exact Z a U a (by simp [u]) rfl
   exact u (by simp [U])
  exact Z a U a (by simp [I]) rfl
 simp only [List.singleton_append,List.mem_cons,List.mem_append] at hk
 rcases hk with rfl|hk|hk|hk
 ·exact .inl (by simp [blk])
 ·exact .inl (by simp [hk])
 ·exact .inr hk
 exact .inl (by simp [hk])
/-! ### pieces -/
inductive Pc where
 | cel (c:Cel) (v:Value)
 | cels (cs:List Cel) (vs:List Value)
 | own (g:Nat) (P:World→Prop)
abbrev Pc.blk (g:Nat) (cs:Array Value) (t:TypeId):Pc := .own g fun w=>w.heap[g]?=some (.cells cs t (0,0))
def qW (w:World):Pc→List Nat→Prop
 | .cel c v,F=>bO w c v F
 | .cels cs vs,F=>fB w cs vs F
 | .own g P,F=>F=[g]/\g<w.heap.size/\P w/\∀j q:World,q.heap[g]?=j.heap[g]?→P j→P q
theorem qW.keep {w w':World} {p:Pc} {F:List Nat} (h:qW w p F) (j:w.heap.size<=w'.heap.size) (hk:∀k∈F,w'.heap[k]?=w.heap[k]?):qW w' p F:=by
 cases p with
 | cel c v=>exact bO.keep h hk
 | cels cs vs=>exact fB.keep h hk
 | own g P =>
  obtain ⟨rfl,h1,h2,h3⟩:=h
  exact ⟨rfl,Nat.lt_of_lt_of_le h1 j,h3 w w' (hk g (by simp)) h2,h3⟩
theorem qW.lt {w:World} {p:Pc} {F:List Nat} (h:qW w p F):∀k∈F,k<w.heap.size:=by
 cases p with
 | cel c v=>exact bO.lt h
 | cels cs vs=>exact fB.lt h
 | own g P =>
  obtain ⟨rfl,h1,_⟩:=h
  intro k hk
  rw [List.mem_singleton] at hk
  exact hk ▸ h1
def jG (w:World):List Pc→List Nat→Prop
 | [],F=>F=[]
 | p :: ps,F=>∃g F2,F=g++F2/\qW w p g/\jG w ps F2
theorem jG.keep {w w':World}:∀{ps:List Pc} {F:List Nat},jG w ps F→w.heap.size<=w'.heap.size→(∀k∈F,w'.heap[k]?=w.heap[k]?)→jG w' ps F
 | [],_,h,_,_=>h
 | p :: ps,F,h,j,hk=>by
  obtain ⟨q,F2,rfl,h1,h2⟩:=h
  exact ⟨q,F2,rfl,h1.keep j fun k g=>hk k (List.mem_append_left _ g),jG.keep h2 j fun k g=>hk k (List.mem_append_right _ g)⟩
theorem jG.lt {w:World}:∀{ps:List Pc} {F:List Nat},jG w ps F→∀k∈F,k<w.heap.size
 | [],F,h=>by rw [show F=[] from h];simp
 | p :: ps,F,h=>by
  obtain ⟨g,F2,rfl,h1,h2⟩:=h
  intro k hk
  rcases List.mem_append.1 hk with hk|hk
  ·exact h1.lt k hk
  exact jG.lt h2 k hk
theorem jG.append {w:World}:∀{ps qs:List Pc} {F G:List Nat},jG w ps F→jG w qs G→jG w (ps++qs) (F++G)
 | [],qs,F,G,h,k=>by rw [show F=[] from h];exact k
 | p :: ps,qs,F,G,h,k=>by
  obtain ⟨g,F2,rfl,h1,h2⟩:=h
  exact ⟨g,F2++G,List.append_assoc _ _ _,h1,jG.append h2 k⟩
theorem jG.at_ {w:World}:∀{ps:List Pc} {F:List Nat},jG w ps F→∀{j:Nat} {p:Pc},ps[j]?=some p →
  ∃u I F2,F=u++(I++F2)/\qW w p I /\
   ∀(w':World) (z:Pc) (g:List Nat),qW w' z g→w.heap.size<=w'.heap.size→(∀k∈u,w'.heap[k]?=w.heap[k]?)→(∀k∈F2,w'.heap[k]?=w.heap[k]?)→jG w' (ps.set j z) (u++(g++F2))
 | [],F,h,j,p,hj=>by simp at hj
 | q :: ps,F,h,0,p,hj=>by
  obtain ⟨u,F2,rfl,h1,h2⟩:=h
  simp only [List.getElem?_cons_zero,Option.some.injEq] at hj
  subst hj
  refine ⟨[],u,F2,rfl,h1,fun w' z g G D _ hk=>?_⟩
  rw [List.set_cons_zero,List.nil_append]
  exact ⟨g,F2,rfl,G,h2.keep D hk⟩
 | q :: ps,F,h,j+1,p,hj=>by
  obtain ⟨u,F2,rfl,h1,h2⟩:=h
  rw [List.getElem?_cons_succ] at hj
  obtain ⟨K,Q,J,rfl,h3,h4⟩:=jG.at_ h2 hj
  refine ⟨u++K,Q,J,by simp,h3,fun w' z g G D B H=>?_⟩
  rw [List.set_cons_succ]
  exact ⟨u,K++(g++J),by simp,h1.keep D fun k hk=>B k (List.mem_append_left _ hk),h4 w' z g G D (fun k hk=>B k (List.mem_append_right _ hk)) H⟩
def aJ (W w:World) (ps:List Pc):Prop:=Below W.heap.size W w/\∃F,jG w ps F/\F.Nodup/\∀k∈F,W.heap.size<=k
theorem aJ.bel {W w:World} {ps:List Pc} (h:aJ W w ps):Below W.heap.size W w:=h.1
theorem aJ.size {W w:World} {ps:List Pc} (h:aJ W w ps):W.heap.size<=w.heap.size:=h.1.size
theorem aJ.refl (W:World):aJ W W []:=⟨Below.refl _ _,[],rfl,by simp,by simp⟩
theorem aJ.nil {W w:World} (h:Below W.heap.size W w):aJ W w []:=⟨h,[],rfl,by simp,by simp⟩
theorem aJ.below {W w w':World} {ps:List Pc} (h:aJ W w ps) (g:Below w.heap.size w w'):aJ W w' ps:=by
 obtain ⟨h1,F,h2,h3,h4⟩:=h
 exact ⟨aA h1 g,F,h2.keep g.size fun k hk=>g.block k (h2.lt k hk),h3,h4⟩
theorem aJ.alloc {W w:World} {ps:List Pc} (h:aJ W w ps) (o:Obj):aJ W (w.alloc o) ps:=h.below (aB (Below.refl _ _) o)
theorem aJ.drew {W w:World} {ps:List Pc} (h:aJ W w ps):aJ W w.drew ps:=h.below (Below.refl _ _).drew
theorem aJ.drewN {W w:World} {ps:List Pc} (h:aJ W w ps) (n:Nat):aJ W (w.drewN n) ps:=h.below (bE (Below.refl _ _) n)
theorem aJ.push {W w w':World} {ps:List Pc} {p:Pc} {G:List Nat} (h:aJ W w ps) (j:Below w.heap.size w w') (u:qW w' p G) (hn:G.Nodup) (hg:∀k∈G,w.heap.size<=k):aJ W w' (ps++[p]):=by
 obtain ⟨h1,F,h2,h3,h4⟩:=h
 have hl:=h2.lt
 refine ⟨aA h1 j,F++(G++[]),(h2.keep j.size fun k hk=>j.block k (hl k hk)).append ⟨G,[],rfl,u,rfl⟩,?_,fun k hk=>?_⟩
 ·rw [List.append_nil,List.nodup_append]
  exact ⟨h3,hn,fun a q b g e=>by have:=hl a q;have:=hg b g;omega⟩
 rw [List.append_nil,List.mem_append] at hk
 rcases hk with hk|hk
 ·exact h4 k hk
 have:=hg k hk;have:=h1.size;omega
theorem aJ.cons {W w w':World} {ps:List Pc} {p:Pc} {G:List Nat} (h:aJ W w ps) (j:Below w.heap.size w w') (u:qW w' p G) (hn:G.Nodup) (hg:∀k∈G,w.heap.size<=k):aJ W w' (p :: ps):=by
 obtain ⟨h1,F,h2,h3,h4⟩:=h
 have hl:=h2.lt
 refine ⟨aA h1 j,G++F,⟨G,F,rfl,u,h2.keep j.size fun k hk=>j.block k (hl k hk)⟩,?_,fun k hk=>?_⟩
 ·rw [List.nodup_append]
  exact ⟨hn,h3,fun a q b g e=>by have:=hl b g;have:=hg a q;omega⟩
 rw [List.mem_append] at hk
 rcases hk with hk|hk
 ·have:=hg k hk;have:=h1.size;omega
 exact h4 k hk
theorem aJ.consOwn {W w w':World} {ps:List Pc} {A:Option Addr} {n c:Nat} {xs:List Int} (h:aJ W w ps) (g:Below w.heap.size w w') (ho:Own w.heap.size w' A n c xs):aJ W w' (.cel (aH xs) (.slice A n c) :: ps) :=
 h.cons g (show bO w' (aH xs) (.slice A n c) (blk A) from eB.2 ⟨ho.more (Nat.zero_le _),rfl⟩) (by cases A <;> simp [blk]) fun k hk=>by
  obtain ⟨a,rfl,rfl⟩:=nz.1 hk
  exact (ho.lt a rfl).1
theorem aJ.tail {W w:World} {p:Pc} {ps:List Pc} (h:aJ W w (p :: ps)):aJ W w ps:=by
 obtain ⟨h1,F,⟨g,F2,rfl,_,h3⟩,h4,h5⟩:=h
 exact ⟨h1,F2,h3,(List.nodup_append.1 h4).2.1,fun k hk=>h5 k (List.mem_append_right _ hk)⟩
theorem aJ.pushOwn {W w w':World} {ps:List Pc} {A:Option Addr} {n c:Nat} {xs:List Int} (h:aJ W w ps) (g:Below w.heap.size w w') (ho:Own w.heap.size w' A n c xs):aJ W w' (ps++[.cel (aH xs) (.slice A n c)]) :=
 h.push g (show bO w' (aH xs) (.slice A n c) (blk A) from eB.2 ⟨ho.more (Nat.zero_le _),rfl⟩) (by cases A <;> simp [blk]) fun k hk=>by
  obtain ⟨a,rfl,rfl⟩:=nz.1 hk
  exact (ho.lt a rfl).1
theorem aJ.pushT {W w w':World} {ps:List Pc} {c:Cel} {v:Value} {hi:Nat} (h:aJ W w ps) (g:Below w.heap.size w w') (ho:gI w.heap.size hi w' c v):aJ W w' (ps++[.cel c v]):=by
 obtain ⟨F,h1,h2,h3⟩:=ho
 exact h.push g h1 h2 fun k hk=>(h3 k hk).1
theorem aJ.pushBlk {W w:World} {ps:List Pc} (h:aJ W w ps) (cs:Array Value) (t:TypeId):aJ W (w.alloc (.cells cs t)) (ps++[.blk w.heap.size cs t]) :=
 h.push (aB (Below.refl _ _) _) (G:=[w.heap.size]) ⟨rfl,by simp,aI _ _,fun g j e h=>e.trans h⟩ (by simp) (by simp)
theorem aJ.pushNil {W w:World} {ps:List Pc} (h:aJ W w ps) (e s:Nat):aJ W w (ps++[.cel (.row e s []) (.slice none 0 0)]) :=
 h.push (Below.refl _ _) (G:=[]) (show bO w (.row e s []) (.slice none 0 0) [] by rw [dV];exact ⟨none,0,0,[],[],rfl,⟨by simp,.inl ⟨rfl,rfl⟩⟩,rfl,ek.2 ⟨rfl,rfl⟩⟩) (by simp) (by simp)
theorem aJ.pushNew {W w:World} {ps:List Pc} (h:aJ W w ps) (e s:Nat):aJ W (w.alloc (.cells #[] e)) (ps++[.cel (.row e s []) (.slice (some ⟨w.heap.size,0,none⟩) 0 0)]):=by
 obtain ⟨F,h1,h2,h3⟩:=ER (w:=w) e s rfl
 exact h.push (aB (Below.refl _ _) _) h1 h2 fun k hk=>(h3 k hk).1
theorem jG.sub {w:World} {ps qs:List Pc} (hs:qs.Sublist ps):∀{F:List Nat},jG w ps F→∃G,jG w qs G/\G.Sublist F:=by
 induction hs with
 | slnil=>intro F h;exact ⟨F,h,List.Sublist.refl _⟩
 | cons p _ ih =>
  intro F h
  obtain ⟨q,F2,rfl,_,h2⟩:=h
  obtain ⟨G,g,j⟩:=ih h2
  exact ⟨G,g,j.trans (List.sublist_append_right _ _)⟩
 | cons_cons p _ ih =>
  intro F h
  obtain ⟨q,F2,rfl,h1,h2⟩:=h
  obtain ⟨G,g,j⟩:=ih h2
  exact ⟨q++G,⟨q,G,rfl,h1,g⟩,List.Sublist.append (List.Sublist.refl _) j⟩
theorem aJ.sub {W w:World} {ps qs:List Pc} (h:aJ W w ps) (hs:qs.Sublist ps):aJ W w qs:=by
 obtain ⟨h1,F,h2,h3,h4⟩:=h
 obtain ⟨G,j,g⟩:=h2.sub hs
 exact ⟨h1,G,j,g.nodup h3,fun k hk=>h4 k (g.subset hk)⟩
theorem aJ.part {W w:World} {ps:List Pc} (h:aJ W w ps) (j:Nat) {p:Pc} (hj:ps[j]?=some p) :
  ∃B,qW w p B/\B.Nodup/\(∀k∈B,W.heap.size<=k/\k<w.heap.size) /\
   ∀(w':World) (G:Pc) (q:List Nat),qW w' G q→q.Nodup→(∀k∈q,k∈B∨w.heap.size<=k)→gp B w w'→aJ W w' (ps.set j G):=by
 obtain ⟨h1,F,h2,h3,h4⟩:=h
 have hl:=h2.lt
 obtain ⟨Q,B,F2,rfl,U,J⟩:=h2.at_ hj
 have R:=h3
 rw [List.nodup_append,List.nodup_append] at h3
 obtain ⟨n1,⟨n2,n3,I⟩,H⟩:=h3
 refine ⟨B,U,n2,fun k hk=>⟨h4 k (by simp [hk]),hl k (by simp [hk])⟩,fun w' G q K hn u ho=>⟨?_,Q++(q++F2),J w' G q K ho.size ?_ ?_,?_,?_⟩⟩
 ·refine ⟨ho.os.trans h1.os,ho.tape.trans h1.tape,ho.output.trans h1.output,Nat.le_trans h1.size ho.size,fun k hk=>?_⟩
  refine (ho.block k (Nat.lt_of_lt_of_le hk h1.size) fun g=>?_).trans (h1.block k hk)
  have:=h4 k (by simp [g])
  omega
 ·exact fun k hk=>ho.block k (hl k (by simp [hk])) fun g=>H k hk k (by simp [g]) rfl
 ·exact fun k hk=>ho.block k (hl k (by simp [hk])) fun g=>I k g k hk rfl
 ·rw [List.nodup_append,List.nodup_append]
  refine ⟨n1,⟨hn,n3,fun a D b z e=>?_⟩,fun a D b z e=>?_⟩
  ·subst e
   rcases u a D with g|g
   ·exact I a g a z rfl
   have:=hl a (by simp [z]);omega
  subst e
  rcases List.mem_append.1 z with z|z
  ·rcases u a z with g|g
   ·exact H a D a (by simp [g]) rfl
   have:=hl a (by simp [D]);omega
  exact H a D a (by simp [z]) rfl
 intro k hk
 simp only [List.mem_append] at hk
 rcases hk with hk|hk|hk
 ·exact h4 k (by simp [hk])
 ·rcases u k hk with g|g
  ·exact h4 k (by simp [g])
  have:=h1.size;omega
 exact h4 k (by simp [hk])
theorem aJ.same {W w:World} {ps:List Pc} (h:aJ W w ps) (j:Nat) {p g:Pc} (hj:ps[j]?=some p) (z:∀F,qW w p F→qW w g F):aJ W w (ps.set j g):=by
 obtain ⟨q,B,u,_,D⟩:=h.part j hj
 exact D w g q (z q B) u (fun k hk => .inl hk) (gp.refl _ _)
theorem aJ.two {W w:World} {ps:List Pc} (h:aJ W w ps) (i j:Nat) (ak:i≠j) {p q:Pc} (hi:ps[i]?=some p) (hj:ps[j]?=some q) :
  ∃B H,qW w p B/\qW w q H/\B.Nodup/\H.Nodup/\(∀k∈H,k∉B)/\(∀k∈B,W.heap.size<=k/\k<w.heap.size)/\(∀k∈H,W.heap.size<=k/\k<w.heap.size) /\
   ∀(w':World) (V:Pc) (z:List Nat),qW w' V z→z.Nodup→(∀k∈z,k∈B∨k∈H∨w.heap.size<=k)→gp B w w'→aJ W w' ((ps.set j (.cels [] [])).set i V):=by
 obtain ⟨h1,F,h2,h3,h4⟩:=h
 have hl:=h2.lt
 obtain ⟨Z,H,F2,rfl,k1,k2⟩:=h2.at_ hj
 -- the second piece is given up: its blocks stay beside the first one's
 have aq:=h3
 rw [List.nodup_append,List.nodup_append] at h3
 obtain ⟨n1,⟨n2,n3,n4⟩,n5⟩:=h3
 have hE:jG w (ps.set j (.cels [] [])) (Z++([]++F2)):=k2 w (.cels [] []) [] (show fB w [] [] [] from ek.2 ⟨rfl,rfl⟩) (Nat.le_refl _) (fun _ _=>rfl) (fun _ _=>rfl)
 rw [List.nil_append] at hE
 have Y:(ps.set j (.cels [] []))[i]?=some p:=by rw [List.getElem?_set_ne (by omega)];exact hi
 obtain ⟨U,B,R,hG,m1,m2⟩:=hE.at_ Y
 have J:∀k,k∈Z++F2↔k∈U++(B++R):=fun k=>by rw [hG]
 have K:(U++(B++R)).Nodup:=by
  rw [←hG,List.nodup_append]
  exact ⟨n1,n3,fun a I b G=>n5 a I b (by simp [G])⟩
 have ag:=K
 rw [List.nodup_append,List.nodup_append] at K
 obtain ⟨q1,⟨q2,q3,q4⟩,q5⟩:=K
 have Q:∀k∈H,k∉U++(B++R):=fun k hk g=>by
  rcases List.mem_append.1 ((J k).2 g) with g|g
  ·exact n5 k g k (by simp [hk]) rfl
  exact n4 k hk k g rfl
 have u:∀k,k∈U++(B++R)→W.heap.size<=k/\k<w.heap.size:=fun k hk=>by
  have:=(J k).2 hk
  have g:k∈Z++(H++F2):=by
   rcases List.mem_append.1 this with h|h
   ·simp [h]
   simp [h]
  exact ⟨h4 k g,hl k g⟩
 refine ⟨B,H,m1,k1,q2,n2,fun k hk g=>Q k hk (by simp [g]),fun k hk=>u k (by simp [hk]),fun k hk=>⟨h4 k (by simp [hk]),hl k (by simp [hk])⟩,fun w' V z hp hn D ho=>⟨?_,U++(z++R),m2 w' V z hp ho.size ?_ ?_,?_,?_⟩⟩
 ·refine ⟨ho.os.trans h1.os,ho.tape.trans h1.tape,ho.output.trans h1.output,Nat.le_trans h1.size ho.size,fun k hk=>?_⟩
  refine (ho.block k (Nat.lt_of_lt_of_le hk h1.size) fun g=>?_).trans (h1.block k hk)
  have:=u k (by simp [g])
  omega
 ·exact fun k hk=>ho.block k (u k (by simp [hk])).2 fun g=>q5 k hk k (by simp [g]) rfl
 ·exact fun k hk=>ho.block k (u k (by simp [hk])).2 fun g=>q4 k g k hk rfl
 ·rw [List.nodup_append,List.nodup_append]
  refine ⟨q1,⟨hn,q3,fun a I b G e=>?_⟩,fun a I b G e=>?_⟩
  ·subst e
   rcases D a I with g|g|g
   ·exact q4 a g a G rfl
   ·exact Q a g (by simp [G])
   have:=u a (by simp [G]);omega
  subst e
  rcases List.mem_append.1 G with G|G
  ·rcases D a G with g|g|g
   ·exact q5 a I a (by simp [g]) rfl
   ·exact Q a g (by simp [I])
   have:=u a (by simp [I]);omega
  exact q5 a I a (by simp [G]) rfl
 intro k hk
 simp only [List.mem_append] at hk
 rcases hk with hk|hk|hk
 ·exact (u k (by simp [hk])).1
 ·rcases D k hk with g|g|g
  ·exact (u k (by simp [g])).1
  ·exact h4 k (by simp [g])
  have:=h1.size;omega
 exact (u k (by simp [hk])).1
/-! ### blocks -/
theorem aJ.blk {W w:World} {ps:List Pc} (h:aJ W w ps) (j:Nat) {g:Nat} {cs:Array Value} {t:TypeId} (hj:ps[j]?=some (.blk g cs t)):w.heap[g]?=some (.cells cs t (0,0))/\W.heap.size<=g:=by
 obtain ⟨F,u,_,q,_⟩:=h.part j hj
 obtain ⟨rfl,_,h3,_⟩:=u
 exact ⟨h3,(q g (by simp)).1⟩
theorem aJ.own {W w:World} {ps:List Pc} (h:aJ W w ps) (j:Nat) {g:Nat} {P:World→Prop} (hj:ps[j]?=some (.own g P)):P w/\W.heap.size<=g/\g<w.heap.size:=by
 obtain ⟨F,u,_,q,_⟩:=h.part j hj
 obtain ⟨rfl,h2,h3,_⟩:=u
 exact ⟨h3,(q g (by simp)).1,h2⟩
theorem aJ.put {W w:World} {ps:List Pc} (h:aJ W w ps) (j:Nat) {g:Nat} {cs:Array Value} {t:TypeId} (hj:ps[j]?=some (.blk g cs t)) (k:Nat) (v:Value):aJ W (w.setCell ⟨g,k,none⟩ v) (ps.set j (.blk g (cs.setIfInBounds k v) t)):=by
 obtain ⟨F,q,_,_,u⟩:=h.part j hj
 obtain ⟨rfl,h2,h3,_⟩:=q
 exact u _ _ [g] ⟨rfl,by simpa [World.setCell] using h2,iK h3 k v,fun B z e h=>e.trans h⟩ (by simp) (fun k hk => .inl hk) (iU (by simp) v)
theorem aJ.own_upd {W w w':World} {ps:List Pc} (h:aJ W w ps) (j:Nat) {g:Nat} {P Q:World→Prop} (hj:ps[j]?=some (.own g P)) (hg:w.grownBy w' (some g)) (B:Q w') (q:∀z u:World,u.heap[g]?=z.heap[g]?→Q z→Q u):aJ W w' (ps.set j (.own g Q)):=by
 obtain ⟨F,D,_,_,G⟩:=h.part j hj
 obtain ⟨rfl,h2,h3,_⟩:=D
 exact G _ _ [g] ⟨rfl,Nat.lt_of_lt_of_le h2 hg.size,B,q⟩ (by simp) (fun k hk => .inl hk) ⟨hg.os,hg.tape,hg.output,hg.size,fun i hi hn=>hg.block i hi (by intro e;injection e with e;subst e;exact hn (by simp))⟩
/-! ### rows -/
theorem aJ.rd {W w:World} {ps:List Pc} (h:aJ W w ps) (j:Nat) {c:Cel} {v:Value} (hj:ps[j]?=some (.cel c v)):RdC w w.heap.size c v:=by
 obtain ⟨F,g,_⟩:=h.part j hj
 exact bO.rd g
theorem aJ.ints {W w:World} {ps:List Pc} (h:aJ W w ps) (j:Nat) {xs:List Int} {A:Option Addr} {n c:Nat} (hj:ps[j]?=some (.cel (aH xs) (.slice A n c))):dP w A n xs:=(h.rd j hj).ints
theorem aJ.owned {W w:World} {ps:List Pc} (h:aJ W w ps) (j:Nat) {xs:List Int} {A:Option Addr} {n c:Nat} (hj:ps[j]?=some (.cel (aH xs) (.slice A n c))):Own W.heap.size w A n c xs:=by
 obtain ⟨F,q,_,g,_⟩:=h.part j hj
 obtain ⟨o,rfl⟩:=eB.1 q
 exact o.at0 fun k hk=>(g k hk).1
theorem aJ.tree {W w:World} {ps:List Pc} (h:aJ W w ps) (j:Nat) {c:Cel} {v:Value} (hj:ps[j]?=some (.cel c v)):gI W.heap.size w.heap.size w c v:=by
 obtain ⟨F,u,g,q,_⟩:=h.part j hj
 exact ⟨F,u,g,q⟩
theorem aJ.num {W w:World} {ps:List Pc} (h:aJ W w ps) (j:Nat) {e s n q i:Nat} {A:Option Addr} {cs:List Cel} {x:Int} (hj:ps[j]?=some (.cel (.row e s cs) (.slice A n q))) (hi:cs[i]?=some (.int x)) :
  ∃g,A=some ⟨g,0,none⟩/\W.heap.size<=g/\g<w.heap.size/\w.cell? ⟨g,i,none⟩=some (.int .i64 x)/\w.frozen? ⟨g,i,none⟩=false /\
   ∀y:Int,aJ W (w.setCell ⟨g,i,none⟩ (.int .i64 y)) (ps.set j (.cel (.row e s (cs.set i (.int y))) (.slice A n q))):=by
 obtain ⟨F,D,u,z,G⟩:=h.part j hj
 obtain ⟨g,rfl,hg,hc,hf,B⟩:=bO.num D u hi
 exact ⟨g,rfl,(z g hg).1,(z g hg).2,hc,hf,fun y=>G _ _ F (B y) u (fun k hk => .inl hk) (iU hg _)⟩
theorem aJ.slot {W w:World} {ps:List Pc} (h:aJ W w ps) (i j:Nat) (u:i≠j) {e s n q m:Nat} {A:Option Addr} {cs:List Cel} {c z:Cel} {B:Value} (hi:ps[i]?=some (.cel (.row e s cs) (.slice A n q))) (R:cs[m]?=some c) (hj:ps[j]?=some (.cel z B)) :
  ∃g,A=some ⟨g,0,none⟩/\W.heap.size<=g/\g<w.heap.size/\(∃v,w.cell? ⟨g,m,none⟩=some v)/\w.frozen? ⟨g,m,none⟩=false /\
   aJ W (w.setCell ⟨g,m,none⟩ B) ((ps.set j (.cels [] [])).set i (.cel (.row e s (cs.set m z)) (.slice A n q))):=by
 obtain ⟨Fi,U,Z,H,Y,k4,I,D,k7,K⟩:=h.two i j u hi hj
 obtain ⟨g,v,Fm,rfl,hg,hc,hf,_,_,_,_,G⟩:=bO.slot Z Y R
 obtain ⟨F',Q,V,J⟩:=G w z B U H k4 (fun k hk => .inr (I k hk)) (gp.refl _ _)
 exact ⟨g,rfl,(D g hg).1,(D g hg).2,⟨v,hc⟩,hf,K _ _ F' Q V (fun k hk=>by rcases J k hk with h|h;exact .inl h;exact .inr (.inl h)) (iU hg _)⟩
/-! ### append -/
theorem vN {w w':World} {e size n g H lo:Nat} {A:Option Addr} {cs nc:List Cel} {F F2:List Nat} {U:List Value}
  (hF:F.Nodup) (z:fB w nc U F2) (W:F2.Nodup) (hd:∀k∈F2,k∉F) {vs:List Value} {F':List Nat} (R:F=blk A++F') (hl:fB w cs vs F')
  (Y:w'.ownsRow lo e size (.slice (some ⟨g,0,none⟩) n H) n (vs++U)) (J:w.grownBy w' (A.map (·.block))) (Z:A.map (·.block)=some g∨g=w.heap.size) :
  ∃G,bO w' (.row e size (cs++nc)) (.slice (some ⟨g,0,none⟩) n H) G/\G.Nodup/\(∀k∈G,k∈F∨k∈F2∨w.heap.size<=k)/\gp F w w':=by
 subst R
 have Q:∀k∈F',k<w.heap.size:=hl.lt
 have B:∀k∈F2,k<w.heap.size:=z.lt
 rw [List.nodup_append] at hF
 obtain ⟨m1,m2,m3⟩:=hF
 have j:∀k,k<w.heap.size→k∉blk A→w'.heap[k]?=w.heap[k]?:=fun k hk u=>by
  refine J.block k hk ?_
  cases hA':A with
  | none=>simp
  | some ad =>
   simp only [Option.map_some,ne_eq,Option.some.injEq]
   rintro rfl
   exact u (by rw [hA'];simp [_root_.Go.Proofs.YtofihjoanjkdmaaGreat.blk])
 have K:∀k∈F2,k∉blk A:=fun k hk u=>hd k hk (List.mem_append_left _ u)
 have I:∀k∈F',k∉blk A:=fun k hk u=>m3 k u k hk rfl
 have hL:fB w' (cs++nc) (vs++U) (F'++F2):=(hl.keep fun k hk=>j k (Q k hk) (I k hk)).append (z.keep fun k hk=>j k (B k hk) (K k hk))
 have D:A.map (·.block)=some g→g∈blk A:=fun hg=>by
  cases hA':A with
  | none=>rw [hA'] at hg;cases hg
  | some ad=>rw [hA'] at hg;simp at hg;simp [_root_.Go.Proofs.YtofihjoanjkdmaaGreat.blk,hg]
 have V:g∉F'/\g∉F2:=by
  rcases Z with hg|hg
  ·exact ⟨fun hk=>I g hk (D hg),fun hk=>K g hk (D hg)⟩
  subst hg
  exact ⟨fun hk=>by have:=Q _ hk;omega,fun hk=>by have:=B _ hk;omega⟩
 refine ⟨g :: (F'++F2),?_,?_,fun k hk=>?_,⟨J.os,J.tape,J.output,J.size,fun k hk hn=>j k hk fun hA=>hn (List.mem_append_left _ hA)⟩⟩
 ·rw [dV]
  exact ⟨_,_,_,_,F'++F2,rfl,⟨Y.1,by rcases Y.2 with h|⟨a,b,c',h,_,h'⟩;exact .inl h;exact .inr ⟨a,b,c',h,Nat.zero_le _,h'⟩⟩,rfl,hL⟩
 ·rw [List.nodup_cons,List.nodup_append]
  exact ⟨by simp only [List.mem_append,not_or];exact V,m2,W,fun p hp q hq e=>hd q hq (List.mem_append_right _ (e ▸ hp))⟩
 simp only [List.mem_cons,List.mem_append] at hk
 rcases hk with rfl|hk|hk
 ·rcases Z with hg|hg
  ·exact .inl (List.mem_append_left _ (D hg))
  exact .inr (.inr (by omega))
 ·exact .inl (List.mem_append_right _ hk)
 exact .inr (.inl hk)
theorem uS {w:World} {B:Nat} {g:Array Value} {e:TypeId} {z:Nat × Nat} (D:w.heap[B]?=some (.cells g e z)) (j:Nat) (u:Value) (q:g.toList[j]?=some u):w.cell? ((⟨B,0,none⟩:Addr).add j)=some u:=World.news_of_block D j u q
section
variable {ops:Array Oper} {rest:List Oper} {o:Oper} {a:Act} {Q:Exit→Act→World→Prop} {K:Act→World→Prop} {E:Prop} {w W:World}
theorem sW (ps:List Pc) (S:aJ W w ps) (i j:Nat) (z:i≠j) (e size n m c:Nat) (A:Option Addr) (cs nc:List Cel) (D:List Value) (hi:ps[i]?=some (.cel (.row e size cs) (.slice A n c))) (hj:ps[j]?=some (.cels nc D))
  {g q:Nat} {w':World} (vs:List Value) (B:∀F,bO w (.row e size cs) (.slice A n c) F→∃F',F=blk A++F'/\fB w cs vs F') (R:w'.ownsRow 0 e size (.slice (some ⟨g,0,none⟩) m q) m (vs++D)) (Y:w.grownBy w' (A.map (·.block))) (V:A.map (·.block)=some g∨g=w.heap.size) :
  aJ W w' ((ps.set j (.cels [] [])).set i (.cel (.row e size (cs++nc)) (.slice (some ⟨g,0,none⟩) m q))):=by
 obtain ⟨Fi,Fj,k1,H,k3,k4,I,_,_,K⟩:=S.two i j z hi hj
 obtain ⟨F',u,hl⟩:=B Fi k1
 obtain ⟨G,Q,Z,J,U⟩:=vN k3 H k4 I u hl R Y V
 exact K w' _ G Q Z J U
theorem CB {w:World} {e size n c:Nat} {A:Option Addr} {cs:List Cel} {U:List Nat} (h:bO w (.row e size cs) (.slice A n c) U):∃vs,w.ownsRow 0 e size (.slice A n c) n vs/\∀F,bO w (.row e size cs) (.slice A n c) F→∃F',F=blk A++F'/\fB w cs vs F':=by
 have h1:=h
 rw [dV] at h1
 obtain ⟨Z,n',Y,vs,F',B,z,rfl,hl⟩:=h1
 injection B with hA hn hc
 subst hA hn hc
 refine ⟨vs,z,fun F Q=>?_⟩
 rw [dV] at Q
 obtain ⟨A2,n2,c2,D,F2,I,u,rfl,H⟩:=Q
 injection I with hA hn hc
 subst hA hn hc
 have e:D=vs:=by
  rcases z.2 with ⟨B,rfl⟩|⟨g,R,cur,B,_,V,_,_,_,ht⟩
  ·have h2:=u.1
   have h3:=z.1
   rw [Nat.zero_mul] at h2 h3
   rw [List.length_eq_zero_iff.1 h2,List.length_eq_zero_iff.1 h3]
  rcases u.2 with ⟨q,_⟩|⟨W,J,K,q,_,j,_,_,_,G⟩
  ·rw [B] at q;injection q with hA _ _;cases hA
  rw [B] at q
  injection q with hA _ _
  injection hA with hA
  injection hA with hA _ _
  subst hA
  rw [V] at j
  injection j with j
  injection j with j _ _
  subst j
  rw [←ht,←G]
 subst e
 exact ⟨F2,rfl,H⟩
theorem gQ (J:o.guard=none) (s x:Operand) (t e:TypeId)
  (ho:o.op = .call { callee := .builtin .append,args:=#[s,x],argTypes:=#[t,t] }) (G:TypeInfo) (z:Value) (size bytes:Nat) (ht:Tryz.prog.underlying t=some (.slice e)) (H:Tryz.prog.info? e=some G) (ae:G.zero=some z)
  (Z:G.size=size) (af:G.bytes=bytes) (K:z.cells.size=size) (R:0<size) (Y:bytes<=64)
  (ps:List Pc) (S:aJ W w ps) (i j:Nat) (D:i≠j) (n c B:Nat) (A:Option Addr) (cs nc:List Cel) (u:Array Value) (fr:Nat × Nat) (hi:ps[i]?=some (.cel (.row e size cs) (.slice A n c))) (hj:ps[j]?=some (.cels nc u.toList))
  (hs:a.eval s = .slice A n c) (hx:a.eval x = .slice (some ⟨B,0,none⟩) 1 1) (hB:w.heap[B]?=some (.cells u e fr)) (I:u.size=size) (hn:n<=1099511627776)
  (h:∀g q w',aJ W w' ((ps.set j (.cels [] [])).set i (.cel (.row e size (cs++nc)) (.slice (some ⟨g,0,none⟩) (n+1) q)))→w.heap.size<=w'.heap.size →
   wpList Tryz.prog ops Q rest (a.put o.dst (.slice (some ⟨g,0,none⟩) (n+1) q)) w'):wpList Tryz.prog ops Q (o :: rest) a w:=by
 obtain ⟨Fi,Fj,k1,k2,_⟩:=S.two i j D hi hj
 obtain ⟨vs,V,ad⟩:=CB k1
 exact wpList_append_lies w J s x t ho 0 e G z size bytes ht H ae Z af K R (.slice A n c) n vs hs V ⟨B,0,none⟩ 1 1 u.toList hx (by simp [I]) (uS hB) (fB.one k2) (by omega) (by unfold maxLen;omega) (Nat.le_trans (Nat.mul_le_mul_left _ Y) (by omega)) (Nat.zero_le _) _ rfl
  fun g q w' g1 U g3 _=>by rw [iI] at U g3;exact h g q w' (sW ps S i j D e size n (n+1) c A cs nc u.toList hi hj vs ad g1 U g3) U.size
theorem wG (J:o.guard=none) (s x:Operand) (t e:TypeId)
  (ho:o.op = .call { callee := .builtin .append,args:=#[s,x],argTypes:=#[t,t] }) (G:TypeInfo) (z:Value) (size bytes:Nat) (ht:Tryz.prog.underlying t=some (.slice e)) (H:Tryz.prog.info? e=some G) (af:G.zero=some z)
  (ad:G.size=size) (ag:G.bytes=bytes) (R:z.cells.size=size) (U:0<size) (Z:bytes<=64)
  (ps:List Pc) (S:aJ W w ps) (i j:Nat) (D:i≠j) (n c B:Nat) (A:Option Addr) (cs nc:List Cel) (u:Array Value) (fr:Nat × Nat) (hi:ps[i]?=some (.cel (.row e size cs) (.slice A n c))) (hj:ps[j]?=some (.cels nc u.toList))
  (hs:a.eval s = .slice A n c) (hx:a.eval x = .slice (some ⟨B,0,none⟩) 1 1) (hB:w.heap[B]?=some (.cells u e fr)) (I:u.size=size) (hn:n<=1099511627776)
  (h:∀g q w',aJ W w' ((ps.set j (.cels [] [])).set i (.cel (.row e size (cs++nc)) (.slice (some ⟨g,0,none⟩) (n+1) q)))→w.heap.size<=w'.heap.size →
   K (a.put o.dst (.slice (some ⟨g,0,none⟩) (n+1) q)) w'):if Region.wanted o (yielded ops a.tmps)=true then Oper.wp Tryz.prog o a w K Q else E:=by
 obtain ⟨Fi,Fj,k1,k2,_⟩:=S.two i j D hi hj
 obtain ⟨vs,Y,ae⟩:=CB k1
 exact step_append_lies w J s x t ho 0 e G z size bytes ht H af ad ag R U (.slice A n c) n vs hs Y ⟨B,0,none⟩ 1 1 u.toList hx (by simp [I]) (uS hB) (fB.one k2) (by omega) (by unfold maxLen;omega) (Nat.le_trans (Nat.mul_le_mul_left _ Z) (by omega)) (Nat.zero_le _) _ rfl
  fun g q w' g1 V g3 _=>by rw [iI] at V g3;exact h g q w' (sW ps S i j D e size n (n+1) c A cs nc u.toList hi hj vs ae g1 V g3) V.size
theorem qH (ps:List Pc) (S:aJ W w ps) (i:Nat) (n m c:Nat) (A:Option Addr) (xs j:List Int) (hi:ps[i]?=some (.cel (aH xs) (.slice A n c)))
  {g q:Nat} {w':World} (D:w'.ownsRow 0 3 1 (.slice (some ⟨g,0,none⟩) m q) m (xs.map (Value.int .i64)++j.map (Value.int .i64))) (J:w.grownBy w' (A.map (·.block))) (I:A.map (·.block)=some g∨g=w.heap.size) :
  aJ W w' (ps.set i (.cel (aH (xs++j)) (.slice (some ⟨g,0,none⟩) m q))):=by
 obtain ⟨F,Q,u,_,R⟩:=S.part i hi
 obtain ⟨ho,rfl⟩:=eB.1 Q
 obtain ⟨G,B,K,z,H⟩:=vN (cs:=xs.map .int) (nc:=j.map .int) (F2:=[]) (F':=[]) u (mY.2 ⟨rfl,rfl⟩) (by simp) (by simp) (List.append_nil _).symm (mY.2 ⟨rfl,rfl⟩) D J I
 refine R w' _ G (by rw [aH,List.map_append];exact B) K (fun k hk=>?_) H
 rcases z k hk with h|h|h
 ·exact .inl h
 ·simp at h
 exact .inr h
theorem oK (ps:List Pc) (S:aJ W w ps) (i:Nat) (n c:Nat) (A:Option Addr) (xs:List Int) (hi:ps[i]?=some (.cel (aH xs) (.slice A n c))):w.ownsRow 0 3 1 (.slice A n c) n (xs.map (Value.int .i64)):=(S.owned i hi).more (Nat.zero_le _)
theorem gF (z:o.guard=none) (s x:Operand)
  (ho:o.op = .call { callee := .builtin .append,args:=#[s,x],argTypes:=#[26,26] })
  (ps:List Pc) (S:aJ W w ps) (i:Nat) (A:Option Addr) (n c:Nat) (xs:List Int) (y:Int) (B:Nat) (Y:Nat × Nat) (hi:ps[i]?=some (.cel (aH xs) (.slice A n c))) (hs:a.eval s = .slice A n c) (Z:a.eval x = .slice (some ⟨B,0,none⟩) 1 1) (R:w.heap[B]?=some (.cells #[.int .i64 y] 3 Y))
  (hn:n<=1099511627776)
  (h:∀g j w',aJ W w' (ps.set i (.cel (aH (xs++[y])) (.slice (some ⟨g,0,none⟩) (n+1) j)))→w.heap.size<=w'.heap.size →
   wpList Tryz.prog ops Q rest (a.put o.dst (.slice (some ⟨g,0,none⟩) (n+1) j)) w'):wpList Tryz.prog ops Q (o :: rest) a w:=by
 obtain ⟨U,q,H,G,I⟩:=info_parts jL
 exact wpList_append_lies w z s x 26 ho 0 3 U (.int .i64 0) 1 8 Tryz.underlying26 q H G I rfl (by omega) (.slice A n c) n (xs.map (Value.int .i64)) hs (oK ps S i n c A xs hi) ⟨B,0,none⟩ 1 1 [.int .i64 y] Z rfl (uS R) (fun u J=>by simp at J;subst J;rfl) (by omega) (by unfold maxLen;omega) (by omega) (Nat.zero_le _) _ rfl
  fun g j w' V D K _=>by rw [iI] at D K;exact h g j w' (qH ps S i n (n+1) c A xs [y] hi V D K) D.size
theorem sZ (z:o.guard=none) (s x:Operand)
  (ho:o.op = .call { callee := .builtin .append,args:=#[s,x],argTypes:=#[26,26] })
  (ps:List Pc) (S:aJ W w ps) (i:Nat) (A:Option Addr) (n c:Nat) (xs:List Int) (y:Int) (B:Nat) (Z:Nat × Nat) (hi:ps[i]?=some (.cel (aH xs) (.slice A n c))) (hs:a.eval s = .slice A n c) (hx:a.eval x = .slice (some ⟨B,0,none⟩) 1 1) (U:w.heap[B]?=some (.cells #[.int .i64 y] 3 Z))
  (hn:n<=1099511627776)
  (h:∀g j w',aJ W w' (ps.set i (.cel (aH (xs++[y])) (.slice (some ⟨g,0,none⟩) (n+1) j)))→w.heap.size<=w'.heap.size →
   K (a.put o.dst (.slice (some ⟨g,0,none⟩) (n+1) j)) w'):if Region.wanted o (yielded ops a.tmps)=true then Oper.wp Tryz.prog o a w K Q else E:=by
 obtain ⟨V,q,H,G,I⟩:=info_parts jL
 exact step_append_lies w z s x 26 ho 0 3 V (.int .i64 0) 1 8 Tryz.underlying26 q H G I rfl (by omega) (.slice A n c) n (xs.map (Value.int .i64)) hs (oK ps S i n c A xs hi) ⟨B,0,none⟩ 1 1 [.int .i64 y] hx rfl (uS U) (fun u J=>by simp at J;subst J;rfl) (by omega) (by unfold maxLen;omega) (by omega) (Nat.zero_le _) _ rfl
  fun g j w' Y D R _=>by rw [iI] at D R;exact h g j w' (qH ps S i n (n+1) c A xs [y] hi Y D R) D.size
end
end Go.Proofs.YtofihjoanjkdmaaGreat
