/- Codewords: plain arithmetic; no program in sight. -/
import Derived.Laws.BitsAllLaws
import Derived.Test.YtofihjoanjkdmaaGreatFrame
namespace Go.Proofs.YtofihjoanjkdmaaGreat.Cw
def bit (x i:Nat):Nat:=x / 2 ^ i % 2
/-! ### check bits -/
end Go.Proofs.YtofihjoanjkdmaaGreat.Cw
namespace Go.Proofs.YtofihjoanjkdmaaGreat
set_option maxRecDepth 100000
open Go.RowKit
inductive Cel where
 | int (x:Int)
 | row (e size:Nat) (cs:List Cel)
def blk (A:Option Addr):List Nat:=match A with|none=>[]|some a=>[a.block]
theorem nz {A:Option Addr} {k:Nat}:k∈blk A↔∃a,A=some a/\a.block=k:=by cases A <;> simp [blk,eq_comm]
mutual
def bO (w:World):Cel→Value→List Nat→Prop
 | .int x,v,F=>v = .int .i64 x/\F=[]
 | .row e s cs,v,F=>∃A n g vs F',v = .slice A n g/\w.ownsRow 0 e s v n vs/\F=blk A++F'/\fB w cs vs F'
def fB (w:World):List Cel→List Value→List Nat→Prop
 | [],vs,F=>vs=[]/\F=[]
 | c :: cs,vs,F=>∃v g j F2,vs=v :: g/\F=j++F2/\bO w c v j/\fB w cs g F2
end
theorem ed {w:World} {x:Int} {v:Value} {F:List Nat}:bO w (.int x) v F↔v = .int .i64 x/\F=[]:=by rw [bO]
theorem dV {w:World} {e s:Nat} {cs:List Cel} {v:Value} {F:List Nat}:bO w (.row e s cs) v F↔∃A n g vs F',v = .slice A n g/\w.ownsRow 0 e s v n vs/\F=blk A++F'/\fB w cs vs F':=by rw [bO]
theorem ek {w:World} {vs:List Value} {F:List Nat}:fB w [] vs F↔vs=[]/\F=[]:=by rw [fB]
theorem bK {w:World} {c:Cel} {cs:List Cel} {vs:List Value} {F:List Nat}:fB w (c :: cs) vs F↔∃v g j F2,vs=v :: g/\F=j++F2/\bO w c v j/\fB w cs g F2:=by rw [fB]
theorem xO {w w':World} {base e s n c m:Nat} {A:Option Addr} {xs:List Value} (h:w.ownsRow base e s (.slice A n c) m xs) (hk:∀k∈blk A,w'.heap[k]?=w.heap[k]?):w'.ownsRow base e s (.slice A n c) m xs :=
 fF h fun a g=>hk _ (nz.2 ⟨a,g,rfl⟩)
theorem tV {w:World} {base e s n c m:Nat} {A:Option Addr} {xs:List Value} (h:w.ownsRow base e s (.slice A n c) m xs):∀k∈blk A,base<=k/\k<w.heap.size:=by
 intro k hk
 obtain ⟨a,rfl,rfl⟩:=nz.1 hk
 exact h.lt _ rfl
mutual
theorem bO.keep {w w':World}:∀{c:Cel} {v:Value} {F:List Nat},bO w c v F→(∀k∈F,w'.heap[k]?=w.heap[k]?)→bO w' c v F
 | .int x,v,F,h,_=>by rw [ed] at h ⊢;exact h
 | .row e s cs,v,F,h,hk=>by
  rw [dV] at h ⊢
  obtain ⟨A,n,j,vs,F',rfl,ho,rfl,hl⟩:=h
  exact ⟨A,n,j,vs,F',rfl,xO ho fun k g=>hk k (List.mem_append_left _ g),rfl,fB.keep hl fun k g=>hk k (List.mem_append_right _ g)⟩
theorem fB.keep {w w':World}:∀{cs:List Cel} {vs:List Value} {F:List Nat},fB w cs vs F→(∀k∈F,w'.heap[k]?=w.heap[k]?)→fB w' cs vs F
 | [],vs,F,h,_=>by rw [ek] at h ⊢;exact h
 | c :: cs,vs,F,h,hk=>by
  rw [bK] at h ⊢
  obtain ⟨v,j,q,F2,rfl,rfl,h1,h2⟩:=h
  exact ⟨v,j,q,F2,rfl,rfl,bO.keep h1 fun k g=>hk k (List.mem_append_left _ g),fB.keep h2 fun k g=>hk k (List.mem_append_right _ g)⟩
end
mutual
theorem bO.lt {w:World}:∀{c:Cel} {v:Value} {F:List Nat},bO w c v F→∀k∈F,k<w.heap.size
 | .int x,v,F,h=>by rw [ed] at h;rw [h.2];simp
 | .row e s cs,v,F,h=>by
  rw [dV] at h
  obtain ⟨A,n,g,vs,F',rfl,ho,rfl,hl⟩:=h
  intro k hk
  rcases List.mem_append.1 hk with hk|hk
  ·exact (tV ho k hk).2
  exact fB.lt hl k hk
theorem fB.lt {w:World}:∀{cs:List Cel} {vs:List Value} {F:List Nat},fB w cs vs F→∀k∈F,k<w.heap.size
 | [],vs,F,h=>by rw [ek] at h;rw [h.2];simp
 | c :: cs,vs,F,h=>by
  rw [bK] at h
  obtain ⟨v,g,j,F2,rfl,rfl,h1,h2⟩:=h
  intro k hk
  rcases List.mem_append.1 hk with hk|hk
  ·exact bO.lt h1 k hk
  exact fB.lt h2 k hk
end
theorem fB.len {w:World}:∀{cs:List Cel} {vs:List Value} {F:List Nat},fB w cs vs F→vs.length=cs.length
 | [],vs,F,h=>by rw [ek] at h;rw [h.1];rfl
 | c :: cs,vs,F,h=>by
  rw [bK] at h
  obtain ⟨v,g,j,F2,rfl,rfl,h1,h2⟩:=h
  simp [fB.len h2]
theorem bO.one {w:World}:∀{c:Cel} {v:Value} {F:List Nat},bO w c v F→v.oneCell'=true
 | .int x,v,F,h=>by rw [ed] at h;rw [h.1];rfl
 | .row e s cs,v,F,h=>by
  rw [dV] at h
  obtain ⟨A,n,g,vs,F',rfl,_⟩:=h
  rfl
theorem fB.one {w:World}:∀{cs:List Cel} {vs:List Value} {F:List Nat},fB w cs vs F→∀v∈vs,v.oneCell'=true
 | [],vs,F,h=>by rw [ek] at h;rw [h.1];simp
 | c :: cs,vs,F,h=>by
  rw [bK] at h
  obtain ⟨v,j,q,F2,rfl,rfl,h1,h2⟩:=h
  intro u g
  rcases List.mem_cons.1 g with rfl|g
  ·exact h1.one
  exact fB.one h2 u g
theorem fB.append {w:World}:∀{cs:List Cel} {vs:List Value} {F:List Nat},fB w cs vs F→∀{j:List Cel} {g:List Value} {F':List Nat},fB w j g F'→fB w (cs++j) (vs++g) (F++F')
 | [],vs,F,h,j,g,F',q=>by rw [ek] at h;rw [h.1,h.2];exact q
 | c :: cs,vs,F,h,j,g,F',q=>by
  rw [bK] at h
  obtain ⟨v,u,z,F2,rfl,rfl,h1,h2⟩:=h
  rw [List.cons_append,bK]
  exact ⟨v,u++g,z,F2++F',rfl,List.append_assoc _ _ _,h1,fB.append h2 q⟩
theorem fB.at_ {w:World}:∀{cs:List Cel} {vs:List Value} {F:List Nat},fB w cs vs F→∀{j:Nat},j<cs.length →
  ∃c v q H F2,cs[j]?=some c/\vs[j]?=some v/\F=q++(H++F2)/\bO w c v H /\
   ∀(w':World) (D:Cel) (z:Value) (g:List Nat),bO w' D z g→(∀k∈q,w'.heap[k]?=w.heap[k]?)→(∀k∈F2,w'.heap[k]?=w.heap[k]?)→fB w' (cs.set j D) (vs.set j z) (q++(g++F2))
 | [],vs,F,h,j,hj=>by simp at hj
 | c :: cs,vs,F,h,0,hj=>by
  rw [bK] at h
  obtain ⟨v,u,q,F2,rfl,rfl,h1,h2⟩:=h
  refine ⟨c,v,[],q,F2,rfl,rfl,rfl,h1,fun w' D z g hc _ hk=>?_⟩
  rw [List.set_cons_zero,List.set_cons_zero,bK]
  exact ⟨z,u,g,F2,rfl,rfl,hc,h2.keep hk⟩
 | c :: cs,vs,F,h,j+1,hj=>by
  rw [bK] at h
  obtain ⟨v,u,q,F2,rfl,rfl,h1,h2⟩:=h
  obtain ⟨K,R,J,Q,I,e1,e2,rfl,h3,h4⟩:=fB.at_ h2 (j:=j) (by simpa using hj)
  refine ⟨K,R,q++J,Q,I,by simpa using e1,by simpa using e2,by simp,h3,fun w' D z g hc B G=>?_⟩
  rw [List.set_cons_succ,List.set_cons_succ,bK]
  exact ⟨v,u.set j z,q,J++(g++I),rfl,by simp,h1.keep fun k hk=>B k (List.mem_append_left _ hk),h4 w' D z g hc (fun k hk=>B k (List.mem_append_right _ hk)) G⟩
theorem kX {w:World} {base e s n c m j:Nat} {A:Option Addr} {xs:List Value} (h:w.ownsRow base e s (.slice A n c) m xs) {v:Value} (q:xs[j]?=some v) :
  ∃g cur,A=some ⟨g,0,none⟩/\n=m/\n<=c/\c<=maxLen/\w.heap[g]?=some (.cells cur e (0,0))/\cur.size=c * s/\cur.toList.take (m * s)=xs/\w.cell? ⟨g,j,none⟩=some v/\w.frozen? ⟨g,j,none⟩=false:=by
 have hj:j<xs.length:=(List.getElem?_eq_some_iff.1 q).1
 rcases h.2 with ⟨_,h0⟩|⟨g,z,cur,hA,_,u,h1,h2,h3,h4⟩
 ·have:=h.1
  subst h0
  simp at this
  subst this
  simp at hj
 injection hA with hA hn hc
 subst hA hn hc
 refine ⟨g,cur,rfl,rfl,h1,h2,u,h3,h4,?_,by unfold World.frozen?;rw [u];simp⟩
 unfold World.cell?
 rw [u]
 simp only [Option.isSome_none,Bool.false_eq_true,if_false]
 rw [←h4,List.getElem?_take] at q
 split at q
 ·simpa using q
 cases q
theorem uW {α:Type} {xs:List α} {j:Nat} {x:α} (h:xs[j]?=some x):xs.set j x=xs:=by
 apply List.ext_getElem?
 intro i
 rw [List.getElem?_set]
 split
 ·rename_i e
  subst e
  split
  ·exact h.symm
  rename_i hj
  rw [List.getElem?_eq_none (by omega)]
 rfl
theorem bO.cell {w:World} {e s n q j:Nat} {A:Option Addr} {cs:List Cel} {F:List Nat} (h:bO w (.row e s cs) (.slice A n q) F) (hj:j<cs.length) :
  ∃g c v D I F2,A=some ⟨g,0,none⟩/\cs[j]?=some c/\w.cell? ⟨g,j,none⟩=some v/\w.frozen? ⟨g,j,none⟩=false/\F=g :: (D++(I++F2))/\bO w c v I /\
   (∀(w':World) (z:Cel),bO w' z v I→w'.heap[g]?=w.heap[g]?→(∀k∈D,w'.heap[k]?=w.heap[k]?)→(∀k∈F2,w'.heap[k]?=w.heap[k]?)→bO w' (.row e s (cs.set j z)) (.slice A n q) F) /\
   (∀(z:Cel) (G:Value) (u:List Nat),bO w z G u→g∉D→g∉u→g∉F2→bO (w.setCell ⟨g,j,none⟩ G) (.row e s (cs.set j z)) (.slice A n q) (g :: (D++(u++F2)))):=by
 rw [dV] at h
 obtain ⟨A',n',ad,vs,F',hv,ho,rfl,hl⟩:=h
 injection hv with hA hn hc
 subst hA hn hc
 obtain ⟨c,v,D,I,F2,e1,e2,rfl,h3,h4⟩:=hl.at_ hj
 obtain ⟨g,cur,rfl,af,K,W,hh,U,ht,B,J⟩:=kX ho e2
 refine ⟨g,c,v,D,I,F2,rfl,e1,B,J,rfl,h3,fun w' z hc hg Q Y=>?_,fun z G u hc V Z R=>?_⟩
 ·rw [dV]
  refine ⟨_,n,q,vs,_,rfl,fF ho (by rintro a ⟨⟩;exact hg),rfl,?_⟩
  have:=h4 w' z v I hc Q Y
  rwa [show vs.set j v=vs from uW e2] at this
 rw [dV]
 have H:∀{L:List Nat},g∉L→∀k∈L,(w.setCell ⟨g,j,none⟩ G).heap[k]?=w.heap[k]?:=fun hn k hk=>Below.heap_setCell _ _ _ _ (by rintro rfl;exact hn hk)
 refine ⟨_,n,q,vs.set j G,D++(u++F2),rfl,⟨by rw [List.length_set];exact ho.1,.inr ⟨g,q,cur.setIfInBounds j G,rfl,Nat.zero_le _,by simp [World.setCell,Array.getElem?_modify,hh],K,W,by simp [U],?_⟩⟩,rfl,
  h4 _ z G u (hc.keep (H Z)) (H V) (H R)⟩
 simp only [Array.toList_setIfInBounds,List.take_set,ht]
def gI (lo hi:Nat) (w:World) (c:Cel) (v:Value):Prop:=∃F,bO w c v F/\F.Nodup/\∀k∈F,lo<=k/\k<hi
theorem gI.keep {lo hi:Nat} {w w':World} {c:Cel} {v:Value} (h:gI lo hi w c v) (hk:∀k,lo<=k→k<hi→k<w.heap.size→w'.heap[k]?=w.heap[k]?):gI lo hi w' c v:=by
 obtain ⟨F,h1,h2,h3⟩:=h
 exact ⟨F,h1.keep fun k g=>hk k (h3 k g).1 (h3 k g).2 (h1.lt k g),h2,h3⟩
theorem gI.below {lo hi:Nat} {w w':World} {c:Cel} {v:Value} (h:gI lo hi w c v) (g:Below w.heap.size w w'):gI lo hi w' c v:=h.keep fun k _ _ hk=>g.block k hk
theorem gI.drewd {lo hi:Nat} {w:World} {c:Cel} {v:Value} (h:gI lo hi w c v):gI lo hi w.drew c v:=h.keep fun _ _ _ _=>rfl
theorem gI.widen {lo hi j g:Nat} {w:World} {c:Cel} {v:Value} (h:gI lo hi w c v) (h1:j<=lo) (h2:hi<=g):gI j g w c v:=by
 obtain ⟨F,z,q,u⟩:=h
 exact ⟨F,z,q,fun k hk=>by have:=u k hk;omega⟩
theorem gI.int {lo hi:Nat} {w:World} (x:Int):gI lo hi w (.int x) (.int .i64 x):=⟨[],ed.2 ⟨rfl,rfl⟩,by simp,by simp⟩
def dh (lo hi:Nat) (w:World) (cs:List Cel) (vs:List Value):Prop:=∃F,fB w cs vs F/\F.Nodup/\∀k∈F,lo<=k/\k<hi
theorem dh.keep {lo hi:Nat} {w w':World} {cs:List Cel} {vs:List Value} (h:dh lo hi w cs vs) (hk:∀k,lo<=k→k<hi→k<w.heap.size→w'.heap[k]?=w.heap[k]?):dh lo hi w' cs vs:=by
 obtain ⟨F,h1,h2,h3⟩:=h
 exact ⟨F,h1.keep fun k g=>hk k (h3 k g).1 (h3 k g).2 (h1.lt k g),h2,h3⟩
theorem dh.below {lo hi:Nat} {w w':World} {cs:List Cel} {vs:List Value} (h:dh lo hi w cs vs) (g:Below w.heap.size w w'):dh lo hi w' cs vs:=h.keep fun k _ _ hk=>g.block k hk
theorem dh.nil {lo hi:Nat} {w:World}:dh lo hi w [] []:=⟨[],ek.2 ⟨rfl,rfl⟩,by simp,by simp⟩
theorem dh.widen {lo hi j g:Nat} {w:World} {cs:List Cel} {vs:List Value} (h:dh lo hi w cs vs) (h1:j<=lo) (h2:hi<=g):dh j g w cs vs:=by
 obtain ⟨F,z,q,u⟩:=h
 exact ⟨F,z,q,fun k hk=>by have:=u k hk;omega⟩
theorem gI.cell {lo hi:Nat} {w:World} {e s n I j:Nat} {A:Option Addr} {cs:List Cel} (h:gI lo hi w (.row e s cs) (.slice A n I)) (hj:j<cs.length) :
  ∃g c v,A=some ⟨g,0,none⟩/\lo<=g/\g<hi/\g<w.heap.size/\cs[j]?=some c/\w.cell? ⟨g,j,none⟩=some v/\w.frozen? ⟨g,j,none⟩=false /\
   (∃z,bO w c v z/\z.Nodup/\g∉z/\(∀k∈z,lo<=k/\k<hi) /\
    (∀(w':World) (B:Cel),bO w' B v z→(∀k,lo<=k→k<hi→k<w.heap.size→k∉z→w'.heap[k]?=w.heap[k]?)→gI lo hi w' (.row e s (cs.set j B)) (.slice A n I))) /\
   (∀(B:Cel) (v':Value) (H D:Nat),gI H D w B v'→hi<=H∨(∃x,B = .int x)→lo<=H→hi<=D→gI lo D (w.setCell ⟨g,j,none⟩ v') (.row e s (cs.set j B)) (.slice A n I)):=by
 obtain ⟨F,h1,h2,h3⟩:=h
 obtain ⟨g,c,v,F1,z,F2,rfl,e1,hc,hf,rfl,h4,h5,h6⟩:=h1.cell hj
 have hg:=h3 g (by simp)
 rw [List.nodup_cons] at h2
 obtain ⟨u,K⟩:=h2
 simp only [List.mem_append,not_or] at u
 have Y:=K
 rw [List.nodup_append,List.nodup_append] at K
 obtain ⟨n1,⟨n2,n3,n4⟩,n5⟩:=K
 refine ⟨g,c,v,rfl,hg.1,hg.2,h1.lt g (by simp),e1,hc,hf,⟨z,h4,n2,u.2.1,fun k hk=>h3 k (by simp [hk]),fun w' B ag hk=>?_⟩,fun B v' H D ho Z ak ap=>?_⟩
 ·refine ⟨_,h5 w' B ag (hk g hg.1 hg.2 (h1.lt g (by simp)) u.2.1) (fun k W=>?_) (fun k ad=>?_),?_,h3⟩
  ·have R:k∈g :: (F1++(z++F2)):=by simp [W]
   exact hk k (h3 k R).1 (h3 k R).2 (h1.lt k R) fun Q=>n5 k W k (by simp [Q]) rfl
  ·have R:k∈g :: (F1++(z++F2)):=by simp [ad]
   exact hk k (h3 k R).1 (h3 k R).2 (h1.lt k R) fun Q=>n4 k Q k ad rfl
  rw [List.nodup_cons]
  exact ⟨by simp only [List.mem_append,not_or];exact u,Y⟩
 obtain ⟨G,g1,g2,g3⟩:=ho
 have q:∀x∈g :: (F1++(z++F2)),x∉G:=by
  intro x V U
  rcases Z with hs|⟨y,rfl⟩
  ·have:=h3 x V
   have:=g3 x U
   omega
  rw [ed] at g1
  rw [g1.2] at U
  simp at U
 refine ⟨_,h6 B v' G g1 u.1 (q g (by simp)) u.2.2,?_,fun k hk=>?_⟩
 ·rw [List.nodup_cons,List.nodup_append,List.nodup_append]
  refine ⟨by simp only [List.mem_append,not_or];exact ⟨u.1,q g (by simp),u.2.2⟩,n1,⟨g2,n3,fun x V y J=>?_⟩,fun x V y J=>?_⟩
  ·rintro rfl
   exact q x (by simp [J]) V
  rintro rfl
  rcases List.mem_append.1 J with J|J
  ·exact q x (by simp [V]) J
  exact n5 x V x (by simp [J]) rfl
 simp only [List.mem_cons,List.mem_append] at hk
 rcases hk with rfl|hk|hk|hk
 ·omega
 ·have:=h3 k (by simp [hk]);omega
 ·have:=g3 k hk;omega
 have:=h3 k (by simp [hk]);omega
/-! ### reading -/
mutual
def RdC (w:World) (B:Nat):Cel→Value→Prop
 | .int x,v=>v = .int .i64 x
 | .row _ s cs,v=>∃A n g,v = .slice A n g/\cs.length=n * s/\(cs=[]∨∃b o vs,A=some ⟨b,o,none⟩/\b<B/\(∀(j:Nat) (u:Value),vs[j]?=some u→w.cell? ⟨b,o+j,none⟩=some u)/\RdL w B cs vs)
def RdL (w:World) (B:Nat):List Cel→List Value→Prop
 | [],vs=>vs=[]
 | c :: cs,vs=>∃v g,vs=v :: g/\RdC w B c v/\RdL w B cs g
end
theorem jV {w:World} {B:Nat} {x:Int} {v:Value}:RdC w B (.int x) v↔v = .int .i64 x:=by rw [RdC]
theorem mQ {w:World} {B e s:Nat} {cs:List Cel} {v:Value}:RdC w B (.row e s cs) v↔∃A n g,v = .slice A n g/\cs.length=n * s/\(cs=[]∨∃b o vs,A=some ⟨b,o,none⟩/\b<B/\(∀(j:Nat) (u:Value),vs[j]?=some u→w.cell? ⟨b,o+j,none⟩=some u)/\RdL w B cs vs):=by rw [RdC]
theorem kY {w:World} {B:Nat} {vs:List Value}:RdL w B [] vs↔vs=[]:=by rw [RdL]
theorem fG {w:World} {B:Nat} {c:Cel} {cs:List Cel} {vs:List Value}:RdL w B (c :: cs) vs↔∃v g,vs=v :: g/\RdC w B c v/\RdL w B cs g:=by rw [RdL]
mutual
theorem RdC.keep {w w':World} {B B':Nat} (q:B<=B') (hk:∀k,k<B→w'.heap[k]?=w.heap[k]?):∀{c:Cel} {v:Value},RdC w B c v→RdC w' B' c v
 | .int x,v,h=>by rw [jV] at h ⊢;exact h
 | .row e s cs,v,h=>by
  rw [mQ] at h ⊢
  obtain ⟨A,n,g,rfl,hl,h⟩:=h
  refine ⟨A,n,g,rfl,hl,?_⟩
  rcases h with h|⟨b,o,vs,rfl,z,hc,hr⟩
  ·exact .inl h
  exact .inr ⟨b,o,vs,rfl,Nat.lt_of_lt_of_le z q,fun j u D=>(World.cell?_of_block (a:=⟨b,o+j,none⟩) (hk b z)).trans (hc j u D),RdL.keep q hk hr⟩
theorem RdL.keep {w w':World} {B B':Nat} (j:B<=B') (hk:∀k,k<B→w'.heap[k]?=w.heap[k]?):∀{cs:List Cel} {vs:List Value},RdL w B cs vs→RdL w' B' cs vs
 | [],vs,h=>by rw [kY] at h ⊢;exact h
 | c :: cs,vs,h=>by
  rw [fG] at h ⊢
  obtain ⟨v,g,rfl,h1,h2⟩:=h
  exact ⟨v,g,rfl,RdC.keep j hk h1,RdL.keep j hk h2⟩
end
theorem RdC.below {w w':World} {c:Cel} {v:Value} (h:RdC w w.heap.size c v) (g:Below w.heap.size w w'):RdC w' w'.heap.size c v:=h.keep g.size g.block
theorem RdL.at_ {w:World} {B:Nat}:∀{cs:List Cel} {vs:List Value},RdL w B cs vs→∀{j:Nat},j<cs.length→∃c v,cs[j]?=some c/\vs[j]?=some v/\RdC w B c v
 | [],vs,h,j,hj=>by simp at hj
 | c :: cs,vs,h,0,hj=>by
  rw [fG] at h
  obtain ⟨v,g,rfl,h1,h2⟩:=h
  exact ⟨c,v,rfl,rfl,h1⟩
 | c :: cs,vs,h,j+1,hj=>by
  rw [fG] at h
  obtain ⟨v,g,rfl,h1,h2⟩:=h
  obtain ⟨q,u,e1,e2,h3⟩:=RdL.at_ h2 (j:=j) (by simpa using hj)
  exact ⟨q,u,by simpa using e1,by simpa using e2,h3⟩
theorem RdC.len {w:World} {B e s n g:Nat} {A:Option Addr} {cs:List Cel} (h:RdC w B (.row e s cs) (.slice A n g)):cs.length=n * s:=by
 rw [mQ] at h
 obtain ⟨z,u,j,q,hl,_⟩:=h
 injection q with _ hn _
 subst hn
 exact hl
theorem RdC.cell {w:World} {B e s n g:Nat} {A:Option Addr} {cs:List Cel} (h:RdC w B (.row e s cs) (.slice A n g)) (h0:0<cs.length) :
  ∃b o,A=some ⟨b,o,none⟩/\b<B/\∀j,j<cs.length→∃c v,cs[j]?=some c/\w.cell? ⟨b,o+j,none⟩=some v/\RdC w B c v:=by
 rw [mQ] at h
 obtain ⟨D,G,q,u,hl,h⟩:=h
 injection u with hA _ _
 subst hA
 rcases h with rfl|⟨b,o,vs,rfl,z,hc,hr⟩
 ·simp at h0
 refine ⟨b,o,rfl,z,fun j hj=>?_⟩
 obtain ⟨c,v,e1,e2,h3⟩:=hr.at_ hj
 exact ⟨c,v,e1,hc j v e2,h3⟩
mutual
theorem bO.rd {w:World}:∀{c:Cel} {v:Value} {F:List Nat},bO w c v F→RdC w w.heap.size c v
 | .int x,v,F,h=>by rw [ed] at h;rw [jV];exact h.1
 | .row e s cs,v,F,h=>by
  rw [dV] at h
  obtain ⟨A,n,q,vs,F',rfl,ho,rfl,hl⟩:=h
  rw [mQ]
  refine ⟨A,n,q,rfl,by rw [←hl.len];exact ho.1,?_⟩
  rcases Nat.eq_zero_or_pos cs.length with h0|h0
  ·exact .inl (List.eq_nil_of_length_eq_zero h0)
  right
  have B:=hl.len
  have z:vs[0]?=some (vs[0]'(by omega)):=List.getElem?_eq_getElem (by omega)
  obtain ⟨g,cur,rfl,_⟩:=kX ho z
  refine ⟨g,0,vs,rfl,(tV ho g (by simp [blk])).2,fun j u G=>?_,fB.rd hl⟩
  obtain ⟨H,D,hA,_,_,_,_,_,_,hc,_⟩:=kX ho G
  injection hA with hA
  injection hA with hA
  subst hA
  rw [Nat.zero_add]
  exact hc
theorem fB.rd {w:World}:∀{cs:List Cel} {vs:List Value} {F:List Nat},fB w cs vs F→RdL w w.heap.size cs vs
 | [],vs,F,h=>by rw [ek] at h;rw [kY];exact h.1
 | c :: cs,vs,F,h=>by
  rw [bK] at h
  obtain ⟨v,g,j,F2,rfl,rfl,h1,h2⟩:=h
  rw [fG]
  exact ⟨v,g,rfl,bO.rd h1,fB.rd h2⟩
end
theorem gI.rd {lo hi:Nat} {w:World} {c:Cel} {v:Value} (h:gI lo hi w c v):RdC w w.heap.size c v:=by
 obtain ⟨F,h1,_⟩:=h
 exact h1.rd
/-! ### rows of integers -/
def aH (xs:List Int):Cel := .row 3 1 (xs.map .int)
theorem mY {w:World}:∀{xs:List Int} {vs:List Value} {F:List Nat},fB w (xs.map .int) vs F↔vs=xs.map (Value.int .i64)/\F=[]
 | [],vs,F=>by simp [ek]
 | x :: xs,vs,F=>by
  rw [List.map_cons,bK]
  constructor
  ·rintro ⟨v,g,j,F2,rfl,rfl,h1,h2⟩
   rw [ed] at h1
   rw [mY] at h2
   simp [h1,h2]
  rintro ⟨rfl,rfl⟩
  exact ⟨_,_,[],[],rfl,rfl,ed.2 ⟨rfl,rfl⟩,mY.2 ⟨rfl,rfl⟩⟩
theorem eB {w:World} {A:Option Addr} {n c:Nat} {xs:List Int} {F:List Nat}:bO w (aH xs) (.slice A n c) F↔Own 0 w A n c xs/\F=blk A:=by
 unfold aH
 rw [dV]
 constructor
 ·rintro ⟨u,q,j,vs,F',g,ho,rfl,hl⟩
  injection g with hA hn hc
  subst hA hn hc
  rw [mY] at hl
  obtain ⟨rfl,rfl⟩:=hl
  exact ⟨ho,by simp⟩
 rintro ⟨ho,rfl⟩
 exact ⟨A,n,c,_,[],rfl,ho,by simp,mY.2 ⟨rfl,rfl⟩⟩
theorem Own.at0 {w:World} {base:Nat} {A:Option Addr} {n c:Nat} {xs:List Int} (h:Own 0 w A n c xs) (u:∀k∈blk A,base<=k):Own base w A n c xs:=by
 refine ⟨h.1,?_⟩
 rcases h.2 with h0|⟨g,j,cur,q,_,r⟩
 ·exact .inl h0
 refine .inr ⟨g,j,cur,q,?_,r⟩
 injection q with hA
 exact u g (by simp [blk,hA])
theorem Own.tree {w:World} {base hi:Nat} {A:Option Addr} {n c:Nat} {xs:List Int} (h:Own base w A n c xs) (g:w.heap.size<=hi):gI base hi w (aH xs) (.slice A n c):=by
 refine ⟨blk A,eB.2 ⟨h.more (Nat.zero_le _),rfl⟩,by cases A <;> simp [blk],fun k hk=>?_⟩
 obtain ⟨a,rfl,rfl⟩:=nz.1 hk
 have:=h.lt a rfl
 omega
theorem gI.ints {w:World} {lo hi:Nat} {A:Option Addr} {n c:Nat} {xs:List Int} (h:gI lo hi w (aH xs) (.slice A n c)):Own lo w A n c xs/\∀a,A=some a→a.block<hi:=by
 obtain ⟨F,h1,_,h3⟩:=h
 rw [eB] at h1
 obtain ⟨h1,rfl⟩:=h1
 exact ⟨h1.at0 fun k hk=>(h3 k hk).1,fun a g=>(h3 _ (nz.2 ⟨a,g,rfl⟩)).2⟩
theorem rz {w:World} {B:Nat}:∀{xs:List Int} {vs:List Value},RdL w B (xs.map .int) vs↔vs=xs.map (Value.int .i64)
 | [],vs=>by simp [kY]
 | x :: xs,vs=>by
  rw [List.map_cons,fG]
  constructor
  ·rintro ⟨v,g,rfl,h1,h2⟩
   rw [jV] at h1
   rw [rz] at h2
   simp [h1,h2]
  rintro rfl
  exact ⟨_,_,rfl,jV.2 rfl,rz.2 rfl⟩
theorem RdC.ints {w:World} {A:Option Addr} {n c:Nat} {xs:List Int} (h:RdC w w.heap.size (aH xs) (.slice A n c)):dP w A n xs:=by
 unfold aH at h
 rw [mQ] at h
 obtain ⟨z,B,u,g,hl,h⟩:=h
 injection g with hA hn hc
 subst hA hn hc
 refine ⟨by simpa using hl,fun hn=>?_⟩
 rcases h with h|⟨b,o,vs,rfl,q,hc,hr⟩
 ·rw [h] at hl
  simp at hl
  omega
 rw [rz] at hr
 subst hr
 refine ⟨b,o,rfl,q,fun j hj=>hc j _ ?_⟩
 have:j<xs.length:=by simp at hl;omega
 simp [this]
theorem dP.tree {w:World} {A:Option Addr} {n:Nat} {xs:List Int} (h:dP w A n xs) (c:Nat):RdC w w.heap.size (aH xs) (.slice A n c):=by
 unfold aH
 rw [mQ]
 refine ⟨A,n,c,rfl,by simp [h.1],?_⟩
 rcases Nat.eq_zero_or_pos n with h0|h0
 ·exact .inl (by have:=h.1;simp;exact List.eq_nil_of_length_eq_zero (by omega))
 obtain ⟨b,o,rfl,q,hc⟩:=h.2 h0
 refine .inr ⟨b,o,_,rfl,q,fun j u g=>?_,rz.2 rfl⟩
 have hj:j<xs.length:=by simpa using (List.getElem?_eq_some_iff.1 g).1
 rw [hc j (by rw [←h.1];exact hj)]
 simp [hj] at g
 simp [hj,g]
/-! ### counting and marking -/
mutual
def ak:Cel→Nat
 | .int _=>1
 | .row _ _ cs=>dE cs
def dE:List Cel→Nat
 | []=>0
 | c :: cs=>ak c+dE cs
end
mutual
def mkC (k:Int):Cel→Cel
 | .int _ => .int k
 | .row e s cs => .row e s (mkL k cs)
def mkL (k:Int):List Cel→List Cel
 | []=>[]
 | c :: cs=>mkC k c :: mkL (k+ak c) cs
end
theorem rJ (k:Int) (cs:List Cel):(mkL k cs).length=cs.length:=by
 induction cs generalizing k with
 | nil=>rw [mkL]
 | cons c cs ih=>rw [mkL];simp [ih]
theorem qO (cs ds:List Cel):dE (cs++ds)=dE cs+dE ds:=by
 induction cs with
 | nil=>simp [dE]
 | cons c cs ih=>simp [dE,ih,Nat.add_assoc]
theorem AP (k:Int) (cs ds:List Cel):mkL k (cs++ds)=mkL k cs++mkL (k+dE cs) ds:=by
 induction cs generalizing k with
 | nil=>simp [dE,mkL]
 | cons c cs ih=>simp [mkL,ih,dE,Int.add_assoc]
def mkP (k:Int) (cs:List Cel) (j:Nat):List Cel:=mkL k (cs.take j)++cs.drop j
theorem Dr (k:Int) (cs:List Cel):mkP k cs 0=cs:=by simp [mkP,mkL]
theorem Dt (k:Int) (cs:List Cel) {j:Nat} (h:cs.length<=j):mkP k cs j=mkL k cs:=by simp [mkP,List.take_of_length_le h,List.drop_of_length_le h]
theorem Be {k:Int} {cs:List Cel} {j:Nat} {c:Cel} (h:cs[j]?=some c):(mkP k cs j)[j]?=some c:=by
 have hj:=(List.getElem?_eq_some_iff.1 h).1
 have hl:(mkL k (cs.take j)).length=j:=by rw [rJ];simp;omega
 rw [mkP,List.getElem?_append_right (by omega),hl,Nat.sub_self,List.getElem?_drop]
 exact h
theorem Bf {k:Int} {cs:List Cel} {j:Nat} {c:Cel} (h:cs[j]?=some c):(mkP k cs j).set j (mkC (k+dE (cs.take j)) c)=mkP k cs (j+1):=by
 have hj:=(List.getElem?_eq_some_iff.1 h).1
 have hg:=(List.getElem?_eq_some_iff.1 h).2
 have hl:(mkL k (cs.take j)).length=j:=by rw [rJ];simp;omega
 rw [mkP,List.set_append,if_neg (by omega),hl,Nat.sub_self,List.drop_eq_getElem_cons hj,List.set_cons_zero,mkP,List.take_succ_eq_append_getElem hj,AP,hg]
 simp [mkL]
theorem eQ {cs:List Cel} {j:Nat} {c:Cel} (h:cs[j]?=some c):dE (cs.take (j+1))=dE (cs.take j)+ak c:=by
 have hj:=(List.getElem?_eq_some_iff.1 h).1
 rw [List.take_succ_eq_append_getElem hj,qO,(List.getElem?_eq_some_iff.1 h).2]
 simp [dE]
theorem jH (cs:List Cel) (j:Nat):dE (cs.take j)<=dE cs:=by
 have:=qO (cs.take j) (cs.drop j)
 rw [List.take_append_drop] at this
 omega
theorem yV (xs:List Int):dE (xs.map .int)=xs.length:=by
 induction xs with
 | nil=>rfl
 | cons x xs ih=>simp [dE,ak,ih];omega
theorem Ef (k:Int) (xs:List Int):mkL k (xs.map .int)=(mJ k xs.length).map .int:=by
 induction xs generalizing k with
 | nil=>simp [mkL,mJ]
 | cons x xs ih =>
  simp only [List.map_cons,mkL,mkC,ih,ak,List.length_cons,mJ,List.range_succ_eq_map]
  simp [Function.comp_def]
  intros
  omega
theorem pX {w:World} {e s:Nat} {cs:List Cel} {v:Value} {F:List Nat} (h:bO w (.row e s cs) v F):∃A n c,v = .slice A n c:=by
 rw [dV] at h
 obtain ⟨A,n,g,vs,F',rfl,_⟩:=h
 exact ⟨A,n,g,rfl⟩
namespace Go.Proofs.YtofihjoanjkdmaaGreat.Cw
def Lin (f:Nat→Nat):Prop:=∀a b,f (a ^^^ b)=f a ^^^ f b
theorem Lin.bit (i c:Nat):Lin fun x=>if x.testBit i then c else 0:=by
 intro a b
 simp only [Nat.testBit_xor]
 cases a.testBit i <;> cases b.testBit i <;> simp
theorem Lin.zero {f:Nat→Nat} (hf:Lin f):f 0=0:=by
 have:=hf 0 0
 simpa using this
end Go.Proofs.YtofihjoanjkdmaaGreat.Cw
open Cw
structure Le where
 sel:List Int
 mask:Int
 flop:Int
 init:Int
structure bC where
 mux:List Int
 les:List Le
 pad:Int
 ram:Int
def Le.zero:Le:=⟨[],0,0,0⟩
def bC.zero:bC:=⟨[],[],0,0⟩
def Le.cells (e:Le):List Cel:=[aH e.sel,.int e.mask,.int e.flop,.int e.init]
def iE (es:List Le):Cel := .row 121 4 (es.flatMap Le.cells)
def bC.cells (t:bC):List Cel:=[aH t.mux,iE t.les,.int t.pad,.int t.ram]
def dW (ts:List bC):Cel := .row 110 4 (ts.flatMap bC.cells)
/-! ### reading -/
def ny (d:Dev):Nat:=(5+4 * d.T).toNat
/-! ### writing -/
def AQ (n:Nat) (x:Int):List Nat:=(List.range n).map fun i=>bit x.toNat i
def Le.bits (e:Le):List Nat:=e.sel.flatMap (AQ 3)++(AQ 16 e.mask++(AQ 1 e.flop++AQ 1 e.init))
def bC.bits (t:bC):List Nat:=t.mux.flatMap (AQ 5)++(t.les.flatMap Le.bits++(AQ 2 t.pad++AQ 5 t.ram))
theorem tX {α β:Type} {f:α→List β} {L:Nat} (hf:∀x,(f x).length=L) (xs:List α):(xs.flatMap f).length=L * xs.length:=by
 induction xs with
 | nil=>simp
 | cons x xs ih=>simp [ih,hf,Nat.mul_add,Nat.add_comm]
theorem uX {α β:Type} {f:α→List β} {L:Nat} (hf:∀x,(f x).length=L):∀{xs:List α} {i k:Nat} {x:α},xs[i]?=some x→k<L→(xs.flatMap f)[L * i+k]?=(f x)[k]?
 | [],i,k,x,h,hk=>by simp at h
 | y :: ys,0,k,x,h,hk=>by
  simp at h
  subst h
  rw [List.flatMap_cons,Nat.mul_zero,Nat.zero_add,List.getElem?_append_left (by rw [hf];exact hk)]
 | y :: ys,i+1,k,x,h,hk=>by
  rw [List.flatMap_cons,List.getElem?_append_right (by rw [hf,Nat.mul_add];omega),hf,show L * (i+1)+k - L=L * i+k by rw [Nat.mul_add];omega]
  exact uX hf (by simpa using h) hk
/-! ### which tiles are valid -/
theorem oC {d:Dev} (h:dR d=true):(ny d:Int)=5+4 * d.T/\9<=ny d/\ny d<=21/\5 * ny d+67<=16 * (fwI d).toNat/\7<=(fwI d).toNat/\(fwI d).toNat<=11:=by
 have:=ay h
 unfold ny fwI
 omega
end Go.Proofs.YtofihjoanjkdmaaGreat
