/- Codewords: plain arithmetic; no program in sight. -/
import Derived.Laws.BitsAllLaws
import Derived.Test.YtofihjoanjkdmaaGreatFrame
namespace Go.Proofs.YtofihjoanjkdmaaGreat.Cw
def bit(x i:Nat):Nat:=x/2 ^ i%2
/-! ### check bits -/
end Go.Proofs.YtofihjoanjkdmaaGreat.Cw
namespace Go.Proofs.YtofihjoanjkdmaaGreat
set_option maxRecDepth 100000
open Go.RowKit
inductive Cel where
 | int (x:Int)
 | row (e size:Nat) (cs:List Cel)
def blk(A:Oh):List Nat:=match A with|none=>[]|some a=>[a.block]
theorem nW{A:Oh}{k:Nat}:k∈blk A↔∃a,A=some a/\a.block=k:=by cases A <;> simp[blk,eq_comm]
mutual
def dJ(w:World):Cel→Value→List Nat→Prop
 | .int x,v,F=>v=.int .i64 x/\F=[]
 | .row e s cs,v,F=>∃A n cap vs F',v=.slice A n cap/\w.ownsRow 0 e s v n vs/\F=blk A++F'/\dh w cs vs F'
def dh(w:World):List Cel→List Value→List Nat→Prop
 | [],vs,F=>vs=[]/\F=[]
 | c::cs,vs,F=>∃v g j F2,vs=v::g/\F=j++F2/\dJ w c v j/\dh w cs g F2
end
theorem dZ{w:World}{x:Int}{v:Value}{F:List Nat}:dJ w (.int x) v F↔v=.int .i64 x/\F=[]:=by rw[dJ]
theorem dV{w:World}{e s:Nat}{cs:List Cel}{v:Value}{F:List Nat}:dJ w (.row e s cs) v F↔∃A n cap vs F',v=.slice A n cap/\w.ownsRow 0 e s v n vs/\F=blk A++F'/\dh w cs vs F':=by rw[dJ]
theorem dH{w:World}{vs:List Value}{F:List Nat}:dh w [] vs F↔vs=[]/\F=[]:=by rw[dh]
theorem bU{w:World}{c:Cel}{cs:List Cel}{vs:List Value}{F:List Nat}:dh w (c::cs) vs F↔∃v g j F2,vs=v::g/\F=j++F2/\dJ w c v j/\dh w cs g F2:=by rw[dh]
theorem C8{w w':World}{base e s n c m:Nat}{A:Oh}{xs:List Value}(h:w.ownsRow base e s (.slice A n c) m xs)(hk:∀k∈blk A,w'.heap[k]?=w.heap[k]?):w'.ownsRow base e s (.slice A n c) m xs :=
 fU h fun a g=>hk _ (nW.2 ⟨a,g,rfl⟩)
theorem xe{w:World}{base e s n c m:Nat}{A:Oh}{xs:List Value}(h:w.ownsRow base e s (.slice A n c) m xs):∀k∈blk A,base<=k/\k<w.heap.size:=by
 intro k hk;obtain⟨a,rfl,rfl⟩:=nW.1 hk;exact h.lt _ rfl
mutual
theorem dJ.keep{w w':World}:∀{c:Cel} {v:Value} {F:List Nat},dJ w c v F→(∀k∈F,w'.heap[k]?=w.heap[k]?)→dJ w' c v F
 | .int x,v,F,h,_=>by rw[dZ]at h ⊢;exact h
 | .row e s cs,v,F,h,hk=>by
  rw[dV]at h ⊢;obtain⟨A,n,cap,vs,F',rfl,ho,rfl,hl⟩:=h;exact⟨A,n,cap,vs,F',rfl,C8 ho fun k g=>hk k (List.mem_append_left _ g),rfl,dh.keep hl fun k g=>hk k (List.mem_append_right _ g)⟩
theorem dh.keep{w w':World}:∀{cs:List Cel} {vs:List Value} {F:List Nat},dh w cs vs F→(∀k∈F,w'.heap[k]?=w.heap[k]?)→dh w' cs vs F
 | [],vs,F,h,_=>by rw[dH]at h ⊢;exact h
 | c::cs,vs,F,h,hk=>by
  rw[bU]at h ⊢;obtain⟨v,j,q,F2,rfl,rfl,h1,h2⟩:=h;exact⟨v,j,q,F2,rfl,rfl,dJ.keep h1 fun k g=>hk k (List.mem_append_left _ g),dh.keep h2 fun k g=>hk k (List.mem_append_right _ g)⟩
end
mutual
theorem dJ.lt{w:World}:∀{c:Cel} {v:Value} {F:List Nat},dJ w c v F→∀k∈F,k<w.heap.size
 | .int x,v,F,h=>by rw[dZ]at h;rw[h.2];simp
 | .row e s cs,v,F,h=>by
  rw[dV]at h;obtain⟨A,n,cap,vs,F',rfl,ho,rfl,hl⟩:=h;intro k hk
  rcases List.mem_append.1 hk with hk|hk
  ·exact(xe ho k hk).2
  exact dh.lt hl k hk
theorem dh.lt{w:World}:∀{cs:List Cel} {vs:List Value} {F:List Nat},dh w cs vs F→∀k∈F,k<w.heap.size
 | [],vs,F,h=>by rw[dH]at h;rw[h.2];simp
 | c::cs,vs,F,h=>by
  rw[bU]at h;obtain⟨v,g,j,F2,rfl,rfl,h1,h2⟩:=h;intro k hk
  rcases List.mem_append.1 hk with hk|hk
  ·exact dJ.lt h1 k hk
  exact dh.lt h2 k hk
end
theorem dh.len{w:World}:∀{cs:List Cel} {vs:List Value} {F:List Nat},dh w cs vs F→vs.length=cs.length
 | [],vs,F,h=>by rw[dH]at h;rw[h.1];rfl
 | c::cs,vs,F,h=>by
  rw[bU]at h;obtain⟨v,g,j,F2,rfl,rfl,h1,h2⟩:=h;simp[dh.len h2]
theorem dJ.one{w:World}:∀{c:Cel} {v:Value} {F:List Nat},dJ w c v F→v.oneCell'=true
 | .int x,v,F,h=>by rw[dZ]at h;rw[h.1];rfl
 | .row e s cs,v,F,h=>by
  rw[dV]at h;obtain⟨A,n,cap,vs,F',rfl,_⟩:=h;rfl
theorem dh.one{w:World}:∀{cs:List Cel} {vs:List Value} {F:List Nat},dh w cs vs F→∀v∈vs,v.oneCell'=true
 | [],vs,F,h=>by rw[dH]at h;rw[h.1];simp
 | c::cs,vs,F,h=>by
  rw[bU]at h;obtain⟨v,j,q,F2,rfl,rfl,h1,h2⟩:=h;intro u g
  rcases List.mem_cons.1 g with rfl|g
  ·exact h1.one
  exact dh.one h2 u g
theorem dh.append{w:World}:∀{cs:List Cel} {vs:List Value} {F:List Nat},dh w cs vs F→∀{j:List Cel} {g:List Value} {F':List Nat},dh w j g F'→dh w (cs++j) (vs++g) (F++F')
 | [],vs,F,h,j,g,F',q=>by rw[dH]at h;rw[h.1,h.2];exact q
 | c::cs,vs,F,h,j,g,F',q=>by
  rw[bU]at h;obtain⟨v,z,u,F2,rfl,rfl,h1,h2⟩:=h;rw[List.cons_append,bU];exact⟨v,z++g,u,F2++F',rfl,List.append_assoc _ _ _,h1,dh.append h2 q⟩
theorem dh.at_{w:World}:∀{cs:List Cel} {vs:List Value} {F:List Nat},dh w cs vs F→∀{j:Nat},j<cs.length →
  ∃c v q J F2,cs[j]?=some c/\vs[j]?=some v/\F=q++(J++F2)/\dJ w c v J /\
   ∀(w':World) (D:Cel) (z:Value) (g:List Nat),dJ w' D z g→(∀k∈q,w'.heap[k]?=w.heap[k]?)→(∀k∈F2,w'.heap[k]?=w.heap[k]?)→dh w' (cs.set j D) (vs.set j z) (q++(g++F2))
 | [],vs,F,h,j,hj=>by simp at hj
 | c::cs,vs,F,h,0,hj=>by
  rw[bU]at h;obtain⟨v,u,q,F2,rfl,rfl,h1,h2⟩:=h;refine⟨c,v,[],q,F2,rfl,rfl,rfl,h1,fun w' D z g hc _ hk=>?_⟩;rw[List.set_cons_zero,List.set_cons_zero,bU]
  exact⟨z,u,g,F2,rfl,rfl,hc,h2.keep hk⟩
 | c::cs,vs,F,h,j+1,hj=>by
  rw[bU]at h;obtain⟨v,u,q,F2,rfl,rfl,h1,h2⟩:=h;obtain⟨c0,K,H,R,I,e1,e2,rfl,h3,Q⟩:=dh.at_ h2 (j:=j) (by simpa using hj);refine⟨c0,K,q++H,R,I,by simpa using e1,by simpa using e2,by simp,h3,fun w' D z g hc B G=>?_⟩;rw[List.set_cons_succ,List.set_cons_succ,bU];exact⟨v,u.set j z,q,H++(g++I),rfl,by simp,h1.keep fun k hk=>B k (List.mem_append_left _ hk),Q w' D z g hc (fun k hk=>B k (List.mem_append_right _ hk)) G⟩
theorem lN{w:World}{base e s n c m j:Nat}{A:Oh}{xs:List Value}(h:w.ownsRow base e s (.slice A n c) m xs){v:Value}(q:xs[j]?=some v) :
  ∃g cur,A=some ⟨g,0,none⟩/\n=m/\n<=c/\c<=maxLen/\w.heap[g]?=some (.cells cur e (0,0))/\cur.size=c*s/\cur.toList.take (m*s)=xs/\w.cell? ⟨g,j,none⟩=some v/\w.frozen? ⟨g,j,none⟩=false:=by
 have hj:j<xs.length:=(List.getElem?_eq_some_iff.1 q).1
 rcases h.2 with⟨_,h0⟩|⟨g,cap,cur,hA,_,u,h1,h2,h3,z⟩
 ·have:=h.1;subst h0;simp at this;subst this;simp at hj
 injection hA with hA hn hc
 subst hA hn hc;refine⟨g,cur,rfl,rfl,h1,h2,u,h3,z,?_,by unfold World.frozen?;rw[u];simp⟩;unfold World.cell?;rw[u];simp only[Option.isSome_none,Bool.false_eq_true,if_false];rw[←z,List.getElem?_take]at q
 split at q
 ·simpa using q
 cases q
theorem Ee{α:Type}{xs:List α}{j:Nat}{x:α}(h:xs[j]?=some x):xs.set j x=xs:=by
 apply List.ext_getElem?;intro i;rw[List.getElem?_set]
 split
 ·rename_i e;subst e
  split
  ·exact h.symm
  rename_i hj;rw[List.getElem?_eq_none (by omega)]
 rfl
theorem dJ.cell{w:World}{e s n cap j:Nat}{A:Oh}{cs:List Cel}{F:List Nat}(h:dJ w (.row e s cs) (.slice A n cap) F)(hj:j<cs.length) :
  ∃g c v B H F2,A=some ⟨g,0,none⟩/\cs[j]?=some c/\w.cell? ⟨g,j,none⟩=some v/\w.frozen? ⟨g,j,none⟩=false/\F=g::(B++(H++F2))/\dJ w c v H /\
   (∀(w':World) (u:Cel),dJ w' u v H→w'.heap[g]?=w.heap[g]?→(∀k∈B,w'.heap[k]?=w.heap[k]?)→(∀k∈F2,w'.heap[k]?=w.heap[k]?)→dJ w' (.row e s (cs.set j u)) (.slice A n cap) F) /\
   (∀(u:Cel) (G:Value) (q:List Nat),dJ w u G q→g∉B→g∉q→g∉F2→dJ (w.setCell ⟨g,j,none⟩ G) (.row e s (cs.set j u)) (.slice A n cap) (g::(B++(q++F2)))):=by
 rw[dV]at h;obtain⟨A',n',ad,vs,F',hv,ho,rfl,hl⟩:=h;injection hv with hA hn hc
 subst hA hn hc;obtain⟨c,v,B,H,F2,e1,e2,rfl,h3,Z⟩:=hl.at_ hj;obtain⟨g,cur,rfl,af,U,Q,hh,W,ht,z,K⟩:=lN ho e2;refine⟨g,c,v,B,H,F2,rfl,e1,z,K,rfl,h3,fun w' u hc hg R V=>?_,fun u G q hc J I Y=>?_⟩
 ·rw[dV];refine⟨_,n,cap,vs,_,rfl,fU ho (by rintro a ⟨⟩;exact hg),rfl,?_⟩;have:=Z w' u v H hc R V;rwa[show vs.set j v=vs from Ee e2]at this
 rw[dV];have D:∀{L:List Nat},g∉L→∀k∈L,(w.setCell ⟨g,j,none⟩ G).heap[k]?=w.heap[k]?:=fun hn k hk=>Below.heap_setCell _ _ _ _ (by rintro rfl;exact hn hk)
 refine⟨_,n,cap,vs.set j G,B++(q++F2),rfl,⟨by rw[List.length_set];exact ho.1,.inr ⟨g,cap,cur.setIfInBounds j G,rfl,Nat.zero_le _,by simp[World.setCell,Array.getElem?_modify,hh],U,Q,by simp[W],?_⟩⟩,rfl,
  Z _ u G q (hc.keep (D I)) (D J) (D Y)⟩
 simp only[Array.toList_setIfInBounds,List.take_set,ht]
def iM(lo hi:Nat)(w:World)(c:Cel)(v:Value):Prop:=∃F,dJ w c v F/\F.Nodup/\∀k∈F,lo<=k/\k<hi
theorem iM.keep{lo hi:Nat}{w w':World}{c:Cel}{v:Value}(h:iM lo hi w c v)(hk:∀k,lo<=k→k<hi→k<w.heap.size→w'.heap[k]?=w.heap[k]?):iM lo hi w' c v:=by
 obtain⟨F,h1,h2,h3⟩:=h;exact⟨F,h1.keep fun k g=>hk k (h3 k g).1 (h3 k g).2 (h1.lt k g),h2,h3⟩
theorem iM.below{lo hi:Nat}{w w':World}{c:Cel}{v:Value}(h:iM lo hi w c v)(hb:Below w.heap.size w w'):iM lo hi w' c v:=h.keep fun k _ _ hk=>hb.block k hk
theorem iM.drewd{lo hi:Nat}{w:World}{c:Cel}{v:Value}(h:iM lo hi w c v):iM lo hi w.drew c v:=h.keep fun _ _ _ _=>rfl
theorem iM.widen{lo hi j g:Nat}{w:World}{c:Cel}{v:Value}(h:iM lo hi w c v)(h1:j<=lo)(h2:hi<=g):iM j g w c v:=by
 obtain⟨F,k1,k2,k3⟩:=h;exact⟨F,k1,k2,fun k hk=>by have:=k3 k hk;omega⟩
theorem iM.int{lo hi:Nat}{w:World}(x:Int):iM lo hi w (.int x) (.int .i64 x):=⟨[],dZ.2 ⟨rfl,rfl⟩,by simp,by simp⟩
def iD(lo hi:Nat)(w:World)(cs:List Cel)(vs:List Value):Prop:=∃F,dh w cs vs F/\F.Nodup/\∀k∈F,lo<=k/\k<hi
theorem iD.keep{lo hi:Nat}{w w':World}{cs:List Cel}{vs:List Value}(h:iD lo hi w cs vs)(hk:∀k,lo<=k→k<hi→k<w.heap.size→w'.heap[k]?=w.heap[k]?):iD lo hi w' cs vs:=by
 obtain⟨F,h1,h2,h3⟩:=h;exact⟨F,h1.keep fun k g=>hk k (h3 k g).1 (h3 k g).2 (h1.lt k g),h2,h3⟩
theorem iD.below{lo hi:Nat}{w w':World}{cs:List Cel}{vs:List Value}(h:iD lo hi w cs vs)(hb:Below w.heap.size w w'):iD lo hi w' cs vs:=h.keep fun k _ _ hk=>hb.block k hk
theorem iD.nil{lo hi:Nat}{w:World}:iD lo hi w [] []:=⟨[],dH.2 ⟨rfl,rfl⟩,by simp,by simp⟩
theorem iD.widen{lo hi j g:Nat}{w:World}{cs:List Cel}{vs:List Value}(h:iD lo hi w cs vs)(h1:j<=lo)(h2:hi<=g):iD j g w cs vs:=by
 obtain⟨F,k1,k2,k3⟩:=h;exact⟨F,k1,k2,fun k hk=>by have:=k3 k hk;omega⟩
theorem iM.cell{lo hi:Nat}{w:World}{e s n cap j:Nat}{A:Oh}{cs:List Cel}(h:iM lo hi w (.row e s cs) (.slice A n cap))(hj:j<cs.length) :
  ∃g c v,A=some ⟨g,0,none⟩/\lo<=g/\g<hi/\g<w.heap.size/\cs[j]?=some c/\w.cell? ⟨g,j,none⟩=some v/\w.frozen? ⟨g,j,none⟩=false /\
   (∃z,dJ w c v z/\z.Nodup/\g∉z/\(∀k∈z,lo<=k/\k<hi) /\
    (∀(w':World) (B:Cel),dJ w' B v z→(∀k,lo<=k→k<hi→k<w.heap.size→k∉z→w'.heap[k]?=w.heap[k]?)→iM lo hi w' (.row e s (cs.set j B)) (.slice A n cap))) /\
   (∀(B:Cel) (Y:Value) (H D:Nat),iM H D w B Y→hi<=H∨(∃x,B=.int x)→lo<=H→hi<=D→iM lo D (w.setCell ⟨g,j,none⟩ Y) (.row e s (cs.set j B)) (.slice A n cap)):=by
 obtain⟨F,h1,h2,h3⟩:=h;obtain⟨g,c,v,Z,z,F2,rfl,e1,hc,hf,rfl,h4,h5,h6⟩:=h1.cell hj;have hg:=h3 g (by simp);rw[List.nodup_cons]at h2;obtain⟨u,K⟩:=h2;simp only[List.mem_append,not_or]at u;have V:=K;rw[List.nodup_append,List.nodup_append]at K;obtain⟨n1,⟨n2,n3,n4⟩,n5⟩:=K;refine⟨g,c,v,rfl,hg.1,hg.2,h1.lt g (by simp),e1,hc,hf,⟨z,h4,n2,u.2.1,fun k hk=>h3 k (by simp[hk]),fun w' B ae hk=>?_⟩,fun B Y H D ho R al aj=>?_⟩
 ·refine⟨_,h5 w' B ae (hk g hg.1 hg.2 (h1.lt g (by simp)) u.2.1) (fun k U=>?_) (fun k W=>?_),?_,h3⟩
  ·have hm:k∈g::(Z++(z++F2)):=by simp[U]
   exact hk k (h3 k hm).1 (h3 k hm).2 (h1.lt k hm) fun J=>n5 k U k (by simp[J]) rfl
  ·have hm:k∈g::(Z++(z++F2)):=by simp[W]
   exact hk k (h3 k hm).1 (h3 k hm).2 (h1.lt k hm) fun J=>n4 k J k W rfl
  rw[List.nodup_cons];exact⟨by simp only[List.mem_append,not_or];exact u,V⟩
 obtain⟨G,g1,g2,g3⟩:=ho
 have q:∀x∈g::(Z++(z++F2)),x∉G:=by
  intro x hx I
  rcases R with hs|⟨y,rfl⟩
  ·have:=h3 x hx;have:=g3 x I;omega
  rw[dZ]at g1;rw[g1.2]at I;simp at I
 refine⟨_,h6 B Y G g1 u.1 (q g (by simp)) u.2.2,?_,fun k hk=>?_⟩
 ·rw[List.nodup_cons,List.nodup_append,List.nodup_append];refine⟨by simp only[List.mem_append,not_or];exact⟨u.1,q g (by simp),u.2.2⟩,n1,⟨g2,n3,fun x hx y Q=>?_⟩,fun x hx y Q=>?_⟩
  ·rintro rfl;exact q x (by simp[Q]) hx
  rintro rfl
  rcases List.mem_append.1 Q with Q|Q
  ·exact q x (by simp[hx]) Q
  exact n5 x hx x (by simp[Q]) rfl
 simp only[List.mem_cons,List.mem_append]at hk
 rcases hk with rfl|hk|hk|hk
 ·omega
 ·have:=h3 k (by simp[hk]);omega
 ·have:=g3 k hk;omega
 have:=h3 k (by simp[hk]);omega
/-! ### reading -/
mutual
def RdC(w:World)(B:Nat):Cel→Value→Prop
 | .int x,v=>v=.int .i64 x
 | .row _ s cs,v=>∃A n cap,v=.slice A n cap/\cs.length=n*s/\(cs=[]∨∃b o vs,A=some ⟨b,o,none⟩/\b<B/\(∀(j:Nat) (u:Value),vs[j]?=some u→w.cell? ⟨b,o+j,none⟩=some u)/\RdL w B cs vs)
def RdL(w:World)(B:Nat):List Cel→List Value→Prop
 | [],vs=>vs=[]
 | c::cs,vs=>∃v g,vs=v::g/\RdC w B c v/\RdL w B cs g
end
theorem jJ{w:World}{B:Nat}{x:Int}{v:Value}:RdC w B (.int x) v↔v=.int .i64 x:=by rw[RdC]
theorem kQ{w:World}{B e s:Nat}{cs:List Cel}{v:Value}:RdC w B (.row e s cs) v↔∃A n cap,v=.slice A n cap/\cs.length=n*s/\(cs=[]∨∃b o vs,A=some ⟨b,o,none⟩/\b<B/\(∀(j:Nat) (u:Value),vs[j]?=some u→w.cell? ⟨b,o+j,none⟩=some u)/\RdL w B cs vs):=by rw[RdC]
theorem jG{w:World}{B:Nat}{vs:List Value}:RdL w B [] vs↔vs=[]:=by rw[RdL]
theorem gU{w:World}{B:Nat}{c:Cel}{cs:List Cel}{vs:List Value}:RdL w B (c::cs) vs↔∃v g,vs=v::g/\RdC w B c v/\RdL w B cs g:=by rw[RdL]
mutual
theorem RdC.keep{w w':World}{B g:Nat}(q:B<=g)(hk:∀k,k<B→w'.heap[k]?=w.heap[k]?):∀{c:Cel} {v:Value},RdC w B c v→RdC w' g c v
 | .int x,v,h=>by rw[jJ]at h ⊢;exact h
 | .row e s cs,v,h=>by
  rw[kQ]at h ⊢;obtain⟨A,n,cap,rfl,hl,h⟩:=h;refine⟨A,n,cap,rfl,hl,?_⟩
  rcases h with h|⟨b,o,vs,rfl,hb,hc,hr⟩
  ·exact .inl h
  exact .inr ⟨b,o,vs,rfl,Nat.lt_of_lt_of_le hb q,fun j u z=>(World.cell?_of_block (a:=⟨b,o+j,none⟩) (hk b hb)).trans (hc j u z),RdL.keep q hk hr⟩
theorem RdL.keep{w w':World}{B j:Nat}(q:B<=j)(hk:∀k,k<B→w'.heap[k]?=w.heap[k]?):∀{cs:List Cel} {vs:List Value},RdL w B cs vs→RdL w' j cs vs
 | [],vs,h=>by rw[jG]at h ⊢;exact h
 | c::cs,vs,h=>by
  rw[gU]at h ⊢;obtain⟨v,g,rfl,h1,h2⟩:=h;exact⟨v,g,rfl,RdC.keep q hk h1,RdL.keep q hk h2⟩
end
theorem RdC.below{w w':World}{c:Cel}{v:Value}(h:RdC w w.heap.size c v)(hb:Below w.heap.size w w'):RdC w' w'.heap.size c v:=h.keep hb.size hb.block
theorem RdL.at_{w:World}{B:Nat}:∀{cs:List Cel} {vs:List Value},RdL w B cs vs→∀{j:Nat},j<cs.length→∃c v,cs[j]?=some c/\vs[j]?=some v/\RdC w B c v
 | [],vs,h,j,hj=>by simp at hj
 | c::cs,vs,h,0,hj=>by
  rw[gU]at h;obtain⟨v,g,rfl,h1,h2⟩:=h
  exact⟨c,v,rfl,rfl,h1⟩
 | c::cs,vs,h,j+1,hj=>by
  rw[gU]at h;obtain⟨v,g,rfl,h1,h2⟩:=h;obtain⟨c0,q,e1,e2,h3⟩:=RdL.at_ h2 (j:=j) (by simpa using hj);exact⟨c0,q,by simpa using e1,by simpa using e2,h3⟩
theorem RdC.len{w:World}{B e s n cap:Nat}{A:Oh}{cs:List Cel}(h:RdC w B (.row e s cs) (.slice A n cap)):cs.length=n*s:=by
 rw[kQ]at h;obtain⟨q,u,g,j,hl,_⟩:=h;injection j with _ hn _
 subst hn;exact hl
theorem RdC.cell{w:World}{B e s n cap:Nat}{A:Oh}{cs:List Cel}(h:RdC w B (.row e s cs) (.slice A n cap))(h0:0<cs.length) :
  ∃b o,A=some ⟨b,o,none⟩/\b<B/\∀j,j<cs.length→∃c v,cs[j]?=some c/\w.cell? ⟨b,o+j,none⟩=some v/\RdC w B c v:=by
 rw[kQ]at h;obtain⟨u,z,g,q,hl,h⟩:=h;injection q with hA _ _
 subst hA
 rcases h with rfl|⟨b,o,vs,rfl,hb,hc,hr⟩
 ·simp at h0
 refine⟨b,o,rfl,hb,fun j hj=>?_⟩;obtain⟨c,v,e1,e2,h3⟩:=hr.at_ hj;exact⟨c,v,e1,hc j v e2,h3⟩
mutual
theorem dJ.rd{w:World}:∀{c:Cel} {v:Value} {F:List Nat},dJ w c v F→RdC w w.heap.size c v
 | .int x,v,F,h=>by rw[dZ]at h;rw[jJ];exact h.1
 | .row e s cs,v,F,h=>by
  rw[dV]at h;obtain⟨A,n,cap,vs,F',rfl,ho,rfl,hl⟩:=h;rw[kQ];refine⟨A,n,cap,rfl,by rw[←hl.len];exact ho.1,?_⟩
  rcases Nat.eq_zero_or_pos cs.length with h0|h0
  ·exact .inl (List.eq_nil_of_length_eq_zero h0)
  right;have z:=hl.len;have q:vs[0]?=some (vs[0]'(by omega)):=List.getElem?_eq_getElem (by omega);obtain⟨g,cur,rfl,_⟩:=lN ho q;refine⟨g,0,vs,rfl,(xe ho g (by simp[blk])).2,fun j u D=>?_,dh.rd hl⟩;obtain⟨G,B,hA,_,_,_,_,_,_,hc,_⟩:=lN ho D;injection hA with hA
  injection hA with hA
  subst hA;rw[Nat.zero_add];exact hc
theorem dh.rd{w:World}:∀{cs:List Cel} {vs:List Value} {F:List Nat},dh w cs vs F→RdL w w.heap.size cs vs
 | [],vs,F,h=>by rw[dH]at h;rw[jG];exact h.1
 | c::cs,vs,F,h=>by
  rw[bU]at h;obtain⟨v,g,j,F2,rfl,rfl,h1,h2⟩:=h;rw[gU];exact⟨v,g,rfl,dJ.rd h1,dh.rd h2⟩
end
theorem iM.rd{lo hi:Nat}{w:World}{c:Cel}{v:Value}(h:iM lo hi w c v):RdC w w.heap.size c v:=by
 obtain⟨F,h1,_⟩:=h;exact h1.rd
/-! ### rows of integers -/
def aI(xs:List Int):Cel := .row 3 1 (xs.map .int)
theorem oJ{w:World}:∀{xs:List Int} {vs:List Value} {F:List Nat},dh w (xs.map .int) vs F↔vs=xs.map (Value.int .i64)/\F=[]
 | [],vs,F=>by simp[dH]
 | x::xs,vs,F=>by
  rw[List.map_cons,bU]
  constructor
  ·rintro⟨v,g,j,F2,rfl,rfl,h1,h2⟩;rw[dZ]at h1;rw[oJ]at h2;simp[h1,h2]
  rintro⟨rfl,rfl⟩;exact⟨_,_,[],[],rfl,rfl,dZ.2 ⟨rfl,rfl⟩,oJ.2 ⟨rfl,rfl⟩⟩
theorem gy{w:World}{A:Oh}{n c:Nat}{xs:List Int}{F:List Nat}:dJ w (aI xs) (.slice A n c) F↔Own 0 w A n c xs/\F=blk A:=by
 unfold aI;rw[dV]
 constructor
 ·rintro⟨q,u,j,vs,F',g,ho,rfl,hl⟩;injection g with hA hn hc
  subst hA hn hc;rw[oJ]at hl;obtain⟨rfl,rfl⟩:=hl;exact⟨ho,by simp⟩
 rintro⟨ho,rfl⟩;exact⟨A,n,c,_,[],rfl,ho,by simp,oJ.2 ⟨rfl,rfl⟩⟩
theorem Own.at0{w:World}{base:Nat}{A:Oh}{n c:Nat}{xs:List Int}(h:Own 0 w A n c xs)(hb:∀k∈blk A,base<=k):Own base w A n c xs:=by
 refine⟨h.1,?_⟩
 rcases h.2 with h0|⟨g,cap,cur,j,_,r⟩
 ·exact .inl h0
 refine .inr ⟨g,cap,cur,j,?_,r⟩;injection j with hA
 exact hb g (by simp[blk,hA])
theorem Own.tree{w:World}{base hi:Nat}{A:Oh}{n c:Nat}{xs:List Int}(h:Own base w A n c xs)(g:w.heap.size<=hi):iM base hi w (aI xs) (.slice A n c):=by
 refine⟨blk A,gy.2 ⟨h.more (Nat.zero_le _),rfl⟩,by cases A <;> simp[blk],fun k hk=>?_⟩;obtain⟨a,rfl,rfl⟩:=nW.1 hk;have:=h.lt a rfl;omega
theorem iM.ints{w:World}{lo hi:Nat}{A:Oh}{n c:Nat}{xs:List Int}(h:iM lo hi w (aI xs) (.slice A n c)):Own lo w A n c xs/\∀a,A=some a→a.block<hi:=by
 obtain⟨F,h1,_,h3⟩:=h;rw[gy]at h1;obtain⟨h1,rfl⟩:=h1;exact⟨h1.at0 fun k hk=>(h3 k hk).1,fun a g=>(h3 _ (nW.2 ⟨a,g,rfl⟩)).2⟩
theorem vX{w:World}{B:Nat}:∀{xs:List Int} {vs:List Value},RdL w B (xs.map .int) vs↔vs=xs.map (Value.int .i64)
 | [],vs=>by simp[jG]
 | x::xs,vs=>by
  rw[List.map_cons,gU]
  constructor
  ·rintro⟨v,g,rfl,h1,h2⟩;rw[jJ]at h1;rw[vX]at h2;simp[h1,h2]
  rintro rfl;exact⟨_,_,rfl,jJ.2 rfl,vX.2 rfl⟩
theorem RdC.ints{w:World}{A:Oh}{n c:Nat}{xs:List Int}(h:RdC w w.heap.size (aI xs) (.slice A n c)):bT w A n xs:=by
 unfold aI at h;rw[kQ]at h;obtain⟨u,z,q,g,hl,h⟩:=h;injection g with hA hn hc
 subst hA hn hc;refine⟨by simpa using hl,fun hn=>?_⟩
 rcases h with h|⟨b,o,vs,rfl,hb,hc,hr⟩
 ·rw[h]at hl;simp at hl;omega
 rw[vX]at hr;subst hr;refine⟨b,o,rfl,hb,fun j hj=>hc j _ ?_⟩;have:j<xs.length:=by simp at hl;omega
 simp[this]
theorem bT.tree{w:World}{A:Oh}{n:Nat}{xs:List Int}(h:bT w A n xs)(c:Nat):RdC w w.heap.size (aI xs) (.slice A n c):=by
 unfold aI;rw[kQ];refine⟨A,n,c,rfl,by simp[h.1],?_⟩
 rcases Nat.eq_zero_or_pos n with h0|h0
 ·exact .inl (by have:=h.1;simp;exact List.eq_nil_of_length_eq_zero (by omega))
 obtain⟨b,o,rfl,hb,hc⟩:=h.2 h0;refine .inr ⟨b,o,_,rfl,hb,fun j u g=>?_,vX.2 rfl⟩;have hj:j<xs.length:=by simpa using(List.getElem?_eq_some_iff.1 g).1
 rw[hc j (by rw[←h.1];exact hj)];simp[hj]at g;simp[hj,g]
/-! ### counting and marking -/
mutual
def aO:Cel→Nat
 | .int _=>1
 | .row _ _ cs=>bE cs
def bE:List Cel→Nat
 | []=>0
 | c::cs=>aO c+bE cs
end
mutual
def mkC(k:Int):Cel→Cel
 | .int _ => .int k
 | .row e s cs => .row e s (mkL k cs)
def mkL(k:Int):List Cel→List Cel
 | []=>[]
 | c::cs=>mkC k c::mkL (k+aO c) cs
end
theorem kU(k:Int)(cs:List Cel):(mkL k cs).length=cs.length:=by
 induction cs generalizing k with
 | nil=>rw[mkL]
 | cons c cs ih=>rw[mkL];simp[ih]
theorem sO(cs g:List Cel):bE (cs++g)=bE cs+bE g:=by
 induction cs with
 | nil=>simp[bE]
 | cons c cs ih=>simp[bE,ih,Nat.add_assoc]
theorem II(k:Int)(cs g:List Cel):mkL k (cs++g)=mkL k cs++mkL (k+bE cs) g:=by
 induction cs generalizing k with
 | nil=>simp[bE,mkL]
 | cons c cs ih=>simp[mkL,ih,bE,Int.add_assoc]
def mkP(k:Int)(cs:List Cel)(j:Nat):List Cel:=mkL k (cs.take j)++cs.drop j
theorem Kv(k:Int)(cs:List Cel):mkP k cs 0=cs:=by simp[mkP,mkL]
theorem Kw(k:Int)(cs:List Cel){j:Nat}(h:cs.length<=j):mkP k cs j=mkL k cs:=by simp[mkP,List.take_of_length_le h,List.drop_of_length_le h]
theorem JN{k:Int}{cs:List Cel}{j:Nat}{c:Cel}(h:cs[j]?=some c):(mkP k cs j)[j]?=some c:=by
 have hj:=(List.getElem?_eq_some_iff.1 h).1;have hl:(mkL k (cs.take j)).length=j:=by rw[kU];simp;omega
 rw[mkP,List.getElem?_append_right (by omega),hl,Nat.sub_self,List.getElem?_drop];exact h
theorem JO{k:Int}{cs:List Cel}{j:Nat}{c:Cel}(h:cs[j]?=some c):(mkP k cs j).set j (mkC (k+bE (cs.take j)) c)=mkP k cs (j+1):=by
 have hj:=(List.getElem?_eq_some_iff.1 h).1;have hg:=(List.getElem?_eq_some_iff.1 h).2;have hl:(mkL k (cs.take j)).length=j:=by rw[kU];simp;omega
 rw[mkP,List.set_append,if_neg (by omega),hl,Nat.sub_self,List.drop_eq_getElem_cons hj,List.set_cons_zero,mkP,List.take_succ_eq_append_getElem hj,II,hg];simp[mkL]
theorem bS{cs:List Cel}{j:Nat}{c:Cel}(h:cs[j]?=some c):bE (cs.take (j+1))=bE (cs.take j)+aO c:=by
 have hj:=(List.getElem?_eq_some_iff.1 h).1;rw[List.take_succ_eq_append_getElem hj,sO,(List.getElem?_eq_some_iff.1 h).2];simp[bE]
theorem eP(cs:List Cel)(j:Nat):bE (cs.take j)<=bE cs:=by
 have:=sO (cs.take j) (cs.drop j);rw[List.take_append_drop]at this;omega
theorem ol(xs:List Int):bE (xs.map .int)=xs.length:=by
 induction xs with
 | nil=>rfl
 | cons x xs ih=>simp[bE,aO,ih];omega
theorem JP(k:Int)(xs:List Int):mkL k (xs.map .int)=(xO k xs.length).map .int:=by
 induction xs generalizing k with
 | nil=>simp[mkL,xO]
 | cons x xs ih =>
  simp only[List.map_cons,mkL,mkC,ih,aO,List.length_cons,xO,List.range_succ_eq_map];simp[Function.comp_def]
  intros
  omega
namespace Go.Proofs.YtofihjoanjkdmaaGreat.Cw
def Lin(f:Nat→Nat):Prop:=∀a b,f (a ^^^ b)=f a ^^^ f b
theorem Lin.bit(i c:Nat):Lin fun x=>if x.testBit i then c else 0:=by
 intro a b;simp only[Nat.testBit_xor]
 cases a.testBit i <;> cases b.testBit i <;> simp
theorem Lin.zero{f:Nat→Nat}(hf:Lin f):f 0=0:=by
 have:=hf 0 0
 simpa using this
end Go.Proofs.YtofihjoanjkdmaaGreat.Cw
open Cw
structure Le where
 sel:List Int
 mask:Int
 flop:Int
 init:Int
structure lI where
 mux:List Int
 les:List Le
 pad:Int
 ram:Int
def Le.zero:Le:=⟨[],0,0,0⟩
def lI.zero:lI:=⟨[],[],0,0⟩
def Le.cells(e:Le):List Cel:=[aI e.sel,.int e.mask,.int e.flop,.int e.init]
def Ky(es:List Le):Cel := .row 121 4 (es.flatMap Le.cells)
def lI.cells(t:lI):List Cel:=[aI t.mux,Ky t.les,.int t.pad,.int t.ram]
def OL(g:List lI):Cel := .row 110 4 (g.flatMap lI.cells)
/-! ### reading -/
/-! ### writing -/
def IJ(n:Nat)(x:Int):List Nat:=(List.range n).map fun i=>bit x.toNat i
def Le.bits(e:Le):List Nat:=e.sel.flatMap (IJ 3)++(IJ 16 e.mask++(IJ 1 e.flop++IJ 1 e.init))
def lI.bits(t:lI):List Nat:=t.mux.flatMap (IJ 5)++(t.les.flatMap Le.bits++(IJ 2 t.pad++IJ 5 t.ram))
theorem xf{α β:Type}{f:α→List β}{L:Nat}(hf:∀x,(f x).length=L)(xs:List α):(xs.flatMap f).length=L*xs.length:=by
 induction xs with
 | nil=>simp
 | cons x xs ih=>simp[ih,hf,Nat.mul_add,Nat.add_comm]
theorem zD{α β:Type}{f:α→List β}{L:Nat}(hf:∀x,(f x).length=L):∀{xs:List α} {i k:Nat} {x:α},xs[i]?=some x→k<L→(xs.flatMap f)[L*i+k]?=(f x)[k]?
 | [],i,k,x,h,hk=>by simp at h
 | y::ys,0,k,x,h,hk=>by
  simp at h;subst h
  rw[List.flatMap_cons,Nat.mul_zero,Nat.zero_add,List.getElem?_append_left (by rw[hf];exact hk)]
 | y::ys,i+1,k,x,h,hk=>by
  rw[List.flatMap_cons,List.getElem?_append_right (by rw[hf,Nat.mul_add];omega),hf,show L*(i+1)+k-L=L*i+k by rw[Nat.mul_add];omega];exact zD hf (by simpa using h) hk
/-! ### which tiles are valid -/
end Go.Proofs.YtofihjoanjkdmaaGreat
