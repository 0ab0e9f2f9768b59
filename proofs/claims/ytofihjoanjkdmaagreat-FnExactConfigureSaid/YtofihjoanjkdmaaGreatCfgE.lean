/- Configurations of tiles in memory: a field, a selection, a logic element stored anew. -/
import Derived.Test.YtofihjoanjkdmaaGreatCfgP
import Derived.Test.YtofihjoanjkdmaaGreatMkx
import Derived.Test.YtofihjoanjkdmaaGreatSzc
namespace Go.Proofs.YtofihjoanjkdmaaGreat
set_option maxHeartbeats 1000000
set_option maxRecDepth 100000
open Go.RowKit
theorem pE {α:Type} {cells:α→List Cel} {s:Nat} (hf:∀x,(cells x).length=s) {z y:α} {r:Nat} {c:Cel}:∀{xs:List α} {i:Nat},i<xs.length→r<s→cells y=(cells (xs[i]?.getD z)).set r c→(xs.set i y).flatMap cells=(xs.flatMap cells).set (i * s+r) c
 | [],i,hi,_,_=>by simp at hi
 | x :: xs,0,_,hr,h=>by
  rw [List.set_cons_zero,List.flatMap_cons,List.flatMap_cons,Nat.zero_mul,Nat.zero_add,List.set_append,if_pos (by rw [hf];exact hr),h]
  rfl
 | x :: xs,i+1,hi,hr,h=>by
  have h1:=pE hf (z:=z) (xs:=xs) (i:=i) (y:=y) (r:=r) (c:=c) (by simpa using hi) hr h
  rw [List.set_cons_succ,List.flatMap_cons,List.flatMap_cons,h1,List.set_append,if_neg (by rw [hf,Nat.succ_mul];omega),hf,show (i+1) * s+r - s=i * s+r by rw [Nat.succ_mul];omega]
theorem bO.cellG {w:World} {e s n z j:Nat} {A:Option Addr} {cs:List Cel} {F:List Nat} (h:bO w (.row e s cs) (.slice A n z) F) (hj:j<cs.length) :
  ∃g c v B G F2,A=some ⟨g,0,none⟩/\cs[j]?=some c/\w.cell? ⟨g,j,none⟩=some v/\F=g :: (B++(G++F2))/\bO w c v G /\
   ∀(w':World) (D:Cel) (q:List Nat),bO w' D v q→w'.heap[g]?=w.heap[g]?→(∀k∈B,w'.heap[k]?=w.heap[k]?)→(∀k∈F2,w'.heap[k]?=w.heap[k]?)→bO w' (.row e s (cs.set j D)) (.slice A n z) (g :: (B++(q++F2))):=by
 rw [dV] at h
 obtain ⟨Y,n',J,vs,F',U,ho,rfl,hl⟩:=h
 injection U with hA hn hc
 subst hA hn hc
 obtain ⟨c,v,B,G,F2,e1,e2,rfl,h3,h4⟩:=hl.at_ hj
 obtain ⟨g,cur,rfl,V,Q,W,Z,R,ht,u,K⟩:=kX ho e2
 refine ⟨g,c,v,B,G,F2,rfl,e1,u,rfl,h3,fun w' D q hc hg H I=>?_⟩
 rw [dV]
 refine ⟨_,n,z,vs,_,rfl,fF ho (by rintro a ⟨⟩;exact hg),rfl,?_⟩
 have:=h4 w' D v q hc H I
 rwa [show vs.set j v=vs from uW e2] at this
theorem aJ.deep {W w:World} {ps:List Pc} (h:aJ W w ps) (i m:Nat) {e s n H e2 s2:Nat} {A:Option Addr} {cs ds:List Cel} (hi:ps[i]?=some (.cel (.row e s cs) (.slice A n H))) (q:cs[m]?=some (.row e2 s2 ds)) :
  ∃g S a b B,A=some ⟨g,0,none⟩/\g<w.heap.size/\w.cell? ⟨g,m,none⟩=some (.slice S a b)/\bO w (.row e2 s2 ds) (.slice S a b) B/\B.Nodup /\
   ∀(w':World) (U:Cel) (j:List Nat),bO w' U (.slice S a b) j→j.Nodup→(∀k∈j,k∈B∨w.heap.size<=k)→gp B w w'→aJ W w' (ps.set i (.cel (.row e s (cs.set m U)) (.slice A n H))):=by
 obtain ⟨F,k1,Z,k3,k4⟩:=h.part i hi
 have J:bO w (.row e s cs) (.slice A n H) F:=k1
 have I:=J.lt
 obtain ⟨g,c,v,Y,B,F2,rfl,e1,hc,rfl,h4,h5⟩:=J.cellG (List.getElem?_eq_some_iff.1 q).1
 rw [q] at e1
 injection e1 with e1
 subst e1
 obtain ⟨S,a,b,rfl⟩:=pX h4
 rw [List.nodup_cons] at Z
 obtain ⟨hg,Q⟩:=Z
 simp only [List.mem_append,not_or] at hg
 rw [List.nodup_append,List.nodup_append] at Q
 obtain ⟨n1,⟨n2,n3,n4⟩,V⟩:=Q
 refine ⟨g,S,a,b,B,rfl,I g (by simp),hc,h4,n2,fun w' U j ho hn hs K=>?_⟩
 have u:∀k,k∈g :: (Y++(B++F2))→k∉B→w'.heap[k]?=w.heap[k]?:=fun k hk G=>K.block k (I k hk) G
 refine k4 w' _ (g :: (Y++(j++F2))) (h5 w' U j ho (u g (by simp) hg.2.1) (fun k hk=>u k (by simp [hk]) fun q=>V k hk k (by simp [q]) rfl) (fun k hk=>u k (by simp [hk]) fun q=>n4 k q k hk rfl)) ?_ (fun k hk=>?_) (K.more fun k hk=>by simp [hk])
 ·have z:∀k,k∈g :: (Y++(B++F2))→k∉B→k∉j:=fun k hk G q=>by
   rcases hs k q with h1|h1
   ·exact G h1
   have:=I k hk;omega
  rw [List.nodup_cons,List.nodup_append,List.nodup_append]
  refine ⟨?_,n1,⟨hn,n3,fun x R y D e=>?_⟩,fun x R y D e=>?_⟩
  ·simp only [List.mem_append,not_or]
   exact ⟨hg.1,z g (by simp) hg.2.1,hg.2.2⟩
  ·subst e
   exact z x (by simp [D]) (fun q=>n4 x q x D rfl) R
  subst e
  rcases List.mem_append.1 D with D|D
  ·exact z x (by simp [R]) (fun q=>V x R x (by simp [q]) rfl) D
  exact V x R x (by simp [D]) rfl
 simp only [List.mem_cons,List.mem_append] at hk ⊢
 rcases hk with hk|hk|hk|hk
 ·exact .inl (.inl hk)
 ·exact .inl (.inr (.inl hk))
 ·rcases hs k hk with h1|h1
  ·exact .inl (.inr (.inr (.inl h1)))
  exact .inr h1
 exact .inl (.inr (.inr (.inr hk)))
theorem uP {ts:List bC} {t r:Nat} (ht:t<ts.length) (hr:r<4):(ts.flatMap bC.cells)[t * 4+r]?=(tAt ts t).cells[r]?:=dS (cells:=bC.cells) (s:=4) (z:=bC.zero) (fun _=>rfl) ht hr
section
variable {W w:World} {ps:List Pc} {ts:List bC} {A:Option Addr} {n c t:Nat}
theorem oJ (h:aJ W w ps) (i:Nat) (hi:ps[i]?=some (.cel (dW ts) (.slice A n c))) (ht:t<ts.length) (r:Nat) (hr:r=2∨r=3) :
  ∃g,A=some ⟨g,0,none⟩/\g<w.heap.size/\(∃x,w.cell? ⟨g,t * 4+r,none⟩=some (.int .i64 x))/\w.frozen? ⟨g,t * 4+r,none⟩=false /\
   ∀y:Int,aJ W (w.setCell ⟨g,t * 4+r,none⟩ (.int .i64 y)) (ps.set i (.cel (dW (if r=2 then setPad ts t y else setRam ts t y)) (.slice A n c))):=by
 have hc:∃x,(ts.flatMap bC.cells)[t * 4+r]?=some (.int x):=by
  rw [uP ht (by omega)]
  rcases hr with rfl|rfl
  ·exact ⟨_,rfl⟩
  exact ⟨_,rfl⟩
 obtain ⟨x,u⟩:=hc
 obtain ⟨g,h1,h2,h3,h4,h5,q⟩:=h.num i (i:=t * 4+r) (x:=x) hi u
 refine ⟨g,h1,h3,⟨x,h4⟩,h5,fun y=>?_⟩
 have j:=q y
 rcases hr with rfl|rfl
 ·rw [if_pos rfl]
  unfold dW setPad
  rw [pE (cells:=bC.cells) (s:=4) (z:=bC.zero) (r:=2) (c := .int y) (fun _=>rfl) ht (by omega) rfl]
  exact j
 rw [if_neg (by omega)]
 unfold dW setRam
 rw [pE (cells:=bC.cells) (s:=4) (z:=bC.zero) (r:=3) (c := .int y) (fun _=>rfl) ht (by omega) rfl]
 exact j
theorem Bn (h:aJ W w ps) (i:Nat) (hi:ps[i]?=some (.cel (dW ts) (.slice A n c))) (ht:t<ts.length) {k:Nat} (hk:k<(tAt ts t).mux.length) :
  ∃g j a b,A=some ⟨g,0,none⟩/\g<w.heap.size/\w.cell? ⟨g,t * 4,none⟩=some (.slice (some ⟨j,0,none⟩) a b)/\a=(tAt ts t).mux.length /\
   ∀w',Below w.heap.size w w'→j<w'.heap.size/\(∃x,w'.cell? ⟨j,k,none⟩=some (.int .i64 x))/\w'.frozen? ⟨j,k,none⟩=false/\∀y:Int,aJ W (w'.setCell ⟨j,k,none⟩ (.int .i64 y)) (ps.set i (.cel (dW (setMux ts t k y)) (.slice A n c))):=by
 obtain ⟨g,S,a,b,B,h1,h2,h3,h4,h5,D⟩:=h.deep i (t * 4+0) (e2:=3) (s2:=1) (ds:=(tAt ts t).mux.map .int) hi (by rw [uP ht (by omega)];rfl)
 rw [Nat.add_zero] at h3 D
 have Q:(tAt ts t).mux.length=a:=by have:=gW h4;simpa using this
 have H:((tAt ts t).mux.map Cel.int)[k]?=some (.int ((tAt ts t).mux[k]?.getD 0)):=by rw [List.getElem?_map,List.getElem?_eq_getElem hk];rfl
 obtain ⟨j,q,-,-⟩:=h4.num h5 H
 subst q
 refine ⟨g,j,a,b,h1,h2,h3,Q.symm,fun w' I=>?_⟩
 have u:bO w' (.row 3 1 ((tAt ts t).mux.map .int)) (.slice (some ⟨j,0,none⟩) a b) B:=h4.keep fun k hk=>I.block k (h4.lt k hk)
 obtain ⟨R,q,J,K,U,V⟩:=u.num h5 H
 injection q with q
 injection q with q
 subst q
 refine ⟨u.lt _ J,⟨_,K⟩,U,fun y=>?_⟩
 have G:=D _ _ B (V y) h5 (fun k hk => .inl hk) ((vW (F:=B) I).trans (iU (p:=⟨j,k,none⟩) J _))
 unfold dW setMux
 rw [pE (cells:=bC.cells) (s:=4) (z:=bC.zero) (r:=0) (c:=aH ((tAt ts t).mux.set k y)) (fun _=>rfl) ht (by omega) rfl,Nat.add_zero]
 rw [←List.map_set] at G
 exact G
theorem Ez (h:aJ W w ps) (i j:Nat) (q:i≠j) (hi:ps[i]?=some (.cel (dW ts) (.slice A n c))) (ht:t<ts.length) {B:List Le} {v:Value} (hj:ps[j]?=some (.cel (iE B) v)) :
  ∃g,A=some ⟨g,0,none⟩/\g<w.heap.size/\(∃u,w.cell? ⟨g,t * 4+1,none⟩=some u)/\w.frozen? ⟨g,t * 4+1,none⟩=false /\
   aJ W (w.setCell ⟨g,t * 4+1,none⟩ v) ((ps.set j (.cels [] [])).set i (.cel (dW (setLes ts t B)) (.slice A n c))):=by
 obtain ⟨g,h1,_,h3,h4,h5,D⟩:=h.slot i j q (m:=t * 4+1) (c:=iE (tAt ts t).les) hi (by rw [uP ht (by omega)];rfl) hj
 refine ⟨g,h1,h3,h4,h5,?_⟩
 unfold dW setLes
 rw [pE (cells:=bC.cells) (s:=4) (z:=bC.zero) (r:=1) (c:=iE B) (fun _=>rfl) ht (by omega) rfl]
 exact D
theorem Bo {les:List Le} {e:Nat} (he:e<les.length) (y:Le):(les.set e y).flatMap Le.cells=((((les.flatMap Le.cells).set (e * 4) (aH y.sel)).set (e * 4+1) (.int y.mask)).set (e * 4+2) (.int y.flop)).set (e * 4+3) (.int y.init):=by
 have h:∀{xs:List Le} {i:Nat},i<xs.length→(xs.set i y).flatMap Le.cells=((((xs.flatMap Le.cells).set (i * 4) (aH y.sel)).set (i * 4+1) (.int y.mask)).set (i * 4+2) (.int y.flop)).set (i * 4+3) (.int y.init):=by
  intro xs
  induction xs with
  | nil=>intro i hi;simp at hi
  | cons x xs ih =>
   intro i hi
   cases i with
   | zero=>rfl
   | succ i =>
    have hl:x.cells.length=4:=rfl
    rw [List.set_cons_succ,List.flatMap_cons,List.flatMap_cons,ih (by simpa using hi)]
    rw [List.set_append,if_neg (by rw [hl];omega),List.set_append,if_neg (by rw [hl];omega),List.set_append,if_neg (by rw [hl];omega),List.set_append,if_neg (by rw [hl];omega),hl]
    rw [show (i+1) * 4 - 4=i * 4 by omega,show (i+1) * 4+1 - 4=i * 4+1 by omega,show (i+1) * 4+2 - 4=i * 4+2 by omega,show (i+1) * 4+3 - 4=i * 4+3 by omega]
 exact h he
theorem Fa (h:aJ W w ps) (i:Nat) (hi:ps[i]?=some (.cel (dW ts) (.slice A n c))) (ht:t<ts.length) {e:Nat} (he:e<(tAt ts t).les.length) :
  ∃g u a b,A=some ⟨g,0,none⟩/\g<w.heap.size/\w.cell? ⟨g,t * 4+1,none⟩=some (.slice (some ⟨u,0,none⟩) a b)/\a=(tAt ts t).les.length /\
   ∀(w':World) (y:Le) (S:Option Addr) (m q:Nat),aJ w w' [.cel (aH y.sel) (.slice S m q)]→u<w'.heap.size/\(∀r,r<4→(∃x,w'.cell? ⟨u,e * 4+r,none⟩=some x)/\w'.frozen? ⟨u,e * 4+r,none⟩=false) /\
    aJ W ((((w'.setCell ⟨u,e * 4,none⟩ (.slice S m q)).setCell ⟨u,e * 4+1,none⟩ (.int .i64 y.mask)).setCell ⟨u,e * 4+2,none⟩ (.int .i64 y.flop)).setCell ⟨u,e * 4+3,none⟩ (.int .i64 y.init)) (ps.set i (.cel (dW (setLes ts t ((tAt ts t).les.set e y))) (.slice A n c))):=by
 obtain ⟨g,S0,a,b,FL,h1,h2,h3,h4,h5,h6⟩:=h.deep i (t * 4+1) (e2:=121) (s2:=4) (ds:=(tAt ts t).les.flatMap Le.cells) hi (by rw [uP ht (by omega)];rfl)
 have R:((tAt ts t).les.flatMap Le.cells).length=(tAt ts t).les.length * 4:=eZ (cells:=Le.cells) (s:=4) (fun _=>rfl) _
 have ha:(tAt ts t).les.length=a:=by have:=gW h4;rw [R] at this;omega
 have af:∀r,r<4→((tAt ts t).les.flatMap Le.cells)[e * 4+r]?=((tAt ts t).les[e]?.getD Le.zero).cells[r]?:=fun r hr=>dS (cells:=Le.cells) (s:=4) (z:=Le.zero) (fun _=>rfl) he hr
 have ak:((tAt ts t).les.flatMap Le.cells)[e * 4+1]?=some (.int ((tAt ts t).les[e]?.getD Le.zero).mask):=af 1 (by omega)
 obtain ⟨u,hS,-,-⟩:=h4.num h5 ak
 subst hS
 refine ⟨g,u,a,b,h1,h2,h3,ha.symm,fun w' y S m q hs=>?_⟩
 have hb:=hs.bel
 have Y:bO w' (.row 121 4 ((tAt ts t).les.flatMap Le.cells)) (.slice (some ⟨u,0,none⟩) a b) FL:=h4.keep fun k hk=>hb.block k (h4.lt k hk)
 have V:∀r,r<4→(∃x,w'.cell? ⟨u,e * 4+r,none⟩=some x)/\w'.frozen? ⟨u,e * 4+r,none⟩=false/\u∈FL:=fun r hr=>by
  obtain ⟨g',c0,v0,F1,Fj,F2,hA,_,m1,m2,rfl,_⟩:=Y.cell (j:=e * 4+r) (by rw [R];omega)
  injection hA with hA
  injection hA with hA
  subst hA
  exact ⟨⟨_,m1⟩,m2,by simp⟩
 have D:=(V 0 (by omega)).2.2
 refine ⟨Y.lt _ D,fun r hr=>⟨(V r hr).1,(V r hr).2.1⟩,?_⟩
 -- the new selections
 obtain ⟨G,g1,g2,g3,_⟩:=hs.part 0 rfl
 have aj:bO w' (aH y.sel) (.slice S m q) G:=g1
 have Q:∀k∈G,k∉FL:=fun k hk hm=>by have:=(g3 k hk).1;have:=h4.lt k hm;omega
 obtain ⟨aS,c0,v0,F1,Fj,F2,hA,_,_,_,B,_,_,m6⟩:=Y.cell (j:=e * 4) (by rw [R];omega)
 injection hA with hA
 injection hA with hA
 subst hA
 have ae:=h5
 rw [B,List.nodup_cons,List.nodup_append,List.nodup_append] at ae
 obtain ⟨p1,p2,⟨p3,p4,p5⟩,p6⟩:=ae
 simp only [List.mem_append,not_or] at p1
 have s1:=m6 (aH y.sel) (.slice S m q) G aj p1.1 (fun hm=>Q u hm (by rw [B];simp)) p1.2.2
 have K:(u :: (F1++(G++F2))).Nodup:=by
  rw [List.nodup_cons,List.nodup_append,List.nodup_append]
  refine ⟨?_,p2,⟨g2,p4,fun x hx z Z e=>?_⟩,fun x hx z Z e=>?_⟩
  ·simp only [List.mem_append,not_or]
   exact ⟨p1.1,fun hm=>Q u hm (by rw [B];simp),p1.2.2⟩
  ·subst e;exact Q x hx (by rw [B];simp [Z])
  subst e
  rcases List.mem_append.1 Z with Z|Z
  ·exact Q x Z (by rw [B];simp [hx])
  exact p6 x hx x (by simp [Z]) rfl
 have hy:∀{r:Nat} {L:List Cel},0<r→r<4→(∀U,r<=U→U<4→L[e * 4+U]?=((tAt ts t).les.flatMap Le.cells)[e * 4+U]?)→∃x,L[e * 4+r]?=some (.int x):=fun {r L} h0 hr hL=>by
  rw [hL r (Nat.le_refl _) hr,af r hr]
  match r,h0,hr with
  | 1,_,_=>exact ⟨_,rfl⟩
  | 2,_,_=>exact ⟨_,rfl⟩
  | 3,_,_=>exact ⟨_,rfl⟩
 obtain ⟨x1,e1⟩:=hy (r:=1) (L:=((tAt ts t).les.flatMap Le.cells).set (e * 4) (aH y.sel)) (by omega) (by omega) (fun U a1 a2=>by rw [List.getElem?_set_ne (by omega)])
 obtain ⟨_,I,_,_,_,u1⟩:=s1.num K e1
 injection I with I
 injection I with I
 subst I
 have s2:=u1 y.mask
 obtain ⟨x2,e2⟩:=hy (r:=2) (L:=(((tAt ts t).les.flatMap Le.cells).set (e * 4) (aH y.sel)).set (e * 4+1) (.int y.mask)) (by omega) (by omega) (fun U a1 a2=>by rw [List.getElem?_set_ne (by omega),List.getElem?_set_ne (by omega)])
 obtain ⟨_,H,_,_,_,u2⟩:=s2.num K e2
 injection H with H
 injection H with H
 subst H
 have s3:=u2 y.flop
 obtain ⟨x3,e3⟩:=hy (r:=3) (L:=((((tAt ts t).les.flatMap Le.cells).set (e * 4) (aH y.sel)).set (e * 4+1) (.int y.mask)).set (e * 4+2) (.int y.flop)) (by omega) (by omega) (fun U a1 a2=>by rw [List.getElem?_set_ne (by omega),List.getElem?_set_ne (by omega),List.getElem?_set_ne (by omega)])
 obtain ⟨_,J,_,_,_,u3⟩:=s3.num K e3
 injection J with J
 injection J with J
 subst J
 have s4:=u3 y.init
 rw [←Bo he y] at s4
 have h8:=h6 _ _ _ s4 K (fun k hk=>by
  simp only [List.mem_cons,List.mem_append] at hk
  rcases hk with hk|hk|hk|hk
  ·exact .inl (by rw [B];simp [hk])
  ·exact .inl (by rw [B];simp [hk])
  ·exact .inr (g3 k hk).1
  exact .inl (by rw [B];simp [hk])) (((((vW (F:=FL) hb).trans (iU (p:=⟨u,e * 4,none⟩) D _)).trans (iU (p:=⟨u,e * 4+1,none⟩) D _)).trans (iU (p:=⟨u,e * 4+2,none⟩) D _)).trans (iU (p:=⟨u,e * 4+3,none⟩) D _))
 unfold dW setLes
 rw [pE (cells:=bC.cells) (s:=4) (z:=bC.zero) (r:=1) (c:=iE ((tAt ts t).les.set e y)) (fun _=>rfl) ht (by omega) rfl]
 exact h8
end
theorem DK:(Tryz.prog.info? 3).map (fun i=>(i.zero,i.size,i.bytes))=some (some (.int .i64 0),1,8):=by kernel_rfl
theorem FT (W:World):(Instr.makeSlice 26 (.int .i64 4) (.int .i64 4)).run Tryz.prog W = .ok (.slice (some ⟨W.heap.size,0,none⟩) 4 4) (W.alloc (.cells #[.int .i64 0,.int .i64 0,.int .i64 0,.int .i64 0] 3)):=by
 obtain ⟨u,hi,j,g,q⟩:=info_parts DK
 have h:=bv (P:=Tryz.prog) 26 3 u _ Tryz.underlying26 hi j .i64 .i64 4 4 (Nat.le_refl _) (by rw [q];omega) (by omega) W
 rw [g,show madeCells (Value.int .i64 0).cells (4 * 1)=#[.int .i64 0,.int .i64 0,.int .i64 0,.int .i64 0] from by rw [Nat.mul_one,show (Value.int .i64 0).cells=#[Value.int .i64 0] from rfl,nu];rfl] at h
 exact h
abbrev I4:Obj := .cells #[.int .i64 0,.int .i64 0,.int .i64 0,.int .i64 0] 3
abbrev LES (a b:Nat):Obj := .cells #[.slice (some ⟨a,0,none⟩) 4 4,.int .i64 0,.int .i64 0,.int .i64 0,.slice (some ⟨b,0,none⟩) 4 4,.int .i64 0,.int .i64 0,.int .i64 0] 121
def uy (W:World) (p:Value) (w:World):Prop:=∃g,p = .slice (some ⟨g,0,none⟩) 2 2/\aJ W w [.cel (iE [zLe,zLe]) p]
theorem tN {W w:World} (h:aJ W w []) {a b:Nat} (q:a≠b/\w.heap.size<=a/\w.heap.size<=b/\a<w.heap.size+2/\b<w.heap.size+2):uy W (.slice (some ⟨w.heap.size+1+1,0,none⟩) 2 2) (((w.alloc I4).alloc I4).alloc (LES a b)):=by
 obtain ⟨h1,h2,h3,h4,h5⟩:=q
 have k0:(((w.alloc I4).alloc I4).alloc (LES a b)).heap[w.heap.size]?=some (.cells #[.int .i64 0,.int .i64 0,.int .i64 0,.int .i64 0] 3 (0,0)):=aW _ (aW _ (aI w _))
 have z:(((w.alloc I4).alloc I4).alloc (LES a b)).heap[w.heap.size+1]?=some (.cells #[.int .i64 0,.int .i64 0,.int .i64 0,.int .i64 0] 3 (0,0)):=by
  have:=aW (LES a b) (aI (w.alloc I4) I4)
  simpa using this
 have u:(((w.alloc I4).alloc I4).alloc (LES a b)).heap[w.heap.size+1+1]?=some (.cells #[.slice (some ⟨a,0,none⟩) 4 4,.int .i64 0,.int .i64 0,.int .i64 0,.slice (some ⟨b,0,none⟩) 4 4,.int .i64 0,.int .i64 0,.int .i64 0] 121 (0,0)):=by
  have:=aI ((w.alloc I4).alloc I4) (LES a b)
  simpa using this
 have hk:∀g,w.heap.size<=g→g<w.heap.size+2→bO (((w.alloc I4).alloc I4).alloc (LES a b)) (aH [0,0,0,0]) (.slice (some ⟨g,0,none⟩) 4 4) [g]:=fun g B D=>by
  have hg:(((w.alloc I4).alloc I4).alloc (LES a b)).heap[g]?=some (.cells #[.int .i64 0,.int .i64 0,.int .i64 0,.int .i64 0] 3 (0,0)):=by
   rcases (by omega:g=w.heap.size∨g=w.heap.size+1) with e|e
   ·rw [e];exact k0
   rw [e];exact z
  exact eB.2 ⟨Own.made hg (Nat.zero_le _) (by unfold maxLen;simp) rfl rfl,rfl⟩
 have j:∀v:World,bO v (.int 0) (.int .i64 0) []:=fun v=>ed.2 ⟨rfl,rfl⟩
 refine ⟨_,rfl,h.push (G:=[w.heap.size+1+1,a,b]) (aB (aB (aB (Below.refl _ _) _) _) _) ?_ ?_ ?_⟩
 ·show bO _ (iE [zLe,zLe]) _ _
  unfold iE
  rw [dV]
  refine ⟨_,2,2,[.slice (some ⟨a,0,none⟩) 4 4,.int .i64 0,.int .i64 0,.int .i64 0,.slice (some ⟨b,0,none⟩) 4 4,.int .i64 0,.int .i64 0,.int .i64 0],[a,b],rfl,⟨by simp,.inr ⟨_,2,_,rfl,Nat.zero_le _,u,Nat.le_refl _,by unfold maxLen;simp,by simp,by simp⟩⟩,rfl,?_⟩
  show fB _ [aH [0,0,0,0],.int 0,.int 0,.int 0,aH [0,0,0,0],.int 0,.int 0,.int 0] _ _
  refine bK.2 ⟨_,_,[a],[b],rfl,rfl,hk a h2 h4,?_⟩
  refine bK.2 ⟨_,_,[],[b],rfl,rfl,j _,?_⟩
  refine bK.2 ⟨_,_,[],[b],rfl,rfl,j _,?_⟩
  refine bK.2 ⟨_,_,[],[b],rfl,rfl,j _,?_⟩
  refine bK.2 ⟨_,_,[b],[],rfl,rfl,hk b h3 h5,?_⟩
  refine bK.2 ⟨_,_,[],[],rfl,rfl,j _,?_⟩
  refine bK.2 ⟨_,_,[],[],rfl,rfl,j _,?_⟩
  exact bK.2 ⟨_,_,[],[],rfl,rfl,j _,ek.2 ⟨rfl,rfl⟩⟩
 ·simp;omega
 intro k hk
 simp at hk
 omega
theorem uy.drew {W w:World} {p:Value} (h:uy W p w):uy W p w.drew:=by
 obtain ⟨g,h1,h2⟩:=h
 exact ⟨g,h1,h2.drew⟩
theorem EG {e:Le} {s:List Int} {m f i:Int} (h1:e.sel=s) (h2:e.mask=m) (h3:e.flop=f) (h4:e.init=i):e=⟨s,m,f,i⟩:=by
 cases e
 subst h1 h2 h3 h4
 rfl
theorem uz {W w:World} {ps:List Pc} {q:List Le} {A:Option Addr} {n c e:Nat} {v:Value} (h:aJ W w ps) (i j:Nat) (J:i≠j) (y:Le) (hi:ps[i]?=some (.cel (iE q) (.slice A n c))) (hj:ps[j]?=some (.cel (aH y.sel) v)) (he:e<q.length) :
  ∃g,A=some ⟨g,0,none⟩/\g<w.heap.size/\((∃x,w.cell? ⟨g,e * 4,none⟩=some x)/\(∃x,w.cell? ⟨g,e * 4+1,none⟩=some x)/\(∃x,w.cell? ⟨g,e * 4+2,none⟩=some x)/\∃x,w.cell? ⟨g,e * 4+3,none⟩=some x) /\
   (w.frozen? ⟨g,e * 4,none⟩=false/\w.frozen? ⟨g,e * 4+1,none⟩=false/\w.frozen? ⟨g,e * 4+2,none⟩=false/\w.frozen? ⟨g,e * 4+3,none⟩=false) /\
   aJ W ((((w.setCell ⟨g,e * 4,none⟩ v).setCell ⟨g,e * 4+1,none⟩ (.int .i64 y.mask)).setCell ⟨g,e * 4+2,none⟩ (.int .i64 y.flop)).setCell ⟨g,e * 4+3,none⟩ (.int .i64 y.init)) ((ps.set j (.cels [] [])).set i (.cel (iE (q.set e y)) (.slice A n c))):=by
 have G:∀r,r<4→(q.flatMap Le.cells)[e * 4+r]?=(q[e]?.getD Le.zero).cells[r]?:=fun r hr=>dS (cells:=Le.cells) (s:=4) (z:=Le.zero) (fun _=>rfl) he hr
 have a0:(q.flatMap Le.cells)[e * 4]?=some (aH (q[e]?.getD Le.zero).sel):=G 0 (by omega)
 have R:(q.flatMap Le.cells)[e * 4+1]?=some (.int (q[e]?.getD Le.zero).mask):=G 1 (by omega)
 have Q:(q.flatMap Le.cells)[e * 4+2]?=some (.int (q[e]?.getD Le.zero).flop):=G 2 (by omega)
 have U:(q.flatMap Le.cells)[e * 4+3]?=some (.int (q[e]?.getD Le.zero).init):=G 3 (by omega)
 have hl:=(List.getElem?_eq_some_iff.1 hi).1
 obtain ⟨_,D,_,_,c1,f1,_⟩:=h.num i (e:=121) (s:=4) hi R
 obtain ⟨_,u,_,_,c2,Y,_⟩:=h.num i (e:=121) (s:=4) hi Q
 obtain ⟨_,B,_,_,c3,f3,_⟩:=h.num i (e:=121) (s:=4) hi U
 obtain ⟨g,rfl,_,hg,V,f0,s1⟩:=h.slot i j J (e:=121) (s:=4) hi a0 hj
 injection D with D;injection D with D;subst D
 injection u with u;injection u with u;subst u
 injection B with B;injection B with B;subst B
 refine ⟨_,rfl,hg,⟨V,⟨_,c1⟩,⟨_,c2⟩,⟨_,c3⟩⟩,⟨f0,f1,Y,f3⟩,?_⟩
 have n1:e * 4≠e * 4+1:=by omega
 have n2:e * 4≠e * 4+2:=by omega
 have n3:e * 4≠e * 4+3:=by omega
 have n4:e * 4+1≠e * 4+2:=by omega
 have Z:e * 4+1≠e * 4+3:=by omega
 have n6:e * 4+2≠e * 4+3:=by omega
 have K:∀p:Pc,((ps.set j (.cels [] [])).set i p)[i]?=some p:=fun p=>List.getElem?_set_self (by rw [List.length_set];exact hl)
 obtain ⟨_,e1,_,_,_,_,s2⟩:=s1.num i (K _) (by rw [List.getElem?_set_ne n1];exact R)
 injection e1 with e1;injection e1 with e1;subst e1
 have s2:=s2 y.mask
 rw [List.set_set] at s2
 obtain ⟨_,e2,_,_,_,_,H⟩:=s2.num i (K _) (by rw [List.getElem?_set_ne n4,List.getElem?_set_ne n2];exact Q)
 injection e2 with e2;injection e2 with e2;subst e2
 have H:=H y.flop
 rw [List.set_set] at H
 obtain ⟨_,e3,_,_,_,_,I⟩:=H.num i (K _) (by rw [List.getElem?_set_ne n6,List.getElem?_set_ne Z,List.getElem?_set_ne n3];exact U)
 injection e3 with e3;injection e3 with e3;subst e3
 have I:=I y.init
 rw [List.set_set,←Bo he y] at I
 exact I
theorem wu {d:Dev} {w w':World} {e:Ending} (h:qi w (ny d) e w') (R:ny d<=21):∃H D,e = .returned (.agg #[H,D,.int .i64 0,.int .i64 0])/\aJ w w' [.cels (emT d).cells [H,D,.int .i64 0,.int .i64 0]]:=by
 obtain ⟨v,rfl,⟨B,z,u,j,rfl,l1,l2,l3,Q,n1,n2,n3,K,J,U,h1,h2,h3,h4⟩,I⟩:=h
 refine ⟨_,_,rfl,(aJ.refl w).push (G:=[B,z,u,j]) I ?_ ?_ ?_⟩
 ·have hk:∀g,w'.heap[g]?=some (.cells (arr (List.replicate 4 0)) 3 (0,0))→bO w' (aH [0,0,0,0]) (.slice (some ⟨g,0,none⟩) 4 4) [g]:=fun g hg =>
   eB.2 ⟨Own.made hg (Nat.zero_le _) (by unfold maxLen;simp) rfl rfl,rfl⟩
  have q:bO w' (.int 0) (.int .i64 0) []:=ed.2 ⟨rfl,rfl⟩
  show fB w' [aH (List.replicate (ny d) 0),iE [zLe,zLe],.int 0,.int 0] _ _
  refine bK.2 ⟨_,_,[B],[z,u,j],rfl,rfl,eB.2 ⟨Own.arr h1 (Nat.zero_le _) (by unfold maxLen;omega) (by simp),rfl⟩,?_⟩
  refine bK.2 ⟨_,_,[z,u,j],[],rfl,rfl,?_,?_⟩
  ·unfold iE
   rw [dV]
   refine ⟨_,2,2,[.slice (some ⟨u,0,none⟩) 4 4,.int .i64 0,.int .i64 0,.int .i64 0,.slice (some ⟨j,0,none⟩) 4 4,.int .i64 0,.int .i64 0,.int .i64 0],[u,j],rfl,⟨by simp,.inr ⟨_,2,_,rfl,Nat.zero_le _,h2,Nat.le_refl _,by unfold maxLen;simp,by simp [FP],by simp [FP]⟩⟩,rfl,?_⟩
   show fB w' [aH [0,0,0,0],.int 0,.int 0,.int 0,aH [0,0,0,0],.int 0,.int 0,.int 0] _ _
   refine bK.2 ⟨_,_,[u],[j],rfl,rfl,hk u h3,?_⟩
   refine bK.2 ⟨_,_,[],[j],rfl,rfl,q,?_⟩
   refine bK.2 ⟨_,_,[],[j],rfl,rfl,q,?_⟩
   refine bK.2 ⟨_,_,[],[j],rfl,rfl,q,?_⟩
   refine bK.2 ⟨_,_,[j],[],rfl,rfl,hk j h4,?_⟩
   refine bK.2 ⟨_,_,[],[],rfl,rfl,q,?_⟩
   refine bK.2 ⟨_,_,[],[],rfl,rfl,q,?_⟩
   exact bK.2 ⟨_,_,[],[],rfl,rfl,q,ek.2 ⟨rfl,rfl⟩⟩
  refine bK.2 ⟨_,_,[],[],rfl,rfl,q,?_⟩
  exact bK.2 ⟨_,_,[],[],rfl,rfl,q,ek.2 ⟨rfl,rfl⟩⟩
 ·simp;omega
 intro k hk
 simp at hk
 omega
theorem zO (e:bC) (k:Nat):dW (List.replicate (k+1) e) = .row 110 4 ((List.replicate k e).flatMap bC.cells++e.cells):=by
 unfold dW
 rw [List.replicate_succ',List.flatMap_append,List.flatMap_singleton]
theorem zP {ts:List bC} {t:Nat} (ht:t<ts.length) {g:List Le} (h:(tAt ts t).les=g):setLes ts t g=ts:=by
 unfold setLes
 rw [←h]
 unfold tAt
 rw [List.getElem?_eq_getElem ht]
 exact List.set_getElem_self ht
theorem DL {ts:List bC} {t:Nat} (ht:t<ts.length) (g:List Le):(tAt (setLes ts t g) t).les=g:=by
 unfold setLes
 rw [sH ht,if_pos rfl]
theorem Am (ts:List bC) (t:Nat) (g:List Le):(setLes ts t g).length=ts.length:=by unfold setLes;rw [List.length_set]
theorem xW {ts:List bC} {t:Nat} (ht:t<ts.length) (a b:List Le):setLes (setLes ts t a) t b=setLes ts t b:=by
 have h:tAt (setLes ts t a) t={ tAt ts t with les:=a }:=by
  unfold setLes
  rw [sH ht,if_pos rfl]
 unfold setLes at *
 rw [h,List.set_set]
end Go.Proofs.YtofihjoanjkdmaaGreat
