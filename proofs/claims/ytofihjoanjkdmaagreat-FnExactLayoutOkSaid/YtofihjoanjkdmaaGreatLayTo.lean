/- The laws' copies of nested data (printed by mkto.py). -/
import Derived.Test.YtofihjoanjkdmaaGreatLaySz
import Derived.Test.YtofihjoanjkdmaaGreatResc
namespace Go.Proofs.YtofihjoanjkdmaaGreat
set_option maxHeartbeats 4000000
set_option maxRecDepth 100000
open Go.RowKit
theorem eH {l:List Value} {j:Nat} (h:j<l.length) (v:Value):(l.set j v).take (j+1)=l.take j++[v]:=by
 rw [List.take_add_one,List.getElem?_set_self h,List.take_set_of_le (Nat.le_refl _)]
 rfl
theorem jI {α β:Type} {f:α→List β} {xs:List α} {k:Nat} {x:α} (h:xs[k]?=some x):(xs.take (k+1)).flatMap f=(xs.take k).flatMap f++f x:=by
 rw [List.take_add_one,h]
 simp
structure eX (w:World) (g:Nat) (e:TypeId) (s n k:Nat) (vs:List Value):Prop where
 blk:∃cur,w.heap[g]?=some (.cells cur e (0,0))/\cur.size=n * s/\cur.toList.take (k * s)=vs
 len:vs.length=k * s
theorem eX.tr {w w':World} {g:Nat} {e:TypeId} {s n k:Nat} {vs:List Value} (h:eX w g e s n k vs) (hb:Below w.heap.size w w'):eX w' g e s n k vs:=by
 obtain ⟨⟨cur,h1,h2,h3⟩,h4⟩:=h
 exact ⟨⟨cur,aD hb h1,h2,h3⟩,h4⟩
theorem eX.lt {w:World} {g:Nat} {e:TypeId} {s n k:Nat} {vs:List Value} (h:eX w g e s n k vs):g<w.heap.size:=by
 obtain ⟨⟨cur,h1,h2,h3⟩,h4⟩:=h
 exact aC h1
theorem eX.cell {w:World} {g:Nat} {e:TypeId} {s n k:Nat} {vs:List Value} (h:eX w g e s n k vs) (hk:k<n) (j:Nat) (hj:j<s):∃u,w.cell? ⟨g,k * s+j,none⟩=some u:=by
 obtain ⟨⟨cur,h1,h2,h3⟩,h4⟩:=h
 have hm:=Nat.mul_le_mul_right s (show k+1<=n by omega)
 rw [Nat.succ_mul] at hm
 have hj2:k * s+j<cur.size:=by omega
 exact ⟨cur[k * s+j],by unfold World.cell?;rw [h1];simp [hj2]⟩
theorem eX.frozen {w:World} {g:Nat} {e:TypeId} {s n k:Nat} {vs:List Value} (h:eX w g e s n k vs) (j:Nat):w.frozen? ⟨g,j,none⟩=false:=by
 obtain ⟨⟨cur,h1,h2,h3⟩,h4⟩:=h
 exact aj h1 j
theorem eX.put2 {w:World} {g:Nat} {e:TypeId} {n k:Nat} {vs:List Value} (h:eX w g e 2 n k vs) (hk:k<n) (v0 v1:Value):eX ((w.setCell ⟨g,k * 2,none⟩ v0).setCell ⟨g,k * 2+1,none⟩ v1) g e 2 n (k+1) (vs++[v0,v1]):=by
 obtain ⟨⟨cur,h1,h2,h3⟩,h4⟩:=h
 refine ⟨⟨_,iP (iP h1 _ v0) _ v1,by simp [h2],?_⟩,by simp [h4];omega⟩
 have hl:cur.toList.length=n * 2:=by rw [Array.length_toList,h2]
 simp only [Array.toList_setIfInBounds]
 rw [show (k+1) * 2=k * 2+1+1 by omega,eH (by simp;omega),eH (by omega),h3]
 simp
theorem eX.put3 {w:World} {g:Nat} {e:TypeId} {n k:Nat} {vs:List Value} (h:eX w g e 3 n k vs) (hk:k<n) (v0 v1 v2:Value):eX (((w.setCell ⟨g,k * 3,none⟩ v0).setCell ⟨g,k * 3+1,none⟩ v1).setCell ⟨g,k * 3+2,none⟩ v2) g e 3 n (k+1) (vs++[v0,v1,v2]):=by
 obtain ⟨⟨cur,h1,h2,h3⟩,h4⟩:=h
 refine ⟨⟨_,iP (iP (iP h1 _ v0) _ v1) _ v2,by simp [h2],?_⟩,by simp [h4];omega⟩
 have hl:cur.toList.length=n * 3:=by rw [Array.length_toList,h2]
 simp only [Array.toList_setIfInBounds]
 rw [show (k+1) * 3=k * 3+2+1 by omega,eH (by simp;omega),show k * 3+2=k * 3+1+1 from rfl,eH (by simp;omega),eH (by omega),h3]
 simp
theorem eX.put4 {w:World} {g:Nat} {e:TypeId} {n k:Nat} {vs:List Value} (h:eX w g e 4 n k vs) (hk:k<n) (v0 v1 v2 v3:Value):eX ((((w.setCell ⟨g,k * 4,none⟩ v0).setCell ⟨g,k * 4+1,none⟩ v1).setCell ⟨g,k * 4+2,none⟩ v2).setCell ⟨g,k * 4+3,none⟩ v3) g e 4 n (k+1) (vs++[v0,v1,v2,v3]):=by
 obtain ⟨⟨cur,h1,h2,h3⟩,h4⟩:=h
 refine ⟨⟨_,iP (iP (iP (iP h1 _ v0) _ v1) _ v2) _ v3,by simp [h2],?_⟩,by simp [h4];omega⟩
 have hl:cur.toList.length=n * 4:=by rw [Array.length_toList,h2]
 simp only [Array.toList_setIfInBounds]
 rw [show (k+1) * 4=k * 4+3+1 by omega,eH (by simp;omega),show k * 4+3=k * 4+2+1 from rfl,eH (by simp;omega),show k * 4+2=k * 4+1+1 from rfl,eH (by simp;omega),eH (by omega),h3]
 simp
theorem eX.new {w:World} {e:TypeId} {s n:Nat} {cur:Array Value} (h:cur.size=n * s):eX (w.alloc (.cells cur e)) w.heap.size e s n 0 []:=⟨⟨cur,aK _ _,h,by simp⟩,by simp⟩
theorem eX.own {w:World} {g hi:Nat} {e:TypeId} {s n:Nat} {vs:List Value} {cs:List Cel} (h:eX w g e s n n vs) (hn:n<=maxLen) (ho:dL (g+1) hi w cs vs) (hh:g<hi):fQ g hi w (.row e s cs) (.slice (some ⟨g,0,none⟩) n n):=by
 obtain ⟨⟨cur,h1,h2,h3⟩,h4⟩:=h
 obtain ⟨F,k1,k2,k3⟩:=ho
 refine ⟨g :: F,?_,?_,fun k hk=>?_⟩
 ·rw [ek]
  exact ⟨_,n,n,vs,F,rfl,⟨h4,.inr ⟨g,n,cur,rfl,Nat.zero_le _,h1,Nat.le_refl _,hn,h2,h3⟩⟩,rfl,k1⟩
 ·rw [List.nodup_cons]
  exact ⟨fun hm=>by have:=k3 g hm;omega,k2⟩
 ·rw [List.mem_cons] at hk
  rcases hk with rfl|hk
  ·omega
  ·have:=k3 k hk;omega
theorem dL.chgZ {lo hi lo' hi':Nat} {w w':World} {cs:List Cel} {vs:List Value} (h:dL lo hi w cs vs) (hg:Chg lo' hi' w w') (ha:hi<=lo'∨hi'<=lo):dL lo hi w' cs vs:=h.keep fun k h1 h2 hk=>hg.block k hk (by omega)
theorem dL.appZ {lo mid mid' hi:Nat} {w:World} {cs ds:List Cel} {vs us:List Value} (h:dL lo mid w cs vs) (k:dL mid' hi w ds us) (h1:mid<=mid') (h2:lo<=mid') (h3:mid<=hi):dL lo hi w (cs++ds) (vs++us):=by
 obtain ⟨F,f1,f2,f3⟩:=h
 obtain ⟨G,g1,g2,g3⟩:=k
 refine ⟨F++G,f1.append g1,?_,fun k hk=>?_⟩
 ·rw [List.nodup_append]
  exact ⟨f2,g2,fun p hp q hq e=>by have:=f3 p hp;have:=g3 q hq;omega⟩
 ·rcases List.mem_append.1 hk with hk|hk
  ·have:=f3 k hk;omega
  ·have:=g3 k hk;omega
def Pc.ces:Pc→List Cel
 | .cel c _=>[c]
 | .cels cs _=>cs
 | .own _ _=>[]
def Pc.vals:Pc→List Value
 | .cel _ v=>[v]
 | .cels _ vs=>vs
 | .own _ _=>[]
def Pc.isTree:Pc→Bool
 | .own _ _=>false
 | _=>true
theorem gp.ownL {w:World}:∀{ps:List Pc} {F:List Nat},ps.all Pc.isTree=true→gp w ps F→eT w (ps.flatMap Pc.ces) (ps.flatMap Pc.vals) F
 | [],F,_,h=>by rw [show F=[] from h];exact eu.2 ⟨rfl,rfl⟩
 | p :: ps,F,ht,h=>by
  obtain ⟨F1,F2,rfl,h1,h2⟩:=h
  rw [List.all_cons,Bool.and_eq_true] at ht
  rw [List.flatMap_cons,List.flatMap_cons]
  refine eT.append ?_ (gp.ownL ht.2 h2)
  cases p with
  | cel c v=>exact dS.2 ⟨v,[],F1,[],rfl,(List.append_nil _).symm,h1,eu.2 ⟨rfl,rfl⟩⟩
  | cels cs vs=>exact h1
  | own g P=>exact absurd ht.1 (by simp [Pc.isTree])
theorem aM.ownsL {W w:World} {ps:List Pc} (h:aM W w ps) (ht:ps.all Pc.isTree=true):dL W.heap.size w.heap.size w (ps.flatMap Pc.ces) (ps.flatMap Pc.vals):=by
 obtain ⟨_,F,h2,h3,h4⟩:=h
 exact ⟨F,h2.ownL ht,h3,fun k hk=>⟨h4 k hk,h2.lt k hk⟩⟩
theorem aM.pushInt {W w:World} {ps:List Pc} (h:aM W w ps) (x:Int):aM W w (ps++[.cel (.int x) (.int .i64 x)]) :=
 h.push (Below.refl _ _) (G:=[]) (show eQ w (.int x) (.int .i64 x) [] from ed.2 ⟨rfl,rfl⟩) (by simp) (by simp)
theorem aM.pushLs {W w w':World} {ps:List Pc} {cs:List Cel} {vs:List Value} {hi:Nat} (h:aM W w ps) (hb:Below w.heap.size w w') (ho:dL w.heap.size hi w' cs vs):aM W w' (ps++[.cels cs vs]):=by
 obtain ⟨F,h1,h2,h3⟩:=ho
 exact h.push hb h1 h2 fun k hk=>(h3 k hk).1
theorem iO (w:World) (c0 c1 c2:Array Value) (t0 t1 t2:TypeId):aM w (((w.alloc (.cells c0 t0)).alloc (.cells c1 t1)).alloc (.cells c2 t2)) [.blk w.heap.size c0 t0,.blk (w.heap.size+1) c1 t1,.blk (w.heap.size+1+1) c2 t2]:=by
 have h:=(((aM.refl w).pushBlk c0 t0).pushBlk c1 t1).pushBlk c2 t2
 have e1:(w.alloc (.cells c0 t0)).heap.size=w.heap.size+1:=by simp
 have e2:((w.alloc (.cells c0 t0)).alloc (.cells c1 t1)).heap.size=w.heap.size+1+1:=by simp
 rw [e1,e2] at h
 exact h
theorem aH {w:World} {g:Nat} {cs:Array Value} {t:TypeId} (h:w.heap[g]?=some (.cells cs t (0,0))) {j:Nat} {v:Value} (hj:cs[j]?=some v):w.cell? ⟨g,j,none⟩=some v:=by
 unfold World.cell?
 rw [h]
 simpa using hj
theorem mE (A:Option Addr) (n c:Nat) (xs:List Int) (w:World) (h:RdC w w.heap.size (aJ xs) (.slice A n c)) (hz:szC (aJ xs)<=1048576) :
  Calls Tryz.prog 43 #[.slice A n c] w fun e w'=>∃B,e = .returned (.slice B n n)/\fQ w.heap.size w'.heap.size w' (aJ xs) (.slice B n n)/\Below w.heap.size w w':=by
 have hn:=h.ints.1
 rw [lu,hn] at hz
 refine (wC A n c xs w h.ints (by omega)).mono ?_
 rintro e w' ⟨B,rfl,ho,hb⟩
 exact ⟨B,rfl,⟨blk B,gP.2 ⟨ho.more (Nat.zero_le _),rfl⟩,by cases B <;> simp [blk],fun k hk=>by obtain ⟨a,rfl,rfl⟩:=lG.1 hk;exact ho.lt a rfl⟩,hb⟩
theorem xZ (A0:Option Addr) (n0 c0:Nat) (x:Lt) (w:World) (h0:RdC w w.heap.size (aJ x.ins) (.slice A0 n0 c0)) (hz:ae x.cells<=1048576) :
  Calls Tryz.prog 173 #[.agg #[.slice A0 n0 c0,.int .i64 x.mask]] w fun e w'=>∃B0,e = .returned (.agg #[.slice B0 n0 n0,.int .i64 x.mask])/\dL w.heap.size w'.heap.size w' x.cells [.slice B0 n0 n0,.int .i64 x.mask]/\Below w.heap.size w w':=by
 have R0:=Hd h0
 have HS:ae x.cells=szC (aJ x.ins):=by unfold Lt.cells;simp only [az,bK,fZ] <;> omega
 have Z0:Hid (szC (aJ x.ins)<=1048576):=by show _<=_;omega
 have S0:=Hd (iO w #[.slice A0 n0 c0,.int .i64 x.mask] #[.slice none 0 0,.int .i64 0] #[.slice none 0 0,.int .i64 0] 184 96 96)
 have hg20:w.heap.size≠w.heap.size+1+1:=by omega
 have hg21:w.heap.size+1≠w.heap.size+1+1:=by omega
 have hg10:w.heap.size≠w.heap.size+1:=by omega
 clear HS hz h0
 go_enter Tryz.func173,Tryz.ntmps173
 go_upto_region 2 with fail
 generalize ((w.alloc (.cells #[.slice A0 n0 c0,.int .i64 x.mask] 184)).alloc (.cells #[.slice none 0 0,.int .i64 0] 96)).alloc (.cells #[.slice none 0 0,.int .i64 0] 96)=w0 at *
 have hb0:=(S0.out.blk 0 rfl).1
 have hb1:=(S0.out.blk 1 rfl).1
 have hb2:=(S0.out.blk 2 rfl).1
 have x0:=aH hb0 (j:=0) (v := .slice A0 n0 c0) rfl
 have x1:=aH hb0 (j:=1) (v := .int .i64 x.mask) rfl
 have z0:=aH hb2 (j:=0) (v := .slice none 0 0) rfl
 have z1:=aH hb2 (j:=1) (v := .int .i64 0) rfl
 have y2:=fun k=>aj hb2 k
 have l0:=aC hb0
 have l1:=aC hb1
 have l2:=aC hb2
 clear hb0 hb1 hb2
 go_wp2_with fail
 refine (mE A0 n0 c0 x.ins _ (R0.out.below S0.out.bel) Z0.out).mono ?_
 rintro _ w1 ⟨B0,rfl,o1,b1⟩
 have Q1:Hid (aM w (w1) [.blk w.heap.size #[.slice A0 n0 c0,.int .i64 x.mask] 184,.blk (w.heap.size+1) #[.slice none 0 0,.int .i64 0] 96,.blk (w.heap.size+1+1) #[.slice none 0 0,.int .i64 0] 96,.cel (aJ x.ins) (.slice B0 n0 n0)]):=(S0.out.pushT b1 o1)
 clear o1 b1 x0 x1 z0 z1 y2 l0 l1 l2
 have hb0:=(Q1.out.blk 0 rfl).1
 have hb1:=(Q1.out.blk 1 rfl).1
 have hb2:=(Q1.out.blk 2 rfl).1
 have x0:=aH hb0 (j:=0) (v := .slice A0 n0 c0) rfl
 have x1:=aH hb0 (j:=1) (v := .int .i64 x.mask) rfl
 have z0:=aH hb2 (j:=0) (v := .slice none 0 0) rfl
 have z1:=aH hb2 (j:=1) (v := .int .i64 0) rfl
 have y2:=fun k=>aj hb2 k
 have u0:=aH hb1 (j:=0) (v := .slice none 0 0) rfl
 have u1:=aH hb1 (j:=1) (v := .int .i64 0) rfl
 have y1:=fun k=>aj hb1 k
 have l0:=aC hb0
 have l1:=aC hb1
 have l2:=aC hb2
 clear hb0 hb1 hb2
 have Q2:Hid (aM w (w1.setCell ⟨w.heap.size+1+1,0,none⟩ (.slice B0 n0 n0)) [.blk w.heap.size #[.slice A0 n0 c0,.int .i64 x.mask] 184,.blk (w.heap.size+1) #[.slice none 0 0,.int .i64 0] 96,.blk (w.heap.size+1+1) #[.slice B0 n0 n0,.int .i64 0] 96,.cel (aJ x.ins) (.slice B0 n0 n0)]):=(Q1.out.put 2 rfl 0 (.slice B0 n0 n0))
 have Q3:Hid (aM w ((w1.setCell ⟨w.heap.size+1+1,0,none⟩ (.slice B0 n0 n0)).setCell ⟨w.heap.size+1+1,1,none⟩ (.int .i64 x.mask)) [.blk w.heap.size #[.slice A0 n0 c0,.int .i64 x.mask] 184,.blk (w.heap.size+1) #[.slice none 0 0,.int .i64 0] 96,.blk (w.heap.size+1+1) #[.slice B0 n0 n0,.int .i64 x.mask] 96,.cel (aJ x.ins) (.slice B0 n0 n0)]):=(Q2.out.put 2 rfl 1 (.int .i64 x.mask))
 have Q4:Hid (aM w ((w1.setCell ⟨w.heap.size+1+1,0,none⟩ (.slice B0 n0 n0)).setCell ⟨w.heap.size+1+1,1,none⟩ (.int .i64 x.mask)) [.blk w.heap.size #[.slice A0 n0 c0,.int .i64 x.mask] 184,.blk (w.heap.size+1) #[.slice none 0 0,.int .i64 0] 96,.blk (w.heap.size+1+1) #[.slice B0 n0 n0,.int .i64 x.mask] 96,.cel (aJ x.ins) (.slice B0 n0 n0),.cel (.int x.mask) (.int .i64 x.mask)]):=(Q3.out.pushInt x.mask)
 have Q5:Hid (aM w (((w1.setCell ⟨w.heap.size+1+1,0,none⟩ (.slice B0 n0 n0)).setCell ⟨w.heap.size+1+1,1,none⟩ (.int .i64 x.mask)).setCell ⟨w.heap.size+1,0,none⟩ (.slice B0 n0 n0)) [.blk w.heap.size #[.slice A0 n0 c0,.int .i64 x.mask] 184,.blk (w.heap.size+1) #[.slice B0 n0 n0,.int .i64 0] 96,.blk (w.heap.size+1+1) #[.slice B0 n0 n0,.int .i64 x.mask] 96,.cel (aJ x.ins) (.slice B0 n0 n0),.cel (.int x.mask) (.int .i64 x.mask)]):=(Q4.out.put 1 rfl 0 (.slice B0 n0 n0))
 have Q6:Hid (aM w ((((w1.setCell ⟨w.heap.size+1+1,0,none⟩ (.slice B0 n0 n0)).setCell ⟨w.heap.size+1+1,1,none⟩ (.int .i64 x.mask)).setCell ⟨w.heap.size+1,0,none⟩ (.slice B0 n0 n0)).setCell ⟨w.heap.size+1,1,none⟩ (.int .i64 x.mask)) [.blk w.heap.size #[.slice A0 n0 c0,.int .i64 x.mask] 184,.blk (w.heap.size+1) #[.slice B0 n0 n0,.int .i64 x.mask] 96,.blk (w.heap.size+1+1) #[.slice B0 n0 n0,.int .i64 x.mask] 96,.cel (aJ x.ins) (.slice B0 n0 n0),.cel (.int x.mask) (.int .i64 x.mask)]):=(Q5.out.put 1 rfl 1 (.int .i64 x.mask))
 go_wp2_with fail
 generalize (((w1.setCell ⟨w.heap.size+1+1,0,none⟩ (.slice B0 n0 n0)).setCell ⟨w.heap.size+1+1,1,none⟩ (.int .i64 x.mask)).setCell ⟨w.heap.size+1,0,none⟩ (.slice B0 n0 n0)).setCell ⟨w.heap.size+1,1,none⟩ (.int .i64 x.mask)=WF at *
 clear x0 x1 z0 z1 y2 u0 u1 y1 l0 l1 l2
 have hb:WF.heap[w.heap.size+1]?=some (.cells #[.slice B0 n0 n0,.int .i64 x.mask] 96 (0,0)):=(Q6.out.blk 1 rfl).1
 exact bodyPost_ret (v := .agg #[.slice B0 n0 n0,.int .i64 x.mask]) (gI Tryz.results173 rfl hb Tryz.underlying96 (by kernel_rfl)) rfl ⟨B0,rfl,Q6.out.tail.tail.tail.ownsL rfl,Q6.out.bel⟩
theorem yT:(Tryz.prog.info? 96).map (fun i=>(i.zero,i.size,i.bytes))=some (some (.agg #[.slice none 0 0,.int .i64 0]),2,32):=by kernel_rfl
theorem wE (A:Option Addr) (n c:Nat) (xs:List Lt) (w:World) (h:RdC w w.heap.size (dR xs) (.slice A n c)) (hz:szC (dR xs)<=1048576) :
  Calls Tryz.prog 90 #[.slice A n c] w fun e w'=>∃B,e = .returned (.slice B n n)/\fQ w.heap.size w'.heap.size w' (dR xs) (.slice B n n)/\Below w.heap.size w w':=by
 obtain ⟨i0,hi,hz0,hz1,hz2⟩:=info_parts yT
 have hxl:xs.length=n:=h.lutN'
 have HT:szC (dR xs)=n+ae (xs.flatMap Lt.cells):=by unfold dR;rw [cK Lt.cells_length (by omega),hxl]
 have hn:n<=1048576:=by omega
 have HZ:Hid (ae (xs.flatMap Lt.cells)<=1048576):=by show _<=_;omega
 have hmk:=fun W=>dB (P:=Tryz.prog) 39 96 i0 _ Tryz.underlying39 hi hz0 .i64 .i64 n n (Nat.le_refl _) (by rw [hz2];omega) (by omega) W
 have hsz0:∀z:Array Value,(madeCells z (n * i0.size)).size=n * 2:=fun z=>by rw [size_madeCells,hz1]
 generalize hcz:madeCells _ (n * i0.size)=cz at hmk
 have hczs:cz.size=n * 2:=by rw [←hcz];exact hsz0 _
 clear hi hz0 hz1 hz2 hsz0 hcz HT hz
 have HX:=Hd hxl
 have HR:=Hd h
 clear h hxl
 go_enter Tryz.func90,Tryz.ntmps90
 go_wp2_with fail
 go_loopw [4] (fun i wr=>∃(k:Nat) (vs:List Value),k<=n/\i = .int .i64 k/\eX wr w.heap.size 96 2 n k vs/\dL (w.heap.size+1) wr.heap.size wr ((xs.take k).flatMap Lt.cells) vs/\Below w.heap.size w wr/\w.heap.size<wr.heap.size) (fun i _=>n - (intOf i).toNat)
 case atStart=>exact ⟨0,[],Nat.zero_le _,rfl,eX.new hczs,by simpa using dL.nil,aF (Below.refl _ _) _,by simp⟩
 case round =>
  obtain ⟨k,vs,hk,rfl,hfl,how,hbe,hsr⟩:=hrel
  have HFL:=Hd hfl
  have HOW:=Hd how
  have HBE:=Hd hbe
  clear hfl how hbe hmk
  by_cases hlt:k<n
  ·have hdk:decide ((k:Int)<(n:Int))=true:=by simp;omega
   have hkx:k<xs.length:=by rw [HX.out];exact hlt
   obtain ⟨b,o,S0,m0,p0,rfl,hb,c0,c1,r0⟩:=HR.out.lut' (k:=k) hkx
   have hbr:b<wr.heap.size:=by have:=HBE.out.size;omega
   have i0:(0:Int)<=(k:Int):=by omega
   have i1:(k:Int)<(n:Int):=by omega
   rw [←HBE.out.cell (p:=⟨b,o+k * 2,none⟩) hb] at c0
   rw [←HBE.out.cell (p:=⟨b,o+k * 2+1,none⟩) hb] at c1
   have Q0:=Hd (r0.below HBE.out)
   clear r0
   have HZK:Hid (ae (xs[k]?.getD Lt.zero).cells<=1048576):=by show _<=_;exact Nat.le_trans (gU hkx) HZ.out
   have HSN:=Hd (jI (f:=Lt.cells) (getD_some Lt.zero hkx:xs[k]?=some (xs[k]?.getD Lt.zero)))
   clear hkx
   generalize xs[k]?.getD Lt.zero=x at *
   go_wp2_with fail
   refine (xZ S0 m0 p0 x _ Q0.out HZK.out).mono ?_
   rintro e w2 ⟨B0,rfl,o2,b2⟩
   have hs2:=b2.size
   have HFL2:=Hd (HFL.out.tr b2)
   have HOW2:=Hd (HOW.out.below b2)
   have HBE2:=Hd (aB HBE.out b2)
   have O2:=Hd o2
   have hlg:=HFL2.out.lt
   clear o2 b2 c0 c1
   obtain ⟨u0,f0⟩:=HFL2.out.cell hlt 0 (by omega)
   rw [Nat.add_zero] at f0
   obtain ⟨u1,f1⟩:=HFL2.out.cell hlt 1 (by omega)
   have fz:=fun j=>HFL2.out.frozen j
   go_wp2_with fail
   clear f0 f1 fz
   have HP:=Hd (HFL2.out.put2 hlt (.slice B0 m0 m0) (.int .i64 x.mask))
   have hC:Chg w.heap.size (w.heap.size+1) w2 ((w2.setCell ⟨w.heap.size,k * 2,none⟩ (.slice B0 m0 m0)).setCell ⟨w.heap.size,k * 2+1,none⟩ (.int .i64 x.mask)):=by
    repeat (first|exact Chg.refl _ _ _|refine Chg.set ?_ (Nat.le_refl _) (Nat.lt_succ_self _) _)
   have hsC:=hC.size
   have HO3:=Hd (HOW2.out.chgZ hC (.inr (Nat.le_refl _)))
   have HO4:=Hd (O2.out.chgZ hC (.inr (by omega)))
   have HB3:=Hd (jl HBE2.out hC (Nat.le_refl _))
   generalize hWE:World.setCell _ _ _=WE at *
   clear hWE hC
   go_roundw
   case rel =>
    refine ⟨k+1,_,by omega,by go_num,HP.out,?_,HB3.out,by omega⟩
    rw [HSN.out]
    exact (HO3.out.appZ HO4.out (Nat.le_refl _) (by omega) hs2).widen (Nat.le_refl _) hsC
   case measure=>simp [intOf];omega
  ·have hkn:k=n:=by omega
   subst hkn
   have hdk:decide ((k:Int)<(k:Int))=false:=by simp
   go_wp2_with fail
   go_ret
   refine ⟨_,rfl,?_,HBE.out⟩
   have h:=HOW.out
   rw [List.take_of_length_le (by rw [HX.out];exact Nat.le_refl _)] at h
   exact HFL.out.own (by unfold maxLen;omega) h hsr
theorem xe (A0:Option Addr) (n0 c0:Nat) (x:Sq) (w:World) (h0:RdC w w.heap.size (aJ x.ins) (.slice A0 n0 c0)) (hz:ae x.cells<=1048576) :
  Calls Tryz.prog 172 #[.agg #[.int .i64 x.kind,.int .i64 x.init,.slice A0 n0 c0]] w fun e w'=>∃B0,e = .returned (.agg #[.int .i64 x.kind,.int .i64 x.init,.slice B0 n0 n0])/\dL w.heap.size w'.heap.size w' x.cells [.int .i64 x.kind,.int .i64 x.init,.slice B0 n0 n0]/\Below w.heap.size w w':=by
 have R0:=Hd h0
 have HS:ae x.cells=szC (aJ x.ins):=by unfold Sq.cells;simp only [az,bK,fZ] <;> omega
 have Z2:Hid (szC (aJ x.ins)<=1048576):=by show _<=_;omega
 have S0:=Hd (iO w #[.int .i64 x.kind,.int .i64 x.init,.slice A0 n0 c0] #[.int .i64 0,.int .i64 0,.slice none 0 0] #[.int .i64 0,.int .i64 0,.slice none 0 0] 182 91 91)
 have hg20:w.heap.size≠w.heap.size+1+1:=by omega
 have hg21:w.heap.size+1≠w.heap.size+1+1:=by omega
 have hg10:w.heap.size≠w.heap.size+1:=by omega
 clear HS hz h0
 go_enter Tryz.func172,Tryz.ntmps172
 go_upto_region 2 with fail
 generalize ((w.alloc (.cells #[.int .i64 x.kind,.int .i64 x.init,.slice A0 n0 c0] 182)).alloc (.cells #[.int .i64 0,.int .i64 0,.slice none 0 0] 91)).alloc (.cells #[.int .i64 0,.int .i64 0,.slice none 0 0] 91)=w0 at *
 have hb0:=(S0.out.blk 0 rfl).1
 have hb1:=(S0.out.blk 1 rfl).1
 have hb2:=(S0.out.blk 2 rfl).1
 have x0:=aH hb0 (j:=0) (v := .int .i64 x.kind) rfl
 have x1:=aH hb0 (j:=1) (v := .int .i64 x.init) rfl
 have x2:=aH hb0 (j:=2) (v := .slice A0 n0 c0) rfl
 have z0:=aH hb2 (j:=0) (v := .int .i64 0) rfl
 have z1:=aH hb2 (j:=1) (v := .int .i64 0) rfl
 have z2:=aH hb2 (j:=2) (v := .slice none 0 0) rfl
 have y2:=fun k=>aj hb2 k
 have l0:=aC hb0
 have l1:=aC hb1
 have l2:=aC hb2
 clear hb0 hb1 hb2
 have Q1:Hid (aM w (w0.setCell ⟨w.heap.size+1+1,0,none⟩ (.int .i64 x.kind)) [.blk w.heap.size #[.int .i64 x.kind,.int .i64 x.init,.slice A0 n0 c0] 182,.blk (w.heap.size+1) #[.int .i64 0,.int .i64 0,.slice none 0 0] 91,.blk (w.heap.size+1+1) #[.int .i64 x.kind,.int .i64 0,.slice none 0 0] 91]):=(S0.out.put 2 rfl 0 (.int .i64 x.kind))
 have Q2:Hid (aM w (w0.setCell ⟨w.heap.size+1+1,0,none⟩ (.int .i64 x.kind)) [.blk w.heap.size #[.int .i64 x.kind,.int .i64 x.init,.slice A0 n0 c0] 182,.blk (w.heap.size+1) #[.int .i64 0,.int .i64 0,.slice none 0 0] 91,.blk (w.heap.size+1+1) #[.int .i64 x.kind,.int .i64 0,.slice none 0 0] 91,.cel (.int x.kind) (.int .i64 x.kind)]):=(Q1.out.pushInt x.kind)
 have Q3:Hid (aM w ((w0.setCell ⟨w.heap.size+1+1,0,none⟩ (.int .i64 x.kind)).setCell ⟨w.heap.size+1+1,1,none⟩ (.int .i64 x.init)) [.blk w.heap.size #[.int .i64 x.kind,.int .i64 x.init,.slice A0 n0 c0] 182,.blk (w.heap.size+1) #[.int .i64 0,.int .i64 0,.slice none 0 0] 91,.blk (w.heap.size+1+1) #[.int .i64 x.kind,.int .i64 x.init,.slice none 0 0] 91,.cel (.int x.kind) (.int .i64 x.kind)]):=(Q2.out.put 2 rfl 1 (.int .i64 x.init))
 have Q4:Hid (aM w ((w0.setCell ⟨w.heap.size+1+1,0,none⟩ (.int .i64 x.kind)).setCell ⟨w.heap.size+1+1,1,none⟩ (.int .i64 x.init)) [.blk w.heap.size #[.int .i64 x.kind,.int .i64 x.init,.slice A0 n0 c0] 182,.blk (w.heap.size+1) #[.int .i64 0,.int .i64 0,.slice none 0 0] 91,.blk (w.heap.size+1+1) #[.int .i64 x.kind,.int .i64 x.init,.slice none 0 0] 91,.cel (.int x.kind) (.int .i64 x.kind),.cel (.int x.init) (.int .i64 x.init)]):=(Q3.out.pushInt x.init)
 go_wp2_with fail
 refine (mE A0 n0 c0 x.ins _ (R0.out.below Q4.out.bel) Z2.out).mono ?_
 rintro _ w1 ⟨B0,rfl,o1,b1⟩
 have Q5:Hid (aM w (w1) [.blk w.heap.size #[.int .i64 x.kind,.int .i64 x.init,.slice A0 n0 c0] 182,.blk (w.heap.size+1) #[.int .i64 0,.int .i64 0,.slice none 0 0] 91,.blk (w.heap.size+1+1) #[.int .i64 x.kind,.int .i64 x.init,.slice none 0 0] 91,.cel (.int x.kind) (.int .i64 x.kind),.cel (.int x.init) (.int .i64 x.init),.cel (aJ x.ins) (.slice B0 n0 n0)]):=(Q4.out.pushT b1 o1)
 clear o1 b1 x0 x1 x2 z0 z1 z2 y2 l0 l1 l2
 have hb0:=(Q5.out.blk 0 rfl).1
 have hb1:=(Q5.out.blk 1 rfl).1
 have hb2:=(Q5.out.blk 2 rfl).1
 have x0:=aH hb0 (j:=0) (v := .int .i64 x.kind) rfl
 have x1:=aH hb0 (j:=1) (v := .int .i64 x.init) rfl
 have x2:=aH hb0 (j:=2) (v := .slice A0 n0 c0) rfl
 have z0:=aH hb2 (j:=0) (v := .int .i64 x.kind) rfl
 have z1:=aH hb2 (j:=1) (v := .int .i64 x.init) rfl
 have z2:=aH hb2 (j:=2) (v := .slice none 0 0) rfl
 have y2:=fun k=>aj hb2 k
 have u0:=aH hb1 (j:=0) (v := .int .i64 0) rfl
 have u1:=aH hb1 (j:=1) (v := .int .i64 0) rfl
 have u2:=aH hb1 (j:=2) (v := .slice none 0 0) rfl
 have y1:=fun k=>aj hb1 k
 have l0:=aC hb0
 have l1:=aC hb1
 have l2:=aC hb2
 clear hb0 hb1 hb2
 have Q6:Hid (aM w (w1.setCell ⟨w.heap.size+1+1,2,none⟩ (.slice B0 n0 n0)) [.blk w.heap.size #[.int .i64 x.kind,.int .i64 x.init,.slice A0 n0 c0] 182,.blk (w.heap.size+1) #[.int .i64 0,.int .i64 0,.slice none 0 0] 91,.blk (w.heap.size+1+1) #[.int .i64 x.kind,.int .i64 x.init,.slice B0 n0 n0] 91,.cel (.int x.kind) (.int .i64 x.kind),.cel (.int x.init) (.int .i64 x.init),.cel (aJ x.ins) (.slice B0 n0 n0)]):=(Q5.out.put 2 rfl 2 (.slice B0 n0 n0))
 have Q7:Hid (aM w ((w1.setCell ⟨w.heap.size+1+1,2,none⟩ (.slice B0 n0 n0)).setCell ⟨w.heap.size+1,0,none⟩ (.int .i64 x.kind)) [.blk w.heap.size #[.int .i64 x.kind,.int .i64 x.init,.slice A0 n0 c0] 182,.blk (w.heap.size+1) #[.int .i64 x.kind,.int .i64 0,.slice none 0 0] 91,.blk (w.heap.size+1+1) #[.int .i64 x.kind,.int .i64 x.init,.slice B0 n0 n0] 91,.cel (.int x.kind) (.int .i64 x.kind),.cel (.int x.init) (.int .i64 x.init),.cel (aJ x.ins) (.slice B0 n0 n0)]):=(Q6.out.put 1 rfl 0 (.int .i64 x.kind))
 have Q8:Hid (aM w (((w1.setCell ⟨w.heap.size+1+1,2,none⟩ (.slice B0 n0 n0)).setCell ⟨w.heap.size+1,0,none⟩ (.int .i64 x.kind)).setCell ⟨w.heap.size+1,1,none⟩ (.int .i64 x.init)) [.blk w.heap.size #[.int .i64 x.kind,.int .i64 x.init,.slice A0 n0 c0] 182,.blk (w.heap.size+1) #[.int .i64 x.kind,.int .i64 x.init,.slice none 0 0] 91,.blk (w.heap.size+1+1) #[.int .i64 x.kind,.int .i64 x.init,.slice B0 n0 n0] 91,.cel (.int x.kind) (.int .i64 x.kind),.cel (.int x.init) (.int .i64 x.init),.cel (aJ x.ins) (.slice B0 n0 n0)]):=(Q7.out.put 1 rfl 1 (.int .i64 x.init))
 have Q9:Hid (aM w ((((w1.setCell ⟨w.heap.size+1+1,2,none⟩ (.slice B0 n0 n0)).setCell ⟨w.heap.size+1,0,none⟩ (.int .i64 x.kind)).setCell ⟨w.heap.size+1,1,none⟩ (.int .i64 x.init)).setCell ⟨w.heap.size+1,2,none⟩ (.slice B0 n0 n0)) [.blk w.heap.size #[.int .i64 x.kind,.int .i64 x.init,.slice A0 n0 c0] 182,.blk (w.heap.size+1) #[.int .i64 x.kind,.int .i64 x.init,.slice B0 n0 n0] 91,.blk (w.heap.size+1+1) #[.int .i64 x.kind,.int .i64 x.init,.slice B0 n0 n0] 91,.cel (.int x.kind) (.int .i64 x.kind),.cel (.int x.init) (.int .i64 x.init),.cel (aJ x.ins) (.slice B0 n0 n0)]):=(Q8.out.put 1 rfl 2 (.slice B0 n0 n0))
 go_wp2_with fail
 generalize (((w1.setCell ⟨w.heap.size+1+1,2,none⟩ (.slice B0 n0 n0)).setCell ⟨w.heap.size+1,0,none⟩ (.int .i64 x.kind)).setCell ⟨w.heap.size+1,1,none⟩ (.int .i64 x.init)).setCell ⟨w.heap.size+1,2,none⟩ (.slice B0 n0 n0)=WF at *
 clear x0 x1 x2 z0 z1 z2 y2 u0 u1 u2 y1 l0 l1 l2
 have hb:WF.heap[w.heap.size+1]?=some (.cells #[.int .i64 x.kind,.int .i64 x.init,.slice B0 n0 n0] 91 (0,0)):=(Q9.out.blk 1 rfl).1
 exact bodyPost_ret (v := .agg #[.int .i64 x.kind,.int .i64 x.init,.slice B0 n0 n0]) (gI Tryz.results172 rfl hb Tryz.underlying91 (by kernel_rfl)) rfl ⟨B0,rfl,Q9.out.tail.tail.tail.ownsL rfl,Q9.out.bel⟩
theorem yU:(Tryz.prog.info? 91).map (fun i=>(i.zero,i.size,i.bytes))=some (some (.agg #[.int .i64 0,.int .i64 0,.slice none 0 0]),3,40):=by kernel_rfl
theorem wF (A:Option Addr) (n c:Nat) (xs:List Sq) (w:World) (h:RdC w w.heap.size (dE xs) (.slice A n c)) (hz:szC (dE xs)<=1048576) :
  Calls Tryz.prog 89 #[.slice A n c] w fun e w'=>∃B,e = .returned (.slice B n n)/\fQ w.heap.size w'.heap.size w' (dE xs) (.slice B n n)/\Below w.heap.size w w':=by
 obtain ⟨i0,hi,hz0,hz1,hz2⟩:=info_parts yU
 have hxl:xs.length=n:=h.sqN'
 have HT:szC (dE xs)=n+ae (xs.flatMap Sq.cells):=by unfold dE;rw [cK Sq.cells_length (by omega),hxl]
 have hn:n<=1048576:=by omega
 have HZ:Hid (ae (xs.flatMap Sq.cells)<=1048576):=by show _<=_;omega
 have hmk:=fun W=>dB (P:=Tryz.prog) 38 91 i0 _ Tryz.underlying38 hi hz0 .i64 .i64 n n (Nat.le_refl _) (by rw [hz2];omega) (by omega) W
 have hsz0:∀z:Array Value,(madeCells z (n * i0.size)).size=n * 3:=fun z=>by rw [size_madeCells,hz1]
 generalize hcz:madeCells _ (n * i0.size)=cz at hmk
 have hczs:cz.size=n * 3:=by rw [←hcz];exact hsz0 _
 clear hi hz0 hz1 hz2 hsz0 hcz HT hz
 have HX:=Hd hxl
 have HR:=Hd h
 clear h hxl
 go_enter Tryz.func89,Tryz.ntmps89
 go_wp2_with fail
 go_loopw [4] (fun i wr=>∃(k:Nat) (vs:List Value),k<=n/\i = .int .i64 k/\eX wr w.heap.size 91 3 n k vs/\dL (w.heap.size+1) wr.heap.size wr ((xs.take k).flatMap Sq.cells) vs/\Below w.heap.size w wr/\w.heap.size<wr.heap.size) (fun i _=>n - (intOf i).toNat)
 case atStart=>exact ⟨0,[],Nat.zero_le _,rfl,eX.new hczs,by simpa using dL.nil,aF (Below.refl _ _) _,by simp⟩
 case round =>
  obtain ⟨k,vs,hk,rfl,hfl,how,hbe,hsr⟩:=hrel
  have HFL:=Hd hfl
  have HOW:=Hd how
  have HBE:=Hd hbe
  clear hfl how hbe hmk
  by_cases hlt:k<n
  ·have hdk:decide ((k:Int)<(n:Int))=true:=by simp;omega
   have hkx:k<xs.length:=by rw [HX.out];exact hlt
   obtain ⟨b,o,S0,m0,p0,rfl,hb,c0,c1,c2,r0⟩:=HR.out.sq' (k:=k) hkx
   have hbr:b<wr.heap.size:=by have:=HBE.out.size;omega
   have i0:(0:Int)<=(k:Int):=by omega
   have i1:(k:Int)<(n:Int):=by omega
   rw [←HBE.out.cell (p:=⟨b,o+k * 3,none⟩) hb] at c0
   rw [←HBE.out.cell (p:=⟨b,o+k * 3+1,none⟩) hb] at c1
   rw [←HBE.out.cell (p:=⟨b,o+k * 3+2,none⟩) hb] at c2
   have Q0:=Hd (r0.below HBE.out)
   clear r0
   have HZK:Hid (ae (xs[k]?.getD Sq.zero).cells<=1048576):=by show _<=_;exact Nat.le_trans (gU hkx) HZ.out
   have HSN:=Hd (jI (f:=Sq.cells) (getD_some Sq.zero hkx:xs[k]?=some (xs[k]?.getD Sq.zero)))
   clear hkx
   generalize xs[k]?.getD Sq.zero=x at *
   go_wp2_with fail
   refine (xe S0 m0 p0 x _ Q0.out HZK.out).mono ?_
   rintro e w2 ⟨B0,rfl,o2,b2⟩
   have hs2:=b2.size
   have HFL2:=Hd (HFL.out.tr b2)
   have HOW2:=Hd (HOW.out.below b2)
   have HBE2:=Hd (aB HBE.out b2)
   have O2:=Hd o2
   have hlg:=HFL2.out.lt
   clear o2 b2 c0 c1 c2
   obtain ⟨u0,f0⟩:=HFL2.out.cell hlt 0 (by omega)
   rw [Nat.add_zero] at f0
   obtain ⟨u1,f1⟩:=HFL2.out.cell hlt 1 (by omega)
   obtain ⟨u2,f2⟩:=HFL2.out.cell hlt 2 (by omega)
   have fz:=fun j=>HFL2.out.frozen j
   go_wp2_with fail
   clear f0 f1 f2 fz
   have HP:=Hd (HFL2.out.put3 hlt (.int .i64 x.kind) (.int .i64 x.init) (.slice B0 m0 m0))
   have hC:Chg w.heap.size (w.heap.size+1) w2 (((w2.setCell ⟨w.heap.size,k * 3,none⟩ (.int .i64 x.kind)).setCell ⟨w.heap.size,k * 3+1,none⟩ (.int .i64 x.init)).setCell ⟨w.heap.size,k * 3+2,none⟩ (.slice B0 m0 m0)):=by
    repeat (first|exact Chg.refl _ _ _|refine Chg.set ?_ (Nat.le_refl _) (Nat.lt_succ_self _) _)
   have hsC:=hC.size
   have HO3:=Hd (HOW2.out.chgZ hC (.inr (Nat.le_refl _)))
   have HO4:=Hd (O2.out.chgZ hC (.inr (by omega)))
   have HB3:=Hd (jl HBE2.out hC (Nat.le_refl _))
   generalize hWE:World.setCell _ _ _=WE at *
   clear hWE hC
   go_roundw
   case rel =>
    refine ⟨k+1,_,by omega,by go_num,HP.out,?_,HB3.out,by omega⟩
    rw [HSN.out]
    exact (HO3.out.appZ HO4.out (Nat.le_refl _) (by omega) hs2).widen (Nat.le_refl _) hsC
   case measure=>simp [intOf];omega
  ·have hkn:k=n:=by omega
   subst hkn
   have hdk:decide ((k:Int)<(k:Int))=false:=by simp
   go_wp2_with fail
   go_ret
   refine ⟨_,rfl,?_,HBE.out⟩
   have h:=HOW.out
   rw [List.take_of_length_le (by rw [HX.out];exact Nat.le_refl _)] at h
   exact HFL.out.own (by unfold maxLen;omega) h hsr
theorem si (A0 A1 A2:Option Addr) (n0 c0 n1 c1 n2 c2:Nat) (x:ai) (w:World) (h0:RdC w w.heap.size (dE x.seqs) (.slice A0 n0 c0)) (h1:RdC w w.heap.size (dR x.luts) (.slice A1 n1 c1)) (h2:RdC w w.heap.size (aJ x.outs) (.slice A2 n2 c2)) (hz:ae x.cells<=1048576) :
  Calls Tryz.prog 26 #[.agg #[.int .i64 x.inputs,.slice A0 n0 c0,.slice A1 n1 c1,.slice A2 n2 c2]] w fun e w'=>∃B0 B1 B2,e = .returned (.agg #[.int .i64 x.inputs,.slice B0 n0 n0,.slice B1 n1 n1,.slice B2 n2 n2])/\dL w.heap.size w'.heap.size w' x.cells [.int .i64 x.inputs,.slice B0 n0 n0,.slice B1 n1 n1,.slice B2 n2 n2]/\Below w.heap.size w w':=by
 have R0:=Hd h0
 have R1:=Hd h1
 have R2:=Hd h2
 have HS:ae x.cells=szC (dE x.seqs)+szC (dR x.luts)+szC (aJ x.outs):=by unfold ai.cells;simp only [az,bK,fZ] <;> omega
 have Z1:Hid (szC (dE x.seqs)<=1048576):=by show _<=_;omega
 have Z2:Hid (szC (dR x.luts)<=1048576):=by show _<=_;omega
 have Z3:Hid (szC (aJ x.outs)<=1048576):=by show _<=_;omega
 have S0:=Hd (iO w #[.int .i64 x.inputs,.slice A0 n0 c0,.slice A1 n1 c1,.slice A2 n2 c2] #[.int .i64 0,.slice none 0 0,.slice none 0 0,.slice none 0 0] #[.int .i64 0,.slice none 0 0,.slice none 0 0,.slice none 0 0] 28 41 41)
 have hg20:w.heap.size≠w.heap.size+1+1:=by omega
 have hg21:w.heap.size+1≠w.heap.size+1+1:=by omega
 have hg10:w.heap.size≠w.heap.size+1:=by omega
 clear HS hz h0 h1 h2
 go_enter Tryz.func26,Tryz.ntmps26
 go_upto_region 2 with fail
 generalize ((w.alloc (.cells #[.int .i64 x.inputs,.slice A0 n0 c0,.slice A1 n1 c1,.slice A2 n2 c2] 28)).alloc (.cells #[.int .i64 0,.slice none 0 0,.slice none 0 0,.slice none 0 0] 41)).alloc (.cells #[.int .i64 0,.slice none 0 0,.slice none 0 0,.slice none 0 0] 41)=w0 at *
 have hb0:=(S0.out.blk 0 rfl).1
 have hb1:=(S0.out.blk 1 rfl).1
 have hb2:=(S0.out.blk 2 rfl).1
 have x0:=aH hb0 (j:=0) (v := .int .i64 x.inputs) rfl
 have x1:=aH hb0 (j:=1) (v := .slice A0 n0 c0) rfl
 have x2:=aH hb0 (j:=2) (v := .slice A1 n1 c1) rfl
 have x3:=aH hb0 (j:=3) (v := .slice A2 n2 c2) rfl
 have z0:=aH hb2 (j:=0) (v := .int .i64 0) rfl
 have z1:=aH hb2 (j:=1) (v := .slice none 0 0) rfl
 have z2:=aH hb2 (j:=2) (v := .slice none 0 0) rfl
 have z3:=aH hb2 (j:=3) (v := .slice none 0 0) rfl
 have y2:=fun k=>aj hb2 k
 have l0:=aC hb0
 have l1:=aC hb1
 have l2:=aC hb2
 clear hb0 hb1 hb2
 have Q1:Hid (aM w (w0.setCell ⟨w.heap.size+1+1,0,none⟩ (.int .i64 x.inputs)) [.blk w.heap.size #[.int .i64 x.inputs,.slice A0 n0 c0,.slice A1 n1 c1,.slice A2 n2 c2] 28,.blk (w.heap.size+1) #[.int .i64 0,.slice none 0 0,.slice none 0 0,.slice none 0 0] 41,.blk (w.heap.size+1+1) #[.int .i64 x.inputs,.slice none 0 0,.slice none 0 0,.slice none 0 0] 41]):=(S0.out.put 2 rfl 0 (.int .i64 x.inputs))
 have Q2:Hid (aM w (w0.setCell ⟨w.heap.size+1+1,0,none⟩ (.int .i64 x.inputs)) [.blk w.heap.size #[.int .i64 x.inputs,.slice A0 n0 c0,.slice A1 n1 c1,.slice A2 n2 c2] 28,.blk (w.heap.size+1) #[.int .i64 0,.slice none 0 0,.slice none 0 0,.slice none 0 0] 41,.blk (w.heap.size+1+1) #[.int .i64 x.inputs,.slice none 0 0,.slice none 0 0,.slice none 0 0] 41,.cel (.int x.inputs) (.int .i64 x.inputs)]):=(Q1.out.pushInt x.inputs)
 go_wp2_with fail
 refine (wF A0 n0 c0 x.seqs _ (R0.out.below Q2.out.bel) Z1.out).mono ?_
 rintro _ w1 ⟨B0,rfl,o1,b1⟩
 have Q3:Hid (aM w (w1) [.blk w.heap.size #[.int .i64 x.inputs,.slice A0 n0 c0,.slice A1 n1 c1,.slice A2 n2 c2] 28,.blk (w.heap.size+1) #[.int .i64 0,.slice none 0 0,.slice none 0 0,.slice none 0 0] 41,.blk (w.heap.size+1+1) #[.int .i64 x.inputs,.slice none 0 0,.slice none 0 0,.slice none 0 0] 41,.cel (.int x.inputs) (.int .i64 x.inputs),.cel (dE x.seqs) (.slice B0 n0 n0)]):=(Q2.out.pushT b1 o1)
 clear o1 b1 x0 x1 x2 x3 z0 z1 z2 z3 y2 l0 l1 l2
 have hb0:=(Q3.out.blk 0 rfl).1
 have hb1:=(Q3.out.blk 1 rfl).1
 have hb2:=(Q3.out.blk 2 rfl).1
 have x0:=aH hb0 (j:=0) (v := .int .i64 x.inputs) rfl
 have x1:=aH hb0 (j:=1) (v := .slice A0 n0 c0) rfl
 have x2:=aH hb0 (j:=2) (v := .slice A1 n1 c1) rfl
 have x3:=aH hb0 (j:=3) (v := .slice A2 n2 c2) rfl
 have z0:=aH hb2 (j:=0) (v := .int .i64 x.inputs) rfl
 have z1:=aH hb2 (j:=1) (v := .slice none 0 0) rfl
 have z2:=aH hb2 (j:=2) (v := .slice none 0 0) rfl
 have z3:=aH hb2 (j:=3) (v := .slice none 0 0) rfl
 have y2:=fun k=>aj hb2 k
 have l0:=aC hb0
 have l1:=aC hb1
 have l2:=aC hb2
 clear hb0 hb1 hb2
 have Q4:Hid (aM w (w1.setCell ⟨w.heap.size+1+1,1,none⟩ (.slice B0 n0 n0)) [.blk w.heap.size #[.int .i64 x.inputs,.slice A0 n0 c0,.slice A1 n1 c1,.slice A2 n2 c2] 28,.blk (w.heap.size+1) #[.int .i64 0,.slice none 0 0,.slice none 0 0,.slice none 0 0] 41,.blk (w.heap.size+1+1) #[.int .i64 x.inputs,.slice B0 n0 n0,.slice none 0 0,.slice none 0 0] 41,.cel (.int x.inputs) (.int .i64 x.inputs),.cel (dE x.seqs) (.slice B0 n0 n0)]):=(Q3.out.put 2 rfl 1 (.slice B0 n0 n0))
 go_wp2_with fail
 refine (wE A1 n1 c1 x.luts _ (R1.out.below Q4.out.bel) Z2.out).mono ?_
 rintro _ w2 ⟨B1,rfl,o2,b2⟩
 have Q5:Hid (aM w (w2) [.blk w.heap.size #[.int .i64 x.inputs,.slice A0 n0 c0,.slice A1 n1 c1,.slice A2 n2 c2] 28,.blk (w.heap.size+1) #[.int .i64 0,.slice none 0 0,.slice none 0 0,.slice none 0 0] 41,.blk (w.heap.size+1+1) #[.int .i64 x.inputs,.slice B0 n0 n0,.slice none 0 0,.slice none 0 0] 41,.cel (.int x.inputs) (.int .i64 x.inputs),.cel (dE x.seqs) (.slice B0 n0 n0),.cel (dR x.luts) (.slice B1 n1 n1)]):=(Q4.out.pushT b2 o2)
 clear o2 b2 x0 x1 x2 x3 z0 z1 z2 z3 y2 l0 l1 l2
 have hb0:=(Q5.out.blk 0 rfl).1
 have hb1:=(Q5.out.blk 1 rfl).1
 have hb2:=(Q5.out.blk 2 rfl).1
 have x0:=aH hb0 (j:=0) (v := .int .i64 x.inputs) rfl
 have x1:=aH hb0 (j:=1) (v := .slice A0 n0 c0) rfl
 have x2:=aH hb0 (j:=2) (v := .slice A1 n1 c1) rfl
 have x3:=aH hb0 (j:=3) (v := .slice A2 n2 c2) rfl
 have z0:=aH hb2 (j:=0) (v := .int .i64 x.inputs) rfl
 have z1:=aH hb2 (j:=1) (v := .slice B0 n0 n0) rfl
 have z2:=aH hb2 (j:=2) (v := .slice none 0 0) rfl
 have z3:=aH hb2 (j:=3) (v := .slice none 0 0) rfl
 have y2:=fun k=>aj hb2 k
 have l0:=aC hb0
 have l1:=aC hb1
 have l2:=aC hb2
 clear hb0 hb1 hb2
 have Q6:Hid (aM w (w2.setCell ⟨w.heap.size+1+1,2,none⟩ (.slice B1 n1 n1)) [.blk w.heap.size #[.int .i64 x.inputs,.slice A0 n0 c0,.slice A1 n1 c1,.slice A2 n2 c2] 28,.blk (w.heap.size+1) #[.int .i64 0,.slice none 0 0,.slice none 0 0,.slice none 0 0] 41,.blk (w.heap.size+1+1) #[.int .i64 x.inputs,.slice B0 n0 n0,.slice B1 n1 n1,.slice none 0 0] 41,.cel (.int x.inputs) (.int .i64 x.inputs),.cel (dE x.seqs) (.slice B0 n0 n0),.cel (dR x.luts) (.slice B1 n1 n1)]):=(Q5.out.put 2 rfl 2 (.slice B1 n1 n1))
 go_wp2_with fail
 refine (mE A2 n2 c2 x.outs _ (R2.out.below Q6.out.bel) Z3.out).mono ?_
 rintro _ w3 ⟨B2,rfl,o3,b3⟩
 have Q7:Hid (aM w (w3) [.blk w.heap.size #[.int .i64 x.inputs,.slice A0 n0 c0,.slice A1 n1 c1,.slice A2 n2 c2] 28,.blk (w.heap.size+1) #[.int .i64 0,.slice none 0 0,.slice none 0 0,.slice none 0 0] 41,.blk (w.heap.size+1+1) #[.int .i64 x.inputs,.slice B0 n0 n0,.slice B1 n1 n1,.slice none 0 0] 41,.cel (.int x.inputs) (.int .i64 x.inputs),.cel (dE x.seqs) (.slice B0 n0 n0),.cel (dR x.luts) (.slice B1 n1 n1),.cel (aJ x.outs) (.slice B2 n2 n2)]):=(Q6.out.pushT b3 o3)
 clear o3 b3 x0 x1 x2 x3 z0 z1 z2 z3 y2 l0 l1 l2
 have hb0:=(Q7.out.blk 0 rfl).1
 have hb1:=(Q7.out.blk 1 rfl).1
 have hb2:=(Q7.out.blk 2 rfl).1
 have x0:=aH hb0 (j:=0) (v := .int .i64 x.inputs) rfl
 have x1:=aH hb0 (j:=1) (v := .slice A0 n0 c0) rfl
 have x2:=aH hb0 (j:=2) (v := .slice A1 n1 c1) rfl
 have x3:=aH hb0 (j:=3) (v := .slice A2 n2 c2) rfl
 have z0:=aH hb2 (j:=0) (v := .int .i64 x.inputs) rfl
 have z1:=aH hb2 (j:=1) (v := .slice B0 n0 n0) rfl
 have z2:=aH hb2 (j:=2) (v := .slice B1 n1 n1) rfl
 have z3:=aH hb2 (j:=3) (v := .slice none 0 0) rfl
 have y2:=fun k=>aj hb2 k
 have u0:=aH hb1 (j:=0) (v := .int .i64 0) rfl
 have u1:=aH hb1 (j:=1) (v := .slice none 0 0) rfl
 have u2:=aH hb1 (j:=2) (v := .slice none 0 0) rfl
 have u3:=aH hb1 (j:=3) (v := .slice none 0 0) rfl
 have y1:=fun k=>aj hb1 k
 have l0:=aC hb0
 have l1:=aC hb1
 have l2:=aC hb2
 clear hb0 hb1 hb2
 have Q8:Hid (aM w (w3.setCell ⟨w.heap.size+1+1,3,none⟩ (.slice B2 n2 n2)) [.blk w.heap.size #[.int .i64 x.inputs,.slice A0 n0 c0,.slice A1 n1 c1,.slice A2 n2 c2] 28,.blk (w.heap.size+1) #[.int .i64 0,.slice none 0 0,.slice none 0 0,.slice none 0 0] 41,.blk (w.heap.size+1+1) #[.int .i64 x.inputs,.slice B0 n0 n0,.slice B1 n1 n1,.slice B2 n2 n2] 41,.cel (.int x.inputs) (.int .i64 x.inputs),.cel (dE x.seqs) (.slice B0 n0 n0),.cel (dR x.luts) (.slice B1 n1 n1),.cel (aJ x.outs) (.slice B2 n2 n2)]):=(Q7.out.put 2 rfl 3 (.slice B2 n2 n2))
 have Q9:Hid (aM w ((w3.setCell ⟨w.heap.size+1+1,3,none⟩ (.slice B2 n2 n2)).setCell ⟨w.heap.size+1,0,none⟩ (.int .i64 x.inputs)) [.blk w.heap.size #[.int .i64 x.inputs,.slice A0 n0 c0,.slice A1 n1 c1,.slice A2 n2 c2] 28,.blk (w.heap.size+1) #[.int .i64 x.inputs,.slice none 0 0,.slice none 0 0,.slice none 0 0] 41,.blk (w.heap.size+1+1) #[.int .i64 x.inputs,.slice B0 n0 n0,.slice B1 n1 n1,.slice B2 n2 n2] 41,.cel (.int x.inputs) (.int .i64 x.inputs),.cel (dE x.seqs) (.slice B0 n0 n0),.cel (dR x.luts) (.slice B1 n1 n1),.cel (aJ x.outs) (.slice B2 n2 n2)]):=(Q8.out.put 1 rfl 0 (.int .i64 x.inputs))
 have Q10:Hid (aM w (((w3.setCell ⟨w.heap.size+1+1,3,none⟩ (.slice B2 n2 n2)).setCell ⟨w.heap.size+1,0,none⟩ (.int .i64 x.inputs)).setCell ⟨w.heap.size+1,1,none⟩ (.slice B0 n0 n0)) [.blk w.heap.size #[.int .i64 x.inputs,.slice A0 n0 c0,.slice A1 n1 c1,.slice A2 n2 c2] 28,.blk (w.heap.size+1) #[.int .i64 x.inputs,.slice B0 n0 n0,.slice none 0 0,.slice none 0 0] 41,.blk (w.heap.size+1+1) #[.int .i64 x.inputs,.slice B0 n0 n0,.slice B1 n1 n1,.slice B2 n2 n2] 41,.cel (.int x.inputs) (.int .i64 x.inputs),.cel (dE x.seqs) (.slice B0 n0 n0),.cel (dR x.luts) (.slice B1 n1 n1),.cel (aJ x.outs) (.slice B2 n2 n2)]):=(Q9.out.put 1 rfl 1 (.slice B0 n0 n0))
 have Q11:Hid (aM w ((((w3.setCell ⟨w.heap.size+1+1,3,none⟩ (.slice B2 n2 n2)).setCell ⟨w.heap.size+1,0,none⟩ (.int .i64 x.inputs)).setCell ⟨w.heap.size+1,1,none⟩ (.slice B0 n0 n0)).setCell ⟨w.heap.size+1,2,none⟩ (.slice B1 n1 n1)) [.blk w.heap.size #[.int .i64 x.inputs,.slice A0 n0 c0,.slice A1 n1 c1,.slice A2 n2 c2] 28,.blk (w.heap.size+1) #[.int .i64 x.inputs,.slice B0 n0 n0,.slice B1 n1 n1,.slice none 0 0] 41,.blk (w.heap.size+1+1) #[.int .i64 x.inputs,.slice B0 n0 n0,.slice B1 n1 n1,.slice B2 n2 n2] 41,.cel (.int x.inputs) (.int .i64 x.inputs),.cel (dE x.seqs) (.slice B0 n0 n0),.cel (dR x.luts) (.slice B1 n1 n1),.cel (aJ x.outs) (.slice B2 n2 n2)]):=(Q10.out.put 1 rfl 2 (.slice B1 n1 n1))
 have Q12:Hid (aM w (((((w3.setCell ⟨w.heap.size+1+1,3,none⟩ (.slice B2 n2 n2)).setCell ⟨w.heap.size+1,0,none⟩ (.int .i64 x.inputs)).setCell ⟨w.heap.size+1,1,none⟩ (.slice B0 n0 n0)).setCell ⟨w.heap.size+1,2,none⟩ (.slice B1 n1 n1)).setCell ⟨w.heap.size+1,3,none⟩ (.slice B2 n2 n2)) [.blk w.heap.size #[.int .i64 x.inputs,.slice A0 n0 c0,.slice A1 n1 c1,.slice A2 n2 c2] 28,.blk (w.heap.size+1) #[.int .i64 x.inputs,.slice B0 n0 n0,.slice B1 n1 n1,.slice B2 n2 n2] 41,.blk (w.heap.size+1+1) #[.int .i64 x.inputs,.slice B0 n0 n0,.slice B1 n1 n1,.slice B2 n2 n2] 41,.cel (.int x.inputs) (.int .i64 x.inputs),.cel (dE x.seqs) (.slice B0 n0 n0),.cel (dR x.luts) (.slice B1 n1 n1),.cel (aJ x.outs) (.slice B2 n2 n2)]):=(Q11.out.put 1 rfl 3 (.slice B2 n2 n2))
 go_wp2_with fail
 generalize ((((w3.setCell ⟨w.heap.size+1+1,3,none⟩ (.slice B2 n2 n2)).setCell ⟨w.heap.size+1,0,none⟩ (.int .i64 x.inputs)).setCell ⟨w.heap.size+1,1,none⟩ (.slice B0 n0 n0)).setCell ⟨w.heap.size+1,2,none⟩ (.slice B1 n1 n1)).setCell ⟨w.heap.size+1,3,none⟩ (.slice B2 n2 n2)=WF at *
 clear x0 x1 x2 x3 z0 z1 z2 z3 y2 u0 u1 u2 u3 y1 l0 l1 l2
 have hb:WF.heap[w.heap.size+1]?=some (.cells #[.int .i64 x.inputs,.slice B0 n0 n0,.slice B1 n1 n1,.slice B2 n2 n2] 41 (0,0)):=(Q12.out.blk 1 rfl).1
 exact bodyPost_ret (v := .agg #[.int .i64 x.inputs,.slice B0 n0 n0,.slice B1 n1 n1,.slice B2 n2 n2]) (gI Tryz.results26 rfl hb Tryz.underlying41 (by kernel_rfl)) rfl ⟨B0,B1,B2,rfl,Q12.out.tail.tail.tail.ownsL rfl,Q12.out.bel⟩
theorem yV (x:LeT) (w:World) :
  Calls Tryz.prog 256 #[.agg #[.int .i64 x.lut,.int .i64 x.ff]] w fun e w'=>e = .returned (.agg #[.int .i64 x.lut,.int .i64 x.ff])/\dL w.heap.size w'.heap.size w' x.cells [.int .i64 x.lut,.int .i64 x.ff]/\Below w.heap.size w w':=by
 go_enter Tryz.func256,Tryz.ntmps256
 go_wp2_with fail
 refine bodyPost_ret (v := .agg #[.int .i64 x.lut,.int .i64 x.ff]) (by simp [results,Tryz.results256,go_sem]) rfl ⟨rfl,?_,aF (aF (aF (Below.refl _ _) _) _) _⟩
 exact ⟨[],dS.2 ⟨_,_,[],[],rfl,rfl,ed.2 ⟨rfl,rfl⟩,dS.2 ⟨_,_,[],[],rfl,rfl,ed.2 ⟨rfl,rfl⟩,eu.2 ⟨rfl,rfl⟩⟩⟩,by simp,by simp⟩
theorem zF:(Tryz.prog.info? 94).map (fun i=>(i.zero,i.size,i.bytes))=some (some (.agg #[.int .i64 0,.int .i64 0]),2,16):=by kernel_rfl
theorem xf (A:Option Addr) (n c:Nat) (xs:List LeT) (w:World) (h:RdC w w.heap.size (dF xs) (.slice A n c)) (hz:szC (dF xs)<=1048576) :
  Calls Tryz.prog 210 #[.slice A n c] w fun e w'=>∃B,e = .returned (.slice B n n)/\fQ w.heap.size w'.heap.size w' (dF xs) (.slice B n n)/\Below w.heap.size w w':=by
 obtain ⟨i0,hi,hz0,hz1,hz2⟩:=info_parts zF
 have hxl:xs.length=n:=h.esN
 have HT:szC (dF xs)=n+ae (xs.flatMap LeT.cells):=by unfold dF;rw [cK LeT.cells_length (by omega),hxl]
 have hn:n<=1048576:=by omega
 have HZ:Hid (ae (xs.flatMap LeT.cells)<=1048576):=by show _<=_;omega
 have hmk:=fun W=>dB (P:=Tryz.prog) 87 94 i0 _ Tryz.underlying87 hi hz0 .i64 .i64 n n (Nat.le_refl _) (by rw [hz2];omega) (by omega) W
 have hsz0:∀z:Array Value,(madeCells z (n * i0.size)).size=n * 2:=fun z=>by rw [size_madeCells,hz1]
 generalize hcz:madeCells _ (n * i0.size)=cz at hmk
 have hczs:cz.size=n * 2:=by rw [←hcz];exact hsz0 _
 clear hi hz0 hz1 hz2 hsz0 hcz HT hz
 have HX:=Hd hxl
 have HR:=Hd h
 clear h hxl
 go_enter Tryz.func210,Tryz.ntmps210
 go_wp2_with fail
 go_loopw [4] (fun i wr=>∃(k:Nat) (vs:List Value),k<=n/\i = .int .i64 k/\eX wr w.heap.size 94 2 n k vs/\dL (w.heap.size+1) wr.heap.size wr ((xs.take k).flatMap LeT.cells) vs/\Below w.heap.size w wr/\w.heap.size<wr.heap.size) (fun i _=>n - (intOf i).toNat)
 case atStart=>exact ⟨0,[],Nat.zero_le _,rfl,eX.new hczs,by simpa using dL.nil,aF (Below.refl _ _) _,by simp⟩
 case round =>
  obtain ⟨k,vs,hk,rfl,hfl,how,hbe,hsr⟩:=hrel
  have HFL:=Hd hfl
  have HOW:=Hd how
  have HBE:=Hd hbe
  clear hfl how hbe hmk
  by_cases hlt:k<n
  ·have hdk:decide ((k:Int)<(n:Int))=true:=by simp;omega
   have hkx:k<xs.length:=by rw [HX.out];exact hlt
   obtain ⟨b,o,rfl,hb,c0,c1⟩:=HR.out.es (k:=k) hkx
   have hbr:b<wr.heap.size:=by have:=HBE.out.size;omega
   have i0:(0:Int)<=(k:Int):=by omega
   have i1:(k:Int)<(n:Int):=by omega
   rw [←HBE.out.cell (p:=⟨b,o+k * 2,none⟩) hb] at c0
   rw [←HBE.out.cell (p:=⟨b,o+k * 2+1,none⟩) hb] at c1
   skip
   clear HZ
   have HSN:=Hd (jI (f:=LeT.cells) (getD_some LeT.zero hkx:xs[k]?=some (xs[k]?.getD LeT.zero)))
   clear hkx
   generalize xs[k]?.getD LeT.zero=x at *
   go_wp2_with fail
   refine (yV x _).mono ?_
   rintro e w2 ⟨rfl,o2,b2⟩
   have hs2:=b2.size
   have HFL2:=Hd (HFL.out.tr b2)
   have HOW2:=Hd (HOW.out.below b2)
   have HBE2:=Hd (aB HBE.out b2)
   have O2:=Hd o2
   have hlg:=HFL2.out.lt
   clear o2 b2 c0 c1
   obtain ⟨u0,f0⟩:=HFL2.out.cell hlt 0 (by omega)
   rw [Nat.add_zero] at f0
   obtain ⟨u1,f1⟩:=HFL2.out.cell hlt 1 (by omega)
   have fz:=fun j=>HFL2.out.frozen j
   go_wp2_with fail
   clear f0 f1 fz
   have HP:=Hd (HFL2.out.put2 hlt (.int .i64 x.lut) (.int .i64 x.ff))
   have hC:Chg w.heap.size (w.heap.size+1) w2 ((w2.setCell ⟨w.heap.size,k * 2,none⟩ (.int .i64 x.lut)).setCell ⟨w.heap.size,k * 2+1,none⟩ (.int .i64 x.ff)):=by
    repeat (first|exact Chg.refl _ _ _|refine Chg.set ?_ (Nat.le_refl _) (Nat.lt_succ_self _) _)
   have hsC:=hC.size
   have HO3:=Hd (HOW2.out.chgZ hC (.inr (Nat.le_refl _)))
   have HO4:=Hd (O2.out.chgZ hC (.inr (by omega)))
   have HB3:=Hd (jl HBE2.out hC (Nat.le_refl _))
   generalize hWE:World.setCell _ _ _=WE at *
   clear hWE hC
   go_roundw
   case rel =>
    refine ⟨k+1,_,by omega,by go_num,HP.out,?_,HB3.out,by omega⟩
    rw [HSN.out]
    exact (HO3.out.appZ HO4.out (Nat.le_refl _) (by omega) hs2).widen (Nat.le_refl _) hsC
   case measure=>simp [intOf];omega
  ·have hkn:k=n:=by omega
   subst hkn
   have hdk:decide ((k:Int)<(k:Int))=false:=by simp
   go_wp2_with fail
   go_ret
   refine ⟨_,rfl,?_,HBE.out⟩
   have h:=HOW.out
   rw [List.take_of_length_le (by rw [HX.out];exact Nat.le_refl _)] at h
   exact HFL.out.own (by unfold maxLen;omega) h hsr
theorem ut (A0:Option Addr) (n0 c0:Nat) (x:Blk) (w:World) (h0:RdC w w.heap.size (dF x.les) (.slice A0 n0 c0)) (hz:ae x.cells<=1048576) :
  Calls Tryz.prog 120 #[.agg #[.int .i64 x.kind,.int .i64 x.item,.slice A0 n0 c0]] w fun e w'=>∃B0,e = .returned (.agg #[.int .i64 x.kind,.int .i64 x.item,.slice B0 n0 n0])/\dL w.heap.size w'.heap.size w' x.cells [.int .i64 x.kind,.int .i64 x.item,.slice B0 n0 n0]/\Below w.heap.size w w':=by
 have R0:=Hd h0
 have HS:ae x.cells=szC (dF x.les):=by unfold Blk.cells;simp only [az,bK,fZ] <;> omega
 have Z2:Hid (szC (dF x.les)<=1048576):=by show _<=_;omega
 have S0:=Hd (iO w #[.int .i64 x.kind,.int .i64 x.item,.slice A0 n0 c0] #[.int .i64 0,.int .i64 0,.slice none 0 0] #[.int .i64 0,.int .i64 0,.slice none 0 0] 147 89 89)
 have hg20:w.heap.size≠w.heap.size+1+1:=by omega
 have hg21:w.heap.size+1≠w.heap.size+1+1:=by omega
 have hg10:w.heap.size≠w.heap.size+1:=by omega
 clear HS hz h0
 go_enter Tryz.func120,Tryz.ntmps120
 go_upto_region 2 with fail
 generalize ((w.alloc (.cells #[.int .i64 x.kind,.int .i64 x.item,.slice A0 n0 c0] 147)).alloc (.cells #[.int .i64 0,.int .i64 0,.slice none 0 0] 89)).alloc (.cells #[.int .i64 0,.int .i64 0,.slice none 0 0] 89)=w0 at *
 have hb0:=(S0.out.blk 0 rfl).1
 have hb1:=(S0.out.blk 1 rfl).1
 have hb2:=(S0.out.blk 2 rfl).1
 have x0:=aH hb0 (j:=0) (v := .int .i64 x.kind) rfl
 have x1:=aH hb0 (j:=1) (v := .int .i64 x.item) rfl
 have x2:=aH hb0 (j:=2) (v := .slice A0 n0 c0) rfl
 have z0:=aH hb2 (j:=0) (v := .int .i64 0) rfl
 have z1:=aH hb2 (j:=1) (v := .int .i64 0) rfl
 have z2:=aH hb2 (j:=2) (v := .slice none 0 0) rfl
 have y2:=fun k=>aj hb2 k
 have l0:=aC hb0
 have l1:=aC hb1
 have l2:=aC hb2
 clear hb0 hb1 hb2
 have Q1:Hid (aM w (w0.setCell ⟨w.heap.size+1+1,0,none⟩ (.int .i64 x.kind)) [.blk w.heap.size #[.int .i64 x.kind,.int .i64 x.item,.slice A0 n0 c0] 147,.blk (w.heap.size+1) #[.int .i64 0,.int .i64 0,.slice none 0 0] 89,.blk (w.heap.size+1+1) #[.int .i64 x.kind,.int .i64 0,.slice none 0 0] 89]):=(S0.out.put 2 rfl 0 (.int .i64 x.kind))
 have Q2:Hid (aM w (w0.setCell ⟨w.heap.size+1+1,0,none⟩ (.int .i64 x.kind)) [.blk w.heap.size #[.int .i64 x.kind,.int .i64 x.item,.slice A0 n0 c0] 147,.blk (w.heap.size+1) #[.int .i64 0,.int .i64 0,.slice none 0 0] 89,.blk (w.heap.size+1+1) #[.int .i64 x.kind,.int .i64 0,.slice none 0 0] 89,.cel (.int x.kind) (.int .i64 x.kind)]):=(Q1.out.pushInt x.kind)
 have Q3:Hid (aM w ((w0.setCell ⟨w.heap.size+1+1,0,none⟩ (.int .i64 x.kind)).setCell ⟨w.heap.size+1+1,1,none⟩ (.int .i64 x.item)) [.blk w.heap.size #[.int .i64 x.kind,.int .i64 x.item,.slice A0 n0 c0] 147,.blk (w.heap.size+1) #[.int .i64 0,.int .i64 0,.slice none 0 0] 89,.blk (w.heap.size+1+1) #[.int .i64 x.kind,.int .i64 x.item,.slice none 0 0] 89,.cel (.int x.kind) (.int .i64 x.kind)]):=(Q2.out.put 2 rfl 1 (.int .i64 x.item))
 have Q4:Hid (aM w ((w0.setCell ⟨w.heap.size+1+1,0,none⟩ (.int .i64 x.kind)).setCell ⟨w.heap.size+1+1,1,none⟩ (.int .i64 x.item)) [.blk w.heap.size #[.int .i64 x.kind,.int .i64 x.item,.slice A0 n0 c0] 147,.blk (w.heap.size+1) #[.int .i64 0,.int .i64 0,.slice none 0 0] 89,.blk (w.heap.size+1+1) #[.int .i64 x.kind,.int .i64 x.item,.slice none 0 0] 89,.cel (.int x.kind) (.int .i64 x.kind),.cel (.int x.item) (.int .i64 x.item)]):=(Q3.out.pushInt x.item)
 go_wp2_with fail
 refine (xf A0 n0 c0 x.les _ (R0.out.below Q4.out.bel) Z2.out).mono ?_
 rintro _ w1 ⟨B0,rfl,o1,b1⟩
 have Q5:Hid (aM w (w1) [.blk w.heap.size #[.int .i64 x.kind,.int .i64 x.item,.slice A0 n0 c0] 147,.blk (w.heap.size+1) #[.int .i64 0,.int .i64 0,.slice none 0 0] 89,.blk (w.heap.size+1+1) #[.int .i64 x.kind,.int .i64 x.item,.slice none 0 0] 89,.cel (.int x.kind) (.int .i64 x.kind),.cel (.int x.item) (.int .i64 x.item),.cel (dF x.les) (.slice B0 n0 n0)]):=(Q4.out.pushT b1 o1)
 clear o1 b1 x0 x1 x2 z0 z1 z2 y2 l0 l1 l2
 have hb0:=(Q5.out.blk 0 rfl).1
 have hb1:=(Q5.out.blk 1 rfl).1
 have hb2:=(Q5.out.blk 2 rfl).1
 have x0:=aH hb0 (j:=0) (v := .int .i64 x.kind) rfl
 have x1:=aH hb0 (j:=1) (v := .int .i64 x.item) rfl
 have x2:=aH hb0 (j:=2) (v := .slice A0 n0 c0) rfl
 have z0:=aH hb2 (j:=0) (v := .int .i64 x.kind) rfl
 have z1:=aH hb2 (j:=1) (v := .int .i64 x.item) rfl
 have z2:=aH hb2 (j:=2) (v := .slice none 0 0) rfl
 have y2:=fun k=>aj hb2 k
 have u0:=aH hb1 (j:=0) (v := .int .i64 0) rfl
 have u1:=aH hb1 (j:=1) (v := .int .i64 0) rfl
 have u2:=aH hb1 (j:=2) (v := .slice none 0 0) rfl
 have y1:=fun k=>aj hb1 k
 have l0:=aC hb0
 have l1:=aC hb1
 have l2:=aC hb2
 clear hb0 hb1 hb2
 have Q6:Hid (aM w (w1.setCell ⟨w.heap.size+1+1,2,none⟩ (.slice B0 n0 n0)) [.blk w.heap.size #[.int .i64 x.kind,.int .i64 x.item,.slice A0 n0 c0] 147,.blk (w.heap.size+1) #[.int .i64 0,.int .i64 0,.slice none 0 0] 89,.blk (w.heap.size+1+1) #[.int .i64 x.kind,.int .i64 x.item,.slice B0 n0 n0] 89,.cel (.int x.kind) (.int .i64 x.kind),.cel (.int x.item) (.int .i64 x.item),.cel (dF x.les) (.slice B0 n0 n0)]):=(Q5.out.put 2 rfl 2 (.slice B0 n0 n0))
 have Q7:Hid (aM w ((w1.setCell ⟨w.heap.size+1+1,2,none⟩ (.slice B0 n0 n0)).setCell ⟨w.heap.size+1,0,none⟩ (.int .i64 x.kind)) [.blk w.heap.size #[.int .i64 x.kind,.int .i64 x.item,.slice A0 n0 c0] 147,.blk (w.heap.size+1) #[.int .i64 x.kind,.int .i64 0,.slice none 0 0] 89,.blk (w.heap.size+1+1) #[.int .i64 x.kind,.int .i64 x.item,.slice B0 n0 n0] 89,.cel (.int x.kind) (.int .i64 x.kind),.cel (.int x.item) (.int .i64 x.item),.cel (dF x.les) (.slice B0 n0 n0)]):=(Q6.out.put 1 rfl 0 (.int .i64 x.kind))
 have Q8:Hid (aM w (((w1.setCell ⟨w.heap.size+1+1,2,none⟩ (.slice B0 n0 n0)).setCell ⟨w.heap.size+1,0,none⟩ (.int .i64 x.kind)).setCell ⟨w.heap.size+1,1,none⟩ (.int .i64 x.item)) [.blk w.heap.size #[.int .i64 x.kind,.int .i64 x.item,.slice A0 n0 c0] 147,.blk (w.heap.size+1) #[.int .i64 x.kind,.int .i64 x.item,.slice none 0 0] 89,.blk (w.heap.size+1+1) #[.int .i64 x.kind,.int .i64 x.item,.slice B0 n0 n0] 89,.cel (.int x.kind) (.int .i64 x.kind),.cel (.int x.item) (.int .i64 x.item),.cel (dF x.les) (.slice B0 n0 n0)]):=(Q7.out.put 1 rfl 1 (.int .i64 x.item))
 have Q9:Hid (aM w ((((w1.setCell ⟨w.heap.size+1+1,2,none⟩ (.slice B0 n0 n0)).setCell ⟨w.heap.size+1,0,none⟩ (.int .i64 x.kind)).setCell ⟨w.heap.size+1,1,none⟩ (.int .i64 x.item)).setCell ⟨w.heap.size+1,2,none⟩ (.slice B0 n0 n0)) [.blk w.heap.size #[.int .i64 x.kind,.int .i64 x.item,.slice A0 n0 c0] 147,.blk (w.heap.size+1) #[.int .i64 x.kind,.int .i64 x.item,.slice B0 n0 n0] 89,.blk (w.heap.size+1+1) #[.int .i64 x.kind,.int .i64 x.item,.slice B0 n0 n0] 89,.cel (.int x.kind) (.int .i64 x.kind),.cel (.int x.item) (.int .i64 x.item),.cel (dF x.les) (.slice B0 n0 n0)]):=(Q8.out.put 1 rfl 2 (.slice B0 n0 n0))
 go_wp2_with fail
 generalize (((w1.setCell ⟨w.heap.size+1+1,2,none⟩ (.slice B0 n0 n0)).setCell ⟨w.heap.size+1,0,none⟩ (.int .i64 x.kind)).setCell ⟨w.heap.size+1,1,none⟩ (.int .i64 x.item)).setCell ⟨w.heap.size+1,2,none⟩ (.slice B0 n0 n0)=WF at *
 clear x0 x1 x2 z0 z1 z2 y2 u0 u1 u2 y1 l0 l1 l2
 have hb:WF.heap[w.heap.size+1]?=some (.cells #[.int .i64 x.kind,.int .i64 x.item,.slice B0 n0 n0] 89 (0,0)):=(Q9.out.blk 1 rfl).1
 exact bodyPost_ret (v := .agg #[.int .i64 x.kind,.int .i64 x.item,.slice B0 n0 n0]) (gI Tryz.results120 rfl hb Tryz.underlying89 (by kernel_rfl)) rfl ⟨B0,rfl,Q9.out.tail.tail.tail.ownsL rfl,Q9.out.bel⟩
theorem wG:(Tryz.prog.info? 89).map (fun i=>(i.zero,i.size,i.bytes))=some (some (.agg #[.int .i64 0,.int .i64 0,.slice none 0 0]),3,40):=by kernel_rfl
theorem sj (A:Option Addr) (n c:Nat) (xs:List Blk) (w:World) (h:RdC w w.heap.size (bE xs) (.slice A n c)) (hz:szC (bE xs)<=1048576) :
  Calls Tryz.prog 41 #[.slice A n c] w fun e w'=>∃B,e = .returned (.slice B n n)/\fQ w.heap.size w'.heap.size w' (bE xs) (.slice B n n)/\Below w.heap.size w w':=by
 obtain ⟨i0,hi,hz0,hz1,hz2⟩:=info_parts wG
 have hxl:xs.length=n:=h.blkN
 have HT:szC (bE xs)=n+ae (xs.flatMap Blk.cells):=by unfold bE;rw [cK Blk.cells_length (by omega),hxl]
 have hn:n<=1048576:=by omega
 have HZ:Hid (ae (xs.flatMap Blk.cells)<=1048576):=by show _<=_;omega
 have hmk:=fun W=>dB (P:=Tryz.prog) 42 89 i0 _ Tryz.underlying42 hi hz0 .i64 .i64 n n (Nat.le_refl _) (by rw [hz2];omega) (by omega) W
 have hsz0:∀z:Array Value,(madeCells z (n * i0.size)).size=n * 3:=fun z=>by rw [size_madeCells,hz1]
 generalize hcz:madeCells _ (n * i0.size)=cz at hmk
 have hczs:cz.size=n * 3:=by rw [←hcz];exact hsz0 _
 clear hi hz0 hz1 hz2 hsz0 hcz HT hz
 have HX:=Hd hxl
 have HR:=Hd h
 clear h hxl
 go_enter Tryz.func41,Tryz.ntmps41
 go_wp2_with fail
 go_loopw [4] (fun i wr=>∃(k:Nat) (vs:List Value),k<=n/\i = .int .i64 k/\eX wr w.heap.size 89 3 n k vs/\dL (w.heap.size+1) wr.heap.size wr ((xs.take k).flatMap Blk.cells) vs/\Below w.heap.size w wr/\w.heap.size<wr.heap.size) (fun i _=>n - (intOf i).toNat)
 case atStart=>exact ⟨0,[],Nat.zero_le _,rfl,eX.new hczs,by simpa using dL.nil,aF (Below.refl _ _) _,by simp⟩
 case round =>
  obtain ⟨k,vs,hk,rfl,hfl,how,hbe,hsr⟩:=hrel
  have HFL:=Hd hfl
  have HOW:=Hd how
  have HBE:=Hd hbe
  clear hfl how hbe hmk
  by_cases hlt:k<n
  ·have hdk:decide ((k:Int)<(n:Int))=true:=by simp;omega
   have hkx:k<xs.length:=by rw [HX.out];exact hlt
   obtain ⟨b,o,S0,m0,p0,rfl,hb,c0,c1,c2,r0⟩:=HR.out.blk (k:=k) hkx
   have hbr:b<wr.heap.size:=by have:=HBE.out.size;omega
   have i0:(0:Int)<=(k:Int):=by omega
   have i1:(k:Int)<(n:Int):=by omega
   rw [←HBE.out.cell (p:=⟨b,o+k * 3,none⟩) hb] at c0
   rw [←HBE.out.cell (p:=⟨b,o+k * 3+1,none⟩) hb] at c1
   rw [←HBE.out.cell (p:=⟨b,o+k * 3+2,none⟩) hb] at c2
   have Q0:=Hd (r0.below HBE.out)
   clear r0
   have HZK:Hid (ae (xs[k]?.getD Blk.zero).cells<=1048576):=by show _<=_;exact Nat.le_trans (gU hkx) HZ.out
   have HSN:=Hd (jI (f:=Blk.cells) (getD_some Blk.zero hkx:xs[k]?=some (xs[k]?.getD Blk.zero)))
   clear hkx
   generalize xs[k]?.getD Blk.zero=x at *
   go_wp2_with fail
   refine (ut S0 m0 p0 x _ Q0.out HZK.out).mono ?_
   rintro e w2 ⟨B0,rfl,o2,b2⟩
   have hs2:=b2.size
   have HFL2:=Hd (HFL.out.tr b2)
   have HOW2:=Hd (HOW.out.below b2)
   have HBE2:=Hd (aB HBE.out b2)
   have O2:=Hd o2
   have hlg:=HFL2.out.lt
   clear o2 b2 c0 c1 c2
   obtain ⟨u0,f0⟩:=HFL2.out.cell hlt 0 (by omega)
   rw [Nat.add_zero] at f0
   obtain ⟨u1,f1⟩:=HFL2.out.cell hlt 1 (by omega)
   obtain ⟨u2,f2⟩:=HFL2.out.cell hlt 2 (by omega)
   have fz:=fun j=>HFL2.out.frozen j
   go_wp2_with fail
   clear f0 f1 f2 fz
   have HP:=Hd (HFL2.out.put3 hlt (.int .i64 x.kind) (.int .i64 x.item) (.slice B0 m0 m0))
   have hC:Chg w.heap.size (w.heap.size+1) w2 (((w2.setCell ⟨w.heap.size,k * 3,none⟩ (.int .i64 x.kind)).setCell ⟨w.heap.size,k * 3+1,none⟩ (.int .i64 x.item)).setCell ⟨w.heap.size,k * 3+2,none⟩ (.slice B0 m0 m0)):=by
    repeat (first|exact Chg.refl _ _ _|refine Chg.set ?_ (Nat.le_refl _) (Nat.lt_succ_self _) _)
   have hsC:=hC.size
   have HO3:=Hd (HOW2.out.chgZ hC (.inr (Nat.le_refl _)))
   have HO4:=Hd (O2.out.chgZ hC (.inr (by omega)))
   have HB3:=Hd (jl HBE2.out hC (Nat.le_refl _))
   generalize hWE:World.setCell _ _ _=WE at *
   clear hWE hC
   go_roundw
   case rel =>
    refine ⟨k+1,_,by omega,by go_num,HP.out,?_,HB3.out,by omega⟩
    rw [HSN.out]
    exact (HO3.out.appZ HO4.out (Nat.le_refl _) (by omega) hs2).widen (Nat.le_refl _) hsC
   case measure=>simp [intOf];omega
  ·have hkn:k=n:=by omega
   subst hkn
   have hdk:decide ((k:Int)<(k:Int))=false:=by simp
   go_wp2_with fail
   go_ret
   refine ⟨_,rfl,?_,HBE.out⟩
   have h:=HOW.out
   rw [List.take_of_length_le (by rw [HX.out];exact Nat.le_refl _)] at h
   exact HFL.out.own (by unfold maxLen;omega) h hsr
theorem rP (x:bQ) (w:World) :
  Calls Tryz.prog 211 #[.agg #[.int .i64 x.block,.int .i64 x.pin]] w fun e w'=>e = .returned (.agg #[.int .i64 x.block,.int .i64 x.pin])/\dL w.heap.size w'.heap.size w' x.cells [.int .i64 x.block,.int .i64 x.pin]/\Below w.heap.size w w':=by
 go_enter Tryz.func211,Tryz.ntmps211
 go_wp2_with fail
 refine bodyPost_ret (v := .agg #[.int .i64 x.block,.int .i64 x.pin]) (by simp [results,Tryz.results211,go_sem]) rfl ⟨rfl,?_,aF (aF (aF (Below.refl _ _) _) _) _⟩
 exact ⟨[],dS.2 ⟨_,_,[],[],rfl,rfl,ed.2 ⟨rfl,rfl⟩,dS.2 ⟨_,_,[],[],rfl,rfl,ed.2 ⟨rfl,rfl⟩,eu.2 ⟨rfl,rfl⟩⟩⟩,by simp,by simp⟩
theorem yX:(Tryz.prog.info? 100).map (fun i=>(i.zero,i.size,i.bytes))=some (some (.agg #[.int .i64 0,.int .i64 0]),2,16):=by kernel_rfl
theorem wH (A:Option Addr) (n c:Nat) (xs:List bQ) (w:World) (h:RdC w w.heap.size (bM xs) (.slice A n c)) (hz:szC (bM xs)<=1048576) :
  Calls Tryz.prog 212 #[.slice A n c] w fun e w'=>∃B,e = .returned (.slice B n n)/\fQ w.heap.size w'.heap.size w' (bM xs) (.slice B n n)/\Below w.heap.size w w':=by
 obtain ⟨i0,hi,hz0,hz1,hz2⟩:=info_parts yX
 have hxl:xs.length=n:=h.pinN
 have HT:szC (bM xs)=n+ae (xs.flatMap bQ.cells):=by unfold bM;rw [cK bQ.cells_length (by omega),hxl]
 have hn:n<=1048576:=by omega
 have HZ:Hid (ae (xs.flatMap bQ.cells)<=1048576):=by show _<=_;omega
 have hmk:=fun W=>dB (P:=Tryz.prog) 156 100 i0 _ Tryz.underlying156 hi hz0 .i64 .i64 n n (Nat.le_refl _) (by rw [hz2];omega) (by omega) W
 have hsz0:∀z:Array Value,(madeCells z (n * i0.size)).size=n * 2:=fun z=>by rw [size_madeCells,hz1]
 generalize hcz:madeCells _ (n * i0.size)=cz at hmk
 have hczs:cz.size=n * 2:=by rw [←hcz];exact hsz0 _
 clear hi hz0 hz1 hz2 hsz0 hcz HT hz
 have HX:=Hd hxl
 have HR:=Hd h
 clear h hxl
 go_enter Tryz.func212,Tryz.ntmps212
 go_wp2_with fail
 go_loopw [4] (fun i wr=>∃(k:Nat) (vs:List Value),k<=n/\i = .int .i64 k/\eX wr w.heap.size 100 2 n k vs/\dL (w.heap.size+1) wr.heap.size wr ((xs.take k).flatMap bQ.cells) vs/\Below w.heap.size w wr/\w.heap.size<wr.heap.size) (fun i _=>n - (intOf i).toNat)
 case atStart=>exact ⟨0,[],Nat.zero_le _,rfl,eX.new hczs,by simpa using dL.nil,aF (Below.refl _ _) _,by simp⟩
 case round =>
  obtain ⟨k,vs,hk,rfl,hfl,how,hbe,hsr⟩:=hrel
  have HFL:=Hd hfl
  have HOW:=Hd how
  have HBE:=Hd hbe
  clear hfl how hbe hmk
  by_cases hlt:k<n
  ·have hdk:decide ((k:Int)<(n:Int))=true:=by simp;omega
   have hkx:k<xs.length:=by rw [HX.out];exact hlt
   obtain ⟨b,o,rfl,hb,c0,c1⟩:=HR.out.pin (k:=k) hkx
   have hbr:b<wr.heap.size:=by have:=HBE.out.size;omega
   have i0:(0:Int)<=(k:Int):=by omega
   have i1:(k:Int)<(n:Int):=by omega
   rw [←HBE.out.cell (p:=⟨b,o+k * 2,none⟩) hb] at c0
   rw [←HBE.out.cell (p:=⟨b,o+k * 2+1,none⟩) hb] at c1
   skip
   clear HZ
   have HSN:=Hd (jI (f:=bQ.cells) (getD_some bQ.zero hkx:xs[k]?=some (xs[k]?.getD bQ.zero)))
   clear hkx
   generalize xs[k]?.getD bQ.zero=x at *
   go_wp2_with fail
   refine (rP x _).mono ?_
   rintro e w2 ⟨rfl,o2,b2⟩
   have hs2:=b2.size
   have HFL2:=Hd (HFL.out.tr b2)
   have HOW2:=Hd (HOW.out.below b2)
   have HBE2:=Hd (aB HBE.out b2)
   have O2:=Hd o2
   have hlg:=HFL2.out.lt
   clear o2 b2 c0 c1
   obtain ⟨u0,f0⟩:=HFL2.out.cell hlt 0 (by omega)
   rw [Nat.add_zero] at f0
   obtain ⟨u1,f1⟩:=HFL2.out.cell hlt 1 (by omega)
   have fz:=fun j=>HFL2.out.frozen j
   go_wp2_with fail
   clear f0 f1 fz
   have HP:=Hd (HFL2.out.put2 hlt (.int .i64 x.block) (.int .i64 x.pin))
   have hC:Chg w.heap.size (w.heap.size+1) w2 ((w2.setCell ⟨w.heap.size,k * 2,none⟩ (.int .i64 x.block)).setCell ⟨w.heap.size,k * 2+1,none⟩ (.int .i64 x.pin)):=by
    repeat (first|exact Chg.refl _ _ _|refine Chg.set ?_ (Nat.le_refl _) (Nat.lt_succ_self _) _)
   have hsC:=hC.size
   have HO3:=Hd (HOW2.out.chgZ hC (.inr (Nat.le_refl _)))
   have HO4:=Hd (O2.out.chgZ hC (.inr (by omega)))
   have HB3:=Hd (jl HBE2.out hC (Nat.le_refl _))
   generalize hWE:World.setCell _ _ _=WE at *
   clear hWE hC
   go_roundw
   case rel =>
    refine ⟨k+1,_,by omega,by go_num,HP.out,?_,HB3.out,by omega⟩
    rw [HSN.out]
    exact (HO3.out.appZ HO4.out (Nat.le_refl _) (by omega) hs2).widen (Nat.le_refl _) hsC
   case measure=>simp [intOf];omega
  ·have hkn:k=n:=by omega
   subst hkn
   have hdk:decide ((k:Int)<(k:Int))=false:=by simp
   go_wp2_with fail
   go_ret
   refine ⟨_,rfl,?_,HBE.out⟩
   have h:=HOW.out
   rw [List.take_of_length_le (by rw [HX.out];exact Nat.le_refl _)] at h
   exact HFL.out.own (by unfold maxLen;omega) h hsr
theorem wI (A0:Option Addr) (n0 c0:Nat) (x:Cn) (w:World) (h0:RdC w w.heap.size (bM x.sinks) (.slice A0 n0 c0)) (hz:ae x.cells<=1048576) :
  Calls Tryz.prog 121 #[.agg #[.int .i64 x.node,.int .i64 x.src.block,.int .i64 x.src.pin,.slice A0 n0 c0]] w fun e w'=>∃B0,e = .returned (.agg #[.int .i64 x.node,.int .i64 x.src.block,.int .i64 x.src.pin,.slice B0 n0 n0])/\dL w.heap.size w'.heap.size w' x.cells [.int .i64 x.node,.int .i64 x.src.block,.int .i64 x.src.pin,.slice B0 n0 n0]/\Below w.heap.size w w':=by
 have R0:=Hd h0
 have HS:ae x.cells=szC (bM x.sinks):=by unfold Cn.cells;simp only [az,bK,fZ] <;> omega
 have Z2:Hid (szC (bM x.sinks)<=1048576):=by show _<=_;omega
 have S0:=Hd (iO w #[.int .i64 x.node,.int .i64 x.src.block,.int .i64 x.src.pin,.slice A0 n0 c0] #[.int .i64 0,.int .i64 0,.int .i64 0,.slice none 0 0] #[.int .i64 0,.int .i64 0,.int .i64 0,.slice none 0 0] 152 158 158)
 have hg20:w.heap.size≠w.heap.size+1+1:=by omega
 have hg21:w.heap.size+1≠w.heap.size+1+1:=by omega
 have hg10:w.heap.size≠w.heap.size+1:=by omega
 clear HS hz h0
 go_enter Tryz.func121,Tryz.ntmps121
 go_upto_region 2 with fail
 generalize ((w.alloc (.cells #[.int .i64 x.node,.int .i64 x.src.block,.int .i64 x.src.pin,.slice A0 n0 c0] 152)).alloc (.cells #[.int .i64 0,.int .i64 0,.int .i64 0,.slice none 0 0] 158)).alloc (.cells #[.int .i64 0,.int .i64 0,.int .i64 0,.slice none 0 0] 158)=w0 at *
 have hb0:=(S0.out.blk 0 rfl).1
 have hb1:=(S0.out.blk 1 rfl).1
 have hb2:=(S0.out.blk 2 rfl).1
 have x0:=aH hb0 (j:=0) (v := .int .i64 x.node) rfl
 have x1:=aH hb0 (j:=1) (v := .int .i64 x.src.block) rfl
 have x2:=aH hb0 (j:=2) (v := .int .i64 x.src.pin) rfl
 have x3:=aH hb0 (j:=3) (v := .slice A0 n0 c0) rfl
 have z0:=aH hb2 (j:=0) (v := .int .i64 0) rfl
 have z1:=aH hb2 (j:=1) (v := .int .i64 0) rfl
 have z2:=aH hb2 (j:=2) (v := .int .i64 0) rfl
 have z3:=aH hb2 (j:=3) (v := .slice none 0 0) rfl
 have y2:=fun k=>aj hb2 k
 have l0:=aC hb0
 have l1:=aC hb1
 have l2:=aC hb2
 clear hb0 hb1 hb2
 have Q1:Hid (aM w (w0.setCell ⟨w.heap.size+1+1,0,none⟩ (.int .i64 x.node)) [.blk w.heap.size #[.int .i64 x.node,.int .i64 x.src.block,.int .i64 x.src.pin,.slice A0 n0 c0] 152,.blk (w.heap.size+1) #[.int .i64 0,.int .i64 0,.int .i64 0,.slice none 0 0] 158,.blk (w.heap.size+1+1) #[.int .i64 x.node,.int .i64 0,.int .i64 0,.slice none 0 0] 158]):=(S0.out.put 2 rfl 0 (.int .i64 x.node))
 have Q2:Hid (aM w (w0.setCell ⟨w.heap.size+1+1,0,none⟩ (.int .i64 x.node)) [.blk w.heap.size #[.int .i64 x.node,.int .i64 x.src.block,.int .i64 x.src.pin,.slice A0 n0 c0] 152,.blk (w.heap.size+1) #[.int .i64 0,.int .i64 0,.int .i64 0,.slice none 0 0] 158,.blk (w.heap.size+1+1) #[.int .i64 x.node,.int .i64 0,.int .i64 0,.slice none 0 0] 158,.cel (.int x.node) (.int .i64 x.node)]):=(Q1.out.pushInt x.node)
 go_wp2_with fail
 refine (rP x.src _).mono ?_
 rintro _ w1 ⟨rfl,o1,b1⟩
 have Q3:Hid (aM w (w1) [.blk w.heap.size #[.int .i64 x.node,.int .i64 x.src.block,.int .i64 x.src.pin,.slice A0 n0 c0] 152,.blk (w.heap.size+1) #[.int .i64 0,.int .i64 0,.int .i64 0,.slice none 0 0] 158,.blk (w.heap.size+1+1) #[.int .i64 x.node,.int .i64 0,.int .i64 0,.slice none 0 0] 158,.cel (.int x.node) (.int .i64 x.node),.cels x.src.cells [.int .i64 x.src.block,.int .i64 x.src.pin]]):=(Q2.out.pushLs b1 o1)
 clear o1 b1 x0 x1 x2 x3 z0 z1 z2 z3 y2 l0 l1 l2
 have hb0:=(Q3.out.blk 0 rfl).1
 have hb1:=(Q3.out.blk 1 rfl).1
 have hb2:=(Q3.out.blk 2 rfl).1
 have x0:=aH hb0 (j:=0) (v := .int .i64 x.node) rfl
 have x1:=aH hb0 (j:=1) (v := .int .i64 x.src.block) rfl
 have x2:=aH hb0 (j:=2) (v := .int .i64 x.src.pin) rfl
 have x3:=aH hb0 (j:=3) (v := .slice A0 n0 c0) rfl
 have z0:=aH hb2 (j:=0) (v := .int .i64 x.node) rfl
 have z1:=aH hb2 (j:=1) (v := .int .i64 0) rfl
 have z2:=aH hb2 (j:=2) (v := .int .i64 0) rfl
 have z3:=aH hb2 (j:=3) (v := .slice none 0 0) rfl
 have y2:=fun k=>aj hb2 k
 have l0:=aC hb0
 have l1:=aC hb1
 have l2:=aC hb2
 clear hb0 hb1 hb2
 have Q4:Hid (aM w (w1.setCell ⟨w.heap.size+1+1,1,none⟩ (.int .i64 x.src.block)) [.blk w.heap.size #[.int .i64 x.node,.int .i64 x.src.block,.int .i64 x.src.pin,.slice A0 n0 c0] 152,.blk (w.heap.size+1) #[.int .i64 0,.int .i64 0,.int .i64 0,.slice none 0 0] 158,.blk (w.heap.size+1+1) #[.int .i64 x.node,.int .i64 x.src.block,.int .i64 0,.slice none 0 0] 158,.cel (.int x.node) (.int .i64 x.node),.cels x.src.cells [.int .i64 x.src.block,.int .i64 x.src.pin]]):=(Q3.out.put 2 rfl 1 (.int .i64 x.src.block))
 have Q5:Hid (aM w ((w1.setCell ⟨w.heap.size+1+1,1,none⟩ (.int .i64 x.src.block)).setCell ⟨w.heap.size+1+1,2,none⟩ (.int .i64 x.src.pin)) [.blk w.heap.size #[.int .i64 x.node,.int .i64 x.src.block,.int .i64 x.src.pin,.slice A0 n0 c0] 152,.blk (w.heap.size+1) #[.int .i64 0,.int .i64 0,.int .i64 0,.slice none 0 0] 158,.blk (w.heap.size+1+1) #[.int .i64 x.node,.int .i64 x.src.block,.int .i64 x.src.pin,.slice none 0 0] 158,.cel (.int x.node) (.int .i64 x.node),.cels x.src.cells [.int .i64 x.src.block,.int .i64 x.src.pin]]):=(Q4.out.put 2 rfl 2 (.int .i64 x.src.pin))
 go_wp2_with fail
 refine (wH A0 n0 c0 x.sinks _ (R0.out.below Q5.out.bel) Z2.out).mono ?_
 rintro _ w2 ⟨B0,rfl,o2,b2⟩
 have Q6:Hid (aM w (w2) [.blk w.heap.size #[.int .i64 x.node,.int .i64 x.src.block,.int .i64 x.src.pin,.slice A0 n0 c0] 152,.blk (w.heap.size+1) #[.int .i64 0,.int .i64 0,.int .i64 0,.slice none 0 0] 158,.blk (w.heap.size+1+1) #[.int .i64 x.node,.int .i64 x.src.block,.int .i64 x.src.pin,.slice none 0 0] 158,.cel (.int x.node) (.int .i64 x.node),.cels x.src.cells [.int .i64 x.src.block,.int .i64 x.src.pin],.cel (bM x.sinks) (.slice B0 n0 n0)]):=(Q5.out.pushT b2 o2)
 clear o2 b2 x0 x1 x2 x3 z0 z1 z2 z3 y2 l0 l1 l2
 have hb0:=(Q6.out.blk 0 rfl).1
 have hb1:=(Q6.out.blk 1 rfl).1
 have hb2:=(Q6.out.blk 2 rfl).1
 have x0:=aH hb0 (j:=0) (v := .int .i64 x.node) rfl
 have x1:=aH hb0 (j:=1) (v := .int .i64 x.src.block) rfl
 have x2:=aH hb0 (j:=2) (v := .int .i64 x.src.pin) rfl
 have x3:=aH hb0 (j:=3) (v := .slice A0 n0 c0) rfl
 have z0:=aH hb2 (j:=0) (v := .int .i64 x.node) rfl
 have z1:=aH hb2 (j:=1) (v := .int .i64 x.src.block) rfl
 have z2:=aH hb2 (j:=2) (v := .int .i64 x.src.pin) rfl
 have z3:=aH hb2 (j:=3) (v := .slice none 0 0) rfl
 have y2:=fun k=>aj hb2 k
 have u0:=aH hb1 (j:=0) (v := .int .i64 0) rfl
 have u1:=aH hb1 (j:=1) (v := .int .i64 0) rfl
 have u2:=aH hb1 (j:=2) (v := .int .i64 0) rfl
 have u3:=aH hb1 (j:=3) (v := .slice none 0 0) rfl
 have y1:=fun k=>aj hb1 k
 have l0:=aC hb0
 have l1:=aC hb1
 have l2:=aC hb2
 clear hb0 hb1 hb2
 have Q7:Hid (aM w (w2.setCell ⟨w.heap.size+1+1,3,none⟩ (.slice B0 n0 n0)) [.blk w.heap.size #[.int .i64 x.node,.int .i64 x.src.block,.int .i64 x.src.pin,.slice A0 n0 c0] 152,.blk (w.heap.size+1) #[.int .i64 0,.int .i64 0,.int .i64 0,.slice none 0 0] 158,.blk (w.heap.size+1+1) #[.int .i64 x.node,.int .i64 x.src.block,.int .i64 x.src.pin,.slice B0 n0 n0] 158,.cel (.int x.node) (.int .i64 x.node),.cels x.src.cells [.int .i64 x.src.block,.int .i64 x.src.pin],.cel (bM x.sinks) (.slice B0 n0 n0)]):=(Q6.out.put 2 rfl 3 (.slice B0 n0 n0))
 have Q8:Hid (aM w ((w2.setCell ⟨w.heap.size+1+1,3,none⟩ (.slice B0 n0 n0)).setCell ⟨w.heap.size+1,0,none⟩ (.int .i64 x.node)) [.blk w.heap.size #[.int .i64 x.node,.int .i64 x.src.block,.int .i64 x.src.pin,.slice A0 n0 c0] 152,.blk (w.heap.size+1) #[.int .i64 x.node,.int .i64 0,.int .i64 0,.slice none 0 0] 158,.blk (w.heap.size+1+1) #[.int .i64 x.node,.int .i64 x.src.block,.int .i64 x.src.pin,.slice B0 n0 n0] 158,.cel (.int x.node) (.int .i64 x.node),.cels x.src.cells [.int .i64 x.src.block,.int .i64 x.src.pin],.cel (bM x.sinks) (.slice B0 n0 n0)]):=(Q7.out.put 1 rfl 0 (.int .i64 x.node))
 have Q9:Hid (aM w (((w2.setCell ⟨w.heap.size+1+1,3,none⟩ (.slice B0 n0 n0)).setCell ⟨w.heap.size+1,0,none⟩ (.int .i64 x.node)).setCell ⟨w.heap.size+1,1,none⟩ (.int .i64 x.src.block)) [.blk w.heap.size #[.int .i64 x.node,.int .i64 x.src.block,.int .i64 x.src.pin,.slice A0 n0 c0] 152,.blk (w.heap.size+1) #[.int .i64 x.node,.int .i64 x.src.block,.int .i64 0,.slice none 0 0] 158,.blk (w.heap.size+1+1) #[.int .i64 x.node,.int .i64 x.src.block,.int .i64 x.src.pin,.slice B0 n0 n0] 158,.cel (.int x.node) (.int .i64 x.node),.cels x.src.cells [.int .i64 x.src.block,.int .i64 x.src.pin],.cel (bM x.sinks) (.slice B0 n0 n0)]):=(Q8.out.put 1 rfl 1 (.int .i64 x.src.block))
 have Q10:Hid (aM w ((((w2.setCell ⟨w.heap.size+1+1,3,none⟩ (.slice B0 n0 n0)).setCell ⟨w.heap.size+1,0,none⟩ (.int .i64 x.node)).setCell ⟨w.heap.size+1,1,none⟩ (.int .i64 x.src.block)).setCell ⟨w.heap.size+1,2,none⟩ (.int .i64 x.src.pin)) [.blk w.heap.size #[.int .i64 x.node,.int .i64 x.src.block,.int .i64 x.src.pin,.slice A0 n0 c0] 152,.blk (w.heap.size+1) #[.int .i64 x.node,.int .i64 x.src.block,.int .i64 x.src.pin,.slice none 0 0] 158,.blk (w.heap.size+1+1) #[.int .i64 x.node,.int .i64 x.src.block,.int .i64 x.src.pin,.slice B0 n0 n0] 158,.cel (.int x.node) (.int .i64 x.node),.cels x.src.cells [.int .i64 x.src.block,.int .i64 x.src.pin],.cel (bM x.sinks) (.slice B0 n0 n0)]):=(Q9.out.put 1 rfl 2 (.int .i64 x.src.pin))
 have Q11:Hid (aM w (((((w2.setCell ⟨w.heap.size+1+1,3,none⟩ (.slice B0 n0 n0)).setCell ⟨w.heap.size+1,0,none⟩ (.int .i64 x.node)).setCell ⟨w.heap.size+1,1,none⟩ (.int .i64 x.src.block)).setCell ⟨w.heap.size+1,2,none⟩ (.int .i64 x.src.pin)).setCell ⟨w.heap.size+1,3,none⟩ (.slice B0 n0 n0)) [.blk w.heap.size #[.int .i64 x.node,.int .i64 x.src.block,.int .i64 x.src.pin,.slice A0 n0 c0] 152,.blk (w.heap.size+1) #[.int .i64 x.node,.int .i64 x.src.block,.int .i64 x.src.pin,.slice B0 n0 n0] 158,.blk (w.heap.size+1+1) #[.int .i64 x.node,.int .i64 x.src.block,.int .i64 x.src.pin,.slice B0 n0 n0] 158,.cel (.int x.node) (.int .i64 x.node),.cels x.src.cells [.int .i64 x.src.block,.int .i64 x.src.pin],.cel (bM x.sinks) (.slice B0 n0 n0)]):=(Q10.out.put 1 rfl 3 (.slice B0 n0 n0))
 go_wp2_with fail
 generalize ((((w2.setCell ⟨w.heap.size+1+1,3,none⟩ (.slice B0 n0 n0)).setCell ⟨w.heap.size+1,0,none⟩ (.int .i64 x.node)).setCell ⟨w.heap.size+1,1,none⟩ (.int .i64 x.src.block)).setCell ⟨w.heap.size+1,2,none⟩ (.int .i64 x.src.pin)).setCell ⟨w.heap.size+1,3,none⟩ (.slice B0 n0 n0)=WF at *
 clear x0 x1 x2 x3 z0 z1 z2 z3 y2 u0 u1 u2 u3 y1 l0 l1 l2
 have hb:WF.heap[w.heap.size+1]?=some (.cells #[.int .i64 x.node,.int .i64 x.src.block,.int .i64 x.src.pin,.slice B0 n0 n0] 158 (0,0)):=(Q11.out.blk 1 rfl).1
 exact bodyPost_ret (v := .agg #[.int .i64 x.node,.int .i64 x.src.block,.int .i64 x.src.pin,.slice B0 n0 n0]) (gI Tryz.results121 rfl hb Tryz.underlying158 (by kernel_rfl)) rfl ⟨B0,rfl,Q11.out.tail.tail.tail.ownsL rfl,Q11.out.bel⟩
theorem xg:(Tryz.prog.info? 158).map (fun i=>(i.zero,i.size,i.bytes))=some (some (.agg #[.int .i64 0,.int .i64 0,.int .i64 0,.slice none 0 0]),4,48):=by kernel_rfl
theorem uu (A:Option Addr) (n c:Nat) (xs:List Cn) (w:World) (h:RdC w w.heap.size (bD xs) (.slice A n c)) (hz:szC (bD xs)<=1048576) :
  Calls Tryz.prog 42 #[.slice A n c] w fun e w'=>∃B,e = .returned (.slice B n n)/\fQ w.heap.size w'.heap.size w' (bD xs) (.slice B n n)/\Below w.heap.size w w':=by
 obtain ⟨i0,hi,hz0,hz1,hz2⟩:=info_parts xg
 have hxl:xs.length=n:=h.cnN
 have HT:szC (bD xs)=n+ae (xs.flatMap Cn.cells):=by unfold bD;rw [cK Cn.cells_length (by omega),hxl]
 have hn:n<=1048576:=by omega
 have HZ:Hid (ae (xs.flatMap Cn.cells)<=1048576):=by show _<=_;omega
 have hmk:=fun W=>dB (P:=Tryz.prog) 43 158 i0 _ Tryz.underlying43 hi hz0 .i64 .i64 n n (Nat.le_refl _) (by rw [hz2];omega) (by omega) W
 have hsz0:∀z:Array Value,(madeCells z (n * i0.size)).size=n * 4:=fun z=>by rw [size_madeCells,hz1]
 generalize hcz:madeCells _ (n * i0.size)=cz at hmk
 have hczs:cz.size=n * 4:=by rw [←hcz];exact hsz0 _
 clear hi hz0 hz1 hz2 hsz0 hcz HT hz
 have HX:=Hd hxl
 have HR:=Hd h
 clear h hxl
 go_enter Tryz.func42,Tryz.ntmps42
 go_wp2_with fail
 go_loopw [4] (fun i wr=>∃(k:Nat) (vs:List Value),k<=n/\i = .int .i64 k/\eX wr w.heap.size 158 4 n k vs/\dL (w.heap.size+1) wr.heap.size wr ((xs.take k).flatMap Cn.cells) vs/\Below w.heap.size w wr/\w.heap.size<wr.heap.size) (fun i _=>n - (intOf i).toNat)
 case atStart=>exact ⟨0,[],Nat.zero_le _,rfl,eX.new hczs,by simpa using dL.nil,aF (Below.refl _ _) _,by simp⟩
 case round =>
  obtain ⟨k,vs,hk,rfl,hfl,how,hbe,hsr⟩:=hrel
  have HFL:=Hd hfl
  have HOW:=Hd how
  have HBE:=Hd hbe
  clear hfl how hbe hmk
  by_cases hlt:k<n
  ·have hdk:decide ((k:Int)<(n:Int))=true:=by simp;omega
   have hkx:k<xs.length:=by rw [HX.out];exact hlt
   obtain ⟨b,o,S0,m0,p0,rfl,hb,c0,c1,c2,c3,r0⟩:=HR.out.cn (k:=k) hkx
   have hbr:b<wr.heap.size:=by have:=HBE.out.size;omega
   have i0:(0:Int)<=(k:Int):=by omega
   have i1:(k:Int)<(n:Int):=by omega
   rw [←HBE.out.cell (p:=⟨b,o+k * 4,none⟩) hb] at c0
   rw [←HBE.out.cell (p:=⟨b,o+k * 4+1,none⟩) hb] at c1
   rw [←HBE.out.cell (p:=⟨b,o+k * 4+2,none⟩) hb] at c2
   rw [←HBE.out.cell (p:=⟨b,o+k * 4+3,none⟩) hb] at c3
   have Q0:=Hd (r0.below HBE.out)
   clear r0
   have HZK:Hid (ae (xs[k]?.getD Cn.zero).cells<=1048576):=by show _<=_;exact Nat.le_trans (gU hkx) HZ.out
   have HSN:=Hd (jI (f:=Cn.cells) (getD_some Cn.zero hkx:xs[k]?=some (xs[k]?.getD Cn.zero)))
   clear hkx
   generalize xs[k]?.getD Cn.zero=x at *
   go_wp2_with fail
   refine (wI S0 m0 p0 x _ Q0.out HZK.out).mono ?_
   rintro e w2 ⟨B0,rfl,o2,b2⟩
   have hs2:=b2.size
   have HFL2:=Hd (HFL.out.tr b2)
   have HOW2:=Hd (HOW.out.below b2)
   have HBE2:=Hd (aB HBE.out b2)
   have O2:=Hd o2
   have hlg:=HFL2.out.lt
   clear o2 b2 c0 c1 c2 c3
   obtain ⟨u0,f0⟩:=HFL2.out.cell hlt 0 (by omega)
   rw [Nat.add_zero] at f0
   obtain ⟨u1,f1⟩:=HFL2.out.cell hlt 1 (by omega)
   obtain ⟨u2,f2⟩:=HFL2.out.cell hlt 2 (by omega)
   obtain ⟨u3,f3⟩:=HFL2.out.cell hlt 3 (by omega)
   have fz:=fun j=>HFL2.out.frozen j
   go_wp2_with fail
   clear f0 f1 f2 f3 fz
   have HP:=Hd (HFL2.out.put4 hlt (.int .i64 x.node) (.int .i64 x.src.block) (.int .i64 x.src.pin) (.slice B0 m0 m0))
   have hC:Chg w.heap.size (w.heap.size+1) w2 ((((w2.setCell ⟨w.heap.size,k * 4,none⟩ (.int .i64 x.node)).setCell ⟨w.heap.size,k * 4+1,none⟩ (.int .i64 x.src.block)).setCell ⟨w.heap.size,k * 4+2,none⟩ (.int .i64 x.src.pin)).setCell ⟨w.heap.size,k * 4+3,none⟩ (.slice B0 m0 m0)):=by
    repeat (first|exact Chg.refl _ _ _|refine Chg.set ?_ (Nat.le_refl _) (Nat.lt_succ_self _) _)
   have hsC:=hC.size
   have HO3:=Hd (HOW2.out.chgZ hC (.inr (Nat.le_refl _)))
   have HO4:=Hd (O2.out.chgZ hC (.inr (by omega)))
   have HB3:=Hd (jl HBE2.out hC (Nat.le_refl _))
   generalize hWE:World.setCell _ _ _=WE at *
   clear hWE hC
   go_roundw
   case rel =>
    refine ⟨k+1,_,by omega,by go_num,HP.out,?_,HB3.out,by omega⟩
    rw [HSN.out]
    exact (HO3.out.appZ HO4.out (Nat.le_refl _) (by omega) hs2).widen (Nat.le_refl _) hsC
   case measure=>simp [intOf];omega
  ·have hkn:k=n:=by omega
   subst hkn
   have hdk:decide ((k:Int)<(k:Int))=false:=by simp
   go_wp2_with fail
   go_ret
   refine ⟨_,rfl,?_,HBE.out⟩
   have h:=HOW.out
   rw [List.take_of_length_le (by rw [HX.out];exact Nat.le_refl _)] at h
   exact HFL.out.own (by unfold maxLen;omega) h hsr
theorem uw (A0 A1:Option Addr) (n0 c0 n1 c1:Nat) (x:Rou) (w:World) (h0:RdC w w.heap.size (aJ x.nodes) (.slice A0 n0 c0)) (h1:RdC w w.heap.size (aJ x.from_) (.slice A1 n1 c1)) (hz:ae x.cells<=1048576) :
  Calls Tryz.prog 122 #[.agg #[.slice A0 n0 c0,.slice A1 n1 c1]] w fun e w'=>∃B0 B1,e = .returned (.agg #[.slice B0 n0 n0,.slice B1 n1 n1])/\dL w.heap.size w'.heap.size w' x.cells [.slice B0 n0 n0,.slice B1 n1 n1]/\Below w.heap.size w w':=by
 have R0:=Hd h0
 have R1:=Hd h1
 have HS:ae x.cells=szC (aJ x.nodes)+szC (aJ x.from_):=by unfold Rou.cells;simp only [az,bK] <;> omega
 have Z0:Hid (szC (aJ x.nodes)<=1048576):=by show _<=_;omega
 have Z1:Hid (szC (aJ x.from_)<=1048576):=by show _<=_;omega
 have S0:=Hd (iO w #[.slice A0 n0 c0,.slice A1 n1 c1] #[.slice none 0 0,.slice none 0 0] #[.slice none 0 0,.slice none 0 0] 154 114 114)
 have hg20:w.heap.size≠w.heap.size+1+1:=by omega
 have hg21:w.heap.size+1≠w.heap.size+1+1:=by omega
 have hg10:w.heap.size≠w.heap.size+1:=by omega
 clear HS hz h0 h1
 go_enter Tryz.func122,Tryz.ntmps122
 go_upto_region 2 with fail
 generalize ((w.alloc (.cells #[.slice A0 n0 c0,.slice A1 n1 c1] 154)).alloc (.cells #[.slice none 0 0,.slice none 0 0] 114)).alloc (.cells #[.slice none 0 0,.slice none 0 0] 114)=w0 at *
 have hb0:=(S0.out.blk 0 rfl).1
 have hb1:=(S0.out.blk 1 rfl).1
 have hb2:=(S0.out.blk 2 rfl).1
 have x0:=aH hb0 (j:=0) (v := .slice A0 n0 c0) rfl
 have x1:=aH hb0 (j:=1) (v := .slice A1 n1 c1) rfl
 have z0:=aH hb2 (j:=0) (v := .slice none 0 0) rfl
 have z1:=aH hb2 (j:=1) (v := .slice none 0 0) rfl
 have y2:=fun k=>aj hb2 k
 have l0:=aC hb0
 have l1:=aC hb1
 have l2:=aC hb2
 clear hb0 hb1 hb2
 go_wp2_with fail
 refine (mE A0 n0 c0 x.nodes _ (R0.out.below S0.out.bel) Z0.out).mono ?_
 rintro _ w1 ⟨B0,rfl,o1,b1⟩
 have Q1:Hid (aM w (w1) [.blk w.heap.size #[.slice A0 n0 c0,.slice A1 n1 c1] 154,.blk (w.heap.size+1) #[.slice none 0 0,.slice none 0 0] 114,.blk (w.heap.size+1+1) #[.slice none 0 0,.slice none 0 0] 114,.cel (aJ x.nodes) (.slice B0 n0 n0)]):=(S0.out.pushT b1 o1)
 clear o1 b1 x0 x1 z0 z1 y2 l0 l1 l2
 have hb0:=(Q1.out.blk 0 rfl).1
 have hb1:=(Q1.out.blk 1 rfl).1
 have hb2:=(Q1.out.blk 2 rfl).1
 have x0:=aH hb0 (j:=0) (v := .slice A0 n0 c0) rfl
 have x1:=aH hb0 (j:=1) (v := .slice A1 n1 c1) rfl
 have z0:=aH hb2 (j:=0) (v := .slice none 0 0) rfl
 have z1:=aH hb2 (j:=1) (v := .slice none 0 0) rfl
 have y2:=fun k=>aj hb2 k
 have l0:=aC hb0
 have l1:=aC hb1
 have l2:=aC hb2
 clear hb0 hb1 hb2
 have Q2:Hid (aM w (w1.setCell ⟨w.heap.size+1+1,0,none⟩ (.slice B0 n0 n0)) [.blk w.heap.size #[.slice A0 n0 c0,.slice A1 n1 c1] 154,.blk (w.heap.size+1) #[.slice none 0 0,.slice none 0 0] 114,.blk (w.heap.size+1+1) #[.slice B0 n0 n0,.slice none 0 0] 114,.cel (aJ x.nodes) (.slice B0 n0 n0)]):=(Q1.out.put 2 rfl 0 (.slice B0 n0 n0))
 go_wp2_with fail
 refine (mE A1 n1 c1 x.from_ _ (R1.out.below Q2.out.bel) Z1.out).mono ?_
 rintro _ w2 ⟨B1,rfl,o2,b2⟩
 have Q3:Hid (aM w (w2) [.blk w.heap.size #[.slice A0 n0 c0,.slice A1 n1 c1] 154,.blk (w.heap.size+1) #[.slice none 0 0,.slice none 0 0] 114,.blk (w.heap.size+1+1) #[.slice B0 n0 n0,.slice none 0 0] 114,.cel (aJ x.nodes) (.slice B0 n0 n0),.cel (aJ x.from_) (.slice B1 n1 n1)]):=(Q2.out.pushT b2 o2)
 clear o2 b2 x0 x1 z0 z1 y2 l0 l1 l2
 have hb0:=(Q3.out.blk 0 rfl).1
 have hb1:=(Q3.out.blk 1 rfl).1
 have hb2:=(Q3.out.blk 2 rfl).1
 have x0:=aH hb0 (j:=0) (v := .slice A0 n0 c0) rfl
 have x1:=aH hb0 (j:=1) (v := .slice A1 n1 c1) rfl
 have z0:=aH hb2 (j:=0) (v := .slice B0 n0 n0) rfl
 have z1:=aH hb2 (j:=1) (v := .slice none 0 0) rfl
 have y2:=fun k=>aj hb2 k
 have u0:=aH hb1 (j:=0) (v := .slice none 0 0) rfl
 have u1:=aH hb1 (j:=1) (v := .slice none 0 0) rfl
 have y1:=fun k=>aj hb1 k
 have l0:=aC hb0
 have l1:=aC hb1
 have l2:=aC hb2
 clear hb0 hb1 hb2
 have Q4:Hid (aM w (w2.setCell ⟨w.heap.size+1+1,1,none⟩ (.slice B1 n1 n1)) [.blk w.heap.size #[.slice A0 n0 c0,.slice A1 n1 c1] 154,.blk (w.heap.size+1) #[.slice none 0 0,.slice none 0 0] 114,.blk (w.heap.size+1+1) #[.slice B0 n0 n0,.slice B1 n1 n1] 114,.cel (aJ x.nodes) (.slice B0 n0 n0),.cel (aJ x.from_) (.slice B1 n1 n1)]):=(Q3.out.put 2 rfl 1 (.slice B1 n1 n1))
 have Q5:Hid (aM w ((w2.setCell ⟨w.heap.size+1+1,1,none⟩ (.slice B1 n1 n1)).setCell ⟨w.heap.size+1,0,none⟩ (.slice B0 n0 n0)) [.blk w.heap.size #[.slice A0 n0 c0,.slice A1 n1 c1] 154,.blk (w.heap.size+1) #[.slice B0 n0 n0,.slice none 0 0] 114,.blk (w.heap.size+1+1) #[.slice B0 n0 n0,.slice B1 n1 n1] 114,.cel (aJ x.nodes) (.slice B0 n0 n0),.cel (aJ x.from_) (.slice B1 n1 n1)]):=(Q4.out.put 1 rfl 0 (.slice B0 n0 n0))
 have Q6:Hid (aM w (((w2.setCell ⟨w.heap.size+1+1,1,none⟩ (.slice B1 n1 n1)).setCell ⟨w.heap.size+1,0,none⟩ (.slice B0 n0 n0)).setCell ⟨w.heap.size+1,1,none⟩ (.slice B1 n1 n1)) [.blk w.heap.size #[.slice A0 n0 c0,.slice A1 n1 c1] 154,.blk (w.heap.size+1) #[.slice B0 n0 n0,.slice B1 n1 n1] 114,.blk (w.heap.size+1+1) #[.slice B0 n0 n0,.slice B1 n1 n1] 114,.cel (aJ x.nodes) (.slice B0 n0 n0),.cel (aJ x.from_) (.slice B1 n1 n1)]):=(Q5.out.put 1 rfl 1 (.slice B1 n1 n1))
 go_wp2_with fail
 generalize ((w2.setCell ⟨w.heap.size+1+1,1,none⟩ (.slice B1 n1 n1)).setCell ⟨w.heap.size+1,0,none⟩ (.slice B0 n0 n0)).setCell ⟨w.heap.size+1,1,none⟩ (.slice B1 n1 n1)=WF at *
 clear x0 x1 z0 z1 y2 u0 u1 y1 l0 l1 l2
 have hb:WF.heap[w.heap.size+1]?=some (.cells #[.slice B0 n0 n0,.slice B1 n1 n1] 114 (0,0)):=(Q6.out.blk 1 rfl).1
 exact bodyPost_ret (v := .agg #[.slice B0 n0 n0,.slice B1 n1 n1]) (gI Tryz.results122 rfl hb Tryz.underlying114 (by kernel_rfl)) rfl ⟨B0,B1,rfl,Q6.out.tail.tail.tail.ownsL rfl,Q6.out.bel⟩
theorem wJ:(Tryz.prog.info? 114).map (fun i=>(i.zero,i.size,i.bytes))=some (some (.agg #[.slice none 0 0,.slice none 0 0]),2,48):=by kernel_rfl
theorem su (A:Option Addr) (n c:Nat) (xs:List Rou) (w:World) (h:RdC w w.heap.size (bR xs) (.slice A n c)) (hz:szC (bR xs)<=1048576) :
  Calls Tryz.prog 44 #[.slice A n c] w fun e w'=>∃B,e = .returned (.slice B n n)/\fQ w.heap.size w'.heap.size w' (bR xs) (.slice B n n)/\Below w.heap.size w w':=by
 obtain ⟨i0,hi,hz0,hz1,hz2⟩:=info_parts wJ
 have hxl:xs.length=n:=h.rouN
 have HT:szC (bR xs)=n+ae (xs.flatMap Rou.cells):=by unfold bR;rw [cK Rou.cells_length (by omega),hxl]
 have hn:n<=1048576:=by omega
 have HZ:Hid (ae (xs.flatMap Rou.cells)<=1048576):=by show _<=_;omega
 have hmk:=fun W=>dB (P:=Tryz.prog) 44 114 i0 _ Tryz.underlying44 hi hz0 .i64 .i64 n n (Nat.le_refl _) (by rw [hz2];omega) (by omega) W
 have hsz0:∀z:Array Value,(madeCells z (n * i0.size)).size=n * 2:=fun z=>by rw [size_madeCells,hz1]
 generalize hcz:madeCells _ (n * i0.size)=cz at hmk
 have hczs:cz.size=n * 2:=by rw [←hcz];exact hsz0 _
 clear hi hz0 hz1 hz2 hsz0 hcz HT hz
 have HX:=Hd hxl
 have HR:=Hd h
 clear h hxl
 go_enter Tryz.func44,Tryz.ntmps44
 go_wp2_with fail
 go_loopw [4] (fun i wr=>∃(k:Nat) (vs:List Value),k<=n/\i = .int .i64 k/\eX wr w.heap.size 114 2 n k vs/\dL (w.heap.size+1) wr.heap.size wr ((xs.take k).flatMap Rou.cells) vs/\Below w.heap.size w wr/\w.heap.size<wr.heap.size) (fun i _=>n - (intOf i).toNat)
 case atStart=>exact ⟨0,[],Nat.zero_le _,rfl,eX.new hczs,by simpa using dL.nil,aF (Below.refl _ _) _,by simp⟩
 case round =>
  obtain ⟨k,vs,hk,rfl,hfl,how,hbe,hsr⟩:=hrel
  have HFL:=Hd hfl
  have HOW:=Hd how
  have HBE:=Hd hbe
  clear hfl how hbe hmk
  by_cases hlt:k<n
  ·have hdk:decide ((k:Int)<(n:Int))=true:=by simp;omega
   have hkx:k<xs.length:=by rw [HX.out];exact hlt
   obtain ⟨b,o,S0,m0,p0,S1,m1,p1,rfl,hb,c0,c1,r0,r1⟩:=HR.out.rou (k:=k) hkx
   have hbr:b<wr.heap.size:=by have:=HBE.out.size;omega
   have i0:(0:Int)<=(k:Int):=by omega
   have i1:(k:Int)<(n:Int):=by omega
   rw [←HBE.out.cell (p:=⟨b,o+k * 2,none⟩) hb] at c0
   rw [←HBE.out.cell (p:=⟨b,o+k * 2+1,none⟩) hb] at c1
   have Q0:=Hd (r0.below HBE.out)
   have Q1:=Hd (r1.below HBE.out)
   clear r0 r1
   have HZK:Hid (ae (xs[k]?.getD Rou.zero).cells<=1048576):=by show _<=_;exact Nat.le_trans (gU hkx) HZ.out
   have HSN:=Hd (jI (f:=Rou.cells) (getD_some Rou.zero hkx:xs[k]?=some (xs[k]?.getD Rou.zero)))
   clear hkx
   generalize xs[k]?.getD Rou.zero=x at *
   go_wp2_with fail
   refine (uw S0 S1 m0 p0 m1 p1 x _ Q0.out Q1.out HZK.out).mono ?_
   rintro e w2 ⟨B0,B1,rfl,o2,b2⟩
   have hs2:=b2.size
   have HFL2:=Hd (HFL.out.tr b2)
   have HOW2:=Hd (HOW.out.below b2)
   have HBE2:=Hd (aB HBE.out b2)
   have O2:=Hd o2
   have hlg:=HFL2.out.lt
   clear o2 b2 c0 c1
   obtain ⟨u0,f0⟩:=HFL2.out.cell hlt 0 (by omega)
   rw [Nat.add_zero] at f0
   obtain ⟨u1,f1⟩:=HFL2.out.cell hlt 1 (by omega)
   have fz:=fun j=>HFL2.out.frozen j
   go_wp2_with fail
   clear f0 f1 fz
   have HP:=Hd (HFL2.out.put2 hlt (.slice B0 m0 m0) (.slice B1 m1 m1))
   have hC:Chg w.heap.size (w.heap.size+1) w2 ((w2.setCell ⟨w.heap.size,k * 2,none⟩ (.slice B0 m0 m0)).setCell ⟨w.heap.size,k * 2+1,none⟩ (.slice B1 m1 m1)):=by
    repeat (first|exact Chg.refl _ _ _|refine Chg.set ?_ (Nat.le_refl _) (Nat.lt_succ_self _) _)
   have hsC:=hC.size
   have HO3:=Hd (HOW2.out.chgZ hC (.inr (Nat.le_refl _)))
   have HO4:=Hd (O2.out.chgZ hC (.inr (by omega)))
   have HB3:=Hd (jl HBE2.out hC (Nat.le_refl _))
   generalize hWE:World.setCell _ _ _=WE at *
   clear hWE hC
   go_roundw
   case rel =>
    refine ⟨k+1,_,by omega,by go_num,HP.out,?_,HB3.out,by omega⟩
    rw [HSN.out]
    exact (HO3.out.appZ HO4.out (Nat.le_refl _) (by omega) hs2).widen (Nat.le_refl _) hsC
   case measure=>simp [intOf];omega
  ·have hkn:k=n:=by omega
   subst hkn
   have hdk:decide ((k:Int)<(k:Int))=false:=by simp
   go_wp2_with fail
   go_ret
   refine ⟨_,rfl,?_,HBE.out⟩
   have h:=HOW.out
   rw [List.take_of_length_le (by rw [HX.out];exact Nat.le_refl _)] at h
   exact HFL.out.own (by unfold maxLen;omega) h hsr
theorem sw (A0 A1 A2 A3 A4 A5 A6:Option Addr) (n0 c0 n1 c1 n2 c2 n3 c3 n4 c4 n5 c5 n6 c6:Nat) (x:Lay) (w:World) (h0:RdC w w.heap.size (dE x.net.seqs) (.slice A0 n0 c0)) (h1:RdC w w.heap.size (dR x.net.luts) (.slice A1 n1 c1)) (h2:RdC w w.heap.size (aJ x.net.outs) (.slice A2 n2 c2)) (h3:RdC w w.heap.size (bE x.blocks) (.slice A3 n3 c3)) (h4:RdC w w.heap.size (bD x.conns) (.slice A4 n4 c4)) (h5:RdC w w.heap.size (aJ x.place) (.slice A5 n5 c5)) (h6:RdC w w.heap.size (bR x.routes) (.slice A6 n6 c6)) (hz:ae x.cells<=1048576) :
  Calls Tryz.prog 10 #[.agg #[.int .i64 x.net.inputs,.slice A0 n0 c0,.slice A1 n1 c1,.slice A2 n2 c2,.slice A3 n3 c3,.slice A4 n4 c4,.slice A5 n5 c5,.slice A6 n6 c6]] w fun e w'=>∃B0 B1 B2 B3 B4 B5 B6,e = .returned (.agg #[.int .i64 x.net.inputs,.slice B0 n0 n0,.slice B1 n1 n1,.slice B2 n2 n2,.slice B3 n3 n3,.slice B4 n4 n4,.slice B5 n5 n5,.slice B6 n6 n6])/\dL w.heap.size w'.heap.size w' x.cells [.int .i64 x.net.inputs,.slice B0 n0 n0,.slice B1 n1 n1,.slice B2 n2 n2,.slice B3 n3 n3,.slice B4 n4 n4,.slice B5 n5 n5,.slice B6 n6 n6]/\Below w.heap.size w w':=by
 have R0:=Hd h0
 have R1:=Hd h1
 have R2:=Hd h2
 have R3:=Hd h3
 have R4:=Hd h4
 have R5:=Hd h5
 have R6:=Hd h6
 have HS:ae x.cells=ae x.net.cells+szC (bE x.blocks)+szC (bD x.conns)+szC (aJ x.place)+szC (bR x.routes):=by unfold Lay.cells;simp only [fo,az,bK] <;> omega
 have Z0:Hid (ae x.net.cells<=1048576):=by show _<=_;omega
 have Z1:Hid (szC (bE x.blocks)<=1048576):=by show _<=_;omega
 have Z2:Hid (szC (bD x.conns)<=1048576):=by show _<=_;omega
 have Z3:Hid (szC (aJ x.place)<=1048576):=by show _<=_;omega
 have Z4:Hid (szC (bR x.routes)<=1048576):=by show _<=_;omega
 have S0:=Hd (iO w #[.int .i64 x.net.inputs,.slice A0 n0 c0,.slice A1 n1 c1,.slice A2 n2 c2,.slice A3 n3 c3,.slice A4 n4 c4,.slice A5 n5 c5,.slice A6 n6 c6] #[.int .i64 0,.slice none 0 0,.slice none 0 0,.slice none 0 0,.slice none 0 0,.slice none 0 0,.slice none 0 0,.slice none 0 0] #[.int .i64 0,.slice none 0 0,.slice none 0 0,.slice none 0 0,.slice none 0 0,.slice none 0 0,.slice none 0 0,.slice none 0 0] 33 46 46)
 have hg20:w.heap.size≠w.heap.size+1+1:=by omega
 have hg21:w.heap.size+1≠w.heap.size+1+1:=by omega
 have hg10:w.heap.size≠w.heap.size+1:=by omega
 clear HS hz h0 h1 h2 h3 h4 h5 h6
 go_enter Tryz.func10,Tryz.ntmps10
 go_upto_region 2 with fail
 generalize ((w.alloc (.cells #[.int .i64 x.net.inputs,.slice A0 n0 c0,.slice A1 n1 c1,.slice A2 n2 c2,.slice A3 n3 c3,.slice A4 n4 c4,.slice A5 n5 c5,.slice A6 n6 c6] 33)).alloc (.cells #[.int .i64 0,.slice none 0 0,.slice none 0 0,.slice none 0 0,.slice none 0 0,.slice none 0 0,.slice none 0 0,.slice none 0 0] 46)).alloc (.cells #[.int .i64 0,.slice none 0 0,.slice none 0 0,.slice none 0 0,.slice none 0 0,.slice none 0 0,.slice none 0 0,.slice none 0 0] 46)=w0 at *
 have hb0:=(S0.out.blk 0 rfl).1
 have hb1:=(S0.out.blk 1 rfl).1
 have hb2:=(S0.out.blk 2 rfl).1
 have x0:=aH hb0 (j:=0) (v := .int .i64 x.net.inputs) rfl
 have x1:=aH hb0 (j:=1) (v := .slice A0 n0 c0) rfl
 have x2:=aH hb0 (j:=2) (v := .slice A1 n1 c1) rfl
 have x3:=aH hb0 (j:=3) (v := .slice A2 n2 c2) rfl
 have x4:=aH hb0 (j:=4) (v := .slice A3 n3 c3) rfl
 have x5:=aH hb0 (j:=5) (v := .slice A4 n4 c4) rfl
 have x6:=aH hb0 (j:=6) (v := .slice A5 n5 c5) rfl
 have x7:=aH hb0 (j:=7) (v := .slice A6 n6 c6) rfl
 have z0:=aH hb2 (j:=0) (v := .int .i64 0) rfl
 have z1:=aH hb2 (j:=1) (v := .slice none 0 0) rfl
 have z2:=aH hb2 (j:=2) (v := .slice none 0 0) rfl
 have z3:=aH hb2 (j:=3) (v := .slice none 0 0) rfl
 have z4:=aH hb2 (j:=4) (v := .slice none 0 0) rfl
 have z5:=aH hb2 (j:=5) (v := .slice none 0 0) rfl
 have z6:=aH hb2 (j:=6) (v := .slice none 0 0) rfl
 have z7:=aH hb2 (j:=7) (v := .slice none 0 0) rfl
 have y2:=fun k=>aj hb2 k
 have l0:=aC hb0
 have l1:=aC hb1
 have l2:=aC hb2
 clear hb0 hb1 hb2
 go_wp2_with fail
 refine (si A0 A1 A2 n0 c0 n1 c1 n2 c2 x.net _ (R0.out.below S0.out.bel) (R1.out.below S0.out.bel) (R2.out.below S0.out.bel) Z0.out).mono ?_
 rintro _ w1 ⟨B0,B1,B2,rfl,o1,b1⟩
 have Q1:Hid (aM w (w1) [.blk w.heap.size #[.int .i64 x.net.inputs,.slice A0 n0 c0,.slice A1 n1 c1,.slice A2 n2 c2,.slice A3 n3 c3,.slice A4 n4 c4,.slice A5 n5 c5,.slice A6 n6 c6] 33,.blk (w.heap.size+1) #[.int .i64 0,.slice none 0 0,.slice none 0 0,.slice none 0 0,.slice none 0 0,.slice none 0 0,.slice none 0 0,.slice none 0 0] 46,.blk (w.heap.size+1+1) #[.int .i64 0,.slice none 0 0,.slice none 0 0,.slice none 0 0,.slice none 0 0,.slice none 0 0,.slice none 0 0,.slice none 0 0] 46,.cels x.net.cells [.int .i64 x.net.inputs,.slice B0 n0 n0,.slice B1 n1 n1,.slice B2 n2 n2]]):=(S0.out.pushLs b1 o1)
 clear o1 b1 x0 x1 x2 x3 x4 x5 x6 x7 z0 z1 z2 z3 z4 z5 z6 z7 y2 l0 l1 l2
 have hb0:=(Q1.out.blk 0 rfl).1
 have hb1:=(Q1.out.blk 1 rfl).1
 have hb2:=(Q1.out.blk 2 rfl).1
 have x0:=aH hb0 (j:=0) (v := .int .i64 x.net.inputs) rfl
 have x1:=aH hb0 (j:=1) (v := .slice A0 n0 c0) rfl
 have x2:=aH hb0 (j:=2) (v := .slice A1 n1 c1) rfl
 have x3:=aH hb0 (j:=3) (v := .slice A2 n2 c2) rfl
 have x4:=aH hb0 (j:=4) (v := .slice A3 n3 c3) rfl
 have x5:=aH hb0 (j:=5) (v := .slice A4 n4 c4) rfl
 have x6:=aH hb0 (j:=6) (v := .slice A5 n5 c5) rfl
 have x7:=aH hb0 (j:=7) (v := .slice A6 n6 c6) rfl
 have z0:=aH hb2 (j:=0) (v := .int .i64 0) rfl
 have z1:=aH hb2 (j:=1) (v := .slice none 0 0) rfl
 have z2:=aH hb2 (j:=2) (v := .slice none 0 0) rfl
 have z3:=aH hb2 (j:=3) (v := .slice none 0 0) rfl
 have z4:=aH hb2 (j:=4) (v := .slice none 0 0) rfl
 have z5:=aH hb2 (j:=5) (v := .slice none 0 0) rfl
 have z6:=aH hb2 (j:=6) (v := .slice none 0 0) rfl
 have z7:=aH hb2 (j:=7) (v := .slice none 0 0) rfl
 have y2:=fun k=>aj hb2 k
 have l0:=aC hb0
 have l1:=aC hb1
 have l2:=aC hb2
 clear hb0 hb1 hb2
 have Q2:Hid (aM w (w1.setCell ⟨w.heap.size+1+1,0,none⟩ (.int .i64 x.net.inputs)) [.blk w.heap.size #[.int .i64 x.net.inputs,.slice A0 n0 c0,.slice A1 n1 c1,.slice A2 n2 c2,.slice A3 n3 c3,.slice A4 n4 c4,.slice A5 n5 c5,.slice A6 n6 c6] 33,.blk (w.heap.size+1) #[.int .i64 0,.slice none 0 0,.slice none 0 0,.slice none 0 0,.slice none 0 0,.slice none 0 0,.slice none 0 0,.slice none 0 0] 46,.blk (w.heap.size+1+1) #[.int .i64 x.net.inputs,.slice none 0 0,.slice none 0 0,.slice none 0 0,.slice none 0 0,.slice none 0 0,.slice none 0 0,.slice none 0 0] 46,.cels x.net.cells [.int .i64 x.net.inputs,.slice B0 n0 n0,.slice B1 n1 n1,.slice B2 n2 n2]]):=(Q1.out.put 2 rfl 0 (.int .i64 x.net.inputs))
 have Q3:Hid (aM w ((w1.setCell ⟨w.heap.size+1+1,0,none⟩ (.int .i64 x.net.inputs)).setCell ⟨w.heap.size+1+1,1,none⟩ (.slice B0 n0 n0)) [.blk w.heap.size #[.int .i64 x.net.inputs,.slice A0 n0 c0,.slice A1 n1 c1,.slice A2 n2 c2,.slice A3 n3 c3,.slice A4 n4 c4,.slice A5 n5 c5,.slice A6 n6 c6] 33,.blk (w.heap.size+1) #[.int .i64 0,.slice none 0 0,.slice none 0 0,.slice none 0 0,.slice none 0 0,.slice none 0 0,.slice none 0 0,.slice none 0 0] 46,.blk (w.heap.size+1+1) #[.int .i64 x.net.inputs,.slice B0 n0 n0,.slice none 0 0,.slice none 0 0,.slice none 0 0,.slice none 0 0,.slice none 0 0,.slice none 0 0] 46,.cels x.net.cells [.int .i64 x.net.inputs,.slice B0 n0 n0,.slice B1 n1 n1,.slice B2 n2 n2]]):=(Q2.out.put 2 rfl 1 (.slice B0 n0 n0))
 have Q4:Hid (aM w (((w1.setCell ⟨w.heap.size+1+1,0,none⟩ (.int .i64 x.net.inputs)).setCell ⟨w.heap.size+1+1,1,none⟩ (.slice B0 n0 n0)).setCell ⟨w.heap.size+1+1,2,none⟩ (.slice B1 n1 n1)) [.blk w.heap.size #[.int .i64 x.net.inputs,.slice A0 n0 c0,.slice A1 n1 c1,.slice A2 n2 c2,.slice A3 n3 c3,.slice A4 n4 c4,.slice A5 n5 c5,.slice A6 n6 c6] 33,.blk (w.heap.size+1) #[.int .i64 0,.slice none 0 0,.slice none 0 0,.slice none 0 0,.slice none 0 0,.slice none 0 0,.slice none 0 0,.slice none 0 0] 46,.blk (w.heap.size+1+1) #[.int .i64 x.net.inputs,.slice B0 n0 n0,.slice B1 n1 n1,.slice none 0 0,.slice none 0 0,.slice none 0 0,.slice none 0 0,.slice none 0 0] 46,.cels x.net.cells [.int .i64 x.net.inputs,.slice B0 n0 n0,.slice B1 n1 n1,.slice B2 n2 n2]]):=(Q3.out.put 2 rfl 2 (.slice B1 n1 n1))
 have Q5:Hid (aM w ((((w1.setCell ⟨w.heap.size+1+1,0,none⟩ (.int .i64 x.net.inputs)).setCell ⟨w.heap.size+1+1,1,none⟩ (.slice B0 n0 n0)).setCell ⟨w.heap.size+1+1,2,none⟩ (.slice B1 n1 n1)).setCell ⟨w.heap.size+1+1,3,none⟩ (.slice B2 n2 n2)) [.blk w.heap.size #[.int .i64 x.net.inputs,.slice A0 n0 c0,.slice A1 n1 c1,.slice A2 n2 c2,.slice A3 n3 c3,.slice A4 n4 c4,.slice A5 n5 c5,.slice A6 n6 c6] 33,.blk (w.heap.size+1) #[.int .i64 0,.slice none 0 0,.slice none 0 0,.slice none 0 0,.slice none 0 0,.slice none 0 0,.slice none 0 0,.slice none 0 0] 46,.blk (w.heap.size+1+1) #[.int .i64 x.net.inputs,.slice B0 n0 n0,.slice B1 n1 n1,.slice B2 n2 n2,.slice none 0 0,.slice none 0 0,.slice none 0 0,.slice none 0 0] 46,.cels x.net.cells [.int .i64 x.net.inputs,.slice B0 n0 n0,.slice B1 n1 n1,.slice B2 n2 n2]]):=(Q4.out.put 2 rfl 3 (.slice B2 n2 n2))
 go_wp2_with fail
 refine (sj A3 n3 c3 x.blocks _ (R3.out.below Q5.out.bel) Z1.out).mono ?_
 rintro _ w2 ⟨B3,rfl,o2,b2⟩
 have Q6:Hid (aM w (w2) [.blk w.heap.size #[.int .i64 x.net.inputs,.slice A0 n0 c0,.slice A1 n1 c1,.slice A2 n2 c2,.slice A3 n3 c3,.slice A4 n4 c4,.slice A5 n5 c5,.slice A6 n6 c6] 33,.blk (w.heap.size+1) #[.int .i64 0,.slice none 0 0,.slice none 0 0,.slice none 0 0,.slice none 0 0,.slice none 0 0,.slice none 0 0,.slice none 0 0] 46,.blk (w.heap.size+1+1) #[.int .i64 x.net.inputs,.slice B0 n0 n0,.slice B1 n1 n1,.slice B2 n2 n2,.slice none 0 0,.slice none 0 0,.slice none 0 0,.slice none 0 0] 46,.cels x.net.cells [.int .i64 x.net.inputs,.slice B0 n0 n0,.slice B1 n1 n1,.slice B2 n2 n2],.cel (bE x.blocks) (.slice B3 n3 n3)]):=(Q5.out.pushT b2 o2)
 clear o2 b2 x0 x1 x2 x3 x4 x5 x6 x7 z0 z1 z2 z3 z4 z5 z6 z7 y2 l0 l1 l2
 have hb0:=(Q6.out.blk 0 rfl).1
 have hb1:=(Q6.out.blk 1 rfl).1
 have hb2:=(Q6.out.blk 2 rfl).1
 have x0:=aH hb0 (j:=0) (v := .int .i64 x.net.inputs) rfl
 have x1:=aH hb0 (j:=1) (v := .slice A0 n0 c0) rfl
 have x2:=aH hb0 (j:=2) (v := .slice A1 n1 c1) rfl
 have x3:=aH hb0 (j:=3) (v := .slice A2 n2 c2) rfl
 have x4:=aH hb0 (j:=4) (v := .slice A3 n3 c3) rfl
 have x5:=aH hb0 (j:=5) (v := .slice A4 n4 c4) rfl
 have x6:=aH hb0 (j:=6) (v := .slice A5 n5 c5) rfl
 have x7:=aH hb0 (j:=7) (v := .slice A6 n6 c6) rfl
 have z0:=aH hb2 (j:=0) (v := .int .i64 x.net.inputs) rfl
 have z1:=aH hb2 (j:=1) (v := .slice B0 n0 n0) rfl
 have z2:=aH hb2 (j:=2) (v := .slice B1 n1 n1) rfl
 have z3:=aH hb2 (j:=3) (v := .slice B2 n2 n2) rfl
 have z4:=aH hb2 (j:=4) (v := .slice none 0 0) rfl
 have z5:=aH hb2 (j:=5) (v := .slice none 0 0) rfl
 have z6:=aH hb2 (j:=6) (v := .slice none 0 0) rfl
 have z7:=aH hb2 (j:=7) (v := .slice none 0 0) rfl
 have y2:=fun k=>aj hb2 k
 have l0:=aC hb0
 have l1:=aC hb1
 have l2:=aC hb2
 clear hb0 hb1 hb2
 have Q7:Hid (aM w (w2.setCell ⟨w.heap.size+1+1,4,none⟩ (.slice B3 n3 n3)) [.blk w.heap.size #[.int .i64 x.net.inputs,.slice A0 n0 c0,.slice A1 n1 c1,.slice A2 n2 c2,.slice A3 n3 c3,.slice A4 n4 c4,.slice A5 n5 c5,.slice A6 n6 c6] 33,.blk (w.heap.size+1) #[.int .i64 0,.slice none 0 0,.slice none 0 0,.slice none 0 0,.slice none 0 0,.slice none 0 0,.slice none 0 0,.slice none 0 0] 46,.blk (w.heap.size+1+1) #[.int .i64 x.net.inputs,.slice B0 n0 n0,.slice B1 n1 n1,.slice B2 n2 n2,.slice B3 n3 n3,.slice none 0 0,.slice none 0 0,.slice none 0 0] 46,.cels x.net.cells [.int .i64 x.net.inputs,.slice B0 n0 n0,.slice B1 n1 n1,.slice B2 n2 n2],.cel (bE x.blocks) (.slice B3 n3 n3)]):=(Q6.out.put 2 rfl 4 (.slice B3 n3 n3))
 go_wp2_with fail
 refine (uu A4 n4 c4 x.conns _ (R4.out.below Q7.out.bel) Z2.out).mono ?_
 rintro _ w3 ⟨B4,rfl,o3,b3⟩
 have Q8:Hid (aM w (w3) [.blk w.heap.size #[.int .i64 x.net.inputs,.slice A0 n0 c0,.slice A1 n1 c1,.slice A2 n2 c2,.slice A3 n3 c3,.slice A4 n4 c4,.slice A5 n5 c5,.slice A6 n6 c6] 33,.blk (w.heap.size+1) #[.int .i64 0,.slice none 0 0,.slice none 0 0,.slice none 0 0,.slice none 0 0,.slice none 0 0,.slice none 0 0,.slice none 0 0] 46,.blk (w.heap.size+1+1) #[.int .i64 x.net.inputs,.slice B0 n0 n0,.slice B1 n1 n1,.slice B2 n2 n2,.slice B3 n3 n3,.slice none 0 0,.slice none 0 0,.slice none 0 0] 46,.cels x.net.cells [.int .i64 x.net.inputs,.slice B0 n0 n0,.slice B1 n1 n1,.slice B2 n2 n2],.cel (bE x.blocks) (.slice B3 n3 n3),.cel (bD x.conns) (.slice B4 n4 n4)]):=(Q7.out.pushT b3 o3)
 clear o3 b3 x0 x1 x2 x3 x4 x5 x6 x7 z0 z1 z2 z3 z4 z5 z6 z7 y2 l0 l1 l2
 have hb0:=(Q8.out.blk 0 rfl).1
 have hb1:=(Q8.out.blk 1 rfl).1
 have hb2:=(Q8.out.blk 2 rfl).1
 have x0:=aH hb0 (j:=0) (v := .int .i64 x.net.inputs) rfl
 have x1:=aH hb0 (j:=1) (v := .slice A0 n0 c0) rfl
 have x2:=aH hb0 (j:=2) (v := .slice A1 n1 c1) rfl
 have x3:=aH hb0 (j:=3) (v := .slice A2 n2 c2) rfl
 have x4:=aH hb0 (j:=4) (v := .slice A3 n3 c3) rfl
 have x5:=aH hb0 (j:=5) (v := .slice A4 n4 c4) rfl
 have x6:=aH hb0 (j:=6) (v := .slice A5 n5 c5) rfl
 have x7:=aH hb0 (j:=7) (v := .slice A6 n6 c6) rfl
 have z0:=aH hb2 (j:=0) (v := .int .i64 x.net.inputs) rfl
 have z1:=aH hb2 (j:=1) (v := .slice B0 n0 n0) rfl
 have z2:=aH hb2 (j:=2) (v := .slice B1 n1 n1) rfl
 have z3:=aH hb2 (j:=3) (v := .slice B2 n2 n2) rfl
 have z4:=aH hb2 (j:=4) (v := .slice B3 n3 n3) rfl
 have z5:=aH hb2 (j:=5) (v := .slice none 0 0) rfl
 have z6:=aH hb2 (j:=6) (v := .slice none 0 0) rfl
 have z7:=aH hb2 (j:=7) (v := .slice none 0 0) rfl
 have y2:=fun k=>aj hb2 k
 have l0:=aC hb0
 have l1:=aC hb1
 have l2:=aC hb2
 clear hb0 hb1 hb2
 have Q9:Hid (aM w (w3.setCell ⟨w.heap.size+1+1,5,none⟩ (.slice B4 n4 n4)) [.blk w.heap.size #[.int .i64 x.net.inputs,.slice A0 n0 c0,.slice A1 n1 c1,.slice A2 n2 c2,.slice A3 n3 c3,.slice A4 n4 c4,.slice A5 n5 c5,.slice A6 n6 c6] 33,.blk (w.heap.size+1) #[.int .i64 0,.slice none 0 0,.slice none 0 0,.slice none 0 0,.slice none 0 0,.slice none 0 0,.slice none 0 0,.slice none 0 0] 46,.blk (w.heap.size+1+1) #[.int .i64 x.net.inputs,.slice B0 n0 n0,.slice B1 n1 n1,.slice B2 n2 n2,.slice B3 n3 n3,.slice B4 n4 n4,.slice none 0 0,.slice none 0 0] 46,.cels x.net.cells [.int .i64 x.net.inputs,.slice B0 n0 n0,.slice B1 n1 n1,.slice B2 n2 n2],.cel (bE x.blocks) (.slice B3 n3 n3),.cel (bD x.conns) (.slice B4 n4 n4)]):=(Q8.out.put 2 rfl 5 (.slice B4 n4 n4))
 go_wp2_with fail
 refine (mE A5 n5 c5 x.place _ (R5.out.below Q9.out.bel) Z3.out).mono ?_
 rintro _ w4 ⟨B5,rfl,o4,b4⟩
 have Q10:Hid (aM w (w4) [.blk w.heap.size #[.int .i64 x.net.inputs,.slice A0 n0 c0,.slice A1 n1 c1,.slice A2 n2 c2,.slice A3 n3 c3,.slice A4 n4 c4,.slice A5 n5 c5,.slice A6 n6 c6] 33,.blk (w.heap.size+1) #[.int .i64 0,.slice none 0 0,.slice none 0 0,.slice none 0 0,.slice none 0 0,.slice none 0 0,.slice none 0 0,.slice none 0 0] 46,.blk (w.heap.size+1+1) #[.int .i64 x.net.inputs,.slice B0 n0 n0,.slice B1 n1 n1,.slice B2 n2 n2,.slice B3 n3 n3,.slice B4 n4 n4,.slice none 0 0,.slice none 0 0] 46,.cels x.net.cells [.int .i64 x.net.inputs,.slice B0 n0 n0,.slice B1 n1 n1,.slice B2 n2 n2],.cel (bE x.blocks) (.slice B3 n3 n3),.cel (bD x.conns) (.slice B4 n4 n4),.cel (aJ x.place) (.slice B5 n5 n5)]):=(Q9.out.pushT b4 o4)
 clear o4 b4 x0 x1 x2 x3 x4 x5 x6 x7 z0 z1 z2 z3 z4 z5 z6 z7 y2 l0 l1 l2
 have hb0:=(Q10.out.blk 0 rfl).1
 have hb1:=(Q10.out.blk 1 rfl).1
 have hb2:=(Q10.out.blk 2 rfl).1
 have x0:=aH hb0 (j:=0) (v := .int .i64 x.net.inputs) rfl
 have x1:=aH hb0 (j:=1) (v := .slice A0 n0 c0) rfl
 have x2:=aH hb0 (j:=2) (v := .slice A1 n1 c1) rfl
 have x3:=aH hb0 (j:=3) (v := .slice A2 n2 c2) rfl
 have x4:=aH hb0 (j:=4) (v := .slice A3 n3 c3) rfl
 have x5:=aH hb0 (j:=5) (v := .slice A4 n4 c4) rfl
 have x6:=aH hb0 (j:=6) (v := .slice A5 n5 c5) rfl
 have x7:=aH hb0 (j:=7) (v := .slice A6 n6 c6) rfl
 have z0:=aH hb2 (j:=0) (v := .int .i64 x.net.inputs) rfl
 have z1:=aH hb2 (j:=1) (v := .slice B0 n0 n0) rfl
 have z2:=aH hb2 (j:=2) (v := .slice B1 n1 n1) rfl
 have z3:=aH hb2 (j:=3) (v := .slice B2 n2 n2) rfl
 have z4:=aH hb2 (j:=4) (v := .slice B3 n3 n3) rfl
 have z5:=aH hb2 (j:=5) (v := .slice B4 n4 n4) rfl
 have z6:=aH hb2 (j:=6) (v := .slice none 0 0) rfl
 have z7:=aH hb2 (j:=7) (v := .slice none 0 0) rfl
 have y2:=fun k=>aj hb2 k
 have l0:=aC hb0
 have l1:=aC hb1
 have l2:=aC hb2
 clear hb0 hb1 hb2
 have Q11:Hid (aM w (w4.setCell ⟨w.heap.size+1+1,6,none⟩ (.slice B5 n5 n5)) [.blk w.heap.size #[.int .i64 x.net.inputs,.slice A0 n0 c0,.slice A1 n1 c1,.slice A2 n2 c2,.slice A3 n3 c3,.slice A4 n4 c4,.slice A5 n5 c5,.slice A6 n6 c6] 33,.blk (w.heap.size+1) #[.int .i64 0,.slice none 0 0,.slice none 0 0,.slice none 0 0,.slice none 0 0,.slice none 0 0,.slice none 0 0,.slice none 0 0] 46,.blk (w.heap.size+1+1) #[.int .i64 x.net.inputs,.slice B0 n0 n0,.slice B1 n1 n1,.slice B2 n2 n2,.slice B3 n3 n3,.slice B4 n4 n4,.slice B5 n5 n5,.slice none 0 0] 46,.cels x.net.cells [.int .i64 x.net.inputs,.slice B0 n0 n0,.slice B1 n1 n1,.slice B2 n2 n2],.cel (bE x.blocks) (.slice B3 n3 n3),.cel (bD x.conns) (.slice B4 n4 n4),.cel (aJ x.place) (.slice B5 n5 n5)]):=(Q10.out.put 2 rfl 6 (.slice B5 n5 n5))
 go_wp2_with fail
 refine (su A6 n6 c6 x.routes _ (R6.out.below Q11.out.bel) Z4.out).mono ?_
 rintro _ w5 ⟨B6,rfl,o5,b5⟩
 have Q12:Hid (aM w (w5) [.blk w.heap.size #[.int .i64 x.net.inputs,.slice A0 n0 c0,.slice A1 n1 c1,.slice A2 n2 c2,.slice A3 n3 c3,.slice A4 n4 c4,.slice A5 n5 c5,.slice A6 n6 c6] 33,.blk (w.heap.size+1) #[.int .i64 0,.slice none 0 0,.slice none 0 0,.slice none 0 0,.slice none 0 0,.slice none 0 0,.slice none 0 0,.slice none 0 0] 46,.blk (w.heap.size+1+1) #[.int .i64 x.net.inputs,.slice B0 n0 n0,.slice B1 n1 n1,.slice B2 n2 n2,.slice B3 n3 n3,.slice B4 n4 n4,.slice B5 n5 n5,.slice none 0 0] 46,.cels x.net.cells [.int .i64 x.net.inputs,.slice B0 n0 n0,.slice B1 n1 n1,.slice B2 n2 n2],.cel (bE x.blocks) (.slice B3 n3 n3),.cel (bD x.conns) (.slice B4 n4 n4),.cel (aJ x.place) (.slice B5 n5 n5),.cel (bR x.routes) (.slice B6 n6 n6)]):=(Q11.out.pushT b5 o5)
 clear o5 b5 x0 x1 x2 x3 x4 x5 x6 x7 z0 z1 z2 z3 z4 z5 z6 z7 y2 l0 l1 l2
 have hb0:=(Q12.out.blk 0 rfl).1
 have hb1:=(Q12.out.blk 1 rfl).1
 have hb2:=(Q12.out.blk 2 rfl).1
 have x0:=aH hb0 (j:=0) (v := .int .i64 x.net.inputs) rfl
 have x1:=aH hb0 (j:=1) (v := .slice A0 n0 c0) rfl
 have x2:=aH hb0 (j:=2) (v := .slice A1 n1 c1) rfl
 have x3:=aH hb0 (j:=3) (v := .slice A2 n2 c2) rfl
 have x4:=aH hb0 (j:=4) (v := .slice A3 n3 c3) rfl
 have x5:=aH hb0 (j:=5) (v := .slice A4 n4 c4) rfl
 have x6:=aH hb0 (j:=6) (v := .slice A5 n5 c5) rfl
 have x7:=aH hb0 (j:=7) (v := .slice A6 n6 c6) rfl
 have z0:=aH hb2 (j:=0) (v := .int .i64 x.net.inputs) rfl
 have z1:=aH hb2 (j:=1) (v := .slice B0 n0 n0) rfl
 have z2:=aH hb2 (j:=2) (v := .slice B1 n1 n1) rfl
 have z3:=aH hb2 (j:=3) (v := .slice B2 n2 n2) rfl
 have z4:=aH hb2 (j:=4) (v := .slice B3 n3 n3) rfl
 have z5:=aH hb2 (j:=5) (v := .slice B4 n4 n4) rfl
 have z6:=aH hb2 (j:=6) (v := .slice B5 n5 n5) rfl
 have z7:=aH hb2 (j:=7) (v := .slice none 0 0) rfl
 have y2:=fun k=>aj hb2 k
 have u0:=aH hb1 (j:=0) (v := .int .i64 0) rfl
 have u1:=aH hb1 (j:=1) (v := .slice none 0 0) rfl
 have u2:=aH hb1 (j:=2) (v := .slice none 0 0) rfl
 have u3:=aH hb1 (j:=3) (v := .slice none 0 0) rfl
 have u4:=aH hb1 (j:=4) (v := .slice none 0 0) rfl
 have u5:=aH hb1 (j:=5) (v := .slice none 0 0) rfl
 have u6:=aH hb1 (j:=6) (v := .slice none 0 0) rfl
 have u7:=aH hb1 (j:=7) (v := .slice none 0 0) rfl
 have y1:=fun k=>aj hb1 k
 have l0:=aC hb0
 have l1:=aC hb1
 have l2:=aC hb2
 clear hb0 hb1 hb2
 have Q13:Hid (aM w (w5.setCell ⟨w.heap.size+1+1,7,none⟩ (.slice B6 n6 n6)) [.blk w.heap.size #[.int .i64 x.net.inputs,.slice A0 n0 c0,.slice A1 n1 c1,.slice A2 n2 c2,.slice A3 n3 c3,.slice A4 n4 c4,.slice A5 n5 c5,.slice A6 n6 c6] 33,.blk (w.heap.size+1) #[.int .i64 0,.slice none 0 0,.slice none 0 0,.slice none 0 0,.slice none 0 0,.slice none 0 0,.slice none 0 0,.slice none 0 0] 46,.blk (w.heap.size+1+1) #[.int .i64 x.net.inputs,.slice B0 n0 n0,.slice B1 n1 n1,.slice B2 n2 n2,.slice B3 n3 n3,.slice B4 n4 n4,.slice B5 n5 n5,.slice B6 n6 n6] 46,.cels x.net.cells [.int .i64 x.net.inputs,.slice B0 n0 n0,.slice B1 n1 n1,.slice B2 n2 n2],.cel (bE x.blocks) (.slice B3 n3 n3),.cel (bD x.conns) (.slice B4 n4 n4),.cel (aJ x.place) (.slice B5 n5 n5),.cel (bR x.routes) (.slice B6 n6 n6)]):=(Q12.out.put 2 rfl 7 (.slice B6 n6 n6))
 have Q14:Hid (aM w ((w5.setCell ⟨w.heap.size+1+1,7,none⟩ (.slice B6 n6 n6)).setCell ⟨w.heap.size+1,0,none⟩ (.int .i64 x.net.inputs)) [.blk w.heap.size #[.int .i64 x.net.inputs,.slice A0 n0 c0,.slice A1 n1 c1,.slice A2 n2 c2,.slice A3 n3 c3,.slice A4 n4 c4,.slice A5 n5 c5,.slice A6 n6 c6] 33,.blk (w.heap.size+1) #[.int .i64 x.net.inputs,.slice none 0 0,.slice none 0 0,.slice none 0 0,.slice none 0 0,.slice none 0 0,.slice none 0 0,.slice none 0 0] 46,.blk (w.heap.size+1+1) #[.int .i64 x.net.inputs,.slice B0 n0 n0,.slice B1 n1 n1,.slice B2 n2 n2,.slice B3 n3 n3,.slice B4 n4 n4,.slice B5 n5 n5,.slice B6 n6 n6] 46,.cels x.net.cells [.int .i64 x.net.inputs,.slice B0 n0 n0,.slice B1 n1 n1,.slice B2 n2 n2],.cel (bE x.blocks) (.slice B3 n3 n3),.cel (bD x.conns) (.slice B4 n4 n4),.cel (aJ x.place) (.slice B5 n5 n5),.cel (bR x.routes) (.slice B6 n6 n6)]):=(Q13.out.put 1 rfl 0 (.int .i64 x.net.inputs))
 have Q15:Hid (aM w (((w5.setCell ⟨w.heap.size+1+1,7,none⟩ (.slice B6 n6 n6)).setCell ⟨w.heap.size+1,0,none⟩ (.int .i64 x.net.inputs)).setCell ⟨w.heap.size+1,1,none⟩ (.slice B0 n0 n0)) [.blk w.heap.size #[.int .i64 x.net.inputs,.slice A0 n0 c0,.slice A1 n1 c1,.slice A2 n2 c2,.slice A3 n3 c3,.slice A4 n4 c4,.slice A5 n5 c5,.slice A6 n6 c6] 33,.blk (w.heap.size+1) #[.int .i64 x.net.inputs,.slice B0 n0 n0,.slice none 0 0,.slice none 0 0,.slice none 0 0,.slice none 0 0,.slice none 0 0,.slice none 0 0] 46,.blk (w.heap.size+1+1) #[.int .i64 x.net.inputs,.slice B0 n0 n0,.slice B1 n1 n1,.slice B2 n2 n2,.slice B3 n3 n3,.slice B4 n4 n4,.slice B5 n5 n5,.slice B6 n6 n6] 46,.cels x.net.cells [.int .i64 x.net.inputs,.slice B0 n0 n0,.slice B1 n1 n1,.slice B2 n2 n2],.cel (bE x.blocks) (.slice B3 n3 n3),.cel (bD x.conns) (.slice B4 n4 n4),.cel (aJ x.place) (.slice B5 n5 n5),.cel (bR x.routes) (.slice B6 n6 n6)]):=(Q14.out.put 1 rfl 1 (.slice B0 n0 n0))
 have Q16:Hid (aM w ((((w5.setCell ⟨w.heap.size+1+1,7,none⟩ (.slice B6 n6 n6)).setCell ⟨w.heap.size+1,0,none⟩ (.int .i64 x.net.inputs)).setCell ⟨w.heap.size+1,1,none⟩ (.slice B0 n0 n0)).setCell ⟨w.heap.size+1,2,none⟩ (.slice B1 n1 n1)) [.blk w.heap.size #[.int .i64 x.net.inputs,.slice A0 n0 c0,.slice A1 n1 c1,.slice A2 n2 c2,.slice A3 n3 c3,.slice A4 n4 c4,.slice A5 n5 c5,.slice A6 n6 c6] 33,.blk (w.heap.size+1) #[.int .i64 x.net.inputs,.slice B0 n0 n0,.slice B1 n1 n1,.slice none 0 0,.slice none 0 0,.slice none 0 0,.slice none 0 0,.slice none 0 0] 46,.blk (w.heap.size+1+1) #[.int .i64 x.net.inputs,.slice B0 n0 n0,.slice B1 n1 n1,.slice B2 n2 n2,.slice B3 n3 n3,.slice B4 n4 n4,.slice B5 n5 n5,.slice B6 n6 n6] 46,.cels x.net.cells [.int .i64 x.net.inputs,.slice B0 n0 n0,.slice B1 n1 n1,.slice B2 n2 n2],.cel (bE x.blocks) (.slice B3 n3 n3),.cel (bD x.conns) (.slice B4 n4 n4),.cel (aJ x.place) (.slice B5 n5 n5),.cel (bR x.routes) (.slice B6 n6 n6)]):=(Q15.out.put 1 rfl 2 (.slice B1 n1 n1))
 have Q17:Hid (aM w (((((w5.setCell ⟨w.heap.size+1+1,7,none⟩ (.slice B6 n6 n6)).setCell ⟨w.heap.size+1,0,none⟩ (.int .i64 x.net.inputs)).setCell ⟨w.heap.size+1,1,none⟩ (.slice B0 n0 n0)).setCell ⟨w.heap.size+1,2,none⟩ (.slice B1 n1 n1)).setCell ⟨w.heap.size+1,3,none⟩ (.slice B2 n2 n2)) [.blk w.heap.size #[.int .i64 x.net.inputs,.slice A0 n0 c0,.slice A1 n1 c1,.slice A2 n2 c2,.slice A3 n3 c3,.slice A4 n4 c4,.slice A5 n5 c5,.slice A6 n6 c6] 33,.blk (w.heap.size+1) #[.int .i64 x.net.inputs,.slice B0 n0 n0,.slice B1 n1 n1,.slice B2 n2 n2,.slice none 0 0,.slice none 0 0,.slice none 0 0,.slice none 0 0] 46,.blk (w.heap.size+1+1) #[.int .i64 x.net.inputs,.slice B0 n0 n0,.slice B1 n1 n1,.slice B2 n2 n2,.slice B3 n3 n3,.slice B4 n4 n4,.slice B5 n5 n5,.slice B6 n6 n6] 46,.cels x.net.cells [.int .i64 x.net.inputs,.slice B0 n0 n0,.slice B1 n1 n1,.slice B2 n2 n2],.cel (bE x.blocks) (.slice B3 n3 n3),.cel (bD x.conns) (.slice B4 n4 n4),.cel (aJ x.place) (.slice B5 n5 n5),.cel (bR x.routes) (.slice B6 n6 n6)]):=(Q16.out.put 1 rfl 3 (.slice B2 n2 n2))
 have Q18:Hid (aM w ((((((w5.setCell ⟨w.heap.size+1+1,7,none⟩ (.slice B6 n6 n6)).setCell ⟨w.heap.size+1,0,none⟩ (.int .i64 x.net.inputs)).setCell ⟨w.heap.size+1,1,none⟩ (.slice B0 n0 n0)).setCell ⟨w.heap.size+1,2,none⟩ (.slice B1 n1 n1)).setCell ⟨w.heap.size+1,3,none⟩ (.slice B2 n2 n2)).setCell ⟨w.heap.size+1,4,none⟩ (.slice B3 n3 n3)) [.blk w.heap.size #[.int .i64 x.net.inputs,.slice A0 n0 c0,.slice A1 n1 c1,.slice A2 n2 c2,.slice A3 n3 c3,.slice A4 n4 c4,.slice A5 n5 c5,.slice A6 n6 c6] 33,.blk (w.heap.size+1) #[.int .i64 x.net.inputs,.slice B0 n0 n0,.slice B1 n1 n1,.slice B2 n2 n2,.slice B3 n3 n3,.slice none 0 0,.slice none 0 0,.slice none 0 0] 46,.blk (w.heap.size+1+1) #[.int .i64 x.net.inputs,.slice B0 n0 n0,.slice B1 n1 n1,.slice B2 n2 n2,.slice B3 n3 n3,.slice B4 n4 n4,.slice B5 n5 n5,.slice B6 n6 n6] 46,.cels x.net.cells [.int .i64 x.net.inputs,.slice B0 n0 n0,.slice B1 n1 n1,.slice B2 n2 n2],.cel (bE x.blocks) (.slice B3 n3 n3),.cel (bD x.conns) (.slice B4 n4 n4),.cel (aJ x.place) (.slice B5 n5 n5),.cel (bR x.routes) (.slice B6 n6 n6)]):=(Q17.out.put 1 rfl 4 (.slice B3 n3 n3))
 have Q19:Hid (aM w (((((((w5.setCell ⟨w.heap.size+1+1,7,none⟩ (.slice B6 n6 n6)).setCell ⟨w.heap.size+1,0,none⟩ (.int .i64 x.net.inputs)).setCell ⟨w.heap.size+1,1,none⟩ (.slice B0 n0 n0)).setCell ⟨w.heap.size+1,2,none⟩ (.slice B1 n1 n1)).setCell ⟨w.heap.size+1,3,none⟩ (.slice B2 n2 n2)).setCell ⟨w.heap.size+1,4,none⟩ (.slice B3 n3 n3)).setCell ⟨w.heap.size+1,5,none⟩ (.slice B4 n4 n4)) [.blk w.heap.size #[.int .i64 x.net.inputs,.slice A0 n0 c0,.slice A1 n1 c1,.slice A2 n2 c2,.slice A3 n3 c3,.slice A4 n4 c4,.slice A5 n5 c5,.slice A6 n6 c6] 33,.blk (w.heap.size+1) #[.int .i64 x.net.inputs,.slice B0 n0 n0,.slice B1 n1 n1,.slice B2 n2 n2,.slice B3 n3 n3,.slice B4 n4 n4,.slice none 0 0,.slice none 0 0] 46,.blk (w.heap.size+1+1) #[.int .i64 x.net.inputs,.slice B0 n0 n0,.slice B1 n1 n1,.slice B2 n2 n2,.slice B3 n3 n3,.slice B4 n4 n4,.slice B5 n5 n5,.slice B6 n6 n6] 46,.cels x.net.cells [.int .i64 x.net.inputs,.slice B0 n0 n0,.slice B1 n1 n1,.slice B2 n2 n2],.cel (bE x.blocks) (.slice B3 n3 n3),.cel (bD x.conns) (.slice B4 n4 n4),.cel (aJ x.place) (.slice B5 n5 n5),.cel (bR x.routes) (.slice B6 n6 n6)]):=(Q18.out.put 1 rfl 5 (.slice B4 n4 n4))
 have Q20:Hid (aM w ((((((((w5.setCell ⟨w.heap.size+1+1,7,none⟩ (.slice B6 n6 n6)).setCell ⟨w.heap.size+1,0,none⟩ (.int .i64 x.net.inputs)).setCell ⟨w.heap.size+1,1,none⟩ (.slice B0 n0 n0)).setCell ⟨w.heap.size+1,2,none⟩ (.slice B1 n1 n1)).setCell ⟨w.heap.size+1,3,none⟩ (.slice B2 n2 n2)).setCell ⟨w.heap.size+1,4,none⟩ (.slice B3 n3 n3)).setCell ⟨w.heap.size+1,5,none⟩ (.slice B4 n4 n4)).setCell ⟨w.heap.size+1,6,none⟩ (.slice B5 n5 n5)) [.blk w.heap.size #[.int .i64 x.net.inputs,.slice A0 n0 c0,.slice A1 n1 c1,.slice A2 n2 c2,.slice A3 n3 c3,.slice A4 n4 c4,.slice A5 n5 c5,.slice A6 n6 c6] 33,.blk (w.heap.size+1) #[.int .i64 x.net.inputs,.slice B0 n0 n0,.slice B1 n1 n1,.slice B2 n2 n2,.slice B3 n3 n3,.slice B4 n4 n4,.slice B5 n5 n5,.slice none 0 0] 46,.blk (w.heap.size+1+1) #[.int .i64 x.net.inputs,.slice B0 n0 n0,.slice B1 n1 n1,.slice B2 n2 n2,.slice B3 n3 n3,.slice B4 n4 n4,.slice B5 n5 n5,.slice B6 n6 n6] 46,.cels x.net.cells [.int .i64 x.net.inputs,.slice B0 n0 n0,.slice B1 n1 n1,.slice B2 n2 n2],.cel (bE x.blocks) (.slice B3 n3 n3),.cel (bD x.conns) (.slice B4 n4 n4),.cel (aJ x.place) (.slice B5 n5 n5),.cel (bR x.routes) (.slice B6 n6 n6)]):=(Q19.out.put 1 rfl 6 (.slice B5 n5 n5))
 have Q21:Hid (aM w (((((((((w5.setCell ⟨w.heap.size+1+1,7,none⟩ (.slice B6 n6 n6)).setCell ⟨w.heap.size+1,0,none⟩ (.int .i64 x.net.inputs)).setCell ⟨w.heap.size+1,1,none⟩ (.slice B0 n0 n0)).setCell ⟨w.heap.size+1,2,none⟩ (.slice B1 n1 n1)).setCell ⟨w.heap.size+1,3,none⟩ (.slice B2 n2 n2)).setCell ⟨w.heap.size+1,4,none⟩ (.slice B3 n3 n3)).setCell ⟨w.heap.size+1,5,none⟩ (.slice B4 n4 n4)).setCell ⟨w.heap.size+1,6,none⟩ (.slice B5 n5 n5)).setCell ⟨w.heap.size+1,7,none⟩ (.slice B6 n6 n6)) [.blk w.heap.size #[.int .i64 x.net.inputs,.slice A0 n0 c0,.slice A1 n1 c1,.slice A2 n2 c2,.slice A3 n3 c3,.slice A4 n4 c4,.slice A5 n5 c5,.slice A6 n6 c6] 33,.blk (w.heap.size+1) #[.int .i64 x.net.inputs,.slice B0 n0 n0,.slice B1 n1 n1,.slice B2 n2 n2,.slice B3 n3 n3,.slice B4 n4 n4,.slice B5 n5 n5,.slice B6 n6 n6] 46,.blk (w.heap.size+1+1) #[.int .i64 x.net.inputs,.slice B0 n0 n0,.slice B1 n1 n1,.slice B2 n2 n2,.slice B3 n3 n3,.slice B4 n4 n4,.slice B5 n5 n5,.slice B6 n6 n6] 46,.cels x.net.cells [.int .i64 x.net.inputs,.slice B0 n0 n0,.slice B1 n1 n1,.slice B2 n2 n2],.cel (bE x.blocks) (.slice B3 n3 n3),.cel (bD x.conns) (.slice B4 n4 n4),.cel (aJ x.place) (.slice B5 n5 n5),.cel (bR x.routes) (.slice B6 n6 n6)]):=(Q20.out.put 1 rfl 7 (.slice B6 n6 n6))
 go_wp2_with fail
 generalize ((((((((w5.setCell ⟨w.heap.size+1+1,7,none⟩ (.slice B6 n6 n6)).setCell ⟨w.heap.size+1,0,none⟩ (.int .i64 x.net.inputs)).setCell ⟨w.heap.size+1,1,none⟩ (.slice B0 n0 n0)).setCell ⟨w.heap.size+1,2,none⟩ (.slice B1 n1 n1)).setCell ⟨w.heap.size+1,3,none⟩ (.slice B2 n2 n2)).setCell ⟨w.heap.size+1,4,none⟩ (.slice B3 n3 n3)).setCell ⟨w.heap.size+1,5,none⟩ (.slice B4 n4 n4)).setCell ⟨w.heap.size+1,6,none⟩ (.slice B5 n5 n5)).setCell ⟨w.heap.size+1,7,none⟩ (.slice B6 n6 n6)=WF at *
 clear x0 x1 x2 x3 x4 x5 x6 x7 z0 z1 z2 z3 z4 z5 z6 z7 y2 u0 u1 u2 u3 u4 u5 u6 u7 y1 l0 l1 l2
 have hb:WF.heap[w.heap.size+1]?=some (.cells #[.int .i64 x.net.inputs,.slice B0 n0 n0,.slice B1 n1 n1,.slice B2 n2 n2,.slice B3 n3 n3,.slice B4 n4 n4,.slice B5 n5 n5,.slice B6 n6 n6] 46 (0,0)):=(Q21.out.blk 1 rfl).1
 exact bodyPost_ret (v := .agg #[.int .i64 x.net.inputs,.slice B0 n0 n0,.slice B1 n1 n1,.slice B2 n2 n2,.slice B3 n3 n3,.slice B4 n4 n4,.slice B5 n5 n5,.slice B6 n6 n6]) (gI Tryz.results10 rfl hb Tryz.underlying46 (by kernel_rfl)) rfl ⟨B0,B1,B2,B3,B4,B5,B6,rfl,Q21.out.tail.tail.tail.ownsL rfl,Q21.out.bel⟩
end Go.Proofs.YtofihjoanjkdmaaGreat
