/- The laws' copies of nested data (printed by mkto.py). -/
import Derived.Test.YtofihjoanjkdmaaGreatLaySz
import Derived.Test.YtofihjoanjkdmaaGreatResc
namespace Go.Proofs.YtofihjoanjkdmaaGreat
set_option maxHeartbeats 4000000
set_option maxRecDepth 100000
open Go.RowKit
theorem fK {l:List Value} {j:Nat} (h:j<l.length) (v:Value):(l.set j v).take (j+1)=l.take j++[v]:=by
 rw [List.take_add_one,List.getElem?_set_self h,List.take_set_of_le (Nat.le_refl _)]
 rfl
theorem kM {α β:Type} {f:α→List β} {xs:List α} {k:Nat} {x:α} (h:xs[k]?=some x):(xs.take (k+1)).flatMap f=(xs.take k).flatMap f++f x:=by
 rw [List.take_add_one,h]
 simp
structure fo (w:World) (g:Nat) (e:TypeId) (s n k:Nat) (vs:List Value):Prop where
 blk:∃cur,w.heap[g]?=some (.cells cur e (0,0))/\cur.size=n * s/\cur.toList.take (k * s)=vs
 len:vs.length=k * s
theorem fo.tr {w w':World} {g:Nat} {e:TypeId} {s n k:Nat} {vs:List Value} (h:fo w g e s n k vs) (j:Below w.heap.size w w'):fo w' g e s n k vs:=by
 obtain ⟨⟨cur,h1,h2,h3⟩,h4⟩:=h
 exact ⟨⟨cur,aD j h1,h2,h3⟩,h4⟩
theorem fo.lt {w:World} {g:Nat} {e:TypeId} {s n k:Nat} {vs:List Value} (h:fo w g e s n k vs):g<w.heap.size:=by
 obtain ⟨⟨cur,h1,h2,h3⟩,h4⟩:=h
 exact aC h1
theorem fo.cell {w:World} {g:Nat} {e:TypeId} {s n k:Nat} {vs:List Value} (h:fo w g e s n k vs) (hk:k<n) (j:Nat) (hj:j<s):∃u,w.cell? ⟨g,k * s+j,none⟩=some u:=by
 obtain ⟨⟨cur,h1,h2,h3⟩,h4⟩:=h
 have z:=Nat.mul_le_mul_right s (show k+1<=n by omega)
 rw [Nat.succ_mul] at z
 have q:k * s+j<cur.size:=by omega
 exact ⟨cur[k * s+j],by unfold World.cell?;rw [h1];simp [q]⟩
theorem fo.frozen {w:World} {g:Nat} {e:TypeId} {s n k:Nat} {vs:List Value} (h:fo w g e s n k vs) (j:Nat):w.frozen? ⟨g,j,none⟩=false:=by
 obtain ⟨⟨cur,h1,h2,h3⟩,h4⟩:=h
 exact aX h1 j
theorem fo.put2 {w:World} {g:Nat} {e:TypeId} {n k:Nat} {vs:List Value} (h:fo w g e 2 n k vs) (hk:k<n) (q j:Value):fo ((w.setCell ⟨g,k * 2,none⟩ q).setCell ⟨g,k * 2+1,none⟩ j) g e 2 n (k+1) (vs++[q,j]):=by
 obtain ⟨⟨cur,h1,h2,h3⟩,h4⟩:=h
 refine ⟨⟨_,iK (iK h1 _ q) _ j,by simp [h2],?_⟩,by simp [h4];omega⟩
 have hl:cur.toList.length=n * 2:=by rw [Array.length_toList,h2]
 simp only [Array.toList_setIfInBounds]
 rw [show (k+1) * 2=k * 2+1+1 by omega,fK (by simp;omega),fK (by omega),h3]
 simp
theorem fo.put3 {w:World} {g:Nat} {e:TypeId} {n k:Nat} {vs:List Value} (h:fo w g e 3 n k vs) (hk:k<n) (q j u:Value):fo (((w.setCell ⟨g,k * 3,none⟩ q).setCell ⟨g,k * 3+1,none⟩ j).setCell ⟨g,k * 3+2,none⟩ u) g e 3 n (k+1) (vs++[q,j,u]):=by
 obtain ⟨⟨cur,h1,h2,h3⟩,h4⟩:=h
 refine ⟨⟨_,iK (iK (iK h1 _ q) _ j) _ u,by simp [h2],?_⟩,by simp [h4];omega⟩
 have hl:cur.toList.length=n * 3:=by rw [Array.length_toList,h2]
 simp only [Array.toList_setIfInBounds]
 rw [show (k+1) * 3=k * 3+2+1 by omega,fK (by simp;omega),show k * 3+2=k * 3+1+1 from rfl,fK (by simp;omega),fK (by omega),h3]
 simp
theorem fo.put4 {w:World} {g:Nat} {e:TypeId} {n k:Nat} {vs:List Value} (h:fo w g e 4 n k vs) (hk:k<n) (q j z u:Value):fo ((((w.setCell ⟨g,k * 4,none⟩ q).setCell ⟨g,k * 4+1,none⟩ j).setCell ⟨g,k * 4+2,none⟩ z).setCell ⟨g,k * 4+3,none⟩ u) g e 4 n (k+1) (vs++[q,j,z,u]):=by
 obtain ⟨⟨cur,h1,h2,h3⟩,h4⟩:=h
 refine ⟨⟨_,iK (iK (iK (iK h1 _ q) _ j) _ z) _ u,by simp [h2],?_⟩,by simp [h4];omega⟩
 have hl:cur.toList.length=n * 4:=by rw [Array.length_toList,h2]
 simp only [Array.toList_setIfInBounds]
 rw [show (k+1) * 4=k * 4+3+1 by omega,fK (by simp;omega),show k * 4+3=k * 4+2+1 from rfl,fK (by simp;omega),show k * 4+2=k * 4+1+1 from rfl,fK (by simp;omega),fK (by omega),h3]
 simp
theorem fo.new {w:World} {e:TypeId} {s n:Nat} {cur:Array Value} (h:cur.size=n * s):fo (w.alloc (.cells cur e)) w.heap.size e s n 0 []:=⟨⟨cur,aI _ _,h,by simp⟩,by simp⟩
theorem fo.own {w:World} {g hi:Nat} {e:TypeId} {s n:Nat} {vs:List Value} {cs:List Cel} (h:fo w g e s n n vs) (hn:n<=maxLen) (ho:dh (g+1) hi w cs vs) (B:g<hi):gI g hi w (.row e s cs) (.slice (some ⟨g,0,none⟩) n n):=by
 obtain ⟨⟨cur,h1,h2,h3⟩,h4⟩:=h
 obtain ⟨F,z,q,j⟩:=ho
 refine ⟨g :: F,?_,?_,fun k hk=>?_⟩
 ·rw [dV]
  exact ⟨_,n,n,vs,F,rfl,⟨h4,.inr ⟨g,n,cur,rfl,Nat.zero_le _,h1,Nat.le_refl _,hn,h2,h3⟩⟩,rfl,z⟩
 ·rw [List.nodup_cons]
  exact ⟨fun u=>by have:=j g u;omega,q⟩
 rw [List.mem_cons] at hk
 rcases hk with rfl|hk
 ·omega
 have:=j k hk;omega
theorem dh.chgZ {lo hi j g:Nat} {w w':World} {cs:List Cel} {vs:List Value} (h:dh lo hi w cs vs) (hg:Chg j g w w') (q:hi<=j∨g<=lo):dh lo hi w' cs vs:=h.keep fun k h1 h2 hk=>hg.block k hk (by omega)
theorem dh.appZ {lo j g hi:Nat} {w:World} {cs ds:List Cel} {vs u:List Value} (h:dh lo j w cs vs) (k:dh g hi w ds u) (h1:j<=g) (h2:lo<=g) (h3:j<=hi):dh lo hi w (cs++ds) (vs++u):=by
 obtain ⟨F,J,K,B⟩:=h
 obtain ⟨G,D,I,z⟩:=k
 refine ⟨F++G,J.append D,?_,fun k hk=>?_⟩
 ·rw [List.nodup_append]
  exact ⟨K,I,fun p H q hq e=>by have:=B p H;have:=z q hq;omega⟩
 rcases List.mem_append.1 hk with hk|hk
 ·have:=B k hk;omega
 have:=z k hk;omega
def Pc.ces:Pc→List Cel
 | .cel c _=>[c]
 | .cels cs _=>cs
 | .own _ _=>[]
def Pc.vals:Pc→List Value
 | .cel _ v=>[v]
 | .cels _ vs=>vs
 | .own _ _=>[]
def Pc.isTree:Pc→Bool
 | .own _ _=>false
 | _=>true
theorem jG.ownL {w:World}:∀{ps:List Pc} {F:List Nat},ps.all Pc.isTree=true→jG w ps F→fB w (ps.flatMap Pc.ces) (ps.flatMap Pc.vals) F
 | [],F,_,h=>by rw [show F=[] from h];exact ek.2 ⟨rfl,rfl⟩
 | p :: ps,F,ht,h=>by
  obtain ⟨j,F2,rfl,h1,h2⟩:=h
  rw [List.all_cons,Bool.and_eq_true] at ht
  rw [List.flatMap_cons,List.flatMap_cons]
  refine fB.append ?_ (jG.ownL ht.2 h2)
  cases p with
  | cel c v=>exact bK.2 ⟨v,[],j,[],rfl,(List.append_nil _).symm,h1,ek.2 ⟨rfl,rfl⟩⟩
  | cels cs vs=>exact h1
  | own g P=>exact absurd ht.1 (by simp [Pc.isTree])
theorem aJ.ownsL {W w:World} {ps:List Pc} (h:aJ W w ps) (ht:ps.all Pc.isTree=true):dh W.heap.size w.heap.size w (ps.flatMap Pc.ces) (ps.flatMap Pc.vals):=by
 obtain ⟨_,F,h2,h3,h4⟩:=h
 exact ⟨F,h2.ownL ht,h3,fun k hk=>⟨h4 k hk,h2.lt k hk⟩⟩
theorem aJ.pushInt {W w:World} {ps:List Pc} (h:aJ W w ps) (x:Int):aJ W w (ps++[.cel (.int x) (.int .i64 x)]) :=
 h.push (Below.refl _ _) (G:=[]) (show bO w (.int x) (.int .i64 x) [] from ed.2 ⟨rfl,rfl⟩) (by simp) (by simp)
theorem aJ.pushLs {W w w':World} {ps:List Pc} {cs:List Cel} {vs:List Value} {hi:Nat} (h:aJ W w ps) (g:Below w.heap.size w w') (ho:dh w.heap.size hi w' cs vs):aJ W w' (ps++[.cels cs vs]):=by
 obtain ⟨F,h1,h2,h3⟩:=ho
 exact h.push g h1 h2 fun k hk=>(h3 k hk).1
theorem jd (w:World) (g c1 c2:Array Value) (j q u:TypeId):aJ w (((w.alloc (.cells g j)).alloc (.cells c1 q)).alloc (.cells c2 u)) [.blk w.heap.size g j,.blk (w.heap.size+1) c1 q,.blk (w.heap.size+1+1) c2 u]:=by
 have h:=(((aJ.refl w).pushBlk g j).pushBlk c1 q).pushBlk c2 u
 have e1:(w.alloc (.cells g j)).heap.size=w.heap.size+1:=by simp
 have e2:((w.alloc (.cells g j)).alloc (.cells c1 q)).heap.size=w.heap.size+1+1:=by simp
 rw [e1,e2] at h
 exact h
theorem Fz {w:World} {g:Nat} {cs:Array Value} {t:TypeId} (h:w.heap[g]?=some (.cells cs t (0,0))) {j:Nat} {v:Value} (hj:cs[j]?=some v):w.cell? ⟨g,j,none⟩=some v:=by
 unfold World.cell?
 rw [h]
 simpa using hj
theorem pO (A:Option Addr) (n c:Nat) (xs:List Int) (w:World) (h:RdC w w.heap.size (aH xs) (.slice A n c)) (j:szC (aH xs)<=1048576) :
  Calls Tryz.prog 43 #[.slice A n c] w fun e w'=>∃B,e = .returned (.slice B n n)/\gI w.heap.size w'.heap.size w' (aH xs) (.slice B n n)/\Below w.heap.size w w':=by
 have hn:=h.ints.1
 rw [nZ,hn] at j
 refine (BG A n c xs w h.ints (by omega)).mono ?_
 rintro e w' ⟨B,rfl,ho,g⟩
 exact ⟨B,rfl,⟨blk B,eB.2 ⟨ho.more (Nat.zero_le _),rfl⟩,by cases B <;> simp [blk],fun k hk=>by obtain ⟨a,rfl,rfl⟩:=nz.1 hk;exact ho.lt a rfl⟩,g⟩
theorem Db (D:Option Addr) (g B:Nat) (x:Lt) (w:World) (h0:RdC w w.heap.size (aH x.ins) (.slice D g B)) (hz:af x.cells<=1048576) :
  Calls Tryz.prog 173 #[.agg #[.slice D g B,.int .i64 x.mask]] w fun e w'=>∃q,e = .returned (.agg #[.slice q g g,.int .i64 x.mask])/\dh w.heap.size w'.heap.size w' x.cells [.slice q g g,.int .i64 x.mask]/\Below w.heap.size w w':=by
 have R0:=Hd h0
 have HS:af x.cells=szC (aH x.ins):=by unfold Lt.cells;simp only [au,bP,fM] <;> omega
 have Z0:Hid (szC (aH x.ins)<=1048576):=by show _<=_;omega
 have G:=Hd (jd w #[.slice D g B,.int .i64 x.mask] #[.slice none 0 0,.int .i64 0] #[.slice none 0 0,.int .i64 0] 184 96 96)
 have W:w.heap.size≠w.heap.size+1+1:=by omega
 have Y:w.heap.size+1≠w.heap.size+1+1:=by omega
 have Z:w.heap.size≠w.heap.size+1:=by omega
 clear HS hz h0
 go_enter Tryz.func173,Tryz.ntmps173
 go_upto_region 2 with fail
 generalize ((w.alloc (.cells #[.slice D g B,.int .i64 x.mask] 184)).alloc (.cells #[.slice none 0 0,.int .i64 0] 96)).alloc (.cells #[.slice none 0 0,.int .i64 0] 96)=w0 at *
 have u:=(G.out.blk 0 rfl).1
 have z:=(G.out.blk 1 rfl).1
 have j:=(G.out.blk 2 rfl).1
 obtain ⟨R,Q⟩:=cs2 u
 obtain ⟨J,I⟩:=cs2 j
 have K:=fun k=>aX j k
 have l0:=aC u
 have l1:=aC z
 have l2:=aC j
 clear u z j
 go_wp2_with fail
 refine (pO D g B x.ins _ (R0.out.below G.out.bel) Z0.out).mono ?_
 rintro _ V ⟨q,rfl,o1,b1⟩
 have H:Hid (aJ w (V) [.blk w.heap.size #[.slice D g B,.int .i64 x.mask] 184,.blk (w.heap.size+1) #[.slice none 0 0,.int .i64 0] 96,.blk (w.heap.size+1+1) #[.slice none 0 0,.int .i64 0] 96,.cel (aH x.ins) (.slice q g g)]):=(G.out.pushT b1 o1)
 clear o1 b1 R Q J I K l0 l1 l2
 have u:=(H.out.blk 0 rfl).1
 have z:=(H.out.blk 1 rfl).1
 have j:=(H.out.blk 2 rfl).1
 obtain ⟨R,Q⟩:=cs2 u
 obtain ⟨J,I⟩:=cs2 j
 have K:=fun k=>aX j k
 obtain ⟨u0,u1⟩:=cs2 z
 have y1:=fun k=>aX z k
 have l0:=aC u
 have l1:=aC z
 have l2:=aC j
 clear u z j
 have U:Hid (aJ w ((((V.setCell ⟨w.heap.size+1+1,0,none⟩ (.slice q g g)).setCell ⟨w.heap.size+1+1,1,none⟩ (.int .i64 x.mask)).setCell ⟨w.heap.size+1,0,none⟩ (.slice q g g)).setCell ⟨w.heap.size+1,1,none⟩ (.int .i64 x.mask)) [.blk w.heap.size #[.slice D g B,.int .i64 x.mask] 184,.blk (w.heap.size+1) #[.slice q g g,.int .i64 x.mask] 96,.blk (w.heap.size+1+1) #[.slice q g g,.int .i64 x.mask] 96,.cel (aH x.ins) (.slice q g g),.cel (.int x.mask) (.int .i64 x.mask)]):=(((((H.out.put 2 rfl 0 (.slice q g g)).put 2 rfl 1 (.int .i64 x.mask)).pushInt x.mask).put 1 rfl 0 (.slice q g g)).put 1 rfl 1 (.int .i64 x.mask))
 go_wp2_with fail
 generalize (((V.setCell ⟨w.heap.size+1+1,0,none⟩ (.slice q g g)).setCell ⟨w.heap.size+1+1,1,none⟩ (.int .i64 x.mask)).setCell ⟨w.heap.size+1,0,none⟩ (.slice q g g)).setCell ⟨w.heap.size+1,1,none⟩ (.int .i64 x.mask)=WF at *
 clear R Q J I K u0 u1 y1 l0 l1 l2
 have hb:WF.heap[w.heap.size+1]?=some (.cells #[.slice q g g,.int .i64 x.mask] 96 (0,0)):=(U.out.blk 1 rfl).1
 exact bodyPost_ret (v := .agg #[.slice q g g,.int .i64 x.mask]) (fE Tryz.results173 rfl hb Tryz.underlying96 (by kernel_rfl)) rfl ⟨q,rfl,U.out.tail.tail.tail.ownsL rfl,U.out.bel⟩
theorem EN:(Tryz.prog.info? 96).map (fun i=>(i.zero,i.size,i.bytes))=some (some (.agg #[.slice none 0 0,.int .i64 0]),2,32):=by kernel_rfl
theorem BK (A:Option Addr) (n c:Nat) (xs:List Lt) (w:World) (h:RdC w w.heap.size (bM xs) (.slice A n c)) (hz:szC (bM xs)<=1048576) :
  Calls Tryz.prog 90 #[.slice A n c] w fun e w'=>∃B,e = .returned (.slice B n n)/\gI w.heap.size w'.heap.size w' (bM xs) (.slice B n n)/\Below w.heap.size w w':=by
 obtain ⟨i0,hi,ad,ak,ae⟩:=info_parts EN
 have H:xs.length=n:=h.lutN'
 have HT:szC (bM xs)=n+af (xs.flatMap Lt.cells):=by unfold bM;rw [cK Lt.cells_length (by omega),H]
 have hn:n<=1048576:=by omega
 have HZ:Hid (af (xs.flatMap Lt.cells)<=1048576):=by show _<=_;omega
 have J:=fun W=>bv (P:=Tryz.prog) 39 96 i0 _ Tryz.underlying39 hi ad .i64 .i64 n n (Nat.le_refl _) (by rw [ae];omega) (by omega) W
 have G:∀z:Array Value,(madeCells z (n * i0.size)).size=n * 2:=fun z=>by rw [size_madeCells,ak]
 generalize ag:madeCells _ (n * i0.size)=cz at J
 have ai:cz.size=n * 2:=by rw [←ag];exact G _
 clear hi ad ak ae G ag HT hz
 obtain ⟨HX,HR⟩:=hd2 H h
 clear h H
 go_enter Tryz.func90,Tryz.ntmps90
 go_wp2_with fail
 go_loopw [4] (fun i wr=>∃(k:Nat) (vs:List Value),k<=n/\i = .int .i64 k/\fo wr w.heap.size 96 2 n k vs/\dh (w.heap.size+1) wr.heap.size wr ((xs.take k).flatMap Lt.cells) vs/\Below w.heap.size w wr/\w.heap.size<wr.heap.size) (fun i _=>n - (intOf i).toNat)
 ·exact ⟨0,[],Nat.zero_le _,rfl,fo.new ai,by simpa using dh.nil,aB (Below.refl _ _) _,by simp⟩
 obtain ⟨k,vs,hk,rfl,I,K,ah,ao⟩:=hrel
 obtain ⟨R,Y,q⟩:=hd3 I K ah
 clear I K ah J
 by_cases D:k<n
 ·have ay:=dT (by omega:k<n)
  have u:k<xs.length:=by rw [HX.out];exact D
  obtain ⟨b,o,S0,V,p0,rfl,hb,c0,c1,r0⟩:=HR.out.lut' (k:=k) u
  have aV:b<wr.heap.size:=by have:=q.out.size;omega
  obtain ⟨i0,i1⟩:=ib (by omega:k<n)
  rw [←q.out.cell (p:=⟨b,o+k * 2,none⟩) hb] at c0
  rw [←q.out.cell (p:=⟨b,o+k * 2+1,none⟩) hb] at c1
  have Q0:=Hd (r0.below q.out)
  clear r0
  have au:Hid (af (xs[k]?.getD Lt.zero).cells<=1048576):=by show _<=_;exact Nat.le_trans (jD u) HZ.out
  have ap:=Hd (kM (f:=Lt.cells) (getD_some Lt.zero u:xs[k]?=some (xs[k]?.getD Lt.zero)))
  clear u
  generalize xs[k]?.getD Lt.zero=x at *
  go_wp2_with fail
  refine (Db S0 V p0 x _ Q0.out au.out).mono ?_
  rintro e w2 ⟨B0,rfl,o2,Q⟩
  have ax:=Q.size
  have g:=Hd (R.out.tr Q)
  have aj:=Hd (Y.out.below Q)
  have Z:=Hd (aA q.out Q)
  have O2:=Hd o2
  have aR:=g.out.lt
  clear o2 Q c0 c1
  obtain ⟨u0,f0⟩:=g.out.cell D 0 (by omega)
  rw [Nat.add_zero] at f0
  obtain ⟨u1,f1⟩:=g.out.cell D 1 (by omega)
  have fz:=fun j=>g.out.frozen j
  go_wp2_with fail
  clear f0 f1 fz
  have HP:=Hd (g.out.put2 D (.slice B0 V V) (.int .i64 x.mask))
  have U:Chg w.heap.size (w.heap.size+1) w2 ((w2.setCell ⟨w.heap.size,k * 2,none⟩ (.slice B0 V V)).setCell ⟨w.heap.size,k * 2+1,none⟩ (.int .i64 x.mask)):=by
   repeat (first|exact Chg.refl _ _ _|refine Chg.set ?_ (Nat.le_refl _) (Nat.lt_succ_self _) _)
  have ar:=U.size
  have aq:=Hd (aj.out.chgZ U (.inr (Nat.le_refl _)))
  have aw:=Hd (O2.out.chgZ U (.inr (by omega)))
  have az:=Hd (kT Z.out U (Nat.le_refl _))
  generalize av:World.setCell _ _ _=WE at *
  clear av U
  go_roundw
  case rel =>
   refine ⟨k+1,_,by omega,by go_num,HP.out,?_,az.out,by omega⟩
   rw [ap.out]
   exact (aq.out.appZ aw.out (Nat.le_refl _) (by omega) ax).widen (Nat.le_refl _) ar
  simp [intOf];omega
 have am:k=n:=by omega
 subst am
 have ay:decide ((k:Int)<(k:Int))=false:=by simp
 go_wp2_with fail
 go_ret
 refine ⟨_,rfl,?_,q.out⟩
 have h:=Y.out
 rw [List.take_of_length_le (by rw [HX.out];exact Nat.le_refl _)] at h
 exact R.out.own (by unfold maxLen;omega) h ao
theorem Dc (D:Option Addr) (g B:Nat) (x:Sq) (w:World) (h0:RdC w w.heap.size (aH x.ins) (.slice D g B)) (hz:af x.cells<=1048576) :
  Calls Tryz.prog 172 #[.agg #[.int .i64 x.kind,.int .i64 x.init,.slice D g B]] w fun e w'=>∃q,e = .returned (.agg #[.int .i64 x.kind,.int .i64 x.init,.slice q g g])/\dh w.heap.size w'.heap.size w' x.cells [.int .i64 x.kind,.int .i64 x.init,.slice q g g]/\Below w.heap.size w w':=by
 have R0:=Hd h0
 have HS:af x.cells=szC (aH x.ins):=by unfold Sq.cells;simp only [au,bP,fM] <;> omega
 have Z2:Hid (szC (aH x.ins)<=1048576):=by show _<=_;omega
 have G:=Hd (jd w #[.int .i64 x.kind,.int .i64 x.init,.slice D g B] #[.int .i64 0,.int .i64 0,.slice none 0 0] #[.int .i64 0,.int .i64 0,.slice none 0 0] 182 91 91)
 have Z:w.heap.size≠w.heap.size+1+1:=by omega
 have ad:w.heap.size+1≠w.heap.size+1+1:=by omega
 have ae:w.heap.size≠w.heap.size+1:=by omega
 clear HS hz h0
 go_enter Tryz.func172,Tryz.ntmps172
 go_upto_region 2 with fail
 generalize ((w.alloc (.cells #[.int .i64 x.kind,.int .i64 x.init,.slice D g B] 182)).alloc (.cells #[.int .i64 0,.int .i64 0,.slice none 0 0] 91)).alloc (.cells #[.int .i64 0,.int .i64 0,.slice none 0 0] 91)=w0 at *
 have u:=(G.out.blk 0 rfl).1
 have z:=(G.out.blk 1 rfl).1
 have j:=(G.out.blk 2 rfl).1
 obtain ⟨V,R,K⟩:=cs3 u
 obtain ⟨J,I,U⟩:=cs3 j
 have Q:=fun k=>aX j k
 have l0:=aC u
 have l1:=aC z
 have l2:=aC j
 clear u z j
 have Q1:Hid (aJ w ((w0.setCell ⟨w.heap.size+1+1,0,none⟩ (.int .i64 x.kind)).setCell ⟨w.heap.size+1+1,1,none⟩ (.int .i64 x.init)) [.blk w.heap.size #[.int .i64 x.kind,.int .i64 x.init,.slice D g B] 182,.blk (w.heap.size+1) #[.int .i64 0,.int .i64 0,.slice none 0 0] 91,.blk (w.heap.size+1+1) #[.int .i64 x.kind,.int .i64 x.init,.slice none 0 0] 91,.cel (.int x.kind) (.int .i64 x.kind),.cel (.int x.init) (.int .i64 x.init)]):=((((G.out.put 2 rfl 0 (.int .i64 x.kind)).pushInt x.kind).put 2 rfl 1 (.int .i64 x.init)).pushInt x.init)
 go_wp2_with fail
 refine (pO D g B x.ins _ (R0.out.below Q1.out.bel) Z2.out).mono ?_
 rintro _ W ⟨q,rfl,o1,b1⟩
 have H:Hid (aJ w (W) [.blk w.heap.size #[.int .i64 x.kind,.int .i64 x.init,.slice D g B] 182,.blk (w.heap.size+1) #[.int .i64 0,.int .i64 0,.slice none 0 0] 91,.blk (w.heap.size+1+1) #[.int .i64 x.kind,.int .i64 x.init,.slice none 0 0] 91,.cel (.int x.kind) (.int .i64 x.kind),.cel (.int x.init) (.int .i64 x.init),.cel (aH x.ins) (.slice q g g)]):=(Q1.out.pushT b1 o1)
 clear o1 b1 V R K J I U Q l0 l1 l2
 have u:=(H.out.blk 0 rfl).1
 have z:=(H.out.blk 1 rfl).1
 have j:=(H.out.blk 2 rfl).1
 obtain ⟨V,R,K⟩:=cs3 u
 obtain ⟨J,I,U⟩:=cs3 j
 have Q:=fun k=>aX j k
 obtain ⟨u0,u1,u2⟩:=cs3 z
 have y1:=fun k=>aX z k
 have l0:=aC u
 have l1:=aC z
 have l2:=aC j
 clear u z j
 have Y:Hid (aJ w ((((W.setCell ⟨w.heap.size+1+1,2,none⟩ (.slice q g g)).setCell ⟨w.heap.size+1,0,none⟩ (.int .i64 x.kind)).setCell ⟨w.heap.size+1,1,none⟩ (.int .i64 x.init)).setCell ⟨w.heap.size+1,2,none⟩ (.slice q g g)) [.blk w.heap.size #[.int .i64 x.kind,.int .i64 x.init,.slice D g B] 182,.blk (w.heap.size+1) #[.int .i64 x.kind,.int .i64 x.init,.slice q g g] 91,.blk (w.heap.size+1+1) #[.int .i64 x.kind,.int .i64 x.init,.slice q g g] 91,.cel (.int x.kind) (.int .i64 x.kind),.cel (.int x.init) (.int .i64 x.init),.cel (aH x.ins) (.slice q g g)]):=((((H.out.put 2 rfl 2 (.slice q g g)).put 1 rfl 0 (.int .i64 x.kind)).put 1 rfl 1 (.int .i64 x.init)).put 1 rfl 2 (.slice q g g))
 go_wp2_with fail
 generalize (((W.setCell ⟨w.heap.size+1+1,2,none⟩ (.slice q g g)).setCell ⟨w.heap.size+1,0,none⟩ (.int .i64 x.kind)).setCell ⟨w.heap.size+1,1,none⟩ (.int .i64 x.init)).setCell ⟨w.heap.size+1,2,none⟩ (.slice q g g)=WF at *
 clear V R K J I U Q u0 u1 u2 y1 l0 l1 l2
 have hb:WF.heap[w.heap.size+1]?=some (.cells #[.int .i64 x.kind,.int .i64 x.init,.slice q g g] 91 (0,0)):=(Y.out.blk 1 rfl).1
 exact bodyPost_ret (v := .agg #[.int .i64 x.kind,.int .i64 x.init,.slice q g g]) (fE Tryz.results172 rfl hb Tryz.underlying91 (by kernel_rfl)) rfl ⟨q,rfl,Y.out.tail.tail.tail.ownsL rfl,Y.out.bel⟩
theorem EO:(Tryz.prog.info? 91).map (fun i=>(i.zero,i.size,i.bytes))=some (some (.agg #[.int .i64 0,.int .i64 0,.slice none 0 0]),3,40):=by kernel_rfl
theorem BL (A:Option Addr) (n c:Nat) (xs:List Sq) (w:World) (h:RdC w w.heap.size (bD xs) (.slice A n c)) (hz:szC (bD xs)<=1048576) :
  Calls Tryz.prog 89 #[.slice A n c] w fun e w'=>∃B,e = .returned (.slice B n n)/\gI w.heap.size w'.heap.size w' (bD xs) (.slice B n n)/\Below w.heap.size w w':=by
 obtain ⟨i0,hi,ad,ak,ae⟩:=info_parts EO
 have H:xs.length=n:=h.sqN'
 have HT:szC (bD xs)=n+af (xs.flatMap Sq.cells):=by unfold bD;rw [cK Sq.cells_length (by omega),H]
 have hn:n<=1048576:=by omega
 have HZ:Hid (af (xs.flatMap Sq.cells)<=1048576):=by show _<=_;omega
 have J:=fun W=>bv (P:=Tryz.prog) 38 91 i0 _ Tryz.underlying38 hi ad .i64 .i64 n n (Nat.le_refl _) (by rw [ae];omega) (by omega) W
 have G:∀z:Array Value,(madeCells z (n * i0.size)).size=n * 3:=fun z=>by rw [size_madeCells,ak]
 generalize ag:madeCells _ (n * i0.size)=cz at J
 have ai:cz.size=n * 3:=by rw [←ag];exact G _
 clear hi ad ak ae G ag HT hz
 obtain ⟨HX,HR⟩:=hd2 H h
 clear h H
 go_enter Tryz.func89,Tryz.ntmps89
 go_wp2_with fail
 go_loopw [4] (fun i wr=>∃(k:Nat) (vs:List Value),k<=n/\i = .int .i64 k/\fo wr w.heap.size 91 3 n k vs/\dh (w.heap.size+1) wr.heap.size wr ((xs.take k).flatMap Sq.cells) vs/\Below w.heap.size w wr/\w.heap.size<wr.heap.size) (fun i _=>n - (intOf i).toNat)
 ·exact ⟨0,[],Nat.zero_le _,rfl,fo.new ai,by simpa using dh.nil,aB (Below.refl _ _) _,by simp⟩
 obtain ⟨k,vs,hk,rfl,I,K,ah,ao⟩:=hrel
 obtain ⟨R,Y,q⟩:=hd3 I K ah
 clear I K ah J
 by_cases u:k<n
 ·have ay:=dT (by omega:k<n)
  have D:k<xs.length:=by rw [HX.out];exact u
  obtain ⟨b,o,S0,V,p0,rfl,hb,c0,c1,c2,r0⟩:=HR.out.sq' (k:=k) D
  have aV:b<wr.heap.size:=by have:=q.out.size;omega
  obtain ⟨i0,i1⟩:=ib (by omega:k<n)
  rw [←q.out.cell (p:=⟨b,o+k * 3,none⟩) hb] at c0
  rw [←q.out.cell (p:=⟨b,o+k * 3+1,none⟩) hb] at c1
  rw [←q.out.cell (p:=⟨b,o+k * 3+2,none⟩) hb] at c2
  have Q0:=Hd (r0.below q.out)
  clear r0
  have au:Hid (af (xs[k]?.getD Sq.zero).cells<=1048576):=by show _<=_;exact Nat.le_trans (jD D) HZ.out
  have ap:=Hd (kM (f:=Sq.cells) (getD_some Sq.zero D:xs[k]?=some (xs[k]?.getD Sq.zero)))
  clear D
  generalize xs[k]?.getD Sq.zero=x at *
  go_wp2_with fail
  refine (Dc S0 V p0 x _ Q0.out au.out).mono ?_
  rintro e w2 ⟨B0,rfl,o2,Q⟩
  have ax:=Q.size
  have g:=Hd (R.out.tr Q)
  have aj:=Hd (Y.out.below Q)
  have Z:=Hd (aA q.out Q)
  have O2:=Hd o2
  have aR:=g.out.lt
  clear o2 Q c0 c1 c2
  obtain ⟨u0,f0⟩:=g.out.cell u 0 (by omega)
  rw [Nat.add_zero] at f0
  obtain ⟨u1,f1⟩:=g.out.cell u 1 (by omega)
  obtain ⟨u2,f2⟩:=g.out.cell u 2 (by omega)
  have fz:=fun j=>g.out.frozen j
  go_wp2_with fail
  clear f0 f1 f2 fz
  have HP:=Hd (g.out.put3 u (.int .i64 x.kind) (.int .i64 x.init) (.slice B0 V V))
  have U:Chg w.heap.size (w.heap.size+1) w2 (((w2.setCell ⟨w.heap.size,k * 3,none⟩ (.int .i64 x.kind)).setCell ⟨w.heap.size,k * 3+1,none⟩ (.int .i64 x.init)).setCell ⟨w.heap.size,k * 3+2,none⟩ (.slice B0 V V)):=by
   repeat (first|exact Chg.refl _ _ _|refine Chg.set ?_ (Nat.le_refl _) (Nat.lt_succ_self _) _)
  have ar:=U.size
  have aq:=Hd (aj.out.chgZ U (.inr (Nat.le_refl _)))
  have aw:=Hd (O2.out.chgZ U (.inr (by omega)))
  have az:=Hd (kT Z.out U (Nat.le_refl _))
  generalize av:World.setCell _ _ _=WE at *
  clear av U
  go_roundw
  case rel =>
   refine ⟨k+1,_,by omega,by go_num,HP.out,?_,az.out,by omega⟩
   rw [ap.out]
   exact (aq.out.appZ aw.out (Nat.le_refl _) (by omega) ax).widen (Nat.le_refl _) ar
  simp [intOf];omega
 have am:k=n:=by omega
 subst am
 have ay:decide ((k:Int)<(k:Int))=false:=by simp
 go_wp2_with fail
 go_ret
 refine ⟨_,rfl,?_,q.out⟩
 have h:=Y.out
 rw [List.take_of_length_le (by rw [HX.out];exact Nat.le_refl _)] at h
 exact R.out.own (by unfold maxLen;omega) h ao
theorem yA (H A1 A2:Option Addr) (g G n1 c1 n2 c2:Nat) (x:ag) (w:World) (h0:RdC w w.heap.size (bD x.seqs) (.slice H g G)) (h1:RdC w w.heap.size (bM x.luts) (.slice A1 n1 c1)) (h2:RdC w w.heap.size (aH x.outs) (.slice A2 n2 c2)) (hz:af x.cells<=1048576) :
  Calls Tryz.prog 26 #[.agg #[.int .i64 x.inputs,.slice H g G,.slice A1 n1 c1,.slice A2 n2 c2]] w fun e w'=>∃z B D,e = .returned (.agg #[.int .i64 x.inputs,.slice z g g,.slice B n1 n1,.slice D n2 n2])/\dh w.heap.size w'.heap.size w' x.cells [.int .i64 x.inputs,.slice z g g,.slice B n1 n1,.slice D n2 n2]/\Below w.heap.size w w':=by
 obtain ⟨R0,R1,R2⟩:=hd3 h0 h1 h2
 have HS:af x.cells=szC (bD x.seqs)+szC (bM x.luts)+szC (aH x.outs):=by unfold ag.cells;simp only [au,bP,fM] <;> omega
 have Z1:Hid (szC (bD x.seqs)<=1048576):=by show _<=_;omega
 have Z2:Hid (szC (bM x.luts)<=1048576):=by show _<=_;omega
 have Z3:Hid (szC (aH x.outs)<=1048576):=by show _<=_;omega
 have S0:=Hd (jd w #[.int .i64 x.inputs,.slice H g G,.slice A1 n1 c1,.slice A2 n2 c2] #[.int .i64 0,.slice none 0 0,.slice none 0 0,.slice none 0 0] #[.int .i64 0,.slice none 0 0,.slice none 0 0,.slice none 0 0] 28 41 41)
 have ak:w.heap.size≠w.heap.size+1+1:=by omega
 have am:w.heap.size+1≠w.heap.size+1+1:=by omega
 have ao:w.heap.size≠w.heap.size+1:=by omega
 clear HS hz h0 h1 h2
 go_enter Tryz.func26,Tryz.ntmps26
 go_upto_region 2 with fail
 generalize ((w.alloc (.cells #[.int .i64 x.inputs,.slice H g G,.slice A1 n1 c1,.slice A2 n2 c2] 28)).alloc (.cells #[.int .i64 0,.slice none 0 0,.slice none 0 0,.slice none 0 0] 41)).alloc (.cells #[.int .i64 0,.slice none 0 0,.slice none 0 0,.slice none 0 0] 41)=w0 at *
 have q:=(S0.out.blk 0 rfl).1
 have u:=(S0.out.blk 1 rfl).1
 have j:=(S0.out.blk 2 rfl).1
 obtain ⟨Y,R,K,U⟩:=cs4 q
 obtain ⟨J,I,V,W⟩:=cs4 j
 have Q:=fun k=>aX j k
 have l0:=aC q
 have l1:=aC u
 have l2:=aC j
 clear q u j
 have Q1:Hid (aJ w (w0.setCell ⟨w.heap.size+1+1,0,none⟩ (.int .i64 x.inputs)) [.blk w.heap.size #[.int .i64 x.inputs,.slice H g G,.slice A1 n1 c1,.slice A2 n2 c2] 28,.blk (w.heap.size+1) #[.int .i64 0,.slice none 0 0,.slice none 0 0,.slice none 0 0] 41,.blk (w.heap.size+1+1) #[.int .i64 x.inputs,.slice none 0 0,.slice none 0 0,.slice none 0 0] 41,.cel (.int x.inputs) (.int .i64 x.inputs)]):=((S0.out.put 2 rfl 0 (.int .i64 x.inputs)).pushInt x.inputs)
 go_wp2_with fail
 refine (BL H g G x.seqs _ (R0.out.below Q1.out.bel) Z1.out).mono ?_
 rintro _ w1 ⟨z,rfl,o1,b1⟩
 have Q2:Hid (aJ w (w1) [.blk w.heap.size #[.int .i64 x.inputs,.slice H g G,.slice A1 n1 c1,.slice A2 n2 c2] 28,.blk (w.heap.size+1) #[.int .i64 0,.slice none 0 0,.slice none 0 0,.slice none 0 0] 41,.blk (w.heap.size+1+1) #[.int .i64 x.inputs,.slice none 0 0,.slice none 0 0,.slice none 0 0] 41,.cel (.int x.inputs) (.int .i64 x.inputs),.cel (bD x.seqs) (.slice z g g)]):=(Q1.out.pushT b1 o1)
 clear o1 b1 Y R K U J I V W Q l0 l1 l2
 have q:=(Q2.out.blk 0 rfl).1
 have u:=(Q2.out.blk 1 rfl).1
 have j:=(Q2.out.blk 2 rfl).1
 obtain ⟨Y,R,K,U⟩:=cs4 q
 obtain ⟨J,I,V,W⟩:=cs4 j
 have Q:=fun k=>aX j k
 have l0:=aC q
 have l1:=aC u
 have l2:=aC j
 clear q u j
 have Q3:Hid (aJ w (w1.setCell ⟨w.heap.size+1+1,1,none⟩ (.slice z g g)) [.blk w.heap.size #[.int .i64 x.inputs,.slice H g G,.slice A1 n1 c1,.slice A2 n2 c2] 28,.blk (w.heap.size+1) #[.int .i64 0,.slice none 0 0,.slice none 0 0,.slice none 0 0] 41,.blk (w.heap.size+1+1) #[.int .i64 x.inputs,.slice z g g,.slice none 0 0,.slice none 0 0] 41,.cel (.int x.inputs) (.int .i64 x.inputs),.cel (bD x.seqs) (.slice z g g)]):=(Q2.out.put 2 rfl 1 (.slice z g g))
 go_wp2_with fail
 refine (BK A1 n1 c1 x.luts _ (R1.out.below Q3.out.bel) Z2.out).mono ?_
 rintro _ w2 ⟨B,rfl,o2,b2⟩
 have Q4:Hid (aJ w (w2) [.blk w.heap.size #[.int .i64 x.inputs,.slice H g G,.slice A1 n1 c1,.slice A2 n2 c2] 28,.blk (w.heap.size+1) #[.int .i64 0,.slice none 0 0,.slice none 0 0,.slice none 0 0] 41,.blk (w.heap.size+1+1) #[.int .i64 x.inputs,.slice z g g,.slice none 0 0,.slice none 0 0] 41,.cel (.int x.inputs) (.int .i64 x.inputs),.cel (bD x.seqs) (.slice z g g),.cel (bM x.luts) (.slice B n1 n1)]):=(Q3.out.pushT b2 o2)
 clear o2 b2 Y R K U J I V W Q l0 l1 l2
 have q:=(Q4.out.blk 0 rfl).1
 have u:=(Q4.out.blk 1 rfl).1
 have j:=(Q4.out.blk 2 rfl).1
 obtain ⟨Y,R,K,U⟩:=cs4 q
 obtain ⟨J,I,V,W⟩:=cs4 j
 have Q:=fun k=>aX j k
 have l0:=aC q
 have l1:=aC u
 have l2:=aC j
 clear q u j
 have Q5:Hid (aJ w (w2.setCell ⟨w.heap.size+1+1,2,none⟩ (.slice B n1 n1)) [.blk w.heap.size #[.int .i64 x.inputs,.slice H g G,.slice A1 n1 c1,.slice A2 n2 c2] 28,.blk (w.heap.size+1) #[.int .i64 0,.slice none 0 0,.slice none 0 0,.slice none 0 0] 41,.blk (w.heap.size+1+1) #[.int .i64 x.inputs,.slice z g g,.slice B n1 n1,.slice none 0 0] 41,.cel (.int x.inputs) (.int .i64 x.inputs),.cel (bD x.seqs) (.slice z g g),.cel (bM x.luts) (.slice B n1 n1)]):=(Q4.out.put 2 rfl 2 (.slice B n1 n1))
 go_wp2_with fail
 refine (pO A2 n2 c2 x.outs _ (R2.out.below Q5.out.bel) Z3.out).mono ?_
 rintro _ w3 ⟨D,rfl,o3,b3⟩
 have Z:Hid (aJ w (w3) [.blk w.heap.size #[.int .i64 x.inputs,.slice H g G,.slice A1 n1 c1,.slice A2 n2 c2] 28,.blk (w.heap.size+1) #[.int .i64 0,.slice none 0 0,.slice none 0 0,.slice none 0 0] 41,.blk (w.heap.size+1+1) #[.int .i64 x.inputs,.slice z g g,.slice B n1 n1,.slice none 0 0] 41,.cel (.int x.inputs) (.int .i64 x.inputs),.cel (bD x.seqs) (.slice z g g),.cel (bM x.luts) (.slice B n1 n1),.cel (aH x.outs) (.slice D n2 n2)]):=(Q5.out.pushT b3 o3)
 clear o3 b3 Y R K U J I V W Q l0 l1 l2
 have q:=(Z.out.blk 0 rfl).1
 have u:=(Z.out.blk 1 rfl).1
 have j:=(Z.out.blk 2 rfl).1
 obtain ⟨Y,R,K,U⟩:=cs4 q
 obtain ⟨J,I,V,W⟩:=cs4 j
 have Q:=fun k=>aX j k
 obtain ⟨u0,u1,u2,u3⟩:=cs4 u
 have y1:=fun k=>aX u k
 have l0:=aC q
 have l1:=aC u
 have l2:=aC j
 clear q u j
 have Q7:Hid (aJ w (((((w3.setCell ⟨w.heap.size+1+1,3,none⟩ (.slice D n2 n2)).setCell ⟨w.heap.size+1,0,none⟩ (.int .i64 x.inputs)).setCell ⟨w.heap.size+1,1,none⟩ (.slice z g g)).setCell ⟨w.heap.size+1,2,none⟩ (.slice B n1 n1)).setCell ⟨w.heap.size+1,3,none⟩ (.slice D n2 n2)) [.blk w.heap.size #[.int .i64 x.inputs,.slice H g G,.slice A1 n1 c1,.slice A2 n2 c2] 28,.blk (w.heap.size+1) #[.int .i64 x.inputs,.slice z g g,.slice B n1 n1,.slice D n2 n2] 41,.blk (w.heap.size+1+1) #[.int .i64 x.inputs,.slice z g g,.slice B n1 n1,.slice D n2 n2] 41,.cel (.int x.inputs) (.int .i64 x.inputs),.cel (bD x.seqs) (.slice z g g),.cel (bM x.luts) (.slice B n1 n1),.cel (aH x.outs) (.slice D n2 n2)]):=(((((Z.out.put 2 rfl 3 (.slice D n2 n2)).put 1 rfl 0 (.int .i64 x.inputs)).put 1 rfl 1 (.slice z g g)).put 1 rfl 2 (.slice B n1 n1)).put 1 rfl 3 (.slice D n2 n2))
 go_wp2_with fail
 generalize ((((w3.setCell ⟨w.heap.size+1+1,3,none⟩ (.slice D n2 n2)).setCell ⟨w.heap.size+1,0,none⟩ (.int .i64 x.inputs)).setCell ⟨w.heap.size+1,1,none⟩ (.slice z g g)).setCell ⟨w.heap.size+1,2,none⟩ (.slice B n1 n1)).setCell ⟨w.heap.size+1,3,none⟩ (.slice D n2 n2)=WF at *
 clear Y R K U J I V W Q u0 u1 u2 u3 y1 l0 l1 l2
 have hb:WF.heap[w.heap.size+1]?=some (.cells #[.int .i64 x.inputs,.slice z g g,.slice B n1 n1,.slice D n2 n2] 41 (0,0)):=(Q7.out.blk 1 rfl).1
 exact bodyPost_ret (v := .agg #[.int .i64 x.inputs,.slice z g g,.slice B n1 n1,.slice D n2 n2]) (fE Tryz.results26 rfl hb Tryz.underlying41 (by kernel_rfl)) rfl ⟨z,B,D,rfl,Q7.out.tail.tail.tail.ownsL rfl,Q7.out.bel⟩
theorem EP (x:LeT) (w:World) :
  Calls Tryz.prog 256 #[.agg #[.int .i64 x.lut,.int .i64 x.ff]] w fun e w'=>e = .returned (.agg #[.int .i64 x.lut,.int .i64 x.ff])/\dh w.heap.size w'.heap.size w' x.cells [.int .i64 x.lut,.int .i64 x.ff]/\Below w.heap.size w w':=by
 go_enter Tryz.func256,Tryz.ntmps256
 go_wp2_with fail
 refine bodyPost_ret (v := .agg #[.int .i64 x.lut,.int .i64 x.ff]) (by simp [results,Tryz.results256,go_sem]) rfl ⟨rfl,?_,aB (aB (aB (Below.refl _ _) _) _) _⟩
 exact ⟨[],bK.2 ⟨_,_,[],[],rfl,rfl,ed.2 ⟨rfl,rfl⟩,bK.2 ⟨_,_,[],[],rfl,rfl,ed.2 ⟨rfl,rfl⟩,ek.2 ⟨rfl,rfl⟩⟩⟩,by simp,by simp⟩
theorem FJ:(Tryz.prog.info? 94).map (fun i=>(i.zero,i.size,i.bytes))=some (some (.agg #[.int .i64 0,.int .i64 0]),2,16):=by kernel_rfl
theorem Df (A:Option Addr) (n c:Nat) (xs:List LeT) (w:World) (h:RdC w w.heap.size (cZ xs) (.slice A n c)) (hz:szC (cZ xs)<=1048576) :
  Calls Tryz.prog 210 #[.slice A n c] w fun e w'=>∃B,e = .returned (.slice B n n)/\gI w.heap.size w'.heap.size w' (cZ xs) (.slice B n n)/\Below w.heap.size w w':=by
 obtain ⟨i0,hi,Z,aj,ad⟩:=info_parts FJ
 have G:xs.length=n:=h.esN
 have HT:szC (cZ xs)=n+af (xs.flatMap LeT.cells):=by unfold cZ;rw [cK LeT.cells_length (by omega),G]
 have hn:n<=1048576:=by omega
 have HZ:Hid (af (xs.flatMap LeT.cells)<=1048576):=by show _<=_;omega
 have J:=fun W=>bv (P:=Tryz.prog) 87 94 i0 _ Tryz.underlying87 hi Z .i64 .i64 n n (Nat.le_refl _) (by rw [ad];omega) (by omega) W
 have D:∀z:Array Value,(madeCells z (n * i0.size)).size=n * 2:=fun z=>by rw [size_madeCells,aj]
 generalize ae:madeCells _ (n * i0.size)=cz at J
 have ah:cz.size=n * 2:=by rw [←ae];exact D _
 clear hi Z aj ad D ae HT hz
 obtain ⟨HX,HR⟩:=hd2 G h
 clear h G
 go_enter Tryz.func210,Tryz.ntmps210
 go_wp2_with fail
 go_loopw [4] (fun i wr=>∃(k:Nat) (vs:List Value),k<=n/\i = .int .i64 k/\fo wr w.heap.size 94 2 n k vs/\dh (w.heap.size+1) wr.heap.size wr ((xs.take k).flatMap LeT.cells) vs/\Below w.heap.size w wr/\w.heap.size<wr.heap.size) (fun i _=>n - (intOf i).toNat)
 ·exact ⟨0,[],Nat.zero_le _,rfl,fo.new ah,by simpa using dh.nil,aB (Below.refl _ _) _,by simp⟩
 obtain ⟨k,vs,hk,rfl,I,K,ag,am⟩:=hrel
 obtain ⟨R,V,q⟩:=hd3 I K ag
 clear I K ag J
 by_cases u:k<n
 ·have aw:=dT (by omega:k<n)
  have H:k<xs.length:=by rw [HX.out];exact u
  obtain ⟨b,o,rfl,hb,c0,c1⟩:=HR.out.es (k:=k) H
  have aO:b<wr.heap.size:=by have:=q.out.size;omega
  obtain ⟨i0,i1⟩:=ib (by omega:k<n)
  rw [←q.out.cell (p:=⟨b,o+k * 2,none⟩) hb] at c0
  rw [←q.out.cell (p:=⟨b,o+k * 2+1,none⟩) hb] at c1
  skip
  clear HZ
  have ao:=Hd (kM (f:=LeT.cells) (getD_some LeT.zero H:xs[k]?=some (xs[k]?.getD LeT.zero)))
  clear H
  generalize xs[k]?.getD LeT.zero=x at *
  go_wp2_with fail
  refine (EP x _).mono ?_
  rintro e w2 ⟨rfl,o2,Q⟩
  have av:=Q.size
  have g:=Hd (R.out.tr Q)
  have ai:=Hd (V.out.below Q)
  have Y:=Hd (aA q.out Q)
  have O2:=Hd o2
  have aK:=g.out.lt
  clear o2 Q c0 c1
  obtain ⟨u0,f0⟩:=g.out.cell u 0 (by omega)
  rw [Nat.add_zero] at f0
  obtain ⟨u1,f1⟩:=g.out.cell u 1 (by omega)
  have fz:=fun j=>g.out.frozen j
  go_wp2_with fail
  clear f0 f1 fz
  have HP:=Hd (g.out.put2 u (.int .i64 x.lut) (.int .i64 x.ff))
  have U:Chg w.heap.size (w.heap.size+1) w2 ((w2.setCell ⟨w.heap.size,k * 2,none⟩ (.int .i64 x.lut)).setCell ⟨w.heap.size,k * 2+1,none⟩ (.int .i64 x.ff)):=by
   repeat (first|exact Chg.refl _ _ _|refine Chg.set ?_ (Nat.le_refl _) (Nat.lt_succ_self _) _)
  have aq:=U.size
  have ap:=Hd (ai.out.chgZ U (.inr (Nat.le_refl _)))
  have au:=Hd (O2.out.chgZ U (.inr (by omega)))
  have ax:=Hd (kT Y.out U (Nat.le_refl _))
  generalize ar:World.setCell _ _ _=WE at *
  clear ar U
  go_roundw
  case rel =>
   refine ⟨k+1,_,by omega,by go_num,HP.out,?_,ax.out,by omega⟩
   rw [ao.out]
   exact (ap.out.appZ au.out (Nat.le_refl _) (by omega) av).widen (Nat.le_refl _) aq
  simp [intOf];omega
 have al:k=n:=by omega
 subst al
 have aw:decide ((k:Int)<(k:Int))=false:=by simp
 go_wp2_with fail
 go_ret
 refine ⟨_,rfl,?_,q.out⟩
 have h:=V.out
 rw [List.take_of_length_le (by rw [HX.out];exact Nat.le_refl _)] at h
 exact R.out.own (by unfold maxLen;omega) h am
theorem zh (D:Option Addr) (g B:Nat) (x:Blk) (w:World) (h0:RdC w w.heap.size (cZ x.les) (.slice D g B)) (hz:af x.cells<=1048576) :
  Calls Tryz.prog 120 #[.agg #[.int .i64 x.kind,.int .i64 x.item,.slice D g B]] w fun e w'=>∃q,e = .returned (.agg #[.int .i64 x.kind,.int .i64 x.item,.slice q g g])/\dh w.heap.size w'.heap.size w' x.cells [.int .i64 x.kind,.int .i64 x.item,.slice q g g]/\Below w.heap.size w w':=by
 have R0:=Hd h0
 have HS:af x.cells=szC (cZ x.les):=by unfold Blk.cells;simp only [au,bP,fM] <;> omega
 have Z2:Hid (szC (cZ x.les)<=1048576):=by show _<=_;omega
 have G:=Hd (jd w #[.int .i64 x.kind,.int .i64 x.item,.slice D g B] #[.int .i64 0,.int .i64 0,.slice none 0 0] #[.int .i64 0,.int .i64 0,.slice none 0 0] 147 89 89)
 have Z:w.heap.size≠w.heap.size+1+1:=by omega
 have ad:w.heap.size+1≠w.heap.size+1+1:=by omega
 have ae:w.heap.size≠w.heap.size+1:=by omega
 clear HS hz h0
 go_enter Tryz.func120,Tryz.ntmps120
 go_upto_region 2 with fail
 generalize ((w.alloc (.cells #[.int .i64 x.kind,.int .i64 x.item,.slice D g B] 147)).alloc (.cells #[.int .i64 0,.int .i64 0,.slice none 0 0] 89)).alloc (.cells #[.int .i64 0,.int .i64 0,.slice none 0 0] 89)=w0 at *
 have u:=(G.out.blk 0 rfl).1
 have z:=(G.out.blk 1 rfl).1
 have j:=(G.out.blk 2 rfl).1
 obtain ⟨V,R,K⟩:=cs3 u
 obtain ⟨J,I,U⟩:=cs3 j
 have Q:=fun k=>aX j k
 have l0:=aC u
 have l1:=aC z
 have l2:=aC j
 clear u z j
 have Q1:Hid (aJ w ((w0.setCell ⟨w.heap.size+1+1,0,none⟩ (.int .i64 x.kind)).setCell ⟨w.heap.size+1+1,1,none⟩ (.int .i64 x.item)) [.blk w.heap.size #[.int .i64 x.kind,.int .i64 x.item,.slice D g B] 147,.blk (w.heap.size+1) #[.int .i64 0,.int .i64 0,.slice none 0 0] 89,.blk (w.heap.size+1+1) #[.int .i64 x.kind,.int .i64 x.item,.slice none 0 0] 89,.cel (.int x.kind) (.int .i64 x.kind),.cel (.int x.item) (.int .i64 x.item)]):=((((G.out.put 2 rfl 0 (.int .i64 x.kind)).pushInt x.kind).put 2 rfl 1 (.int .i64 x.item)).pushInt x.item)
 go_wp2_with fail
 refine (Df D g B x.les _ (R0.out.below Q1.out.bel) Z2.out).mono ?_
 rintro _ W ⟨q,rfl,o1,b1⟩
 have H:Hid (aJ w (W) [.blk w.heap.size #[.int .i64 x.kind,.int .i64 x.item,.slice D g B] 147,.blk (w.heap.size+1) #[.int .i64 0,.int .i64 0,.slice none 0 0] 89,.blk (w.heap.size+1+1) #[.int .i64 x.kind,.int .i64 x.item,.slice none 0 0] 89,.cel (.int x.kind) (.int .i64 x.kind),.cel (.int x.item) (.int .i64 x.item),.cel (cZ x.les) (.slice q g g)]):=(Q1.out.pushT b1 o1)
 clear o1 b1 V R K J I U Q l0 l1 l2
 have u:=(H.out.blk 0 rfl).1
 have z:=(H.out.blk 1 rfl).1
 have j:=(H.out.blk 2 rfl).1
 obtain ⟨V,R,K⟩:=cs3 u
 obtain ⟨J,I,U⟩:=cs3 j
 have Q:=fun k=>aX j k
 obtain ⟨u0,u1,u2⟩:=cs3 z
 have y1:=fun k=>aX z k
 have l0:=aC u
 have l1:=aC z
 have l2:=aC j
 clear u z j
 have Y:Hid (aJ w ((((W.setCell ⟨w.heap.size+1+1,2,none⟩ (.slice q g g)).setCell ⟨w.heap.size+1,0,none⟩ (.int .i64 x.kind)).setCell ⟨w.heap.size+1,1,none⟩ (.int .i64 x.item)).setCell ⟨w.heap.size+1,2,none⟩ (.slice q g g)) [.blk w.heap.size #[.int .i64 x.kind,.int .i64 x.item,.slice D g B] 147,.blk (w.heap.size+1) #[.int .i64 x.kind,.int .i64 x.item,.slice q g g] 89,.blk (w.heap.size+1+1) #[.int .i64 x.kind,.int .i64 x.item,.slice q g g] 89,.cel (.int x.kind) (.int .i64 x.kind),.cel (.int x.item) (.int .i64 x.item),.cel (cZ x.les) (.slice q g g)]):=((((H.out.put 2 rfl 2 (.slice q g g)).put 1 rfl 0 (.int .i64 x.kind)).put 1 rfl 1 (.int .i64 x.item)).put 1 rfl 2 (.slice q g g))
 go_wp2_with fail
 generalize (((W.setCell ⟨w.heap.size+1+1,2,none⟩ (.slice q g g)).setCell ⟨w.heap.size+1,0,none⟩ (.int .i64 x.kind)).setCell ⟨w.heap.size+1,1,none⟩ (.int .i64 x.item)).setCell ⟨w.heap.size+1,2,none⟩ (.slice q g g)=WF at *
 clear V R K J I U Q u0 u1 u2 y1 l0 l1 l2
 have hb:WF.heap[w.heap.size+1]?=some (.cells #[.int .i64 x.kind,.int .i64 x.item,.slice q g g] 89 (0,0)):=(Y.out.blk 1 rfl).1
 exact bodyPost_ret (v := .agg #[.int .i64 x.kind,.int .i64 x.item,.slice q g g]) (fE Tryz.results120 rfl hb Tryz.underlying89 (by kernel_rfl)) rfl ⟨q,rfl,Y.out.tail.tail.tail.ownsL rfl,Y.out.bel⟩
theorem BM:(Tryz.prog.info? 89).map (fun i=>(i.zero,i.size,i.bytes))=some (some (.agg #[.int .i64 0,.int .i64 0,.slice none 0 0]),3,40):=by kernel_rfl
theorem yB (A:Option Addr) (n c:Nat) (xs:List Blk) (w:World) (h:RdC w w.heap.size (aa xs) (.slice A n c)) (hz:szC (aa xs)<=1048576) :
  Calls Tryz.prog 41 #[.slice A n c] w fun e w'=>∃B,e = .returned (.slice B n n)/\gI w.heap.size w'.heap.size w' (aa xs) (.slice B n n)/\Below w.heap.size w w':=by
 obtain ⟨i0,hi,ad,ak,ae⟩:=info_parts BM
 have H:xs.length=n:=h.blkN
 have HT:szC (aa xs)=n+af (xs.flatMap Blk.cells):=by unfold aa;rw [cK Blk.cells_length (by omega),H]
 have hn:n<=1048576:=by omega
 have HZ:Hid (af (xs.flatMap Blk.cells)<=1048576):=by show _<=_;omega
 have J:=fun W=>bv (P:=Tryz.prog) 42 89 i0 _ Tryz.underlying42 hi ad .i64 .i64 n n (Nat.le_refl _) (by rw [ae];omega) (by omega) W
 have G:∀z:Array Value,(madeCells z (n * i0.size)).size=n * 3:=fun z=>by rw [size_madeCells,ak]
 generalize ag:madeCells _ (n * i0.size)=cz at J
 have ai:cz.size=n * 3:=by rw [←ag];exact G _
 clear hi ad ak ae G ag HT hz
 obtain ⟨HX,HR⟩:=hd2 H h
 clear h H
 go_enter Tryz.func41,Tryz.ntmps41
 go_wp2_with fail
 go_loopw [4] (fun i wr=>∃(k:Nat) (vs:List Value),k<=n/\i = .int .i64 k/\fo wr w.heap.size 89 3 n k vs/\dh (w.heap.size+1) wr.heap.size wr ((xs.take k).flatMap Blk.cells) vs/\Below w.heap.size w wr/\w.heap.size<wr.heap.size) (fun i _=>n - (intOf i).toNat)
 ·exact ⟨0,[],Nat.zero_le _,rfl,fo.new ai,by simpa using dh.nil,aB (Below.refl _ _) _,by simp⟩
 obtain ⟨k,vs,hk,rfl,I,K,ah,ao⟩:=hrel
 obtain ⟨R,Y,q⟩:=hd3 I K ah
 clear I K ah J
 by_cases u:k<n
 ·have ay:=dT (by omega:k<n)
  have D:k<xs.length:=by rw [HX.out];exact u
  obtain ⟨b,o,S0,V,p0,rfl,hb,c0,c1,c2,r0⟩:=HR.out.blk (k:=k) D
  have aV:b<wr.heap.size:=by have:=q.out.size;omega
  obtain ⟨i0,i1⟩:=ib (by omega:k<n)
  rw [←q.out.cell (p:=⟨b,o+k * 3,none⟩) hb] at c0
  rw [←q.out.cell (p:=⟨b,o+k * 3+1,none⟩) hb] at c1
  rw [←q.out.cell (p:=⟨b,o+k * 3+2,none⟩) hb] at c2
  have Q0:=Hd (r0.below q.out)
  clear r0
  have au:Hid (af (xs[k]?.getD Blk.zero).cells<=1048576):=by show _<=_;exact Nat.le_trans (jD D) HZ.out
  have ap:=Hd (kM (f:=Blk.cells) (getD_some Blk.zero D:xs[k]?=some (xs[k]?.getD Blk.zero)))
  clear D
  generalize xs[k]?.getD Blk.zero=x at *
  go_wp2_with fail
  refine (zh S0 V p0 x _ Q0.out au.out).mono ?_
  rintro e w2 ⟨B0,rfl,o2,Q⟩
  have ax:=Q.size
  have g:=Hd (R.out.tr Q)
  have aj:=Hd (Y.out.below Q)
  have Z:=Hd (aA q.out Q)
  have O2:=Hd o2
  have aR:=g.out.lt
  clear o2 Q c0 c1 c2
  obtain ⟨u0,f0⟩:=g.out.cell u 0 (by omega)
  rw [Nat.add_zero] at f0
  obtain ⟨u1,f1⟩:=g.out.cell u 1 (by omega)
  obtain ⟨u2,f2⟩:=g.out.cell u 2 (by omega)
  have fz:=fun j=>g.out.frozen j
  go_wp2_with fail
  clear f0 f1 f2 fz
  have HP:=Hd (g.out.put3 u (.int .i64 x.kind) (.int .i64 x.item) (.slice B0 V V))
  have U:Chg w.heap.size (w.heap.size+1) w2 (((w2.setCell ⟨w.heap.size,k * 3,none⟩ (.int .i64 x.kind)).setCell ⟨w.heap.size,k * 3+1,none⟩ (.int .i64 x.item)).setCell ⟨w.heap.size,k * 3+2,none⟩ (.slice B0 V V)):=by
   repeat (first|exact Chg.refl _ _ _|refine Chg.set ?_ (Nat.le_refl _) (Nat.lt_succ_self _) _)
  have ar:=U.size
  have aq:=Hd (aj.out.chgZ U (.inr (Nat.le_refl _)))
  have aw:=Hd (O2.out.chgZ U (.inr (by omega)))
  have az:=Hd (kT Z.out U (Nat.le_refl _))
  generalize av:World.setCell _ _ _=WE at *
  clear av U
  go_roundw
  case rel =>
   refine ⟨k+1,_,by omega,by go_num,HP.out,?_,az.out,by omega⟩
   rw [ap.out]
   exact (aq.out.appZ aw.out (Nat.le_refl _) (by omega) ax).widen (Nat.le_refl _) ar
  simp [intOf];omega
 have am:k=n:=by omega
 subst am
 have ay:decide ((k:Int)<(k:Int))=false:=by simp
 go_wp2_with fail
 go_ret
 refine ⟨_,rfl,?_,q.out⟩
 have h:=Y.out
 rw [List.take_of_length_le (by rw [HX.out];exact Nat.le_refl _)] at h
 exact R.out.own (by unfold maxLen;omega) h ao
theorem xC (x:bS) (w:World) :
  Calls Tryz.prog 211 #[.agg #[.int .i64 x.block,.int .i64 x.pin]] w fun e w'=>e = .returned (.agg #[.int .i64 x.block,.int .i64 x.pin])/\dh w.heap.size w'.heap.size w' x.cells [.int .i64 x.block,.int .i64 x.pin]/\Below w.heap.size w w':=by
 go_enter Tryz.func211,Tryz.ntmps211
 go_wp2_with fail
 refine bodyPost_ret (v := .agg #[.int .i64 x.block,.int .i64 x.pin]) (by simp [results,Tryz.results211,go_sem]) rfl ⟨rfl,?_,aB (aB (aB (Below.refl _ _) _) _) _⟩
 exact ⟨[],bK.2 ⟨_,_,[],[],rfl,rfl,ed.2 ⟨rfl,rfl⟩,bK.2 ⟨_,_,[],[],rfl,rfl,ed.2 ⟨rfl,rfl⟩,ek.2 ⟨rfl,rfl⟩⟩⟩,by simp,by simp⟩
theorem EQ:(Tryz.prog.info? 100).map (fun i=>(i.zero,i.size,i.bytes))=some (some (.agg #[.int .i64 0,.int .i64 0]),2,16):=by kernel_rfl
theorem BN (A:Option Addr) (n c:Nat) (xs:List bS) (w:World) (h:RdC w w.heap.size (bR xs) (.slice A n c)) (hz:szC (bR xs)<=1048576) :
  Calls Tryz.prog 212 #[.slice A n c] w fun e w'=>∃B,e = .returned (.slice B n n)/\gI w.heap.size w'.heap.size w' (bR xs) (.slice B n n)/\Below w.heap.size w w':=by
 obtain ⟨i0,hi,Z,aj,ad⟩:=info_parts EQ
 have G:xs.length=n:=h.pinN
 have HT:szC (bR xs)=n+af (xs.flatMap bS.cells):=by unfold bR;rw [cK bS.cells_length (by omega),G]
 have hn:n<=1048576:=by omega
 have HZ:Hid (af (xs.flatMap bS.cells)<=1048576):=by show _<=_;omega
 have J:=fun W=>bv (P:=Tryz.prog) 156 100 i0 _ Tryz.underlying156 hi Z .i64 .i64 n n (Nat.le_refl _) (by rw [ad];omega) (by omega) W
 have D:∀z:Array Value,(madeCells z (n * i0.size)).size=n * 2:=fun z=>by rw [size_madeCells,aj]
 generalize ae:madeCells _ (n * i0.size)=cz at J
 have ah:cz.size=n * 2:=by rw [←ae];exact D _
 clear hi Z aj ad D ae HT hz
 obtain ⟨HX,HR⟩:=hd2 G h
 clear h G
 go_enter Tryz.func212,Tryz.ntmps212
 go_wp2_with fail
 go_loopw [4] (fun i wr=>∃(k:Nat) (vs:List Value),k<=n/\i = .int .i64 k/\fo wr w.heap.size 100 2 n k vs/\dh (w.heap.size+1) wr.heap.size wr ((xs.take k).flatMap bS.cells) vs/\Below w.heap.size w wr/\w.heap.size<wr.heap.size) (fun i _=>n - (intOf i).toNat)
 ·exact ⟨0,[],Nat.zero_le _,rfl,fo.new ah,by simpa using dh.nil,aB (Below.refl _ _) _,by simp⟩
 obtain ⟨k,vs,hk,rfl,I,K,ag,am⟩:=hrel
 obtain ⟨R,V,q⟩:=hd3 I K ag
 clear I K ag J
 by_cases u:k<n
 ·have aw:=dT (by omega:k<n)
  have H:k<xs.length:=by rw [HX.out];exact u
  obtain ⟨b,o,rfl,hb,c0,c1⟩:=HR.out.pin (k:=k) H
  have aO:b<wr.heap.size:=by have:=q.out.size;omega
  obtain ⟨i0,i1⟩:=ib (by omega:k<n)
  rw [←q.out.cell (p:=⟨b,o+k * 2,none⟩) hb] at c0
  rw [←q.out.cell (p:=⟨b,o+k * 2+1,none⟩) hb] at c1
  skip
  clear HZ
  have ao:=Hd (kM (f:=bS.cells) (getD_some bS.zero H:xs[k]?=some (xs[k]?.getD bS.zero)))
  clear H
  generalize xs[k]?.getD bS.zero=x at *
  go_wp2_with fail
  refine (xC x _).mono ?_
  rintro e w2 ⟨rfl,o2,Q⟩
  have av:=Q.size
  have g:=Hd (R.out.tr Q)
  have ai:=Hd (V.out.below Q)
  have Y:=Hd (aA q.out Q)
  have O2:=Hd o2
  have aK:=g.out.lt
  clear o2 Q c0 c1
  obtain ⟨u0,f0⟩:=g.out.cell u 0 (by omega)
  rw [Nat.add_zero] at f0
  obtain ⟨u1,f1⟩:=g.out.cell u 1 (by omega)
  have fz:=fun j=>g.out.frozen j
  go_wp2_with fail
  clear f0 f1 fz
  have HP:=Hd (g.out.put2 u (.int .i64 x.block) (.int .i64 x.pin))
  have U:Chg w.heap.size (w.heap.size+1) w2 ((w2.setCell ⟨w.heap.size,k * 2,none⟩ (.int .i64 x.block)).setCell ⟨w.heap.size,k * 2+1,none⟩ (.int .i64 x.pin)):=by
   repeat (first|exact Chg.refl _ _ _|refine Chg.set ?_ (Nat.le_refl _) (Nat.lt_succ_self _) _)
  have aq:=U.size
  have ap:=Hd (ai.out.chgZ U (.inr (Nat.le_refl _)))
  have au:=Hd (O2.out.chgZ U (.inr (by omega)))
  have ax:=Hd (kT Y.out U (Nat.le_refl _))
  generalize ar:World.setCell _ _ _=WE at *
  clear ar U
  go_roundw
  case rel =>
   refine ⟨k+1,_,by omega,by go_num,HP.out,?_,ax.out,by omega⟩
   rw [ao.out]
   exact (ap.out.appZ au.out (Nat.le_refl _) (by omega) av).widen (Nat.le_refl _) aq
  simp [intOf];omega
 have al:k=n:=by omega
 subst al
 have aw:decide ((k:Int)<(k:Int))=false:=by simp
 go_wp2_with fail
 go_ret
 refine ⟨_,rfl,?_,q.out⟩
 have h:=V.out
 rw [List.take_of_length_le (by rw [HX.out];exact Nat.le_refl _)] at h
 exact R.out.own (by unfold maxLen;omega) h am
theorem BO (D:Option Addr) (g B:Nat) (x:Cn) (w:World) (h0:RdC w w.heap.size (bR x.sinks) (.slice D g B)) (hz:af x.cells<=1048576) :
  Calls Tryz.prog 121 #[.agg #[.int .i64 x.node,.int .i64 x.src.block,.int .i64 x.src.pin,.slice D g B]] w fun e w'=>∃z,e = .returned (.agg #[.int .i64 x.node,.int .i64 x.src.block,.int .i64 x.src.pin,.slice z g g])/\dh w.heap.size w'.heap.size w' x.cells [.int .i64 x.node,.int .i64 x.src.block,.int .i64 x.src.pin,.slice z g g]/\Below w.heap.size w w':=by
 have R0:=Hd h0
 have HS:af x.cells=szC (bR x.sinks):=by unfold Cn.cells;simp only [au,bP,fM] <;> omega
 have Z2:Hid (szC (bR x.sinks)<=1048576):=by show _<=_;omega
 have W:=Hd (jd w #[.int .i64 x.node,.int .i64 x.src.block,.int .i64 x.src.pin,.slice D g B] #[.int .i64 0,.int .i64 0,.int .i64 0,.slice none 0 0] #[.int .i64 0,.int .i64 0,.int .i64 0,.slice none 0 0] 152 158 158)
 have ag:w.heap.size≠w.heap.size+1+1:=by omega
 have ah:w.heap.size+1≠w.heap.size+1+1:=by omega
 have ai:w.heap.size≠w.heap.size+1:=by omega
 clear HS hz h0
 go_enter Tryz.func121,Tryz.ntmps121
 go_upto_region 2 with fail
 generalize ((w.alloc (.cells #[.int .i64 x.node,.int .i64 x.src.block,.int .i64 x.src.pin,.slice D g B] 152)).alloc (.cells #[.int .i64 0,.int .i64 0,.int .i64 0,.slice none 0 0] 158)).alloc (.cells #[.int .i64 0,.int .i64 0,.int .i64 0,.slice none 0 0] 158)=w0 at *
 have q:=(W.out.blk 0 rfl).1
 have u:=(W.out.blk 1 rfl).1
 have j:=(W.out.blk 2 rfl).1
 obtain ⟨V,K,I,Q⟩:=cs4 q
 obtain ⟨H,G,R,U⟩:=cs4 j
 have J:=fun k=>aX j k
 have l0:=aC q
 have l1:=aC u
 have l2:=aC j
 clear q u j
 have Q1:Hid (aJ w (w0.setCell ⟨w.heap.size+1+1,0,none⟩ (.int .i64 x.node)) [.blk w.heap.size #[.int .i64 x.node,.int .i64 x.src.block,.int .i64 x.src.pin,.slice D g B] 152,.blk (w.heap.size+1) #[.int .i64 0,.int .i64 0,.int .i64 0,.slice none 0 0] 158,.blk (w.heap.size+1+1) #[.int .i64 x.node,.int .i64 0,.int .i64 0,.slice none 0 0] 158,.cel (.int x.node) (.int .i64 x.node)]):=((W.out.put 2 rfl 0 (.int .i64 x.node)).pushInt x.node)
 go_wp2_with fail
 refine (xC x.src _).mono ?_
 rintro _ w1 ⟨rfl,o1,b1⟩
 have Y:Hid (aJ w (w1) [.blk w.heap.size #[.int .i64 x.node,.int .i64 x.src.block,.int .i64 x.src.pin,.slice D g B] 152,.blk (w.heap.size+1) #[.int .i64 0,.int .i64 0,.int .i64 0,.slice none 0 0] 158,.blk (w.heap.size+1+1) #[.int .i64 x.node,.int .i64 0,.int .i64 0,.slice none 0 0] 158,.cel (.int x.node) (.int .i64 x.node),.cels x.src.cells [.int .i64 x.src.block,.int .i64 x.src.pin]]):=(Q1.out.pushLs b1 o1)
 clear o1 b1 V K I Q H G R U J l0 l1 l2
 have q:=(Y.out.blk 0 rfl).1
 have u:=(Y.out.blk 1 rfl).1
 have j:=(Y.out.blk 2 rfl).1
 obtain ⟨V,K,I,Q⟩:=cs4 q
 obtain ⟨H,G,R,U⟩:=cs4 j
 have J:=fun k=>aX j k
 have l0:=aC q
 have l1:=aC u
 have l2:=aC j
 clear q u j
 have Q3:Hid (aJ w ((w1.setCell ⟨w.heap.size+1+1,1,none⟩ (.int .i64 x.src.block)).setCell ⟨w.heap.size+1+1,2,none⟩ (.int .i64 x.src.pin)) [.blk w.heap.size #[.int .i64 x.node,.int .i64 x.src.block,.int .i64 x.src.pin,.slice D g B] 152,.blk (w.heap.size+1) #[.int .i64 0,.int .i64 0,.int .i64 0,.slice none 0 0] 158,.blk (w.heap.size+1+1) #[.int .i64 x.node,.int .i64 x.src.block,.int .i64 x.src.pin,.slice none 0 0] 158,.cel (.int x.node) (.int .i64 x.node),.cels x.src.cells [.int .i64 x.src.block,.int .i64 x.src.pin]]):=((Y.out.put 2 rfl 1 (.int .i64 x.src.block)).put 2 rfl 2 (.int .i64 x.src.pin))
 go_wp2_with fail
 refine (BN D g B x.sinks _ (R0.out.below Q3.out.bel) Z2.out).mono ?_
 rintro _ w2 ⟨z,rfl,o2,b2⟩
 have Z:Hid (aJ w (w2) [.blk w.heap.size #[.int .i64 x.node,.int .i64 x.src.block,.int .i64 x.src.pin,.slice D g B] 152,.blk (w.heap.size+1) #[.int .i64 0,.int .i64 0,.int .i64 0,.slice none 0 0] 158,.blk (w.heap.size+1+1) #[.int .i64 x.node,.int .i64 x.src.block,.int .i64 x.src.pin,.slice none 0 0] 158,.cel (.int x.node) (.int .i64 x.node),.cels x.src.cells [.int .i64 x.src.block,.int .i64 x.src.pin],.cel (bR x.sinks) (.slice z g g)]):=(Q3.out.pushT b2 o2)
 clear o2 b2 V K I Q H G R U J l0 l1 l2
 have q:=(Z.out.blk 0 rfl).1
 have u:=(Z.out.blk 1 rfl).1
 have j:=(Z.out.blk 2 rfl).1
 obtain ⟨V,K,I,Q⟩:=cs4 q
 obtain ⟨H,G,R,U⟩:=cs4 j
 have J:=fun k=>aX j k
 obtain ⟨u0,u1,u2,u3⟩:=cs4 u
 have y1:=fun k=>aX u k
 have l0:=aC q
 have l1:=aC u
 have l2:=aC j
 clear q u j
 have Q5:Hid (aJ w (((((w2.setCell ⟨w.heap.size+1+1,3,none⟩ (.slice z g g)).setCell ⟨w.heap.size+1,0,none⟩ (.int .i64 x.node)).setCell ⟨w.heap.size+1,1,none⟩ (.int .i64 x.src.block)).setCell ⟨w.heap.size+1,2,none⟩ (.int .i64 x.src.pin)).setCell ⟨w.heap.size+1,3,none⟩ (.slice z g g)) [.blk w.heap.size #[.int .i64 x.node,.int .i64 x.src.block,.int .i64 x.src.pin,.slice D g B] 152,.blk (w.heap.size+1) #[.int .i64 x.node,.int .i64 x.src.block,.int .i64 x.src.pin,.slice z g g] 158,.blk (w.heap.size+1+1) #[.int .i64 x.node,.int .i64 x.src.block,.int .i64 x.src.pin,.slice z g g] 158,.cel (.int x.node) (.int .i64 x.node),.cels x.src.cells [.int .i64 x.src.block,.int .i64 x.src.pin],.cel (bR x.sinks) (.slice z g g)]):=(((((Z.out.put 2 rfl 3 (.slice z g g)).put 1 rfl 0 (.int .i64 x.node)).put 1 rfl 1 (.int .i64 x.src.block)).put 1 rfl 2 (.int .i64 x.src.pin)).put 1 rfl 3 (.slice z g g))
 go_wp2_with fail
 generalize ((((w2.setCell ⟨w.heap.size+1+1,3,none⟩ (.slice z g g)).setCell ⟨w.heap.size+1,0,none⟩ (.int .i64 x.node)).setCell ⟨w.heap.size+1,1,none⟩ (.int .i64 x.src.block)).setCell ⟨w.heap.size+1,2,none⟩ (.int .i64 x.src.pin)).setCell ⟨w.heap.size+1,3,none⟩ (.slice z g g)=WF at *
 clear V K I Q H G R U J u0 u1 u2 u3 y1 l0 l1 l2
 have hb:WF.heap[w.heap.size+1]?=some (.cells #[.int .i64 x.node,.int .i64 x.src.block,.int .i64 x.src.pin,.slice z g g] 158 (0,0)):=(Q5.out.blk 1 rfl).1
 exact bodyPost_ret (v := .agg #[.int .i64 x.node,.int .i64 x.src.block,.int .i64 x.src.pin,.slice z g g]) (fE Tryz.results121 rfl hb Tryz.underlying158 (by kernel_rfl)) rfl ⟨z,rfl,Q5.out.tail.tail.tail.ownsL rfl,Q5.out.bel⟩
theorem Dh:(Tryz.prog.info? 158).map (fun i=>(i.zero,i.size,i.bytes))=some (some (.agg #[.int .i64 0,.int .i64 0,.int .i64 0,.slice none 0 0]),4,48):=by kernel_rfl
theorem zi (A:Option Addr) (n c:Nat) (xs:List Cn) (w:World) (h:RdC w w.heap.size (ah xs) (.slice A n c)) (hz:szC (ah xs)<=1048576) :
  Calls Tryz.prog 42 #[.slice A n c] w fun e w'=>∃B,e = .returned (.slice B n n)/\gI w.heap.size w'.heap.size w' (ah xs) (.slice B n n)/\Below w.heap.size w w':=by
 obtain ⟨i0,hi,ad,al,ae⟩:=info_parts Dh
 have H:xs.length=n:=h.cnN
 have HT:szC (ah xs)=n+af (xs.flatMap Cn.cells):=by unfold ah;rw [cK Cn.cells_length (by omega),H]
 have hn:n<=1048576:=by omega
 have HZ:Hid (af (xs.flatMap Cn.cells)<=1048576):=by show _<=_;omega
 have J:=fun W=>bv (P:=Tryz.prog) 43 158 i0 _ Tryz.underlying43 hi ad .i64 .i64 n n (Nat.le_refl _) (by rw [ae];omega) (by omega) W
 have G:∀z:Array Value,(madeCells z (n * i0.size)).size=n * 4:=fun z=>by rw [size_madeCells,al]
 generalize ag:madeCells _ (n * i0.size)=cz at J
 have aj:cz.size=n * 4:=by rw [←ag];exact G _
 clear hi ad al ae G ag HT hz
 obtain ⟨HX,HR⟩:=hd2 H h
 clear h H
 go_enter Tryz.func42,Tryz.ntmps42
 go_wp2_with fail
 go_loopw [4] (fun i wr=>∃(k:Nat) (vs:List Value),k<=n/\i = .int .i64 k/\fo wr w.heap.size 158 4 n k vs/\dh (w.heap.size+1) wr.heap.size wr ((xs.take k).flatMap Cn.cells) vs/\Below w.heap.size w wr/\w.heap.size<wr.heap.size) (fun i _=>n - (intOf i).toNat)
 ·exact ⟨0,[],Nat.zero_le _,rfl,fo.new aj,by simpa using dh.nil,aB (Below.refl _ _) _,by simp⟩
 obtain ⟨k,vs,hk,rfl,I,K,ai,aq⟩:=hrel
 obtain ⟨R,Y,q⟩:=hd3 I K ai
 clear I K ai J
 by_cases u:k<n
 ·have aC:=dT (by omega:k<n)
  have D:k<xs.length:=by rw [HX.out];exact u
  obtain ⟨b,o,S0,V,p0,rfl,hb,c0,c1,c2,c3,r0⟩:=HR.out.cn (k:=k) D
  have aX:b<wr.heap.size:=by have:=q.out.size;omega
  obtain ⟨i0,i1⟩:=ib (by omega:k<n)
  rw [←q.out.cell (p:=⟨b,o+k * 4,none⟩) hb] at c0
  rw [←q.out.cell (p:=⟨b,o+k * 4+1,none⟩) hb] at c1
  rw [←q.out.cell (p:=⟨b,o+k * 4+2,none⟩) hb] at c2
  rw [←q.out.cell (p:=⟨b,o+k * 4+3,none⟩) hb] at c3
  have Q0:=Hd (r0.below q.out)
  clear r0
  have aw:Hid (af (xs[k]?.getD Cn.zero).cells<=1048576):=by show _<=_;exact Nat.le_trans (jD D) HZ.out
  have ar:=Hd (kM (f:=Cn.cells) (getD_some Cn.zero D:xs[k]?=some (xs[k]?.getD Cn.zero)))
  clear D
  generalize xs[k]?.getD Cn.zero=x at *
  go_wp2_with fail
  refine (BO S0 V p0 x _ Q0.out aw.out).mono ?_
  rintro e w2 ⟨B0,rfl,o2,Q⟩
  have az:=Q.size
  have g:=Hd (R.out.tr Q)
  have ak:=Hd (Y.out.below Q)
  have Z:=Hd (aA q.out Q)
  have O2:=Hd o2
  have aS:=g.out.lt
  clear o2 Q c0 c1 c2 c3
  obtain ⟨u0,f0⟩:=g.out.cell u 0 (by omega)
  rw [Nat.add_zero] at f0
  obtain ⟨u1,f1⟩:=g.out.cell u 1 (by omega)
  obtain ⟨u2,f2⟩:=g.out.cell u 2 (by omega)
  obtain ⟨u3,f3⟩:=g.out.cell u 3 (by omega)
  have fz:=fun j=>g.out.frozen j
  go_wp2_with fail
  clear f0 f1 f2 f3 fz
  have HP:=Hd (g.out.put4 u (.int .i64 x.node) (.int .i64 x.src.block) (.int .i64 x.src.pin) (.slice B0 V V))
  have U:Chg w.heap.size (w.heap.size+1) w2 ((((w2.setCell ⟨w.heap.size,k * 4,none⟩ (.int .i64 x.node)).setCell ⟨w.heap.size,k * 4+1,none⟩ (.int .i64 x.src.block)).setCell ⟨w.heap.size,k * 4+2,none⟩ (.int .i64 x.src.pin)).setCell ⟨w.heap.size,k * 4+3,none⟩ (.slice B0 V V)):=by
   repeat (first|exact Chg.refl _ _ _|refine Chg.set ?_ (Nat.le_refl _) (Nat.lt_succ_self _) _)
  have av:=U.size
  have au:=Hd (ak.out.chgZ U (.inr (Nat.le_refl _)))
  have ay:=Hd (O2.out.chgZ U (.inr (by omega)))
  have aD:=Hd (kT Z.out U (Nat.le_refl _))
  generalize ax:World.setCell _ _ _=WE at *
  clear ax U
  go_roundw
  case rel =>
   refine ⟨k+1,_,by omega,by go_num,HP.out,?_,aD.out,by omega⟩
   rw [ar.out]
   exact (au.out.appZ ay.out (Nat.le_refl _) (by omega) az).widen (Nat.le_refl _) av
  simp [intOf];omega
 have ap:k=n:=by omega
 subst ap
 have aC:decide ((k:Int)<(k:Int))=false:=by simp
 go_wp2_with fail
 go_ret
 refine ⟨_,rfl,?_,q.out⟩
 have h:=Y.out
 rw [List.take_of_length_le (by rw [HX.out];exact Nat.le_refl _)] at h
 exact R.out.own (by unfold maxLen;omega) h aq
theorem zk (G A1:Option Addr) (g D n1 c1:Nat) (x:Rou) (w:World) (h0:RdC w w.heap.size (aH x.nodes) (.slice G g D)) (h1:RdC w w.heap.size (aH x.from_) (.slice A1 n1 c1)) (hz:af x.cells<=1048576) :
  Calls Tryz.prog 122 #[.agg #[.slice G g D,.slice A1 n1 c1]] w fun e w'=>∃z B,e = .returned (.agg #[.slice z g g,.slice B n1 n1])/\dh w.heap.size w'.heap.size w' x.cells [.slice z g g,.slice B n1 n1]/\Below w.heap.size w w':=by
 obtain ⟨R0,R1⟩:=hd2 h0 h1
 have HS:af x.cells=szC (aH x.nodes)+szC (aH x.from_):=by unfold Rou.cells;simp only [au,bP] <;> omega
 have Z0:Hid (szC (aH x.nodes)<=1048576):=by show _<=_;omega
 have Z1:Hid (szC (aH x.from_)<=1048576):=by show _<=_;omega
 have K:=Hd (jd w #[.slice G g D,.slice A1 n1 c1] #[.slice none 0 0,.slice none 0 0] #[.slice none 0 0,.slice none 0 0] 154 114 114)
 have Z:w.heap.size≠w.heap.size+1+1:=by omega
 have ad:w.heap.size+1≠w.heap.size+1+1:=by omega
 have ae:w.heap.size≠w.heap.size+1:=by omega
 clear HS hz h0 h1
 go_enter Tryz.func122,Tryz.ntmps122
 go_upto_region 2 with fail
 generalize ((w.alloc (.cells #[.slice G g D,.slice A1 n1 c1] 154)).alloc (.cells #[.slice none 0 0,.slice none 0 0] 114)).alloc (.cells #[.slice none 0 0,.slice none 0 0] 114)=w0 at *
 have q:=(K.out.blk 0 rfl).1
 have u:=(K.out.blk 1 rfl).1
 have j:=(K.out.blk 2 rfl).1
 obtain ⟨R,Q⟩:=cs2 q
 obtain ⟨I,H⟩:=cs2 j
 have J:=fun k=>aX j k
 have l0:=aC q
 have l1:=aC u
 have l2:=aC j
 clear q u j
 go_wp2_with fail
 refine (pO G g D x.nodes _ (R0.out.below K.out.bel) Z0.out).mono ?_
 rintro _ w1 ⟨z,rfl,o1,b1⟩
 have U:Hid (aJ w (w1) [.blk w.heap.size #[.slice G g D,.slice A1 n1 c1] 154,.blk (w.heap.size+1) #[.slice none 0 0,.slice none 0 0] 114,.blk (w.heap.size+1+1) #[.slice none 0 0,.slice none 0 0] 114,.cel (aH x.nodes) (.slice z g g)]):=(K.out.pushT b1 o1)
 clear o1 b1 R Q I H J l0 l1 l2
 have q:=(U.out.blk 0 rfl).1
 have u:=(U.out.blk 1 rfl).1
 have j:=(U.out.blk 2 rfl).1
 obtain ⟨R,Q⟩:=cs2 q
 obtain ⟨I,H⟩:=cs2 j
 have J:=fun k=>aX j k
 have l0:=aC q
 have l1:=aC u
 have l2:=aC j
 clear q u j
 have Q2:Hid (aJ w (w1.setCell ⟨w.heap.size+1+1,0,none⟩ (.slice z g g)) [.blk w.heap.size #[.slice G g D,.slice A1 n1 c1] 154,.blk (w.heap.size+1) #[.slice none 0 0,.slice none 0 0] 114,.blk (w.heap.size+1+1) #[.slice z g g,.slice none 0 0] 114,.cel (aH x.nodes) (.slice z g g)]):=(U.out.put 2 rfl 0 (.slice z g g))
 go_wp2_with fail
 refine (pO A1 n1 c1 x.from_ _ (R1.out.below Q2.out.bel) Z1.out).mono ?_
 rintro _ W ⟨B,rfl,o2,b2⟩
 have V:Hid (aJ w (W) [.blk w.heap.size #[.slice G g D,.slice A1 n1 c1] 154,.blk (w.heap.size+1) #[.slice none 0 0,.slice none 0 0] 114,.blk (w.heap.size+1+1) #[.slice z g g,.slice none 0 0] 114,.cel (aH x.nodes) (.slice z g g),.cel (aH x.from_) (.slice B n1 n1)]):=(Q2.out.pushT b2 o2)
 clear o2 b2 R Q I H J l0 l1 l2
 have q:=(V.out.blk 0 rfl).1
 have u:=(V.out.blk 1 rfl).1
 have j:=(V.out.blk 2 rfl).1
 obtain ⟨R,Q⟩:=cs2 q
 obtain ⟨I,H⟩:=cs2 j
 have J:=fun k=>aX j k
 obtain ⟨u0,u1⟩:=cs2 u
 have y1:=fun k=>aX u k
 have l0:=aC q
 have l1:=aC u
 have l2:=aC j
 clear q u j
 have Y:Hid (aJ w (((W.setCell ⟨w.heap.size+1+1,1,none⟩ (.slice B n1 n1)).setCell ⟨w.heap.size+1,0,none⟩ (.slice z g g)).setCell ⟨w.heap.size+1,1,none⟩ (.slice B n1 n1)) [.blk w.heap.size #[.slice G g D,.slice A1 n1 c1] 154,.blk (w.heap.size+1) #[.slice z g g,.slice B n1 n1] 114,.blk (w.heap.size+1+1) #[.slice z g g,.slice B n1 n1] 114,.cel (aH x.nodes) (.slice z g g),.cel (aH x.from_) (.slice B n1 n1)]):=(((V.out.put 2 rfl 1 (.slice B n1 n1)).put 1 rfl 0 (.slice z g g)).put 1 rfl 1 (.slice B n1 n1))
 go_wp2_with fail
 generalize ((W.setCell ⟨w.heap.size+1+1,1,none⟩ (.slice B n1 n1)).setCell ⟨w.heap.size+1,0,none⟩ (.slice z g g)).setCell ⟨w.heap.size+1,1,none⟩ (.slice B n1 n1)=WF at *
 clear R Q I H J u0 u1 y1 l0 l1 l2
 have hb:WF.heap[w.heap.size+1]?=some (.cells #[.slice z g g,.slice B n1 n1] 114 (0,0)):=(Y.out.blk 1 rfl).1
 exact bodyPost_ret (v := .agg #[.slice z g g,.slice B n1 n1]) (fE Tryz.results122 rfl hb Tryz.underlying114 (by kernel_rfl)) rfl ⟨z,B,rfl,Y.out.tail.tail.tail.ownsL rfl,Y.out.bel⟩
theorem BP:(Tryz.prog.info? 114).map (fun i=>(i.zero,i.size,i.bytes))=some (some (.agg #[.slice none 0 0,.slice none 0 0]),2,48):=by kernel_rfl
theorem yC (A:Option Addr) (n c:Nat) (xs:List Rou) (w:World) (h:RdC w w.heap.size (bH xs) (.slice A n c)) (hz:szC (bH xs)<=1048576) :
  Calls Tryz.prog 44 #[.slice A n c] w fun e w'=>∃B,e = .returned (.slice B n n)/\gI w.heap.size w'.heap.size w' (bH xs) (.slice B n n)/\Below w.heap.size w w':=by
 obtain ⟨i0,hi,ae,al,ag⟩:=info_parts BP
 have H:xs.length=n:=h.rouN
 have HT:szC (bH xs)=n+af (xs.flatMap Rou.cells):=by unfold bH;rw [cK Rou.cells_length (by omega),H]
 have hn:n<=1048576:=by omega
 have HZ:Hid (af (xs.flatMap Rou.cells)<=1048576):=by show _<=_;omega
 have J:=fun W=>bv (P:=Tryz.prog) 44 114 i0 _ Tryz.underlying44 hi ae .i64 .i64 n n (Nat.le_refl _) (by rw [ag];omega) (by omega) W
 have G:∀z:Array Value,(madeCells z (n * i0.size)).size=n * 2:=fun z=>by rw [size_madeCells,al]
 generalize ah:madeCells _ (n * i0.size)=cz at J
 have aj:cz.size=n * 2:=by rw [←ah];exact G _
 clear hi ae al ag G ah HT hz
 obtain ⟨HX,HR⟩:=hd2 H h
 clear h H
 go_enter Tryz.func44,Tryz.ntmps44
 go_wp2_with fail
 go_loopw [4] (fun i wr=>∃(k:Nat) (vs:List Value),k<=n/\i = .int .i64 k/\fo wr w.heap.size 114 2 n k vs/\dh (w.heap.size+1) wr.heap.size wr ((xs.take k).flatMap Rou.cells) vs/\Below w.heap.size w wr/\w.heap.size<wr.heap.size) (fun i _=>n - (intOf i).toNat)
 ·exact ⟨0,[],Nat.zero_le _,rfl,fo.new aj,by simpa using dh.nil,aB (Below.refl _ _) _,by simp⟩
 obtain ⟨k,vs,hk,rfl,I,K,ai,ap⟩:=hrel
 obtain ⟨U,Z,q⟩:=hd3 I K ai
 clear I K ai J
 by_cases D:k<n
 ·have az:=dT (by omega:k<n)
  have u:k<xs.length:=by rw [HX.out];exact D
  obtain ⟨b,o,S0,Y,p0,S1,R,p1,rfl,hb,c0,c1,r0,r1⟩:=HR.out.rou (k:=k) u
  have a1:b<wr.heap.size:=by have:=q.out.size;omega
  obtain ⟨i0,i1⟩:=ib (by omega:k<n)
  rw [←q.out.cell (p:=⟨b,o+k * 2,none⟩) hb] at c0
  rw [←q.out.cell (p:=⟨b,o+k * 2+1,none⟩) hb] at c1
  have Q0:=Hd (r0.below q.out)
  have Q1:=Hd (r1.below q.out)
  clear r0 r1
  have av:Hid (af (xs[k]?.getD Rou.zero).cells<=1048576):=by show _<=_;exact Nat.le_trans (jD u) HZ.out
  have aq:=Hd (kM (f:=Rou.cells) (getD_some Rou.zero u:xs[k]?=some (xs[k]?.getD Rou.zero)))
  clear u
  generalize xs[k]?.getD Rou.zero=x at *
  go_wp2_with fail
  refine (zk S0 S1 Y p0 R p1 x _ Q0.out Q1.out av.out).mono ?_
  rintro e w2 ⟨B0,B1,rfl,o2,Q⟩
  have ay:=Q.size
  have g:=Hd (U.out.tr Q)
  have ak:=Hd (Z.out.below Q)
  have ad:=Hd (aA q.out Q)
  have O2:=Hd o2
  have aV:=g.out.lt
  clear o2 Q c0 c1
  obtain ⟨u0,f0⟩:=g.out.cell D 0 (by omega)
  rw [Nat.add_zero] at f0
  obtain ⟨u1,f1⟩:=g.out.cell D 1 (by omega)
  have fz:=fun j=>g.out.frozen j
  go_wp2_with fail
  clear f0 f1 fz
  have HP:=Hd (g.out.put2 D (.slice B0 Y Y) (.slice B1 R R))
  have V:Chg w.heap.size (w.heap.size+1) w2 ((w2.setCell ⟨w.heap.size,k * 2,none⟩ (.slice B0 Y Y)).setCell ⟨w.heap.size,k * 2+1,none⟩ (.slice B1 R R)):=by
   repeat (first|exact Chg.refl _ _ _|refine Chg.set ?_ (Nat.le_refl _) (Nat.lt_succ_self _) _)
  have au:=V.size
  have ar:=Hd (ak.out.chgZ V (.inr (Nat.le_refl _)))
  have ax:=Hd (O2.out.chgZ V (.inr (by omega)))
  have aC:=Hd (kT ad.out V (Nat.le_refl _))
  generalize aw:World.setCell _ _ _=WE at *
  clear aw V
  go_roundw
  case rel =>
   refine ⟨k+1,_,by omega,by go_num,HP.out,?_,aC.out,by omega⟩
   rw [aq.out]
   exact (ar.out.appZ ax.out (Nat.le_refl _) (by omega) ay).widen (Nat.le_refl _) au
  simp [intOf];omega
 have ao:k=n:=by omega
 subst ao
 have az:decide ((k:Int)<(k:Int))=false:=by simp
 go_wp2_with fail
 go_ret
 refine ⟨_,rfl,?_,q.out⟩
 have h:=Z.out
 rw [List.take_of_length_le (by rw [HX.out];exact Nat.le_refl _)] at h
 exact U.out.own (by unfold maxLen;omega) h ap
theorem yD (A0 A1 A2 A3 W A5 V:Option Addr) (g U n1 c1 n2 c2 n3 c3 q Y u Z B c6:Nat) (x:Lay) (w:World) (h0:RdC w w.heap.size (bD x.net.seqs) (.slice A0 g U)) (h1:RdC w w.heap.size (bM x.net.luts) (.slice A1 n1 c1)) (h2:RdC w w.heap.size (aH x.net.outs) (.slice A2 n2 c2)) (h3:RdC w w.heap.size (aa x.blocks) (.slice A3 n3 c3)) (h4:RdC w w.heap.size (ah x.conns) (.slice W q Y)) (h5:RdC w w.heap.size (aH x.place) (.slice A5 u Z)) (h6:RdC w w.heap.size (bH x.routes) (.slice V B c6)) (hz:af x.cells<=1048576) :
  Calls Tryz.prog 10 #[.agg #[.int .i64 x.net.inputs,.slice A0 g U,.slice A1 n1 c1,.slice A2 n2 c2,.slice A3 n3 c3,.slice W q Y,.slice A5 u Z,.slice V B c6]] w fun e w'=>∃G H I J K Q R,e = .returned (.agg #[.int .i64 x.net.inputs,.slice G g g,.slice H n1 n1,.slice I n2 n2,.slice J n3 n3,.slice K q q,.slice Q u u,.slice R B B])/\dh w.heap.size w'.heap.size w' x.cells [.int .i64 x.net.inputs,.slice G g g,.slice H n1 n1,.slice I n2 n2,.slice J n3 n3,.slice K q q,.slice Q u u,.slice R B B]/\Below w.heap.size w w':=by
 obtain ⟨R0,R1,R2,R3,R4,R5,R6⟩:=hd7 h0 h1 h2 h3 h4 h5 h6
 have HS:af x.cells=af x.net.cells+szC (aa x.blocks)+szC (ah x.conns)+szC (aH x.place)+szC (bH x.routes):=by unfold Lay.cells;simp only [iD,au,bP] <;> omega
 have Z0:Hid (af x.net.cells<=1048576):=by show _<=_;omega
 have Z1:Hid (szC (aa x.blocks)<=1048576):=by show _<=_;omega
 have Z2:Hid (szC (ah x.conns)<=1048576):=by show _<=_;omega
 have Z3:Hid (szC (aH x.place)<=1048576):=by show _<=_;omega
 have Z4:Hid (szC (bH x.routes)<=1048576):=by show _<=_;omega
 have S0:=Hd (jd w #[.int .i64 x.net.inputs,.slice A0 g U,.slice A1 n1 c1,.slice A2 n2 c2,.slice A3 n3 c3,.slice W q Y,.slice A5 u Z,.slice V B c6] #[.int .i64 0,.slice none 0 0,.slice none 0 0,.slice none 0 0,.slice none 0 0,.slice none 0 0,.slice none 0 0,.slice none 0 0] #[.int .i64 0,.slice none 0 0,.slice none 0 0,.slice none 0 0,.slice none 0 0,.slice none 0 0,.slice none 0 0,.slice none 0 0] 33 46 46)
 have a3:w.heap.size≠w.heap.size+1+1:=by omega
 have a4:w.heap.size+1≠w.heap.size+1+1:=by omega
 have aS:w.heap.size≠w.heap.size+1:=by omega
 clear HS hz h0 h1 h2 h3 h4 h5 h6
 go_enter Tryz.func10,Tryz.ntmps10
 go_upto_region 2 with fail
 generalize ((w.alloc (.cells #[.int .i64 x.net.inputs,.slice A0 g U,.slice A1 n1 c1,.slice A2 n2 c2,.slice A3 n3 c3,.slice W q Y,.slice A5 u Z,.slice V B c6] 33)).alloc (.cells #[.int .i64 0,.slice none 0 0,.slice none 0 0,.slice none 0 0,.slice none 0 0,.slice none 0 0,.slice none 0 0,.slice none 0 0] 46)).alloc (.cells #[.int .i64 0,.slice none 0 0,.slice none 0 0,.slice none 0 0,.slice none 0 0,.slice none 0 0,.slice none 0 0,.slice none 0 0] 46)=w0 at *
 have z:=(S0.out.blk 0 rfl).1
 have D:=(S0.out.blk 1 rfl).1
 have j:=(S0.out.blk 2 rfl).1
 obtain ⟨x0,x1,x2,x3,x4,x5,x6,x7⟩:=cs8 z
 obtain ⟨z0,z1,z2,z3,z4,z5,z6,z7⟩:=cs8 j
 have y2:=fun k=>aX j k
 have l0:=aC z
 have l1:=aC D
 have l2:=aC j
 clear z D j
 go_wp2_with fail
 refine (yA A0 A1 A2 g U n1 c1 n2 c2 x.net _ (R0.out.below S0.out.bel) (R1.out.below S0.out.bel) (R2.out.below S0.out.bel) Z0.out).mono ?_
 rintro _ w1 ⟨G,H,I,rfl,o1,b1⟩
 have Q1:Hid (aJ w (w1) [.blk w.heap.size #[.int .i64 x.net.inputs,.slice A0 g U,.slice A1 n1 c1,.slice A2 n2 c2,.slice A3 n3 c3,.slice W q Y,.slice A5 u Z,.slice V B c6] 33,.blk (w.heap.size+1) #[.int .i64 0,.slice none 0 0,.slice none 0 0,.slice none 0 0,.slice none 0 0,.slice none 0 0,.slice none 0 0,.slice none 0 0] 46,.blk (w.heap.size+1+1) #[.int .i64 0,.slice none 0 0,.slice none 0 0,.slice none 0 0,.slice none 0 0,.slice none 0 0,.slice none 0 0,.slice none 0 0] 46,.cels x.net.cells [.int .i64 x.net.inputs,.slice G g g,.slice H n1 n1,.slice I n2 n2]]):=(S0.out.pushLs b1 o1)
 clear o1 b1 x0 x1 x2 x3 x4 x5 x6 x7 z0 z1 z2 z3 z4 z5 z6 z7 y2 l0 l1 l2
 have z:=(Q1.out.blk 0 rfl).1
 have D:=(Q1.out.blk 1 rfl).1
 have j:=(Q1.out.blk 2 rfl).1
 obtain ⟨x0,x1,x2,x3,x4,x5,x6,x7⟩:=cs8 z
 obtain ⟨z0,z1,z2,z3,z4,z5,z6,z7⟩:=cs8 j
 have y2:=fun k=>aX j k
 have l0:=aC z
 have l1:=aC D
 have l2:=aC j
 clear z D j
 have Q2:Hid (aJ w ((((w1.setCell ⟨w.heap.size+1+1,0,none⟩ (.int .i64 x.net.inputs)).setCell ⟨w.heap.size+1+1,1,none⟩ (.slice G g g)).setCell ⟨w.heap.size+1+1,2,none⟩ (.slice H n1 n1)).setCell ⟨w.heap.size+1+1,3,none⟩ (.slice I n2 n2)) [.blk w.heap.size #[.int .i64 x.net.inputs,.slice A0 g U,.slice A1 n1 c1,.slice A2 n2 c2,.slice A3 n3 c3,.slice W q Y,.slice A5 u Z,.slice V B c6] 33,.blk (w.heap.size+1) #[.int .i64 0,.slice none 0 0,.slice none 0 0,.slice none 0 0,.slice none 0 0,.slice none 0 0,.slice none 0 0,.slice none 0 0] 46,.blk (w.heap.size+1+1) #[.int .i64 x.net.inputs,.slice G g g,.slice H n1 n1,.slice I n2 n2,.slice none 0 0,.slice none 0 0,.slice none 0 0,.slice none 0 0] 46,.cels x.net.cells [.int .i64 x.net.inputs,.slice G g g,.slice H n1 n1,.slice I n2 n2]]):=((((Q1.out.put 2 rfl 0 (.int .i64 x.net.inputs)).put 2 rfl 1 (.slice G g g)).put 2 rfl 2 (.slice H n1 n1)).put 2 rfl 3 (.slice I n2 n2))
 go_wp2_with fail
 refine (yB A3 n3 c3 x.blocks _ (R3.out.below Q2.out.bel) Z1.out).mono ?_
 rintro _ w2 ⟨J,rfl,o2,b2⟩
 have Q3:Hid (aJ w (w2) [.blk w.heap.size #[.int .i64 x.net.inputs,.slice A0 g U,.slice A1 n1 c1,.slice A2 n2 c2,.slice A3 n3 c3,.slice W q Y,.slice A5 u Z,.slice V B c6] 33,.blk (w.heap.size+1) #[.int .i64 0,.slice none 0 0,.slice none 0 0,.slice none 0 0,.slice none 0 0,.slice none 0 0,.slice none 0 0,.slice none 0 0] 46,.blk (w.heap.size+1+1) #[.int .i64 x.net.inputs,.slice G g g,.slice H n1 n1,.slice I n2 n2,.slice none 0 0,.slice none 0 0,.slice none 0 0,.slice none 0 0] 46,.cels x.net.cells [.int .i64 x.net.inputs,.slice G g g,.slice H n1 n1,.slice I n2 n2],.cel (aa x.blocks) (.slice J n3 n3)]):=(Q2.out.pushT b2 o2)
 clear o2 b2 x0 x1 x2 x3 x4 x5 x6 x7 z0 z1 z2 z3 z4 z5 z6 z7 y2 l0 l1 l2
 have z:=(Q3.out.blk 0 rfl).1
 have D:=(Q3.out.blk 1 rfl).1
 have j:=(Q3.out.blk 2 rfl).1
 obtain ⟨x0,x1,x2,x3,x4,x5,x6,x7⟩:=cs8 z
 obtain ⟨z0,z1,z2,z3,z4,z5,z6,z7⟩:=cs8 j
 have y2:=fun k=>aX j k
 have l0:=aC z
 have l1:=aC D
 have l2:=aC j
 clear z D j
 have Q4:Hid (aJ w (w2.setCell ⟨w.heap.size+1+1,4,none⟩ (.slice J n3 n3)) [.blk w.heap.size #[.int .i64 x.net.inputs,.slice A0 g U,.slice A1 n1 c1,.slice A2 n2 c2,.slice A3 n3 c3,.slice W q Y,.slice A5 u Z,.slice V B c6] 33,.blk (w.heap.size+1) #[.int .i64 0,.slice none 0 0,.slice none 0 0,.slice none 0 0,.slice none 0 0,.slice none 0 0,.slice none 0 0,.slice none 0 0] 46,.blk (w.heap.size+1+1) #[.int .i64 x.net.inputs,.slice G g g,.slice H n1 n1,.slice I n2 n2,.slice J n3 n3,.slice none 0 0,.slice none 0 0,.slice none 0 0] 46,.cels x.net.cells [.int .i64 x.net.inputs,.slice G g g,.slice H n1 n1,.slice I n2 n2],.cel (aa x.blocks) (.slice J n3 n3)]):=(Q3.out.put 2 rfl 4 (.slice J n3 n3))
 go_wp2_with fail
 refine (zi W q Y x.conns _ (R4.out.below Q4.out.bel) Z2.out).mono ?_
 rintro _ w3 ⟨K,rfl,o3,b3⟩
 have Q5:Hid (aJ w (w3) [.blk w.heap.size #[.int .i64 x.net.inputs,.slice A0 g U,.slice A1 n1 c1,.slice A2 n2 c2,.slice A3 n3 c3,.slice W q Y,.slice A5 u Z,.slice V B c6] 33,.blk (w.heap.size+1) #[.int .i64 0,.slice none 0 0,.slice none 0 0,.slice none 0 0,.slice none 0 0,.slice none 0 0,.slice none 0 0,.slice none 0 0] 46,.blk (w.heap.size+1+1) #[.int .i64 x.net.inputs,.slice G g g,.slice H n1 n1,.slice I n2 n2,.slice J n3 n3,.slice none 0 0,.slice none 0 0,.slice none 0 0] 46,.cels x.net.cells [.int .i64 x.net.inputs,.slice G g g,.slice H n1 n1,.slice I n2 n2],.cel (aa x.blocks) (.slice J n3 n3),.cel (ah x.conns) (.slice K q q)]):=(Q4.out.pushT b3 o3)
 clear o3 b3 x0 x1 x2 x3 x4 x5 x6 x7 z0 z1 z2 z3 z4 z5 z6 z7 y2 l0 l1 l2
 have z:=(Q5.out.blk 0 rfl).1
 have D:=(Q5.out.blk 1 rfl).1
 have j:=(Q5.out.blk 2 rfl).1
 obtain ⟨x0,x1,x2,x3,x4,x5,x6,x7⟩:=cs8 z
 obtain ⟨z0,z1,z2,z3,z4,z5,z6,z7⟩:=cs8 j
 have y2:=fun k=>aX j k
 have l0:=aC z
 have l1:=aC D
 have l2:=aC j
 clear z D j
 have Q6:Hid (aJ w (w3.setCell ⟨w.heap.size+1+1,5,none⟩ (.slice K q q)) [.blk w.heap.size #[.int .i64 x.net.inputs,.slice A0 g U,.slice A1 n1 c1,.slice A2 n2 c2,.slice A3 n3 c3,.slice W q Y,.slice A5 u Z,.slice V B c6] 33,.blk (w.heap.size+1) #[.int .i64 0,.slice none 0 0,.slice none 0 0,.slice none 0 0,.slice none 0 0,.slice none 0 0,.slice none 0 0,.slice none 0 0] 46,.blk (w.heap.size+1+1) #[.int .i64 x.net.inputs,.slice G g g,.slice H n1 n1,.slice I n2 n2,.slice J n3 n3,.slice K q q,.slice none 0 0,.slice none 0 0] 46,.cels x.net.cells [.int .i64 x.net.inputs,.slice G g g,.slice H n1 n1,.slice I n2 n2],.cel (aa x.blocks) (.slice J n3 n3),.cel (ah x.conns) (.slice K q q)]):=(Q5.out.put 2 rfl 5 (.slice K q q))
 go_wp2_with fail
 refine (pO A5 u Z x.place _ (R5.out.below Q6.out.bel) Z3.out).mono ?_
 rintro _ w4 ⟨Q,rfl,o4,b4⟩
 have Q7:Hid (aJ w (w4) [.blk w.heap.size #[.int .i64 x.net.inputs,.slice A0 g U,.slice A1 n1 c1,.slice A2 n2 c2,.slice A3 n3 c3,.slice W q Y,.slice A5 u Z,.slice V B c6] 33,.blk (w.heap.size+1) #[.int .i64 0,.slice none 0 0,.slice none 0 0,.slice none 0 0,.slice none 0 0,.slice none 0 0,.slice none 0 0,.slice none 0 0] 46,.blk (w.heap.size+1+1) #[.int .i64 x.net.inputs,.slice G g g,.slice H n1 n1,.slice I n2 n2,.slice J n3 n3,.slice K q q,.slice none 0 0,.slice none 0 0] 46,.cels x.net.cells [.int .i64 x.net.inputs,.slice G g g,.slice H n1 n1,.slice I n2 n2],.cel (aa x.blocks) (.slice J n3 n3),.cel (ah x.conns) (.slice K q q),.cel (aH x.place) (.slice Q u u)]):=(Q6.out.pushT b4 o4)
 clear o4 b4 x0 x1 x2 x3 x4 x5 x6 x7 z0 z1 z2 z3 z4 z5 z6 z7 y2 l0 l1 l2
 have z:=(Q7.out.blk 0 rfl).1
 have D:=(Q7.out.blk 1 rfl).1
 have j:=(Q7.out.blk 2 rfl).1
 obtain ⟨x0,x1,x2,x3,x4,x5,x6,x7⟩:=cs8 z
 obtain ⟨z0,z1,z2,z3,z4,z5,z6,z7⟩:=cs8 j
 have y2:=fun k=>aX j k
 have l0:=aC z
 have l1:=aC D
 have l2:=aC j
 clear z D j
 have Q8:Hid (aJ w (w4.setCell ⟨w.heap.size+1+1,6,none⟩ (.slice Q u u)) [.blk w.heap.size #[.int .i64 x.net.inputs,.slice A0 g U,.slice A1 n1 c1,.slice A2 n2 c2,.slice A3 n3 c3,.slice W q Y,.slice A5 u Z,.slice V B c6] 33,.blk (w.heap.size+1) #[.int .i64 0,.slice none 0 0,.slice none 0 0,.slice none 0 0,.slice none 0 0,.slice none 0 0,.slice none 0 0,.slice none 0 0] 46,.blk (w.heap.size+1+1) #[.int .i64 x.net.inputs,.slice G g g,.slice H n1 n1,.slice I n2 n2,.slice J n3 n3,.slice K q q,.slice Q u u,.slice none 0 0] 46,.cels x.net.cells [.int .i64 x.net.inputs,.slice G g g,.slice H n1 n1,.slice I n2 n2],.cel (aa x.blocks) (.slice J n3 n3),.cel (ah x.conns) (.slice K q q),.cel (aH x.place) (.slice Q u u)]):=(Q7.out.put 2 rfl 6 (.slice Q u u))
 go_wp2_with fail
 refine (yC V B c6 x.routes _ (R6.out.below Q8.out.bel) Z4.out).mono ?_
 rintro _ w5 ⟨R,rfl,o5,b5⟩
 have Q9:Hid (aJ w (w5) [.blk w.heap.size #[.int .i64 x.net.inputs,.slice A0 g U,.slice A1 n1 c1,.slice A2 n2 c2,.slice A3 n3 c3,.slice W q Y,.slice A5 u Z,.slice V B c6] 33,.blk (w.heap.size+1) #[.int .i64 0,.slice none 0 0,.slice none 0 0,.slice none 0 0,.slice none 0 0,.slice none 0 0,.slice none 0 0,.slice none 0 0] 46,.blk (w.heap.size+1+1) #[.int .i64 x.net.inputs,.slice G g g,.slice H n1 n1,.slice I n2 n2,.slice J n3 n3,.slice K q q,.slice Q u u,.slice none 0 0] 46,.cels x.net.cells [.int .i64 x.net.inputs,.slice G g g,.slice H n1 n1,.slice I n2 n2],.cel (aa x.blocks) (.slice J n3 n3),.cel (ah x.conns) (.slice K q q),.cel (aH x.place) (.slice Q u u),.cel (bH x.routes) (.slice R B B)]):=(Q8.out.pushT b5 o5)
 clear o5 b5 x0 x1 x2 x3 x4 x5 x6 x7 z0 z1 z2 z3 z4 z5 z6 z7 y2 l0 l1 l2
 have z:=(Q9.out.blk 0 rfl).1
 have D:=(Q9.out.blk 1 rfl).1
 have j:=(Q9.out.blk 2 rfl).1
 obtain ⟨x0,x1,x2,x3,x4,x5,x6,x7⟩:=cs8 z
 obtain ⟨z0,z1,z2,z3,z4,z5,z6,z7⟩:=cs8 j
 have y2:=fun k=>aX j k
 obtain ⟨u0,u1,u2,u3,u4,u5,u6,u7⟩:=cs8 D
 have y1:=fun k=>aX D k
 have l0:=aC z
 have l1:=aC D
 have l2:=aC j
 clear z D j
 have aF:Hid (aJ w (((((((((w5.setCell ⟨w.heap.size+1+1,7,none⟩ (.slice R B B)).setCell ⟨w.heap.size+1,0,none⟩ (.int .i64 x.net.inputs)).setCell ⟨w.heap.size+1,1,none⟩ (.slice G g g)).setCell ⟨w.heap.size+1,2,none⟩ (.slice H n1 n1)).setCell ⟨w.heap.size+1,3,none⟩ (.slice I n2 n2)).setCell ⟨w.heap.size+1,4,none⟩ (.slice J n3 n3)).setCell ⟨w.heap.size+1,5,none⟩ (.slice K q q)).setCell ⟨w.heap.size+1,6,none⟩ (.slice Q u u)).setCell ⟨w.heap.size+1,7,none⟩ (.slice R B B)) [.blk w.heap.size #[.int .i64 x.net.inputs,.slice A0 g U,.slice A1 n1 c1,.slice A2 n2 c2,.slice A3 n3 c3,.slice W q Y,.slice A5 u Z,.slice V B c6] 33,.blk (w.heap.size+1) #[.int .i64 x.net.inputs,.slice G g g,.slice H n1 n1,.slice I n2 n2,.slice J n3 n3,.slice K q q,.slice Q u u,.slice R B B] 46,.blk (w.heap.size+1+1) #[.int .i64 x.net.inputs,.slice G g g,.slice H n1 n1,.slice I n2 n2,.slice J n3 n3,.slice K q q,.slice Q u u,.slice R B B] 46,.cels x.net.cells [.int .i64 x.net.inputs,.slice G g g,.slice H n1 n1,.slice I n2 n2],.cel (aa x.blocks) (.slice J n3 n3),.cel (ah x.conns) (.slice K q q),.cel (aH x.place) (.slice Q u u),.cel (bH x.routes) (.slice R B B)]):=(((((((((Q9.out.put 2 rfl 7 (.slice R B B)).put 1 rfl 0 (.int .i64 x.net.inputs)).put 1 rfl 1 (.slice G g g)).put 1 rfl 2 (.slice H n1 n1)).put 1 rfl 3 (.slice I n2 n2)).put 1 rfl 4 (.slice J n3 n3)).put 1 rfl 5 (.slice K q q)).put 1 rfl 6 (.slice Q u u)).put 1 rfl 7 (.slice R B B))
 go_wp2_with fail
 generalize ((((((((w5.setCell ⟨w.heap.size+1+1,7,none⟩ (.slice R B B)).setCell ⟨w.heap.size+1,0,none⟩ (.int .i64 x.net.inputs)).setCell ⟨w.heap.size+1,1,none⟩ (.slice G g g)).setCell ⟨w.heap.size+1,2,none⟩ (.slice H n1 n1)).setCell ⟨w.heap.size+1,3,none⟩ (.slice I n2 n2)).setCell ⟨w.heap.size+1,4,none⟩ (.slice J n3 n3)).setCell ⟨w.heap.size+1,5,none⟩ (.slice K q q)).setCell ⟨w.heap.size+1,6,none⟩ (.slice Q u u)).setCell ⟨w.heap.size+1,7,none⟩ (.slice R B B)=WF at *
 clear x0 x1 x2 x3 x4 x5 x6 x7 z0 z1 z2 z3 z4 z5 z6 z7 y2 u0 u1 u2 u3 u4 u5 u6 u7 y1 l0 l1 l2
 have hb:WF.heap[w.heap.size+1]?=some (.cells #[.int .i64 x.net.inputs,.slice G g g,.slice H n1 n1,.slice I n2 n2,.slice J n3 n3,.slice K q q,.slice Q u u,.slice R B B] 46 (0,0)):=(aF.out.blk 1 rfl).1
 exact bodyPost_ret (v := .agg #[.int .i64 x.net.inputs,.slice G g g,.slice H n1 n1,.slice I n2 n2,.slice J n3 n3,.slice K q q,.slice Q u u,.slice R B B]) (fE Tryz.results10 rfl hb Tryz.underlying46 (by kernel_rfl)) rfl ⟨G,H,I,J,K,Q,R,rfl,aF.out.tail.tail.tail.ownsL rfl,aF.out.bel⟩
end Go.Proofs.YtofihjoanjkdmaaGreat
