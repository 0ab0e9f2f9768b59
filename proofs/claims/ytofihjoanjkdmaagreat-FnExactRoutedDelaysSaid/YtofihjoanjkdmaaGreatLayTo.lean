/- The laws' copies of nested data (printed by mkto.py). -/
import Derived.Test.YtofihjoanjkdmaaGreatLaySz
import Derived.Test.YtofihjoanjkdmaaGreatResc
namespace Go.Proofs.YtofihjoanjkdmaaGreat
set_option maxHeartbeats 4000000
set_option maxRecDepth 100000
open Go.RowKit
theorem fO {l:List Value} {j:Nat} (h:j<l.length) (v:Value):(l.set j v).take (j+1)=l.take j++[v]:=by
 rw [List.take_add_one,List.getElem?_set_self h,List.take_set_of_le (Nat.le_refl _)]
 rfl
theorem kJ {α β:Type} {f:α→List β} {xs:List α} {k:Nat} {x:α} (h:xs[k]?=some x):(xs.take (k+1)).flatMap f=(xs.take k).flatMap f++f x:=by
 rw [List.take_add_one,h]
 simp
structure fe (w:World) (g:Nat) (e:TypeId) (s n k:Nat) (vs:List Value):Prop where
 blk:∃cur,w.heap[g]?=some (.cells cur e (0,0))/\cur.size=n * s/\cur.toList.take (k * s)=vs
 len:vs.length=k * s
theorem fe.tr {w w':World} {g:Nat} {e:TypeId} {s n k:Nat} {vs:List Value} (h:fe w g e s n k vs) (j:Below w.heap.size w w'):fe w' g e s n k vs:=by
 obtain ⟨⟨cur,h1,h2,h3⟩,h4⟩:=h
 exact ⟨⟨cur,aC j h1,h2,h3⟩,h4⟩
theorem fe.lt {w:World} {g:Nat} {e:TypeId} {s n k:Nat} {vs:List Value} (h:fe w g e s n k vs):g<w.heap.size:=by
 obtain ⟨⟨cur,h1,h2,h3⟩,h4⟩:=h
 exact aB h1
theorem fe.cell {w:World} {g:Nat} {e:TypeId} {s n k:Nat} {vs:List Value} (h:fe w g e s n k vs) (hk:k<n) (j:Nat) (hj:j<s):∃u,w.cell? ⟨g,k * s+j,none⟩=some u:=by
 obtain ⟨⟨cur,h1,h2,h3⟩,h4⟩:=h
 have z:=Nat.mul_le_mul_right s (show k+1<=n by omega)
 rw [Nat.succ_mul] at z
 have q:k * s+j<cur.size:=by omega
 exact ⟨cur[k * s+j],by unfold World.cell?;rw [h1];simp [q]⟩
theorem fe.frozen {w:World} {g:Nat} {e:TypeId} {s n k:Nat} {vs:List Value} (h:fe w g e s n k vs) (j:Nat):w.frozen? ⟨g,j,none⟩=false:=by
 obtain ⟨⟨cur,h1,h2,h3⟩,h4⟩:=h
 exact aW h1 j
theorem fe.put2 {w:World} {g:Nat} {e:TypeId} {n k:Nat} {vs:List Value} (h:fe w g e 2 n k vs) (hk:k<n) (q j:Value):fe ((w.setCell ⟨g,k * 2,none⟩ q).setCell ⟨g,k * 2+1,none⟩ j) g e 2 n (k+1) (vs++[q,j]):=by
 obtain ⟨⟨cur,h1,h2,h3⟩,h4⟩:=h
 refine ⟨⟨_,jf (jf h1 _ q) _ j,by simp [h2],?_⟩,by simp [h4];omega⟩
 have hl:cur.toList.length=n * 2:=by rw [Array.length_toList,h2]
 simp only [Array.toList_setIfInBounds]
 rw [show (k+1) * 2=k * 2+1+1 by omega,fO (by simp;omega),fO (by omega),h3]
 simp
theorem fe.put3 {w:World} {g:Nat} {e:TypeId} {n k:Nat} {vs:List Value} (h:fe w g e 3 n k vs) (hk:k<n) (u q j:Value):fe (((w.setCell ⟨g,k * 3,none⟩ u).setCell ⟨g,k * 3+1,none⟩ q).setCell ⟨g,k * 3+2,none⟩ j) g e 3 n (k+1) (vs++[u,q,j]):=by
 obtain ⟨⟨cur,h1,h2,h3⟩,h4⟩:=h
 refine ⟨⟨_,jf (jf (jf h1 _ u) _ q) _ j,by simp [h2],?_⟩,by simp [h4];omega⟩
 have hl:cur.toList.length=n * 3:=by rw [Array.length_toList,h2]
 simp only [Array.toList_setIfInBounds]
 rw [show (k+1) * 3=k * 3+2+1 by omega,fO (by simp;omega),show k * 3+2=k * 3+1+1 from rfl,fO (by simp;omega),fO (by omega),h3]
 simp
theorem fe.put4 {w:World} {g:Nat} {e:TypeId} {n k:Nat} {vs:List Value} (h:fe w g e 4 n k vs) (hk:k<n) (u q j z:Value):fe ((((w.setCell ⟨g,k * 4,none⟩ u).setCell ⟨g,k * 4+1,none⟩ q).setCell ⟨g,k * 4+2,none⟩ j).setCell ⟨g,k * 4+3,none⟩ z) g e 4 n (k+1) (vs++[u,q,j,z]):=by
 obtain ⟨⟨cur,h1,h2,h3⟩,h4⟩:=h
 refine ⟨⟨_,jf (jf (jf (jf h1 _ u) _ q) _ j) _ z,by simp [h2],?_⟩,by simp [h4];omega⟩
 have hl:cur.toList.length=n * 4:=by rw [Array.length_toList,h2]
 simp only [Array.toList_setIfInBounds]
 rw [show (k+1) * 4=k * 4+3+1 by omega,fO (by simp;omega),show k * 4+3=k * 4+2+1 from rfl,fO (by simp;omega),show k * 4+2=k * 4+1+1 from rfl,fO (by simp;omega),fO (by omega),h3]
 simp
theorem fe.new {w:World} {e:TypeId} {s n:Nat} {cur:Array Value} (h:cur.size=n * s):fe (w.alloc (.cells cur e)) w.heap.size e s n 0 []:=⟨⟨cur,aI _ _,h,by simp⟩,by simp⟩
theorem fe.own {w:World} {g hi:Nat} {e:TypeId} {s n:Nat} {vs:List Value} {cs:List Cel} (h:fe w g e s n n vs) (hn:n<=maxLen) (ho:di (g+1) hi w cs vs) (B:g<hi):gF g hi w (.row e s cs) (.slice (some ⟨g,0,none⟩) n n):=by
 obtain ⟨⟨cur,h1,h2,h3⟩,h4⟩:=h
 obtain ⟨F,u,z,j⟩:=ho
 refine ⟨g :: F,?_,?_,fun k hk=>?_⟩
 ·rw [eY]
  exact ⟨_,n,n,vs,F,rfl,⟨h4,.inr ⟨g,n,cur,rfl,Nat.zero_le _,h1,Nat.le_refl _,hn,h2,h3⟩⟩,rfl,u⟩
 ·rw [List.nodup_cons]
  exact ⟨fun q=>by have:=j g q;omega,z⟩
 rw [List.mem_cons] at hk
 rcases hk with rfl|hk
 ·omega
 have:=j k hk;omega
theorem di.chgZ {lo hi j g:Nat} {w w':World} {cs:List Cel} {vs:List Value} (h:di lo hi w cs vs) (hg:Chg j g w w') (q:hi<=j∨g<=lo):di lo hi w' cs vs:=h.keep fun k h1 h2 hk=>hg.block k hk (by omega)
theorem di.appZ {lo j g hi:Nat} {w:World} {cs u:List Cel} {vs D:List Value} (h:di lo j w cs vs) (k:di g hi w u D) (h1:j<=g) (h2:lo<=g) (h3:j<=hi):di lo hi w (cs++u) (vs++D):=by
 obtain ⟨F,Q,K,z⟩:=h
 obtain ⟨G,J,I,B⟩:=k
 refine ⟨F++G,Q.append J,?_,fun k hk=>?_⟩
 ·rw [List.nodup_append]
  exact ⟨K,I,fun p H q hq e=>by have:=z p H;have:=B q hq;omega⟩
 rcases List.mem_append.1 hk with hk|hk
 ·have:=z k hk;omega
 have:=B k hk;omega
def Pc.ces:Pc→List Cel
 | .cel c _=>[c]
 | .cels cs _=>cs
 | .own _ _=>[]
def Pc.vals:Pc→List Value
 | .cel _ v=>[v]
 | .cels _ vs=>vs
 | .own _ _=>[]
def Pc.isTree:Pc→Bool
 | .own _ _=>false
 | _=>true
theorem iO.ownL {w:World}:∀{j:List Pc} {F:List Nat},j.all Pc.isTree=true→iO w j F→ek w (j.flatMap Pc.ces) (j.flatMap Pc.vals) F
 | [],F,_,h=>by rw [show F=[] from h];exact fF.2 ⟨rfl,rfl⟩
 | p :: j,F,ht,h=>by
  obtain ⟨q,F2,rfl,h1,h2⟩:=h
  rw [List.all_cons,Bool.and_eq_true] at ht
  rw [List.flatMap_cons,List.flatMap_cons]
  refine ek.append ?_ (iO.ownL ht.2 h2)
  cases p with
  | cel c v=>exact dR.2 ⟨v,[],q,[],rfl,(List.append_nil _).symm,h1,fF.2 ⟨rfl,rfl⟩⟩
  | cels cs vs=>exact h1
  | own g P=>exact absurd ht.1 (by simp [Pc.isTree])
theorem aJ.ownsL {W w:World} {g:List Pc} (h:aJ W w g) (ht:g.all Pc.isTree=true):di W.heap.size w.heap.size w (g.flatMap Pc.ces) (g.flatMap Pc.vals):=by
 obtain ⟨_,F,h2,h3,h4⟩:=h
 exact ⟨F,h2.ownL ht,h3,fun k hk=>⟨h4 k hk,h2.lt k hk⟩⟩
theorem aJ.pushInt {W w:World} {g:List Pc} (h:aJ W w g) (x:Int):aJ W w (g++[.cel (.int x) (.int .i64 x)]) :=
 h.push (Below.refl _ _) (G:=[]) (show dD w (.int x) (.int .i64 x) [] from fU.2 ⟨rfl,rfl⟩) (by simp) (by simp)
theorem aJ.pushLs {W w w':World} {g:List Pc} {cs:List Cel} {vs:List Value} {hi:Nat} (h:aJ W w g) (j:Below w.heap.size w w') (ho:di w.heap.size hi w' cs vs):aJ W w' (g++[.cels cs vs]):=by
 obtain ⟨F,h1,h2,h3⟩:=ho
 exact h.push j h1 h2 fun k hk=>(h3 k hk).1
theorem jd (w:World) (j c1 c2:Array Value) (g q u:TypeId):aJ w (((w.alloc (.cells j g)).alloc (.cells c1 q)).alloc (.cells c2 u)) [.blk w.heap.size j g,.blk (w.heap.size+1) c1 q,.blk (w.heap.size+1+1) c2 u]:=by
 have h:=(((aJ.refl w).pushBlk j g).pushBlk c1 q).pushBlk c2 u
 have e1:(w.alloc (.cells j g)).heap.size=w.heap.size+1:=by simp
 have e2:((w.alloc (.cells j g)).alloc (.cells c1 q)).heap.size=w.heap.size+1+1:=by simp
 rw [e1,e2] at h
 exact h
theorem FY {w:World} {g:Nat} {cs:Array Value} {t:TypeId} (h:w.heap[g]?=some (.cells cs t (0,0))) {j:Nat} {v:Value} (hj:cs[j]?=some v):w.cell? ⟨g,j,none⟩=some v:=by
 unfold World.cell?
 rw [h]
 simpa using hj
theorem pK (A:Option Addr) (n c:Nat) (xs:List Int) (w:World) (h:RdC w w.heap.size (aG xs) (.slice A n c)) (j:szC (aG xs)<=1048576) :
  Calls Tryz.prog 43 #[.slice A n c] w fun e w'=>∃B,e = .returned (.slice B n n)/\gF w.heap.size w'.heap.size w' (aG xs) (.slice B n n)/\Below w.heap.size w w':=by
 have hn:=h.ints.1
 rw [nO,hn] at j
 refine (Ar A n c xs w h.ints (by omega)).mono ?_
 rintro e w' ⟨B,rfl,ho,g⟩
 exact ⟨B,rfl,⟨blk B,gB.2 ⟨ho.more (Nat.zero_le _),rfl⟩,by cases B <;> simp [blk],fun k hk=>by obtain ⟨a,rfl,rfl⟩:=nz.1 hk;exact ho.lt a rfl⟩,g⟩
theorem DF (D:Option Addr) (g B:Nat) (x:Lt) (w:World) (h0:RdC w w.heap.size (aG x.ins) (.slice D g B)) (hz:af x.cells<=1048576) :
  Calls Tryz.prog 173 #[.agg #[.slice D g B,.int .i64 x.mask]] w fun e w'=>∃q,e = .returned (.agg #[.slice q g g,.int .i64 x.mask])/\di w.heap.size w'.heap.size w' x.cells [.slice q g g,.int .i64 x.mask]/\Below w.heap.size w w':=by
 have R0:=Hd h0
 have HS:af x.cells=szC (aG x.ins):=by unfold Lt.cells;simp only [au,bM,fJ] <;> omega
 have Z0:Hid (szC (aG x.ins)<=1048576):=by show _<=_;omega
 have G:=Hd (jd w #[.slice D g B,.int .i64 x.mask] #[.slice none 0 0,.int .i64 0] #[.slice none 0 0,.int .i64 0] 184 96 96)
 have ad:w.heap.size≠w.heap.size+1+1:=by omega
 have ae:w.heap.size+1≠w.heap.size+1+1:=by omega
 have Y:w.heap.size≠w.heap.size+1:=by omega
 clear HS hz h0
 go_enter Tryz.func173,Tryz.ntmps173
 go_upto_region 2 with fail
 generalize ((w.alloc (.cells #[.slice D g B,.int .i64 x.mask] 184)).alloc (.cells #[.slice none 0 0,.int .i64 0] 96)).alloc (.cells #[.slice none 0 0,.int .i64 0] 96)=w0 at *
 have z:=(G.out.blk 0 rfl).1
 have u:=(G.out.blk 1 rfl).1
 have j:=(G.out.blk 2 rfl).1
 obtain ⟨R,U⟩:=cs2 z
 obtain ⟨V,I⟩:=cs2 j
 have Q:=fun k=>aW j k
 have l0:=aB z
 have l1:=aB u
 have l2:=aB j
 clear z u j
 go_wp2_with fail
 refine (pK D g B x.ins _ (R0.out.below G.out.bel) Z0.out).mono ?_
 rintro _ K ⟨q,rfl,W,Z⟩
 have H:Hid (aJ w (K) [.blk w.heap.size #[.slice D g B,.int .i64 x.mask] 184,.blk (w.heap.size+1) #[.slice none 0 0,.int .i64 0] 96,.blk (w.heap.size+1+1) #[.slice none 0 0,.int .i64 0] 96,.cel (aG x.ins) (.slice q g g)]):=(G.out.pushT Z W)
 clear W Z R U V I Q l0 l1 l2
 have z:=(H.out.blk 0 rfl).1
 have u:=(H.out.blk 1 rfl).1
 have j:=(H.out.blk 2 rfl).1
 obtain ⟨R,U⟩:=cs2 z
 obtain ⟨V,I⟩:=cs2 j
 have Q:=fun k=>aW j k
 obtain ⟨u0,u1⟩:=cs2 u
 have y1:=fun k=>aW u k
 have l0:=aB z
 have l1:=aB u
 have l2:=aB j
 clear z u j
 have J:Hid (aJ w ((((K.setCell ⟨w.heap.size+1+1,0,none⟩ (.slice q g g)).setCell ⟨w.heap.size+1+1,1,none⟩ (.int .i64 x.mask)).setCell ⟨w.heap.size+1,0,none⟩ (.slice q g g)).setCell ⟨w.heap.size+1,1,none⟩ (.int .i64 x.mask)) [.blk w.heap.size #[.slice D g B,.int .i64 x.mask] 184,.blk (w.heap.size+1) #[.slice q g g,.int .i64 x.mask] 96,.blk (w.heap.size+1+1) #[.slice q g g,.int .i64 x.mask] 96,.cel (aG x.ins) (.slice q g g),.cel (.int x.mask) (.int .i64 x.mask)]):=(((((H.out.put 2 rfl 0 (.slice q g g)).put 2 rfl 1 (.int .i64 x.mask)).pushInt x.mask).put 1 rfl 0 (.slice q g g)).put 1 rfl 1 (.int .i64 x.mask))
 go_wp2_with fail
 generalize (((K.setCell ⟨w.heap.size+1+1,0,none⟩ (.slice q g g)).setCell ⟨w.heap.size+1+1,1,none⟩ (.int .i64 x.mask)).setCell ⟨w.heap.size+1,0,none⟩ (.slice q g g)).setCell ⟨w.heap.size+1,1,none⟩ (.int .i64 x.mask)=WF at *
 clear R U V I Q u0 u1 y1 l0 l1 l2
 have hb:WF.heap[w.heap.size+1]?=some (.cells #[.slice q g g,.int .i64 x.mask] 96 (0,0)):=(J.out.blk 1 rfl).1
 exact bodyPost_ret (v := .agg #[.slice q g g,.int .i64 x.mask]) (iW Tryz.results173 rfl hb Tryz.underlying96 (by kernel_rfl)) rfl ⟨q,rfl,J.out.tail.tail.tail.ownsL rfl,J.out.bel⟩
theorem EE:(Tryz.prog.info? 96).map (fun i=>(i.zero,i.size,i.bytes))=some (some (.agg #[.slice none 0 0,.int .i64 0]),2,32):=by kernel_rfl
theorem Aw (A:Option Addr) (n c:Nat) (xs:List Lt) (w:World) (h:RdC w w.heap.size (bK xs) (.slice A n c)) (hz:szC (bK xs)<=1048576) :
  Calls Tryz.prog 90 #[.slice A n c] w fun e w'=>∃B,e = .returned (.slice B n n)/\gF w.heap.size w'.heap.size w' (bK xs) (.slice B n n)/\Below w.heap.size w w':=by
 obtain ⟨i0,hi,V,Q,I⟩:=info_parts EE
 have H:xs.length=n:=h.lutN'
 have HT:szC (bK xs)=n+af (xs.flatMap Lt.cells):=by unfold bK;rw [bv Lt.cells_length (by omega),H]
 have hn:n<=1048576:=by omega
 have HZ:Hid (af (xs.flatMap Lt.cells)<=1048576):=by show _<=_;omega
 have Y:=fun W=>dP (P:=Tryz.prog) 39 96 i0 _ Tryz.underlying39 hi V .i64 .i64 n n (Nat.le_refl _) (by rw [I];omega) (by omega) W
 have G:∀z:Array Value,(madeCells z (n * i0.size)).size=n * 2:=fun z=>by rw [size_madeCells,Q]
 generalize ad:madeCells _ (n * i0.size)=cz at Y
 have U:cz.size=n * 2:=by rw [←ad];exact G _
 clear hi V Q I G ad HT hz
 obtain ⟨HX,HR⟩:=hd2 H h
 clear h H
 go_enter Tryz.func90,Tryz.ntmps90
 go_wp2_with fail
 go_loopw [4] (fun i wr=>∃(k:Nat) (vs:List Value),k<=n/\i = .int .i64 k/\fe wr w.heap.size 96 2 n k vs/\di (w.heap.size+1) wr.heap.size wr ((xs.take k).flatMap Lt.cells) vs/\Below w.heap.size w wr/\w.heap.size<wr.heap.size) (fun i _=>n - (intOf i).toNat)
 ·exact ⟨0,[],Nat.zero_le _,rfl,fe.new U,by simpa using di.nil,aD (Below.refl _ _) _,by simp⟩
 obtain ⟨k,vs,hk,rfl,J,K,aj,ar⟩:=hrel
 obtain ⟨ae,ai,q⟩:=hd3 J K aj
 clear J K aj Y
 by_cases u:k<n
 ·have ay:=dT (by omega:k<n)
  have D:k<xs.length:=by rw [HX.out];exact u
  obtain ⟨b,o,S0,m0,p0,rfl,hb,c0,c1,r0⟩:=HR.out.lut' (k:=k) D
  have aR:b<wr.heap.size:=by have:=q.out.size;omega
  obtain ⟨i0,i1⟩:=ib (by omega:k<n)
  rw [←q.out.cell (p:=⟨b,o+k * 2,none⟩) hb] at c0
  rw [←q.out.cell (p:=⟨b,o+k * 2+1,none⟩) hb] at c1
  have Q0:=Hd (r0.below q.out)
  clear r0
  have au:Hid (af (xs[k]?.getD Lt.zero).cells<=1048576):=by show _<=_;exact Nat.le_trans (iw D) HZ.out
  have aq:=Hd (kJ (f:=Lt.cells) (getD_some Lt.zero D:xs[k]?=some (xs[k]?.getD Lt.zero)))
  clear D
  generalize xs[k]?.getD Lt.zero=x at *
  go_wp2_with fail
  refine (DF S0 m0 p0 x _ Q0.out au.out).mono ?_
  rintro e w2 ⟨B0,rfl,o2,b2⟩
  have ax:=b2.size
  have g:=Hd (ae.out.tr b2)
  have ak:=Hd (ai.out.below b2)
  have Z:=Hd (aA q.out b2)
  have O2:=Hd o2
  have aT:=g.out.lt
  clear o2 b2 c0 c1
  obtain ⟨u0,f0⟩:=g.out.cell u 0 (by omega)
  rw [Nat.add_zero] at f0
  obtain ⟨u1,f1⟩:=g.out.cell u 1 (by omega)
  have fz:=fun j=>g.out.frozen j
  go_wp2_with fail
  clear f0 f1 fz
  have HP:=Hd (g.out.put2 u (.slice B0 m0 m0) (.int .i64 x.mask))
  have R:Chg w.heap.size (w.heap.size+1) w2 ((w2.setCell ⟨w.heap.size,k * 2,none⟩ (.slice B0 m0 m0)).setCell ⟨w.heap.size,k * 2+1,none⟩ (.int .i64 x.mask)):=by
   repeat (first|exact Chg.refl _ _ _|refine Chg.set ?_ (Nat.le_refl _) (Nat.lt_succ_self _) _)
  have av:=R.size
  have az:=Hd (ak.out.chgZ R (.inr (Nat.le_refl _)))
  have am:=Hd (O2.out.chgZ R (.inr (by omega)))
  have ap:=Hd (kR Z.out R (Nat.le_refl _))
  generalize ao:World.setCell _ _ _=WE at *
  clear ao R
  go_roundw
  case rel =>
   refine ⟨k+1,_,by omega,by go_num,HP.out,?_,ap.out,by omega⟩
   rw [aq.out]
   exact (az.out.appZ am.out (Nat.le_refl _) (by omega) ax).widen (Nat.le_refl _) av
  simp [intOf];omega
 have aw:k=n:=by omega
 subst aw
 have ay:decide ((k:Int)<(k:Int))=false:=by simp
 go_wp2_with fail
 go_ret
 refine ⟨_,rfl,?_,q.out⟩
 have h:=ai.out
 rw [List.take_of_length_le (by rw [HX.out];exact Nat.le_refl _)] at h
 exact ae.out.own (by unfold maxLen;omega) h ar
theorem DI (D:Option Addr) (g B:Nat) (x:Sq) (w:World) (h0:RdC w w.heap.size (aG x.ins) (.slice D g B)) (hz:af x.cells<=1048576) :
  Calls Tryz.prog 172 #[.agg #[.int .i64 x.kind,.int .i64 x.init,.slice D g B]] w fun e w'=>∃q,e = .returned (.agg #[.int .i64 x.kind,.int .i64 x.init,.slice q g g])/\di w.heap.size w'.heap.size w' x.cells [.int .i64 x.kind,.int .i64 x.init,.slice q g g]/\Below w.heap.size w w':=by
 have R0:=Hd h0
 have HS:af x.cells=szC (aG x.ins):=by unfold Sq.cells;simp only [au,bM,fJ] <;> omega
 have Z2:Hid (szC (aG x.ins)<=1048576):=by show _<=_;omega
 have H:=Hd (jd w #[.int .i64 x.kind,.int .i64 x.init,.slice D g B] #[.int .i64 0,.int .i64 0,.slice none 0 0] #[.int .i64 0,.int .i64 0,.slice none 0 0] 182 91 91)
 have ag:w.heap.size≠w.heap.size+1+1:=by omega
 have ai:w.heap.size+1≠w.heap.size+1+1:=by omega
 have ad:w.heap.size≠w.heap.size+1:=by omega
 clear HS hz h0
 go_enter Tryz.func172,Tryz.ntmps172
 go_upto_region 2 with fail
 generalize ((w.alloc (.cells #[.int .i64 x.kind,.int .i64 x.init,.slice D g B] 182)).alloc (.cells #[.int .i64 0,.int .i64 0,.slice none 0 0] 91)).alloc (.cells #[.int .i64 0,.int .i64 0,.slice none 0 0] 91)=w0 at *
 have z:=(H.out.blk 0 rfl).1
 have u:=(H.out.blk 1 rfl).1
 have j:=(H.out.blk 2 rfl).1
 obtain ⟨U,V,Y⟩:=cs3 z
 obtain ⟨W,J,K⟩:=cs3 j
 have R:=fun k=>aW j k
 have l0:=aB z
 have l1:=aB u
 have l2:=aB j
 clear z u j
 have Q1:Hid (aJ w ((w0.setCell ⟨w.heap.size+1+1,0,none⟩ (.int .i64 x.kind)).setCell ⟨w.heap.size+1+1,1,none⟩ (.int .i64 x.init)) [.blk w.heap.size #[.int .i64 x.kind,.int .i64 x.init,.slice D g B] 182,.blk (w.heap.size+1) #[.int .i64 0,.int .i64 0,.slice none 0 0] 91,.blk (w.heap.size+1+1) #[.int .i64 x.kind,.int .i64 x.init,.slice none 0 0] 91,.cel (.int x.kind) (.int .i64 x.kind),.cel (.int x.init) (.int .i64 x.init)]):=((((H.out.put 2 rfl 0 (.int .i64 x.kind)).pushInt x.kind).put 2 rfl 1 (.int .i64 x.init)).pushInt x.init)
 go_wp2_with fail
 refine (pK D g B x.ins _ (R0.out.below Q1.out.bel) Z2.out).mono ?_
 rintro _ Q ⟨q,rfl,Z,b1⟩
 have G:Hid (aJ w (Q) [.blk w.heap.size #[.int .i64 x.kind,.int .i64 x.init,.slice D g B] 182,.blk (w.heap.size+1) #[.int .i64 0,.int .i64 0,.slice none 0 0] 91,.blk (w.heap.size+1+1) #[.int .i64 x.kind,.int .i64 x.init,.slice none 0 0] 91,.cel (.int x.kind) (.int .i64 x.kind),.cel (.int x.init) (.int .i64 x.init),.cel (aG x.ins) (.slice q g g)]):=(Q1.out.pushT b1 Z)
 clear Z b1 U V Y W J K R l0 l1 l2
 have z:=(G.out.blk 0 rfl).1
 have u:=(G.out.blk 1 rfl).1
 have j:=(G.out.blk 2 rfl).1
 obtain ⟨U,V,Y⟩:=cs3 z
 obtain ⟨W,J,K⟩:=cs3 j
 have R:=fun k=>aW j k
 obtain ⟨u0,u1,u2⟩:=cs3 u
 have y1:=fun k=>aW u k
 have l0:=aB z
 have l1:=aB u
 have l2:=aB j
 clear z u j
 have I:Hid (aJ w ((((Q.setCell ⟨w.heap.size+1+1,2,none⟩ (.slice q g g)).setCell ⟨w.heap.size+1,0,none⟩ (.int .i64 x.kind)).setCell ⟨w.heap.size+1,1,none⟩ (.int .i64 x.init)).setCell ⟨w.heap.size+1,2,none⟩ (.slice q g g)) [.blk w.heap.size #[.int .i64 x.kind,.int .i64 x.init,.slice D g B] 182,.blk (w.heap.size+1) #[.int .i64 x.kind,.int .i64 x.init,.slice q g g] 91,.blk (w.heap.size+1+1) #[.int .i64 x.kind,.int .i64 x.init,.slice q g g] 91,.cel (.int x.kind) (.int .i64 x.kind),.cel (.int x.init) (.int .i64 x.init),.cel (aG x.ins) (.slice q g g)]):=((((G.out.put 2 rfl 2 (.slice q g g)).put 1 rfl 0 (.int .i64 x.kind)).put 1 rfl 1 (.int .i64 x.init)).put 1 rfl 2 (.slice q g g))
 go_wp2_with fail
 generalize (((Q.setCell ⟨w.heap.size+1+1,2,none⟩ (.slice q g g)).setCell ⟨w.heap.size+1,0,none⟩ (.int .i64 x.kind)).setCell ⟨w.heap.size+1,1,none⟩ (.int .i64 x.init)).setCell ⟨w.heap.size+1,2,none⟩ (.slice q g g)=WF at *
 clear U V Y W J K R u0 u1 u2 y1 l0 l1 l2
 have hb:WF.heap[w.heap.size+1]?=some (.cells #[.int .i64 x.kind,.int .i64 x.init,.slice q g g] 91 (0,0)):=(I.out.blk 1 rfl).1
 exact bodyPost_ret (v := .agg #[.int .i64 x.kind,.int .i64 x.init,.slice q g g]) (iW Tryz.results172 rfl hb Tryz.underlying91 (by kernel_rfl)) rfl ⟨q,rfl,I.out.tail.tail.tail.ownsL rfl,I.out.bel⟩
theorem EF:(Tryz.prog.info? 91).map (fun i=>(i.zero,i.size,i.bytes))=some (some (.agg #[.int .i64 0,.int .i64 0,.slice none 0 0]),3,40):=by kernel_rfl
theorem Az (A:Option Addr) (n c:Nat) (xs:List Sq) (w:World) (h:RdC w w.heap.size (bD xs) (.slice A n c)) (hz:szC (bD xs)<=1048576) :
  Calls Tryz.prog 89 #[.slice A n c] w fun e w'=>∃B,e = .returned (.slice B n n)/\gF w.heap.size w'.heap.size w' (bD xs) (.slice B n n)/\Below w.heap.size w w':=by
 obtain ⟨i0,hi,V,Q,I⟩:=info_parts EF
 have H:xs.length=n:=h.sqN'
 have HT:szC (bD xs)=n+af (xs.flatMap Sq.cells):=by unfold bD;rw [bv Sq.cells_length (by omega),H]
 have hn:n<=1048576:=by omega
 have HZ:Hid (af (xs.flatMap Sq.cells)<=1048576):=by show _<=_;omega
 have Y:=fun W=>dP (P:=Tryz.prog) 38 91 i0 _ Tryz.underlying38 hi V .i64 .i64 n n (Nat.le_refl _) (by rw [I];omega) (by omega) W
 have G:∀z:Array Value,(madeCells z (n * i0.size)).size=n * 3:=fun z=>by rw [size_madeCells,Q]
 generalize ad:madeCells _ (n * i0.size)=cz at Y
 have U:cz.size=n * 3:=by rw [←ad];exact G _
 clear hi V Q I G ad HT hz
 obtain ⟨HX,HR⟩:=hd2 H h
 clear h H
 go_enter Tryz.func89,Tryz.ntmps89
 go_wp2_with fail
 go_loopw [4] (fun i wr=>∃(k:Nat) (vs:List Value),k<=n/\i = .int .i64 k/\fe wr w.heap.size 91 3 n k vs/\di (w.heap.size+1) wr.heap.size wr ((xs.take k).flatMap Sq.cells) vs/\Below w.heap.size w wr/\w.heap.size<wr.heap.size) (fun i _=>n - (intOf i).toNat)
 ·exact ⟨0,[],Nat.zero_le _,rfl,fe.new U,by simpa using di.nil,aD (Below.refl _ _) _,by simp⟩
 obtain ⟨k,vs,hk,rfl,J,K,aj,ar⟩:=hrel
 obtain ⟨ae,ai,q⟩:=hd3 J K aj
 clear J K aj Y
 by_cases u:k<n
 ·have ay:=dT (by omega:k<n)
  have D:k<xs.length:=by rw [HX.out];exact u
  obtain ⟨b,o,S0,m0,p0,rfl,hb,c0,c1,c2,r0⟩:=HR.out.sq' (k:=k) D
  have aR:b<wr.heap.size:=by have:=q.out.size;omega
  obtain ⟨i0,i1⟩:=ib (by omega:k<n)
  rw [←q.out.cell (p:=⟨b,o+k * 3,none⟩) hb] at c0
  rw [←q.out.cell (p:=⟨b,o+k * 3+1,none⟩) hb] at c1
  rw [←q.out.cell (p:=⟨b,o+k * 3+2,none⟩) hb] at c2
  have Q0:=Hd (r0.below q.out)
  clear r0
  have au:Hid (af (xs[k]?.getD Sq.zero).cells<=1048576):=by show _<=_;exact Nat.le_trans (iw D) HZ.out
  have aq:=Hd (kJ (f:=Sq.cells) (getD_some Sq.zero D:xs[k]?=some (xs[k]?.getD Sq.zero)))
  clear D
  generalize xs[k]?.getD Sq.zero=x at *
  go_wp2_with fail
  refine (DI S0 m0 p0 x _ Q0.out au.out).mono ?_
  rintro e w2 ⟨B0,rfl,o2,b2⟩
  have ax:=b2.size
  have g:=Hd (ae.out.tr b2)
  have ak:=Hd (ai.out.below b2)
  have Z:=Hd (aA q.out b2)
  have O2:=Hd o2
  have aT:=g.out.lt
  clear o2 b2 c0 c1 c2
  obtain ⟨u0,f0⟩:=g.out.cell u 0 (by omega)
  rw [Nat.add_zero] at f0
  obtain ⟨u1,f1⟩:=g.out.cell u 1 (by omega)
  obtain ⟨u2,f2⟩:=g.out.cell u 2 (by omega)
  have fz:=fun j=>g.out.frozen j
  go_wp2_with fail
  clear f0 f1 f2 fz
  have HP:=Hd (g.out.put3 u (.int .i64 x.kind) (.int .i64 x.init) (.slice B0 m0 m0))
  have R:Chg w.heap.size (w.heap.size+1) w2 (((w2.setCell ⟨w.heap.size,k * 3,none⟩ (.int .i64 x.kind)).setCell ⟨w.heap.size,k * 3+1,none⟩ (.int .i64 x.init)).setCell ⟨w.heap.size,k * 3+2,none⟩ (.slice B0 m0 m0)):=by
   repeat (first|exact Chg.refl _ _ _|refine Chg.set ?_ (Nat.le_refl _) (Nat.lt_succ_self _) _)
  have av:=R.size
  have aB:=Hd (ak.out.chgZ R (.inr (Nat.le_refl _)))
  have am:=Hd (O2.out.chgZ R (.inr (by omega)))
  have ap:=Hd (kR Z.out R (Nat.le_refl _))
  generalize ao:World.setCell _ _ _=WE at *
  clear ao R
  go_roundw
  case rel =>
   refine ⟨k+1,_,by omega,by go_num,HP.out,?_,ap.out,by omega⟩
   rw [aq.out]
   exact (aB.out.appZ am.out (Nat.le_refl _) (by omega) ax).widen (Nat.le_refl _) av
  simp [intOf];omega
 have aw:k=n:=by omega
 subst aw
 have ay:decide ((k:Int)<(k:Int))=false:=by simp
 go_wp2_with fail
 go_ret
 refine ⟨_,rfl,?_,q.out⟩
 have h:=ai.out
 rw [List.take_of_length_le (by rw [HX.out];exact Nat.le_refl _)] at h
 exact ae.out.own (by unfold maxLen;omega) h ar
theorem yC (H A1 A2:Option Addr) (g G n1 c1 n2 c2:Nat) (x:ai) (w:World) (h0:RdC w w.heap.size (bD x.seqs) (.slice H g G)) (h1:RdC w w.heap.size (bK x.luts) (.slice A1 n1 c1)) (h2:RdC w w.heap.size (aG x.outs) (.slice A2 n2 c2)) (hz:af x.cells<=1048576) :
  Calls Tryz.prog 26 #[.agg #[.int .i64 x.inputs,.slice H g G,.slice A1 n1 c1,.slice A2 n2 c2]] w fun e w'=>∃z B D,e = .returned (.agg #[.int .i64 x.inputs,.slice z g g,.slice B n1 n1,.slice D n2 n2])/\di w.heap.size w'.heap.size w' x.cells [.int .i64 x.inputs,.slice z g g,.slice B n1 n1,.slice D n2 n2]/\Below w.heap.size w w':=by
 obtain ⟨R0,R1,R2⟩:=hd3 h0 h1 h2
 have HS:af x.cells=szC (bD x.seqs)+szC (bK x.luts)+szC (aG x.outs):=by unfold ai.cells;simp only [au,bM,fJ] <;> omega
 have Z1:Hid (szC (bD x.seqs)<=1048576):=by show _<=_;omega
 have Z2:Hid (szC (bK x.luts)<=1048576):=by show _<=_;omega
 have Z3:Hid (szC (aG x.outs)<=1048576):=by show _<=_;omega
 have S0:=Hd (jd w #[.int .i64 x.inputs,.slice H g G,.slice A1 n1 c1,.slice A2 n2 c2] #[.int .i64 0,.slice none 0 0,.slice none 0 0,.slice none 0 0] #[.int .i64 0,.slice none 0 0,.slice none 0 0,.slice none 0 0] 28 41 41)
 have aq:w.heap.size≠w.heap.size+1+1:=by omega
 have aC:w.heap.size+1≠w.heap.size+1+1:=by omega
 have al:w.heap.size≠w.heap.size+1:=by omega
 clear HS hz h0 h1 h2
 go_enter Tryz.func26,Tryz.ntmps26
 go_upto_region 2 with fail
 generalize ((w.alloc (.cells #[.int .i64 x.inputs,.slice H g G,.slice A1 n1 c1,.slice A2 n2 c2] 28)).alloc (.cells #[.int .i64 0,.slice none 0 0,.slice none 0 0,.slice none 0 0] 41)).alloc (.cells #[.int .i64 0,.slice none 0 0,.slice none 0 0,.slice none 0 0] 41)=w0 at *
 have q:=(S0.out.blk 0 rfl).1
 have u:=(S0.out.blk 1 rfl).1
 have j:=(S0.out.blk 2 rfl).1
 obtain ⟨Q,U,Y,R⟩:=cs4 q
 obtain ⟨V,I,J,W⟩:=cs4 j
 have K:=fun k=>aW j k
 have l0:=aB q
 have l1:=aB u
 have l2:=aB j
 clear q u j
 have Q1:Hid (aJ w (w0.setCell ⟨w.heap.size+1+1,0,none⟩ (.int .i64 x.inputs)) [.blk w.heap.size #[.int .i64 x.inputs,.slice H g G,.slice A1 n1 c1,.slice A2 n2 c2] 28,.blk (w.heap.size+1) #[.int .i64 0,.slice none 0 0,.slice none 0 0,.slice none 0 0] 41,.blk (w.heap.size+1+1) #[.int .i64 x.inputs,.slice none 0 0,.slice none 0 0,.slice none 0 0] 41,.cel (.int x.inputs) (.int .i64 x.inputs)]):=((S0.out.put 2 rfl 0 (.int .i64 x.inputs)).pushInt x.inputs)
 go_wp2_with fail
 refine (Az H g G x.seqs _ (R0.out.below Q1.out.bel) Z1.out).mono ?_
 rintro _ w1 ⟨z,rfl,o1,b1⟩
 have Q2:Hid (aJ w (w1) [.blk w.heap.size #[.int .i64 x.inputs,.slice H g G,.slice A1 n1 c1,.slice A2 n2 c2] 28,.blk (w.heap.size+1) #[.int .i64 0,.slice none 0 0,.slice none 0 0,.slice none 0 0] 41,.blk (w.heap.size+1+1) #[.int .i64 x.inputs,.slice none 0 0,.slice none 0 0,.slice none 0 0] 41,.cel (.int x.inputs) (.int .i64 x.inputs),.cel (bD x.seqs) (.slice z g g)]):=(Q1.out.pushT b1 o1)
 clear o1 b1 Q U Y R V I J W K l0 l1 l2
 have q:=(Q2.out.blk 0 rfl).1
 have u:=(Q2.out.blk 1 rfl).1
 have j:=(Q2.out.blk 2 rfl).1
 obtain ⟨Q,U,Y,R⟩:=cs4 q
 obtain ⟨V,I,J,W⟩:=cs4 j
 have K:=fun k=>aW j k
 have l0:=aB q
 have l1:=aB u
 have l2:=aB j
 clear q u j
 have Q3:Hid (aJ w (w1.setCell ⟨w.heap.size+1+1,1,none⟩ (.slice z g g)) [.blk w.heap.size #[.int .i64 x.inputs,.slice H g G,.slice A1 n1 c1,.slice A2 n2 c2] 28,.blk (w.heap.size+1) #[.int .i64 0,.slice none 0 0,.slice none 0 0,.slice none 0 0] 41,.blk (w.heap.size+1+1) #[.int .i64 x.inputs,.slice z g g,.slice none 0 0,.slice none 0 0] 41,.cel (.int x.inputs) (.int .i64 x.inputs),.cel (bD x.seqs) (.slice z g g)]):=(Q2.out.put 2 rfl 1 (.slice z g g))
 go_wp2_with fail
 refine (Aw A1 n1 c1 x.luts _ (R1.out.below Q3.out.bel) Z2.out).mono ?_
 rintro _ w2 ⟨B,rfl,o2,b2⟩
 have Z:Hid (aJ w (w2) [.blk w.heap.size #[.int .i64 x.inputs,.slice H g G,.slice A1 n1 c1,.slice A2 n2 c2] 28,.blk (w.heap.size+1) #[.int .i64 0,.slice none 0 0,.slice none 0 0,.slice none 0 0] 41,.blk (w.heap.size+1+1) #[.int .i64 x.inputs,.slice z g g,.slice none 0 0,.slice none 0 0] 41,.cel (.int x.inputs) (.int .i64 x.inputs),.cel (bD x.seqs) (.slice z g g),.cel (bK x.luts) (.slice B n1 n1)]):=(Q3.out.pushT b2 o2)
 clear o2 b2 Q U Y R V I J W K l0 l1 l2
 have q:=(Z.out.blk 0 rfl).1
 have u:=(Z.out.blk 1 rfl).1
 have j:=(Z.out.blk 2 rfl).1
 obtain ⟨Q,U,Y,R⟩:=cs4 q
 obtain ⟨V,I,J,W⟩:=cs4 j
 have K:=fun k=>aW j k
 have l0:=aB q
 have l1:=aB u
 have l2:=aB j
 clear q u j
 have Q5:Hid (aJ w (w2.setCell ⟨w.heap.size+1+1,2,none⟩ (.slice B n1 n1)) [.blk w.heap.size #[.int .i64 x.inputs,.slice H g G,.slice A1 n1 c1,.slice A2 n2 c2] 28,.blk (w.heap.size+1) #[.int .i64 0,.slice none 0 0,.slice none 0 0,.slice none 0 0] 41,.blk (w.heap.size+1+1) #[.int .i64 x.inputs,.slice z g g,.slice B n1 n1,.slice none 0 0] 41,.cel (.int x.inputs) (.int .i64 x.inputs),.cel (bD x.seqs) (.slice z g g),.cel (bK x.luts) (.slice B n1 n1)]):=(Z.out.put 2 rfl 2 (.slice B n1 n1))
 go_wp2_with fail
 refine (pK A2 n2 c2 x.outs _ (R2.out.below Q5.out.bel) Z3.out).mono ?_
 rintro _ w3 ⟨D,rfl,o3,b3⟩
 have Q6:Hid (aJ w (w3) [.blk w.heap.size #[.int .i64 x.inputs,.slice H g G,.slice A1 n1 c1,.slice A2 n2 c2] 28,.blk (w.heap.size+1) #[.int .i64 0,.slice none 0 0,.slice none 0 0,.slice none 0 0] 41,.blk (w.heap.size+1+1) #[.int .i64 x.inputs,.slice z g g,.slice B n1 n1,.slice none 0 0] 41,.cel (.int x.inputs) (.int .i64 x.inputs),.cel (bD x.seqs) (.slice z g g),.cel (bK x.luts) (.slice B n1 n1),.cel (aG x.outs) (.slice D n2 n2)]):=(Q5.out.pushT b3 o3)
 clear o3 b3 Q U Y R V I J W K l0 l1 l2
 have q:=(Q6.out.blk 0 rfl).1
 have u:=(Q6.out.blk 1 rfl).1
 have j:=(Q6.out.blk 2 rfl).1
 obtain ⟨Q,U,Y,R⟩:=cs4 q
 obtain ⟨V,I,J,W⟩:=cs4 j
 have K:=fun k=>aW j k
 obtain ⟨u0,u1,u2,u3⟩:=cs4 u
 have y1:=fun k=>aW u k
 have l0:=aB q
 have l1:=aB u
 have l2:=aB j
 clear q u j
 have Q7:Hid (aJ w (((((w3.setCell ⟨w.heap.size+1+1,3,none⟩ (.slice D n2 n2)).setCell ⟨w.heap.size+1,0,none⟩ (.int .i64 x.inputs)).setCell ⟨w.heap.size+1,1,none⟩ (.slice z g g)).setCell ⟨w.heap.size+1,2,none⟩ (.slice B n1 n1)).setCell ⟨w.heap.size+1,3,none⟩ (.slice D n2 n2)) [.blk w.heap.size #[.int .i64 x.inputs,.slice H g G,.slice A1 n1 c1,.slice A2 n2 c2] 28,.blk (w.heap.size+1) #[.int .i64 x.inputs,.slice z g g,.slice B n1 n1,.slice D n2 n2] 41,.blk (w.heap.size+1+1) #[.int .i64 x.inputs,.slice z g g,.slice B n1 n1,.slice D n2 n2] 41,.cel (.int x.inputs) (.int .i64 x.inputs),.cel (bD x.seqs) (.slice z g g),.cel (bK x.luts) (.slice B n1 n1),.cel (aG x.outs) (.slice D n2 n2)]):=(((((Q6.out.put 2 rfl 3 (.slice D n2 n2)).put 1 rfl 0 (.int .i64 x.inputs)).put 1 rfl 1 (.slice z g g)).put 1 rfl 2 (.slice B n1 n1)).put 1 rfl 3 (.slice D n2 n2))
 go_wp2_with fail
 generalize ((((w3.setCell ⟨w.heap.size+1+1,3,none⟩ (.slice D n2 n2)).setCell ⟨w.heap.size+1,0,none⟩ (.int .i64 x.inputs)).setCell ⟨w.heap.size+1,1,none⟩ (.slice z g g)).setCell ⟨w.heap.size+1,2,none⟩ (.slice B n1 n1)).setCell ⟨w.heap.size+1,3,none⟩ (.slice D n2 n2)=WF at *
 clear Q U Y R V I J W K u0 u1 u2 u3 y1 l0 l1 l2
 have hb:WF.heap[w.heap.size+1]?=some (.cells #[.int .i64 x.inputs,.slice z g g,.slice B n1 n1,.slice D n2 n2] 41 (0,0)):=(Q7.out.blk 1 rfl).1
 exact bodyPost_ret (v := .agg #[.int .i64 x.inputs,.slice z g g,.slice B n1 n1,.slice D n2 n2]) (iW Tryz.results26 rfl hb Tryz.underlying41 (by kernel_rfl)) rfl ⟨z,B,D,rfl,Q7.out.tail.tail.tail.ownsL rfl,Q7.out.bel⟩
theorem EG (x:LeT) (w:World) :
  Calls Tryz.prog 256 #[.agg #[.int .i64 x.lut,.int .i64 x.ff]] w fun e w'=>e = .returned (.agg #[.int .i64 x.lut,.int .i64 x.ff])/\di w.heap.size w'.heap.size w' x.cells [.int .i64 x.lut,.int .i64 x.ff]/\Below w.heap.size w w':=by
 go_enter Tryz.func256,Tryz.ntmps256
 go_wp2_with fail
 refine bodyPost_ret (v := .agg #[.int .i64 x.lut,.int .i64 x.ff]) (by simp [results,Tryz.results256,go_sem]) rfl ⟨rfl,?_,aD (aD (aD (Below.refl _ _) _) _) _⟩
 exact ⟨[],dR.2 ⟨_,_,[],[],rfl,rfl,fU.2 ⟨rfl,rfl⟩,dR.2 ⟨_,_,[],[],rfl,rfl,fU.2 ⟨rfl,rfl⟩,fF.2 ⟨rfl,rfl⟩⟩⟩,by simp,by simp⟩
theorem Eu:(Tryz.prog.info? 94).map (fun i=>(i.zero,i.size,i.bytes))=some (some (.agg #[.int .i64 0,.int .i64 0]),2,16):=by kernel_rfl
theorem DJ (A:Option Addr) (n c:Nat) (xs:List LeT) (w:World) (h:RdC w w.heap.size (cO xs) (.slice A n c)) (hz:szC (cO xs)<=1048576) :
  Calls Tryz.prog 210 #[.slice A n c] w fun e w'=>∃B,e = .returned (.slice B n n)/\gF w.heap.size w'.heap.size w' (cO xs) (.slice B n n)/\Below w.heap.size w w':=by
 obtain ⟨i0,hi,V,Q,I⟩:=info_parts Eu
 have G:xs.length=n:=h.esN
 have HT:szC (cO xs)=n+af (xs.flatMap LeT.cells):=by unfold cO;rw [bv LeT.cells_length (by omega),G]
 have hn:n<=1048576:=by omega
 have HZ:Hid (af (xs.flatMap LeT.cells)<=1048576):=by show _<=_;omega
 have Y:=fun W=>dP (P:=Tryz.prog) 87 94 i0 _ Tryz.underlying87 hi V .i64 .i64 n n (Nat.le_refl _) (by rw [I];omega) (by omega) W
 have D:∀z:Array Value,(madeCells z (n * i0.size)).size=n * 2:=fun z=>by rw [size_madeCells,Q]
 generalize ad:madeCells _ (n * i0.size)=cz at Y
 have U:cz.size=n * 2:=by rw [←ad];exact D _
 clear hi V Q I D ad HT hz
 obtain ⟨HX,HR⟩:=hd2 G h
 clear h G
 go_enter Tryz.func210,Tryz.ntmps210
 go_wp2_with fail
 go_loopw [4] (fun i wr=>∃(k:Nat) (vs:List Value),k<=n/\i = .int .i64 k/\fe wr w.heap.size 94 2 n k vs/\di (w.heap.size+1) wr.heap.size wr ((xs.take k).flatMap LeT.cells) vs/\Below w.heap.size w wr/\w.heap.size<wr.heap.size) (fun i _=>n - (intOf i).toNat)
 ·exact ⟨0,[],Nat.zero_le _,rfl,fe.new U,by simpa using di.nil,aD (Below.refl _ _) _,by simp⟩
 obtain ⟨k,vs,hk,rfl,J,K,ai,aq⟩:=hrel
 obtain ⟨ae,ah,q⟩:=hd3 J K ai
 clear J K ai Y
 by_cases u:k<n
 ·have aw:=dT (by omega:k<n)
  have H:k<xs.length:=by rw [HX.out];exact u
  obtain ⟨b,o,rfl,hb,c0,c1⟩:=HR.out.es (k:=k) H
  have aL:b<wr.heap.size:=by have:=q.out.size;omega
  obtain ⟨i0,i1⟩:=ib (by omega:k<n)
  rw [←q.out.cell (p:=⟨b,o+k * 2,none⟩) hb] at c0
  rw [←q.out.cell (p:=⟨b,o+k * 2+1,none⟩) hb] at c1
  skip
  clear HZ
  have ap:=Hd (kJ (f:=LeT.cells) (getD_some LeT.zero H:xs[k]?=some (xs[k]?.getD LeT.zero)))
  clear H
  generalize xs[k]?.getD LeT.zero=x at *
  go_wp2_with fail
  refine (EG x _).mono ?_
  rintro e w2 ⟨rfl,o2,b2⟩
  have av:=b2.size
  have g:=Hd (ae.out.tr b2)
  have aj:=Hd (ah.out.below b2)
  have Z:=Hd (aA q.out b2)
  have O2:=Hd o2
  have aM:=g.out.lt
  clear o2 b2 c0 c1
  obtain ⟨u0,f0⟩:=g.out.cell u 0 (by omega)
  rw [Nat.add_zero] at f0
  obtain ⟨u1,f1⟩:=g.out.cell u 1 (by omega)
  have fz:=fun j=>g.out.frozen j
  go_wp2_with fail
  clear f0 f1 fz
  have HP:=Hd (g.out.put2 u (.int .i64 x.lut) (.int .i64 x.ff))
  have R:Chg w.heap.size (w.heap.size+1) w2 ((w2.setCell ⟨w.heap.size,k * 2,none⟩ (.int .i64 x.lut)).setCell ⟨w.heap.size,k * 2+1,none⟩ (.int .i64 x.ff)):=by
   repeat (first|exact Chg.refl _ _ _|refine Chg.set ?_ (Nat.le_refl _) (Nat.lt_succ_self _) _)
  have ar:=R.size
  have ax:=Hd (aj.out.chgZ R (.inr (Nat.le_refl _)))
  have al:=Hd (O2.out.chgZ R (.inr (by omega)))
  have ao:=Hd (kR Z.out R (Nat.le_refl _))
  generalize am:World.setCell _ _ _=WE at *
  clear am R
  go_roundw
  case rel =>
   refine ⟨k+1,_,by omega,by go_num,HP.out,?_,ao.out,by omega⟩
   rw [ap.out]
   exact (ax.out.appZ al.out (Nat.le_refl _) (by omega) av).widen (Nat.le_refl _) ar
  simp [intOf];omega
 have au:k=n:=by omega
 subst au
 have aw:decide ((k:Int)<(k:Int))=false:=by simp
 go_wp2_with fail
 go_ret
 refine ⟨_,rfl,?_,q.out⟩
 have h:=ah.out
 rw [List.take_of_length_le (by rw [HX.out];exact Nat.le_refl _)] at h
 exact ae.out.own (by unfold maxLen;omega) h aq
theorem zf (D:Option Addr) (g B:Nat) (x:Blk) (w:World) (h0:RdC w w.heap.size (cO x.les) (.slice D g B)) (hz:af x.cells<=1048576) :
  Calls Tryz.prog 120 #[.agg #[.int .i64 x.kind,.int .i64 x.item,.slice D g B]] w fun e w'=>∃q,e = .returned (.agg #[.int .i64 x.kind,.int .i64 x.item,.slice q g g])/\di w.heap.size w'.heap.size w' x.cells [.int .i64 x.kind,.int .i64 x.item,.slice q g g]/\Below w.heap.size w w':=by
 have R0:=Hd h0
 have HS:af x.cells=szC (cO x.les):=by unfold Blk.cells;simp only [au,bM,fJ] <;> omega
 have Z2:Hid (szC (cO x.les)<=1048576):=by show _<=_;omega
 have H:=Hd (jd w #[.int .i64 x.kind,.int .i64 x.item,.slice D g B] #[.int .i64 0,.int .i64 0,.slice none 0 0] #[.int .i64 0,.int .i64 0,.slice none 0 0] 147 89 89)
 have ag:w.heap.size≠w.heap.size+1+1:=by omega
 have ai:w.heap.size+1≠w.heap.size+1+1:=by omega
 have ad:w.heap.size≠w.heap.size+1:=by omega
 clear HS hz h0
 go_enter Tryz.func120,Tryz.ntmps120
 go_upto_region 2 with fail
 generalize ((w.alloc (.cells #[.int .i64 x.kind,.int .i64 x.item,.slice D g B] 147)).alloc (.cells #[.int .i64 0,.int .i64 0,.slice none 0 0] 89)).alloc (.cells #[.int .i64 0,.int .i64 0,.slice none 0 0] 89)=w0 at *
 have z:=(H.out.blk 0 rfl).1
 have u:=(H.out.blk 1 rfl).1
 have j:=(H.out.blk 2 rfl).1
 obtain ⟨U,V,Y⟩:=cs3 z
 obtain ⟨W,J,K⟩:=cs3 j
 have R:=fun k=>aW j k
 have l0:=aB z
 have l1:=aB u
 have l2:=aB j
 clear z u j
 have Q1:Hid (aJ w ((w0.setCell ⟨w.heap.size+1+1,0,none⟩ (.int .i64 x.kind)).setCell ⟨w.heap.size+1+1,1,none⟩ (.int .i64 x.item)) [.blk w.heap.size #[.int .i64 x.kind,.int .i64 x.item,.slice D g B] 147,.blk (w.heap.size+1) #[.int .i64 0,.int .i64 0,.slice none 0 0] 89,.blk (w.heap.size+1+1) #[.int .i64 x.kind,.int .i64 x.item,.slice none 0 0] 89,.cel (.int x.kind) (.int .i64 x.kind),.cel (.int x.item) (.int .i64 x.item)]):=((((H.out.put 2 rfl 0 (.int .i64 x.kind)).pushInt x.kind).put 2 rfl 1 (.int .i64 x.item)).pushInt x.item)
 go_wp2_with fail
 refine (DJ D g B x.les _ (R0.out.below Q1.out.bel) Z2.out).mono ?_
 rintro _ Q ⟨q,rfl,Z,b1⟩
 have G:Hid (aJ w (Q) [.blk w.heap.size #[.int .i64 x.kind,.int .i64 x.item,.slice D g B] 147,.blk (w.heap.size+1) #[.int .i64 0,.int .i64 0,.slice none 0 0] 89,.blk (w.heap.size+1+1) #[.int .i64 x.kind,.int .i64 x.item,.slice none 0 0] 89,.cel (.int x.kind) (.int .i64 x.kind),.cel (.int x.item) (.int .i64 x.item),.cel (cO x.les) (.slice q g g)]):=(Q1.out.pushT b1 Z)
 clear Z b1 U V Y W J K R l0 l1 l2
 have z:=(G.out.blk 0 rfl).1
 have u:=(G.out.blk 1 rfl).1
 have j:=(G.out.blk 2 rfl).1
 obtain ⟨U,V,Y⟩:=cs3 z
 obtain ⟨W,J,K⟩:=cs3 j
 have R:=fun k=>aW j k
 obtain ⟨u0,u1,u2⟩:=cs3 u
 have y1:=fun k=>aW u k
 have l0:=aB z
 have l1:=aB u
 have l2:=aB j
 clear z u j
 have I:Hid (aJ w ((((Q.setCell ⟨w.heap.size+1+1,2,none⟩ (.slice q g g)).setCell ⟨w.heap.size+1,0,none⟩ (.int .i64 x.kind)).setCell ⟨w.heap.size+1,1,none⟩ (.int .i64 x.item)).setCell ⟨w.heap.size+1,2,none⟩ (.slice q g g)) [.blk w.heap.size #[.int .i64 x.kind,.int .i64 x.item,.slice D g B] 147,.blk (w.heap.size+1) #[.int .i64 x.kind,.int .i64 x.item,.slice q g g] 89,.blk (w.heap.size+1+1) #[.int .i64 x.kind,.int .i64 x.item,.slice q g g] 89,.cel (.int x.kind) (.int .i64 x.kind),.cel (.int x.item) (.int .i64 x.item),.cel (cO x.les) (.slice q g g)]):=((((G.out.put 2 rfl 2 (.slice q g g)).put 1 rfl 0 (.int .i64 x.kind)).put 1 rfl 1 (.int .i64 x.item)).put 1 rfl 2 (.slice q g g))
 go_wp2_with fail
 generalize (((Q.setCell ⟨w.heap.size+1+1,2,none⟩ (.slice q g g)).setCell ⟨w.heap.size+1,0,none⟩ (.int .i64 x.kind)).setCell ⟨w.heap.size+1,1,none⟩ (.int .i64 x.item)).setCell ⟨w.heap.size+1,2,none⟩ (.slice q g g)=WF at *
 clear U V Y W J K R u0 u1 u2 y1 l0 l1 l2
 have hb:WF.heap[w.heap.size+1]?=some (.cells #[.int .i64 x.kind,.int .i64 x.item,.slice q g g] 89 (0,0)):=(I.out.blk 1 rfl).1
 exact bodyPost_ret (v := .agg #[.int .i64 x.kind,.int .i64 x.item,.slice q g g]) (iW Tryz.results120 rfl hb Tryz.underlying89 (by kernel_rfl)) rfl ⟨q,rfl,I.out.tail.tail.tail.ownsL rfl,I.out.bel⟩
theorem A8:(Tryz.prog.info? 89).map (fun i=>(i.zero,i.size,i.bytes))=some (some (.agg #[.int .i64 0,.int .i64 0,.slice none 0 0]),3,40):=by kernel_rfl
theorem yD (A:Option Addr) (n c:Nat) (xs:List Blk) (w:World) (h:RdC w w.heap.size (aa xs) (.slice A n c)) (hz:szC (aa xs)<=1048576) :
  Calls Tryz.prog 41 #[.slice A n c] w fun e w'=>∃B,e = .returned (.slice B n n)/\gF w.heap.size w'.heap.size w' (aa xs) (.slice B n n)/\Below w.heap.size w w':=by
 obtain ⟨i0,hi,V,Q,I⟩:=info_parts A8
 have H:xs.length=n:=h.blkN
 have HT:szC (aa xs)=n+af (xs.flatMap Blk.cells):=by unfold aa;rw [bv Blk.cells_length (by omega),H]
 have hn:n<=1048576:=by omega
 have HZ:Hid (af (xs.flatMap Blk.cells)<=1048576):=by show _<=_;omega
 have Y:=fun W=>dP (P:=Tryz.prog) 42 89 i0 _ Tryz.underlying42 hi V .i64 .i64 n n (Nat.le_refl _) (by rw [I];omega) (by omega) W
 have G:∀z:Array Value,(madeCells z (n * i0.size)).size=n * 3:=fun z=>by rw [size_madeCells,Q]
 generalize ad:madeCells _ (n * i0.size)=cz at Y
 have U:cz.size=n * 3:=by rw [←ad];exact G _
 clear hi V Q I G ad HT hz
 obtain ⟨HX,HR⟩:=hd2 H h
 clear h H
 go_enter Tryz.func41,Tryz.ntmps41
 go_wp2_with fail
 go_loopw [4] (fun i wr=>∃(k:Nat) (vs:List Value),k<=n/\i = .int .i64 k/\fe wr w.heap.size 89 3 n k vs/\di (w.heap.size+1) wr.heap.size wr ((xs.take k).flatMap Blk.cells) vs/\Below w.heap.size w wr/\w.heap.size<wr.heap.size) (fun i _=>n - (intOf i).toNat)
 ·exact ⟨0,[],Nat.zero_le _,rfl,fe.new U,by simpa using di.nil,aD (Below.refl _ _) _,by simp⟩
 obtain ⟨k,vs,hk,rfl,J,K,aj,ar⟩:=hrel
 obtain ⟨ae,ai,q⟩:=hd3 J K aj
 clear J K aj Y
 by_cases u:k<n
 ·have ay:=dT (by omega:k<n)
  have D:k<xs.length:=by rw [HX.out];exact u
  obtain ⟨b,o,S0,m0,p0,rfl,hb,c0,c1,c2,r0⟩:=HR.out.blk (k:=k) D
  have aR:b<wr.heap.size:=by have:=q.out.size;omega
  obtain ⟨i0,i1⟩:=ib (by omega:k<n)
  rw [←q.out.cell (p:=⟨b,o+k * 3,none⟩) hb] at c0
  rw [←q.out.cell (p:=⟨b,o+k * 3+1,none⟩) hb] at c1
  rw [←q.out.cell (p:=⟨b,o+k * 3+2,none⟩) hb] at c2
  have Q0:=Hd (r0.below q.out)
  clear r0
  have au:Hid (af (xs[k]?.getD Blk.zero).cells<=1048576):=by show _<=_;exact Nat.le_trans (iw D) HZ.out
  have aq:=Hd (kJ (f:=Blk.cells) (getD_some Blk.zero D:xs[k]?=some (xs[k]?.getD Blk.zero)))
  clear D
  generalize xs[k]?.getD Blk.zero=x at *
  go_wp2_with fail
  refine (zf S0 m0 p0 x _ Q0.out au.out).mono ?_
  rintro e w2 ⟨B0,rfl,o2,b2⟩
  have ax:=b2.size
  have g:=Hd (ae.out.tr b2)
  have ak:=Hd (ai.out.below b2)
  have Z:=Hd (aA q.out b2)
  have O2:=Hd o2
  have aT:=g.out.lt
  clear o2 b2 c0 c1 c2
  obtain ⟨u0,f0⟩:=g.out.cell u 0 (by omega)
  rw [Nat.add_zero] at f0
  obtain ⟨u1,f1⟩:=g.out.cell u 1 (by omega)
  obtain ⟨u2,f2⟩:=g.out.cell u 2 (by omega)
  have fz:=fun j=>g.out.frozen j
  go_wp2_with fail
  clear f0 f1 f2 fz
  have HP:=Hd (g.out.put3 u (.int .i64 x.kind) (.int .i64 x.item) (.slice B0 m0 m0))
  have R:Chg w.heap.size (w.heap.size+1) w2 (((w2.setCell ⟨w.heap.size,k * 3,none⟩ (.int .i64 x.kind)).setCell ⟨w.heap.size,k * 3+1,none⟩ (.int .i64 x.item)).setCell ⟨w.heap.size,k * 3+2,none⟩ (.slice B0 m0 m0)):=by
   repeat (first|exact Chg.refl _ _ _|refine Chg.set ?_ (Nat.le_refl _) (Nat.lt_succ_self _) _)
  have av:=R.size
  have aB:=Hd (ak.out.chgZ R (.inr (Nat.le_refl _)))
  have am:=Hd (O2.out.chgZ R (.inr (by omega)))
  have ap:=Hd (kR Z.out R (Nat.le_refl _))
  generalize ao:World.setCell _ _ _=WE at *
  clear ao R
  go_roundw
  case rel =>
   refine ⟨k+1,_,by omega,by go_num,HP.out,?_,ap.out,by omega⟩
   rw [aq.out]
   exact (aB.out.appZ am.out (Nat.le_refl _) (by omega) ax).widen (Nat.le_refl _) av
  simp [intOf];omega
 have aw:k=n:=by omega
 subst aw
 have ay:decide ((k:Int)<(k:Int))=false:=by simp
 go_wp2_with fail
 go_ret
 refine ⟨_,rfl,?_,q.out⟩
 have h:=ai.out
 rw [List.take_of_length_le (by rw [HX.out];exact Nat.le_refl _)] at h
 exact ae.out.own (by unfold maxLen;omega) h ar
theorem xC (x:ah) (w:World) :
  Calls Tryz.prog 211 #[.agg #[.int .i64 x.block,.int .i64 x.pin]] w fun e w'=>e = .returned (.agg #[.int .i64 x.block,.int .i64 x.pin])/\di w.heap.size w'.heap.size w' x.cells [.int .i64 x.block,.int .i64 x.pin]/\Below w.heap.size w w':=by
 go_enter Tryz.func211,Tryz.ntmps211
 go_wp2_with fail
 refine bodyPost_ret (v := .agg #[.int .i64 x.block,.int .i64 x.pin]) (by simp [results,Tryz.results211,go_sem]) rfl ⟨rfl,?_,aD (aD (aD (Below.refl _ _) _) _) _⟩
 exact ⟨[],dR.2 ⟨_,_,[],[],rfl,rfl,fU.2 ⟨rfl,rfl⟩,dR.2 ⟨_,_,[],[],rfl,rfl,fU.2 ⟨rfl,rfl⟩,fF.2 ⟨rfl,rfl⟩⟩⟩,by simp,by simp⟩
theorem EH:(Tryz.prog.info? 100).map (fun i=>(i.zero,i.size,i.bytes))=some (some (.agg #[.int .i64 0,.int .i64 0]),2,16):=by kernel_rfl
theorem BB (A:Option Addr) (n c:Nat) (xs:List ah) (w:World) (h:RdC w w.heap.size (bL xs) (.slice A n c)) (hz:szC (bL xs)<=1048576) :
  Calls Tryz.prog 212 #[.slice A n c] w fun e w'=>∃B,e = .returned (.slice B n n)/\gF w.heap.size w'.heap.size w' (bL xs) (.slice B n n)/\Below w.heap.size w w':=by
 obtain ⟨i0,hi,V,Q,I⟩:=info_parts EH
 have G:xs.length=n:=h.pinN
 have HT:szC (bL xs)=n+af (xs.flatMap ah.cells):=by unfold bL;rw [bv ah.cells_length (by omega),G]
 have hn:n<=1048576:=by omega
 have HZ:Hid (af (xs.flatMap ah.cells)<=1048576):=by show _<=_;omega
 have Y:=fun W=>dP (P:=Tryz.prog) 156 100 i0 _ Tryz.underlying156 hi V .i64 .i64 n n (Nat.le_refl _) (by rw [I];omega) (by omega) W
 have D:∀z:Array Value,(madeCells z (n * i0.size)).size=n * 2:=fun z=>by rw [size_madeCells,Q]
 generalize ad:madeCells _ (n * i0.size)=cz at Y
 have U:cz.size=n * 2:=by rw [←ad];exact D _
 clear hi V Q I D ad HT hz
 obtain ⟨HX,HR⟩:=hd2 G h
 clear h G
 go_enter Tryz.func212,Tryz.ntmps212
 go_wp2_with fail
 go_loopw [4] (fun i wr=>∃(k:Nat) (vs:List Value),k<=n/\i = .int .i64 k/\fe wr w.heap.size 100 2 n k vs/\di (w.heap.size+1) wr.heap.size wr ((xs.take k).flatMap ah.cells) vs/\Below w.heap.size w wr/\w.heap.size<wr.heap.size) (fun i _=>n - (intOf i).toNat)
 ·exact ⟨0,[],Nat.zero_le _,rfl,fe.new U,by simpa using di.nil,aD (Below.refl _ _) _,by simp⟩
 obtain ⟨k,vs,hk,rfl,J,K,aj,ar⟩:=hrel
 obtain ⟨ae,ai,q⟩:=hd3 J K aj
 clear J K aj Y
 by_cases u:k<n
 ·have ax:=dT (by omega:k<n)
  have H:k<xs.length:=by rw [HX.out];exact u
  obtain ⟨b,o,rfl,hb,c0,c1⟩:=HR.out.pin (k:=k) H
  have aM:b<wr.heap.size:=by have:=q.out.size;omega
  obtain ⟨i0,i1⟩:=ib (by omega:k<n)
  rw [←q.out.cell (p:=⟨b,o+k * 2,none⟩) hb] at c0
  rw [←q.out.cell (p:=⟨b,o+k * 2+1,none⟩) hb] at c1
  skip
  clear HZ
  have aq:=Hd (kJ (f:=ah.cells) (getD_some ah.zero H:xs[k]?=some (xs[k]?.getD ah.zero)))
  clear H
  generalize xs[k]?.getD ah.zero=x at *
  go_wp2_with fail
  refine (xC x _).mono ?_
  rintro e w2 ⟨rfl,o2,b2⟩
  have aw:=b2.size
  have g:=Hd (ae.out.tr b2)
  have ak:=Hd (ai.out.below b2)
  have Z:=Hd (aA q.out b2)
  have O2:=Hd o2
  have aN:=g.out.lt
  clear o2 b2 c0 c1
  obtain ⟨u0,f0⟩:=g.out.cell u 0 (by omega)
  rw [Nat.add_zero] at f0
  obtain ⟨u1,f1⟩:=g.out.cell u 1 (by omega)
  have fz:=fun j=>g.out.frozen j
  go_wp2_with fail
  clear f0 f1 fz
  have HP:=Hd (g.out.put2 u (.int .i64 x.block) (.int .i64 x.pin))
  have R:Chg w.heap.size (w.heap.size+1) w2 ((w2.setCell ⟨w.heap.size,k * 2,none⟩ (.int .i64 x.block)).setCell ⟨w.heap.size,k * 2+1,none⟩ (.int .i64 x.pin)):=by
   repeat (first|exact Chg.refl _ _ _|refine Chg.set ?_ (Nat.le_refl _) (Nat.lt_succ_self _) _)
  have au:=R.size
  have ay:=Hd (ak.out.chgZ R (.inr (Nat.le_refl _)))
  have am:=Hd (O2.out.chgZ R (.inr (by omega)))
  have ap:=Hd (kR Z.out R (Nat.le_refl _))
  generalize ao:World.setCell _ _ _=WE at *
  clear ao R
  go_roundw
  case rel =>
   refine ⟨k+1,_,by omega,by go_num,HP.out,?_,ap.out,by omega⟩
   rw [aq.out]
   exact (ay.out.appZ am.out (Nat.le_refl _) (by omega) aw).widen (Nat.le_refl _) au
  simp [intOf];omega
 have av:k=n:=by omega
 subst av
 have ax:decide ((k:Int)<(k:Int))=false:=by simp
 go_wp2_with fail
 go_ret
 refine ⟨_,rfl,?_,q.out⟩
 have h:=ai.out
 rw [List.take_of_length_le (by rw [HX.out];exact Nat.le_refl _)] at h
 exact ae.out.own (by unfold maxLen;omega) h ar
theorem BC (D:Option Addr) (g B:Nat) (x:Cn) (w:World) (h0:RdC w w.heap.size (bL x.sinks) (.slice D g B)) (hz:af x.cells<=1048576) :
  Calls Tryz.prog 121 #[.agg #[.int .i64 x.node,.int .i64 x.src.block,.int .i64 x.src.pin,.slice D g B]] w fun e w'=>∃z,e = .returned (.agg #[.int .i64 x.node,.int .i64 x.src.block,.int .i64 x.src.pin,.slice z g g])/\di w.heap.size w'.heap.size w' x.cells [.int .i64 x.node,.int .i64 x.src.block,.int .i64 x.src.pin,.slice z g g]/\Below w.heap.size w w':=by
 have R0:=Hd h0
 have HS:af x.cells=szC (bL x.sinks):=by unfold Cn.cells;simp only [au,bM,fJ] <;> omega
 have Z2:Hid (szC (bL x.sinks)<=1048576):=by show _<=_;omega
 have Z:=Hd (jd w #[.int .i64 x.node,.int .i64 x.src.block,.int .i64 x.src.pin,.slice D g B] #[.int .i64 0,.int .i64 0,.int .i64 0,.slice none 0 0] #[.int .i64 0,.int .i64 0,.int .i64 0,.slice none 0 0] 152 158 158)
 have al:w.heap.size≠w.heap.size+1+1:=by omega
 have ap:w.heap.size+1≠w.heap.size+1+1:=by omega
 have ah:w.heap.size≠w.heap.size+1:=by omega
 clear HS hz h0
 go_enter Tryz.func121,Tryz.ntmps121
 go_upto_region 2 with fail
 generalize ((w.alloc (.cells #[.int .i64 x.node,.int .i64 x.src.block,.int .i64 x.src.pin,.slice D g B] 152)).alloc (.cells #[.int .i64 0,.int .i64 0,.int .i64 0,.slice none 0 0] 158)).alloc (.cells #[.int .i64 0,.int .i64 0,.int .i64 0,.slice none 0 0] 158)=w0 at *
 have q:=(Z.out.blk 0 rfl).1
 have u:=(Z.out.blk 1 rfl).1
 have j:=(Z.out.blk 2 rfl).1
 obtain ⟨J,Q,V,K⟩:=cs4 q
 obtain ⟨R,G,H,U⟩:=cs4 j
 have I:=fun k=>aW j k
 have l0:=aB q
 have l1:=aB u
 have l2:=aB j
 clear q u j
 have Q1:Hid (aJ w (w0.setCell ⟨w.heap.size+1+1,0,none⟩ (.int .i64 x.node)) [.blk w.heap.size #[.int .i64 x.node,.int .i64 x.src.block,.int .i64 x.src.pin,.slice D g B] 152,.blk (w.heap.size+1) #[.int .i64 0,.int .i64 0,.int .i64 0,.slice none 0 0] 158,.blk (w.heap.size+1+1) #[.int .i64 x.node,.int .i64 0,.int .i64 0,.slice none 0 0] 158,.cel (.int x.node) (.int .i64 x.node)]):=((Z.out.put 2 rfl 0 (.int .i64 x.node)).pushInt x.node)
 go_wp2_with fail
 refine (xC x.src _).mono ?_
 rintro _ w1 ⟨rfl,o1,b1⟩
 have Y:Hid (aJ w (w1) [.blk w.heap.size #[.int .i64 x.node,.int .i64 x.src.block,.int .i64 x.src.pin,.slice D g B] 152,.blk (w.heap.size+1) #[.int .i64 0,.int .i64 0,.int .i64 0,.slice none 0 0] 158,.blk (w.heap.size+1+1) #[.int .i64 x.node,.int .i64 0,.int .i64 0,.slice none 0 0] 158,.cel (.int x.node) (.int .i64 x.node),.cels x.src.cells [.int .i64 x.src.block,.int .i64 x.src.pin]]):=(Q1.out.pushLs b1 o1)
 clear o1 b1 J Q V K R G H U I l0 l1 l2
 have q:=(Y.out.blk 0 rfl).1
 have u:=(Y.out.blk 1 rfl).1
 have j:=(Y.out.blk 2 rfl).1
 obtain ⟨J,Q,V,K⟩:=cs4 q
 obtain ⟨R,G,H,U⟩:=cs4 j
 have I:=fun k=>aW j k
 have l0:=aB q
 have l1:=aB u
 have l2:=aB j
 clear q u j
 have Q3:Hid (aJ w ((w1.setCell ⟨w.heap.size+1+1,1,none⟩ (.int .i64 x.src.block)).setCell ⟨w.heap.size+1+1,2,none⟩ (.int .i64 x.src.pin)) [.blk w.heap.size #[.int .i64 x.node,.int .i64 x.src.block,.int .i64 x.src.pin,.slice D g B] 152,.blk (w.heap.size+1) #[.int .i64 0,.int .i64 0,.int .i64 0,.slice none 0 0] 158,.blk (w.heap.size+1+1) #[.int .i64 x.node,.int .i64 x.src.block,.int .i64 x.src.pin,.slice none 0 0] 158,.cel (.int x.node) (.int .i64 x.node),.cels x.src.cells [.int .i64 x.src.block,.int .i64 x.src.pin]]):=((Y.out.put 2 rfl 1 (.int .i64 x.src.block)).put 2 rfl 2 (.int .i64 x.src.pin))
 go_wp2_with fail
 refine (BB D g B x.sinks _ (R0.out.below Q3.out.bel) Z2.out).mono ?_
 rintro _ w2 ⟨z,rfl,o2,b2⟩
 have W:Hid (aJ w (w2) [.blk w.heap.size #[.int .i64 x.node,.int .i64 x.src.block,.int .i64 x.src.pin,.slice D g B] 152,.blk (w.heap.size+1) #[.int .i64 0,.int .i64 0,.int .i64 0,.slice none 0 0] 158,.blk (w.heap.size+1+1) #[.int .i64 x.node,.int .i64 x.src.block,.int .i64 x.src.pin,.slice none 0 0] 158,.cel (.int x.node) (.int .i64 x.node),.cels x.src.cells [.int .i64 x.src.block,.int .i64 x.src.pin],.cel (bL x.sinks) (.slice z g g)]):=(Q3.out.pushT b2 o2)
 clear o2 b2 J Q V K R G H U I l0 l1 l2
 have q:=(W.out.blk 0 rfl).1
 have u:=(W.out.blk 1 rfl).1
 have j:=(W.out.blk 2 rfl).1
 obtain ⟨J,Q,V,K⟩:=cs4 q
 obtain ⟨R,G,H,U⟩:=cs4 j
 have I:=fun k=>aW j k
 obtain ⟨u0,u1,u2,u3⟩:=cs4 u
 have y1:=fun k=>aW u k
 have l0:=aB q
 have l1:=aB u
 have l2:=aB j
 clear q u j
 have Q5:Hid (aJ w (((((w2.setCell ⟨w.heap.size+1+1,3,none⟩ (.slice z g g)).setCell ⟨w.heap.size+1,0,none⟩ (.int .i64 x.node)).setCell ⟨w.heap.size+1,1,none⟩ (.int .i64 x.src.block)).setCell ⟨w.heap.size+1,2,none⟩ (.int .i64 x.src.pin)).setCell ⟨w.heap.size+1,3,none⟩ (.slice z g g)) [.blk w.heap.size #[.int .i64 x.node,.int .i64 x.src.block,.int .i64 x.src.pin,.slice D g B] 152,.blk (w.heap.size+1) #[.int .i64 x.node,.int .i64 x.src.block,.int .i64 x.src.pin,.slice z g g] 158,.blk (w.heap.size+1+1) #[.int .i64 x.node,.int .i64 x.src.block,.int .i64 x.src.pin,.slice z g g] 158,.cel (.int x.node) (.int .i64 x.node),.cels x.src.cells [.int .i64 x.src.block,.int .i64 x.src.pin],.cel (bL x.sinks) (.slice z g g)]):=(((((W.out.put 2 rfl 3 (.slice z g g)).put 1 rfl 0 (.int .i64 x.node)).put 1 rfl 1 (.int .i64 x.src.block)).put 1 rfl 2 (.int .i64 x.src.pin)).put 1 rfl 3 (.slice z g g))
 go_wp2_with fail
 generalize ((((w2.setCell ⟨w.heap.size+1+1,3,none⟩ (.slice z g g)).setCell ⟨w.heap.size+1,0,none⟩ (.int .i64 x.node)).setCell ⟨w.heap.size+1,1,none⟩ (.int .i64 x.src.block)).setCell ⟨w.heap.size+1,2,none⟩ (.int .i64 x.src.pin)).setCell ⟨w.heap.size+1,3,none⟩ (.slice z g g)=WF at *
 clear J Q V K R G H U I u0 u1 u2 u3 y1 l0 l1 l2
 have hb:WF.heap[w.heap.size+1]?=some (.cells #[.int .i64 x.node,.int .i64 x.src.block,.int .i64 x.src.pin,.slice z g g] 158 (0,0)):=(Q5.out.blk 1 rfl).1
 exact bodyPost_ret (v := .agg #[.int .i64 x.node,.int .i64 x.src.block,.int .i64 x.src.pin,.slice z g g]) (iW Tryz.results121 rfl hb Tryz.underlying158 (by kernel_rfl)) rfl ⟨z,rfl,Q5.out.tail.tail.tail.ownsL rfl,Q5.out.bel⟩
theorem DK:(Tryz.prog.info? 158).map (fun i=>(i.zero,i.size,i.bytes))=some (some (.agg #[.int .i64 0,.int .i64 0,.int .i64 0,.slice none 0 0]),4,48):=by kernel_rfl
theorem zg (A:Option Addr) (n c:Nat) (xs:List Cn) (w:World) (h:RdC w w.heap.size (ag xs) (.slice A n c)) (hz:szC (ag xs)<=1048576) :
  Calls Tryz.prog 42 #[.slice A n c] w fun e w'=>∃B,e = .returned (.slice B n n)/\gF w.heap.size w'.heap.size w' (ag xs) (.slice B n n)/\Below w.heap.size w w':=by
 obtain ⟨i0,hi,V,Q,I⟩:=info_parts DK
 have H:xs.length=n:=h.cnN
 have HT:szC (ag xs)=n+af (xs.flatMap Cn.cells):=by unfold ag;rw [bv Cn.cells_length (by omega),H]
 have hn:n<=1048576:=by omega
 have HZ:Hid (af (xs.flatMap Cn.cells)<=1048576):=by show _<=_;omega
 have Y:=fun W=>dP (P:=Tryz.prog) 43 158 i0 _ Tryz.underlying43 hi V .i64 .i64 n n (Nat.le_refl _) (by rw [I];omega) (by omega) W
 have G:∀z:Array Value,(madeCells z (n * i0.size)).size=n * 4:=fun z=>by rw [size_madeCells,Q]
 generalize ad:madeCells _ (n * i0.size)=cz at Y
 have U:cz.size=n * 4:=by rw [←ad];exact G _
 clear hi V Q I G ad HT hz
 obtain ⟨HX,HR⟩:=hd2 H h
 clear h H
 go_enter Tryz.func42,Tryz.ntmps42
 go_wp2_with fail
 go_loopw [4] (fun i wr=>∃(k:Nat) (vs:List Value),k<=n/\i = .int .i64 k/\fe wr w.heap.size 158 4 n k vs/\di (w.heap.size+1) wr.heap.size wr ((xs.take k).flatMap Cn.cells) vs/\Below w.heap.size w wr/\w.heap.size<wr.heap.size) (fun i _=>n - (intOf i).toNat)
 ·exact ⟨0,[],Nat.zero_le _,rfl,fe.new U,by simpa using di.nil,aD (Below.refl _ _) _,by simp⟩
 obtain ⟨k,vs,hk,rfl,J,K,ak,av⟩:=hrel
 obtain ⟨ae,aj,q⟩:=hd3 J K ak
 clear J K ak Y
 by_cases u:k<n
 ·have aB:=dT (by omega:k<n)
  have D:k<xs.length:=by rw [HX.out];exact u
  obtain ⟨b,o,S0,m0,p0,rfl,hb,c0,c1,c2,c3,r0⟩:=HR.out.cn (k:=k) D
  have aS:b<wr.heap.size:=by have:=q.out.size;omega
  obtain ⟨i0,i1⟩:=ib (by omega:k<n)
  rw [←q.out.cell (p:=⟨b,o+k * 4,none⟩) hb] at c0
  rw [←q.out.cell (p:=⟨b,o+k * 4+1,none⟩) hb] at c1
  rw [←q.out.cell (p:=⟨b,o+k * 4+2,none⟩) hb] at c2
  rw [←q.out.cell (p:=⟨b,o+k * 4+3,none⟩) hb] at c3
  have Q0:=Hd (r0.below q.out)
  clear r0
  have aw:Hid (af (xs[k]?.getD Cn.zero).cells<=1048576):=by show _<=_;exact Nat.le_trans (iw D) HZ.out
  have au:=Hd (kJ (f:=Cn.cells) (getD_some Cn.zero D:xs[k]?=some (xs[k]?.getD Cn.zero)))
  clear D
  generalize xs[k]?.getD Cn.zero=x at *
  go_wp2_with fail
  refine (BC S0 m0 p0 x _ Q0.out aw.out).mono ?_
  rintro e w2 ⟨B0,rfl,o2,b2⟩
  have az:=b2.size
  have g:=Hd (ae.out.tr b2)
  have al:=Hd (aj.out.below b2)
  have Z:=Hd (aA q.out b2)
  have O2:=Hd o2
  have aU:=g.out.lt
  clear o2 b2 c0 c1 c2 c3
  obtain ⟨u0,f0⟩:=g.out.cell u 0 (by omega)
  rw [Nat.add_zero] at f0
  obtain ⟨u1,f1⟩:=g.out.cell u 1 (by omega)
  obtain ⟨u2,f2⟩:=g.out.cell u 2 (by omega)
  obtain ⟨u3,f3⟩:=g.out.cell u 3 (by omega)
  have fz:=fun j=>g.out.frozen j
  go_wp2_with fail
  clear f0 f1 f2 f3 fz
  have HP:=Hd (g.out.put4 u (.int .i64 x.node) (.int .i64 x.src.block) (.int .i64 x.src.pin) (.slice B0 m0 m0))
  have R:Chg w.heap.size (w.heap.size+1) w2 ((((w2.setCell ⟨w.heap.size,k * 4,none⟩ (.int .i64 x.node)).setCell ⟨w.heap.size,k * 4+1,none⟩ (.int .i64 x.src.block)).setCell ⟨w.heap.size,k * 4+2,none⟩ (.int .i64 x.src.pin)).setCell ⟨w.heap.size,k * 4+3,none⟩ (.slice B0 m0 m0)):=by
   repeat (first|exact Chg.refl _ _ _|refine Chg.set ?_ (Nat.le_refl _) (Nat.lt_succ_self _) _)
  have ax:=R.size
  have aC:=Hd (al.out.chgZ R (.inr (Nat.le_refl _)))
  have ap:=Hd (O2.out.chgZ R (.inr (by omega)))
  have ar:=Hd (kR Z.out R (Nat.le_refl _))
  generalize aq:World.setCell _ _ _=WE at *
  clear aq R
  go_roundw
  case rel =>
   refine ⟨k+1,_,by omega,by go_num,HP.out,?_,ar.out,by omega⟩
   rw [au.out]
   exact (aC.out.appZ ap.out (Nat.le_refl _) (by omega) az).widen (Nat.le_refl _) ax
  simp [intOf];omega
 have ay:k=n:=by omega
 subst ay
 have aB:decide ((k:Int)<(k:Int))=false:=by simp
 go_wp2_with fail
 go_ret
 refine ⟨_,rfl,?_,q.out⟩
 have h:=aj.out
 rw [List.take_of_length_le (by rw [HX.out];exact Nat.le_refl _)] at h
 exact ae.out.own (by unfold maxLen;omega) h av
theorem zh (G A1:Option Addr) (g D n1 c1:Nat) (x:Rou) (w:World) (h0:RdC w w.heap.size (aG x.nodes) (.slice G g D)) (h1:RdC w w.heap.size (aG x.from_) (.slice A1 n1 c1)) (hz:af x.cells<=1048576) :
  Calls Tryz.prog 122 #[.agg #[.slice G g D,.slice A1 n1 c1]] w fun e w'=>∃z B,e = .returned (.agg #[.slice z g g,.slice B n1 n1])/\di w.heap.size w'.heap.size w' x.cells [.slice z g g,.slice B n1 n1]/\Below w.heap.size w w':=by
 obtain ⟨R0,R1⟩:=hd2 h0 h1
 have HS:af x.cells=szC (aG x.nodes)+szC (aG x.from_):=by unfold Rou.cells;simp only [au,bM] <;> omega
 have Z0:Hid (szC (aG x.nodes)<=1048576):=by show _<=_;omega
 have Z1:Hid (szC (aG x.from_)<=1048576):=by show _<=_;omega
 have R:=Hd (jd w #[.slice G g D,.slice A1 n1 c1] #[.slice none 0 0,.slice none 0 0] #[.slice none 0 0,.slice none 0 0] 154 114 114)
 have ai:w.heap.size≠w.heap.size+1+1:=by omega
 have al:w.heap.size+1≠w.heap.size+1+1:=by omega
 have ad:w.heap.size≠w.heap.size+1:=by omega
 clear HS hz h0 h1
 go_enter Tryz.func122,Tryz.ntmps122
 go_upto_region 2 with fail
 generalize ((w.alloc (.cells #[.slice G g D,.slice A1 n1 c1] 154)).alloc (.cells #[.slice none 0 0,.slice none 0 0] 114)).alloc (.cells #[.slice none 0 0,.slice none 0 0] 114)=w0 at *
 have q:=(R.out.blk 0 rfl).1
 have u:=(R.out.blk 1 rfl).1
 have j:=(R.out.blk 2 rfl).1
 obtain ⟨J,K⟩:=cs2 q
 obtain ⟨Q,H⟩:=cs2 j
 have I:=fun k=>aW j k
 have l0:=aB q
 have l1:=aB u
 have l2:=aB j
 clear q u j
 go_wp2_with fail
 refine (pK G g D x.nodes _ (R0.out.below R.out.bel) Z0.out).mono ?_
 rintro _ w1 ⟨z,rfl,Z,b1⟩
 have V:Hid (aJ w (w1) [.blk w.heap.size #[.slice G g D,.slice A1 n1 c1] 154,.blk (w.heap.size+1) #[.slice none 0 0,.slice none 0 0] 114,.blk (w.heap.size+1+1) #[.slice none 0 0,.slice none 0 0] 114,.cel (aG x.nodes) (.slice z g g)]):=(R.out.pushT b1 Z)
 clear Z b1 J K Q H I l0 l1 l2
 have q:=(V.out.blk 0 rfl).1
 have u:=(V.out.blk 1 rfl).1
 have j:=(V.out.blk 2 rfl).1
 obtain ⟨J,K⟩:=cs2 q
 obtain ⟨Q,H⟩:=cs2 j
 have I:=fun k=>aW j k
 have l0:=aB q
 have l1:=aB u
 have l2:=aB j
 clear q u j
 have Q2:Hid (aJ w (w1.setCell ⟨w.heap.size+1+1,0,none⟩ (.slice z g g)) [.blk w.heap.size #[.slice G g D,.slice A1 n1 c1] 154,.blk (w.heap.size+1) #[.slice none 0 0,.slice none 0 0] 114,.blk (w.heap.size+1+1) #[.slice z g g,.slice none 0 0] 114,.cel (aG x.nodes) (.slice z g g)]):=(V.out.put 2 rfl 0 (.slice z g g))
 go_wp2_with fail
 refine (pK A1 n1 c1 x.from_ _ (R1.out.below Q2.out.bel) Z1.out).mono ?_
 rintro _ Y ⟨B,rfl,o2,b2⟩
 have U:Hid (aJ w (Y) [.blk w.heap.size #[.slice G g D,.slice A1 n1 c1] 154,.blk (w.heap.size+1) #[.slice none 0 0,.slice none 0 0] 114,.blk (w.heap.size+1+1) #[.slice z g g,.slice none 0 0] 114,.cel (aG x.nodes) (.slice z g g),.cel (aG x.from_) (.slice B n1 n1)]):=(Q2.out.pushT b2 o2)
 clear o2 b2 J K Q H I l0 l1 l2
 have q:=(U.out.blk 0 rfl).1
 have u:=(U.out.blk 1 rfl).1
 have j:=(U.out.blk 2 rfl).1
 obtain ⟨J,K⟩:=cs2 q
 obtain ⟨Q,H⟩:=cs2 j
 have I:=fun k=>aW j k
 obtain ⟨u0,u1⟩:=cs2 u
 have y1:=fun k=>aW u k
 have l0:=aB q
 have l1:=aB u
 have l2:=aB j
 clear q u j
 have W:Hid (aJ w (((Y.setCell ⟨w.heap.size+1+1,1,none⟩ (.slice B n1 n1)).setCell ⟨w.heap.size+1,0,none⟩ (.slice z g g)).setCell ⟨w.heap.size+1,1,none⟩ (.slice B n1 n1)) [.blk w.heap.size #[.slice G g D,.slice A1 n1 c1] 154,.blk (w.heap.size+1) #[.slice z g g,.slice B n1 n1] 114,.blk (w.heap.size+1+1) #[.slice z g g,.slice B n1 n1] 114,.cel (aG x.nodes) (.slice z g g),.cel (aG x.from_) (.slice B n1 n1)]):=(((U.out.put 2 rfl 1 (.slice B n1 n1)).put 1 rfl 0 (.slice z g g)).put 1 rfl 1 (.slice B n1 n1))
 go_wp2_with fail
 generalize ((Y.setCell ⟨w.heap.size+1+1,1,none⟩ (.slice B n1 n1)).setCell ⟨w.heap.size+1,0,none⟩ (.slice z g g)).setCell ⟨w.heap.size+1,1,none⟩ (.slice B n1 n1)=WF at *
 clear J K Q H I u0 u1 y1 l0 l1 l2
 have hb:WF.heap[w.heap.size+1]?=some (.cells #[.slice z g g,.slice B n1 n1] 114 (0,0)):=(W.out.blk 1 rfl).1
 exact bodyPost_ret (v := .agg #[.slice z g g,.slice B n1 n1]) (iW Tryz.results122 rfl hb Tryz.underlying114 (by kernel_rfl)) rfl ⟨z,B,rfl,W.out.tail.tail.tail.ownsL rfl,W.out.bel⟩
theorem BD:(Tryz.prog.info? 114).map (fun i=>(i.zero,i.size,i.bytes))=some (some (.agg #[.slice none 0 0,.slice none 0 0]),2,48):=by kernel_rfl
theorem yE (A:Option Addr) (n c:Nat) (xs:List Rou) (w:World) (h:RdC w w.heap.size (bE xs) (.slice A n c)) (hz:szC (bE xs)<=1048576) :
  Calls Tryz.prog 44 #[.slice A n c] w fun e w'=>∃B,e = .returned (.slice B n n)/\gF w.heap.size w'.heap.size w' (bE xs) (.slice B n n)/\Below w.heap.size w w':=by
 obtain ⟨i0,hi,V,Q,I⟩:=info_parts BD
 have H:xs.length=n:=h.rouN
 have HT:szC (bE xs)=n+af (xs.flatMap Rou.cells):=by unfold bE;rw [bv Rou.cells_length (by omega),H]
 have hn:n<=1048576:=by omega
 have HZ:Hid (af (xs.flatMap Rou.cells)<=1048576):=by show _<=_;omega
 have Y:=fun W=>dP (P:=Tryz.prog) 44 114 i0 _ Tryz.underlying44 hi V .i64 .i64 n n (Nat.le_refl _) (by rw [I];omega) (by omega) W
 have G:∀z:Array Value,(madeCells z (n * i0.size)).size=n * 2:=fun z=>by rw [size_madeCells,Q]
 generalize ad:madeCells _ (n * i0.size)=cz at Y
 have U:cz.size=n * 2:=by rw [←ad];exact G _
 clear hi V Q I G ad HT hz
 obtain ⟨HX,HR⟩:=hd2 H h
 clear h H
 go_enter Tryz.func44,Tryz.ntmps44
 go_wp2_with fail
 go_loopw [4] (fun i wr=>∃(k:Nat) (vs:List Value),k<=n/\i = .int .i64 k/\fe wr w.heap.size 114 2 n k vs/\di (w.heap.size+1) wr.heap.size wr ((xs.take k).flatMap Rou.cells) vs/\Below w.heap.size w wr/\w.heap.size<wr.heap.size) (fun i _=>n - (intOf i).toNat)
 ·exact ⟨0,[],Nat.zero_le _,rfl,fe.new U,by simpa using di.nil,aD (Below.refl _ _) _,by simp⟩
 obtain ⟨k,vs,hk,rfl,J,K,ak,au⟩:=hrel
 obtain ⟨ae,aj,q⟩:=hd3 J K ak
 clear J K ak Y
 by_cases u:k<n
 ·have az:=dT (by omega:k<n)
  have D:k<xs.length:=by rw [HX.out];exact u
  obtain ⟨b,o,S0,m0,p0,S1,m1,p1,rfl,hb,c0,c1,r0,r1⟩:=HR.out.rou (k:=k) D
  have aX:b<wr.heap.size:=by have:=q.out.size;omega
  obtain ⟨i0,i1⟩:=ib (by omega:k<n)
  rw [←q.out.cell (p:=⟨b,o+k * 2,none⟩) hb] at c0
  rw [←q.out.cell (p:=⟨b,o+k * 2+1,none⟩) hb] at c1
  have Q0:=Hd (r0.below q.out)
  have Q1:=Hd (r1.below q.out)
  clear r0 r1
  have av:Hid (af (xs[k]?.getD Rou.zero).cells<=1048576):=by show _<=_;exact Nat.le_trans (iw D) HZ.out
  have ar:=Hd (kJ (f:=Rou.cells) (getD_some Rou.zero D:xs[k]?=some (xs[k]?.getD Rou.zero)))
  clear D
  generalize xs[k]?.getD Rou.zero=x at *
  go_wp2_with fail
  refine (zh S0 S1 m0 p0 m1 p1 x _ Q0.out Q1.out av.out).mono ?_
  rintro e w2 ⟨B0,B1,rfl,o2,b2⟩
  have ay:=b2.size
  have g:=Hd (ae.out.tr b2)
  have al:=Hd (aj.out.below b2)
  have Z:=Hd (aA q.out b2)
  have O2:=Hd o2
  have aZ:=g.out.lt
  clear o2 b2 c0 c1
  obtain ⟨u0,f0⟩:=g.out.cell u 0 (by omega)
  rw [Nat.add_zero] at f0
  obtain ⟨u1,f1⟩:=g.out.cell u 1 (by omega)
  have fz:=fun j=>g.out.frozen j
  go_wp2_with fail
  clear f0 f1 fz
  have HP:=Hd (g.out.put2 u (.slice B0 m0 m0) (.slice B1 m1 m1))
  have R:Chg w.heap.size (w.heap.size+1) w2 ((w2.setCell ⟨w.heap.size,k * 2,none⟩ (.slice B0 m0 m0)).setCell ⟨w.heap.size,k * 2+1,none⟩ (.slice B1 m1 m1)):=by
   repeat (first|exact Chg.refl _ _ _|refine Chg.set ?_ (Nat.le_refl _) (Nat.lt_succ_self _) _)
  have aw:=R.size
  have aB:=Hd (al.out.chgZ R (.inr (Nat.le_refl _)))
  have ao:=Hd (O2.out.chgZ R (.inr (by omega)))
  have aq:=Hd (kR Z.out R (Nat.le_refl _))
  generalize ap:World.setCell _ _ _=WE at *
  clear ap R
  go_roundw
  case rel =>
   refine ⟨k+1,_,by omega,by go_num,HP.out,?_,aq.out,by omega⟩
   rw [ar.out]
   exact (aB.out.appZ ao.out (Nat.le_refl _) (by omega) ay).widen (Nat.le_refl _) aw
  simp [intOf];omega
 have ax:k=n:=by omega
 subst ax
 have az:decide ((k:Int)<(k:Int))=false:=by simp
 go_wp2_with fail
 go_ret
 refine ⟨_,rfl,?_,q.out⟩
 have h:=aj.out
 rw [List.take_of_length_le (by rw [HX.out];exact Nat.le_refl _)] at h
 exact ae.out.own (by unfold maxLen;omega) h au
theorem yF (Z A1 A2 A3 W Y U:Option Addr) (g V n1 c1 n2 c2 n3 c3 q c4 u c5 B c6:Nat) (x:Lay) (w:World) (h0:RdC w w.heap.size (bD x.net.seqs) (.slice Z g V)) (h1:RdC w w.heap.size (bK x.net.luts) (.slice A1 n1 c1)) (h2:RdC w w.heap.size (aG x.net.outs) (.slice A2 n2 c2)) (h3:RdC w w.heap.size (aa x.blocks) (.slice A3 n3 c3)) (h4:RdC w w.heap.size (ag x.conns) (.slice W q c4)) (h5:RdC w w.heap.size (aG x.place) (.slice Y u c5)) (h6:RdC w w.heap.size (bE x.routes) (.slice U B c6)) (hz:af x.cells<=1048576) :
  Calls Tryz.prog 10 #[.agg #[.int .i64 x.net.inputs,.slice Z g V,.slice A1 n1 c1,.slice A2 n2 c2,.slice A3 n3 c3,.slice W q c4,.slice Y u c5,.slice U B c6]] w fun e w'=>∃H G I J K Q R,e = .returned (.agg #[.int .i64 x.net.inputs,.slice H g g,.slice G n1 n1,.slice I n2 n2,.slice J n3 n3,.slice K q q,.slice Q u u,.slice R B B])/\di w.heap.size w'.heap.size w' x.cells [.int .i64 x.net.inputs,.slice H g g,.slice G n1 n1,.slice I n2 n2,.slice J n3 n3,.slice K q q,.slice Q u u,.slice R B B]/\Below w.heap.size w w':=by
 obtain ⟨R0,R1,R2,R3,R4,R5,R6⟩:=hd7 h0 h1 h2 h3 h4 h5 h6
 have HS:af x.cells=af x.net.cells+szC (aa x.blocks)+szC (ag x.conns)+szC (aG x.place)+szC (bE x.routes):=by unfold Lay.cells;simp only [iA,au,bM] <;> omega
 have Z0:Hid (af x.net.cells<=1048576):=by show _<=_;omega
 have Z1:Hid (szC (aa x.blocks)<=1048576):=by show _<=_;omega
 have Z2:Hid (szC (ag x.conns)<=1048576):=by show _<=_;omega
 have Z3:Hid (szC (aG x.place)<=1048576):=by show _<=_;omega
 have Z4:Hid (szC (bE x.routes)<=1048576):=by show _<=_;omega
 have S0:=Hd (jd w #[.int .i64 x.net.inputs,.slice Z g V,.slice A1 n1 c1,.slice A2 n2 c2,.slice A3 n3 c3,.slice W q c4,.slice Y u c5,.slice U B c6] #[.int .i64 0,.slice none 0 0,.slice none 0 0,.slice none 0 0,.slice none 0 0,.slice none 0 0,.slice none 0 0,.slice none 0 0] #[.int .i64 0,.slice none 0 0,.slice none 0 0,.slice none 0 0,.slice none 0 0,.slice none 0 0,.slice none 0 0,.slice none 0 0] 33 46 46)
 have aT:w.heap.size≠w.heap.size+1+1:=by omega
 have a0:w.heap.size+1≠w.heap.size+1+1:=by omega
 have a4:w.heap.size≠w.heap.size+1:=by omega
 clear HS hz h0 h1 h2 h3 h4 h5 h6
 go_enter Tryz.func10,Tryz.ntmps10
 go_upto_region 2 with fail
 generalize ((w.alloc (.cells #[.int .i64 x.net.inputs,.slice Z g V,.slice A1 n1 c1,.slice A2 n2 c2,.slice A3 n3 c3,.slice W q c4,.slice Y u c5,.slice U B c6] 33)).alloc (.cells #[.int .i64 0,.slice none 0 0,.slice none 0 0,.slice none 0 0,.slice none 0 0,.slice none 0 0,.slice none 0 0,.slice none 0 0] 46)).alloc (.cells #[.int .i64 0,.slice none 0 0,.slice none 0 0,.slice none 0 0,.slice none 0 0,.slice none 0 0,.slice none 0 0,.slice none 0 0] 46)=w0 at *
 have z:=(S0.out.blk 0 rfl).1
 have D:=(S0.out.blk 1 rfl).1
 have j:=(S0.out.blk 2 rfl).1
 obtain ⟨x0,x1,x2,x3,x4,x5,x6,x7⟩:=cs8 z
 obtain ⟨z0,z1,z2,z3,z4,z5,z6,z7⟩:=cs8 j
 have y2:=fun k=>aW j k
 have l0:=aB z
 have l1:=aB D
 have l2:=aB j
 clear z D j
 go_wp2_with fail
 refine (yC Z A1 A2 g V n1 c1 n2 c2 x.net _ (R0.out.below S0.out.bel) (R1.out.below S0.out.bel) (R2.out.below S0.out.bel) Z0.out).mono ?_
 rintro _ w1 ⟨H,G,I,rfl,o1,b1⟩
 have Q1:Hid (aJ w (w1) [.blk w.heap.size #[.int .i64 x.net.inputs,.slice Z g V,.slice A1 n1 c1,.slice A2 n2 c2,.slice A3 n3 c3,.slice W q c4,.slice Y u c5,.slice U B c6] 33,.blk (w.heap.size+1) #[.int .i64 0,.slice none 0 0,.slice none 0 0,.slice none 0 0,.slice none 0 0,.slice none 0 0,.slice none 0 0,.slice none 0 0] 46,.blk (w.heap.size+1+1) #[.int .i64 0,.slice none 0 0,.slice none 0 0,.slice none 0 0,.slice none 0 0,.slice none 0 0,.slice none 0 0,.slice none 0 0] 46,.cels x.net.cells [.int .i64 x.net.inputs,.slice H g g,.slice G n1 n1,.slice I n2 n2]]):=(S0.out.pushLs b1 o1)
 clear o1 b1 x0 x1 x2 x3 x4 x5 x6 x7 z0 z1 z2 z3 z4 z5 z6 z7 y2 l0 l1 l2
 have z:=(Q1.out.blk 0 rfl).1
 have D:=(Q1.out.blk 1 rfl).1
 have j:=(Q1.out.blk 2 rfl).1
 obtain ⟨x0,x1,x2,x3,x4,x5,x6,x7⟩:=cs8 z
 obtain ⟨z0,z1,z2,z3,z4,z5,z6,z7⟩:=cs8 j
 have y2:=fun k=>aW j k
 have l0:=aB z
 have l1:=aB D
 have l2:=aB j
 clear z D j
 have Q2:Hid (aJ w ((((w1.setCell ⟨w.heap.size+1+1,0,none⟩ (.int .i64 x.net.inputs)).setCell ⟨w.heap.size+1+1,1,none⟩ (.slice H g g)).setCell ⟨w.heap.size+1+1,2,none⟩ (.slice G n1 n1)).setCell ⟨w.heap.size+1+1,3,none⟩ (.slice I n2 n2)) [.blk w.heap.size #[.int .i64 x.net.inputs,.slice Z g V,.slice A1 n1 c1,.slice A2 n2 c2,.slice A3 n3 c3,.slice W q c4,.slice Y u c5,.slice U B c6] 33,.blk (w.heap.size+1) #[.int .i64 0,.slice none 0 0,.slice none 0 0,.slice none 0 0,.slice none 0 0,.slice none 0 0,.slice none 0 0,.slice none 0 0] 46,.blk (w.heap.size+1+1) #[.int .i64 x.net.inputs,.slice H g g,.slice G n1 n1,.slice I n2 n2,.slice none 0 0,.slice none 0 0,.slice none 0 0,.slice none 0 0] 46,.cels x.net.cells [.int .i64 x.net.inputs,.slice H g g,.slice G n1 n1,.slice I n2 n2]]):=((((Q1.out.put 2 rfl 0 (.int .i64 x.net.inputs)).put 2 rfl 1 (.slice H g g)).put 2 rfl 2 (.slice G n1 n1)).put 2 rfl 3 (.slice I n2 n2))
 go_wp2_with fail
 refine (yD A3 n3 c3 x.blocks _ (R3.out.below Q2.out.bel) Z1.out).mono ?_
 rintro _ w2 ⟨J,rfl,o2,b2⟩
 have Q3:Hid (aJ w (w2) [.blk w.heap.size #[.int .i64 x.net.inputs,.slice Z g V,.slice A1 n1 c1,.slice A2 n2 c2,.slice A3 n3 c3,.slice W q c4,.slice Y u c5,.slice U B c6] 33,.blk (w.heap.size+1) #[.int .i64 0,.slice none 0 0,.slice none 0 0,.slice none 0 0,.slice none 0 0,.slice none 0 0,.slice none 0 0,.slice none 0 0] 46,.blk (w.heap.size+1+1) #[.int .i64 x.net.inputs,.slice H g g,.slice G n1 n1,.slice I n2 n2,.slice none 0 0,.slice none 0 0,.slice none 0 0,.slice none 0 0] 46,.cels x.net.cells [.int .i64 x.net.inputs,.slice H g g,.slice G n1 n1,.slice I n2 n2],.cel (aa x.blocks) (.slice J n3 n3)]):=(Q2.out.pushT b2 o2)
 clear o2 b2 x0 x1 x2 x3 x4 x5 x6 x7 z0 z1 z2 z3 z4 z5 z6 z7 y2 l0 l1 l2
 have z:=(Q3.out.blk 0 rfl).1
 have D:=(Q3.out.blk 1 rfl).1
 have j:=(Q3.out.blk 2 rfl).1
 obtain ⟨x0,x1,x2,x3,x4,x5,x6,x7⟩:=cs8 z
 obtain ⟨z0,z1,z2,z3,z4,z5,z6,z7⟩:=cs8 j
 have y2:=fun k=>aW j k
 have l0:=aB z
 have l1:=aB D
 have l2:=aB j
 clear z D j
 have Q4:Hid (aJ w (w2.setCell ⟨w.heap.size+1+1,4,none⟩ (.slice J n3 n3)) [.blk w.heap.size #[.int .i64 x.net.inputs,.slice Z g V,.slice A1 n1 c1,.slice A2 n2 c2,.slice A3 n3 c3,.slice W q c4,.slice Y u c5,.slice U B c6] 33,.blk (w.heap.size+1) #[.int .i64 0,.slice none 0 0,.slice none 0 0,.slice none 0 0,.slice none 0 0,.slice none 0 0,.slice none 0 0,.slice none 0 0] 46,.blk (w.heap.size+1+1) #[.int .i64 x.net.inputs,.slice H g g,.slice G n1 n1,.slice I n2 n2,.slice J n3 n3,.slice none 0 0,.slice none 0 0,.slice none 0 0] 46,.cels x.net.cells [.int .i64 x.net.inputs,.slice H g g,.slice G n1 n1,.slice I n2 n2],.cel (aa x.blocks) (.slice J n3 n3)]):=(Q3.out.put 2 rfl 4 (.slice J n3 n3))
 go_wp2_with fail
 refine (zg W q c4 x.conns _ (R4.out.below Q4.out.bel) Z2.out).mono ?_
 rintro _ w3 ⟨K,rfl,o3,b3⟩
 have Q5:Hid (aJ w (w3) [.blk w.heap.size #[.int .i64 x.net.inputs,.slice Z g V,.slice A1 n1 c1,.slice A2 n2 c2,.slice A3 n3 c3,.slice W q c4,.slice Y u c5,.slice U B c6] 33,.blk (w.heap.size+1) #[.int .i64 0,.slice none 0 0,.slice none 0 0,.slice none 0 0,.slice none 0 0,.slice none 0 0,.slice none 0 0,.slice none 0 0] 46,.blk (w.heap.size+1+1) #[.int .i64 x.net.inputs,.slice H g g,.slice G n1 n1,.slice I n2 n2,.slice J n3 n3,.slice none 0 0,.slice none 0 0,.slice none 0 0] 46,.cels x.net.cells [.int .i64 x.net.inputs,.slice H g g,.slice G n1 n1,.slice I n2 n2],.cel (aa x.blocks) (.slice J n3 n3),.cel (ag x.conns) (.slice K q q)]):=(Q4.out.pushT b3 o3)
 clear o3 b3 x0 x1 x2 x3 x4 x5 x6 x7 z0 z1 z2 z3 z4 z5 z6 z7 y2 l0 l1 l2
 have z:=(Q5.out.blk 0 rfl).1
 have D:=(Q5.out.blk 1 rfl).1
 have j:=(Q5.out.blk 2 rfl).1
 obtain ⟨x0,x1,x2,x3,x4,x5,x6,x7⟩:=cs8 z
 obtain ⟨z0,z1,z2,z3,z4,z5,z6,z7⟩:=cs8 j
 have y2:=fun k=>aW j k
 have l0:=aB z
 have l1:=aB D
 have l2:=aB j
 clear z D j
 have Q6:Hid (aJ w (w3.setCell ⟨w.heap.size+1+1,5,none⟩ (.slice K q q)) [.blk w.heap.size #[.int .i64 x.net.inputs,.slice Z g V,.slice A1 n1 c1,.slice A2 n2 c2,.slice A3 n3 c3,.slice W q c4,.slice Y u c5,.slice U B c6] 33,.blk (w.heap.size+1) #[.int .i64 0,.slice none 0 0,.slice none 0 0,.slice none 0 0,.slice none 0 0,.slice none 0 0,.slice none 0 0,.slice none 0 0] 46,.blk (w.heap.size+1+1) #[.int .i64 x.net.inputs,.slice H g g,.slice G n1 n1,.slice I n2 n2,.slice J n3 n3,.slice K q q,.slice none 0 0,.slice none 0 0] 46,.cels x.net.cells [.int .i64 x.net.inputs,.slice H g g,.slice G n1 n1,.slice I n2 n2],.cel (aa x.blocks) (.slice J n3 n3),.cel (ag x.conns) (.slice K q q)]):=(Q5.out.put 2 rfl 5 (.slice K q q))
 go_wp2_with fail
 refine (pK Y u c5 x.place _ (R5.out.below Q6.out.bel) Z3.out).mono ?_
 rintro _ w4 ⟨Q,rfl,o4,b4⟩
 have Q7:Hid (aJ w (w4) [.blk w.heap.size #[.int .i64 x.net.inputs,.slice Z g V,.slice A1 n1 c1,.slice A2 n2 c2,.slice A3 n3 c3,.slice W q c4,.slice Y u c5,.slice U B c6] 33,.blk (w.heap.size+1) #[.int .i64 0,.slice none 0 0,.slice none 0 0,.slice none 0 0,.slice none 0 0,.slice none 0 0,.slice none 0 0,.slice none 0 0] 46,.blk (w.heap.size+1+1) #[.int .i64 x.net.inputs,.slice H g g,.slice G n1 n1,.slice I n2 n2,.slice J n3 n3,.slice K q q,.slice none 0 0,.slice none 0 0] 46,.cels x.net.cells [.int .i64 x.net.inputs,.slice H g g,.slice G n1 n1,.slice I n2 n2],.cel (aa x.blocks) (.slice J n3 n3),.cel (ag x.conns) (.slice K q q),.cel (aG x.place) (.slice Q u u)]):=(Q6.out.pushT b4 o4)
 clear o4 b4 x0 x1 x2 x3 x4 x5 x6 x7 z0 z1 z2 z3 z4 z5 z6 z7 y2 l0 l1 l2
 have z:=(Q7.out.blk 0 rfl).1
 have D:=(Q7.out.blk 1 rfl).1
 have j:=(Q7.out.blk 2 rfl).1
 obtain ⟨x0,x1,x2,x3,x4,x5,x6,x7⟩:=cs8 z
 obtain ⟨z0,z1,z2,z3,z4,z5,z6,z7⟩:=cs8 j
 have y2:=fun k=>aW j k
 have l0:=aB z
 have l1:=aB D
 have l2:=aB j
 clear z D j
 have Q8:Hid (aJ w (w4.setCell ⟨w.heap.size+1+1,6,none⟩ (.slice Q u u)) [.blk w.heap.size #[.int .i64 x.net.inputs,.slice Z g V,.slice A1 n1 c1,.slice A2 n2 c2,.slice A3 n3 c3,.slice W q c4,.slice Y u c5,.slice U B c6] 33,.blk (w.heap.size+1) #[.int .i64 0,.slice none 0 0,.slice none 0 0,.slice none 0 0,.slice none 0 0,.slice none 0 0,.slice none 0 0,.slice none 0 0] 46,.blk (w.heap.size+1+1) #[.int .i64 x.net.inputs,.slice H g g,.slice G n1 n1,.slice I n2 n2,.slice J n3 n3,.slice K q q,.slice Q u u,.slice none 0 0] 46,.cels x.net.cells [.int .i64 x.net.inputs,.slice H g g,.slice G n1 n1,.slice I n2 n2],.cel (aa x.blocks) (.slice J n3 n3),.cel (ag x.conns) (.slice K q q),.cel (aG x.place) (.slice Q u u)]):=(Q7.out.put 2 rfl 6 (.slice Q u u))
 go_wp2_with fail
 refine (yE U B c6 x.routes _ (R6.out.below Q8.out.bel) Z4.out).mono ?_
 rintro _ w5 ⟨R,rfl,o5,b5⟩
 have Q9:Hid (aJ w (w5) [.blk w.heap.size #[.int .i64 x.net.inputs,.slice Z g V,.slice A1 n1 c1,.slice A2 n2 c2,.slice A3 n3 c3,.slice W q c4,.slice Y u c5,.slice U B c6] 33,.blk (w.heap.size+1) #[.int .i64 0,.slice none 0 0,.slice none 0 0,.slice none 0 0,.slice none 0 0,.slice none 0 0,.slice none 0 0,.slice none 0 0] 46,.blk (w.heap.size+1+1) #[.int .i64 x.net.inputs,.slice H g g,.slice G n1 n1,.slice I n2 n2,.slice J n3 n3,.slice K q q,.slice Q u u,.slice none 0 0] 46,.cels x.net.cells [.int .i64 x.net.inputs,.slice H g g,.slice G n1 n1,.slice I n2 n2],.cel (aa x.blocks) (.slice J n3 n3),.cel (ag x.conns) (.slice K q q),.cel (aG x.place) (.slice Q u u),.cel (bE x.routes) (.slice R B B)]):=(Q8.out.pushT b5 o5)
 clear o5 b5 x0 x1 x2 x3 x4 x5 x6 x7 z0 z1 z2 z3 z4 z5 z6 z7 y2 l0 l1 l2
 have z:=(Q9.out.blk 0 rfl).1
 have D:=(Q9.out.blk 1 rfl).1
 have j:=(Q9.out.blk 2 rfl).1
 obtain ⟨x0,x1,x2,x3,x4,x5,x6,x7⟩:=cs8 z
 obtain ⟨z0,z1,z2,z3,z4,z5,z6,z7⟩:=cs8 j
 have y2:=fun k=>aW j k
 obtain ⟨u0,u1,u2,u3,u4,u5,u6,u7⟩:=cs8 D
 have y1:=fun k=>aW D k
 have l0:=aB z
 have l1:=aB D
 have l2:=aB j
 clear z D j
 have aE:Hid (aJ w (((((((((w5.setCell ⟨w.heap.size+1+1,7,none⟩ (.slice R B B)).setCell ⟨w.heap.size+1,0,none⟩ (.int .i64 x.net.inputs)).setCell ⟨w.heap.size+1,1,none⟩ (.slice H g g)).setCell ⟨w.heap.size+1,2,none⟩ (.slice G n1 n1)).setCell ⟨w.heap.size+1,3,none⟩ (.slice I n2 n2)).setCell ⟨w.heap.size+1,4,none⟩ (.slice J n3 n3)).setCell ⟨w.heap.size+1,5,none⟩ (.slice K q q)).setCell ⟨w.heap.size+1,6,none⟩ (.slice Q u u)).setCell ⟨w.heap.size+1,7,none⟩ (.slice R B B)) [.blk w.heap.size #[.int .i64 x.net.inputs,.slice Z g V,.slice A1 n1 c1,.slice A2 n2 c2,.slice A3 n3 c3,.slice W q c4,.slice Y u c5,.slice U B c6] 33,.blk (w.heap.size+1) #[.int .i64 x.net.inputs,.slice H g g,.slice G n1 n1,.slice I n2 n2,.slice J n3 n3,.slice K q q,.slice Q u u,.slice R B B] 46,.blk (w.heap.size+1+1) #[.int .i64 x.net.inputs,.slice H g g,.slice G n1 n1,.slice I n2 n2,.slice J n3 n3,.slice K q q,.slice Q u u,.slice R B B] 46,.cels x.net.cells [.int .i64 x.net.inputs,.slice H g g,.slice G n1 n1,.slice I n2 n2],.cel (aa x.blocks) (.slice J n3 n3),.cel (ag x.conns) (.slice K q q),.cel (aG x.place) (.slice Q u u),.cel (bE x.routes) (.slice R B B)]):=(((((((((Q9.out.put 2 rfl 7 (.slice R B B)).put 1 rfl 0 (.int .i64 x.net.inputs)).put 1 rfl 1 (.slice H g g)).put 1 rfl 2 (.slice G n1 n1)).put 1 rfl 3 (.slice I n2 n2)).put 1 rfl 4 (.slice J n3 n3)).put 1 rfl 5 (.slice K q q)).put 1 rfl 6 (.slice Q u u)).put 1 rfl 7 (.slice R B B))
 go_wp2_with fail
 generalize ((((((((w5.setCell ⟨w.heap.size+1+1,7,none⟩ (.slice R B B)).setCell ⟨w.heap.size+1,0,none⟩ (.int .i64 x.net.inputs)).setCell ⟨w.heap.size+1,1,none⟩ (.slice H g g)).setCell ⟨w.heap.size+1,2,none⟩ (.slice G n1 n1)).setCell ⟨w.heap.size+1,3,none⟩ (.slice I n2 n2)).setCell ⟨w.heap.size+1,4,none⟩ (.slice J n3 n3)).setCell ⟨w.heap.size+1,5,none⟩ (.slice K q q)).setCell ⟨w.heap.size+1,6,none⟩ (.slice Q u u)).setCell ⟨w.heap.size+1,7,none⟩ (.slice R B B)=WF at *
 clear x0 x1 x2 x3 x4 x5 x6 x7 z0 z1 z2 z3 z4 z5 z6 z7 y2 u0 u1 u2 u3 u4 u5 u6 u7 y1 l0 l1 l2
 have hb:WF.heap[w.heap.size+1]?=some (.cells #[.int .i64 x.net.inputs,.slice H g g,.slice G n1 n1,.slice I n2 n2,.slice J n3 n3,.slice K q q,.slice Q u u,.slice R B B] 46 (0,0)):=(aE.out.blk 1 rfl).1
 exact bodyPost_ret (v := .agg #[.int .i64 x.net.inputs,.slice H g g,.slice G n1 n1,.slice I n2 n2,.slice J n3 n3,.slice K q q,.slice Q u u,.slice R B B]) (iW Tryz.results10 rfl hb Tryz.underlying46 (by kernel_rfl)) rfl ⟨H,G,I,J,K,Q,R,rfl,aE.out.tail.tail.tail.ownsL rfl,aE.out.bel⟩
end Go.Proofs.YtofihjoanjkdmaaGreat
