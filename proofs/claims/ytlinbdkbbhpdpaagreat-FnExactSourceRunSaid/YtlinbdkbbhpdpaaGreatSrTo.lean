/- The laws' copies of nested data (printed by mkto.py). -/
import Derived.Test.YtlinbdkbbhpdpaaGreatResc
import Derived.Test.YtlinbdkbbhpdpaaGreatSepB
import Derived.Test.YtlinbdkbbhpdpaaGreatSrSz
namespace Go.Proofs.YtlinbdkbbhpdpaaGreat
set_option maxRecDepth 100000
open Go.RowKit

theorem take_set_snocZ {l:List Value} {j:Nat} (h:j<l.length) (v:Value):(l.set j v).take (j+1)=l.take j++[v]:=by
 rw [List.take_add_one,List.getElem?_set_self h,List.take_set_of_le (Nat.le_refl _)]
 rfl
theorem flat_takeZ {α β:Type} {f:α→List β} {xs:List α} {k:Nat} {x:α} (h:xs[k]?=some x):(xs.take (k+1)).flatMap f=(xs.take k).flatMap f++f x:=by
 rw [List.take_add_one,h]
 simp
/-- A block of groups of s cells, of which the first k are filled. -/
structure FillS (w:World) (g:Nat) (e:TypeId) (s n k:Nat) (vs:List Value):Prop where
 blk:∃cur,w.heap[g]?=some (.cells cur e (0,0))∧cur.size=n * s∧cur.toList.take (k * s)=vs
 len:vs.length=k * s
theorem FillS.tr {w w':World} {g:Nat} {e:TypeId} {s n k:Nat} {vs:List Value} (h:FillS w g e s n k vs) (hb:Below w.heap.size w w'):FillS w' g e s n k vs:=by
 obtain ⟨⟨cur,h1,h2,h3⟩,h4⟩:=h
 exact ⟨⟨cur,heap_tr hb h1,h2,h3⟩,h4⟩
theorem FillS.lt {w:World} {g:Nat} {e:TypeId} {s n k:Nat} {vs:List Value} (h:FillS w g e s n k vs):g<w.heap.size:=by
 obtain ⟨⟨cur,h1,h2,h3⟩,h4⟩:=h
 exact heap_lt0 h1
theorem FillS.cell {w:World} {g:Nat} {e:TypeId} {s n k:Nat} {vs:List Value} (h:FillS w g e s n k vs) (hk:k<n) (j:Nat) (hj:j<s):∃u,w.cell? ⟨g,k * s+j,none⟩=some u:=by
 obtain ⟨⟨cur,h1,h2,h3⟩,h4⟩:=h
 have hm:=Nat.mul_le_mul_right s (show k+1≤n by omega)
 rw [Nat.succ_mul] at hm
 have hj2:k * s+j<cur.size:=by omega
 exact ⟨cur[k * s+j],by unfold World.cell?;rw [h1];simp [hj2]⟩
theorem FillS.frozen {w:World} {g:Nat} {e:TypeId} {s n k:Nat} {vs:List Value} (h:FillS w g e s n k vs) (j:Nat):w.frozen? ⟨g,j,none⟩=false:=by
 obtain ⟨⟨cur,h1,h2,h3⟩,h4⟩:=h
 exact frozen_heap h1 j
theorem FillS.put2 {w:World} {g:Nat} {e:TypeId} {n k:Nat} {vs:List Value} (h:FillS w g e 2 n k vs) (hk:k<n) (v0 v1:Value):FillS ((w.setCell ⟨g,k * 2,none⟩ v0).setCell ⟨g,k * 2+1,none⟩ v1) g e 2 n (k+1) (vs++[v0,v1]):=by
 obtain ⟨⟨cur,h1,h2,h3⟩,h4⟩:=h
 refine ⟨⟨_,heap_set (heap_set h1 _ v0) _ v1,by simp [h2],?_⟩,by simp [h4];omega⟩
 have hl:cur.toList.length=n * 2:=by rw [Array.length_toList,h2]
 simp only [Array.toList_setIfInBounds]
 rw [show (k+1) * 2=k * 2+1+1 by omega,take_set_snocZ (by simp;omega),take_set_snocZ (by omega),h3]
 simp
theorem FillS.put3 {w:World} {g:Nat} {e:TypeId} {n k:Nat} {vs:List Value} (h:FillS w g e 3 n k vs) (hk:k<n) (v0 v1 v2:Value):FillS (((w.setCell ⟨g,k * 3,none⟩ v0).setCell ⟨g,k * 3+1,none⟩ v1).setCell ⟨g,k * 3+2,none⟩ v2) g e 3 n (k+1) (vs++[v0,v1,v2]):=by
 obtain ⟨⟨cur,h1,h2,h3⟩,h4⟩:=h
 refine ⟨⟨_,heap_set (heap_set (heap_set h1 _ v0) _ v1) _ v2,by simp [h2],?_⟩,by simp [h4];omega⟩
 have hl:cur.toList.length=n * 3:=by rw [Array.length_toList,h2]
 simp only [Array.toList_setIfInBounds]
 rw [show (k+1) * 3=k * 3+2+1 by omega,take_set_snocZ (by simp;omega),show k * 3+2=k * 3+1+1 from rfl,take_set_snocZ (by simp;omega),take_set_snocZ (by omega),h3]
 simp
theorem FillS.put4 {w:World} {g:Nat} {e:TypeId} {n k:Nat} {vs:List Value} (h:FillS w g e 4 n k vs) (hk:k<n) (v0 v1 v2 v3:Value):FillS ((((w.setCell ⟨g,k * 4,none⟩ v0).setCell ⟨g,k * 4+1,none⟩ v1).setCell ⟨g,k * 4+2,none⟩ v2).setCell ⟨g,k * 4+3,none⟩ v3) g e 4 n (k+1) (vs++[v0,v1,v2,v3]):=by
 obtain ⟨⟨cur,h1,h2,h3⟩,h4⟩:=h
 refine ⟨⟨_,heap_set (heap_set (heap_set (heap_set h1 _ v0) _ v1) _ v2) _ v3,by simp [h2],?_⟩,by simp [h4];omega⟩
 have hl:cur.toList.length=n * 4:=by rw [Array.length_toList,h2]
 simp only [Array.toList_setIfInBounds]
 rw [show (k+1) * 4=k * 4+3+1 by omega,take_set_snocZ (by simp;omega),show k * 4+3=k * 4+2+1 from rfl,take_set_snocZ (by simp;omega),show k * 4+2=k * 4+1+1 from rfl,take_set_snocZ (by simp;omega),take_set_snocZ (by omega),h3]
 simp
theorem FillS.new {w:World} {e:TypeId} {s n:Nat} {cur:Array Value} (h:cur.size=n * s):FillS (w.alloc (.cells cur e)) w.heap.size e s n 0 []:=⟨⟨cur,heap_new _ _,h,by simp⟩,by simp⟩
theorem FillS.own {w:World} {g hi:Nat} {e:TypeId} {s n:Nat} {vs:List Value} {cs:List Cel} (h:FillS w g e s n n vs) (hn:n≤maxLen) (ho:OwnsL (g+1) hi w cs vs) (hh:g<hi):OwnT g hi w (.row e s cs) (.slice (some ⟨g,0,none⟩) n n):=by
 obtain ⟨⟨cur,h1,h2,h3⟩,h4⟩:=h
 obtain ⟨F,k1,k2,k3⟩:=ho
 refine ⟨g :: F,?_,?_,fun k hk=>?_⟩
 ·rw [ownC_row]
  exact ⟨_,n,n,vs,F,rfl,⟨h4,.inr ⟨g,n,cur,rfl,Nat.zero_le _,h1,Nat.le_refl _,hn,h2,h3⟩⟩,rfl,k1⟩
 ·rw [List.nodup_cons]
  exact ⟨fun hm=>by have:=k3 g hm;omega,k2⟩
 ·rw [List.mem_cons] at hk
  rcases hk with rfl|hk
  ·omega
  ·have:=k3 k hk;omega
theorem OwnsL.chgZ {lo hi lo' hi':Nat} {w w':World} {cs:List Cel} {vs:List Value} (h:OwnsL lo hi w cs vs) (hg:Chg lo' hi' w w') (ha:hi≤lo'∨hi'≤lo):OwnsL lo hi w' cs vs:=h.keep fun k h1 h2 hk=>hg.block k hk (by omega)
theorem OwnsL.appZ {lo mid mid' hi:Nat} {w:World} {cs ds:List Cel} {vs us:List Value} (h:OwnsL lo mid w cs vs) (k:OwnsL mid' hi w ds us) (h1:mid≤mid') (h2:lo≤mid') (h3:mid≤hi):OwnsL lo hi w (cs++ds) (vs++us):=by
 obtain ⟨F,f1,f2,f3⟩:=h
 obtain ⟨G,g1,g2,g3⟩:=k
 refine ⟨F++G,f1.append g1,?_,fun k hk=>?_⟩
 ·rw [List.nodup_append]
  exact ⟨f2,g2,fun p hp q hq e=>by have:=f3 p hp;have:=g3 q hq;omega⟩
 ·rcases List.mem_append.1 hk with hk|hk
  ·have:=f3 k hk;omega
  ·have:=g3 k hk;omega
def Pc.ces:Pc→List Cel
 | .cel c _=>[c]
 | .cels cs _=>cs
 | .own _ _=>[]
def Pc.vals:Pc→List Value
 | .cel _ v=>[v]
 | .cels _ vs=>vs
 | .own _ _=>[]
def Pc.isTree:Pc→Bool
 | .own _ _=>false
 | _=>true
theorem PcsAt.ownL {w:World}:∀{ps:List Pc} {F:List Nat},ps.all Pc.isTree=true→PcsAt w ps F→OwnL w (ps.flatMap Pc.ces) (ps.flatMap Pc.vals) F
 | [],F,_,h=>by rw [show F=[] from h];exact ownL_nil.2 ⟨rfl,rfl⟩
 | p :: ps,F,ht,h=>by
  obtain ⟨F1,F2,rfl,h1,h2⟩:=h
  rw [List.all_cons,Bool.and_eq_true] at ht
  rw [List.flatMap_cons,List.flatMap_cons]
  refine OwnL.append ?_ (PcsAt.ownL ht.2 h2)
  cases p with
  | cel c v=>exact ownL_cons.2 ⟨v,[],F1,[],rfl,(List.append_nil _).symm,h1,ownL_nil.2 ⟨rfl,rfl⟩⟩
  | cels cs vs=>exact h1
  | own g P=>exact absurd ht.1 (by simp [Pc.isTree])
theorem Sepa.ownsL {W w:World} {ps:List Pc} (h:Sepa W w ps) (ht:ps.all Pc.isTree=true):OwnsL W.heap.size w.heap.size w (ps.flatMap Pc.ces) (ps.flatMap Pc.vals):=by
 obtain ⟨_,F,h2,h3,h4⟩:=h
 exact ⟨F,h2.ownL ht,h3,fun k hk=>⟨h4 k hk,h2.lt k hk⟩⟩
theorem Sepa.pushInt {W w:World} {ps:List Pc} (h:Sepa W w ps) (x:Int):Sepa W w (ps++[.cel (.int x) (.int .i64 x)]) :=
 h.push (Below.refl _ _) (G:=[]) (show OwnC w (.int x) (.int .i64 x) [] from ownC_int.2 ⟨rfl,rfl⟩) (by simp) (by simp)
theorem three_boxes (w:World) (c0 c1 c2:Array Value) (t0 t1 t2:TypeId):Sepa w (((w.alloc (.cells c0 t0)).alloc (.cells c1 t1)).alloc (.cells c2 t2)) [.blk w.heap.size c0 t0,.blk (w.heap.size+1) c1 t1,.blk (w.heap.size+1+1) c2 t2]:=by
 have h:=(((Sepa.refl w).pushBlk c0 t0).pushBlk c1 t1).pushBlk c2 t2
 have e1:(w.alloc (.cells c0 t0)).heap.size=w.heap.size+1:=by simp
 have e2:((w.alloc (.cells c0 t0)).alloc (.cells c1 t1)).heap.size=w.heap.size+1+1:=by simp
 rw [e1,e2] at h
 exact h
theorem cells_at {w:World} {g:Nat} {cs:Array Value} {t:TypeId} (h:w.heap[g]?=some (.cells cs t (0,0))) {j:Nat} {v:Value} (hj:cs[j]?=some v):w.cell? ⟨g,j,none⟩=some v:=by
 unfold World.cell?
 rw [h]
 simpa using hj
theorem toInts_c (A:Option Addr) (n c:Nat) (xs:List Int) (w:World) (h:RdC w w.heap.size (celI xs) (.slice A n c)) (hz:szC (celI xs)≤1048576) :
  Calls Tryz.prog 17 #[.slice A n c] w fun e w'=>∃B,e = .returned (.slice B n n)∧OwnT w.heap.size w'.heap.size w' (celI xs) (.slice B n n)∧Below w.heap.size w w':=by
 have hn:=h.ints.1
 rw [szC_ints,hn] at hz
 refine (toIntS_any A n c xs w h.ints (by omega)).mono ?_
 rintro e w' ⟨B,rfl,ho,hb⟩
 exact ⟨B,rfl,⟨blk B,ownC_ints.2 ⟨ho.more (Nat.zero_le _),rfl⟩,by cases B <;> simp [blk],fun k hk=>by obtain ⟨a,rfl,rfl⟩:=mem_blk.1 hk;exact ho.lt a rfl⟩,hb⟩
set_option maxHeartbeats 1000000 in
theorem toSignal_any (x:SgT) (w:World) :
  Calls Tryz.prog 200 #[.agg #[.int .i64 x.kind,.int .i64 x.width,.int .i64 x.init]] w fun e w'=>e = .returned (.agg #[.int .i64 x.kind,.int .i64 x.width,.int .i64 x.init])∧OwnsL w.heap.size w'.heap.size w' x.cells [.int .i64 x.kind,.int .i64 x.width,.int .i64 x.init]∧Below w.heap.size w w':=by
 go_enter Tryz.func200,Tryz.ntmps200
 go_wp2_with fail
 refine bodyPost_ret (v := .agg #[.int .i64 x.kind,.int .i64 x.width,.int .i64 x.init]) (by simp [results,Tryz.results200,go_sem]) rfl ⟨rfl,?_,below_new (below_new (below_new (Below.refl _ _) _) _) _⟩
 exact ⟨[],ownL_cons.2 ⟨_,_,[],[],rfl,rfl,ownC_int.2 ⟨rfl,rfl⟩,ownL_cons.2 ⟨_,_,[],[],rfl,rfl,ownC_int.2 ⟨rfl,rfl⟩,ownL_cons.2 ⟨_,_,[],[],rfl,rfl,ownC_int.2 ⟨rfl,rfl⟩,ownL_nil.2 ⟨rfl,rfl⟩⟩⟩⟩,by simp,by simp⟩
theorem info_Signal:(Tryz.prog.info? 155).map (fun i=>(i.zero,i.size,i.bytes))=some (some (.agg #[.int .i64 0,.int .i64 0,.int .i64 0]),3,24):=by kernel_rfl
set_option maxHeartbeats 4000000 in
theorem toSignalS_any (A:Option Addr) (n c:Nat) (xs:List SgT) (w:World) (h:RdC w w.heap.size (celSg xs) (.slice A n c)) (hz:szC (celSg xs)≤1048576) :
  Calls Tryz.prog 157 #[.slice A n c] w fun e w'=>∃B,e = .returned (.slice B n n)∧OwnT w.heap.size w'.heap.size w' (celSg xs) (.slice B n n)∧Below w.heap.size w w':=by
 obtain ⟨i0,hi,hz0,hz1,hz2⟩:=info_parts info_Signal
 have hxl:xs.length=n:=h.sgN
 have HT:szC (celSg xs)=n+szCL (xs.flatMap SgT.cells):=by unfold celSg;rw [szC_flat SgT.cells_length (by omega),hxl]
 have hn:n≤1048576:=by omega
 have HZ:Hid (szCL (xs.flatMap SgT.cells)≤1048576):=by show _≤_;omega
 have hmk:=fun W=>run_make_rowN (P:=Tryz.prog) 103 155 i0 _ Tryz.underlying103 hi hz0 .i64 .i64 n n (Nat.le_refl _) (by rw [hz2];omega) (by omega) W
 have hsz0:∀z:Array Value,(madeCells z (n * i0.size)).size=n * 3:=fun z=>by rw [size_madeCells,hz1]
 generalize hcz:madeCells _ (n * i0.size)=cz at hmk
 have hczs:cz.size=n * 3:=by rw [←hcz];exact hsz0 _
 clear hi hz0 hz1 hz2 hsz0 hcz HT hz
 have HX:=Lib.hid hxl
 have HR:=Lib.hid h
 clear h hxl
 go_enter Tryz.func157,Tryz.ntmps157
 go_wp2_with fail
 go_loopw [4] (fun i wr=>∃(k:Nat) (vs:List Value),k≤n∧i = .int .i64 k∧FillS wr w.heap.size 155 3 n k vs∧OwnsL (w.heap.size+1) wr.heap.size wr ((xs.take k).flatMap SgT.cells) vs∧Below w.heap.size w wr∧w.heap.size<wr.heap.size) (fun i _=>n - (intOf i).toNat)
 case atStart=>exact ⟨0,[],Nat.zero_le _,rfl,FillS.new hczs,by simpa using OwnsL.nil,below_new (Below.refl _ _) _,by simp⟩
 case round =>
  obtain ⟨k,vs,hk,rfl,hfl,how,hbe,hsr⟩:=hrel
  have HFL:=Lib.hid hfl
  have HOW:=Lib.hid how
  have HBE:=Lib.hid hbe
  clear hfl how hbe hmk
  by_cases hlt:k<n
  ·have hdk:decide ((k:Int)<(n:Int))=true:=by simp;omega
   have hkx:k<xs.length:=by rw [HX.out];exact hlt
   obtain ⟨b,o,rfl,hb,c0,c1,c2⟩:=HR.out.sgE (k:=k) hkx
   have hbr:b<wr.heap.size:=by have:=HBE.out.size;omega
   have i0:(0:Int)≤(k:Int):=by omega
   have i1:(k:Int)<(n:Int):=by omega
   rw [←HBE.out.cell (p:=⟨b,o+k * 3,none⟩) hb] at c0
   rw [←HBE.out.cell (p:=⟨b,o+k * 3+1,none⟩) hb] at c1
   rw [←HBE.out.cell (p:=⟨b,o+k * 3+2,none⟩) hb] at c2

   skip
   clear HZ
   have HSN:=Lib.hid (flat_takeZ (f:=SgT.cells) (getD_some SgT.zero hkx:xs[k]?=some (xs[k]?.getD SgT.zero)))
   clear hkx
   generalize xs[k]?.getD SgT.zero=x at *
   go_wp2_with fail
   refine (toSignal_any x _).mono ?_
   rintro e w2 ⟨rfl,o2,b2⟩
   have hs2:=b2.size
   have HFL2:=Lib.hid (HFL.out.tr b2)
   have HOW2:=Lib.hid (HOW.out.below b2)
   have HBE2:=Lib.hid (below_tr HBE.out b2)
   have O2:=Lib.hid o2
   have hlg:=HFL2.out.lt
   clear o2 b2 c0 c1 c2
   obtain ⟨u0,f0⟩:=HFL2.out.cell hlt 0 (by omega)
   rw [Nat.add_zero] at f0
   obtain ⟨u1,f1⟩:=HFL2.out.cell hlt 1 (by omega)
   obtain ⟨u2,f2⟩:=HFL2.out.cell hlt 2 (by omega)
   have fz:=fun j=>HFL2.out.frozen j
   go_wp2_with fail
   clear f0 f1 f2 fz
   have HP:=Lib.hid (HFL2.out.put3 hlt (.int .i64 x.kind) (.int .i64 x.width) (.int .i64 x.init))
   have hC:Chg w.heap.size (w.heap.size+1) w2 (((w2.setCell ⟨w.heap.size,k * 3,none⟩ (.int .i64 x.kind)).setCell ⟨w.heap.size,k * 3+1,none⟩ (.int .i64 x.width)).setCell ⟨w.heap.size,k * 3+2,none⟩ (.int .i64 x.init)):=by
    repeat (first|exact Chg.refl _ _ _|refine Chg.set ?_ (Nat.le_refl _) (Nat.lt_succ_self _) _)
   have hsC:=hC.size
   have HO3:=Lib.hid (HOW2.out.chgZ hC (.inr (Nat.le_refl _)))
   have HO4:=Lib.hid (O2.out.chgZ hC (.inr (by omega)))
   have HB3:=Lib.hid (below_chg HBE2.out hC (Nat.le_refl _))
   generalize hWE:World.setCell _ _ _=WE at *
   clear hWE hC
   go_roundw
   case rel =>
    refine ⟨k+1,_,by omega,by go_num,HP.out,?_,HB3.out,by omega⟩
    rw [HSN.out]
    exact (HO3.out.appZ HO4.out (Nat.le_refl _) (by omega) hs2).widen (Nat.le_refl _) hsC
   case measure=>simp [intOf];omega
  ·have hkn:k=n:=by omega
   subst hkn
   have hdk:decide ((k:Int)<(k:Int))=false:=by simp
   go_wp2_with fail
   go_ret
   refine ⟨_,rfl,?_,HBE.out⟩
   have h:=HOW.out
   rw [List.take_of_length_le (by rw [HX.out];exact Nat.le_refl _)] at h
   exact HFL.out.own (by unfold maxLen;omega) h hsr
set_option maxHeartbeats 1000000 in
theorem toOp_any (x:OpT) (w:World) :
  Calls Tryz.prog 228 #[.agg #[.int .i64 x.kind,.int .i64 x.a,.int .i64 x.b]] w fun e w'=>e = .returned (.agg #[.int .i64 x.kind,.int .i64 x.a,.int .i64 x.b])∧OwnsL w.heap.size w'.heap.size w' x.cells [.int .i64 x.kind,.int .i64 x.a,.int .i64 x.b]∧Below w.heap.size w w':=by
 go_enter Tryz.func228,Tryz.ntmps228
 go_wp2_with fail
 refine bodyPost_ret (v := .agg #[.int .i64 x.kind,.int .i64 x.a,.int .i64 x.b]) (by simp [results,Tryz.results228,go_sem]) rfl ⟨rfl,?_,below_new (below_new (below_new (Below.refl _ _) _) _) _⟩
 exact ⟨[],ownL_cons.2 ⟨_,_,[],[],rfl,rfl,ownC_int.2 ⟨rfl,rfl⟩,ownL_cons.2 ⟨_,_,[],[],rfl,rfl,ownC_int.2 ⟨rfl,rfl⟩,ownL_cons.2 ⟨_,_,[],[],rfl,rfl,ownC_int.2 ⟨rfl,rfl⟩,ownL_nil.2 ⟨rfl,rfl⟩⟩⟩⟩,by simp,by simp⟩
theorem info_Op:(Tryz.prog.info? 198).map (fun i=>(i.zero,i.size,i.bytes))=some (some (.agg #[.int .i64 0,.int .i64 0,.int .i64 0]),3,24):=by kernel_rfl
set_option maxHeartbeats 4000000 in
theorem toOpS_any (A:Option Addr) (n c:Nat) (xs:List OpT) (w:World) (h:RdC w w.heap.size (celOp xs) (.slice A n c)) (hz:szC (celOp xs)≤1048576) :
  Calls Tryz.prog 223 #[.slice A n c] w fun e w'=>∃B,e = .returned (.slice B n n)∧OwnT w.heap.size w'.heap.size w' (celOp xs) (.slice B n n)∧Below w.heap.size w w':=by
 obtain ⟨i0,hi,hz0,hz1,hz2⟩:=info_parts info_Op
 have hxl:xs.length=n:=h.opN
 have HT:szC (celOp xs)=n+szCL (xs.flatMap OpT.cells):=by unfold celOp;rw [szC_flat OpT.cells_length (by omega),hxl]
 have hn:n≤1048576:=by omega
 have HZ:Hid (szCL (xs.flatMap OpT.cells)≤1048576):=by show _≤_;omega
 have hmk:=fun W=>run_make_rowN (P:=Tryz.prog) 194 198 i0 _ Tryz.underlying194 hi hz0 .i64 .i64 n n (Nat.le_refl _) (by rw [hz2];omega) (by omega) W
 have hsz0:∀z:Array Value,(madeCells z (n * i0.size)).size=n * 3:=fun z=>by rw [size_madeCells,hz1]
 generalize hcz:madeCells _ (n * i0.size)=cz at hmk
 have hczs:cz.size=n * 3:=by rw [←hcz];exact hsz0 _
 clear hi hz0 hz1 hz2 hsz0 hcz HT hz
 have HX:=Lib.hid hxl
 have HR:=Lib.hid h
 clear h hxl
 go_enter Tryz.func223,Tryz.ntmps223
 go_wp2_with fail
 go_loopw [4] (fun i wr=>∃(k:Nat) (vs:List Value),k≤n∧i = .int .i64 k∧FillS wr w.heap.size 198 3 n k vs∧OwnsL (w.heap.size+1) wr.heap.size wr ((xs.take k).flatMap OpT.cells) vs∧Below w.heap.size w wr∧w.heap.size<wr.heap.size) (fun i _=>n - (intOf i).toNat)
 case atStart=>exact ⟨0,[],Nat.zero_le _,rfl,FillS.new hczs,by simpa using OwnsL.nil,below_new (Below.refl _ _) _,by simp⟩
 case round =>
  obtain ⟨k,vs,hk,rfl,hfl,how,hbe,hsr⟩:=hrel
  have HFL:=Lib.hid hfl
  have HOW:=Lib.hid how
  have HBE:=Lib.hid hbe
  clear hfl how hbe hmk
  by_cases hlt:k<n
  ·have hdk:decide ((k:Int)<(n:Int))=true:=by simp;omega
   have hkx:k<xs.length:=by rw [HX.out];exact hlt
   obtain ⟨b,o,rfl,hb,c0,c1,c2⟩:=HR.out.opE (k:=k) hkx
   have hbr:b<wr.heap.size:=by have:=HBE.out.size;omega
   have i0:(0:Int)≤(k:Int):=by omega
   have i1:(k:Int)<(n:Int):=by omega
   rw [←HBE.out.cell (p:=⟨b,o+k * 3,none⟩) hb] at c0
   rw [←HBE.out.cell (p:=⟨b,o+k * 3+1,none⟩) hb] at c1
   rw [←HBE.out.cell (p:=⟨b,o+k * 3+2,none⟩) hb] at c2

   skip
   clear HZ
   have HSN:=Lib.hid (flat_takeZ (f:=OpT.cells) (getD_some OpT.zero hkx:xs[k]?=some (xs[k]?.getD OpT.zero)))
   clear hkx
   generalize xs[k]?.getD OpT.zero=x at *
   go_wp2_with fail
   refine (toOp_any x _).mono ?_
   rintro e w2 ⟨rfl,o2,b2⟩
   have hs2:=b2.size
   have HFL2:=Lib.hid (HFL.out.tr b2)
   have HOW2:=Lib.hid (HOW.out.below b2)
   have HBE2:=Lib.hid (below_tr HBE.out b2)
   have O2:=Lib.hid o2
   have hlg:=HFL2.out.lt
   clear o2 b2 c0 c1 c2
   obtain ⟨u0,f0⟩:=HFL2.out.cell hlt 0 (by omega)
   rw [Nat.add_zero] at f0
   obtain ⟨u1,f1⟩:=HFL2.out.cell hlt 1 (by omega)
   obtain ⟨u2,f2⟩:=HFL2.out.cell hlt 2 (by omega)
   have fz:=fun j=>HFL2.out.frozen j
   go_wp2_with fail
   clear f0 f1 f2 fz
   have HP:=Lib.hid (HFL2.out.put3 hlt (.int .i64 x.kind) (.int .i64 x.a) (.int .i64 x.b))
   have hC:Chg w.heap.size (w.heap.size+1) w2 (((w2.setCell ⟨w.heap.size,k * 3,none⟩ (.int .i64 x.kind)).setCell ⟨w.heap.size,k * 3+1,none⟩ (.int .i64 x.a)).setCell ⟨w.heap.size,k * 3+2,none⟩ (.int .i64 x.b)):=by
    repeat (first|exact Chg.refl _ _ _|refine Chg.set ?_ (Nat.le_refl _) (Nat.lt_succ_self _) _)
   have hsC:=hC.size
   have HO3:=Lib.hid (HOW2.out.chgZ hC (.inr (Nat.le_refl _)))
   have HO4:=Lib.hid (O2.out.chgZ hC (.inr (by omega)))
   have HB3:=Lib.hid (below_chg HBE2.out hC (Nat.le_refl _))
   generalize hWE:World.setCell _ _ _=WE at *
   clear hWE hC
   go_roundw
   case rel =>
    refine ⟨k+1,_,by omega,by go_num,HP.out,?_,HB3.out,by omega⟩
    rw [HSN.out]
    exact (HO3.out.appZ HO4.out (Nat.le_refl _) (by omega) hs2).widen (Nat.le_refl _) hsC
   case measure=>simp [intOf];omega
  ·have hkn:k=n:=by omega
   subst hkn
   have hdk:decide ((k:Int)<(k:Int))=false:=by simp
   go_wp2_with fail
   go_ret
   refine ⟨_,rfl,?_,HBE.out⟩
   have h:=HOW.out
   rw [List.take_of_length_le (by rw [HX.out];exact Nat.le_refl _)] at h
   exact HFL.out.own (by unfold maxLen;omega) h hsr
set_option maxHeartbeats 4000000 in
theorem toAssign_any (A0:Option Addr) (n0 c0:Nat) (x:AsT) (w:World) (h0:RdC w w.heap.size (celOp x.ops) (.slice A0 n0 c0)) (hz:szCL x.cells≤1048576) :
  Calls Tryz.prog 201 #[.agg #[.int .i64 x.target,.slice A0 n0 c0]] w fun e w'=>∃B0,e = .returned (.agg #[.int .i64 x.target,.slice B0 n0 n0])∧OwnsL w.heap.size w'.heap.size w' x.cells [.int .i64 x.target,.slice B0 n0 n0]∧Below w.heap.size w w':=by
 have R0:=Lib.hid h0
 have HS:szCL x.cells=szC (celOp x.ops):=by unfold AsT.cells;simp only [szCL_cons,szCL_nil,szC_int] <;> omega
 have Z1:Hid (szC (celOp x.ops)≤1048576):=by show _≤_;omega
 have S0:=Lib.hid (three_boxes w #[.int .i64 x.target,.slice A0 n0 c0] #[.int .i64 0,.slice none 0 0] #[.int .i64 0,.slice none 0 0] 231 196 196)
 have hg20:w.heap.size≠w.heap.size+1+1:=by omega
 have hg21:w.heap.size+1≠w.heap.size+1+1:=by omega
 have hg10:w.heap.size≠w.heap.size+1:=by omega
 clear HS hz h0
 go_enter Tryz.func201,Tryz.ntmps201
 go_upto_region 2 with fail
 generalize ((w.alloc (.cells #[.int .i64 x.target,.slice A0 n0 c0] 231)).alloc (.cells #[.int .i64 0,.slice none 0 0] 196)).alloc (.cells #[.int .i64 0,.slice none 0 0] 196)=w0 at *
 have hb0:=(S0.out.blk 0 rfl).1
 have hb1:=(S0.out.blk 1 rfl).1
 have hb2:=(S0.out.blk 2 rfl).1
 have x0:=cells_at hb0 (j:=0) (v := .int .i64 x.target) rfl
 have x1:=cells_at hb0 (j:=1) (v := .slice A0 n0 c0) rfl
 have z0:=cells_at hb2 (j:=0) (v := .int .i64 0) rfl
 have z1:=cells_at hb2 (j:=1) (v := .slice none 0 0) rfl
 have y2:=fun k=>frozen_heap hb2 k
 have l0:=heap_lt0 hb0
 have l1:=heap_lt0 hb1
 have l2:=heap_lt0 hb2
 clear hb0 hb1 hb2
 have Q1:Hid (Sepa w (w0.setCell ⟨w.heap.size+1+1,0,none⟩ (.int .i64 x.target)) [.blk w.heap.size #[.int .i64 x.target,.slice A0 n0 c0] 231,.blk (w.heap.size+1) #[.int .i64 0,.slice none 0 0] 196,.blk (w.heap.size+1+1) #[.int .i64 x.target,.slice none 0 0] 196,.cel (.int x.target) (.int .i64 x.target)]):=((S0.out.put 2 rfl 0 (.int .i64 x.target)).pushInt x.target)
 go_wp2_with fail
 refine (toOpS_any A0 n0 c0 x.ops _ (R0.out.below Q1.out.bel) Z1.out).mono ?_
 rintro _ w1 ⟨B0,rfl,o1,b1⟩
 have Q2:Hid (Sepa w (w1) [.blk w.heap.size #[.int .i64 x.target,.slice A0 n0 c0] 231,.blk (w.heap.size+1) #[.int .i64 0,.slice none 0 0] 196,.blk (w.heap.size+1+1) #[.int .i64 x.target,.slice none 0 0] 196,.cel (.int x.target) (.int .i64 x.target),.cel (celOp x.ops) (.slice B0 n0 n0)]):=(Q1.out.pushT b1 o1)
 clear o1 b1 x0 x1 z0 z1 y2 l0 l1 l2
 have hb0:=(Q2.out.blk 0 rfl).1
 have hb1:=(Q2.out.blk 1 rfl).1
 have hb2:=(Q2.out.blk 2 rfl).1
 have x0:=cells_at hb0 (j:=0) (v := .int .i64 x.target) rfl
 have x1:=cells_at hb0 (j:=1) (v := .slice A0 n0 c0) rfl
 have z0:=cells_at hb2 (j:=0) (v := .int .i64 x.target) rfl
 have z1:=cells_at hb2 (j:=1) (v := .slice none 0 0) rfl
 have y2:=fun k=>frozen_heap hb2 k
 have u0:=cells_at hb1 (j:=0) (v := .int .i64 0) rfl
 have u1:=cells_at hb1 (j:=1) (v := .slice none 0 0) rfl
 have y1:=fun k=>frozen_heap hb1 k
 have l0:=heap_lt0 hb0
 have l1:=heap_lt0 hb1
 have l2:=heap_lt0 hb2
 clear hb0 hb1 hb2
 have Q3:Hid (Sepa w (((w1.setCell ⟨w.heap.size+1+1,1,none⟩ (.slice B0 n0 n0)).setCell ⟨w.heap.size+1,0,none⟩ (.int .i64 x.target)).setCell ⟨w.heap.size+1,1,none⟩ (.slice B0 n0 n0)) [.blk w.heap.size #[.int .i64 x.target,.slice A0 n0 c0] 231,.blk (w.heap.size+1) #[.int .i64 x.target,.slice B0 n0 n0] 196,.blk (w.heap.size+1+1) #[.int .i64 x.target,.slice B0 n0 n0] 196,.cel (.int x.target) (.int .i64 x.target),.cel (celOp x.ops) (.slice B0 n0 n0)]):=(((Q2.out.put 2 rfl 1 (.slice B0 n0 n0)).put 1 rfl 0 (.int .i64 x.target)).put 1 rfl 1 (.slice B0 n0 n0))
 go_wp2_with fail
 generalize ((w1.setCell ⟨w.heap.size+1+1,1,none⟩ (.slice B0 n0 n0)).setCell ⟨w.heap.size+1,0,none⟩ (.int .i64 x.target)).setCell ⟨w.heap.size+1,1,none⟩ (.slice B0 n0 n0)=WF at *
 clear x0 x1 z0 z1 y2 u0 u1 y1 l0 l1 l2
 have hb:WF.heap[w.heap.size+1]?=some (.cells #[.int .i64 x.target,.slice B0 n0 n0] 196 (0,0)):=(Q3.out.blk 1 rfl).1
 exact bodyPost_ret (v := .agg #[.int .i64 x.target,.slice B0 n0 n0]) (results_cell1 Tryz.results201 rfl hb Tryz.underlying196 (by kernel_rfl)) rfl ⟨B0,rfl,Q3.out.tail.tail.tail.ownsL rfl,Q3.out.bel⟩
theorem info_Assign:(Tryz.prog.info? 196).map (fun i=>(i.zero,i.size,i.bytes))=some (some (.agg #[.int .i64 0,.slice none 0 0]),2,32):=by kernel_rfl
set_option maxHeartbeats 4000000 in
theorem toAssignS_any (A:Option Addr) (n c:Nat) (xs:List AsT) (w:World) (h:RdC w w.heap.size (celAs xs) (.slice A n c)) (hz:szC (celAs xs)≤1048576) :
  Calls Tryz.prog 158 #[.slice A n c] w fun e w'=>∃B,e = .returned (.slice B n n)∧OwnT w.heap.size w'.heap.size w' (celAs xs) (.slice B n n)∧Below w.heap.size w w':=by
 obtain ⟨i0,hi,hz0,hz1,hz2⟩:=info_parts info_Assign
 have hxl:xs.length=n:=h.asN
 have HT:szC (celAs xs)=n+szCL (xs.flatMap AsT.cells):=by unfold celAs;rw [szC_flat AsT.cells_length (by omega),hxl]
 have hn:n≤1048576:=by omega
 have HZ:Hid (szCL (xs.flatMap AsT.cells)≤1048576):=by show _≤_;omega
 have hmk:=fun W=>run_make_rowN (P:=Tryz.prog) 104 196 i0 _ Tryz.underlying104 hi hz0 .i64 .i64 n n (Nat.le_refl _) (by rw [hz2];omega) (by omega) W
 have hsz0:∀z:Array Value,(madeCells z (n * i0.size)).size=n * 2:=fun z=>by rw [size_madeCells,hz1]
 generalize hcz:madeCells _ (n * i0.size)=cz at hmk
 have hczs:cz.size=n * 2:=by rw [←hcz];exact hsz0 _
 clear hi hz0 hz1 hz2 hsz0 hcz HT hz
 have HX:=Lib.hid hxl
 have HR:=Lib.hid h
 clear h hxl
 go_enter Tryz.func158,Tryz.ntmps158
 go_wp2_with fail
 go_loopw [4] (fun i wr=>∃(k:Nat) (vs:List Value),k≤n∧i = .int .i64 k∧FillS wr w.heap.size 196 2 n k vs∧OwnsL (w.heap.size+1) wr.heap.size wr ((xs.take k).flatMap AsT.cells) vs∧Below w.heap.size w wr∧w.heap.size<wr.heap.size) (fun i _=>n - (intOf i).toNat)
 case atStart=>exact ⟨0,[],Nat.zero_le _,rfl,FillS.new hczs,by simpa using OwnsL.nil,below_new (Below.refl _ _) _,by simp⟩
 case round =>
  obtain ⟨k,vs,hk,rfl,hfl,how,hbe,hsr⟩:=hrel
  have HFL:=Lib.hid hfl
  have HOW:=Lib.hid how
  have HBE:=Lib.hid hbe
  clear hfl how hbe hmk
  by_cases hlt:k<n
  ·have hdk:decide ((k:Int)<(n:Int))=true:=by simp;omega
   have hkx:k<xs.length:=by rw [HX.out];exact hlt
   obtain ⟨b,o,S0,m0,p0,rfl,hb,c0,c1,r0⟩:=HR.out.asE (k:=k) hkx
   have hbr:b<wr.heap.size:=by have:=HBE.out.size;omega
   have i0:(0:Int)≤(k:Int):=by omega
   have i1:(k:Int)<(n:Int):=by omega
   rw [←HBE.out.cell (p:=⟨b,o+k * 2,none⟩) hb] at c0
   rw [←HBE.out.cell (p:=⟨b,o+k * 2+1,none⟩) hb] at c1
   have Q0:=Lib.hid (r0.below HBE.out)
   clear r0
   have HZK:Hid (szCL (xs[k]?.getD AsT.zero).cells≤1048576):=by show _≤_;exact Nat.le_trans (szCL_elem hkx) HZ.out
   have HSN:=Lib.hid (flat_takeZ (f:=AsT.cells) (getD_some AsT.zero hkx:xs[k]?=some (xs[k]?.getD AsT.zero)))
   clear hkx
   generalize xs[k]?.getD AsT.zero=x at *
   go_wp2_with fail
   refine (toAssign_any S0 m0 p0 x _ Q0.out HZK.out).mono ?_
   rintro e w2 ⟨B0,rfl,o2,b2⟩
   have hs2:=b2.size
   have HFL2:=Lib.hid (HFL.out.tr b2)
   have HOW2:=Lib.hid (HOW.out.below b2)
   have HBE2:=Lib.hid (below_tr HBE.out b2)
   have O2:=Lib.hid o2
   have hlg:=HFL2.out.lt
   clear o2 b2 c0 c1
   obtain ⟨u0,f0⟩:=HFL2.out.cell hlt 0 (by omega)
   rw [Nat.add_zero] at f0
   obtain ⟨u1,f1⟩:=HFL2.out.cell hlt 1 (by omega)
   have fz:=fun j=>HFL2.out.frozen j
   go_wp2_with fail
   clear f0 f1 fz
   have HP:=Lib.hid (HFL2.out.put2 hlt (.int .i64 x.target) (.slice B0 m0 m0))
   have hC:Chg w.heap.size (w.heap.size+1) w2 ((w2.setCell ⟨w.heap.size,k * 2,none⟩ (.int .i64 x.target)).setCell ⟨w.heap.size,k * 2+1,none⟩ (.slice B0 m0 m0)):=by
    repeat (first|exact Chg.refl _ _ _|refine Chg.set ?_ (Nat.le_refl _) (Nat.lt_succ_self _) _)
   have hsC:=hC.size
   have HO3:=Lib.hid (HOW2.out.chgZ hC (.inr (Nat.le_refl _)))
   have HO4:=Lib.hid (O2.out.chgZ hC (.inr (by omega)))
   have HB3:=Lib.hid (below_chg HBE2.out hC (Nat.le_refl _))
   generalize hWE:World.setCell _ _ _=WE at *
   clear hWE hC
   go_roundw
   case rel =>
    refine ⟨k+1,_,by omega,by go_num,HP.out,?_,HB3.out,by omega⟩
    rw [HSN.out]
    exact (HO3.out.appZ HO4.out (Nat.le_refl _) (by omega) hs2).widen (Nat.le_refl _) hsC
   case measure=>simp [intOf];omega
  ·have hkn:k=n:=by omega
   subst hkn
   have hdk:decide ((k:Int)<(k:Int))=false:=by simp
   go_wp2_with fail
   go_ret
   refine ⟨_,rfl,?_,HBE.out⟩
   have h:=HOW.out
   rw [List.take_of_length_le (by rw [HX.out];exact Nat.le_refl _)] at h
   exact HFL.out.own (by unfold maxLen;omega) h hsr
set_option maxHeartbeats 4000000 in
theorem toInst_any (A0:Option Addr) (n0 c0:Nat) (x:InT) (w:World) (h0:RdC w w.heap.size (celI x.ports) (.slice A0 n0 c0)) (hz:szCL x.cells≤1048576) :
  Calls Tryz.prog 202 #[.agg #[.int .i64 x.module,.int .i64 x.param,.slice A0 n0 c0]] w fun e w'=>∃B0,e = .returned (.agg #[.int .i64 x.module,.int .i64 x.param,.slice B0 n0 n0])∧OwnsL w.heap.size w'.heap.size w' x.cells [.int .i64 x.module,.int .i64 x.param,.slice B0 n0 n0]∧Below w.heap.size w w':=by
 have R0:=Lib.hid h0
 have HS:szCL x.cells=szC (celI x.ports):=by unfold InT.cells;simp only [szCL_cons,szCL_nil,szC_int] <;> omega
 have Z2:Hid (szC (celI x.ports)≤1048576):=by show _≤_;omega
 have S0:=Lib.hid (three_boxes w #[.int .i64 x.module,.int .i64 x.param,.slice A0 n0 c0] #[.int .i64 0,.int .i64 0,.slice none 0 0] #[.int .i64 0,.int .i64 0,.slice none 0 0] 233 202 202)
 have hg20:w.heap.size≠w.heap.size+1+1:=by omega
 have hg21:w.heap.size+1≠w.heap.size+1+1:=by omega
 have hg10:w.heap.size≠w.heap.size+1:=by omega
 clear HS hz h0
 go_enter Tryz.func202,Tryz.ntmps202
 go_upto_region 2 with fail
 generalize ((w.alloc (.cells #[.int .i64 x.module,.int .i64 x.param,.slice A0 n0 c0] 233)).alloc (.cells #[.int .i64 0,.int .i64 0,.slice none 0 0] 202)).alloc (.cells #[.int .i64 0,.int .i64 0,.slice none 0 0] 202)=w0 at *
 have hb0:=(S0.out.blk 0 rfl).1
 have hb1:=(S0.out.blk 1 rfl).1
 have hb2:=(S0.out.blk 2 rfl).1
 have x0:=cells_at hb0 (j:=0) (v := .int .i64 x.module) rfl
 have x1:=cells_at hb0 (j:=1) (v := .int .i64 x.param) rfl
 have x2:=cells_at hb0 (j:=2) (v := .slice A0 n0 c0) rfl
 have z0:=cells_at hb2 (j:=0) (v := .int .i64 0) rfl
 have z1:=cells_at hb2 (j:=1) (v := .int .i64 0) rfl
 have z2:=cells_at hb2 (j:=2) (v := .slice none 0 0) rfl
 have y2:=fun k=>frozen_heap hb2 k
 have l0:=heap_lt0 hb0
 have l1:=heap_lt0 hb1
 have l2:=heap_lt0 hb2
 clear hb0 hb1 hb2
 have Q1:Hid (Sepa w ((w0.setCell ⟨w.heap.size+1+1,0,none⟩ (.int .i64 x.module)).setCell ⟨w.heap.size+1+1,1,none⟩ (.int .i64 x.param)) [.blk w.heap.size #[.int .i64 x.module,.int .i64 x.param,.slice A0 n0 c0] 233,.blk (w.heap.size+1) #[.int .i64 0,.int .i64 0,.slice none 0 0] 202,.blk (w.heap.size+1+1) #[.int .i64 x.module,.int .i64 x.param,.slice none 0 0] 202,.cel (.int x.module) (.int .i64 x.module),.cel (.int x.param) (.int .i64 x.param)]):=((((S0.out.put 2 rfl 0 (.int .i64 x.module)).pushInt x.module).put 2 rfl 1 (.int .i64 x.param)).pushInt x.param)
 go_wp2_with fail
 refine (toInts_c A0 n0 c0 x.ports _ (R0.out.below Q1.out.bel) Z2.out).mono ?_
 rintro _ w1 ⟨B0,rfl,o1,b1⟩
 have Q2:Hid (Sepa w (w1) [.blk w.heap.size #[.int .i64 x.module,.int .i64 x.param,.slice A0 n0 c0] 233,.blk (w.heap.size+1) #[.int .i64 0,.int .i64 0,.slice none 0 0] 202,.blk (w.heap.size+1+1) #[.int .i64 x.module,.int .i64 x.param,.slice none 0 0] 202,.cel (.int x.module) (.int .i64 x.module),.cel (.int x.param) (.int .i64 x.param),.cel (celI x.ports) (.slice B0 n0 n0)]):=(Q1.out.pushT b1 o1)
 clear o1 b1 x0 x1 x2 z0 z1 z2 y2 l0 l1 l2
 have hb0:=(Q2.out.blk 0 rfl).1
 have hb1:=(Q2.out.blk 1 rfl).1
 have hb2:=(Q2.out.blk 2 rfl).1
 have x0:=cells_at hb0 (j:=0) (v := .int .i64 x.module) rfl
 have x1:=cells_at hb0 (j:=1) (v := .int .i64 x.param) rfl
 have x2:=cells_at hb0 (j:=2) (v := .slice A0 n0 c0) rfl
 have z0:=cells_at hb2 (j:=0) (v := .int .i64 x.module) rfl
 have z1:=cells_at hb2 (j:=1) (v := .int .i64 x.param) rfl
 have z2:=cells_at hb2 (j:=2) (v := .slice none 0 0) rfl
 have y2:=fun k=>frozen_heap hb2 k
 have u0:=cells_at hb1 (j:=0) (v := .int .i64 0) rfl
 have u1:=cells_at hb1 (j:=1) (v := .int .i64 0) rfl
 have u2:=cells_at hb1 (j:=2) (v := .slice none 0 0) rfl
 have y1:=fun k=>frozen_heap hb1 k
 have l0:=heap_lt0 hb0
 have l1:=heap_lt0 hb1
 have l2:=heap_lt0 hb2
 clear hb0 hb1 hb2
 have Q3:Hid (Sepa w ((((w1.setCell ⟨w.heap.size+1+1,2,none⟩ (.slice B0 n0 n0)).setCell ⟨w.heap.size+1,0,none⟩ (.int .i64 x.module)).setCell ⟨w.heap.size+1,1,none⟩ (.int .i64 x.param)).setCell ⟨w.heap.size+1,2,none⟩ (.slice B0 n0 n0)) [.blk w.heap.size #[.int .i64 x.module,.int .i64 x.param,.slice A0 n0 c0] 233,.blk (w.heap.size+1) #[.int .i64 x.module,.int .i64 x.param,.slice B0 n0 n0] 202,.blk (w.heap.size+1+1) #[.int .i64 x.module,.int .i64 x.param,.slice B0 n0 n0] 202,.cel (.int x.module) (.int .i64 x.module),.cel (.int x.param) (.int .i64 x.param),.cel (celI x.ports) (.slice B0 n0 n0)]):=((((Q2.out.put 2 rfl 2 (.slice B0 n0 n0)).put 1 rfl 0 (.int .i64 x.module)).put 1 rfl 1 (.int .i64 x.param)).put 1 rfl 2 (.slice B0 n0 n0))
 go_wp2_with fail
 generalize (((w1.setCell ⟨w.heap.size+1+1,2,none⟩ (.slice B0 n0 n0)).setCell ⟨w.heap.size+1,0,none⟩ (.int .i64 x.module)).setCell ⟨w.heap.size+1,1,none⟩ (.int .i64 x.param)).setCell ⟨w.heap.size+1,2,none⟩ (.slice B0 n0 n0)=WF at *
 clear x0 x1 x2 z0 z1 z2 y2 u0 u1 u2 y1 l0 l1 l2
 have hb:WF.heap[w.heap.size+1]?=some (.cells #[.int .i64 x.module,.int .i64 x.param,.slice B0 n0 n0] 202 (0,0)):=(Q3.out.blk 1 rfl).1
 exact bodyPost_ret (v := .agg #[.int .i64 x.module,.int .i64 x.param,.slice B0 n0 n0]) (results_cell1 Tryz.results202 rfl hb Tryz.underlying202 (by kernel_rfl)) rfl ⟨B0,rfl,Q3.out.tail.tail.tail.ownsL rfl,Q3.out.bel⟩
theorem info_Inst:(Tryz.prog.info? 202).map (fun i=>(i.zero,i.size,i.bytes))=some (some (.agg #[.int .i64 0,.int .i64 0,.slice none 0 0]),3,40):=by kernel_rfl
set_option maxHeartbeats 4000000 in
theorem toInstS_any (A:Option Addr) (n c:Nat) (xs:List InT) (w:World) (h:RdC w w.heap.size (celIn xs) (.slice A n c)) (hz:szC (celIn xs)≤1048576) :
  Calls Tryz.prog 159 #[.slice A n c] w fun e w'=>∃B,e = .returned (.slice B n n)∧OwnT w.heap.size w'.heap.size w' (celIn xs) (.slice B n n)∧Below w.heap.size w w':=by
 obtain ⟨i0,hi,hz0,hz1,hz2⟩:=info_parts info_Inst
 have hxl:xs.length=n:=h.inN
 have HT:szC (celIn xs)=n+szCL (xs.flatMap InT.cells):=by unfold celIn;rw [szC_flat InT.cells_length (by omega),hxl]
 have hn:n≤1048576:=by omega
 have HZ:Hid (szCL (xs.flatMap InT.cells)≤1048576):=by show _≤_;omega
 have hmk:=fun W=>run_make_rowN (P:=Tryz.prog) 105 202 i0 _ Tryz.underlying105 hi hz0 .i64 .i64 n n (Nat.le_refl _) (by rw [hz2];omega) (by omega) W
 have hsz0:∀z:Array Value,(madeCells z (n * i0.size)).size=n * 3:=fun z=>by rw [size_madeCells,hz1]
 generalize hcz:madeCells _ (n * i0.size)=cz at hmk
 have hczs:cz.size=n * 3:=by rw [←hcz];exact hsz0 _
 clear hi hz0 hz1 hz2 hsz0 hcz HT hz
 have HX:=Lib.hid hxl
 have HR:=Lib.hid h
 clear h hxl
 go_enter Tryz.func159,Tryz.ntmps159
 go_wp2_with fail
 go_loopw [4] (fun i wr=>∃(k:Nat) (vs:List Value),k≤n∧i = .int .i64 k∧FillS wr w.heap.size 202 3 n k vs∧OwnsL (w.heap.size+1) wr.heap.size wr ((xs.take k).flatMap InT.cells) vs∧Below w.heap.size w wr∧w.heap.size<wr.heap.size) (fun i _=>n - (intOf i).toNat)
 case atStart=>exact ⟨0,[],Nat.zero_le _,rfl,FillS.new hczs,by simpa using OwnsL.nil,below_new (Below.refl _ _) _,by simp⟩
 case round =>
  obtain ⟨k,vs,hk,rfl,hfl,how,hbe,hsr⟩:=hrel
  have HFL:=Lib.hid hfl
  have HOW:=Lib.hid how
  have HBE:=Lib.hid hbe
  clear hfl how hbe hmk
  by_cases hlt:k<n
  ·have hdk:decide ((k:Int)<(n:Int))=true:=by simp;omega
   have hkx:k<xs.length:=by rw [HX.out];exact hlt
   obtain ⟨b,o,S0,m0,p0,rfl,hb,c0,c1,c2,r0⟩:=HR.out.inE (k:=k) hkx
   have hbr:b<wr.heap.size:=by have:=HBE.out.size;omega
   have i0:(0:Int)≤(k:Int):=by omega
   have i1:(k:Int)<(n:Int):=by omega
   rw [←HBE.out.cell (p:=⟨b,o+k * 3,none⟩) hb] at c0
   rw [←HBE.out.cell (p:=⟨b,o+k * 3+1,none⟩) hb] at c1
   rw [←HBE.out.cell (p:=⟨b,o+k * 3+2,none⟩) hb] at c2
   have Q0:=Lib.hid (r0.below HBE.out)
   clear r0
   have HZK:Hid (szCL (xs[k]?.getD InT.zero).cells≤1048576):=by show _≤_;exact Nat.le_trans (szCL_elem hkx) HZ.out
   have HSN:=Lib.hid (flat_takeZ (f:=InT.cells) (getD_some InT.zero hkx:xs[k]?=some (xs[k]?.getD InT.zero)))
   clear hkx
   generalize xs[k]?.getD InT.zero=x at *
   go_wp2_with fail
   refine (toInst_any S0 m0 p0 x _ Q0.out HZK.out).mono ?_
   rintro e w2 ⟨B0,rfl,o2,b2⟩
   have hs2:=b2.size
   have HFL2:=Lib.hid (HFL.out.tr b2)
   have HOW2:=Lib.hid (HOW.out.below b2)
   have HBE2:=Lib.hid (below_tr HBE.out b2)
   have O2:=Lib.hid o2
   have hlg:=HFL2.out.lt
   clear o2 b2 c0 c1 c2
   obtain ⟨u0,f0⟩:=HFL2.out.cell hlt 0 (by omega)
   rw [Nat.add_zero] at f0
   obtain ⟨u1,f1⟩:=HFL2.out.cell hlt 1 (by omega)
   obtain ⟨u2,f2⟩:=HFL2.out.cell hlt 2 (by omega)
   have fz:=fun j=>HFL2.out.frozen j
   go_wp2_with fail
   clear f0 f1 f2 fz
   have HP:=Lib.hid (HFL2.out.put3 hlt (.int .i64 x.module) (.int .i64 x.param) (.slice B0 m0 m0))
   have hC:Chg w.heap.size (w.heap.size+1) w2 (((w2.setCell ⟨w.heap.size,k * 3,none⟩ (.int .i64 x.module)).setCell ⟨w.heap.size,k * 3+1,none⟩ (.int .i64 x.param)).setCell ⟨w.heap.size,k * 3+2,none⟩ (.slice B0 m0 m0)):=by
    repeat (first|exact Chg.refl _ _ _|refine Chg.set ?_ (Nat.le_refl _) (Nat.lt_succ_self _) _)
   have hsC:=hC.size
   have HO3:=Lib.hid (HOW2.out.chgZ hC (.inr (Nat.le_refl _)))
   have HO4:=Lib.hid (O2.out.chgZ hC (.inr (by omega)))
   have HB3:=Lib.hid (below_chg HBE2.out hC (Nat.le_refl _))
   generalize hWE:World.setCell _ _ _=WE at *
   clear hWE hC
   go_roundw
   case rel =>
    refine ⟨k+1,_,by omega,by go_num,HP.out,?_,HB3.out,by omega⟩
    rw [HSN.out]
    exact (HO3.out.appZ HO4.out (Nat.le_refl _) (by omega) hs2).widen (Nat.le_refl _) hsC
   case measure=>simp [intOf];omega
  ·have hkn:k=n:=by omega
   subst hkn
   have hdk:decide ((k:Int)<(k:Int))=false:=by simp
   go_wp2_with fail
   go_ret
   refine ⟨_,rfl,?_,HBE.out⟩
   have h:=HOW.out
   rw [List.take_of_length_le (by rw [HX.out];exact Nat.le_refl _)] at h
   exact HFL.out.own (by unfold maxLen;omega) h hsr
set_option maxHeartbeats 1000000 in
theorem toMem_any (x:MmT) (w:World) :
  Calls Tryz.prog 203 #[.agg #[.int .i64 x.addr,.int .i64 x.data,.int .i64 x.write,.int .i64 x.out]] w fun e w'=>e = .returned (.agg #[.int .i64 x.addr,.int .i64 x.data,.int .i64 x.write,.int .i64 x.out])∧OwnsL w.heap.size w'.heap.size w' x.cells [.int .i64 x.addr,.int .i64 x.data,.int .i64 x.write,.int .i64 x.out]∧Below w.heap.size w w':=by
 go_enter Tryz.func203,Tryz.ntmps203
 go_wp2_with fail
 refine bodyPost_ret (v := .agg #[.int .i64 x.addr,.int .i64 x.data,.int .i64 x.write,.int .i64 x.out]) (by simp [results,Tryz.results203,go_sem]) rfl ⟨rfl,?_,below_new (below_new (below_new (Below.refl _ _) _) _) _⟩
 exact ⟨[],ownL_cons.2 ⟨_,_,[],[],rfl,rfl,ownC_int.2 ⟨rfl,rfl⟩,ownL_cons.2 ⟨_,_,[],[],rfl,rfl,ownC_int.2 ⟨rfl,rfl⟩,ownL_cons.2 ⟨_,_,[],[],rfl,rfl,ownC_int.2 ⟨rfl,rfl⟩,ownL_cons.2 ⟨_,_,[],[],rfl,rfl,ownC_int.2 ⟨rfl,rfl⟩,ownL_nil.2 ⟨rfl,rfl⟩⟩⟩⟩⟩,by simp,by simp⟩
theorem info_Mem:(Tryz.prog.info? 200).map (fun i=>(i.zero,i.size,i.bytes))=some (some (.agg #[.int .i64 0,.int .i64 0,.int .i64 0,.int .i64 0]),4,32):=by kernel_rfl
set_option maxHeartbeats 4000000 in
theorem toMemS_any (A:Option Addr) (n c:Nat) (xs:List MmT) (w:World) (h:RdC w w.heap.size (celMm xs) (.slice A n c)) (hz:szC (celMm xs)≤1048576) :
  Calls Tryz.prog 160 #[.slice A n c] w fun e w'=>∃B,e = .returned (.slice B n n)∧OwnT w.heap.size w'.heap.size w' (celMm xs) (.slice B n n)∧Below w.heap.size w w':=by
 obtain ⟨i0,hi,hz0,hz1,hz2⟩:=info_parts info_Mem
 have hxl:xs.length=n:=h.mmN
 have HT:szC (celMm xs)=n+szCL (xs.flatMap MmT.cells):=by unfold celMm;rw [szC_flat MmT.cells_length (by omega),hxl]
 have hn:n≤1048576:=by omega
 have HZ:Hid (szCL (xs.flatMap MmT.cells)≤1048576):=by show _≤_;omega
 have hmk:=fun W=>run_make_rowN (P:=Tryz.prog) 106 200 i0 _ Tryz.underlying106 hi hz0 .i64 .i64 n n (Nat.le_refl _) (by rw [hz2];omega) (by omega) W
 have hsz0:∀z:Array Value,(madeCells z (n * i0.size)).size=n * 4:=fun z=>by rw [size_madeCells,hz1]
 generalize hcz:madeCells _ (n * i0.size)=cz at hmk
 have hczs:cz.size=n * 4:=by rw [←hcz];exact hsz0 _
 clear hi hz0 hz1 hz2 hsz0 hcz HT hz
 have HX:=Lib.hid hxl
 have HR:=Lib.hid h
 clear h hxl
 go_enter Tryz.func160,Tryz.ntmps160
 go_wp2_with fail
 go_loopw [4] (fun i wr=>∃(k:Nat) (vs:List Value),k≤n∧i = .int .i64 k∧FillS wr w.heap.size 200 4 n k vs∧OwnsL (w.heap.size+1) wr.heap.size wr ((xs.take k).flatMap MmT.cells) vs∧Below w.heap.size w wr∧w.heap.size<wr.heap.size) (fun i _=>n - (intOf i).toNat)
 case atStart=>exact ⟨0,[],Nat.zero_le _,rfl,FillS.new hczs,by simpa using OwnsL.nil,below_new (Below.refl _ _) _,by simp⟩
 case round =>
  obtain ⟨k,vs,hk,rfl,hfl,how,hbe,hsr⟩:=hrel
  have HFL:=Lib.hid hfl
  have HOW:=Lib.hid how
  have HBE:=Lib.hid hbe
  clear hfl how hbe hmk
  by_cases hlt:k<n
  ·have hdk:decide ((k:Int)<(n:Int))=true:=by simp;omega
   have hkx:k<xs.length:=by rw [HX.out];exact hlt
   obtain ⟨b,o,rfl,hb,c0,c1,c2,c3⟩:=HR.out.mmE (k:=k) hkx
   have hbr:b<wr.heap.size:=by have:=HBE.out.size;omega
   have i0:(0:Int)≤(k:Int):=by omega
   have i1:(k:Int)<(n:Int):=by omega
   rw [←HBE.out.cell (p:=⟨b,o+k * 4,none⟩) hb] at c0
   rw [←HBE.out.cell (p:=⟨b,o+k * 4+1,none⟩) hb] at c1
   rw [←HBE.out.cell (p:=⟨b,o+k * 4+2,none⟩) hb] at c2
   rw [←HBE.out.cell (p:=⟨b,o+k * 4+3,none⟩) hb] at c3

   skip
   clear HZ
   have HSN:=Lib.hid (flat_takeZ (f:=MmT.cells) (getD_some MmT.zero hkx:xs[k]?=some (xs[k]?.getD MmT.zero)))
   clear hkx
   generalize xs[k]?.getD MmT.zero=x at *
   go_wp2_with fail
   refine (toMem_any x _).mono ?_
   rintro e w2 ⟨rfl,o2,b2⟩
   have hs2:=b2.size
   have HFL2:=Lib.hid (HFL.out.tr b2)
   have HOW2:=Lib.hid (HOW.out.below b2)
   have HBE2:=Lib.hid (below_tr HBE.out b2)
   have O2:=Lib.hid o2
   have hlg:=HFL2.out.lt
   clear o2 b2 c0 c1 c2 c3
   obtain ⟨u0,f0⟩:=HFL2.out.cell hlt 0 (by omega)
   rw [Nat.add_zero] at f0
   obtain ⟨u1,f1⟩:=HFL2.out.cell hlt 1 (by omega)
   obtain ⟨u2,f2⟩:=HFL2.out.cell hlt 2 (by omega)
   obtain ⟨u3,f3⟩:=HFL2.out.cell hlt 3 (by omega)
   have fz:=fun j=>HFL2.out.frozen j
   go_wp2_with fail
   clear f0 f1 f2 f3 fz
   have HP:=Lib.hid (HFL2.out.put4 hlt (.int .i64 x.addr) (.int .i64 x.data) (.int .i64 x.write) (.int .i64 x.out))
   have hC:Chg w.heap.size (w.heap.size+1) w2 ((((w2.setCell ⟨w.heap.size,k * 4,none⟩ (.int .i64 x.addr)).setCell ⟨w.heap.size,k * 4+1,none⟩ (.int .i64 x.data)).setCell ⟨w.heap.size,k * 4+2,none⟩ (.int .i64 x.write)).setCell ⟨w.heap.size,k * 4+3,none⟩ (.int .i64 x.out)):=by
    repeat (first|exact Chg.refl _ _ _|refine Chg.set ?_ (Nat.le_refl _) (Nat.lt_succ_self _) _)
   have hsC:=hC.size
   have HO3:=Lib.hid (HOW2.out.chgZ hC (.inr (Nat.le_refl _)))
   have HO4:=Lib.hid (O2.out.chgZ hC (.inr (by omega)))
   have HB3:=Lib.hid (below_chg HBE2.out hC (Nat.le_refl _))
   generalize hWE:World.setCell _ _ _=WE at *
   clear hWE hC
   go_roundw
   case rel =>
    refine ⟨k+1,_,by omega,by go_num,HP.out,?_,HB3.out,by omega⟩
    rw [HSN.out]
    exact (HO3.out.appZ HO4.out (Nat.le_refl _) (by omega) hs2).widen (Nat.le_refl _) hsC
   case measure=>simp [intOf];omega
  ·have hkn:k=n:=by omega
   subst hkn
   have hdk:decide ((k:Int)<(k:Int))=false:=by simp
   go_wp2_with fail
   go_ret
   refine ⟨_,rfl,?_,HBE.out⟩
   have h:=HOW.out
   rw [List.take_of_length_le (by rw [HX.out];exact Nat.le_refl _)] at h
   exact HFL.out.own (by unfold maxLen;omega) h hsr
set_option maxHeartbeats 4000000 in
theorem toModule_any (A0 A1 A2 A3:Option Addr) (n0 c0 n1 c1 n2 c2 n3 c3:Nat) (x:MdT) (w:World) (h0:RdC w w.heap.size (celSg x.sigs) (.slice A0 n0 c0)) (h1:RdC w w.heap.size (celAs x.asgs) (.slice A1 n1 c1)) (h2:RdC w w.heap.size (celIn x.insts) (.slice A2 n2 c2)) (h3:RdC w w.heap.size (celMm x.mems) (.slice A3 n3 c3)) (hz:szCL x.cells≤1048576) :
  Calls Tryz.prog 105 #[.agg #[.slice A0 n0 c0,.slice A1 n1 c1,.slice A2 n2 c2,.slice A3 n3 c3]] w fun e w'=>∃B0 B1 B2 B3,e = .returned (.agg #[.slice B0 n0 n0,.slice B1 n1 n1,.slice B2 n2 n2,.slice B3 n3 n3])∧OwnsL w.heap.size w'.heap.size w' x.cells [.slice B0 n0 n0,.slice B1 n1 n1,.slice B2 n2 n2,.slice B3 n3 n3]∧Below w.heap.size w w':=by
 have R0:=Lib.hid h0
 have R1:=Lib.hid h1
 have R2:=Lib.hid h2
 have R3:=Lib.hid h3
 have HS:szCL x.cells=szC (celSg x.sigs)+szC (celAs x.asgs)+szC (celIn x.insts)+szC (celMm x.mems):=by unfold MdT.cells;simp only [szCL_cons,szCL_nil] <;> omega
 have Z0:Hid (szC (celSg x.sigs)≤1048576):=by show _≤_;omega
 have Z1:Hid (szC (celAs x.asgs)≤1048576):=by show _≤_;omega
 have Z2:Hid (szC (celIn x.insts)≤1048576):=by show _≤_;omega
 have Z3:Hid (szC (celMm x.mems)≤1048576):=by show _≤_;omega
 have S0:=Lib.hid (three_boxes w #[.slice A0 n0 c0,.slice A1 n1 c1,.slice A2 n2 c2,.slice A3 n3 c3] #[.slice none 0 0,.slice none 0 0,.slice none 0 0,.slice none 0 0] #[.slice none 0 0,.slice none 0 0,.slice none 0 0,.slice none 0 0] 149 108 108)
 have hg20:w.heap.size≠w.heap.size+1+1:=by omega
 have hg21:w.heap.size+1≠w.heap.size+1+1:=by omega
 have hg10:w.heap.size≠w.heap.size+1:=by omega
 clear HS hz h0 h1 h2 h3
 go_enter Tryz.func105,Tryz.ntmps105
 go_upto_region 2 with fail
 generalize ((w.alloc (.cells #[.slice A0 n0 c0,.slice A1 n1 c1,.slice A2 n2 c2,.slice A3 n3 c3] 149)).alloc (.cells #[.slice none 0 0,.slice none 0 0,.slice none 0 0,.slice none 0 0] 108)).alloc (.cells #[.slice none 0 0,.slice none 0 0,.slice none 0 0,.slice none 0 0] 108)=w0 at *
 have hb0:=(S0.out.blk 0 rfl).1
 have hb1:=(S0.out.blk 1 rfl).1
 have hb2:=(S0.out.blk 2 rfl).1
 have x0:=cells_at hb0 (j:=0) (v := .slice A0 n0 c0) rfl
 have x1:=cells_at hb0 (j:=1) (v := .slice A1 n1 c1) rfl
 have x2:=cells_at hb0 (j:=2) (v := .slice A2 n2 c2) rfl
 have x3:=cells_at hb0 (j:=3) (v := .slice A3 n3 c3) rfl
 have z0:=cells_at hb2 (j:=0) (v := .slice none 0 0) rfl
 have z1:=cells_at hb2 (j:=1) (v := .slice none 0 0) rfl
 have z2:=cells_at hb2 (j:=2) (v := .slice none 0 0) rfl
 have z3:=cells_at hb2 (j:=3) (v := .slice none 0 0) rfl
 have y2:=fun k=>frozen_heap hb2 k
 have l0:=heap_lt0 hb0
 have l1:=heap_lt0 hb1
 have l2:=heap_lt0 hb2
 clear hb0 hb1 hb2
 go_wp2_with fail
 refine (toSignalS_any A0 n0 c0 x.sigs _ (R0.out.below S0.out.bel) Z0.out).mono ?_
 rintro _ w1 ⟨B0,rfl,o1,b1⟩
 have Q1:Hid (Sepa w (w1) [.blk w.heap.size #[.slice A0 n0 c0,.slice A1 n1 c1,.slice A2 n2 c2,.slice A3 n3 c3] 149,.blk (w.heap.size+1) #[.slice none 0 0,.slice none 0 0,.slice none 0 0,.slice none 0 0] 108,.blk (w.heap.size+1+1) #[.slice none 0 0,.slice none 0 0,.slice none 0 0,.slice none 0 0] 108,.cel (celSg x.sigs) (.slice B0 n0 n0)]):=(S0.out.pushT b1 o1)
 clear o1 b1 x0 x1 x2 x3 z0 z1 z2 z3 y2 l0 l1 l2
 have hb0:=(Q1.out.blk 0 rfl).1
 have hb1:=(Q1.out.blk 1 rfl).1
 have hb2:=(Q1.out.blk 2 rfl).1
 have x0:=cells_at hb0 (j:=0) (v := .slice A0 n0 c0) rfl
 have x1:=cells_at hb0 (j:=1) (v := .slice A1 n1 c1) rfl
 have x2:=cells_at hb0 (j:=2) (v := .slice A2 n2 c2) rfl
 have x3:=cells_at hb0 (j:=3) (v := .slice A3 n3 c3) rfl
 have z0:=cells_at hb2 (j:=0) (v := .slice none 0 0) rfl
 have z1:=cells_at hb2 (j:=1) (v := .slice none 0 0) rfl
 have z2:=cells_at hb2 (j:=2) (v := .slice none 0 0) rfl
 have z3:=cells_at hb2 (j:=3) (v := .slice none 0 0) rfl
 have y2:=fun k=>frozen_heap hb2 k
 have l0:=heap_lt0 hb0
 have l1:=heap_lt0 hb1
 have l2:=heap_lt0 hb2
 clear hb0 hb1 hb2
 have Q2:Hid (Sepa w (w1.setCell ⟨w.heap.size+1+1,0,none⟩ (.slice B0 n0 n0)) [.blk w.heap.size #[.slice A0 n0 c0,.slice A1 n1 c1,.slice A2 n2 c2,.slice A3 n3 c3] 149,.blk (w.heap.size+1) #[.slice none 0 0,.slice none 0 0,.slice none 0 0,.slice none 0 0] 108,.blk (w.heap.size+1+1) #[.slice B0 n0 n0,.slice none 0 0,.slice none 0 0,.slice none 0 0] 108,.cel (celSg x.sigs) (.slice B0 n0 n0)]):=(Q1.out.put 2 rfl 0 (.slice B0 n0 n0))
 go_wp2_with fail
 refine (toAssignS_any A1 n1 c1 x.asgs _ (R1.out.below Q2.out.bel) Z1.out).mono ?_
 rintro _ w2 ⟨B1,rfl,o2,b2⟩
 have Q3:Hid (Sepa w (w2) [.blk w.heap.size #[.slice A0 n0 c0,.slice A1 n1 c1,.slice A2 n2 c2,.slice A3 n3 c3] 149,.blk (w.heap.size+1) #[.slice none 0 0,.slice none 0 0,.slice none 0 0,.slice none 0 0] 108,.blk (w.heap.size+1+1) #[.slice B0 n0 n0,.slice none 0 0,.slice none 0 0,.slice none 0 0] 108,.cel (celSg x.sigs) (.slice B0 n0 n0),.cel (celAs x.asgs) (.slice B1 n1 n1)]):=(Q2.out.pushT b2 o2)
 clear o2 b2 x0 x1 x2 x3 z0 z1 z2 z3 y2 l0 l1 l2
 have hb0:=(Q3.out.blk 0 rfl).1
 have hb1:=(Q3.out.blk 1 rfl).1
 have hb2:=(Q3.out.blk 2 rfl).1
 have x0:=cells_at hb0 (j:=0) (v := .slice A0 n0 c0) rfl
 have x1:=cells_at hb0 (j:=1) (v := .slice A1 n1 c1) rfl
 have x2:=cells_at hb0 (j:=2) (v := .slice A2 n2 c2) rfl
 have x3:=cells_at hb0 (j:=3) (v := .slice A3 n3 c3) rfl
 have z0:=cells_at hb2 (j:=0) (v := .slice B0 n0 n0) rfl
 have z1:=cells_at hb2 (j:=1) (v := .slice none 0 0) rfl
 have z2:=cells_at hb2 (j:=2) (v := .slice none 0 0) rfl
 have z3:=cells_at hb2 (j:=3) (v := .slice none 0 0) rfl
 have y2:=fun k=>frozen_heap hb2 k
 have l0:=heap_lt0 hb0
 have l1:=heap_lt0 hb1
 have l2:=heap_lt0 hb2
 clear hb0 hb1 hb2
 have Q4:Hid (Sepa w (w2.setCell ⟨w.heap.size+1+1,1,none⟩ (.slice B1 n1 n1)) [.blk w.heap.size #[.slice A0 n0 c0,.slice A1 n1 c1,.slice A2 n2 c2,.slice A3 n3 c3] 149,.blk (w.heap.size+1) #[.slice none 0 0,.slice none 0 0,.slice none 0 0,.slice none 0 0] 108,.blk (w.heap.size+1+1) #[.slice B0 n0 n0,.slice B1 n1 n1,.slice none 0 0,.slice none 0 0] 108,.cel (celSg x.sigs) (.slice B0 n0 n0),.cel (celAs x.asgs) (.slice B1 n1 n1)]):=(Q3.out.put 2 rfl 1 (.slice B1 n1 n1))
 go_wp2_with fail
 refine (toInstS_any A2 n2 c2 x.insts _ (R2.out.below Q4.out.bel) Z2.out).mono ?_
 rintro _ w3 ⟨B2,rfl,o3,b3⟩
 have Q5:Hid (Sepa w (w3) [.blk w.heap.size #[.slice A0 n0 c0,.slice A1 n1 c1,.slice A2 n2 c2,.slice A3 n3 c3] 149,.blk (w.heap.size+1) #[.slice none 0 0,.slice none 0 0,.slice none 0 0,.slice none 0 0] 108,.blk (w.heap.size+1+1) #[.slice B0 n0 n0,.slice B1 n1 n1,.slice none 0 0,.slice none 0 0] 108,.cel (celSg x.sigs) (.slice B0 n0 n0),.cel (celAs x.asgs) (.slice B1 n1 n1),.cel (celIn x.insts) (.slice B2 n2 n2)]):=(Q4.out.pushT b3 o3)
 clear o3 b3 x0 x1 x2 x3 z0 z1 z2 z3 y2 l0 l1 l2
 have hb0:=(Q5.out.blk 0 rfl).1
 have hb1:=(Q5.out.blk 1 rfl).1
 have hb2:=(Q5.out.blk 2 rfl).1
 have x0:=cells_at hb0 (j:=0) (v := .slice A0 n0 c0) rfl
 have x1:=cells_at hb0 (j:=1) (v := .slice A1 n1 c1) rfl
 have x2:=cells_at hb0 (j:=2) (v := .slice A2 n2 c2) rfl
 have x3:=cells_at hb0 (j:=3) (v := .slice A3 n3 c3) rfl
 have z0:=cells_at hb2 (j:=0) (v := .slice B0 n0 n0) rfl
 have z1:=cells_at hb2 (j:=1) (v := .slice B1 n1 n1) rfl
 have z2:=cells_at hb2 (j:=2) (v := .slice none 0 0) rfl
 have z3:=cells_at hb2 (j:=3) (v := .slice none 0 0) rfl
 have y2:=fun k=>frozen_heap hb2 k
 have l0:=heap_lt0 hb0
 have l1:=heap_lt0 hb1
 have l2:=heap_lt0 hb2
 clear hb0 hb1 hb2
 have Q6:Hid (Sepa w (w3.setCell ⟨w.heap.size+1+1,2,none⟩ (.slice B2 n2 n2)) [.blk w.heap.size #[.slice A0 n0 c0,.slice A1 n1 c1,.slice A2 n2 c2,.slice A3 n3 c3] 149,.blk (w.heap.size+1) #[.slice none 0 0,.slice none 0 0,.slice none 0 0,.slice none 0 0] 108,.blk (w.heap.size+1+1) #[.slice B0 n0 n0,.slice B1 n1 n1,.slice B2 n2 n2,.slice none 0 0] 108,.cel (celSg x.sigs) (.slice B0 n0 n0),.cel (celAs x.asgs) (.slice B1 n1 n1),.cel (celIn x.insts) (.slice B2 n2 n2)]):=(Q5.out.put 2 rfl 2 (.slice B2 n2 n2))
 go_wp2_with fail
 refine (toMemS_any A3 n3 c3 x.mems _ (R3.out.below Q6.out.bel) Z3.out).mono ?_
 rintro _ w4 ⟨B3,rfl,o4,b4⟩
 have Q7:Hid (Sepa w (w4) [.blk w.heap.size #[.slice A0 n0 c0,.slice A1 n1 c1,.slice A2 n2 c2,.slice A3 n3 c3] 149,.blk (w.heap.size+1) #[.slice none 0 0,.slice none 0 0,.slice none 0 0,.slice none 0 0] 108,.blk (w.heap.size+1+1) #[.slice B0 n0 n0,.slice B1 n1 n1,.slice B2 n2 n2,.slice none 0 0] 108,.cel (celSg x.sigs) (.slice B0 n0 n0),.cel (celAs x.asgs) (.slice B1 n1 n1),.cel (celIn x.insts) (.slice B2 n2 n2),.cel (celMm x.mems) (.slice B3 n3 n3)]):=(Q6.out.pushT b4 o4)
 clear o4 b4 x0 x1 x2 x3 z0 z1 z2 z3 y2 l0 l1 l2
 have hb0:=(Q7.out.blk 0 rfl).1
 have hb1:=(Q7.out.blk 1 rfl).1
 have hb2:=(Q7.out.blk 2 rfl).1
 have x0:=cells_at hb0 (j:=0) (v := .slice A0 n0 c0) rfl
 have x1:=cells_at hb0 (j:=1) (v := .slice A1 n1 c1) rfl
 have x2:=cells_at hb0 (j:=2) (v := .slice A2 n2 c2) rfl
 have x3:=cells_at hb0 (j:=3) (v := .slice A3 n3 c3) rfl
 have z0:=cells_at hb2 (j:=0) (v := .slice B0 n0 n0) rfl
 have z1:=cells_at hb2 (j:=1) (v := .slice B1 n1 n1) rfl
 have z2:=cells_at hb2 (j:=2) (v := .slice B2 n2 n2) rfl
 have z3:=cells_at hb2 (j:=3) (v := .slice none 0 0) rfl
 have y2:=fun k=>frozen_heap hb2 k
 have u0:=cells_at hb1 (j:=0) (v := .slice none 0 0) rfl
 have u1:=cells_at hb1 (j:=1) (v := .slice none 0 0) rfl
 have u2:=cells_at hb1 (j:=2) (v := .slice none 0 0) rfl
 have u3:=cells_at hb1 (j:=3) (v := .slice none 0 0) rfl
 have y1:=fun k=>frozen_heap hb1 k
 have l0:=heap_lt0 hb0
 have l1:=heap_lt0 hb1
 have l2:=heap_lt0 hb2
 clear hb0 hb1 hb2
 have Q8:Hid (Sepa w (((((w4.setCell ⟨w.heap.size+1+1,3,none⟩ (.slice B3 n3 n3)).setCell ⟨w.heap.size+1,0,none⟩ (.slice B0 n0 n0)).setCell ⟨w.heap.size+1,1,none⟩ (.slice B1 n1 n1)).setCell ⟨w.heap.size+1,2,none⟩ (.slice B2 n2 n2)).setCell ⟨w.heap.size+1,3,none⟩ (.slice B3 n3 n3)) [.blk w.heap.size #[.slice A0 n0 c0,.slice A1 n1 c1,.slice A2 n2 c2,.slice A3 n3 c3] 149,.blk (w.heap.size+1) #[.slice B0 n0 n0,.slice B1 n1 n1,.slice B2 n2 n2,.slice B3 n3 n3] 108,.blk (w.heap.size+1+1) #[.slice B0 n0 n0,.slice B1 n1 n1,.slice B2 n2 n2,.slice B3 n3 n3] 108,.cel (celSg x.sigs) (.slice B0 n0 n0),.cel (celAs x.asgs) (.slice B1 n1 n1),.cel (celIn x.insts) (.slice B2 n2 n2),.cel (celMm x.mems) (.slice B3 n3 n3)]):=(((((Q7.out.put 2 rfl 3 (.slice B3 n3 n3)).put 1 rfl 0 (.slice B0 n0 n0)).put 1 rfl 1 (.slice B1 n1 n1)).put 1 rfl 2 (.slice B2 n2 n2)).put 1 rfl 3 (.slice B3 n3 n3))
 go_wp2_with fail
 generalize ((((w4.setCell ⟨w.heap.size+1+1,3,none⟩ (.slice B3 n3 n3)).setCell ⟨w.heap.size+1,0,none⟩ (.slice B0 n0 n0)).setCell ⟨w.heap.size+1,1,none⟩ (.slice B1 n1 n1)).setCell ⟨w.heap.size+1,2,none⟩ (.slice B2 n2 n2)).setCell ⟨w.heap.size+1,3,none⟩ (.slice B3 n3 n3)=WF at *
 clear x0 x1 x2 x3 z0 z1 z2 z3 y2 u0 u1 u2 u3 y1 l0 l1 l2
 have hb:WF.heap[w.heap.size+1]?=some (.cells #[.slice B0 n0 n0,.slice B1 n1 n1,.slice B2 n2 n2,.slice B3 n3 n3] 108 (0,0)):=(Q8.out.blk 1 rfl).1
 exact bodyPost_ret (v := .agg #[.slice B0 n0 n0,.slice B1 n1 n1,.slice B2 n2 n2,.slice B3 n3 n3]) (results_cell1 Tryz.results105 rfl hb Tryz.underlying108 (by kernel_rfl)) rfl ⟨B0,B1,B2,B3,rfl,Q8.out.tail.tail.tail.ownsL rfl,Q8.out.bel⟩
theorem info_Module:(Tryz.prog.info? 108).map (fun i=>(i.zero,i.size,i.bytes))=some (some (.agg #[.slice none 0 0,.slice none 0 0,.slice none 0 0,.slice none 0 0]),4,96):=by kernel_rfl
set_option maxHeartbeats 4000000 in
theorem toModuleS_any (A:Option Addr) (n c:Nat) (xs:List MdT) (w:World) (h:RdC w w.heap.size (celMd xs) (.slice A n c)) (hz:szC (celMd xs)≤1048576) :
  Calls Tryz.prog 58 #[.slice A n c] w fun e w'=>∃B,e = .returned (.slice B n n)∧OwnT w.heap.size w'.heap.size w' (celMd xs) (.slice B n n)∧Below w.heap.size w w':=by
 obtain ⟨i0,hi,hz0,hz1,hz2⟩:=info_parts info_Module
 have hxl:xs.length=n:=h.mdN
 have HT:szC (celMd xs)=n+szCL (xs.flatMap MdT.cells):=by unfold celMd;rw [szC_flat MdT.cells_length (by omega),hxl]
 have hn:n≤1048576:=by omega
 have HZ:Hid (szCL (xs.flatMap MdT.cells)≤1048576):=by show _≤_;omega
 have hmk:=fun W=>run_make_rowN (P:=Tryz.prog) 46 108 i0 _ Tryz.underlying46 hi hz0 .i64 .i64 n n (Nat.le_refl _) (by rw [hz2];omega) (by omega) W
 have hsz0:∀z:Array Value,(madeCells z (n * i0.size)).size=n * 4:=fun z=>by rw [size_madeCells,hz1]
 generalize hcz:madeCells _ (n * i0.size)=cz at hmk
 have hczs:cz.size=n * 4:=by rw [←hcz];exact hsz0 _
 clear hi hz0 hz1 hz2 hsz0 hcz HT hz
 have HX:=Lib.hid hxl
 have HR:=Lib.hid h
 clear h hxl
 go_enter Tryz.func58,Tryz.ntmps58
 go_wp2_with fail
 go_loopw [4] (fun i wr=>∃(k:Nat) (vs:List Value),k≤n∧i = .int .i64 k∧FillS wr w.heap.size 108 4 n k vs∧OwnsL (w.heap.size+1) wr.heap.size wr ((xs.take k).flatMap MdT.cells) vs∧Below w.heap.size w wr∧w.heap.size<wr.heap.size) (fun i _=>n - (intOf i).toNat)
 case atStart=>exact ⟨0,[],Nat.zero_le _,rfl,FillS.new hczs,by simpa using OwnsL.nil,below_new (Below.refl _ _) _,by simp⟩
 case round =>
  obtain ⟨k,vs,hk,rfl,hfl,how,hbe,hsr⟩:=hrel
  have HFL:=Lib.hid hfl
  have HOW:=Lib.hid how
  have HBE:=Lib.hid hbe
  clear hfl how hbe hmk
  by_cases hlt:k<n
  ·have hdk:decide ((k:Int)<(n:Int))=true:=by simp;omega
   have hkx:k<xs.length:=by rw [HX.out];exact hlt
   obtain ⟨b,o,S0,m0,p0,S1,m1,p1,S2,m2,p2,S3,m3,p3,rfl,hb,c0,c1,c2,c3,r0,r1,r2,r3⟩:=HR.out.mdE (k:=k) hkx
   have hbr:b<wr.heap.size:=by have:=HBE.out.size;omega
   have i0:(0:Int)≤(k:Int):=by omega
   have i1:(k:Int)<(n:Int):=by omega
   rw [←HBE.out.cell (p:=⟨b,o+k * 4,none⟩) hb] at c0
   rw [←HBE.out.cell (p:=⟨b,o+k * 4+1,none⟩) hb] at c1
   rw [←HBE.out.cell (p:=⟨b,o+k * 4+2,none⟩) hb] at c2
   rw [←HBE.out.cell (p:=⟨b,o+k * 4+3,none⟩) hb] at c3
   have Q0:=Lib.hid (r0.below HBE.out)
   have Q1:=Lib.hid (r1.below HBE.out)
   have Q2:=Lib.hid (r2.below HBE.out)
   have Q3:=Lib.hid (r3.below HBE.out)
   clear r0 r1 r2 r3
   have HZK:Hid (szCL (xs[k]?.getD MdT.zero).cells≤1048576):=by show _≤_;exact Nat.le_trans (szCL_elem hkx) HZ.out
   have HSN:=Lib.hid (flat_takeZ (f:=MdT.cells) (getD_some MdT.zero hkx:xs[k]?=some (xs[k]?.getD MdT.zero)))
   clear hkx
   generalize xs[k]?.getD MdT.zero=x at *
   go_wp2_with fail
   refine (toModule_any S0 S1 S2 S3 m0 p0 m1 p1 m2 p2 m3 p3 x _ Q0.out Q1.out Q2.out Q3.out HZK.out).mono ?_
   rintro e w2 ⟨B0,B1,B2,B3,rfl,o2,b2⟩
   have hs2:=b2.size
   have HFL2:=Lib.hid (HFL.out.tr b2)
   have HOW2:=Lib.hid (HOW.out.below b2)
   have HBE2:=Lib.hid (below_tr HBE.out b2)
   have O2:=Lib.hid o2
   have hlg:=HFL2.out.lt
   clear o2 b2 c0 c1 c2 c3
   obtain ⟨u0,f0⟩:=HFL2.out.cell hlt 0 (by omega)
   rw [Nat.add_zero] at f0
   obtain ⟨u1,f1⟩:=HFL2.out.cell hlt 1 (by omega)
   obtain ⟨u2,f2⟩:=HFL2.out.cell hlt 2 (by omega)
   obtain ⟨u3,f3⟩:=HFL2.out.cell hlt 3 (by omega)
   have fz:=fun j=>HFL2.out.frozen j
   go_wp2_with fail
   clear f0 f1 f2 f3 fz
   have HP:=Lib.hid (HFL2.out.put4 hlt (.slice B0 m0 m0) (.slice B1 m1 m1) (.slice B2 m2 m2) (.slice B3 m3 m3))
   have hC:Chg w.heap.size (w.heap.size+1) w2 ((((w2.setCell ⟨w.heap.size,k * 4,none⟩ (.slice B0 m0 m0)).setCell ⟨w.heap.size,k * 4+1,none⟩ (.slice B1 m1 m1)).setCell ⟨w.heap.size,k * 4+2,none⟩ (.slice B2 m2 m2)).setCell ⟨w.heap.size,k * 4+3,none⟩ (.slice B3 m3 m3)):=by
    repeat (first|exact Chg.refl _ _ _|refine Chg.set ?_ (Nat.le_refl _) (Nat.lt_succ_self _) _)
   have hsC:=hC.size
   have HO3:=Lib.hid (HOW2.out.chgZ hC (.inr (Nat.le_refl _)))
   have HO4:=Lib.hid (O2.out.chgZ hC (.inr (by omega)))
   have HB3:=Lib.hid (below_chg HBE2.out hC (Nat.le_refl _))
   generalize hWE:World.setCell _ _ _=WE at *
   clear hWE hC
   go_roundw
   case rel =>
    refine ⟨k+1,_,by omega,by go_num,HP.out,?_,HB3.out,by omega⟩
    rw [HSN.out]
    exact (HO3.out.appZ HO4.out (Nat.le_refl _) (by omega) hs2).widen (Nat.le_refl _) hsC
   case measure=>simp [intOf];omega
  ·have hkn:k=n:=by omega
   subst hkn
   have hdk:decide ((k:Int)<(k:Int))=false:=by simp
   go_wp2_with fail
   go_ret
   refine ⟨_,rfl,?_,HBE.out⟩
   have h:=HOW.out
   rw [List.take_of_length_le (by rw [HX.out];exact Nat.le_refl _)] at h
   exact HFL.out.own (by unfold maxLen;omega) h hsr
set_option maxHeartbeats 4000000 in
theorem toDesign_any (A0:Option Addr) (n0 c0:Nat) (x:DsT) (w:World) (h0:RdC w w.heap.size (celMd x.mods) (.slice A0 n0 c0)) (hz:szCL x.cells≤1048576) :
  Calls Tryz.prog 16 #[.agg #[.slice A0 n0 c0]] w fun e w'=>∃B0,e = .returned (.agg #[.slice B0 n0 n0])∧OwnsL w.heap.size w'.heap.size w' x.cells [.slice B0 n0 n0]∧Below w.heap.size w w':=by
 have R0:=Lib.hid h0
 have HS:szCL x.cells=szC (celMd x.mods):=by unfold DsT.cells;simp only [szCL_cons,szCL_nil] <;> omega
 have Z0:Hid (szC (celMd x.mods)≤1048576):=by show _≤_;omega
 have S0:=Lib.hid (three_boxes w #[.slice A0 n0 c0] #[.slice none 0 0] #[.slice none 0 0] 43 48 48)
 have hg20:w.heap.size≠w.heap.size+1+1:=by omega
 have hg21:w.heap.size+1≠w.heap.size+1+1:=by omega
 have hg10:w.heap.size≠w.heap.size+1:=by omega
 clear HS hz h0
 go_enter Tryz.func16,Tryz.ntmps16
 go_upto_region 2 with fail
 generalize ((w.alloc (.cells #[.slice A0 n0 c0] 43)).alloc (.cells #[.slice none 0 0] 48)).alloc (.cells #[.slice none 0 0] 48)=w0 at *
 have hb0:=(S0.out.blk 0 rfl).1
 have hb1:=(S0.out.blk 1 rfl).1
 have hb2:=(S0.out.blk 2 rfl).1
 have x0:=cells_at hb0 (j:=0) (v := .slice A0 n0 c0) rfl
 have z0:=cells_at hb2 (j:=0) (v := .slice none 0 0) rfl
 have y2:=fun k=>frozen_heap hb2 k
 have l0:=heap_lt0 hb0
 have l1:=heap_lt0 hb1
 have l2:=heap_lt0 hb2
 clear hb0 hb1 hb2
 go_wp2_with fail
 refine (toModuleS_any A0 n0 c0 x.mods _ (R0.out.below S0.out.bel) Z0.out).mono ?_
 rintro _ w1 ⟨B0,rfl,o1,b1⟩
 have Q1:Hid (Sepa w (w1) [.blk w.heap.size #[.slice A0 n0 c0] 43,.blk (w.heap.size+1) #[.slice none 0 0] 48,.blk (w.heap.size+1+1) #[.slice none 0 0] 48,.cel (celMd x.mods) (.slice B0 n0 n0)]):=(S0.out.pushT b1 o1)
 clear o1 b1 x0 z0 y2 l0 l1 l2
 have hb0:=(Q1.out.blk 0 rfl).1
 have hb1:=(Q1.out.blk 1 rfl).1
 have hb2:=(Q1.out.blk 2 rfl).1
 have x0:=cells_at hb0 (j:=0) (v := .slice A0 n0 c0) rfl
 have z0:=cells_at hb2 (j:=0) (v := .slice none 0 0) rfl
 have y2:=fun k=>frozen_heap hb2 k
 have u0:=cells_at hb1 (j:=0) (v := .slice none 0 0) rfl
 have y1:=fun k=>frozen_heap hb1 k
 have l0:=heap_lt0 hb0
 have l1:=heap_lt0 hb1
 have l2:=heap_lt0 hb2
 clear hb0 hb1 hb2
 have Q2:Hid (Sepa w ((w1.setCell ⟨w.heap.size+1+1,0,none⟩ (.slice B0 n0 n0)).setCell ⟨w.heap.size+1,0,none⟩ (.slice B0 n0 n0)) [.blk w.heap.size #[.slice A0 n0 c0] 43,.blk (w.heap.size+1) #[.slice B0 n0 n0] 48,.blk (w.heap.size+1+1) #[.slice B0 n0 n0] 48,.cel (celMd x.mods) (.slice B0 n0 n0)]):=((Q1.out.put 2 rfl 0 (.slice B0 n0 n0)).put 1 rfl 0 (.slice B0 n0 n0))
 go_wp2_with fail
 generalize (w1.setCell ⟨w.heap.size+1+1,0,none⟩ (.slice B0 n0 n0)).setCell ⟨w.heap.size+1,0,none⟩ (.slice B0 n0 n0)=WF at *
 clear x0 z0 y2 u0 y1 l0 l1 l2
 have hb:WF.heap[w.heap.size+1]?=some (.cells #[.slice B0 n0 n0] 48 (0,0)):=(Q2.out.blk 1 rfl).1
 exact bodyPost_ret (v := .agg #[.slice B0 n0 n0]) (results_cell1 Tryz.results16 rfl hb Tryz.underlying48 (by kernel_rfl)) rfl ⟨B0,rfl,Q2.out.tail.tail.tail.ownsL rfl,Q2.out.bel⟩
end Go.Proofs.YtlinbdkbbhpdpaaGreat
