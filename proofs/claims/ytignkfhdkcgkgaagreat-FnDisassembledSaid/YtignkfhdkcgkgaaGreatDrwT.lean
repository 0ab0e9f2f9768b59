/- Drawing a valid configuration of a tile, of the reference. -/
import Derived.Deep.DeepCutAuto
import Derived.Test.YtignkfhdkcgkgaaGreatDrwN
namespace Go.Proofs.YtignkfhdkcgkgaaGreat
set_option maxRecDepth 100000
open Go.RowKit

theorem grown_far {w w':World} {g k:Nat} (h:w.grownBy w' (some g)) (hk:k<w.heap.size) (hne:k≠g):w'.heap[k]?=w.heap[k]?:=h.block k hk (by simpa using hne)
theorem grown_then {w w1 w2:World} {r:Option Nat} {B:Nat} (h:w.grownBy w1 r) (hb:Below B w1 w2) (hB:w.heap.size≤B):w.grownBy w2 r :=
 ⟨hb.os.trans h.os,hb.tape.trans h.tape,hb.output.trans h.output,Nat.le_trans h.size hb.size,fun k hk hne=>(hb.block k (by omega)).trans (h.block k hk hne)⟩
theorem Cur.keepB {w w':World} {g B Z:Nat} {A:Option Addr} {n c:Nat} {bs:List Int} (h:Cur w g B A n c bs) (hb:Below Z w w') (hg:g<Z):Cur w' g B A n c bs:=by
 have hB:B≤g:=by obtain ⟨i,x,hi,hB,_⟩:=h;exact hB
 exact h.keep (hb.block g hg) fun k hk=>hb.block k (by omega)
theorem DS.grown {w w':World} {lo S gr gc gm gl M g:Nat} {mux:List Int} {lv:Array Value} {pad ram:Int} (h:DS w gr gc gm gl M mux lv pad ram) (hs:Sep4 lo S gr gc gm gl) (hg:g<lo) (k:w.grownBy w' (some g)):DS w' gr gc gm gl M mux lv pad ram:=by
 obtain ⟨l1,l2,l3,l4⟩:=hs.le
 exact ⟨(grown_far k (heap_lt0 h.res) (by omega)).trans h.res,(grown_far k (heap_lt0 h.tile) (by omega)).trans h.tile,(grown_far k (heap_lt0 h.mux) (by omega)).trans h.mux,(grown_far k (heap_lt0 h.les) (by omega)).trans h.les⟩
theorem DS.keepB {w w':World} {lo S Z gr gc gm gl M:Nat} {mux:List Int} {lv:Array Value} {pad ram:Int} (h:DS w gr gc gm gl M mux lv pad ram) (hs:Sep4 lo S gr gc gm gl) (hb:Below Z w w') (hZ:S≤Z):DS w' gr gc gm gl M mux lv pad ram :=
 h.keep hs fun k hk=>hb.block k (by omega)
theorem Own.grownC {base:Nat} {w w':World} {A:Option Addr} {n c g:Nat} {xs:List Int} (h:Own base w A n c xs) (k:w.grownBy w' (some g)) (hg:g<base):Own base w' A n c xs :=
 ownsRow_block h fun a ha=>grown_far k (h.lt a ha).2 (by have:=(h.lt a ha).1;omega)
theorem Own.keepB {base Z:Nat} {w w':World} {A:Option Addr} {n c:Nat} {xs:List Int} (h:Own base w A n c xs) (hb:Below Z w w') (hZ:∀a,A=some a→a.block<Z):Own base w' A n c xs :=
 ownsRow_block h fun a ha=>hb.block _ (hZ a ha)
/-- The array of logic elements after some of them, and the rows that they own. -/
def LesD (S:Nat) (w:World) (lv:Array Value):List Le→Prop
 | []=>∃g0 g1,lv=zles g0 g1
 | [e0]=>∃A0 c0 g1,lv=#[.slice A0 4 c0,.int .i64 e0.mask,.int .i64 e0.flop,.int .i64 e0.init,.slice (some ⟨g1,0,none⟩) 4 4,.int .i64 0,.int .i64 0,.int .i64 0]∧Own S w A0 4 c0 e0.sel
 | e0 :: e1 :: _=>∃A0 c0 A1 c1 h,lv=#[.slice A0 4 c0,.int .i64 e0.mask,.int .i64 e0.flop,.int .i64 e0.init,.slice A1 4 c1,.int .i64 e1.mask,.int .i64 e1.flop,.int .i64 e1.init]∧Own S w A0 4 c0 e0.sel∧(∀a,A0=some a→a.block<h)∧S≤h∧Own h w A1 4 c1 e1.sel
theorem tile_done {w:World} {lo S gr gc gm gl M:Nat} {mux:List Int} {lv:Array Value} {pad ram:Int} {e0 e1:Le} (hmux:w.heap[gm]?=some (.cells (arr mux) 3 (0,0))) (hles:w.heap[gl]?=some (.cells lv 107 (0,0))) (hs:Sep4 lo S gr gc gm gl) (hl:LesD S w lv [e0,e1]) (_hlS:lo≤S) (hm:mux.length=M) (hM:M≤maxLen) :
  OwnsL lo w.heap.size w (Tile.cells ⟨mux,[e0,e1],pad,ram⟩) (tileArr gm gl M pad ram).toList:=by
 obtain ⟨A0,c0,A1,c1,hh,rfl,o0,hb0,hS,o1⟩:=hl
 obtain ⟨g0,cur0,rfl,a1,a2,_⟩:=o0.block (by omega)
 obtain ⟨g1,cur1,rfl,a3,a4,_⟩:=o1.block (by omega)
 have a5:=hb0 _ rfl
 simp only at a5
 obtain ⟨l1,l2,l3,l4⟩:=hs.le
 obtain ⟨q1,q2,q3,q4⟩:=hs.lt
 obtain ⟨n1,n2,n3,n4,n5,n6⟩:=hs.ne
 have om:OwnC w (celI mux) (.slice (some ⟨gm,0,none⟩) M M) [gm]:=ownC_ints.2 ⟨Own.arr hmux (Nat.zero_le _) hM hm,rfl⟩
 have p0:OwnC w (celI e0.sel) (.slice (some ⟨g0,0,none⟩) 4 c0) [g0]:=ownC_ints.2 ⟨o0.more (Nat.zero_le _),rfl⟩
 have p1:OwnC w (celI e1.sel) (.slice (some ⟨g1,0,none⟩) 4 c1) [g1]:=ownC_ints.2 ⟨o1.more (Nat.zero_le _),rfl⟩
 have ci:∀x:Int,OwnC w (.int x) (.int .i64 x) []:=fun x=>ownC_int.2 ⟨rfl,rfl⟩
 have ol:OwnC w (celE [e0,e1]) (.slice (some ⟨gl,0,none⟩) 2 2) [gl,g0,g1]:=by
  unfold celE
  rw [ownC_row]
  refine ⟨_,2,2,_,[g0,g1],rfl,⟨rfl,.inr ⟨gl,2,_,rfl,Nat.zero_le _,hles,Nat.le_refl _,by unfold maxLen;omega,rfl,rfl⟩⟩,rfl,?_⟩
  show OwnL w [celI e0.sel,.int e0.mask,.int e0.flop,.int e0.init,celI e1.sel,.int e1.mask,.int e1.flop,.int e1.init] _ _
  simp only [ownL_cons,ownL_nil]
  exact ⟨_,_,[g0],[g1],rfl,rfl,p0,_,_,[],[g1],rfl,rfl,ci _,_,_,[],[g1],rfl,rfl,ci _,_,_,[],[g1],rfl,rfl,ci _,_,_,[g1],[],rfl,rfl,p1,_,_,[],[],rfl,rfl,ci _,_,_,[],[],rfl,rfl,ci _,_,_,[],[],rfl,rfl,ci _,rfl,rfl⟩
 refine ⟨[gm,gl,g0,g1],?_,?_,fun x hx=>?_⟩
 ·show OwnL w [celI mux,celE _,.int pad,.int ram] _ _
  simp only [ownL_cons,ownL_nil]
  exact ⟨_,_,[gm],[gl,g0,g1],rfl,rfl,om,_,_,[gl,g0,g1],[],rfl,rfl,ol,_,_,[],[],rfl,rfl,ci _,_,_,[],[],rfl,rfl,ci _,rfl,rfl⟩
 ·have e1:gm≠g0:=by omega
  have e2:gm≠g1:=by omega
  have e3:gl≠g0:=by omega
  have e4:gl≠g1:=by omega
  have e5:g0≠g1:=by omega
  simp [n6,e1,e2,e3,e4,e5]
 ·have q1:=heap_lt0 hmux
  have q2:=heap_lt0 hles
  simp only [List.mem_cons,List.not_mem_nil,or_false] at hx
  omega
theorem LesD.keepG {S:Nat} {w w':World} {lv:Array Value}:∀{es:List Le},LesD S w lv es→(∀k,S≤k→k<w.heap.size→w'.heap[k]?=w.heap[k]?)→LesD S w' lv es
 | [],h,_=>h
 | [_],⟨A0,c0,g1,e,o⟩,hk=>⟨A0,c0,g1,e,ownsRow_block o fun a ha=>hk _ (o.lt a ha).1 (o.lt a ha).2⟩
 | _ :: _ :: _,⟨A0,c0,A1,c1,h,e,o,hl,hS,o1⟩,hk=>⟨A0,c0,A1,c1,h,e,ownsRow_block o fun a ha=>hk _ (o.lt a ha).1 (o.lt a ha).2,hl,hS,ownsRow_block o1 fun a ha=>hk _ (Nat.le_trans hS (o1.lt a ha).1) (o1.lt a ha).2⟩
theorem LesD.farD {S:Nat} {w:World} {lv:Array Value} {es:List Le} (h:LesD S w lv es) {p:Addr} (hp:p.block<S) (v:Value):LesD S (w.setCell p v) lv es :=
 h.keepG fun _ h1 _=>Below.heap_setCell _ _ _ _ (by omega)
theorem LesD.grownD {S g:Nat} {w w':World} {lv:Array Value} {es:List Le} (h:LesD S w lv es) (k:w.grownBy w' (some g)) (hg:g<S):LesD S w' lv es:=h.keepG fun _ h1 h2=>grown_far k h2 (by omega)
theorem pick_cells {w:World} (j:Nat) (hj:j<6):∃y:Int,(0≤y∧y≤3)∧(w.alloc (.cells #[.int .i64 1,.int .i64 1,.int .i64 2,.int .i64 2,.int .i64 0,.int .i64 3] 3)).cell? ⟨w.heap.size,j,none⟩=some (.int .i64 y):=by
 have h:j=0∨j=1∨j=2∨j=3∨j=4∨j=5:=by omega
 rcases h with rfl|rfl|rfl|rfl|rfl|rfl
 ·exact ⟨1,by decide,cell_heap (heap_new _ _) rfl⟩
 ·exact ⟨1,by decide,cell_heap (heap_new _ _) rfl⟩
 ·exact ⟨2,by decide,cell_heap (heap_new _ _) rfl⟩
 ·exact ⟨2,by decide,cell_heap (heap_new _ _) rfl⟩
 ·exact ⟨0,by decide,cell_heap (heap_new _ _) rfl⟩
 ·exact ⟨3,by decide,cell_heap (heap_new _ _) rfl⟩
/-- Numbers from 0 to m. -/
def Upto (m:Int) (xs:List Int):Prop:=∀j:Nat,0≤xs[j]?.getD 0∧xs[j]?.getD 0≤m
theorem upto_rep {m:Int} (hm:0≤m) (n:Nat):Upto m (List.replicate n 0):=fun j=>by
 rw [List.getElem?_replicate]
 split <;> simp <;> omega
theorem upto_set {m:Int} {xs:List Int} (h:Upto m xs) {x:Int} (hx:0≤x∧x≤m) (k:Nat):Upto m (xs.set k x):=fun j=>by
 have h1:=h j
 rw [List.getElem?_set]
 split
 ·split
  ·simpa using hx
  ·simp;omega
 ·exact h1
theorem upto_snoc {m:Int} {xs:List Int} (h:Upto m xs) {x:Int} (hx:0≤x∧x≤m):Upto m (xs++[x]):=fun j=>by
 have h1:=h j
 rw [List.getElem?_append]
 split
 ·exact h1
 ·rcases Nat.eq_zero_or_pos (j - xs.length) with h0|h0
  ·rw [h0];simpa using hx
  ·rw [List.getElem?_eq_none (by rw [List.length_singleton];omega)];simp;omega
theorem upto_nil {m:Int} (hm:0≤m):Upto m []:=fun j=>by simpa using hm
theorem upto_all {m:Int} {xs:List Int} (h:Upto m xs):allIn xs m=true:=allIn_good fun j _=>inR_iff.2 (h j)
theorem le_ok {xs:List Int} {a b c:Int} (hl:xs.length=4) (h:Upto 7 xs) (ha:0≤a∧a<65536) (hb:0≤b∧b<2) (hc:0≤c∧c<2):leOk ⟨xs,a,b,c⟩=true:=by
 unfold leOk
 rw [decide_eq_true hl,inR_iff.2 (by simp only;omega),inR_iff.2 (by simp only;omega),inR_iff.2 (by simp only;omega),upto_all h]
 rfl
theorem tile_ok {d:Dev} {mux:List Int} {e0 e1:Le} {pad ram:Int} (hd:devOk d=true) (hm:mux.length=muxN d) (hx:Upto 31 mux) (h0:leOk e0=true) (h1:leOk e1=true) (hp:0≤pad∧pad≤3) (hr:0≤ram∧ram<32):tileOk d ⟨mux,[e0,e1],pad,ram⟩=true:=by
 unfold tileOk
 simp only [hd,decide_eq_true hm,upto_all hx,inR_iff.2 hp,inR_iff.2 (show 0≤ram∧ram≤31 by omega),Bool.true_and,List.length_cons,List.length_nil,decide_true]
 simp [h0,h1]
set_option maxHeartbeats 1000000 in
theorem l01PickInt_in (P:Int→Prop) (g B:Nat) (A:Option Addr) (n c:Nat) (bs:List Int) (b m d:Nat) (w:World) (h:Cur w g B A n c bs) (hn:n≤1099511627776) (hm:0<m) (hm':m≤1099511627776) (hbg:b≠g) (hb:b<w.heap.size)
  (hc:∀j,j<m→∃y:Int,P y∧w.cell? ⟨b,j,none⟩=some (.int .i64 y)) :
  Calls Tryz.prog 134 #[.pointer (some ⟨g,0,none⟩),.slice (some ⟨b,0,none⟩) m d] w fun e w'=>∃x:Int,e = .returned (.int .i64 x)∧P x∧Cur w' g B A n c bs∧w.grownBy w' (some g):=by
 have HC:=Lib.hid h
 have HY:=Lib.hid hc
 clear h hc
 go_enter Tryz.func134,Tryz.ntmps134
 go_wp2_with fail
 refine (l01Below_any g B A n c bs m _ HC.out hn (by omega) (by omega)).mono ?_
 rintro e w1 ⟨x,rfl,hx0,hx1,k1,g1⟩
 obtain ⟨y,hp,hy⟩:=HY.out x.toNat (by omega)
 have hcx:w1.cell? ⟨b,x.toNat,none⟩=some (.int .i64 y):=by
  rw [←hy]
  exact World.cell?_of_block (a:=⟨b,x.toNat,none⟩) (g1.block b hb (by simpa using hbg))
 have K1:=Lib.hid k1
 have G1:=Lib.hid g1
 have HP:=Lib.hid hp
 clear k1 g1 hy hp
 go_wp2_with fail
 go_ret
 exact ⟨_,rfl,HP.out,K1.out,G1.out⟩
set_option maxHeartbeats 4000000 in
theorem l38Tile_any (g B:Nat) (A:Option Addr) (n c:Nat) (bs:List Int) (d:Dev) (t:Int) (w:World) (h:Cur w g B A n c bs) (hn:n≤1099511627776) (hd:devOk d=true) (ht:0≤t∧t<d.W * d.H) :
  Calls Tryz.prog 179 #[.pointer (some ⟨g,0,none⟩),.agg #[.int .i64 d.W,.int .i64 d.H,.int .i64 d.T,.int .i64 d.R],.int .i64 t] w fun e w'=>∃(T:Tile) (v:Value),e = .returned v∧tileOk d T=true∧TileAt w.heap.size w'.heap.size w' T v∧Cur w' g B A n c bs∧w.grownBy w' (some g):=by
 have hgw:g<w.heap.size:=h.lt
 have HC:=Lib.hid h
 have HD:=Lib.hid hd
 have hmb:=(muxN_bd hd).2.1
 have hmc:=(muxN_bd hd).2.2.1
 have HOK:=Lib.hid (fun (mux:List Int) (e0 e1:Le) (pad ram:Int)=>tile_ok (mux:=mux) (e0:=e0) (e1:=e1) (pad:=pad) (ram:=ram) hd)
 have HN:=Lib.hid (fun (m:Int) (w:World) (hm:0≤m∧m<(muxN d:Int))=>smuxNode_some d t m w hd ht hm)
 have HET:=Lib.hid (fun w=>semptyTile_any d w hd)
 generalize hM:muxN d=M at *
 have B0:=Lib.hid (below_new (below_new (Below.refl w.heap.size w) (.cells #[.int .i64 d.W,.int .i64 d.H,.int .i64 d.T,.int .i64 d.R] 25)) (.cells #[.slice none 0 0,.slice none 0 0,.int .i64 0,.int .i64 0] 103))
 have X0:Hid (((w.alloc (.cells #[.int .i64 d.W,.int .i64 d.H,.int .i64 d.T,.int .i64 d.R] 25)).alloc (.cells #[.slice none 0 0,.slice none 0 0,.int .i64 0,.int .i64 0] 103)).heap[w.heap.size]?=some (.cells #[.int .i64 d.W,.int .i64 d.H,.int .i64 d.T,.int .i64 d.R] 25 (0,0))):=heap_al _ (heap_new _ _)
 have X1:Hid (((w.alloc (.cells #[.int .i64 d.W,.int .i64 d.H,.int .i64 d.T,.int .i64 d.R] 25)).alloc (.cells #[.slice none 0 0,.slice none 0 0,.int .i64 0,.int .i64 0] 103)).heap[w.heap.size+1]?=some (.cells #[.slice none 0 0,.slice none 0 0,.int .i64 0,.int .i64 0] 103 (0,0))):=heap_newAt (by simp)
 clear h hd hM
 go_enter Tryz.func179,Tryz.ntmps179
 go_wp2_with fail
 refine (HET.out _).mono ?_
 rintro e w3 ⟨v,rfl,he,b3⟩
 obtain ⟨gm,gl,g0,g1,rfl,l1,l2,l3,l4,n1,n2,n3,n4,n5,n6,k1,k2,k3,k4⟩:=he
 simp only [World.size_alloc] at l1 l2 l3 l4
 have hs3:=b3.size
 simp only [World.size_alloc] at hs3
 have HX3:=Lib.hid (heap_tr b3 X0.out)
 have HR3:=Lib.hid (heap_tr b3 X1.out)
 have HB3:=Lib.hid (below_tr B0.out b3)
 go_wp2_with fail
 have HSEP:Hid (Sep4 w.heap.size (w3.heap.size+1) (w.heap.size+1) w3.heap.size gm gl):=by
  have q1:=heap_lt0 k1
  have q2:=heap_lt0 k2
  constructor <;> omega
 have HW0:Hid (DS (w3.alloc (.cells (tileArr gm gl M 0 0) 103)) (w.heap.size+1) w3.heap.size gm gl M (List.replicate M 0) (zles g0 g1) 0 0) :=
  ⟨heap_al _ HR3.out,heap_new _ _,heap_al _ k1,heap_al _ k2⟩
 have HB0:=Lib.hid (below_new HB3.out (.cells (tileArr gm gl M 0 0) 103))
 have HX0:=Lib.hid (heap_al (.cells (tileArr gm gl M 0 0) 103) HX3.out)
 have hgm:g<gm:=by omega
 have hggl:g<gl:=by omega
 have hlom:w.heap.size≤gm:=by omega
 have hlomS:w.heap.size<gm:=by omega
 have hlolS:w.heap.size<gl:=by omega
 have hlol:w.heap.size≤gl:=by omega
 have hwg3:w.heap.size≤w3.heap.size:=by omega
 have hsz0:(w3.alloc (.cells (tileArr gm gl M 0 0) 103)).heap.size=w3.heap.size+1:=by simp
 have HSZ:=Lib.hid hsz0
 have HC0:Hid (Cur (w3.alloc (.cells (tileArr gm gl M 0 0) 103)) g B A n c bs):=HC.out.below HB0.out
 clear k1 k2 k3 k4 b3 n1 n2 n3 n4 n5 n6 hsz0 l1 l2 l3 l4 hs3
 generalize hgr:w.heap.size+1=gr at *
 generalize hgcc:w3.heap.size=gc at *
 generalize hSS:gc+1=S at *
 have HGR:=Lib.hid hgr
 have hSg:w.heap.size≤S:=by omega
 have hSg2:gc<S:=by omega
 have hgc:g<gc:=by omega
 have hgrr:g<gr:=by omega
 have hgl:g<w.heap.size:=hgw
 clear hgr hgcc hSS
 go_loopw [8] (fun i wr=>∃(j:Nat) (mux:List Int),j≤M∧i = .int .i64 j∧mux.length=M∧Upto 31 mux∧DS wr gr gc gm gl M mux (zles g0 g1) 0 0∧Cur wr g B A n c bs∧w.grownBy wr (some g)∧S≤wr.heap.size∧wr.heap[w.heap.size]?=some (.cells #[.int .i64 d.W,.int .i64 d.H,.int .i64 d.T,.int .i64 d.R] 25 (0,0))) (fun i _=>M - (intOf i).toNat)
 case atStart=>exact ⟨0,_,Nat.zero_le _,rfl,List.length_replicate,upto_rep (by omega) _,HW0.out,HC0.out,grownBy_of_below HB0.out _,by rw [HSZ.out];exact Nat.le_refl _,HX0.out⟩
 case round =>
  obtain ⟨j,mux,hj,rfl,hml,hmu,hdw,hcu,hgw',hsz,hx⟩:=hrel
  have HW:=Lib.hid hdw
  have KC:=Lib.hid hcu
  have HG:=Lib.hid hgw'
  have HX:=Lib.hid hx
  have HML:=Lib.hid hml
  have HMU:=Lib.hid hmu
  clear hdw hcu hgw' hx hml hmu
  have hc0:=cell_heap (k:=0) HW.out.tile rfl
  by_cases hlt:j<M
  ·have hdj:decide ((j:Int)<(M:Int))=true:=by simp;omega
   have i0:(0:Int)≤(j:Int):=by omega
   have i1:(j:Int)<(M:Int):=by omega
   obtain ⟨z0,z1,z2,z3⟩:=cell4 HX.out
   have hxl:=heap_lt0 HX.out
   have hD:=(Below.refl wr.heap.size wr).drew
   go_wp2_with fail
   go_region_held3 (fun w'=>Below wr.heap.size wr w'∧∀b o,b<wr.heap.size→w'.cell? ⟨b,o,none⟩=wr.cell? ⟨b,o,none⟩)
    (first|exact ⟨hD,(bcell hD).1⟩)
    (first
     | (go_at_call 219;(with_reducible refine (HN.out _ _ ⟨i0,i1⟩).mono ?_);rintro e w4 ⟨x4,rfl,b4⟩;replace hD:=below_tr hD b4;clear b4)
     | (go_at_call 137;(with_reducible refine (ssources_any d _ _).mono ?_);rintro e w5 ⟨A5,l5,c5,rfl,o5,b5⟩;have hl5:=o5.len;have hl6:=srcs_le26 d x4;rw [hl5] at hl6;clear hl5 o5;replace hD:=below_tr hD b5;clear b5))
   replace HW:=Lib.hid (HW.out.keepB HSEP.out hD hsz)
   replace KC:=Lib.hid (KC.out.keepB hD KC.out.lt)
   replace HG:=Lib.hid (grown_then HG.out hD HG.out.size)
   replace HX:=Lib.hid (heap_tr hD HX.out)
   replace hsz:=Nat.le_trans hsz hD.size
   clear hD hc0 z0 z1 z2 z3 hxl
   by_cases hl0:l5=0
   ·subst hl0
    have hd0:decide (((0:Nat):Int)>0)=false:=by decide
    go_wp2_with fail
    refine (l01Once_any g B A n c bs 40 _ KC.out hn (by omega) (by omega)).mono ?_
    rintro e wo ⟨yo,rfl,ko,go⟩
    replace HW:=Lib.hid (HW.out.grown HSEP.out hgl go)
    replace HG:=Lib.hid (grownBy_trans HG.out go)
    replace HX:=Lib.hid ((grown_far go (heap_lt0 HX.out) (by omega)).trans HX.out)
    replace hsz:=Nat.le_trans hsz go.size
    replace KC:=Lib.hid ko
    clear ko go
    cases yo with
    | false =>
     go_wp2_with fail
     go_roundw
     case rel=>exact ⟨j+1,_,by omega,by go_num,HML.out,HMU.out,HW.out,KC.out,HG.out,hsz,HX.out⟩
     case measure=>simp [intOf];omega
    | true =>
     go_wp2_with fail
     have hc0:=cell_heap (k:=0) HW.out.tile rfl
     go_region_with (go_at_call 37;(first|(with_reducible refine (l01Below_any g B A n c bs (32) _ KC.out hn (by omega) (by omega)).mono ?_)|(with_reducible refine (l01Below_any g B A n c bs (32) _ (KC.out.below (Below.refl _ _).drew) hn (by omega) (by omega)).mono ?_));rintro e w6 ⟨y6,rfl,hy6,hy6',k6,g6⟩;have G6:=Lib.hid (show wo.grownBy w6 (some g) from ⟨g6.os,g6.tape,g6.output,g6.size,g6.block⟩);have HK6:=Lib.hid k6;have HD6:=Lib.hid (HW.out.grown HSEP.out hgl G6.out);have HG6:=Lib.hid (grownBy_trans HG.out G6.out);have HX6:=Lib.hid ((grown_far G6.out (heap_lt0 HX.out) (by omega)).trans HX.out);have hs6:S≤w6.heap.size:=Nat.le_trans hsz G6.out.size;have c60:=cell_heap (k:=0) HD6.out.tile rfl;have f6:=frozen_heap HD6.out.mux j;have c6m:=cell_heap (k:=j) HD6.out.mux (arr_get (by rw [HML.out];exact hlt));have l6:=heap_lt0 HD6.out.mux;clear k6 g6)
     all_goals
      have HDN:=Lib.hid (HD6.out.setMux HSEP.out j (y6))
      have HKN:=Lib.hid (HK6.out.setNew hgm j (.int .i64 (y6)))
      have HGN:=Lib.hid (grownBy_setNew HG6.out hlom j (.int .i64 (y6)))
      have hsN:S≤(w6.setCell ⟨gm,j,none⟩ (.int .i64 (y6))).heap.size:=Nat.le_trans hs6 (Nat.le_of_eq (size_set4 _ _ _).symm)
      have HXN:=Lib.hid (heap_st (p:=⟨gm,j,none⟩) (.int .i64 (y6)) HX6.out (by simp only;omega))
      have HUN:=Lib.hid (upto_set HMU.out (x:=y6) (by omega) j)
      have HLN:Hid ((mux.set j (y6)).length=M):=by show _=_;rw [List.length_set];exact HML.out
      clear c60 f6 c6m l6 hc0 HD6 HK6 HG6 HX6 hs6 G6
      go_wp2_with fail
      go_roundw
      case rel=>exact ⟨j+1,_,by omega,by go_num,HLN.out,HUN.out,HDN.out,HKN.out,HGN.out,hsN,HXN.out⟩
      case measure=>simp [intOf];omega
   ·have hd0:decide ((l5:Int)>0)=true:=by simp;omega
    go_wp2_with fail
    refine (l01Once_any g B A n c bs 2 _ KC.out hn (by omega) (by omega)).mono ?_
    rintro e wq ⟨yq,rfl,kq,gq⟩
    replace HW:=Lib.hid (HW.out.grown HSEP.out hgl gq)
    replace HG:=Lib.hid (grownBy_trans HG.out gq)
    replace HX:=Lib.hid ((grown_far gq (heap_lt0 HX.out) (by omega)).trans HX.out)
    replace hsz:=Nat.le_trans hsz gq.size
    replace KC:=Lib.hid kq
    clear kq gq
    cases yq with
    | false =>
     go_wp2_with fail
     refine (l01Once_any g B A n c bs 40 _ KC.out hn (by omega) (by omega)).mono ?_
     rintro e wo ⟨yo,rfl,ko,go⟩
     replace HW:=Lib.hid (HW.out.grown HSEP.out hgl go)
     replace HG:=Lib.hid (grownBy_trans HG.out go)
     replace HX:=Lib.hid ((grown_far go (heap_lt0 HX.out) (by omega)).trans HX.out)
     replace hsz:=Nat.le_trans hsz go.size
     replace KC:=Lib.hid ko
     clear ko go
     cases yo with
     | false =>
      go_wp2_with fail
      go_roundw
      case rel=>exact ⟨j+1,_,by omega,by go_num,HML.out,HMU.out,HW.out,KC.out,HG.out,hsz,HX.out⟩
      case measure=>simp [intOf];omega
     | true =>
      go_wp2_with fail
      have hc0:=cell_heap (k:=0) HW.out.tile rfl
      go_region_with (go_at_call 37;(first|(with_reducible refine (l01Below_any g B A n c bs (32) _ KC.out hn (by omega) (by omega)).mono ?_)|(with_reducible refine (l01Below_any g B A n c bs (32) _ (KC.out.below (Below.refl _ _).drew) hn (by omega) (by omega)).mono ?_));rintro e w6 ⟨y6,rfl,hy6,hy6',k6,g6⟩;have G6:=Lib.hid (show wo.grownBy w6 (some g) from ⟨g6.os,g6.tape,g6.output,g6.size,g6.block⟩);have HK6:=Lib.hid k6;have HD6:=Lib.hid (HW.out.grown HSEP.out hgl G6.out);have HG6:=Lib.hid (grownBy_trans HG.out G6.out);have HX6:=Lib.hid ((grown_far G6.out (heap_lt0 HX.out) (by omega)).trans HX.out);have hs6:S≤w6.heap.size:=Nat.le_trans hsz G6.out.size;have c60:=cell_heap (k:=0) HD6.out.tile rfl;have f6:=frozen_heap HD6.out.mux j;have c6m:=cell_heap (k:=j) HD6.out.mux (arr_get (by rw [HML.out];exact hlt));have l6:=heap_lt0 HD6.out.mux;clear k6 g6)
      all_goals
       have HDN:=Lib.hid (HD6.out.setMux HSEP.out j (y6))
       have HKN:=Lib.hid (HK6.out.setNew hgm j (.int .i64 (y6)))
       have HGN:=Lib.hid (grownBy_setNew HG6.out hlom j (.int .i64 (y6)))
       have hsN:S≤(w6.setCell ⟨gm,j,none⟩ (.int .i64 (y6))).heap.size:=Nat.le_trans hs6 (Nat.le_of_eq (size_set4 _ _ _).symm)
       have HXN:=Lib.hid (heap_st (p:=⟨gm,j,none⟩) (.int .i64 (y6)) HX6.out (by simp only;omega))
       have HUN:=Lib.hid (upto_set HMU.out (x:=y6) (by omega) j)
       have HLN:Hid ((mux.set j (y6)).length=M):=by show _=_;rw [List.length_set];exact HML.out
       clear c60 f6 c6m l6 hc0 HD6 HK6 HG6 HX6 hs6 G6
       go_wp2_with fail
       go_roundw
       case rel=>exact ⟨j+1,_,by omega,by go_num,HLN.out,HUN.out,HDN.out,HKN.out,HGN.out,hsN,HXN.out⟩
       case measure=>simp [intOf];omega
    | true =>
     go_wp2_with fail
     have hc0:=cell_heap (k:=0) HW.out.tile rfl
     go_region_with (go_at_call 37;(first|(with_reducible refine (l01Below_any g B A n c bs ((l5:Int)) _ KC.out hn (by omega) (by omega)).mono ?_)|(with_reducible refine (l01Below_any g B A n c bs ((l5:Int)) _ (KC.out.below (Below.refl _ _).drew) hn (by omega) (by omega)).mono ?_));rintro e w6 ⟨y6,rfl,hy6,hy6',k6,g6⟩;have G6:=Lib.hid (show wq.grownBy w6 (some g) from ⟨g6.os,g6.tape,g6.output,g6.size,g6.block⟩);have HK6:=Lib.hid k6;have HD6:=Lib.hid (HW.out.grown HSEP.out hgl G6.out);have HG6:=Lib.hid (grownBy_trans HG.out G6.out);have HX6:=Lib.hid ((grown_far G6.out (heap_lt0 HX.out) (by omega)).trans HX.out);have hs6:S≤w6.heap.size:=Nat.le_trans hsz G6.out.size;have c60:=cell_heap (k:=0) HD6.out.tile rfl;have f6:=frozen_heap HD6.out.mux j;have c6m:=cell_heap (k:=j) HD6.out.mux (arr_get (by rw [HML.out];exact hlt));have l6:=heap_lt0 HD6.out.mux;clear k6 g6)
     all_goals
      have HDN:=Lib.hid (HD6.out.setMux HSEP.out j (1+y6))
      have HKN:=Lib.hid (HK6.out.setNew hgm j (.int .i64 (1+y6)))
      have HGN:=Lib.hid (grownBy_setNew HG6.out hlom j (.int .i64 (1+y6)))
      have hsN:S≤(w6.setCell ⟨gm,j,none⟩ (.int .i64 (1+y6))).heap.size:=Nat.le_trans hs6 (Nat.le_of_eq (size_set4 _ _ _).symm)
      have HXN:=Lib.hid (heap_st (p:=⟨gm,j,none⟩) (.int .i64 (1+y6)) HX6.out (by simp only;omega))
      have HUN:=Lib.hid (upto_set HMU.out (x:=1+y6) (by omega) j)
      have HLN:Hid ((mux.set j (1+y6)).length=M):=by show _=_;rw [List.length_set];exact HML.out
      clear c60 f6 c6m l6 hc0 HD6 HK6 HG6 HX6 hs6 G6
      go_wp2_with fail
      generalize w6.setCell ⟨gm,j,none⟩ (.int .i64 (1+y6))=w7 at *
      clear HW KC HG HX HML HMU hsz
      have hsz:=hsN
      have HW:=HDN
      have KC:=HKN
      have HG:=HGN
      have HX:=HXN
      have HMU:=HUN
      have HML:=HLN
      clear hsN HDN HKN HGN HXN HUN HLN
      generalize mux.set j (1+y6)=mux at *
      refine (l01Once_any g B A n c bs 40 _ KC.out hn (by omega) (by omega)).mono ?_
      rintro e wo ⟨yo,rfl,ko,go⟩
      replace HW:=Lib.hid (HW.out.grown HSEP.out hgl go)
      replace HG:=Lib.hid (grownBy_trans HG.out go)
      replace HX:=Lib.hid ((grown_far go (heap_lt0 HX.out) (by omega)).trans HX.out)
      replace hsz:=Nat.le_trans hsz go.size
      replace KC:=Lib.hid ko
      clear ko go
      cases yo with
      | false =>
       go_wp2_with fail
       go_roundw
       case rel=>exact ⟨j+1,_,by omega,by go_num,HML.out,HMU.out,HW.out,KC.out,HG.out,hsz,HX.out⟩
       case measure=>simp [intOf];omega
      | true =>
       go_wp2_with fail
       have hc0:=cell_heap (k:=0) HW.out.tile rfl
       go_region_with (go_at_call 37;(first|(with_reducible refine (l01Below_any g B A n c bs (32) _ KC.out hn (by omega) (by omega)).mono ?_)|(with_reducible refine (l01Below_any g B A n c bs (32) _ (KC.out.below (Below.refl _ _).drew) hn (by omega) (by omega)).mono ?_));rintro e w6 ⟨y6,rfl,hy6,hy6',k6,g6⟩;have G6:=Lib.hid (show wo.grownBy w6 (some g) from ⟨g6.os,g6.tape,g6.output,g6.size,g6.block⟩);have HK6:=Lib.hid k6;have HD6:=Lib.hid (HW.out.grown HSEP.out hgl G6.out);have HG6:=Lib.hid (grownBy_trans HG.out G6.out);have HX6:=Lib.hid ((grown_far G6.out (heap_lt0 HX.out) (by omega)).trans HX.out);have hs6:S≤w6.heap.size:=Nat.le_trans hsz G6.out.size;have c60:=cell_heap (k:=0) HD6.out.tile rfl;have f6:=frozen_heap HD6.out.mux j;have c6m:=cell_heap (k:=j) HD6.out.mux (arr_get (by rw [HML.out];exact hlt));have l6:=heap_lt0 HD6.out.mux;clear k6 g6)
       all_goals
        have HDN:=Lib.hid (HD6.out.setMux HSEP.out j (y6))
        have HKN:=Lib.hid (HK6.out.setNew hgm j (.int .i64 (y6)))
        have HGN:=Lib.hid (grownBy_setNew HG6.out hlom j (.int .i64 (y6)))
        have hsN:S≤(w6.setCell ⟨gm,j,none⟩ (.int .i64 (y6))).heap.size:=Nat.le_trans hs6 (Nat.le_of_eq (size_set4 _ _ _).symm)
        have HXN:=Lib.hid (heap_st (p:=⟨gm,j,none⟩) (.int .i64 (y6)) HX6.out (by simp only;omega))
        have HUN:=Lib.hid (upto_set HMU.out (x:=y6) (by omega) j)
        have HLN:Hid ((mux.set j (y6)).length=M):=by show _=_;rw [List.length_set];exact HML.out
        clear c60 f6 c6m l6 hc0 HD6 HK6 HG6 HX6 hs6 G6
        go_wp2_with fail
        go_roundw
        case rel=>exact ⟨j+1,_,by omega,by go_num,HLN.out,HUN.out,HDN.out,HKN.out,HGN.out,hsN,HXN.out⟩
        case measure=>simp [intOf];omega
  ·have hjm:M=j:=by omega
   subst hjm
   go_wp2_with fail
   clear hc0 hlt hj
   go_loopw [10] (fun i wx=>∃(e:Nat) (es:List Le) (lv:Array Value),e≤2∧i = .int .i64 e∧es.length=e∧(∀e∈es,leOk e=true)∧DS wx gr gc gm gl M mux lv 0 0∧LesD S wx lv es∧Cur wx g B A n c bs∧w.grownBy wx (some g)∧S≤wx.heap.size) (fun i _=>2 - (intOf i).toNat)
   case atStart=>exact ⟨0,[],_,by omega,rfl,rfl,by simp,HW.out,⟨g0,g1,rfl⟩,KC.out,HG.out,hsz⟩
   case round =>
    obtain ⟨e,es,lv,he,rfl,hel,heo,hdw,hld,hcu,hgw',hsz⟩:=hrel
    have HW:=Lib.hid hdw
    have HL:=Lib.hid hld
    have KC:=Lib.hid hcu
    have HG:=Lib.hid hgw'
    have HEO:=Lib.hid heo
    clear hdw hld hcu hgw' heo
    have hcase:e=0∨e=1∨e=2:=by omega
    rcases hcase with rfl|rfl|rfl
    ·obtain rfl:es=[]:=List.eq_nil_of_length_eq_zero hel
     obtain ⟨g0,g1,rfl⟩:=HL.out
     clear HL
     rw [show ((0:Nat):Int)=0 from rfl]
     go_wp2_with fail
     refine (l01Below_any g B A n c bs 65536 _ KC.out hn (by omega) (by omega)).mono ?_
     rintro e v0 ⟨y0,rfl,hy0,hz0,k5,g5⟩
     replace HW:=Lib.hid (HW.out.grown HSEP.out hgl g5)
     replace HG:=Lib.hid (grownBy_trans HG.out g5)
     replace hsz:=Nat.le_trans hsz (Nat.le_trans (Nat.le_refl _) g5.size)
     replace KC:=Lib.hid k5
     clear g5 k5
     go_wp2_with fail
     refine (l01Below_any g B A n c bs 2 _ KC.out hn (by omega) (by omega)).mono ?_
     rintro e v1 ⟨y1,rfl,hy1,hz1,k6,g6⟩
     replace HW:=Lib.hid (HW.out.grown HSEP.out hgl g6)
     replace HG:=Lib.hid (grownBy_trans HG.out g6)
     replace hsz:=Nat.le_trans hsz (Nat.le_trans (Nat.le_refl _) g6.size)
     replace KC:=Lib.hid k6
     clear g6 k6
     go_wp2_with fail
     refine (l01Below_any g B A n c bs 2 _ KC.out hn (by omega) (by omega)).mono ?_
     rintro e v2 ⟨y2,rfl,hy2,hz2,k7,g7⟩
     replace HW:=Lib.hid (HW.out.grown HSEP.out hgl g7)
     replace HG:=Lib.hid (grownBy_trans HG.out g7)
     replace hsz:=Nat.le_trans hsz (Nat.le_trans (Nat.le_refl _) g7.size)
     replace KC:=Lib.hid k7
     clear g7 k7
     go_wp2_with fail
     have HXB:=Lib.hid (heap_new v2 (.cells #[.slice none 0 0,.int .i64 y0,.int .i64 y1,.int .i64 y2] 107))
     have hAB:=below_new (Below.refl v2.heap.size v2) (.cells #[.slice none 0 0,.int .i64 y0,.int .i64 y1,.int .i64 y2] 107)
     replace HW:=Lib.hid (HW.out.keepB HSEP.out hAB hsz)
     replace HG:=Lib.hid (grown_then HG.out hAB (by omega))
     replace KC:=Lib.hid (KC.out.below hAB)
     have hsB:v2.heap.size+1≤(v2.alloc (.cells #[.slice none 0 0,.int .i64 y0,.int .i64 y1,.int .i64 y2] 107)).heap.size:=by simp
     clear hAB
     generalize hgle:v2.heap.size=gle at *
     have hSg4:S≤gle:=by omega
     have hgg4:g<gle:=by omega
     clear hgle
     go_loopw [12] (fun i wx=>∃(j:Nat) (xs:List Int) (A':Option Addr) (c':Nat),j≤4∧i = .int .i64 j∧xs.length=j∧Upto 7 xs∧wx.heap[gle]?=some (.cells #[.slice A' j c',.int .i64 y0,.int .i64 y1,.int .i64 y2] 107 (0,0))∧Own (gle+1) wx A' j c' xs∧DS wx gr gc gm gl M mux (zles g0 g1) 0 0∧Cur wx g B A n c bs∧w.grownBy wx (some g)∧gle+1≤wx.heap.size) (fun i _=>4 - (intOf i).toNat)
     case atStart=>exact ⟨0,[],none,0,by omega,rfl,rfl,upto_nil (by omega),HXB.out,Own.nil,HW.out,KC.out,HG.out,hsB⟩
     case round =>
      obtain ⟨j,xs,A',c',hj,rfl,hxl,hxu,hxb,ho,hdw,hcu,hgw',hsz⟩:=hrel
      have HXL:=Lib.hid hxl
      have HXU:=Lib.hid hxu
      have HXB:=Lib.hid hxb
      have HO:=Lib.hid ho
      have HW:=Lib.hid hdw
      have KC:=Lib.hid hcu
      have HG:=Lib.hid hgw'
      clear hxl hxu hxb ho hdw hcu hgw'
      by_cases hlt:j<4
      ·have hdj:decide ((j:Int)<4)=true:=by simp;omega
       go_wp2_with fail
       refine (l01Below_any g B A n c bs 6 _ KC.out hn (by omega) (by omega)).mono ?_
       rintro e w9 ⟨s0,rfl,hs0,hs0',k9,g9⟩
       replace HXB:=Lib.hid ((grown_far g9 (heap_lt0 HXB.out) (by omega)).trans HXB.out)
       replace HO:=Lib.hid (HO.out.grownC g9 (by omega))
       replace HW:=Lib.hid (HW.out.grown HSEP.out hgl g9)
       replace HG:=Lib.hid (grownBy_trans HG.out g9)
       replace hsz:=Nat.le_trans hsz g9.size
       replace KC:=Lib.hid k9
       clear g9 k9
       go_wp2_with fail
       refine (l01Once_any g B A n c bs 6 _ KC.out hn (by omega) (by omega)).mono ?_
       rintro e wo ⟨yo,rfl,ko,go⟩
       replace HXB:=Lib.hid ((grown_far go (heap_lt0 HXB.out) (by omega)).trans HXB.out)
       replace HO:=Lib.hid (HO.out.grownC go (by omega))
       replace HW:=Lib.hid (HW.out.grown HSEP.out hgl go)
       replace HG:=Lib.hid (grownBy_trans HG.out go)
       replace hsz:=Nat.le_trans hsz go.size
       replace KC:=Lib.hid ko
       clear go ko
       cases yo with
       | false =>
        have hx0:=cell_heap (k:=0) HXB.out rfl
        go_wp2_with (at_builtin;refine wpList_push rfl _ _ rfl (gle+1) A' j c' xs _ rfl HO.out rfl (by omega) hsz (Below.refl (gle+1) _) ?_;rintro g4 cap w4 o4 b4 gr4 hat4;have hx4:=(b4.block gle (by omega)).trans HXB.out;have c4:=cell_heap (k:=0) hx4 rfl;have f4:=frozen_heap hx4 0)
        go_roundw
        case rel =>
         refine ⟨j+1,xs++[s0],_,_,by omega,by go_num,by rw [List.length_append,HXL.out];rfl,upto_snoc HXU.out (by omega),(heap_set hx4 0 _).trans rfl,o4.far (p:=⟨gle,0,none⟩) (by simp) _,(HW.out.keepB HSEP.out b4 (by omega)).far HSEP.out (p:=⟨gle,0,none⟩) (by simp only;omega) _,(KC.out.keepB b4 (by omega)).setNew (by omega) _ _,grownBy_setNew (grown_then HG.out b4 (by omega)) (by omega) _ _,by rw [size_set4];have:=b4.size;omega⟩
        case measure=>simp [intOf];omega
       | true =>
        go_wp2_with fail
        refine (l01Below_any g B A n c bs 8 _ KC.out hn (by omega) (by omega)).mono ?_
        rintro e wp ⟨s1,rfl,hs1,hs1',kp,gp⟩
        replace HXB:=Lib.hid ((grown_far gp (heap_lt0 HXB.out) (by omega)).trans HXB.out)
        replace HO:=Lib.hid (HO.out.grownC gp (by omega))
        replace HW:=Lib.hid (HW.out.grown HSEP.out hgl gp)
        replace HG:=Lib.hid (grownBy_trans HG.out gp)
        replace hsz:=Nat.le_trans hsz gp.size
        replace KC:=Lib.hid kp
        clear gp kp
        have hx0:=cell_heap (k:=0) HXB.out rfl
        go_wp2_with (at_builtin;refine wpList_push rfl _ _ rfl (gle+1) A' j c' xs _ rfl HO.out rfl (by omega) hsz (Below.refl (gle+1) _) ?_;rintro g4 cap w4 o4 b4 gr4 hat4;have hx4:=(b4.block gle (by omega)).trans HXB.out;have c4:=cell_heap (k:=0) hx4 rfl;have f4:=frozen_heap hx4 0)
        go_roundw
        case rel =>
         refine ⟨j+1,xs++[s1],_,_,by omega,by go_num,by rw [List.length_append,HXL.out];rfl,upto_snoc HXU.out (by omega),(heap_set hx4 0 _).trans rfl,o4.far (p:=⟨gle,0,none⟩) (by simp) _,(HW.out.keepB HSEP.out b4 (by omega)).far HSEP.out (p:=⟨gle,0,none⟩) (by simp only;omega) _,(KC.out.keepB b4 (by omega)).setNew (by omega) _ _,grownBy_setNew (grown_then HG.out b4 (by omega)) (by omega) _ _,by rw [size_set4];have:=b4.size;omega⟩
        case measure=>simp [intOf];omega
      ·have hj4:j=4:=by omega
       subst hj4
       have hdj:decide (((4:Nat):Int)<4)=false:=by decide
       have d0:=cell_heap (k:=0) HXB.out rfl
       have d1:=cell_heap (k:=1) HXB.out rfl
       have d2:=cell_heap (k:=2) HXB.out rfl
       have d3:=cell_heap (k:=3) HXB.out rfl
       have hc1:=cell_heap (k:=1) HW.out.tile rfl
       have e10:=cell_heap (k:=0) HW.out.les rfl
       have k0:=frozen_heap HW.out.les 0
       have e11:=cell_heap (k:=1) HW.out.les rfl
       have k1:=frozen_heap HW.out.les 1
       have e12:=cell_heap (k:=2) HW.out.les rfl
       have k2:=frozen_heap HW.out.les 2
       have e13:=cell_heap (k:=3) HW.out.les rfl
       have k3:=frozen_heap HW.out.les 3
       have hll:=heap_lt0 HW.out.les
       have z1:gle≠gl:=by have:=HSEP.out.lt;omega
       have z2:gle≠gc:=by have:=HSEP.out.lt;omega
       have z3:gc≠gl:=by have:=HSEP.out.ne;omega
       go_wp2_with fail
       go_roundw
       case rel =>
        have hq2:gl<gle+1:=by have:=HSEP.out.lt;omega
        have hq3:gl<S:=HSEP.out.lt.2.2.2
        have D:=(((HW.out.setLe HSEP.out 0 (.slice A' 4 c')).setLe HSEP.out 1 (.int .i64 y0)).setLe HSEP.out 2 (.int .i64 y1)).setLe HSEP.out 3 (.int .i64 y2)
        have OW:=((((HO.out).far (p:=⟨gl,0,none⟩) hq2 (.slice A' 4 c')).far (p:=⟨gl,1,none⟩) hq2 (.int .i64 y0)).far (p:=⟨gl,2,none⟩) hq2 (.int .i64 y1)).far (p:=⟨gl,3,none⟩) hq2 (.int .i64 y2)
        have BB:=grownBy_setNew (grownBy_setNew (grownBy_setNew (grownBy_setNew HG.out hlol 0 (.slice A' 4 c')) hlol 1 (.int .i64 y0)) hlol 2 (.int .i64 y1)) hlol 3 (.int .i64 y2)
        have CC:=(((KC.out.setNew hggl 0 (.slice A' 4 c')).setNew hggl 1 (.int .i64 y0)).setNew hggl 2 (.int .i64 y1)).setNew hggl 3 (.int .i64 y2)
        refine ⟨1,[⟨xs,y0,y1,y2⟩],_,by omega,rfl,rfl,?_,D,⟨A',c',g1,rfl,OW.more (by omega)⟩,CC,BB,by simp only [size_set4];omega⟩
        intro e he
        have hq:e=⟨xs,y0,y1,y2⟩∨e∈([]:List Le):=by simpa [or_comm] using he
        rcases hq with rfl|he
        ·exact le_ok HXL.out HXU.out (by omega) (by omega) (by omega)
        ·exact HEO.out e he
       case measure=>simp [intOf]
    ·obtain ⟨e0,rfl⟩:∃e0,es=[e0]:=List.length_eq_one_iff.1 hel
     obtain ⟨A0,c0,g1,rfl,o0⟩:=HL.out
     have HO0:=Lib.hid o0
     clear o0
     clear HL
     rw [show ((1:Nat):Int)=1 from rfl]
     go_wp2_with fail
     refine (l01Below_any g B A n c bs 65536 _ KC.out hn (by omega) (by omega)).mono ?_
     rintro e v0 ⟨y0,rfl,hy0,hz0,k5,g5⟩
     replace HW:=Lib.hid (HW.out.grown HSEP.out hgl g5)
     replace HG:=Lib.hid (grownBy_trans HG.out g5)
     replace hsz:=Nat.le_trans hsz (Nat.le_trans (Nat.le_refl _) g5.size)
     replace HO0:=Lib.hid (HO0.out.grownC g5 (by omega))
     replace KC:=Lib.hid k5
     clear g5 k5
     go_wp2_with fail
     refine (l01Below_any g B A n c bs 2 _ KC.out hn (by omega) (by omega)).mono ?_
     rintro e v1 ⟨y1,rfl,hy1,hz1,k6,g6⟩
     replace HW:=Lib.hid (HW.out.grown HSEP.out hgl g6)
     replace HG:=Lib.hid (grownBy_trans HG.out g6)
     replace hsz:=Nat.le_trans hsz (Nat.le_trans (Nat.le_refl _) g6.size)
     replace HO0:=Lib.hid (HO0.out.grownC g6 (by omega))
     replace KC:=Lib.hid k6
     clear g6 k6
     go_wp2_with fail
     refine (l01Below_any g B A n c bs 2 _ KC.out hn (by omega) (by omega)).mono ?_
     rintro e v2 ⟨y2,rfl,hy2,hz2,k7,g7⟩
     replace HW:=Lib.hid (HW.out.grown HSEP.out hgl g7)
     replace HG:=Lib.hid (grownBy_trans HG.out g7)
     replace hsz:=Nat.le_trans hsz (Nat.le_trans (Nat.le_refl _) g7.size)
     replace HO0:=Lib.hid (HO0.out.grownC g7 (by omega))
     replace KC:=Lib.hid k7
     clear g7 k7
     go_wp2_with fail
     have HXB:=Lib.hid (heap_new v2 (.cells #[.slice none 0 0,.int .i64 y0,.int .i64 y1,.int .i64 y2] 107))
     have hAB:=below_new (Below.refl v2.heap.size v2) (.cells #[.slice none 0 0,.int .i64 y0,.int .i64 y1,.int .i64 y2] 107)
     replace HW:=Lib.hid (HW.out.keepB HSEP.out hAB hsz)
     replace HG:=Lib.hid (grown_then HG.out hAB (by omega))
     replace KC:=Lib.hid (KC.out.below hAB)
     have hb0:∀a,A0=some a→a.block<v2.heap.size:=fun a ha=>(HO0.out.lt a ha).2
     replace HO0:=Lib.hid (HO0.out.below hAB)
     have hsB:v2.heap.size+1≤(v2.alloc (.cells #[.slice none 0 0,.int .i64 y0,.int .i64 y1,.int .i64 y2] 107)).heap.size:=by simp
     clear hAB
     generalize hgle:v2.heap.size=gle at *
     have hSg4:S≤gle:=by omega
     have hgg4:g<gle:=by omega
     clear hgle
     go_loopw [12] (fun i wx=>∃(j:Nat) (xs:List Int) (A':Option Addr) (c':Nat),j≤4∧i = .int .i64 j∧xs.length=j∧Upto 7 xs∧wx.heap[gle]?=some (.cells #[.slice A' j c',.int .i64 y0,.int .i64 y1,.int .i64 y2] 107 (0,0))∧Own (gle+1) wx A' j c' xs∧DS wx gr gc gm gl M mux #[.slice A0 4 c0,.int .i64 e0.mask,.int .i64 e0.flop,.int .i64 e0.init,.slice (some ⟨g1,0,none⟩) 4 4,.int .i64 0,.int .i64 0,.int .i64 0] 0 0∧Own S wx A0 4 c0 e0.sel∧Cur wx g B A n c bs∧w.grownBy wx (some g)∧gle+1≤wx.heap.size) (fun i _=>4 - (intOf i).toNat)
     case atStart=>exact ⟨0,[],none,0,by omega,rfl,rfl,upto_nil (by omega),HXB.out,Own.nil,HW.out,HO0.out,KC.out,HG.out,hsB⟩
     case round =>
      obtain ⟨j,xs,A',c',hj,rfl,hxl,hxu,hxb,ho,hdw,ho0,hcu,hgw',hsz⟩:=hrel
      have HXL:=Lib.hid hxl
      have HXU:=Lib.hid hxu
      have HXB:=Lib.hid hxb
      have HO:=Lib.hid ho
      have HW:=Lib.hid hdw
      have KC:=Lib.hid hcu
      have HG:=Lib.hid hgw'
      have HO0:=Lib.hid ho0
      clear ho0
      clear hxl hxu hxb ho hdw hcu hgw'
      by_cases hlt:j<4
      ·have hdj:decide ((j:Int)<4)=true:=by simp;omega
       go_wp2_with fail
       refine (l01Below_any g B A n c bs 6 _ KC.out hn (by omega) (by omega)).mono ?_
       rintro e w9 ⟨s0,rfl,hs0,hs0',k9,g9⟩
       replace HXB:=Lib.hid ((grown_far g9 (heap_lt0 HXB.out) (by omega)).trans HXB.out)
       replace HO:=Lib.hid (HO.out.grownC g9 (by omega))
       replace HW:=Lib.hid (HW.out.grown HSEP.out hgl g9)
       replace HG:=Lib.hid (grownBy_trans HG.out g9)
       replace hsz:=Nat.le_trans hsz g9.size
       replace HO0:=Lib.hid (HO0.out.grownC g9 (by omega))
       replace KC:=Lib.hid k9
       clear g9 k9
       go_wp2_with fail
       refine (l01Once_any g B A n c bs 6 _ KC.out hn (by omega) (by omega)).mono ?_
       rintro e wo ⟨yo,rfl,ko,go⟩
       replace HXB:=Lib.hid ((grown_far go (heap_lt0 HXB.out) (by omega)).trans HXB.out)
       replace HO:=Lib.hid (HO.out.grownC go (by omega))
       replace HW:=Lib.hid (HW.out.grown HSEP.out hgl go)
       replace HG:=Lib.hid (grownBy_trans HG.out go)
       replace hsz:=Nat.le_trans hsz go.size
       replace HO0:=Lib.hid (HO0.out.grownC go (by omega))
       replace KC:=Lib.hid ko
       clear go ko
       cases yo with
       | false =>
        have hx0:=cell_heap (k:=0) HXB.out rfl
        go_wp2_with (at_builtin;refine wpList_push rfl _ _ rfl (gle+1) A' j c' xs _ rfl HO.out rfl (by omega) hsz (Below.refl (gle+1) _) ?_;rintro g4 cap w4 o4 b4 gr4 hat4;have hx4:=(b4.block gle (by omega)).trans HXB.out;have c4:=cell_heap (k:=0) hx4 rfl;have f4:=frozen_heap hx4 0)
        go_roundw
        case rel =>
         refine ⟨j+1,xs++[s0],_,_,by omega,by go_num,by rw [List.length_append,HXL.out];rfl,upto_snoc HXU.out (by omega),(heap_set hx4 0 _).trans rfl,o4.far (p:=⟨gle,0,none⟩) (by simp) _,(HW.out.keepB HSEP.out b4 (by omega)).far HSEP.out (p:=⟨gle,0,none⟩) (by simp only;omega) _,(HO0.out.keepB b4 (fun a ha=>by have:=hb0 a ha;omega)).off (p:=⟨gle,0,none⟩) (fun a ha=>by have:=hb0 a ha;simp only;omega) _,(KC.out.keepB b4 (by omega)).setNew (by omega) _ _,grownBy_setNew (grown_then HG.out b4 (by omega)) (by omega) _ _,by rw [size_set4];have:=b4.size;omega⟩
        case measure=>simp [intOf];omega
       | true =>
        go_wp2_with fail
        refine (l01Below_any g B A n c bs 8 _ KC.out hn (by omega) (by omega)).mono ?_
        rintro e wp ⟨s1,rfl,hs1,hs1',kp,gp⟩
        replace HXB:=Lib.hid ((grown_far gp (heap_lt0 HXB.out) (by omega)).trans HXB.out)
        replace HO:=Lib.hid (HO.out.grownC gp (by omega))
        replace HW:=Lib.hid (HW.out.grown HSEP.out hgl gp)
        replace HG:=Lib.hid (grownBy_trans HG.out gp)
        replace hsz:=Nat.le_trans hsz gp.size
        replace HO0:=Lib.hid (HO0.out.grownC gp (by omega))
        replace KC:=Lib.hid kp
        clear gp kp
        have hx0:=cell_heap (k:=0) HXB.out rfl
        go_wp2_with (at_builtin;refine wpList_push rfl _ _ rfl (gle+1) A' j c' xs _ rfl HO.out rfl (by omega) hsz (Below.refl (gle+1) _) ?_;rintro g4 cap w4 o4 b4 gr4 hat4;have hx4:=(b4.block gle (by omega)).trans HXB.out;have c4:=cell_heap (k:=0) hx4 rfl;have f4:=frozen_heap hx4 0)
        go_roundw
        case rel =>
         refine ⟨j+1,xs++[s1],_,_,by omega,by go_num,by rw [List.length_append,HXL.out];rfl,upto_snoc HXU.out (by omega),(heap_set hx4 0 _).trans rfl,o4.far (p:=⟨gle,0,none⟩) (by simp) _,(HW.out.keepB HSEP.out b4 (by omega)).far HSEP.out (p:=⟨gle,0,none⟩) (by simp only;omega) _,(HO0.out.keepB b4 (fun a ha=>by have:=hb0 a ha;omega)).off (p:=⟨gle,0,none⟩) (fun a ha=>by have:=hb0 a ha;simp only;omega) _,(KC.out.keepB b4 (by omega)).setNew (by omega) _ _,grownBy_setNew (grown_then HG.out b4 (by omega)) (by omega) _ _,by rw [size_set4];have:=b4.size;omega⟩
        case measure=>simp [intOf];omega
      ·have hj4:j=4:=by omega
       subst hj4
       have hdj:decide (((4:Nat):Int)<4)=false:=by decide
       have d0:=cell_heap (k:=0) HXB.out rfl
       have d1:=cell_heap (k:=1) HXB.out rfl
       have d2:=cell_heap (k:=2) HXB.out rfl
       have d3:=cell_heap (k:=3) HXB.out rfl
       have hc1:=cell_heap (k:=1) HW.out.tile rfl
       have e10:=cell_heap (k:=4) HW.out.les rfl
       have k0:=frozen_heap HW.out.les 4
       have e11:=cell_heap (k:=5) HW.out.les rfl
       have k1:=frozen_heap HW.out.les 5
       have e12:=cell_heap (k:=6) HW.out.les rfl
       have k2:=frozen_heap HW.out.les 6
       have e13:=cell_heap (k:=7) HW.out.les rfl
       have k3:=frozen_heap HW.out.les 7
       have hll:=heap_lt0 HW.out.les
       have z1:gle≠gl:=by have:=HSEP.out.lt;omega
       have z2:gle≠gc:=by have:=HSEP.out.lt;omega
       have z3:gc≠gl:=by have:=HSEP.out.ne;omega
       go_wp2_with fail
       go_roundw
       case rel =>
        have hq2:gl<gle+1:=by have:=HSEP.out.lt;omega
        have hq3:gl<S:=HSEP.out.lt.2.2.2
        have D:=(((HW.out.setLe HSEP.out 4 (.slice A' 4 c')).setLe HSEP.out 5 (.int .i64 y0)).setLe HSEP.out 6 (.int .i64 y1)).setLe HSEP.out 7 (.int .i64 y2)
        have OW:=((((HO.out).far (p:=⟨gl,4,none⟩) hq2 (.slice A' 4 c')).far (p:=⟨gl,5,none⟩) hq2 (.int .i64 y0)).far (p:=⟨gl,6,none⟩) hq2 (.int .i64 y1)).far (p:=⟨gl,7,none⟩) hq2 (.int .i64 y2)
        have BB:=grownBy_setNew (grownBy_setNew (grownBy_setNew (grownBy_setNew HG.out hlol 4 (.slice A' 4 c')) hlol 5 (.int .i64 y0)) hlol 6 (.int .i64 y1)) hlol 7 (.int .i64 y2)
        have CC:=(((KC.out.setNew hggl 4 (.slice A' 4 c')).setNew hggl 5 (.int .i64 y0)).setNew hggl 6 (.int .i64 y1)).setNew hggl 7 (.int .i64 y2)
        have OX:=((((HO0.out).far (p:=⟨gl,4,none⟩) hq3 (.slice A' 4 c')).far (p:=⟨gl,5,none⟩) hq3 (.int .i64 y0)).far (p:=⟨gl,6,none⟩) hq3 (.int .i64 y1)).far (p:=⟨gl,7,none⟩) hq3 (.int .i64 y2)
        refine ⟨2,[e0,⟨xs,y0,y1,y2⟩],_,by omega,rfl,rfl,?_,D,⟨A0,c0,A',c',gle+1,rfl,OX,fun a ha=>by have:=hb0 a ha;omega,by omega,OW⟩,CC,BB,by simp only [size_set4];omega⟩
        intro e he
        have hq:e=⟨xs,y0,y1,y2⟩∨e∈[e0]:=by simpa [or_comm] using he
        rcases hq with rfl|he
        ·exact le_ok HXL.out HXU.out (by omega) (by omega) (by omega)
        ·exact HEO.out e he
       case measure=>simp [intOf]
    ·obtain ⟨e0,e1,rfl⟩:∃e0 e1,es=[e0,e1]:=by
      match es,hel with
      | [a,b],_=>exact ⟨a,b,rfl⟩
     rw [show ((2:Nat):Int)=2 from rfl]
     go_wp2_with fail
     have hAB:=below_new (Below.refl wr.heap.size wr) (.cells #[.int .i64 1,.int .i64 1,.int .i64 2,.int .i64 2,.int .i64 0,.int .i64 3] 3)
     refine (l01PickInt_in (fun y=>0≤y∧y≤3) g B A n c bs wr.heap.size 6 6 _ (KC.out.below hAB) hn (by omega) (by omega) (by have:=KC.out.lt;omega) (by simp) pick_cells).mono ?_
     rintro e w5 ⟨p,rfl,hp,k5,g5⟩
     replace HW:=Lib.hid ((HW.out.keepB HSEP.out hAB hsz).grown HSEP.out hgl g5)
     replace HL:=Lib.hid ((HL.out.keepG (w':=wr.alloc (.cells #[.int .i64 1,.int .i64 1,.int .i64 2,.int .i64 2,.int .i64 0,.int .i64 3] 3)) (fun k _ h2=>hAB.block k h2)).grownD g5 (by omega))
     replace HG:=Lib.hid (grownBy_trans (grown_then HG.out hAB HG.out.size) g5)
     have hsz5:S≤w5.heap.size:=by have:=g5.size;have:=hAB.size;omega
     replace KC:=Lib.hid k5
     clear hAB k5 g5
     have m2:=cell_heap (k:=2) HW.out.tile rfl
     have q2:=frozen_heap HW.out.tile 2
     have l2:=heap_lt0 HW.out.tile
     have hlog:w.heap.size≤gc:=by have:=HGR.out;omega
     have hlor:w.heap.size≤gr:=by have:=HGR.out;omega
     go_wp2_with fail
     refine (l01Below_any g B A n c bs 32 _ (KC.out.setNew hgc 2 _) hn (by omega) (by omega)).mono ?_
     rintro e w6 ⟨y,rfl,hy,hy',k6,g6⟩
     clear m2 q2 l2
     replace HW:=Lib.hid ((HW.out.setPad HSEP.out p).grown HSEP.out hgl g6)
     replace HL:=Lib.hid ((HL.out.farD (p:=⟨gc,2,none⟩) hSg2 (.int .i64 p)).grownD g6 (by omega))
     replace HG:=Lib.hid (grownBy_trans (grownBy_setNew HG.out hlog 2 (.int .i64 p)) g6)
     replace KC:=Lib.hid k6
     have hsz6:S≤w6.heap.size:=by have h:=g6.size;rw [size_set4] at h;omega
     clear k6 g6
     have m2:=cell_heap (k:=2) HW.out.tile rfl
     have m3:=cell_heap (k:=3) HW.out.tile rfl
     have q3:=frozen_heap HW.out.tile 3
     have m0:=cell_heap (k:=0) HW.out.tile rfl
     have m1:=cell_heap (k:=1) HW.out.tile rfl
     have r0:=cell_heap (k:=0) HW.out.res rfl
     have r1:=cell_heap (k:=1) HW.out.res rfl
     have r2:=cell_heap (k:=2) HW.out.res rfl
     have r3:=cell_heap (k:=3) HW.out.res rfl
     have s0:=frozen_heap HW.out.res 0
     have s1:=frozen_heap HW.out.res 1
     have s2:=frozen_heap HW.out.res 2
     have s3:=frozen_heap HW.out.res 3
     have l2:=heap_lt0 HW.out.tile
     have l3:=heap_lt0 HW.out.res
     have hne:gr≠gc:=HSEP.out.ne.1
     go_wp2_with fail
     have X:=HW.out.setRam HSEP.out y
     have hx:=box_sets (v0 := .slice (some ⟨gm,0,none⟩) M M) (v1 := .slice (some ⟨gl,0,none⟩) 2 2) (v2 := .int .i64 p) (v3 := .int .i64 y) X.res
     obtain ⟨t1,t2,t3,t4⟩:=HSEP.out.lt
     obtain ⟨n1,n2,n3,n4,n5,n6⟩:=HSEP.out.ne
     have LL:=((((HL.out.farD (p:=⟨gc,3,none⟩) t2 (.int .i64 y)).farD (p:=⟨gr,0,none⟩) t1 (.slice (some ⟨gm,0,none⟩) M M)).farD (p:=⟨gr,1,none⟩) t1 (.slice (some ⟨gl,0,none⟩) 2 2)).farD (p:=⟨gr,2,none⟩) t1 (.int .i64 p)).farD (p:=⟨gr,3,none⟩) t1 (.int .i64 y)
     have MM:=heap_st (p:=⟨gr,3,none⟩) (.int .i64 y) (heap_st (p:=⟨gr,2,none⟩) (.int .i64 p) (heap_st (p:=⟨gr,1,none⟩) (.slice (some ⟨gl,0,none⟩) 2 2) (heap_st (p:=⟨gr,0,none⟩) (.slice (some ⟨gm,0,none⟩) M M) X.mux n2.symm) n2.symm) n2.symm) n2.symm
     have EE:=heap_st (p:=⟨gr,3,none⟩) (.int .i64 y) (heap_st (p:=⟨gr,2,none⟩) (.int .i64 p) (heap_st (p:=⟨gr,1,none⟩) (.slice (some ⟨gl,0,none⟩) 2 2) (heap_st (p:=⟨gr,0,none⟩) (.slice (some ⟨gm,0,none⟩) M M) X.les n3.symm) n3.symm) n3.symm) n3.symm
     have GG:=grownBy_setNew (grownBy_setNew (grownBy_setNew (grownBy_setNew (grownBy_setNew HG.out hlog 3 (.int .i64 y)) hlor 0 (.slice (some ⟨gm,0,none⟩) M M)) hlor 1 (.slice (some ⟨gl,0,none⟩) 2 2)) hlor 2 (.int .i64 p)) hlor 3 (.int .i64 y)
     have CC:=((((KC.out.setNew hgc 3 (.int .i64 y)).setNew hgrr 0 (.slice (some ⟨gm,0,none⟩) M M)).setNew hgrr 1 (.slice (some ⟨gl,0,none⟩) 2 2)).setNew hgrr 2 (.int .i64 p)).setNew hgrr 3 (.int .i64 y)
     have O:=tile_done (pad:=p) (ram:=y) MM EE HSEP.out LL hSg HML.out (by unfold maxLen;omega)
     have TOK:=HOK.out mux e0 e1 p y HML.out HMU.out (HEO.out e0 (by simp)) (HEO.out e1 (by simp)) hp ⟨hy,hy'⟩
     generalize ((((w6.setCell ⟨gc,3,none⟩ (.int .i64 y)).setCell ⟨gr,0,none⟩ (.slice (some ⟨gm,0,none⟩) M M)).setCell ⟨gr,1,none⟩ (.slice (some ⟨gl,0,none⟩) 2 2)).setCell ⟨gr,2,none⟩ (.int .i64 p)).setCell ⟨gr,3,none⟩ (.int .i64 y)=w7 at *
     have d0:=cell_heap (k:=0) hx rfl
     have d1:=cell_heap (k:=1) hx rfl
     have d2:=cell_heap (k:=2) hx rfl
     have d3:=cell_heap (k:=3) hx rfl
     exact bodyPost_ret (v := .agg #[.slice (some ⟨gm,0,none⟩) M M,.slice (some ⟨gl,0,none⟩) 2 2,.int .i64 p,.int .i64 y]) (by simp [results,Tryz.results179,go_sem,d0,d1,d2,d3]) rfl ⟨_,_,rfl,TOK,⟨_,_,rfl,O⟩,CC,GG⟩
end Go.Proofs.YtignkfhdkcgkgaaGreat
