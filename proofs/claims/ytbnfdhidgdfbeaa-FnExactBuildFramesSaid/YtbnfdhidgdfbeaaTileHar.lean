/- The laws' helpers on tiles: comparing, marking, held marks. -/
import Derived.Test.YtbnfdhidgdfbeaaOwn
import Derived.Test.YtbnfdhidgdfbeaaStartS
namespace Go.Proofs.Ytbnfdhidgdfbeaa
set_option maxRecDepth 100000
open Go.RowKit

/-- A bound on the rows of a tile. -/
def BdLes (es:List Le):Prop:=es.length≤1099511627776∧∀i:Nat,(es[i]?.getD Le.zero).sel.length≤1099511627776
def BdTs (ts:List Tile):Prop:=ts.length≤1099511627776∧∀i:Nat,(ts[i]?.getD Tile.zero).mux.length≤1099511627776∧BdLes (ts[i]?.getD Tile.zero).les

theorem rdC_drew {w:World} {c:Cel} {v:Value} (h:RdC w w.heap.size c v):RdC w.drew w.drew.heap.size c v:=RdC.keep (w:=w) (w':=w.drew) (B:=w.heap.size) (B':=w.heap.size) (Nat.le_refl _) (fun _ _=>rfl) h
set_option maxHeartbeats 1000000 in
theorem eqLeConfig_same (A B:Option Addr) (n m c d:Nat) (x y z:Int) (xs:List Int) (w:World) (hA:Ints w A n xs) (hB:Ints w B m xs) (hn:n≤1099511627776) :
  Calls Try.prog 128 #[.agg #[.slice A n c,.int .i64 x,.int .i64 y,.int .i64 z],.agg #[.slice B m d,.int .i64 x,.int .i64 y,.int .i64 z]] w fun e w'=>e = .returned (.bool true)∧Below w.heap.size w w':=by
 have HA:=Lib.hid hA
 have HB:=Lib.hid hB
 have hb0:Below w.heap.size w ((w.alloc (.cells #[.slice A n c,.int .i64 x,.int .i64 y,.int .i64 z] 107)).alloc (.cells #[.slice B m d,.int .i64 x,.int .i64 y,.int .i64 z] 107)):=below_new (below_new (Below.refl _ _) _) _
 clear hA hB
 go_enter Try.func128,Try.ntmps128
 go_wp2_with fail
 refine (eqIntS_same A B n m c d xs _ (HA.out.below hb0) (HB.out.below hb0) hn).mono ?_
 rintro e w1 ⟨rfl,b1⟩
 obtain ⟨hcc,hff⟩:=bcell b1
 have B1:=Lib.hid (below_tr hb0 b1)
 clear b1 hb0
 go_wp2_with fail
 go_ret
 exact ⟨rfl,B1.out⟩
set_option maxHeartbeats 1000000 in
theorem eqLeConfigS_same (A B:Option Addr) (n m c d:Nat) (es:List Le) (w:World) (hA:RdC w w.heap.size (celE es) (.slice A n c)) (hB:RdC w w.heap.size (celE es) (.slice B m d)) (hz:BdLes es) :
  Calls Try.prog 97 #[.slice A n c,.slice B m d] w fun e w'=>e = .returned (.bool true)∧Below w.heap.size w w':=by
 have hx:=hA.elen
 have hy:=hB.elen
 obtain ⟨hn,hrow⟩:=hz
 rw [hx] at hn
 obtain rfl:m=n:=by omega
 have HA:=Lib.hid hA
 have HB:=Lib.hid hB
 have HX:=Lib.hid hx
 have HR:=Lib.hid hrow
 clear hx hy hrow hA hB
 go_enter Try.func97,Try.ntmps97
 go_wp2_with fail
 go_loopw [5] (fun i wr=>∃k:Nat,k≤m∧i = .int .i64 k∧Below w.heap.size w wr) (fun i _=>m - (intOf i).toNat)
 case atStart=>exact ⟨0,Nat.zero_le _,rfl,Below.refl _ _⟩
 case round =>
  obtain ⟨k,hk,rfl,hbe⟩:=hrel
  by_cases hlt:k<m
  ·obtain ⟨b,o,S,l,p,rfl,hb,c0,c1,c2,c3,r0⟩:=(HA.out.below hbe).le (k:=k) (by rw [HX.out];exact hlt)
   obtain ⟨b',o',S',l',p',rfl,hb',d0,d1,d2,d3,r0'⟩:=(HB.out.below hbe).le (k:=k) (by rw [HX.out];exact hlt)
   have hrl:=HR.out k
   generalize es[k]?.getD Le.zero=e at *
   have J1:=Lib.hid r0.ints.drewd
   have J2:=Lib.hid r0'.ints.drewd
   have hl:l≤1099511627776:=by have:=r0.ints.1;omega
   have i0:(0:Int)≤(k:Int):=by omega
   have i1:(k:Int)<(m:Int):=by omega
   have HE:=Lib.hid hbe.drew
   clear r0 r0' hbe hrl
   go_wp2_with fail
   go_region_held3 (fun w'=>Below w.heap.size w w'∧w'.cell? ⟨b,o+k * 4,none⟩=some (.slice S l p)∧w'.cell? ⟨b,o+k * 4+1,none⟩=some (.int .i64 e.mask)∧w'.cell? ⟨b,o+k * 4+2,none⟩=some (.int .i64 e.flop)∧w'.cell? ⟨b,o+k * 4+3,none⟩=some (.int .i64 e.init)∧w'.cell? ⟨b',o'+k * 4,none⟩=some (.slice S' l' p')∧w'.cell? ⟨b',o'+k * 4+1,none⟩=some (.int .i64 e.mask)∧w'.cell? ⟨b',o'+k * 4+2,none⟩=some (.int .i64 e.flop)∧w'.cell? ⟨b',o'+k * 4+3,none⟩=some (.int .i64 e.init))
    (first
     | exact ⟨HE.out,c0,c1,c2,c3,d0,d1,d2,d3⟩
     | exact ⟨below_tr HE.out b3,(b3.cell (p:=⟨b,o+k * 4,none⟩) hb).trans c0,(b3.cell (p:=⟨b,o+k * 4+1,none⟩) hb).trans c1,(b3.cell (p:=⟨b,o+k * 4+2,none⟩) hb).trans c2,(b3.cell (p:=⟨b,o+k * 4+3,none⟩) hb).trans c3,(b3.cell (p:=⟨b',o'+k * 4,none⟩) hb').trans d0,(b3.cell (p:=⟨b',o'+k * 4+1,none⟩) hb').trans d1,(b3.cell (p:=⟨b',o'+k * 4+2,none⟩) hb').trans d2,(b3.cell (p:=⟨b',o'+k * 4+3,none⟩) hb').trans d3⟩)
    (first|(go_at_call 128;(with_reducible refine (eqLeConfig_same S S' l l' p p' e.mask e.flop e.init e.sel _ J1.out J2.out hl).mono ?_);rintro e3 w3 ⟨rfl,b3⟩))
   rename_i hH
   have hE3:=hH.1
   clear hH
   go_wp2_with fail
   go_roundw
   case rel=>exact ⟨k+1,by omega,by go_num,hE3⟩
   case measure=>simp [intOf];omega
  ·have hkn:m=k:=by omega
   subst hkn
   go_wp2_with fail
   go_ret
   exact ⟨rfl,hbe⟩
set_option maxHeartbeats 1000000 in
theorem eqTileConfig_same (A B:Option Addr) (n m c d:Nat) (A' B':Option Addr) (n' m' c' d':Nat) (x y:Int) (xs:List Int) (es:List Le) (w:World) (hA:Ints w A n xs) (hB:Ints w B m xs) (hn:n≤1099511627776) (hA':RdC w w.heap.size (celE es) (.slice A' n' c')) (hB':RdC w w.heap.size (celE es) (.slice B' m' d')) (hz:BdLes es) :
  Calls Try.prog 50 #[.agg #[.slice A n c,.slice A' n' c',.int .i64 x,.int .i64 y],.agg #[.slice B m d,.slice B' m' d',.int .i64 x,.int .i64 y]] w fun e w'=>e = .returned (.bool true)∧Below w.heap.size w w':=by
 have HA:=Lib.hid hA
 have HB:=Lib.hid hB
 have HA':=Lib.hid hA'
 have HB':=Lib.hid hB'
 have hb0:Below w.heap.size w ((w.alloc (.cells #[.slice A n c,.slice A' n' c',.int .i64 x,.int .i64 y] 52)).alloc (.cells #[.slice B m d,.slice B' m' d',.int .i64 x,.int .i64 y] 52)):=below_new (below_new (Below.refl _ _) _) _
 clear hA hB hA' hB'
 go_enter Try.func50,Try.ntmps50
 go_wp2_with fail
 refine (eqIntS_same A B n m c d xs _ (HA.out.below hb0) (HB.out.below hb0) hn).mono ?_
 rintro e w1 ⟨rfl,b1⟩
 obtain ⟨hcc,hff⟩:=bcell b1
 have B1:=Lib.hid (below_tr hb0 b1)
 have C1:=Lib.hid b1
 clear b1 hb0
 go_wp2_with fail
 refine (eqLeConfigS_same A' B' n' m' c' d' es _ (HA'.out.below B1.out) (HB'.out.below B1.out) hz).mono ?_
 rintro e w2 ⟨rfl,b2⟩
 clear hcc hff
 obtain ⟨hcc,hff⟩:=bcell (below_tr C1.out b2)
 have B2:=Lib.hid (below_tr B1.out b2)
 clear b2
 go_wp2_with fail
 go_ret
 exact ⟨rfl,B2.out⟩
set_option maxHeartbeats 1000000 in
theorem eqTiles_any (A B:Option Addr) (n m c d:Nat) (ts:List Tile) (w:World) (hA:RdC w w.heap.size (celT ts) (.slice A n c)) (hB:RdC w w.heap.size (celT ts) (.slice B m d)) (hz:BdTs ts) :
  Calls Try.prog 15 #[.slice A n c,.slice B m d] w fun e w'=>e = .returned (.bool true)∧Below w.heap.size w w':=by
 have hx:=hA.tlen
 have hy:=hB.tlen
 obtain ⟨hn,hrow⟩:=hz
 rw [hx] at hn
 obtain rfl:m=n:=by omega
 have HA:=Lib.hid hA
 have HB:=Lib.hid hB
 have HX:=Lib.hid hx
 have HR:=Lib.hid hrow
 clear hx hy hrow hA hB
 go_enter Try.func15,Try.ntmps15
 go_wp2_with fail
 go_loopw [5] (fun i wr=>∃k:Nat,k≤m∧i = .int .i64 k∧Below w.heap.size w wr) (fun i _=>m - (intOf i).toNat)
 case atStart=>exact ⟨0,Nat.zero_le _,rfl,Below.refl _ _⟩
 case round =>
  obtain ⟨k,hk,rfl,hbe⟩:=hrel
  by_cases hlt:k<m
  ·obtain ⟨b,o,S,l,p,L,q,f,rfl,hb,c0,c1,c2,c3,r0,r1⟩:=(HA.out.below hbe).tile (k:=k) (by rw [HX.out];exact hlt)
   obtain ⟨b',o',S',l',p',L',q',f',rfl,hb',d0,d1,d2,d3,r0',r1'⟩:=(HB.out.below hbe).tile (k:=k) (by rw [HX.out];exact hlt)
   have hrl:=HR.out k
   generalize ts[k]?.getD Tile.zero=t at *
   have J1:=Lib.hid r0.ints.drewd
   have J2:=Lib.hid r0'.ints.drewd
   have K1:=Lib.hid r1
   have K2:=Lib.hid r1'
   have HBD:=Lib.hid hrl.2
   have hl:l≤1099511627776:=by have:=r0.ints.1;have:=hrl.1;omega
   have i0:(0:Int)≤(k:Int):=by omega
   have i1:(k:Int)<(m:Int):=by omega
   have HE:=Lib.hid hbe.drew
   clear r0 r0' r1 r1' hbe hrl
   go_wp2_with fail
   go_region_held3 (fun w'=>Below w.heap.size w w'∧w'.cell? ⟨b,o+k * 4,none⟩=some (.slice S l p)∧w'.cell? ⟨b,o+k * 4+1,none⟩=some (.slice L q f)∧w'.cell? ⟨b,o+k * 4+2,none⟩=some (.int .i64 t.pad)∧w'.cell? ⟨b,o+k * 4+3,none⟩=some (.int .i64 t.ram)∧w'.cell? ⟨b',o'+k * 4,none⟩=some (.slice S' l' p')∧w'.cell? ⟨b',o'+k * 4+1,none⟩=some (.slice L' q' f')∧w'.cell? ⟨b',o'+k * 4+2,none⟩=some (.int .i64 t.pad)∧w'.cell? ⟨b',o'+k * 4+3,none⟩=some (.int .i64 t.ram))
    (first
     | exact ⟨HE.out,c0,c1,c2,c3,d0,d1,d2,d3⟩
     | exact ⟨below_tr HE.out b3,(b3.cell (p:=⟨b,o+k * 4,none⟩) hb).trans c0,(b3.cell (p:=⟨b,o+k * 4+1,none⟩) hb).trans c1,(b3.cell (p:=⟨b,o+k * 4+2,none⟩) hb).trans c2,(b3.cell (p:=⟨b,o+k * 4+3,none⟩) hb).trans c3,(b3.cell (p:=⟨b',o'+k * 4,none⟩) hb').trans d0,(b3.cell (p:=⟨b',o'+k * 4+1,none⟩) hb').trans d1,(b3.cell (p:=⟨b',o'+k * 4+2,none⟩) hb').trans d2,(b3.cell (p:=⟨b',o'+k * 4+3,none⟩) hb').trans d3⟩)
    (first|(go_at_call 50;(with_reducible refine (eqTileConfig_same S S' l l' p p' L L' q q' f f' t.pad t.ram t.mux t.les _ J1.out J2.out hl (rdC_drew K1.out) (rdC_drew K2.out) HBD.out).mono ?_);rintro e3 w3 ⟨rfl,b3⟩))
   rename_i hH
   have hE3:=hH.1
   clear hH
   go_wp2_with fail
   go_roundw
   case rel=>exact ⟨k+1,by omega,by go_num,hE3⟩
   case measure=>simp [intOf];omega
  ·have hkn:m=k:=by omega
   subst hkn
   go_wp2_with fail
   go_ret
   exact ⟨rfl,hbe⟩
/-! ### what the call owns, element by element -/
theorem OwnC.leSel {w:World} {n c i:Nat} {A:Option Addr} {F:List Nat} {es:List Le} {e:Le} (h:OwnC w (celE es) (.slice A n c) F) (hF:F.Nodup) (hx:es[i]?=some e) :
  ∃g S m p,A=some ⟨g,0,none⟩∧w.cell? ⟨g,i * 4,none⟩=some (.slice S m p)∧Own 0 w S m p e.sel∧(∀k∈blk S,k∈F) ∧
   ∀(w':World) (zs:List Int),Own 0 w' S m p zs→Only (blk S) w w'→OwnC w' (celE (es.set i { e with sel:=zs })) (.slice A n c) F:=by
 obtain ⟨g,v,Fj,rfl,hg,hc,ho,_,_,hsub,hup⟩:=h.child hF (j:=i * 4+0) (flat4_at Le.cells_length hx (by omega))
 obtain ⟨S,m,p,rfl⟩:=ownC_slice (e:=3) (s:=1) ho
 obtain ⟨ho2,rfl⟩:=ownC_ints.1 ho
 refine ⟨g,S,m,p,rfl,hc,ho2,hsub,fun w' zs hz hon=>?_⟩
 have:=hup w' (celI zs) (ownC_ints.2 ⟨hz,rfl⟩) hon
 rw [flat4_set Le.cells_length (y:={ e with sel:=zs }) hx (by omega) rfl] at this
 exact this
theorem OwnC.leNums {w:World} {n c i:Nat} {A:Option Addr} {F:List Nat} {es:List Le} {e:Le} (h:OwnC w (celE es) (.slice A n c) F) (hF:F.Nodup) (hx:es[i]?=some e) :
  ∃g,A=some ⟨g,0,none⟩∧g∈F∧w.cell? ⟨g,i * 4+1,none⟩=some (.int .i64 e.mask)∧w.cell? ⟨g,i * 4+2,none⟩=some (.int .i64 e.flop)∧w.cell? ⟨g,i * 4+3,none⟩=some (.int .i64 e.init) ∧
   w.frozen? ⟨g,i * 4+1,none⟩=false∧w.frozen? ⟨g,i * 4+2,none⟩=false∧w.frozen? ⟨g,i * 4+3,none⟩=false ∧
   ∀a b d:Int,OwnC (((w.setCell ⟨g,i * 4+1,none⟩ (.int .i64 a)).setCell ⟨g,i * 4+2,none⟩ (.int .i64 b)).setCell ⟨g,i * 4+3,none⟩ (.int .i64 d)) (celE (es.set i ⟨e.sel,a,b,d⟩)) (.slice A n c) F:=by
 have hi:=(List.getElem?_eq_some_iff.1 hx).1
 obtain ⟨g,rfl,hg,c1,f1,u1⟩:=h.num hF (j:=i * 4+1) (flat4_at Le.cells_length hx (by omega))
 obtain ⟨g2,hg2,_,c2,f2,_⟩:=h.num hF (j:=i * 4+2) (flat4_at Le.cells_length hx (by omega))
 obtain ⟨g3,hg3,_,c3,f3,_⟩:=h.num hF (j:=i * 4+3) (flat4_at Le.cells_length hx (by omega))
 injection hg2 with hg2
 injection hg3 with hg3
 injection hg2 with hg2
 injection hg3 with hg3
 subst hg2 hg3
 refine ⟨g,rfl,hg,c1,c2,c3,f1,f2,f3,fun a b d=>?_⟩
 have q1:=u1 a
 rw [flat4_set Le.cells_length (y:=⟨e.sel,a,e.flop,e.init⟩) hx (by omega) rfl] at q1
 have hx1:(es.set i ⟨e.sel,a,e.flop,e.init⟩)[i]?=some ⟨e.sel,a,e.flop,e.init⟩:=List.getElem?_set_self hi
 obtain ⟨g2,hg2,_,_,_,u2⟩:=OwnC.num q1 hF (j:=i * 4+2) (flat4_at Le.cells_length hx1 (by omega))
 injection hg2 with hg2
 injection hg2 with hg2
 subst hg2
 have q2:=u2 b
 rw [flat4_set Le.cells_length (y:=⟨e.sel,a,b,e.init⟩) hx1 (by omega) rfl,List.set_set] at q2
 have hx2:(es.set i ⟨e.sel,a,b,e.init⟩)[i]?=some ⟨e.sel,a,b,e.init⟩:=List.getElem?_set_self hi
 obtain ⟨g3,hg3,_,_,_,u3⟩:=OwnC.num q2 hF (j:=i * 4+3) (flat4_at Le.cells_length hx2 (by omega))
 injection hg3 with hg3
 injection hg3 with hg3
 subst hg3
 have q3:=u3 d
 rw [flat4_set Le.cells_length (y:=⟨e.sel,a,b,d⟩) hx2 (by omega) rfl,List.set_set] at q3
 exact q3
theorem OwnC.tMux {w:World} {n c i:Nat} {A:Option Addr} {F:List Nat} {ts:List Tile} {t:Tile} (h:OwnC w (celT ts) (.slice A n c) F) (hF:F.Nodup) (hx:ts[i]?=some t) :
  ∃g S m p,A=some ⟨g,0,none⟩∧w.cell? ⟨g,i * 4,none⟩=some (.slice S m p)∧Own 0 w S m p t.mux∧(∀k∈blk S,k∈F) ∧
   ∀(w':World) (zs:List Int),Own 0 w' S m p zs→Only (blk S) w w'→OwnC w' (celT (ts.set i { t with mux:=zs })) (.slice A n c) F:=by
 obtain ⟨g,v,Fj,rfl,hg,hc,ho,_,_,hsub,hup⟩:=h.child hF (j:=i * 4+0) (flat4_at Tile.cells_length hx (by omega))
 obtain ⟨S,m,p,rfl⟩:=ownC_slice (e:=3) (s:=1) ho
 obtain ⟨ho2,rfl⟩:=ownC_ints.1 ho
 refine ⟨g,S,m,p,rfl,hc,ho2,hsub,fun w' zs hz hon=>?_⟩
 have:=hup w' (celI zs) (ownC_ints.2 ⟨hz,rfl⟩) hon
 rw [flat4_set Tile.cells_length (y:={ t with mux:=zs }) hx (by omega) rfl] at this
 exact this
theorem OwnC.tLes {w:World} {n c i:Nat} {A:Option Addr} {F:List Nat} {ts:List Tile} {t:Tile} (h:OwnC w (celT ts) (.slice A n c) F) (hF:F.Nodup) (hx:ts[i]?=some t) :
  ∃g S m p Fj,A=some ⟨g,0,none⟩∧w.cell? ⟨g,i * 4+1,none⟩=some (.slice S m p)∧OwnC w (celE t.les) (.slice S m p) Fj∧Fj.Nodup∧(∀k∈Fj,k∈F) ∧
   ∀(w':World) (zs:List Le),OwnC w' (celE zs) (.slice S m p) Fj→Only Fj w w'→OwnC w' (celT (ts.set i { t with les:=zs })) (.slice A n c) F:=by
 obtain ⟨g,v,Fj,rfl,hg,hc,ho,hnd,_,hsub,hup⟩:=h.child hF (j:=i * 4+1) (flat4_at Tile.cells_length hx (by omega))
 obtain ⟨S,m,p,rfl⟩:=ownC_slice (e:=107) (s:=4) ho
 refine ⟨g,S,m,p,Fj,rfl,hc,ho,hnd,hsub,fun w' zs hz hon=>?_⟩
 have:=hup w' (celE zs) hz hon
 rw [flat4_set Tile.cells_length (y:={ t with les:=zs }) hx (by omega) rfl] at this
 exact this
theorem OwnC.tNums {w:World} {n c i:Nat} {A:Option Addr} {F:List Nat} {ts:List Tile} {t:Tile} (h:OwnC w (celT ts) (.slice A n c) F) (hF:F.Nodup) (hx:ts[i]?=some t) :
  ∃g,A=some ⟨g,0,none⟩∧g∈F∧w.cell? ⟨g,i * 4+2,none⟩=some (.int .i64 t.pad)∧w.cell? ⟨g,i * 4+3,none⟩=some (.int .i64 t.ram) ∧
   w.frozen? ⟨g,i * 4+2,none⟩=false∧w.frozen? ⟨g,i * 4+3,none⟩=false ∧
   ∀a b:Int,OwnC ((w.setCell ⟨g,i * 4+2,none⟩ (.int .i64 a)).setCell ⟨g,i * 4+3,none⟩ (.int .i64 b)) (celT (ts.set i ⟨t.mux,t.les,a,b⟩)) (.slice A n c) F:=by
 have hi:=(List.getElem?_eq_some_iff.1 hx).1
 obtain ⟨g,rfl,hg,c2,f2,u2⟩:=h.num hF (j:=i * 4+2) (flat4_at Tile.cells_length hx (by omega))
 obtain ⟨g3,hg3,_,c3,f3,_⟩:=h.num hF (j:=i * 4+3) (flat4_at Tile.cells_length hx (by omega))
 injection hg3 with hg3
 injection hg3 with hg3
 subst hg3
 refine ⟨g,rfl,hg,c2,c3,f2,f3,fun a b=>?_⟩
 have q2:=u2 a
 rw [flat4_set Tile.cells_length (y:=⟨t.mux,t.les,a,t.ram⟩) hx (by omega) rfl] at q2
 have hx2:(ts.set i ⟨t.mux,t.les,a,t.ram⟩)[i]?=some ⟨t.mux,t.les,a,t.ram⟩:=List.getElem?_set_self hi
 obtain ⟨g3,hg3,_,_,_,u3⟩:=OwnC.num q2 hF (j:=i * 4+3) (flat4_at Tile.cells_length hx2 (by omega))
 injection hg3 with hg3
 injection hg3 with hg3
 subst hg3
 have q3:=u3 b
 rw [flat4_set Tile.cells_length (y:=⟨t.mux,t.les,a,b⟩) hx2 (by omega) rfl,List.set_set] at q3
 exact q3
theorem OwnC.elen {w:World} {n c:Nat} {A:Option Addr} {F:List Nat} {es:List Le} (h:OwnC w (celE es) (.slice A n c) F):es.length=n:=h.rd.elen
theorem OwnC.tlen {w:World} {n c:Nat} {A:Option Addr} {F:List Nat} {ts:List Tile} (h:OwnC w (celT ts) (.slice A n c) F):ts.length=n:=h.rd.tlen
theorem mkLesP_get {k:Int} {es:List Le} {j:Nat} (h:j<es.length):(mkLesP k es j)[j]?=some (es[j]?.getD Le.zero):=by
 unfold mkLesP
 rw [mapP_get h,if_neg (by omega)]
theorem mkLesP_length (k:Int) (es:List Le) (j:Nat):(mkLesP k es j).length=es.length:=by simp [mkLesP]
theorem mkTsP_get {k:Int} {ts:List Tile} {j:Nat} (h:j<ts.length):(mkTsP k ts j)[j]?=some (ts[j]?.getD Tile.zero):=by
 unfold mkTsP
 rw [mapP_get h,if_neg (by omega)]
theorem mkTsP_length (k:Int) (ts:List Tile) (j:Nat):(mkTsP k ts j).length=ts.length:=by simp [mkTsP]
theorem mkLesP_set {k:Int} {es:List Le} {j:Nat} (h:j<es.length):(mkLesP k es j).set j (mkLe (k+lesN es j) (es[j]?.getD Le.zero))=mkLesP k es (j+1):=by
 unfold mkLesP
 exact mapP_set (g:=fun i=>mkLe (k+lesN es i) (es[i]?.getD Le.zero)) h
theorem mkTsP_set {k:Int} {ts:List Tile} {j:Nat} (h:j<ts.length):(mkTsP k ts j).set j (mkT (k+tsN ts j) (ts[j]?.getD Tile.zero))=mkTsP k ts (j+1):=by
 unfold mkTsP
 exact mapP_set (g:=fun i=>mkT (k+tsN ts i) (ts[i]?.getD Tile.zero)) h

theorem lesN_ge (es:List Le) (k:Nat):k≤lesN es k:=by
 induction k with
 | zero=>exact Nat.le_refl _
 | succ k ih=>rw [lesN,leCnt];omega
theorem tsN_ge (ts:List Tile) (k:Nat):k≤tsN ts k:=by
 induction k with
 | zero=>exact Nat.le_refl _
 | succ k ih=>rw [tsN,tCnt];omega
set_option maxHeartbeats 2000000 in
theorem markLeConfigS_any (A:Option Addr) (n c:Nat) (es:List Le) (F:List Nat) (k0:Int) (w:World) (h:OwnC w (celE es) (.slice A n c) F) (hF:F.Nodup) (hk0:0≤k0) (hk1:k0≤2199023255552) (hz:lesN es n≤1099511627776) :
  Calls Try.prog 52 #[.slice A n c,.int .i64 k0] w fun e w'=>e = .returned (.int .i64 (k0+lesN es n))∧OwnC w' (celE (mkLes k0 es)) (.slice A n c) F∧Only F w w':=by
 have hx:=h.elen
 have hnb:n≤1099511627776:=Nat.le_trans (lesN_ge es n) hz
 have HX:=Lib.hid hx
 have HO:=Lib.hid h
 have HFN:=Lib.hid hF
 clear hx h hF
 go_enter Try.func52,Try.ntmps52
 go_wp2_with fail
 go_loopw [1,5] (fun v i wr=>∃k:Nat,k≤n∧i = .int .i64 k∧v = .int .i64 (k0+lesN es k)∧OwnC wr (celE (mkLesP k0 es k)) (.slice A n c) F∧Only F w wr) (fun _ i _=>n - (intOf i).toNat)
 case atStart=>exact ⟨0,Nat.zero_le _,rfl,by simp [lesN],by unfold mkLesP;rw [mapP_zero];exact HO.out,Only.refl _ _⟩
 case round =>
  obtain ⟨k,hk,rfl,rfl,ho,hg⟩:=hrel
  have HG:=Lib.hid hg
  clear hg
  by_cases hlt:k<n
  ·have HMS:=Lib.hid (mkLesP_set (k:=k0) (es:=es) (j:=k) (by rw [HX.out];exact hlt))
   have hg0:=mkLesP_get (k:=k0) (es:=es) (j:=k) (by rw [HX.out];exact hlt)
   have HML:=Lib.hid (show k<(mkLesP k0 es k).length by rw [mkLesP_length,HX.out];exact hlt)
   have HN:=Lib.hid (lesN.eq_2 es k)
   have hle:=lesN_le es (j:=k+1) (k:=n) (by omega)
   rw [lesN] at hle
   generalize es[k]?.getD Le.zero=e at *
   generalize mkLesP k0 es k=ys at *
   generalize lesN es k=s at *
   have HG0:=Lib.hid hg0
   obtain ⟨b,S,m,p,rfl,c0,o1,hsub,hup⟩:=ho.leSel HFN.out hg0
   have hm:m=e.sel.length:=o1.len.symm
   have hcn:leCnt e=m+3:=by rw [hm];rfl
   have HM:=Lib.hid hm
   have HCN:=Lib.hid hcn
   have O1:=Lib.hid o1
   have HUP:=Lib.hid hup
   have HSUB:=Lib.hid hsub
   rw [hcn] at hle
   have hms:s+m+3≤1099511627776:=by omega
   have i0:(0:Int)≤(k:Int):=by omega
   have i1:(k:Int)<(n:Int):=by omega
   clear ho o1 hup hsub hm hcn hg0 hle
   go_wp2_with fail
   refine (markIntS_any 0 S m p _ _ _ O1.out (by omega) (by omega) (by omega)).mono ?_
   rintro e' w2 ⟨rfl,o2,g2⟩
   have on:=only_grown g2
   have U2:=HUP.out w2 _ o2 on
   have HG2:=Lib.hid (HG.out.trans (on.more HSUB.out))
   have hx2:(ys.set k { e with sel:=iota (k0+s) m })[k]?=some { e with sel:=iota (k0+s) m }:=List.getElem?_set_self HML.out
   obtain ⟨b',hb',hbF,d1,d2,d3,f1,f2,f3,hfin⟩:=U2.leNums HFN.out hx2
   injection hb' with hb'
   injection hb' with hb'
   subst hb'
   have HFIN:=Lib.hid hfin
   simp only at d1 d2 d3
   clear o2 g2 on U2 hx2 hfin c0
   go_wp2_with fail
   go_roundw
   case rel =>
    have q:=HFIN.out (k0+s+m) (k0+s+m+1) (k0+s+m+1+1)
    rw [List.set_set] at q
    refine ⟨k+1,by omega,by go_num,by rw [HN.out,HCN.out];congr 1;omega,?_,((HG2.out.trans (only_set (p:=⟨b,k * 4+1,none⟩) hbF _)).trans (only_set (p:=⟨b,k * 4+2,none⟩) hbF _)).trans (only_set (p:=⟨b,k * 4+3,none⟩) hbF _)⟩
    rw [←HMS.out]
    unfold mkLe
    rw [←HM.out,show k0+(s:Int)+m+2=k0+s+m+1+1 by omega]
    exact q
   case measure=>simp [intOf];omega
  ·have hkn:n=k:=by omega
   subst hkn
   go_wp2_with fail
   go_ret
   exact ⟨rfl,by rw [mkLes,HX.out];exact ho,HG.out⟩
set_option maxHeartbeats 2000000 in
theorem markTileConfigS_any (A:Option Addr) (n c:Nat) (ts:List Tile) (F:List Nat) (k0:Int) (w:World) (h:OwnC w (celT ts) (.slice A n c) F) (hF:F.Nodup) (hk0:0≤k0) (hk1:k0≤1099511627776) (hz:tsN ts n≤1099511627776) :
  Calls Try.prog 16 #[.slice A n c,.int .i64 k0] w fun e w'=>e = .returned (.int .i64 (k0+tsN ts n))∧OwnC w' (celT (mkTs k0 ts)) (.slice A n c) F∧Only F w w':=by
 have hx:=h.tlen
 have hnb:n≤1099511627776:=Nat.le_trans (tsN_ge ts n) hz
 have HX:=Lib.hid hx
 have HO:=Lib.hid h
 have HFN:=Lib.hid hF
 clear hx h hF
 go_enter Try.func16,Try.ntmps16
 go_wp2_with fail
 go_loopw [1,5] (fun v i wr=>∃k:Nat,k≤n∧i = .int .i64 k∧v = .int .i64 (k0+tsN ts k)∧OwnC wr (celT (mkTsP k0 ts k)) (.slice A n c) F∧Only F w wr) (fun _ i _=>n - (intOf i).toNat)
 case atStart=>exact ⟨0,Nat.zero_le _,rfl,by simp [tsN],by unfold mkTsP;rw [mapP_zero];exact HO.out,Only.refl _ _⟩
 case round =>
  obtain ⟨k,hk,rfl,rfl,ho,hg⟩:=hrel
  have HG:=Lib.hid hg
  clear hg
  by_cases hlt:k<n
  ·have HMS:=Lib.hid (mkTsP_set (k:=k0) (ts:=ts) (j:=k) (by rw [HX.out];exact hlt))
   have hg0:=mkTsP_get (k:=k0) (ts:=ts) (j:=k) (by rw [HX.out];exact hlt)
   have HML:=Lib.hid (show k<(mkTsP k0 ts k).length by rw [mkTsP_length,HX.out];exact hlt)
   have HN:=Lib.hid (tsN.eq_2 ts k)
   have hle:=tsN_le ts (j:=k+1) (k:=n) (by omega)
   rw [tsN] at hle
   generalize ts[k]?.getD Tile.zero=t at *
   generalize mkTsP k0 ts k=ys at *
   generalize tsN ts k=s at *
   obtain ⟨b,S,m,p,rfl,c0,o1,hsub,hup⟩:=ho.tMux HFN.out hg0
   have hm:m=t.mux.length:=o1.len.symm
   have hcn:tCnt t=m+lesN t.les t.les.length+2:=by rw [hm];rfl
   have HM:=Lib.hid hm
   have HCN:=Lib.hid hcn
   have O1:=Lib.hid o1
   have HUP:=Lib.hid hup
   have HSUB:=Lib.hid hsub
   rw [hcn] at hle
   generalize hr:lesN t.les t.les.length=r at *
   have HR:=Lib.hid hr
   have hms:s+m+r+2≤1099511627776:=by omega
   have i0:(0:Int)≤(k:Int):=by omega
   have i1:(k:Int)<(n:Int):=by omega
   clear ho o1 hup hsub hm hcn hg0 hle hr
   go_wp2_with fail
   refine (markIntS_any 0 S m p _ _ _ O1.out (by omega) (by omega) (by omega)).mono ?_
   rintro e' w2 ⟨rfl,o2,g2⟩
   have on:=only_grown g2
   have U2:=HUP.out w2 _ o2 on
   have HG2:=Lib.hid (HG.out.trans (on.more HSUB.out))
   have hx2:(ys.set k { t with mux:=iota (k0+s) m })[k]?=some { t with mux:=iota (k0+s) m }:=List.getElem?_set_self HML.out
   obtain ⟨b',L,q,f,Fj,hb',c1,o3,hnd,hsub3,hup3⟩:=U2.tLes HFN.out hx2
   injection hb' with hb'
   injection hb' with hb'
   subst hb'
   simp only at o3 hup3
   have hql:=o3.elen
   have HQL:=Lib.hid hql
   have O3:=Lib.hid o3
   have HUP3:=Lib.hid hup3
   have HSUB3:=Lib.hid hsub3
   have HND:=Lib.hid hnd
   clear o2 g2 on U2 hx2 c0 o3 hup3 hsub3 hnd hql
   go_wp2_with fail
   refine (markLeConfigS_any L q f t.les Fj _ _ O3.out HND.out (by omega) (by omega) (by rw [←HQL.out,HR.out];omega)).mono ?_
   rintro e' w3 ⟨rfl,o4,g4⟩
   rw [←HQL.out,HR.out]
   have U3:=HUP3.out w3 _ o4 g4
   rw [List.set_set] at U3
   have HG3:=Lib.hid (HG2.out.trans (g4.more HSUB3.out))
   have hx3:(ys.set k ⟨iota (k0+s) m,mkLes (k0+s+m) t.les,t.pad,t.ram⟩)[k]?=some ⟨iota (k0+s) m,mkLes (k0+s+m) t.les,t.pad,t.ram⟩:=List.getElem?_set_self HML.out
   obtain ⟨b',hb',hbF,d2,d3,f2,f3,hfin⟩:=OwnC.tNums U3 HFN.out hx3
   injection hb' with hb'
   injection hb' with hb'
   subst hb'
   have HFIN:=Lib.hid hfin
   simp only at d2 d3
   clear o4 g4 U3 hx3 hfin c1
   go_wp2_with fail
   go_roundw
   case rel =>
    have qq:=HFIN.out (k0+s+m+r) (k0+s+m+r+1)
    rw [List.set_set] at qq
    refine ⟨k+1,by omega,by go_num,by rw [HN.out,HCN.out];congr 1;omega,?_,(HG3.out.trans (only_set (p:=⟨b,k * 4+2,none⟩) hbF _)).trans (only_set (p:=⟨b,k * 4+3,none⟩) hbF _)⟩
    rw [←HMS.out]
    unfold mkT
    rw [←HM.out,HR.out]
    exact qq
   case measure=>simp [intOf];omega
  ·have hkn:n=k:=by omega
   subst hkn
   go_wp2_with fail
   go_ret
   exact ⟨rfl,by rw [mkTs,HX.out];exact ho,HG.out⟩
theorem markTileConfigS_chg (lo hi:Nat) (A:Option Addr) (n c:Nat) (ts:List Tile) (k0:Int) (w:World) (h:OwnT lo hi w (celT ts) (.slice A n c)) (hk0:0≤k0) (hk1:k0≤1099511627776) (hz:tsN ts ts.length≤1099511627776) :
  Calls Try.prog 16 #[.slice A n c,.int .i64 k0] w fun e w'=>e = .returned (.int .i64 (k0+tsN ts n))∧OwnT lo hi w' (celT (mkTs k0 ts)) (.slice A n c)∧Chg lo hi w w':=by
 obtain ⟨F,h1,h2,h3⟩:=h
 exact (markTileConfigS_any A n c ts F k0 w h1 h2 hk0 hk1 (by rw [←h1.tlen];exact hz)).mono fun _ _ ⟨a,b,d⟩=>⟨a,⟨F,b,h2,h3⟩,d.chg h3⟩
theorem getD_none {α:Type} {xs:List α} {k:Nat} (d:α) (h:xs.length≤k):xs[k]?.getD d=d:=by rw [List.getElem?_eq_none h];rfl
theorem bdLes_of {es:List Le} {M:Nat} (h:lesN es es.length≤M) (hM:M≤1099511627776):BdLes es:=by
 refine ⟨by have:=lesN_ge es es.length;omega,fun i=>?_⟩
 rcases Nat.lt_or_ge i es.length with hi|hi
 ·have:=lesN_le es (j:=i+1) (k:=es.length) (by omega)
  rw [lesN,leCnt] at this
  omega
 ·rw [getD_none _ hi];simp [Le.zero]
theorem bdTs_of {ts:List Tile} (h:tsN ts ts.length≤1099511627776):BdTs ts:=by
 refine ⟨by have:=tsN_ge ts ts.length;omega,fun i=>?_⟩
 rcases Nat.lt_or_ge i ts.length with hi|hi
 ·have:=tsN_le ts (j:=i+1) (k:=ts.length) (by omega)
  rw [tsN,tCnt] at this
  exact ⟨by omega,bdLes_of (M:=1099511627776) (by omega) (by omega)⟩
 ·rw [getD_none _ hi];exact ⟨by simp [Tile.zero],bdLes_of (M:=0) (by simp [Tile.zero,lesN]) (by omega)⟩

theorem OwnT.chg {lo hi lo' hi':Nat} {w w':World} {c:Cel} {v:Value} (h:OwnT lo hi w c v) (hg:Chg lo' hi' w w') (ha:hi≤lo'∨hi'≤lo):OwnT lo hi w' c v:=h.keep fun k h1 h2 h3=>hg.block k h3 (by omega)
end Go.Proofs.Ytbnfdhidgdfbeaa
