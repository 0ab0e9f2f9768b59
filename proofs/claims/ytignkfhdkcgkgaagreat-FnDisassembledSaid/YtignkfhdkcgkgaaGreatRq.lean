/- The emulator of the program: what emulatorOf makes. The tiles of a region: the program's and the reference's are one list. RegionQuiet: whether nothing outside of a region is driven from it: the program's answer. -/
import Derived.Test.YtignkfhdkcgkgaaGreatCw
import Derived.Test.YtignkfhdkcgkgaaGreatDrvS
namespace Go.Proofs.YtignkfhdkcgkgaaGreat
set_option maxRecDepth 100000
open Go.RowKit

theorem bool_info:(Tryz.prog.info? 4).map (fun i=>(i.zero,i.size,i.bytes))=some (some (.bool false),1,1):=by kernel_rfl
def arrB (xs:List Bool):Array Value:=(xs.map Value.bool).toArray
theorem arrB_get {xs:List Bool} {k:Nat} (h:k<xs.length):(arrB xs)[k]?=some (.bool (xs[k]?.getD false)):=by simp [arrB,h]
theorem arrB_set (xs:List Bool) (k:Nat) (v:Bool):(arrB xs).setIfInBounds k (.bool v)=arrB (xs.set k v):=by
 apply Array.ext'
 simp [arrB,List.map_set]
theorem arrB_made (n:Nat):madeCells #[Value.bool false] n=arrB (List.replicate n false):=by
 apply Array.ext'
 rw [toList_madeCells_one]
 simp [arrB]
/-- The slice (A, n) reads as the truth values bs. -/
def Bools (w:World) (A:Option Addr) (n:Nat) (bs:List Bool):Prop :=
 bs.length=n∧(0<n→∃b o,A=some ⟨b,o,none⟩∧b<w.heap.size∧∀j,j<n→w.cell? ⟨b,o+j,none⟩=some (.bool (bs[j]?.getD false)))
theorem Bools.below {w w':World} {A:Option Addr} {n:Nat} {bs:List Bool} (h:Bools w A n bs) (hb:Below w.heap.size w w'):Bools w' A n bs:=by
 refine ⟨h.1,fun hn=>?_⟩
 obtain ⟨b,o,e,hlt,hc⟩:=h.2 hn
 exact ⟨b,o,e,below_lt hb hlt,fun j hj=>(hb.cell (p:=⟨b,o+j,none⟩) hlt).trans (hc j hj)⟩
theorem Bools.made {w:World} {g n:Nat} {bs:List Bool} (hh:w.heap[g]?=some (.cells (arrB bs) 4 (0,0))) (hl:bs.length=n):Bools w (some ⟨g,0,none⟩) n bs:=by
 refine ⟨hl,fun _=>⟨g,0,rfl,heap_lt0 hh,fun j hj=>?_⟩⟩
 rw [Nat.zero_add]
 exact cell_heap hh (arrB_get (by omega))
theorem intsMade {w:World} {g n:Nat} {xs:List Int} (hh:w.heap[g]?=some (.cells (arr xs) 3 (0,0))) (hl:xs.length=n):Ints w (some ⟨g,0,none⟩) n xs:=by
 refine ⟨hl,fun _=>⟨g,0,rfl,heap_lt0 hh,fun j hj=>?_⟩⟩
 rw [Nat.zero_add]
 exact cell_heap hh (arr_get (by omega))
theorem put_next {α:Type} {l:List α} {N k:Nat} {z b:α} (hl:l.length=k) (hk:k<N):(l++List.replicate (N - k) z).set k b=l++[b]++List.replicate (N - (k+1)) z:=by
 rw [List.set_append,if_neg (by omega),hl,Nat.sub_self,show N - k=(N - (k+1))+1 by omega,List.replicate_succ,List.set_cons_zero,List.append_assoc]
 rfl
theorem put_same {α:Type} {l:List α} {N k:Nat} {z a b:α} (hl:l.length=k) (hk:k<N):((l++List.replicate (N - k) z).set k a).set k b=l++[b]++List.replicate (N - (k+1)) z:=by
 rw [List.set_set,put_next hl hk]
def exTo (d:Dev) (k:Nat):List Bool:=(List.range k).map fun (j:Nat)=>nodeOk d (j:Int)
theorem exTo_succ (d:Dev) (k:Nat):exTo d (k+1)=exTo d k++[nodeOk d (k:Int)]:=by simp [exTo,List.range_succ]
theorem exTo_length (d:Dev) (k:Nat):(exTo d k).length=k:=by simp [exTo]
abbrev emArr (d:Dev) (T E D:Value):Array Value:=#[.int .i64 d.W,.int .i64 d.H,.int .i64 d.T,.int .i64 d.R,T,E,D]
/-- The emulator at block g: a device, its configurations, which nodes exist, and their drivers. -/
structure EmuAt (w:World) (g:Nat) (d:Dev) (ts:List Tile) (TA:Option Addr) (m tc:Nat) (EA DA:Option Addr) (N:Nat):Prop where
 box:w.heap[g]?=some (.cells (emArr d (.slice TA m tc) (.slice EA N N) (.slice DA N N)) 121 (0,0))
 tiles:RdC w w.heap.size (celT ts) (.slice TA m tc)
 exist:Bools w EA N (exTo d N)
 drv:Ints w DA N (drvTo d ts N)
theorem EmuAt.below {w w':World} {g:Nat} {d:Dev} {ts:List Tile} {TA:Option Addr} {m tc:Nat} {EA DA:Option Addr} {N:Nat} (h:EmuAt w g d ts TA m tc EA DA N) (hb:Below w.heap.size w w'):EmuAt w' g d ts TA m tc EA DA N :=
 ⟨heap_tr hb h.box,h.tiles.below hb,h.exist.below hb,h.drv.below hb⟩

theorem keep7 {W W':World} {gw g:Nat} {v0 v1 v2 v3 v4 v5 v6:Value} (hb:Below W.heap.size W W') (h1:gw<W.heap.size) (h2:g<W.heap.size)
  (h:W.cell? ⟨gw,0,none⟩=some v0∧W.cell? ⟨gw,1,none⟩=some v1∧W.cell? ⟨gw,2,none⟩=some v2∧W.cell? ⟨gw,3,none⟩=some v3∧W.cell? ⟨g,4,none⟩=some v4∧W.cell? ⟨g,5,none⟩=some v5∧W.cell? ⟨g,6,none⟩=some v6) :
  W'.cell? ⟨gw,0,none⟩=some v0∧W'.cell? ⟨gw,1,none⟩=some v1∧W'.cell? ⟨gw,2,none⟩=some v2∧W'.cell? ⟨gw,3,none⟩=some v3∧W'.cell? ⟨g,4,none⟩=some v4∧W'.cell? ⟨g,5,none⟩=some v5∧W'.cell? ⟨g,6,none⟩=some v6 :=
 ⟨(hb.cell (p:=⟨gw,0,none⟩) h1).trans h.1,(hb.cell (p:=⟨gw,1,none⟩) h1).trans h.2.1,(hb.cell (p:=⟨gw,2,none⟩) h1).trans h.2.2.1,(hb.cell (p:=⟨gw,3,none⟩) h1).trans h.2.2.2.1,
  (hb.cell (p:=⟨g,4,none⟩) h2).trans h.2.2.2.2.1,(hb.cell (p:=⟨g,5,none⟩) h2).trans h.2.2.2.2.2.1,(hb.cell (p:=⟨g,6,none⟩) h2).trans h.2.2.2.2.2.2⟩
theorem set7 {W:World} {gw g:Nat} {v0 v1 v2 v3 v4 v5 v6:Value} (p:Addr) (v:Value) (h1:p.block≠gw) (h2:p.block≠g)
  (h:W.cell? ⟨gw,0,none⟩=some v0∧W.cell? ⟨gw,1,none⟩=some v1∧W.cell? ⟨gw,2,none⟩=some v2∧W.cell? ⟨gw,3,none⟩=some v3∧W.cell? ⟨g,4,none⟩=some v4∧W.cell? ⟨g,5,none⟩=some v5∧W.cell? ⟨g,6,none⟩=some v6) :
  (W.setCell p v).cell? ⟨gw,0,none⟩=some v0∧(W.setCell p v).cell? ⟨gw,1,none⟩=some v1∧(W.setCell p v).cell? ⟨gw,2,none⟩=some v2∧(W.setCell p v).cell? ⟨gw,3,none⟩=some v3∧(W.setCell p v).cell? ⟨g,4,none⟩=some v4∧(W.setCell p v).cell? ⟨g,5,none⟩=some v5∧(W.setCell p v).cell? ⟨g,6,none⟩=some v6 :=
 ⟨keep_far h.1 h1,keep_far h.2.1 h1,keep_far h.2.2.1 h1,keep_far h.2.2.2.1 h1,keep_far h.2.2.2.2.1 h2,keep_far h.2.2.2.2.2.1 h2,keep_far h.2.2.2.2.2.2 h2⟩
theorem keep7x {w2 wr:World} {gw:Nat} {v0 v1 v2 v3 a0 a1 a2 a3 v4 v5 v6:Value} {t:TypeId} (hb:Below w2.heap.size w2 wr) (h1:gw<w2.heap.size)
  (h:w2.cell? ⟨gw,0,none⟩=some v0∧w2.cell? ⟨gw,1,none⟩=some v1∧w2.cell? ⟨gw,2,none⟩=some v2∧w2.cell? ⟨gw,3,none⟩=some v3) {g:Nat} (hg:wr.heap[g]?=some (.cells #[a0,a1,a2,a3,v4,v5,v6] t (0,0))) :
  wr.cell? ⟨gw,0,none⟩=some v0∧wr.cell? ⟨gw,1,none⟩=some v1∧wr.cell? ⟨gw,2,none⟩=some v2∧wr.cell? ⟨gw,3,none⟩=some v3∧wr.cell? ⟨g,4,none⟩=some v4∧wr.cell? ⟨g,5,none⟩=some v5∧wr.cell? ⟨g,6,none⟩=some v6:=by
 obtain ⟨q0,q1,q2,q3⟩:=keep4 hb h1 h
 exact ⟨q0,q1,q2,q3,cell_heap hg rfl,cell_heap hg rfl,cell_heap hg rfl⟩
theorem heap_set_far {w:World} {g:Nat} {o:Obj} (h:w.heap[g]?=some o) {p:Addr} (hp:g≠p.block) (v:Value):(w.setCell p v).heap[g]?=some o:=(Below.heap_setCell w p v g hp).trans h

set_option maxHeartbeats 4000000 in
theorem emulatorOf_any (d:Dev) (A:Option Addr) (m c:Nat) (fs:List (List Int)) (w:World) (hA:Rows2 w A m fs) (hf:framesOk d fs=true) :
  Calls Tryz.prog 72 #[.agg #[.int .i64 d.W,.int .i64 d.H,.int .i64 d.T,.int .i64 d.R],.slice A m c] w fun e w'=>∃g TA tc EA DA,e = .returned (.pointer (some ⟨g,0,none⟩))∧EmuAt w' g d (tilesOf d fs) TA m tc EA DA (nodesOf d).toNat∧Below w.heap.size w w':=by
 have HB0:=Lib.hid (below_new (Below.refl w.heap.size w) (.cells #[.int .i64 d.W,.int .i64 d.H,.int .i64 d.T,.int .i64 d.R] 25))
 have HI:=Lib.hid hA
 have HF:=Lib.hid hf
 have hdv:=(framesOk_iff hf).1
 have hT:=devOk_bd hdv
 have hnb:=nodesOf_bd hdv
 have HD:=Lib.hid hdv
 have HC:=Lib.hid (cfg_of_frames hf)
 obtain ⟨N,hN⟩:∃N:Nat,nodesOf d=(N:Int):=⟨(nodesOf d).toNat,by omega⟩
 have HNI:Hid (∀k:Nat,k<N→nodeIn d (k:Int)=true):=by
  intro k hk
  exact nodeIn_rnP.2 ⟨hdv,by omega,by rw [hN];omega⟩
 have HRN:Hid (∀w,Calls Tryz.prog 140 #[.agg #[.int .i64 d.W,.int .i64 d.H,.int .i64 d.T,.int .i64 d.R]] w fun e w'=>e = .returned (.int .i64 (N:Int))∧Below w.heap.size w w'):=fun w=>by have h:=routeNodes_any d w hdv;rwa [hN] at h
 have hNN:(nodesOf d).toNat=N:=by omega
 rw [hN] at hnb
 rw [hNN]
 have HQ0:=Lib.hid (box4 w d)
 clear hA hf hdv hN hNN
 obtain ⟨i0,hi,hz0,hz1,hz2⟩:=info_parts int_info
 obtain ⟨j0,hj,hy0,hy1,hy2⟩:=info_parts bool_info
 have hmkI:=fun W=>run_make_rowN (P:=Tryz.prog) 27 3 i0 _ Tryz.underlying27 hi hz0 .i64 .i64 N N (Nat.le_refl _) (by rw [hz2];omega) (by omega) W
 have hmkB:=fun W=>run_make_rowN (P:=Tryz.prog) 119 4 j0 _ Tryz.underlying119 hj hy0 .i64 .i64 N N (Nat.le_refl _) (by rw [hy2];omega) (by omega) W
 rw [hz1,Nat.mul_one,show (Value.int .i64 0).cells=#[Value.int .i64 0] from rfl,arr_made] at hmkI
 rw [hy1,Nat.mul_one,show (Value.bool false).cells=#[Value.bool false] from rfl,arrB_made] at hmkB
 clear hi hz0 hz1 hz2 hj hy0 hy1 hy2
 go_enter Tryz.func72,Tryz.ntmps72
 go_wp2_with fail
 have hD:=Below.refl (w.alloc (.cells #[.int .i64 d.W,.int .i64 d.H,.int .i64 d.T,.int .i64 d.R] 25)).heap.size (w.alloc (.cells #[.int .i64 d.W,.int .i64 d.H,.int .i64 d.T,.int .i64 d.R] 25))
 go_region_held3 (fun w'=>w'.cell? ⟨w.heap.size,0,none⟩=some (.int .i64 d.W)∧w'.cell? ⟨w.heap.size,1,none⟩=some (.int .i64 d.H)∧w'.cell? ⟨w.heap.size,2,none⟩=some (.int .i64 d.T)∧w'.cell? ⟨w.heap.size,3,none⟩=some (.int .i64 d.R))
  (first|with_reducible exact keep4 hD (by simp) HQ0.out|with_reducible exact keep4 hD.drew (by simp) HQ0.out|with_reducible exact keep4 (below_new hD _) (by simp) HQ0.out)
  ((go_at_call 139;(with_reducible refine (readFrames_any d A m c fs _ (HI.out.below (below_tr HB0.out hD.drew)) HF.out).mono ?_);rintro e w2 ⟨TA,tc,rfl,o2,b2⟩;have O2:=Lib.hid o2.rd;have hD2:=below_tr hD.drew b2;have hs2:=b2.size;clear b2 o2;replace hD:=hD2))
 have hs2':w.heap.size+1≤w2.heap.size:=by simp only [World.size_alloc,World.size_drew] at hs2;omega
 have HB2:=Lib.hid hD
 have G2:=Lib.hid (heap_new w2 (.cells (emArr d (.slice TA m tc) (.slice none 0 0) (.slice none 0 0)) 121))
 obtain ⟨hcc,hff⟩:=bcell (below_new hD (.cells (emArr d (.slice TA m tc) (.slice none 0 0) (.slice none 0 0)) 121))
 clear hs2 hD
 go_wp2_with fail
 refine (HRN.out _).mono ?_
 rintro e w3 ⟨rfl,b3⟩
 have hs3:=b3.size
 simp only [World.size_alloc] at hs3
 have HB3:=Lib.hid (below_tr (below_new HB2.out _) b3)
 have G3:=Lib.hid (heap_tr b3 G2.out)
 have O3:=Lib.hid (O2.out.below (below_tr (below_new (Below.refl _ _) _) b3))
 have hb3:=Lib.hid (below_tr (below_new (Below.refl _ _) _) b3:Below w2.heap.size w2 w3)
 clear b3 hcc hff
 obtain ⟨hcc,hff⟩:=bcell HB3.out
 have hgl:w2.heap.size<w3.heap.size:=by omega
 have hwl:w.heap.size<w3.heap.size:=by omega
 have z5:=cell_heap (k:=5) G3.out rfl
 have y5:=frozen_heap G3.out 5
 have hq:=keep4 HB3.out (by simp) HQ0.out
 have x0:=keep_far (q:=⟨w2.heap.size,5,none⟩) (v := .slice (some ⟨w3.heap.size,0,none⟩) N N) hq.1 (by simp;omega)
 have x1:=keep_far (q:=⟨w2.heap.size,5,none⟩) (v := .slice (some ⟨w3.heap.size,0,none⟩) N N) hq.2.1 (by simp;omega)
 have x2:=keep_far (q:=⟨w2.heap.size,5,none⟩) (v := .slice (some ⟨w3.heap.size,0,none⟩) N N) hq.2.2.1 (by simp;omega)
 have x3:=keep_far (q:=⟨w2.heap.size,5,none⟩) (v := .slice (some ⟨w3.heap.size,0,none⟩) N N) hq.2.2.2 (by simp;omega)
 clear hcc hff hq
 go_wp2_with fail
 have hs3':Below w2.heap.size w2 (w3.setCell ⟨w2.heap.size,5,none⟩ (.slice (some ⟨w3.heap.size,0,none⟩) N N)):=hb3.out.setCell (p:=⟨w2.heap.size,5,none⟩) (Nat.le_refl _) _
 have hb3s:Below w2.heap.size w2 ((w3.setCell ⟨w2.heap.size,5,none⟩ (.slice (some ⟨w3.heap.size,0,none⟩) N N)).alloc (.cells (arrB (List.replicate N false)) 4)):=hs3'.alloc (by simp;omega) _
 have g3s:((w3.setCell ⟨w2.heap.size,5,none⟩ (.slice (some ⟨w3.heap.size,0,none⟩) N N)).alloc (.cells (arrB (List.replicate N false)) 4)).heap[w2.heap.size]?=some (.cells (emArr d (.slice TA m tc) (.slice (some ⟨w3.heap.size,0,none⟩) N N) (.slice none 0 0)) 121 (0,0)):=heap_al _ (heap_set G3.out 5 _)
 have ge3:((w3.setCell ⟨w2.heap.size,5,none⟩ (.slice (some ⟨w3.heap.size,0,none⟩) N N)).alloc (.cells (arrB (List.replicate N false)) 4)).heap[w3.heap.size]?=some (.cells (arrB (List.replicate N false)) 4 (0,0)):=heap_newAt (by simp)
 refine (HRN.out _).mono ?_
 rintro e w4 ⟨rfl,b4⟩
 have hs4:=b4.size
 simp only [World.size_alloc,World.size_setCell] at hs4
 have HB4:=Lib.hid (hb3s.trans (b4.mono hb3s.size))
 have G4:=Lib.hid (heap_tr b4 g3s)
 have GE4:=Lib.hid (heap_tr b4 ge3)
 clear b4 g3s ge3 hs3' hb3s x0 x1 x2 x3 z5 y5
 have hgl4:w2.heap.size<w4.heap.size:=by omega
 have z6:=cell_heap (k:=6) G4.out rfl
 have y6:=frozen_heap G4.out 6
 have x5:(w4.setCell ⟨w2.heap.size,6,none⟩ (.slice (some ⟨w4.heap.size,0,none⟩) N N)).cell? ⟨w2.heap.size,5,none⟩=some (.slice (some ⟨w3.heap.size,0,none⟩) N N):=cell_heap (k:=5) (heap_set G4.out 6 _) rfl
 go_wp2_with fail
 have hb0:=(HB4.out.setCell (p:=⟨w2.heap.size,6,none⟩) (Nat.le_refl _) (.slice (some ⟨w4.heap.size,0,none⟩) N N)).alloc (o := .cells (arr (List.replicate N 0)) 3) (by simp;omega)
 have g0:=heap_al (.cells (arr (List.replicate N 0)) 3) (heap_set G4.out 6 (.slice (some ⟨w4.heap.size,0,none⟩) N N))
 have ge0:=heap_al (.cells (arr (List.replicate N 0)) 3) (heap_set_far GE4.out (p:=⟨w2.heap.size,6,none⟩) (by simp;omega) (.slice (some ⟨w4.heap.size,0,none⟩) N N))
 have HS0:=Lib.hid (And.intro hb0 (And.intro g0 ge0))
 clear hb0 g0 ge0 z6 y6 x5
 go_loopw [30] (fun i wr=>∃k:Nat,k≤N∧i = .int .i64 k∧wr.heap[w2.heap.size]?=some (.cells (emArr d (.slice TA m tc) (.slice (some ⟨w3.heap.size,0,none⟩) N N) (.slice (some ⟨w4.heap.size,0,none⟩) N N)) 121 (0,0))∧wr.heap[w3.heap.size]?=some (.cells (arrB (exTo d k++List.replicate (N - k) false)) 4 (0,0))∧wr.heap[w4.heap.size]?=some (.cells (arr (drvTo d (tilesOf d fs) k++List.replicate (N - k) 0)) 3 (0,0))∧Below w2.heap.size w2 wr) (fun i _=>N - (intOf i).toNat)
 case atStart=>exact ⟨0,by omega,rfl,HS0.out.2.1,by simpa [exTo] using HS0.out.2.2,heap_newAt (World.size_setCell _ _ _),HS0.out.1⟩
 case round =>
  obtain ⟨k,hk,rfl,hg,hge,hgd,hb⟩:=hrel
  have HG:=Lib.hid hg
  have HGE:=Lib.hid hge
  have HGD:=Lib.hid hgd
  have HB:=Lib.hid hb
  have hlr:=heap_lt0 hgd
  clear hg hge hgd hb
  by_cases hlt:k<N
  ·have hdk:decide ((k:Int)<(N:Int))=true:=by simp;omega
   have HNIK:=Lib.hid (HNI.out k hlt)
   have HPUT:=Lib.hid (fun b=>put_next (l:=exTo d k) (z:=false) (b:=b) (exTo_length d k) hlt)
   have HPUD:=Lib.hid (fun b=>put_next (l:=drvTo d (tilesOf d fs) k) (z:=(0:Int)) (b:=b) (drvTo_length d (tilesOf d fs) k) hlt)
   have HPUD2:=Lib.hid (fun a b=>put_same (l:=drvTo d (tilesOf d fs) k) (z:=(0:Int)) (a:=a) (b:=b) (drvTo_length d (tilesOf d fs) k) hlt)
   have HES:=Lib.hid (exTo_succ d k)
   have HDS:=Lib.hid (drvTo_succ d (tilesOf d fs) k)
   have i0:(0:Int)≤(k:Int):=by omega
   have i1:(k:Int)<(N:Int):=by omega
   have hgr:w2.heap.size<wr.heap.size:=by omega
   have hger:w3.heap.size<wr.heap.size:=by omega
   have hwr:w.heap.size<wr.heap.size:=by omega
   have x6:=cell_heap (k:=6) HG.out rfl
   have zd:=cell_heap (k:=k) HGD.out (arr_get (by simp [drvTo_length];omega))
   have yd:=frozen_heap HGD.out k
   have HQ7:=Lib.hid (set7 (gw:=w.heap.size) (g:=w2.heap.size) ⟨w4.heap.size,k,none⟩ (.int .i64 (-1)) (by simp;omega) (by simp;omega) (keep7x HB.out (by omega) (keep4 HB2.out (by simp) HQ0.out) HG.out))
   have HGA:=Lib.hid (heap_set_far HG.out (p:=⟨w4.heap.size,k,none⟩) (by simp;omega) (.int .i64 (-1)))
   have HGEA:=Lib.hid (heap_set_far HGE.out (p:=⟨w4.heap.size,k,none⟩) (by simp;omega) (.int .i64 (-1)))
   have HGDA:=Lib.hid (heap_set HGD.out k (.int .i64 (-1)))
   have HBA:=Lib.hid (HB.out.setCell (p:=⟨w4.heap.size,k,none⟩) (by dsimp only;omega) (.int .i64 (-1)))
   have hszA:(wr.setCell ⟨w4.heap.size,k,none⟩ (.int .i64 (-1))).heap.size=wr.heap.size:=World.size_setCell _ _ _
   have HSZA:=Lib.hid hszA
   have hgA:w2.heap.size<(wr.setCell ⟨w4.heap.size,k,none⟩ (.int .i64 (-1))).heap.size:=by omega
   have hwA:w.heap.size<(wr.setCell ⟨w4.heap.size,k,none⟩ (.int .i64 (-1))).heap.size:=by omega
   clear hszA
   go_wp2_with fail
   have hD:=Below.refl (wr.setCell ⟨w4.heap.size,k,none⟩ (.int .i64 (-1))).heap.size (wr.setCell ⟨w4.heap.size,k,none⟩ (.int .i64 (-1)))
   generalize hNO:nodeOk d (k:Int)=bo at *
   have HNO:=Lib.hid hNO
   have HOK:Hid (∀w,Calls Tryz.prog 141 #[.agg #[.int .i64 d.W,.int .i64 d.H,.int .i64 d.T,.int .i64 d.R],.int .i64 (k:Int)] w fun e w'=>e = .returned (.bool bo)∧Below w.heap.size w w'):=fun w=>by have h:=prouteNodeOk_any d (k:Int) w;rwa [hNO] at h
   clear hNO
   go_region_held3 (fun w'=>w'.cell? ⟨w.heap.size,0,none⟩=some (.int .i64 d.W)∧w'.cell? ⟨w.heap.size,1,none⟩=some (.int .i64 d.H)∧w'.cell? ⟨w.heap.size,2,none⟩=some (.int .i64 d.T)∧w'.cell? ⟨w.heap.size,3,none⟩=some (.int .i64 d.R)∧w'.cell? ⟨w2.heap.size,4,none⟩=some (.slice TA m tc)∧w'.cell? ⟨w2.heap.size,5,none⟩=some (.slice (some ⟨w3.heap.size,0,none⟩) N N)∧w'.cell? ⟨w2.heap.size,6,none⟩=some (.slice (some ⟨w4.heap.size,0,none⟩) N N))
    (first|with_reducible exact keep7 hD hwA hgA HQ7.out|with_reducible exact keep7 hD.drew hwA hgA HQ7.out|(with_reducible refine set7 _ _ ?_ ?_ (keep7 hD hwA hgA HQ7.out)) <;> (dsimp only;omega))
    ((go_at_call 141;(with_reducible refine (HOK.out _).mono ?_);rintro e w5 ⟨rfl,b5⟩;have hD2:=below_tr hD.drew b5;have hs5:=b5.size;have ge5:=heap_tr hD2 HGEA.out;have ze:=cell_heap (k:=k) ge5 (arrB_get (by simp [exTo_length];omega));have ye:=frozen_heap ge5 k;have HGE5:=Lib.hid ge5;clear b5 ge5;replace hD:=hD2))
   have q7:=set7 (gw:=w.heap.size) (g:=w2.heap.size) ⟨w3.heap.size,k,none⟩ (.bool bo) (by dsimp only;omega) (by dsimp only;omega) (keep7 hD hwA hgA HQ7.out)
   have g5:=heap_set_far (heap_tr hD HGA.out) (p:=⟨w3.heap.size,k,none⟩) (by dsimp only;omega) (.bool bo)
   have d5:=heap_set_far (heap_tr hD HGDA.out) (p:=⟨w3.heap.size,k,none⟩) (by dsimp only;omega) (.bool bo)
   have e5:=heap_set HGE5.out k (.bool bo)
   have b5:=(HBA.out.trans (hD.mono HBA.out.size)).setCell (p:=⟨w3.heap.size,k,none⟩) (by dsimp only;omega) (.bool bo)
   have hs5w:(w5.setCell ⟨w3.heap.size,k,none⟩ (.bool bo)).heap.size=w5.heap.size:=World.size_setCell _ _ _
   have hs5g:w4.heap.size<(w5.setCell ⟨w3.heap.size,k,none⟩ (.bool bo)).heap.size:=by rw [hs5w];have:=hD.size;have:=HSZA.out;omega
   rw [arr_set] at d5
   rw [arrB_set,HPUT.out,←HES.out] at e5
   have zk:(exTo d (k+1)++List.replicate (N - (k+1)) false)[k]?.getD false=bo:=by rw [HES.out,List.append_assoc,List.getElem?_append_right (by rw [exTo_length];exact Nat.le_refl _),exTo_length,Nat.sub_self];rfl
   clear ze ye hD hs5w zd yd x6 hs5
   generalize w5.setCell ⟨w3.heap.size,k,none⟩ (.bool bo)=wS at *
   have ck:=cell_heap (k:=k) e5 (arrB_get (by simp [exTo_length];omega))
   rw [zk] at ck
   have x5:=q7.2.2.2.2.2.1
   have HQS:=Lib.hid q7
   have G5:=Lib.hid g5
   have D5:=Lib.hid d5
   have E5:=Lib.hid e5
   have B5:=Lib.hid b5
   clear q7 g5 d5 e5 b5 zk
   have hwS:w.heap.size<wS.heap.size:=by omega
   have hgS:w2.heap.size<wS.heap.size:=by omega
   cases bo with
   | false =>
    have HDX:=Lib.hid (drvOf_dead (ts:=tilesOf d fs) (n:=(k:Int)) (by rw [HNO.out];simp)).1
    go_wp2_with fail
    go_roundw
    case rel=>exact ⟨k+1,by omega,by go_num,G5.out,E5.out,by rw [HDS.out,HDX.out,←HPUD.out];exact D5.out,B5.out⟩
    case measure=>simp [intOf];omega
   | true =>
    obtain ⟨q0,q1,q2,q3,-⟩:=HQS.out
    by_cases h5:(k:Int) % perT d=5∨(k:Int) % perT d=6
    ·have HDX:=Lib.hid (drvOf_dead (ts:=tilesOf d fs) (n:=(k:Int)) (by rintro ⟨_,h⟩;exact h h5)).1
     have HOP:Hid (∀w,Calls Tryz.prog 142 #[.agg #[.int .i64 d.W,.int .i64 d.H,.int .i64 d.T,.int .i64 d.R],.int .i64 (k:Int)] w fun e w'=>e = .returned (.bool true)∧Below w.heap.size w w'):=fun w=>by have h:=isOutPin_any d (k:Int) w;rwa [HNO.out,show (decide ((k:Int) % perT d=5) || decide ((k:Int) % perT d=6))=true from by rcases h5 with h|h <;> simp [h]] at h
     clear h5
     go_wp2_with fail
     refine (HOP.out _).mono ?_
     rintro e w6 ⟨rfl,b6⟩
     have HB6:=Lib.hid (B5.out.trans (b6.mono B5.out.size))
     have G6:=Lib.hid (heap_tr b6 G5.out)
     have E6:=Lib.hid (heap_tr b6 E5.out)
     have D6:=Lib.hid (heap_tr b6 D5.out)
     clear b6
     go_wp2_with fail
     go_roundw
     case rel=>exact ⟨k+1,by omega,by go_num,G6.out,E6.out,by rw [HDS.out,HDX.out,←HPUD.out];exact D6.out,HB6.out⟩
     case measure=>simp [intOf];omega
    ·have HDX:=Lib.hid (drvOf_live (ts:=tilesOf d fs) HNO.out h5)
     have H5:=Lib.hid h5
     have HOP:Hid (∀w,Calls Tryz.prog 142 #[.agg #[.int .i64 d.W,.int .i64 d.H,.int .i64 d.T,.int .i64 d.R],.int .i64 (k:Int)] w fun e w'=>e = .returned (.bool false)∧Below w.heap.size w w'):=fun w=>by have h:=isOutPin_any d (k:Int) w;rwa [HNO.out,show (decide ((k:Int) % perT d=5) || decide ((k:Int) % perT d=6))=false from by simp;omega] at h
     clear h5
     go_wp2_with fail
     refine (HOP.out _).mono ?_
     rintro e w6 ⟨rfl,b6⟩
     have hs6:=b6.size
     have HB6:=Lib.hid (B5.out.trans (b6.mono B5.out.size))
     have G6:=Lib.hid (heap_tr b6 G5.out)
     have E6:=Lib.hid (heap_tr b6 E5.out)
     have D6:=Lib.hid (heap_tr b6 D5.out)
     have HQ6:=Lib.hid (keep7 b6 hwS hgS HQS.out)
     have hw6:w.heap.size<w6.heap.size:=by omega
     have hg6:w2.heap.size<w6.heap.size:=by omega
     clear b6 q0 q1 q2 q3 x5 ck
     have hD:=Below.refl w6.heap.size w6
     generalize hX:drvSel (selOf d (tilesOf d fs) (k:Int)) (srcs d (k:Int))=X at *
     have HX:=Lib.hid hX
     clear hX
     go_wp2_with fail
     go_region_held3 (fun w'=>w'.cell? ⟨w.heap.size,0,none⟩=some (.int .i64 d.W)∧w'.cell? ⟨w.heap.size,1,none⟩=some (.int .i64 d.H)∧w'.cell? ⟨w.heap.size,2,none⟩=some (.int .i64 d.T)∧w'.cell? ⟨w.heap.size,3,none⟩=some (.int .i64 d.R)∧w'.cell? ⟨w2.heap.size,4,none⟩=some (.slice TA m tc)∧w'.cell? ⟨w2.heap.size,5,none⟩=some (.slice (some ⟨w3.heap.size,0,none⟩) N N)∧w'.cell? ⟨w2.heap.size,6,none⟩=some (.slice (some ⟨w4.heap.size,0,none⟩) N N))
      (first|with_reducible exact keep7 hD hw6 hg6 HQ6.out|with_reducible exact keep7 hD.drew hw6 hg6 HQ6.out|(with_reducible refine set7 _ _ ?_ ?_ (keep7 hD hw6 hg6 HQ6.out)) <;> (dsimp only;omega))
      (first
       | (go_at_call 144;(with_reducible refine (psources_any d (k:Int) _).mono ?_);rintro e w7 ⟨A7,n7,c7,rfl,o7,b7⟩;have O7:=Lib.hid o7.ints;have hn7:n7≤1048576:=(by have h1:=srcs_le d (k:Int);have h2:=o7.len;omega);have hD2:=below_tr hD.drew b7;clear b7 o7;replace hD:=hD2)
       | (go_at_call 143;(with_reducible refine (driverOf_any d TA m tc _ (k:Int) A7 n7 c7 _ _ (O2.out.below (HB6.out.trans (hD.mono HB6.out.size))) O7.out HC.out HNIK.out H5.out hn7).mono ?_);rw [HX.out];rintro e w8 ⟨rfl,b8⟩;have hD2:=below_tr hD b8;have d8:=heap_tr hD2 D6.out;have zd:=cell_heap (k:=k) d8 (arr_get (by simp [drvTo_length];omega));have yd:=frozen_heap d8 k;have D8:=Lib.hid d8;clear b8 d8;replace hD:=hD2))
     have g9:=heap_set_far (heap_tr hD G6.out) (p:=⟨w4.heap.size,k,none⟩) (by dsimp only;omega) (.int .i64 X)
     have e9:=heap_set_far (heap_tr hD E6.out) (p:=⟨w4.heap.size,k,none⟩) (by dsimp only;omega) (.int .i64 X)
     have d9:=heap_set D8.out k (.int .i64 X)
     have b9:=(HB6.out.trans (hD.mono HB6.out.size)).setCell (p:=⟨w4.heap.size,k,none⟩) (by dsimp only;omega) (.int .i64 X)
     rw [arr_set,HPUD2.out] at d9
     have R9:=Lib.hid (And.intro g9 (And.intro e9 (And.intro d9 b9)))
     clear g9 e9 d9 b9 zd yd hD
     go_wp2_with fail
     go_roundw
     case rel=>exact ⟨k+1,by omega,by go_num,R9.out.1,R9.out.2.1,by rw [HDS.out,HDX.out];exact R9.out.2.2.1,R9.out.2.2.2⟩
     case measure=>simp [intOf];omega
  ·have hkN:k=N:=by omega
   have HKN:=Lib.hid hkN
   have hdk:decide ((k:Int)<(N:Int))=false:=by simp;omega
   clear hkN
   go_wp2_with fail
   go_ret
   refine ⟨w2.heap.size,TA,tc,some ⟨w3.heap.size,0,none⟩,some ⟨w4.heap.size,0,none⟩,rfl,⟨HG.out,O2.out.below HB.out,Bools.made ?_ (exTo_length d N),intsMade ?_ (drvTo_length _ _ N)⟩,below_tr HB0.out (below_tr HB2.out HB.out)⟩
   ·have:=HGE.out
    rw [HKN.out,Nat.sub_self,List.replicate_zero,List.append_nil] at this
    exact this
   ·have:=HGD.out
    rw [HKN.out,Nat.sub_self,List.replicate_zero,List.append_nil] at this
    exact this
end Go.Proofs.YtignkfhdkcgkgaaGreat

namespace Go.Proofs.YtignkfhdkcgkgaaGreat
set_option maxRecDepth 100000
open Go.RowKit

end Go.Proofs.YtignkfhdkcgkgaaGreat

namespace Go.Proofs.YtignkfhdkcgkgaaGreat
set_option maxRecDepth 100000
open Go.RowKit

/-- Every source is a node, and none is its own. -/
theorem src_node {d:Dev} {n y:Int} (h:y∈srcs d n):nodeIn d y=true∧y≠n:=by
 unfold srcs at h
 split at h
 ·rename_i hn
  have hno:=hn.1
  unfold nodeOk at hno
  rw [Bool.and_eq_true] at hno
  have ht:=node_tile hno.1
  obtain ⟨hd,n0,n1,hq0,hq1,hr0,hr1⟩:=node_tk hno.1
  have hT:=devOk_bd hd
  have hp:=perT_bd hd
  rw [mem_asc] at h
  unfold itemsOf at h
  have hin:∀{q k:Int},y=q * perT d+k→0≤q→q<d.W * d.H→0≤k→k<perT d→nodeIn d y=true:=by
   intro q k e q0 q1 k0 k1
   refine nodeIn_rnP.2 ⟨hd,?_,?_⟩
   ·have:=Int.mul_nonneg q0 (show 0≤perT d by omega);omega
   ·have h1:(q+1) * perT d≤d.W * d.H * perT d:=Int.mul_le_mul_of_nonneg_right (by omega) (by omega)
    rw [Int.add_mul,Int.one_mul] at h1
    unfold nodesOf
    omega
  rcases List.mem_append.1 h with h|h
  ·split at h
   ·rename_i h7
    obtain ⟨p,hp2,rfl⟩:=mem_outsOf.1 h
    have hm:=outPin_mod ht hp2.1 hp2.2
    have hop:=outPins_bd d (n / perT d)
    refine ⟨hin (q:=n / perT d) (k:=5+p) (by rw [outPin_eq ht hp2.1 hp2.2];omega) hq0 hq1 (by omega) (by omega),fun e=>?_⟩
    rw [e] at hm
    omega
   ·simp at h
  ·obtain ⟨r,k,s,hr,hk,hs,hu,e,h0⟩:=(mem_candA' hd).1 h
   have hc:=cand_ge hd (t:=n / perT d) (r:=r) (k:=k) (s:=s) (by omega)
   have hm:=cand_mod hd (t:=n / perT d) (r:=r) (k:=k) (s:=s) (by omega)
   have hti:=tileIn_iff.1 hc.1
   have hk3:7+r * d.T+k<perT d:=by
    have:=mul_bd hr.1 hr.2 (show 0≤d.T by omega) (Int.le_refl d.T)
    unfold perT
    omega
   refine ⟨hin (q:=stepOf d (n / perT d) ((r+2) % 4) s) (k:=7+r * d.T+k) (by rw [e,hc.2.2.2.2]) hti.2.1 hti.2.2 (by omega) hk3,fun e2=>?_⟩
   rw [←e,e2] at hm
   have hst:=step_tile hd hti.2.1
   rw [←hm.1] at hst
   obtain ⟨_,_,ex,ey⟩:=hst
   unfold stX at ex
   unfold stY at ey
   have:(r+2) % 4=0∨(r+2) % 4=1∨(r+2) % 4=2∨(r+2) % 4=3:=by omega
   rcases this with h4|h4|h4|h4 <;> rw [h4] at ex ey <;> simp at ex ey <;> omega
 ·simp at h
theorem drv_node {d:Dev} {ts:List Tile} {n:Int} (hc:CfgOk d ts) (h:0≤drvOf d ts n):nodeIn d (drvOf d ts n)=true∧drvOf d ts n≠n:=by
 unfold drvOf at h ⊢
 split at h
 ·rename_i hl
  rw [if_pos hl]
  unfold drvSel at h ⊢
  split at h
  ·omega
  ·rename_i hs
   rw [if_neg hs]
   refine src_node (n:=n) ?_
   rcases Nat.lt_or_ge (selOf d ts n - 1).toNat (srcs d n).length with hlt|hge
   ·rw [List.getElem?_eq_getElem hlt]
    exact List.getElem_mem hlt
   ·exfalso
    have hni:nodeIn d n=true:=by have:=hl.1;unfold nodeOk at this;rw [Bool.and_eq_true] at this;exact this.1
    have:=sel_bd hc hni hl.2
    omega
 ·omega
theorem drvTo_get {d:Dev} {ts:List Tile} {k N:Nat} (h:k<N):(drvTo d ts N)[k]?.getD 0=drvOf d ts (k:Int):=by
 unfold drvTo
 rw [List.getElem?_map,List.getElem?_range h]
 rfl

end Go.Proofs.YtignkfhdkcgkgaaGreat
