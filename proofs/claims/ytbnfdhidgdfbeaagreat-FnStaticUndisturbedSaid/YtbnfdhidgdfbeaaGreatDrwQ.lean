/- Drawing frames of which a region is quiet, of the reference. -/
import Derived.Test.YtbnfdhidgdfbeaaGreatBkS
import Derived.Test.YtbnfdhidgdfbeaaGreatDrwR
import Derived.Test.YtbnfdhidgdfbeaaGreatFrKeep
import Derived.Test.YtbnfdhidgdfbeaaGreatTileHar
namespace Go.Proofs.YtbnfdhidgdfbeaaGreat
set_option maxRecDepth 100000
open Go.RowKit

theorem OwnT.setMux {lo hi:Nat} {w:World} {n c i j:Nat} {A:Option Addr} {ts:List Tile} {t:Tile} (h:OwnT lo hi w (celT ts) (.slice A n c)) (hx:ts[i]?=some t) (hj:j<t.mux.length) :
  ∃g gm p,A=some ⟨g,0,none⟩∧g<w.heap.size∧w.cell? ⟨g,i * 4,none⟩=some (.slice (some ⟨gm,0,none⟩) t.mux.length p)∧lo≤gm∧gm<hi∧gm<w.heap.size∧w.cell? ⟨gm,j,none⟩=some (.int .i64 (t.mux[j]?.getD 0))∧w.frozen? ⟨gm,j,none⟩=false ∧
   ∀y:Int,OwnT lo hi (w.setCell ⟨gm,j,none⟩ (.int .i64 y)) (celT (ts.set i { t with mux:=t.mux.set j y })) (.slice A n c):=by
 obtain ⟨F,ho,hF,hin⟩:=h
 obtain ⟨g,S,m,p,rfl,hc,hs,hsub,hup⟩:=ho.tMux hF hx
 have hm:=hs.len
 subst hm
 obtain ⟨gm,cur,rfl,_,hgl,hh,_⟩:=hs.block (by omega)
 have hk:=hin gm (hsub gm (by simp [blk]))
 obtain ⟨c1,c2⟩:=hs.cellAt hj
 exact ⟨g,gm,p,rfl,cell_lt hc,hc,hk.1,hk.2,hgl,c1,c2,fun y=>⟨F,hup _ _ (hs.stored hj y) (only_set (by simp [blk]) _),hF,hin⟩⟩
theorem tile_mux0 {d:Dev} {t:Tile} (h:tileOk d t=true) (j:Nat):tileOk d { t with mux:=t.mux.set j 0 }=true:=by
 unfold tileOk at h ⊢
 simp only [Bool.and_eq_true,decide_eq_true_eq] at h ⊢
 obtain ⟨h1,h2,h3,h4,h5,h6,h7⟩:=h
 refine ⟨h1,by rw [List.length_set];exact h2,h3,h4,h5,allIn_good fun i hi=>inR_iff.2 ?_,h7⟩
 rw [List.length_set] at hi
 rw [getD_set]
 split
 ·omega
 ·exact allIn_get h6 hi
theorem getD_setT {l:List Tile} {i j:Nat} {v:Tile}:(l.set i v)[j]?.getD Tile.zero=if i=j∧i<l.length then v else l[j]?.getD Tile.zero:=by
 by_cases h:i=j
 ·subst h
  by_cases h2:i<l.length
  ·rw [if_pos ⟨rfl,h2⟩];simp [h2]
  ·rw [if_neg (fun h=>h2 h.2),List.set_eq_of_length_le (by omega)]
 ·rw [if_neg (fun h2=>h h2.1),List.getElem?_set_ne h]
/-- Valid tiles of a device. -/
def TsOk (d:Dev) (ts:List Tile):Prop:=ts.length=tiles d∧∀j,j<ts.length→tileOk d (ts[j]?.getD Tile.zero)=true
theorem TsOk.mux0 {d:Dev} {ts:List Tile} (h:TsOk d ts) (i j:Nat) (hi:i<ts.length):TsOk d (ts.set i { (ts[i]?.getD Tile.zero) with mux:=(ts[i]?.getD Tile.zero).mux.set j 0 }):=by
 refine ⟨by rw [List.length_set];exact h.1,fun k hk=>?_⟩
 rw [List.length_set] at hk
 rw [getD_setT]
 split
 ·exact tile_mux0 (h.2 i hi) j
 ·exact h.2 k hk
theorem tileOk_mux {d:Dev} {t:Tile} (h:tileOk d t=true):t.mux.length=muxN d:=by
 unfold tileOk at h
 simp only [Bool.and_eq_true,decide_eq_true_eq] at h
 exact h.2.1
set_option maxHeartbeats 8000000 in
theorem l44Quiet_any (d:Dev) (A:Option Addr) (m c:Nat) (fs:List (List Int)) (r:Reg) (w:World) (hA:Rows2 w A m fs) (hz:size2 fs≤1099511627776) (hf:framesOk d fs=true) :
  Calls Tryz.prog 107 #[.agg #[.int .i64 d.W,.int .i64 d.H,.int .i64 d.T,.int .i64 d.R],.slice A m c,.agg #[.int .i64 r.X0,.int .i64 r.Y0,.int .i64 r.X1,.int .i64 r.Y1]] w fun e w'=>∃(ts:List Tile) (A':Option Addr) (c':Nat),e = .returned (.slice A' (tiles d) c')∧ts.length=tiles d∧Own2 w.heap.size w'.heap.size w' A' (tiles d) c' (buildF d ts)∧Below w.heap.size w w':=by
 have HB0:=Lib.hid (below_new (below_new (Below.refl w.heap.size w) (.cells #[.int .i64 d.W,.int .i64 d.H,.int .i64 d.T,.int .i64 d.R] 25)) (.cells #[.int .i64 r.X0,.int .i64 r.Y0,.int .i64 r.X1,.int .i64 r.Y1] 29))
 have X0:=Lib.hid (heap_al (.cells #[.int .i64 r.X0,.int .i64 r.Y0,.int .i64 r.X1,.int .i64 r.Y1] 29) (heap_new w (.cells #[.int .i64 d.W,.int .i64 d.H,.int .i64 d.T,.int .i64 d.R] 25)))
 have Y0:Hid (((w.alloc (.cells #[.int .i64 d.W,.int .i64 d.H,.int .i64 d.T,.int .i64 d.R] 25)).alloc (.cells #[.int .i64 r.X0,.int .i64 r.Y0,.int .i64 r.X1,.int .i64 r.Y1] 29)).heap[w.heap.size+1]?=some (.cells #[.int .i64 r.X0,.int .i64 r.Y0,.int .i64 r.X1,.int .i64 r.Y1] 29 (0,0))):=heap_newAt (by simp)
 have HI:=Lib.hid hA
 have HRF:Hid (readF d fs=tilesOf d fs):=by show _=_;rw [readF,hf,if_pos rfl]
 have hdv:=(framesOk_iff hf).1
 have HD:=Lib.hid hdv
 have hnb:=nodesOf_bd hdv
 have hmb:=(muxN_bd hdv).1
 have hmc:=(muxN_bd hdv).2.2.1
 have hp:=perT_bd hdv
 have hpd:perT d=7+4 * d.T:=rfl
 have HCF:=Lib.hid (cfg_of_frames hf)
 have htb:=(tiles_eq hdv).1
 have htb2:=(tiles_eq hdv).2.2
 have hT:=devOk_bd hdv
 clear hA hf hdv
 go_enter Tryz.func107,Tryz.ntmps107
 go_wp2_with fail
 refine (sreadFrames_any d A m c fs _ (HI.out.below HB0.out) hz).mono ?_
 rintro e w3 ⟨A3,m3,c3,rfl,o3,b3⟩
 rw [HRF.out] at o3
 have hs3:=b3.size
 simp only [World.size_alloc] at hs3 o3
 have HB3:=Lib.hid (below_tr HB0.out b3)
 have X3:=Lib.hid (heap_tr b3 X0.out)
 have Y3:=Lib.hid (heap_tr b3 Y0.out)
 have hm3:m3=tiles d:=by rw [←o3.rd.tlen];exact HCF.out.len
 have O3:=Lib.hid o3
 clear b3 o3
 subst hm3
 obtain ⟨z0,z1,z2,z3⟩:=cell4 X3.out
 go_wp2_with fail
 refine (l41Drivers_any d A3 (tiles d) c3 (tilesOf d fs) _ O3.out.rd HCF.out).mono ?_
 rintro e w4 ⟨A4,c4,rfl,o4,b4⟩
 have hs4:=b4.size
 have HB4:=Lib.hid (below_tr HB3.out b4)
 have X4:=Lib.hid (heap_tr b4 X3.out)
 have Y4:=Lib.hid (heap_tr b4 Y3.out)
 have O4:=Lib.hid o4
 have T4:=Lib.hid (O3.out.below b4)
 clear b4 o4 z0 z1 z2 z3
 obtain ⟨z0,z1,z2,z3⟩:=cell4 X4.out
 go_wp2_with fail
 refine (l27Per_any d _ (by omega) (by omega)).mono ?_
 rintro e w5 ⟨rfl,b5⟩
 have hs5:=b5.size
 have HB5:=Lib.hid (below_tr HB4.out b5)
 have X5:=Lib.hid (heap_tr b5 X4.out)
 have Y5:=Lib.hid (heap_tr b5 Y4.out)
 have O5:=Lib.hid (O4.out.below b5)
 have T5:=Lib.hid (T4.out.below b5)
 clear b5 z0 z1 z2 z3
 obtain ⟨N,hN⟩:∃N:Nat,nodesOf d=(N:Int):=⟨(nodesOf d).toNat,by omega⟩
 have hNN:(nodesOf d).toNat=N:=by omega
 have HN:=Lib.hid hN
 rw [hN] at hnb
 generalize (nodesOf d).toNat=NN at *
 subst hNN
 clear hN
 generalize hS3:w3.heap.size=S3 at *
 clear hS3
 have HTO0:Hid (TsOk d (tilesOf d fs)):=⟨HCF.out.len,HCF.out.fit⟩
 have HMP:=Lib.hid hpd
 clear hpd
 have hpe0:¬perT d=0:=by omega
 go_wp2_with fail
 go_loopw [10] (fun i wr=>∃(k:Nat) (ts:List Tile),k≤NN∧i = .int .i64 k∧Below w.heap.size w wr∧wr.heap[w.heap.size]?=some (.cells #[.int .i64 d.W,.int .i64 d.H,.int .i64 d.T,.int .i64 d.R] 25 (0,0))∧wr.heap[w.heap.size+1]?=some (.cells #[.int .i64 r.X0,.int .i64 r.Y0,.int .i64 r.X1,.int .i64 r.Y1] 29 (0,0))∧OwnT (w.heap.size+1+1) S3 wr (celT ts) (.slice A3 (tiles d) c3)∧TsOk d ts∧Own S3 wr A4 NN c4 (drvTo d (tilesOf d fs) NN)∧S3≤wr.heap.size) (fun i _=>NN - (intOf i).toNat)
 case atStart=>exact ⟨0,_,by omega,rfl,HB5.out,X5.out,Y5.out,T5.out,HTO0.out,O5.out,by omega⟩
 case round =>
  obtain ⟨k,ts,hk,rfl,hb,hx,hy,ht,hto,ho,hsz⟩:=hrel
  have HB:=Lib.hid hb
  have HX:=Lib.hid hx
  have HY:=Lib.hid hy
  have HT:=Lib.hid ht
  have HTO:=Lib.hid hto
  have HO:=Lib.hid ho
  clear hb hx hy ht hto ho
  by_cases hlt:k<NN
  ·have hdk:decide ((k:Int)<(NN:Int))=true:=by simp;omega
   have hni:nodeIn d (k:Int)=true:=nodeIn_rnP.2 ⟨HD.out,by omega,by rw [HN.out];omega⟩
   obtain ⟨_,n0,n1,hq0,hq1,hr0,hr1⟩:=node_tk hni
   have HDN:=Lib.hid (fun h=>(drv_node (n:=(k:Int)) HCF.out h).1)
   obtain ⟨b,o,rfl,hbl,hc⟩:=HO.out.ints.2 (by omega)
   have hck:=hc k hlt
   rw [drvTo_get hlt] at hck
   generalize drvOf d (tilesOf d fs) (k:Int)=s at *
   clear hni hc
   have e1:((k:Int)).tmod (perT d)=(k:Int) % perT d:=Int.tmod_eq_emod_of_nonneg (by omega)
   obtain ⟨q,hq⟩:∃q:Nat,(k:Int) % perT d=(q:Int):=⟨((k:Int) % perT d).toNat,by omega⟩
   obtain ⟨tq,htqe⟩:∃t:Nat,(k:Int) / perT d=(t:Int):=⟨((k:Int) / perT d).toNat,by omega⟩
   rw [hq] at e1 hr0 hr1
   rw [htqe] at hq0 hq1
   have htq:tq<tiles d:=by omega
   have e2:IntKind.i64.wrap (((k:Int)).tdiv (perT d))=(tq:Int):=(IntWalk.i64_quo _ _ ⟨n0,by omega,by omega⟩).trans htqe
   have e2w:wrap64 ((k:Int) / perT d)=(tq:Int):=(IntWalk.wrap64_in _ (by omega)).trans htqe
   have i0:(0:Int)≤(k:Int):=by omega
   have i1:(k:Int)<(NN:Int):=by omega
   obtain ⟨z0,z1,z2,z3⟩:=cell4 HX.out
   obtain ⟨y0,y1,y2,y3⟩:=cell4 HY.out
   have hbr:b<wr.heap.size:=hbl
   have hwr:w.heap.size+1<wr.heap.size:=heap_lt0 HY.out
   have hwr0:w.heap.size<wr.heap.size:=by omega
   have HQ:=Lib.hid hq
   have HTQ:=Lib.hid htqe
   have hpm:(q:Int)<7+4 * d.T:=by rw [←HMP.out];exact hr1
   clear hq htqe
   by_cases h7:7≤q
   ·have hd7:decide ((q:Int)≥7)=true:=by simp;omega
    obtain ⟨pj,hpj⟩:∃p:Nat,p+2=q:=⟨q - 2,by omega⟩
    have a9:IntKind.i64.wrap ((q:Int) - 2)=(pj:Int):=(IntWalk.i64_in _ (by omega)).trans (by omega)
    have hpjm:pj<muxN d:=by omega
    have hpj0:(0:Int)≤(pj:Int):=by omega
    have HPJ:=Lib.hid hpj
    clear hpj
    by_cases hs0:s<0
    ·have hds:decide (s≥0)=false:=by simp;omega
     have HC:Hid True:=Lib.hid trivial
     have HC2:=HC
     go_wp2_with fail
     have hsub:=sub_ne wr
     have hsc:=sub_cell wr
     refine wp_region_below wr (by kernel_rfl) (by kernel_rfl) (Below.refl _ _) ?_
     repeat (go_big_quiet_step ((go_at_call 50;(first|with_reducible exact calls_sub (HC.out _)|with_reducible exact calls_sub (HC2.out _)))))
     refine wpQuiet_nil ?_
     rintro _ ⟨⟨w4,hD⟩,rfl⟩
     clear hsub hsc z0 z1 z2 z3 y0 y1 y2 y3 hck
     have hs4:=hD.size
     replace HB:=Lib.hid (below_tr HB.out hD)
     replace HX:=Lib.hid (heap_tr hD HX.out)
     replace HY:=Lib.hid (heap_tr hD HY.out)
     replace HT:=Lib.hid (HT.out.below hD)
     replace HO:=Lib.hid (HO.out.below hD)
     clear hD
     go_wp2_with fail
     go_roundw
     case rel=>exact ⟨k+1,ts,by omega,by go_num,HB.out,HX.out,HY.out,HT.out,HTO.out,HO.out,by omega⟩
     case measure=>simp [intOf];omega
    ·have hds:decide (s≥0)=true:=by simp;omega
     have hsi:=HDN.out (by omega)
     obtain ⟨_,s0,s1,hqs0,hqs1,_⟩:=node_tk hsi
     have e3:IntKind.i64.wrap (s.tdiv (perT d))=s / perT d:=IntWalk.i64_quo _ _ ⟨s0,by omega,by omega⟩
     clear hsi
     have e3w:wrap64 (s / perT d)=s / perT d:=IntWalk.wrap64_in _ (by omega)
     cases h1:inReg d r (tq:Int) with
     | true =>
      have HC:=Lib.hid (fun w=>sinRegion_is h1 HD.out (by omega) (by omega) w)
      have HC2:=HC
      clear h1
      go_wp2_with fail
      have hsub:=sub_ne wr
      have hsc:=sub_cell wr
      refine wp_region_below wr (by kernel_rfl) (by kernel_rfl) (Below.refl _ _) ?_
      repeat (go_big_quiet_step ((go_at_call 50;(first|with_reducible exact calls_sub (HC.out _)|with_reducible exact calls_sub (HC2.out _)))))
      refine wpQuiet_nil ?_
      rintro _ ⟨⟨w4,hD⟩,rfl⟩
      clear hsub hsc z0 z1 z2 z3 y0 y1 y2 y3 hck
      have hs4:=hD.size
      replace HB:=Lib.hid (below_tr HB.out hD)
      replace HX:=Lib.hid (heap_tr hD HX.out)
      replace HY:=Lib.hid (heap_tr hD HY.out)
      replace HT:=Lib.hid (HT.out.below hD)
      replace HO:=Lib.hid (HO.out.below hD)
      clear hD
      go_wp2_with fail
      go_roundw
      case rel=>exact ⟨k+1,ts,by omega,by go_num,HB.out,HX.out,HY.out,HT.out,HTO.out,HO.out,by omega⟩
      case measure=>simp [intOf];omega
     | false =>
      have HC:=Lib.hid (fun w=>sinRegion_is h1 HD.out (by omega) (by omega) w)
      clear h1
      cases h2:inReg d r (s / perT d) with
      | false =>
       have HC2:=Lib.hid (fun w=>sinRegion_is h2 HD.out hqs0 (by omega) w)
       clear h2
       go_wp2_with fail
       have hsub:=sub_ne wr
       have hsc:=sub_cell wr
       refine wp_region_below wr (by kernel_rfl) (by kernel_rfl) (Below.refl _ _) ?_
       repeat (go_big_quiet_step ((go_at_call 50;(first|with_reducible exact calls_sub (HC.out _)|with_reducible exact calls_sub (HC2.out _)))))
       refine wpQuiet_nil ?_
       rintro _ ⟨⟨w4,hD⟩,rfl⟩
       clear hsub hsc z0 z1 z2 z3 y0 y1 y2 y3 hck
       have hs4:=hD.size
       replace HB:=Lib.hid (below_tr HB.out hD)
       replace HX:=Lib.hid (heap_tr hD HX.out)
       replace HY:=Lib.hid (heap_tr hD HY.out)
       replace HT:=Lib.hid (HT.out.below hD)
       replace HO:=Lib.hid (HO.out.below hD)
       clear hD
       go_wp2_with fail
       go_roundw
       case rel=>exact ⟨k+1,ts,by omega,by go_num,HB.out,HX.out,HY.out,HT.out,HTO.out,HO.out,by omega⟩
       case measure=>simp [intOf];omega
      | true =>
       have HC2:=Lib.hid (fun w=>sinRegion_is h2 HD.out hqs0 (by omega) w)
       clear h2
       go_wp2_with fail
       have hsub:=sub_ne wr
       have hsc:=sub_cell wr
       refine wp_region_below wr (by kernel_rfl) (by kernel_rfl) (Below.refl _ _) ?_
       repeat (go_big_quiet_step ((go_at_call 50;(first|with_reducible exact calls_sub (HC.out _)|with_reducible exact calls_sub (HC2.out _)))))
       refine wpQuiet_nil ?_
       rintro _ ⟨⟨w4,hD⟩,rfl⟩
       clear hsub hsc z0 z1 z2 z3 y0 y1 y2 y3 hck
       have hs4:=hD.size
       replace HB:=Lib.hid (below_tr HB.out hD)
       replace HX:=Lib.hid (heap_tr hD HX.out)
       replace HY:=Lib.hid (heap_tr hD HY.out)
       replace HT:=Lib.hid (HT.out.below hD)
       replace HO:=Lib.hid (HO.out.below hD)
       clear hD
       have htl:tq<ts.length:=by rw [HTO.out.1];exact htq
       obtain ⟨gt,gm,p,rfl,hgt,hct,hlo,hhi,hgm,hcm,hfm,hset⟩:=HT.out.setMux (i:=tq) (j:=pj) (getD_some Tile.zero htl) (by rw [tileOk_mux (HTO.out.2 _ htl)];omega)
       have HS0:=Lib.hid (hset 0)
       have HTOn:=Lib.hid (HTO.out.mux0 tq pj htl)
       have hml:(ts[tq]?.getD Tile.zero).mux.length=muxN d:=tileOk_mux (HTO.out.2 _ htl)
       rw [hml] at hct
       clear hset hml
       generalize (ts[tq]?.getD Tile.zero).mux[pj]?.getD 0=oldv at *
       go_wp2_with fail
       go_roundw
       case rel=>exact ⟨k+1,_,by omega,by go_num,HB.out.setCell (by show w.heap.size≤gm;omega) _,heap_setFar HX.out (by show w.heap.size≠gm;omega) _,heap_setFar HY.out (by show w.heap.size+1≠gm;omega) _,HS0.out,HTOn.out,HO.out.far (by show gm<S3;omega) _,by simp [World.setCell];omega⟩
       case measure=>simp [intOf];omega
   ·have hd7:decide ((q:Int)≥7)=false:=by simp;omega
    obtain ⟨pj,rfl⟩:∃p:Nat,p=q:=⟨q,rfl⟩
    have hpjm:pj<muxN d:=by omega
    by_cases hs0:s<0
    ·have hds:decide (s≥0)=false:=by simp;omega
     have HC:Hid True:=Lib.hid trivial
     have HC2:=HC
     go_wp2_with fail
     have hsub:=sub_ne wr
     have hsc:=sub_cell wr
     refine wp_region_below wr (by kernel_rfl) (by kernel_rfl) (Below.refl _ _) ?_
     repeat (go_big_quiet_step ((go_at_call 50;(first|with_reducible exact calls_sub (HC.out _)|with_reducible exact calls_sub (HC2.out _)))))
     refine wpQuiet_nil ?_
     rintro _ ⟨⟨w4,hD⟩,rfl⟩
     clear hsub hsc z0 z1 z2 z3 y0 y1 y2 y3 hck
     have hs4:=hD.size
     replace HB:=Lib.hid (below_tr HB.out hD)
     replace HX:=Lib.hid (heap_tr hD HX.out)
     replace HY:=Lib.hid (heap_tr hD HY.out)
     replace HT:=Lib.hid (HT.out.below hD)
     replace HO:=Lib.hid (HO.out.below hD)
     clear hD
     go_wp2_with fail
     go_roundw
     case rel=>exact ⟨k+1,ts,by omega,by go_num,HB.out,HX.out,HY.out,HT.out,HTO.out,HO.out,by omega⟩
     case measure=>simp [intOf];omega
    ·have hds:decide (s≥0)=true:=by simp;omega
     have hsi:=HDN.out (by omega)
     obtain ⟨_,s0,s1,hqs0,hqs1,_⟩:=node_tk hsi
     have e3:IntKind.i64.wrap (s.tdiv (perT d))=s / perT d:=IntWalk.i64_quo _ _ ⟨s0,by omega,by omega⟩
     clear hsi
     have e3w:wrap64 (s / perT d)=s / perT d:=IntWalk.wrap64_in _ (by omega)
     cases h1:inReg d r (tq:Int) with
     | true =>
      have HC:=Lib.hid (fun w=>sinRegion_is h1 HD.out (by omega) (by omega) w)
      have HC2:=HC
      clear h1
      go_wp2_with fail
      have hsub:=sub_ne wr
      have hsc:=sub_cell wr
      refine wp_region_below wr (by kernel_rfl) (by kernel_rfl) (Below.refl _ _) ?_
      repeat (go_big_quiet_step ((go_at_call 50;(first|with_reducible exact calls_sub (HC.out _)|with_reducible exact calls_sub (HC2.out _)))))
      refine wpQuiet_nil ?_
      rintro _ ⟨⟨w4,hD⟩,rfl⟩
      clear hsub hsc z0 z1 z2 z3 y0 y1 y2 y3 hck
      have hs4:=hD.size
      replace HB:=Lib.hid (below_tr HB.out hD)
      replace HX:=Lib.hid (heap_tr hD HX.out)
      replace HY:=Lib.hid (heap_tr hD HY.out)
      replace HT:=Lib.hid (HT.out.below hD)
      replace HO:=Lib.hid (HO.out.below hD)
      clear hD
      go_wp2_with fail
      go_roundw
      case rel=>exact ⟨k+1,ts,by omega,by go_num,HB.out,HX.out,HY.out,HT.out,HTO.out,HO.out,by omega⟩
      case measure=>simp [intOf];omega
     | false =>
      have HC:=Lib.hid (fun w=>sinRegion_is h1 HD.out (by omega) (by omega) w)
      clear h1
      cases h2:inReg d r (s / perT d) with
      | false =>
       have HC2:=Lib.hid (fun w=>sinRegion_is h2 HD.out hqs0 (by omega) w)
       clear h2
       go_wp2_with fail
       have hsub:=sub_ne wr
       have hsc:=sub_cell wr
       refine wp_region_below wr (by kernel_rfl) (by kernel_rfl) (Below.refl _ _) ?_
       repeat (go_big_quiet_step ((go_at_call 50;(first|with_reducible exact calls_sub (HC.out _)|with_reducible exact calls_sub (HC2.out _)))))
       refine wpQuiet_nil ?_
       rintro _ ⟨⟨w4,hD⟩,rfl⟩
       clear hsub hsc z0 z1 z2 z3 y0 y1 y2 y3 hck
       have hs4:=hD.size
       replace HB:=Lib.hid (below_tr HB.out hD)
       replace HX:=Lib.hid (heap_tr hD HX.out)
       replace HY:=Lib.hid (heap_tr hD HY.out)
       replace HT:=Lib.hid (HT.out.below hD)
       replace HO:=Lib.hid (HO.out.below hD)
       clear hD
       go_wp2_with fail
       go_roundw
       case rel=>exact ⟨k+1,ts,by omega,by go_num,HB.out,HX.out,HY.out,HT.out,HTO.out,HO.out,by omega⟩
       case measure=>simp [intOf];omega
      | true =>
       have HC2:=Lib.hid (fun w=>sinRegion_is h2 HD.out hqs0 (by omega) w)
       clear h2
       go_wp2_with fail
       have hsub:=sub_ne wr
       have hsc:=sub_cell wr
       refine wp_region_below wr (by kernel_rfl) (by kernel_rfl) (Below.refl _ _) ?_
       repeat (go_big_quiet_step ((go_at_call 50;(first|with_reducible exact calls_sub (HC.out _)|with_reducible exact calls_sub (HC2.out _)))))
       refine wpQuiet_nil ?_
       rintro _ ⟨⟨w4,hD⟩,rfl⟩
       clear hsub hsc z0 z1 z2 z3 y0 y1 y2 y3 hck
       have hs4:=hD.size
       replace HB:=Lib.hid (below_tr HB.out hD)
       replace HX:=Lib.hid (heap_tr hD HX.out)
       replace HY:=Lib.hid (heap_tr hD HY.out)
       replace HT:=Lib.hid (HT.out.below hD)
       replace HO:=Lib.hid (HO.out.below hD)
       clear hD
       have htl:tq<ts.length:=by rw [HTO.out.1];exact htq
       obtain ⟨gt,gm,p,rfl,hgt,hct,hlo,hhi,hgm,hcm,hfm,hset⟩:=HT.out.setMux (i:=tq) (j:=pj) (getD_some Tile.zero htl) (by rw [tileOk_mux (HTO.out.2 _ htl)];omega)
       have HS0:=Lib.hid (hset 0)
       have HTOn:=Lib.hid (HTO.out.mux0 tq pj htl)
       have hml:(ts[tq]?.getD Tile.zero).mux.length=muxN d:=tileOk_mux (HTO.out.2 _ htl)
       rw [hml] at hct
       clear hset hml
       generalize (ts[tq]?.getD Tile.zero).mux[pj]?.getD 0=oldv at *
       go_wp2_with fail
       go_roundw
       case rel=>exact ⟨k+1,_,by omega,by go_num,HB.out.setCell (by show w.heap.size≤gm;omega) _,heap_setFar HX.out (by show w.heap.size≠gm;omega) _,heap_setFar HY.out (by show w.heap.size+1≠gm;omega) _,HS0.out,HTOn.out,HO.out.far (by show gm<S3;omega) _,by simp [World.setCell];omega⟩
       case measure=>simp [intOf];omega
  ·have hkN:k=NN:=by omega
   have hdk:decide ((k:Int)<(NN:Int))=false:=by simp;omega
   clear hkN
   obtain ⟨z0,z1,z2,z3⟩:=cell4 HX.out
   go_wp2_with fail
   refine (sbuildFrames_yes d A3 (tiles d) c3 ts _ HT.out.rd HD.out HTO.out.1 (fun j hj=>HTO.out.2 j (by rw [HTO.out.1];exact hj))).mono ?_
   rintro e w6 ⟨A6,c6,rfl,o6,b6⟩
   have O6:=Lib.hid o6
   have B6:=Lib.hid (below_tr HB.out b6)
   clear o6 b6
   go_wp2_with fail
   go_ret
   exact ⟨ts,A6,c6,rfl,HTO.out.1,O6.out.widen (by have:=HB.out.size;omega) (Nat.le_refl _),B6.out⟩
end Go.Proofs.YtbnfdhidgdfbeaaGreat
