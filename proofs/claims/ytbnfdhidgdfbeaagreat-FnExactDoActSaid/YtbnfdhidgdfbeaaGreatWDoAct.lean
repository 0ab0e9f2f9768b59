/- The walk of the law FnExactDoAct (printed by gen.py). -/
import Derived.Deep.CutBlock
import Derived.Deep.CutRange
import Derived.Deep.DeepCutAuto
import Derived.Test.YtbnfdhidgdfbeaaGreatCopy
import Derived.Test.YtbnfdhidgdfbeaaGreatDa
import Derived.Test.YtbnfdhidgdfbeaaGreatDaS
import Derived.Test.YtbnfdhidgdfbeaaGreatNbs
import Derived.Test.YtbnfdhidgdfbeaaGreatObn
import Derived.Test.YtbnfdhidgdfbeaaGreatOm
import Derived.Test.YtbnfdhidgdfbeaaGreatRc
namespace Go.Proofs.YtbnfdhidgdfbeaaGreat
set_option maxRecDepth 100000
open Go.RowKit
set_option maxHeartbeats 4000000 in
theorem law_doAct (b0:Bd) (s0:Sl3) (x1:Ac) (A1:Option Addr) (n1 c1:Nat) (w:World) (h0:BoardRd w b0 s0) (m0:s0.n1≤maxLen) (mm0:s0.n2≤maxLen) (mn0:s0.n3≤maxLen) (_q0:∀ys∈b0.frames,ys.length≤maxLen∧∀y∈ys,Wf y) (_r0:∀ys∈b0.saved,ys.length≤maxLen∧∀y∈ys,Wf y) (h1:Ints w A1 n1 x1.words) (m1:n1≤maxLen) :
  Calls Tryz.prog 8 #[.agg (bdArr b0 s0),.agg (acArr x1 A1 n1 c1)] w fun e w'=>e = .returned (.bool true)∧Below w.heap.size w w':=by
 unfold maxLen at *
 have H0:=Lib.hid h0
 have H1:=Lib.hid h1
 have Q0:=Lib.hid (rows_len _q0)
 have R0:=Lib.hid (rows_len _r0)
 clear h0 h1 _q0 _r0
 go_enter Tryz.func8,Tryz.ntmps8
 have X0:Hid ((World.alloc w (.cells (bdArr b0 s0) 57)).heap[w.heap.size]?=some (.cells (bdArr b0 s0) 57)):=heap_newAt (by simp)
 replace X0:=Lib.hid (heap_al (.cells (acArr x1 A1 n1 c1) 59) X0.out)
 have X1:Hid ((World.alloc (w.alloc (.cells (bdArr b0 s0) 57)) (.cells (acArr x1 A1 n1 c1) 59)).heap[w.heap.size+1]?=some (.cells (acArr x1 A1 n1 c1) 59)):=heap_newAt (by simp)
 have HB:=Lib.hid ((below_new ((below_new (Below.refl w.heap.size w) (.cells (bdArr b0 s0) 57))) (.cells (acArr x1 A1 n1 c1) 59)))
 obtain ⟨z0_0,z0_1,z0_2,z0_3,z0_4,z0_5,z0_6,z0_7,z0_8,z0_9,z0_10,z0_11⟩:=cells12 X0.out
 obtain ⟨z1_0,z1_1,z1_2,z1_3,z1_4,z1_5,z1_6,z1_7,z1_8⟩:=cells9 X1.out
 go_wp2_with fail
 clear z0_0 z0_1 z0_2 z0_3 z0_4 z0_5 z0_6 z0_7 z0_8 z0_9 z0_10 z0_11 z1_0 z1_1 z1_2 z1_3 z1_4 z1_5 z1_6 z1_7 z1_8
 refine (szBoard_any b0 s0 _ (H0.out.below HB.out) (by omega) (by omega) (by omega) Q0.out R0.out).mono ?_
 rintro e w1 ⟨L0,rfl,hx0,bw1⟩
 have sz1:=bw1.size
 simp only [World.size_alloc] at sz1
 replace X0:=Lib.hid (heap_tr bw1 X0.out)
 replace X1:=Lib.hid (heap_tr bw1 X1.out)
 replace HB:=Lib.hid (below_tr HB.out bw1)
 clear bw1
 rcases hx0 with hx0|⟨hx0,hy0,hz0⟩
 ·have hd:decide (L0<0)=true:=by simpa using hx0
  obtain ⟨z0_0,z0_1,z0_2,z0_3,z0_4,z0_5,z0_6,z0_7,z0_8,z0_9,z0_10,z0_11⟩:=cells12 X0.out
  obtain ⟨z1_0,z1_1,z1_2,z1_3,z1_4,z1_5,z1_6,z1_7,z1_8⟩:=cells9 X1.out
  go_wp2_with fail
  clear z0_0 z0_1 z0_2 z0_3 z0_4 z0_5 z0_6 z0_7 z0_8 z0_9 z0_10 z0_11 z1_0 z1_1 z1_2 z1_3 z1_4 z1_5 z1_6 z1_7 z1_8
  go_ret
  exact ⟨rfl,HB.out⟩
 have hd0:decide (L0<0)=false:=by simp;omega
 have HBD0:Hid (BdOk b0):=⟨by omega,by have e2:=H0.out.state.1;omega,by omega⟩
 obtain ⟨z0_0,z0_1,z0_2,z0_3,z0_4,z0_5,z0_6,z0_7,z0_8,z0_9,z0_10,z0_11⟩:=cells12 X0.out
 obtain ⟨z1_0,z1_1,z1_2,z1_3,z1_4,z1_5,z1_6,z1_7,z1_8⟩:=cells9 X1.out
 go_wp2_with fail
 clear z0_0 z0_1 z0_2 z0_3 z0_4 z0_5 z0_6 z0_7 z0_8 z0_9 z0_10 z0_11 z1_0 z1_1 z1_2 z1_3 z1_4 z1_5 z1_6 z1_7 z1_8
 refine (szAct_any x1 A1 n1 c1 L0 _ (by omega) (by omega) (by omega)).mono ?_
 rintro e w2 ⟨L1,rfl,hx1,bw2⟩
 have sz2:=bw2.size
 replace X0:=Lib.hid (heap_tr bw2 X0.out)
 replace X1:=Lib.hid (heap_tr bw2 X1.out)
 replace HB:=Lib.hid (below_tr HB.out bw2)
 clear bw2
 rcases hx1 with hx1|⟨hx1,hz1⟩
 ·have hd:decide (L1<0)=true:=by simpa using hx1
  obtain ⟨z0_0,z0_1,z0_2,z0_3,z0_4,z0_5,z0_6,z0_7,z0_8,z0_9,z0_10,z0_11⟩:=cells12 X0.out
  obtain ⟨z1_0,z1_1,z1_2,z1_3,z1_4,z1_5,z1_6,z1_7,z1_8⟩:=cells9 X1.out
  go_wp2_with fail
  clear z0_0 z0_1 z0_2 z0_3 z0_4 z0_5 z0_6 z0_7 z0_8 z0_9 z0_10 z0_11 z1_0 z1_1 z1_2 z1_3 z1_4 z1_5 z1_6 z1_7 z1_8
  go_ret
  exact ⟨rfl,HB.out⟩
 have hd1:decide (L1<0)=false:=by simp;omega
 have resle0:=Lib.hid ((daB_bb (by decide) (show BdB 1048576 b0 from ⟨by omega,by have e2:=H0.out.state.1;omega,by omega⟩) x1).ok (by decide))
 have resn0:=(daB_bb (by decide) (show BdB 1048576 b0 from ⟨by omega,by have e2:=H0.out.state.1;omega,by omega⟩) x1).n
 obtain ⟨z0_0,z0_1,z0_2,z0_3,z0_4,z0_5,z0_6,z0_7,z0_8,z0_9,z0_10,z0_11⟩:=cells12 X0.out
 obtain ⟨z1_0,z1_1,z1_2,z1_3,z1_4,z1_5,z1_6,z1_7,z1_8⟩:=cells9 X1.out
 go_wp2_with fail
 go_cut [6,7] (fun p u w'=>RunCut w2 (daB b0 x1) (.int .i64 (daN b0 x1)) p u w')
 case first =>
  have hD:=Below.refl w2.heap.size w2
  have hdr:w2.heap.size≤w2.drew.heap.size:=Nat.le_refl _
  have hl_X0:=heap_lt0 X0.out
  have hl_X1:=heap_lt0 X1.out
  go_region_held3 (fun w'=>Below w2.heap.size w2 w'∧∀b o,b<w2.heap.size→w'.cell? ⟨b,o,none⟩=w2.cell? ⟨b,o,none⟩)
   (first|with_reducible exact ⟨hD,(bcell hD).1⟩|with_reducible exact ⟨hD.drew,(bcell hD.drew).1⟩|(refine ⟨?_,(bcell ?_).1⟩ <;> (repeat (first|with_reducible exact hD|with_reducible exact hD.drew|with_reducible refine below_new ?_ _|with_reducible refine Below.drew ?_|with_reducible refine Below.setCell ?_ (by simp only;omega) _))))
   (first
    | (go_at_call 33;(refine (toBoard_any b0 s0 _ (H0.out.below (below_tr HB.out (by first|with_reducible exact hD|with_reducible exact hD.drew|with_reducible exact below_new hD _|with_reducible exact (below_new hD _).drew|with_reducible exact below_new hD.drew _|with_reducible exact (below_new hD.drew _).drew))) (by omega) (by omega) (by omega)).mono ?_);rintro e wk ⟨t0,rfl,q0,bw⟩;have hD2:=below_tr (a:=w2) (by first|with_reducible exact hD|with_reducible exact hD.drew|with_reducible exact below_new hD _|with_reducible exact (below_new hD _).drew|with_reducible exact below_new hD.drew _|with_reducible exact (below_new hD.drew _).drew) bw;(try replace hBq0:=below_tr (by first|with_reducible exact hBq0|with_reducible exact hBq0.drew|with_reducible exact below_new hBq0 _|with_reducible exact (below_new hBq0 _).drew|with_reducible exact below_new hBq0.drew _|with_reducible exact (below_new hBq0.drew _).drew) bw);(try replace hBq1:=below_tr (by first|with_reducible exact hBq1|with_reducible exact hBq1.drew|with_reducible exact below_new hBq1 _|with_reducible exact (below_new hBq1 _).drew|with_reducible exact below_new hBq1.drew _|with_reducible exact (below_new hBq1.drew _).drew) bw);have hb0:=Lib.hid bw;have hBq0:=Below.refl wk.heap.size wk;have hnq0:t0.n2≤1048576:=(by have e1:=q0.rd.state.1;have e2:=H0.out.state.1;omega);have Q0q:=Lib.hid q0.rd;clear q0;have hsz:=hD2.size;have hsz2:=bw.size;(try simp only [World.size_drew] at hsz2);(try simp only [World.size_alloc] at hsz2);(try have hlt2:=Nat.lt_of_lt_of_le hlt2 hsz2);(try have hlt2:=Nat.lt_of_succ_le hsz2);obtain ⟨hcc,hff⟩:=bcell bw;clear bw;replace hD:=hD2)
    | (go_at_call 34;(refine (toAct_any x1 A1 n1 c1 _ (H1.out.below (below_tr HB.out (by first|with_reducible exact hD|with_reducible exact hD.drew|with_reducible exact below_new hD _|with_reducible exact (below_new hD _).drew|with_reducible exact below_new hD.drew _|with_reducible exact (below_new hD.drew _).drew))) (by omega)).mono ?_);rintro e wk ⟨t1,rfl,q1,bw⟩;have hD2:=below_tr (a:=w2) (by first|with_reducible exact hD|with_reducible exact hD.drew|with_reducible exact below_new hD _|with_reducible exact (below_new hD _).drew|with_reducible exact below_new hD.drew _|with_reducible exact (below_new hD.drew _).drew) bw;(try replace hBq0:=below_tr (by first|with_reducible exact hBq0|with_reducible exact hBq0.drew|with_reducible exact below_new hBq0 _|with_reducible exact (below_new hBq0 _).drew|with_reducible exact below_new hBq0.drew _|with_reducible exact (below_new hBq0.drew _).drew) bw);(try replace hBq1:=below_tr (by first|with_reducible exact hBq1|with_reducible exact hBq1.drew|with_reducible exact below_new hBq1 _|with_reducible exact (below_new hBq1 _).drew|with_reducible exact below_new hBq1.drew _|with_reducible exact (below_new hBq1.drew _).drew) bw);have hb1:=Lib.hid bw;have hBq1:=Below.refl wk.heap.size wk;have Q1q:=Lib.hid q1.ints;clear q1;have hsz:=hD2.size;have hsz2:=bw.size;(try simp only [World.size_drew] at hsz2);(try simp only [World.size_alloc] at hsz2);(try have hlt2:=Nat.lt_of_lt_of_le hlt2 hsz2);(try have hlt2:=Nat.lt_of_succ_le hsz2);obtain ⟨hcc,hff⟩:=bcell bw;clear bw;replace hD:=hD2)
    | (go_at_call 32;(with_reducible refine (sdoAct_any b0 t0 x1 t1 n1 n1 _ (Q0q.out.below (by first|with_reducible exact hBq0|with_reducible exact hBq0.drew|with_reducible exact below_new hBq0 _|with_reducible exact (below_new hBq0 _).drew|with_reducible exact below_new hBq0.drew _|with_reducible exact (below_new hBq0.drew _).drew)) (Q1q.out.below (by first|with_reducible exact hBq1|with_reducible exact hBq1.drew|with_reducible exact below_new hBq1 _|with_reducible exact (below_new hBq1 _).drew|with_reducible exact below_new hBq1.drew _|with_reducible exact (below_new hBq1.drew _).drew)) (by omega) (by omega) (by omega) (by omega)).mono ?_);rintro e wk ⟨R,rfl,f,bw⟩;have hD2:=below_tr (a:=w2) (by first|with_reducible exact hD|with_reducible exact hD.drew|with_reducible exact below_new hD _|with_reducible exact (below_new hD _).drew|with_reducible exact below_new hD.drew _|with_reducible exact (below_new hD.drew _).drew) bw;(try replace hBq0:=below_tr (by first|with_reducible exact hBq0|with_reducible exact hBq0.drew|with_reducible exact below_new hBq0 _|with_reducible exact (below_new hBq0 _).drew|with_reducible exact below_new hBq0.drew _|with_reducible exact (below_new hBq0.drew _).drew) bw);(try replace hBq1:=below_tr (by first|with_reducible exact hBq1|with_reducible exact hBq1.drew|with_reducible exact below_new hBq1 _|with_reducible exact (below_new hBq1 _).drew|with_reducible exact below_new hBq1.drew _|with_reducible exact (below_new hBq1.drew _).drew) bw);have HFK:=Lib.hid f;have HBK:=Lib.hid bw;have hsf:wk.heap.size≤wk.heap.size:=Nat.le_refl _;clear f;have hsz:=hD2.size;have hsz2:=bw.size;(try simp only [World.size_drew] at hsz2);(try simp only [World.size_alloc] at hsz2);(try have hlt2:=Nat.lt_of_lt_of_le hlt2 hsz2);(try have hlt2:=Nat.lt_of_succ_le hsz2);obtain ⟨hcc,hff⟩:=bcell bw;clear bw;replace hD:=hD2))
  all_goals
   go_wp2_with fail
   go_meet
   try simp only [cut_drew_set,cut_drew_alloc]
   first|((with_reducible refine (cutA hD HFK.out ?_ ?_)) <;> first|omega|(simp;omega))|((with_reducible refine RunCut.drew (cutA hD HFK.out ?_ ?_)) <;> first|omega|(simp;omega))|((with_reducible refine RunCut.drews (cutA hD HFK.out ?_ ?_)) <;> first|omega|(simp;omega))|((with_reducible refine (cutB (b0:=zBd) (R0:=zSl) ?_ HBK.out HFK.out hD ?_ ?_ ?_)) <;> first|omega|(simp;omega)|exact heap_new _ _|exact heap_tr hb0.out (heap_new _ _)|exact heap_tr hb1.out (heap_new _ _)|exact heap_tr hb0.out (heap_tr hb1.out (heap_new _ _))|exact heap_tr hb1.out (heap_tr hb0.out (heap_new _ _)))|((with_reducible refine RunCut.drew (cutB (b0:=zBd) (R0:=zSl) ?_ HBK.out HFK.out hD ?_ ?_ ?_)) <;> first|omega|(simp;omega)|exact heap_new _ _|exact heap_tr hb0.out (heap_new _ _)|exact heap_tr hb1.out (heap_new _ _)|exact heap_tr hb0.out (heap_tr hb1.out (heap_new _ _))|exact heap_tr hb1.out (heap_tr hb0.out (heap_new _ _)))|((with_reducible refine RunCut.drews (cutB (b0:=zBd) (R0:=zSl) ?_ HBK.out HFK.out hD ?_ ?_ ?_)) <;> first|omega|(simp;omega)|exact heap_new _ _|exact heap_tr hb0.out (heap_new _ _)|exact heap_tr hb1.out (heap_new _ _)|exact heap_tr hb0.out (heap_tr hb1.out (heap_new _ _))|exact heap_tr hb1.out (heap_tr hb0.out (heap_new _ _)))
 clear z0_0 z0_1 z0_2 z0_3 z0_4 z0_5 z0_6 z0_7 z0_8 z0_9 z0_10 z0_11 z1_0 z1_1 z1_2 z1_3 z1_4 z1_5 z1_6 z1_7 z1_8
 obtain ⟨w3,g3,Rs0,lo3,hi3,rfl,rfl,hbk3,hgw3,hsp3,hlo3,hhi3,hF3,hD,rfl⟩:=hcut
 have sz3:=hD.size
 have hgl3:=heap_lt0 hbk3
 replace X0:=Lib.hid (heap_tr hD X0.out)
 replace X1:=Lib.hid (heap_tr hD X1.out)
 replace HB:=Lib.hid (below_tr HB.out hD)
 have rs0:=Lib.hid hF3
 have Ys0:Hid (w3.heap[g3]?=some (.cells (bdArr (daB b0 x1) Rs0) 31 (0,0))):=hbk3
 clear hD hF3 hbk3
 obtain ⟨z0_0,z0_1,z0_2,z0_3,z0_4,z0_5,z0_6,z0_7,z0_8,z0_9,z0_10,z0_11⟩:=cells12 X0.out
 obtain ⟨z1_0,z1_1,z1_2,z1_3,z1_4,z1_5,z1_6,z1_7,z1_8⟩:=cells9 X1.out
 obtain ⟨z2_0,z2_1,z2_2,z2_3,z2_4,z2_5,z2_6,z2_7,z2_8,z2_9,z2_10,z2_11⟩:=cells12 Ys0.out
 go_wp2_with fail
 clear z0_0 z0_1 z0_2 z0_3 z0_4 z0_5 z0_6 z0_7 z0_8 z0_9 z0_10 z0_11 z1_0 z1_1 z1_2 z1_3 z1_4 z1_5 z1_6 z1_7 z1_8 z2_0 z2_1 z2_2 z2_3 z2_4 z2_5 z2_6 z2_7 z2_8 z2_9 z2_10 z2_11
 refine (toBoard_any b0 s0 _ (H0.out.below HB.out) (by omega) (by omega) (by omega)).mono ?_
 rintro e w4 ⟨tx0,rfl,ox0,bw4⟩
 have sz4:=bw4.size
 replace rs0:=Lib.hid (rs0.out.below bw4)
 replace X0:=Lib.hid (heap_tr bw4 X0.out)
 replace X1:=Lib.hid (heap_tr bw4 X1.out)
 replace Ys0:=Lib.hid (heap_tr bw4 Ys0.out)
 replace HB:=Lib.hid (below_tr HB.out bw4)
 replace ox0:=Lib.hid ox0
 clear bw4
 have hn_tx0:tx0.n2≤1048576:=by have e1:=ox0.out.rd.state.1;have e2:=H0.out.state.1;omega
 replace rs0:=Lib.hid (rs0.out.below (below_new (Below.refl _ _) (.cells (bdArr b0 tx0) 31)))
 replace ox0:=Lib.hid (ox0.out.below (below_new (Below.refl _ _) (.cells (bdArr b0 tx0) 31)))
 replace X0:=Lib.hid (heap_al (.cells (bdArr b0 tx0) 31) X0.out)
 replace X1:=Lib.hid (heap_al (.cells (bdArr b0 tx0) 31) X1.out)
 replace Ys0:=Lib.hid (heap_al (.cells (bdArr b0 tx0) 31) Ys0.out)
 have Yx0:=Lib.hid (heap_new w4 (.cells (bdArr b0 tx0) 31))
 replace HB:=Lib.hid (below_new HB.out (.cells (bdArr b0 tx0) 31))
 obtain ⟨z0_0,z0_1,z0_2,z0_3,z0_4,z0_5,z0_6,z0_7,z0_8,z0_9,z0_10,z0_11⟩:=cells12 X0.out
 obtain ⟨z1_0,z1_1,z1_2,z1_3,z1_4,z1_5,z1_6,z1_7,z1_8⟩:=cells9 X1.out
 obtain ⟨z2_0,z2_1,z2_2,z2_3,z2_4,z2_5,z2_6,z2_7,z2_8,z2_9,z2_10,z2_11⟩:=cells12 Ys0.out
 obtain ⟨z3_0,z3_1,z3_2,z3_3,z3_4,z3_5,z3_6,z3_7,z3_8,z3_9,z3_10,z3_11⟩:=cells12 Yx0.out
 go_wp2_with fail
 clear z0_0 z0_1 z0_2 z0_3 z0_4 z0_5 z0_6 z0_7 z0_8 z0_9 z0_10 z0_11 z1_0 z1_1 z1_2 z1_3 z1_4 z1_5 z1_6 z1_7 z1_8 z2_0 z2_1 z2_2 z2_3 z2_4 z2_5 z2_6 z2_7 z2_8 z2_9 z2_10 z2_11 z3_0 z3_1 z3_2 z3_3 z3_4 z3_5 z3_6 z3_7 z3_8 z3_9 z3_10 z3_11
 refine (toAct_any x1 A1 n1 c1 _ (H1.out.below HB.out) (by omega)).mono ?_
 rintro e w5 ⟨Bx1,rfl,ox1,bw5⟩
 have sz5:=bw5.size
 simp only [World.size_alloc] at sz5
 replace rs0:=Lib.hid (rs0.out.below bw5)
 replace ox0:=Lib.hid (ox0.out.below bw5)
 replace X0:=Lib.hid (heap_tr bw5 X0.out)
 replace X1:=Lib.hid (heap_tr bw5 X1.out)
 replace Ys0:=Lib.hid (heap_tr bw5 Ys0.out)
 replace Yx0:=Lib.hid (heap_tr bw5 Yx0.out)
 replace HB:=Lib.hid (below_tr HB.out bw5)
 simp only [World.size_alloc] at ox1
 have l_ox1:=ox1.lies
 replace ox1:=Lib.hid ox1
 clear bw5
 replace rs0:=Lib.hid (rs0.out.below (below_new (Below.refl _ _) (.cells (acArr x1 Bx1 n1 n1) 66)))
 replace ox0:=Lib.hid (ox0.out.below (below_new (Below.refl _ _) (.cells (acArr x1 Bx1 n1 n1) 66)))
 replace ox1:=Lib.hid (ox1.out.below (below_new (Below.refl _ _) (.cells (acArr x1 Bx1 n1 n1) 66)))
 replace X0:=Lib.hid (heap_al (.cells (acArr x1 Bx1 n1 n1) 66) X0.out)
 replace X1:=Lib.hid (heap_al (.cells (acArr x1 Bx1 n1 n1) 66) X1.out)
 replace Ys0:=Lib.hid (heap_al (.cells (acArr x1 Bx1 n1 n1) 66) Ys0.out)
 replace Yx0:=Lib.hid (heap_al (.cells (acArr x1 Bx1 n1 n1) 66) Yx0.out)
 have Yx1:=Lib.hid (heap_new w5 (.cells (acArr x1 Bx1 n1 n1) 66))
 replace HB:=Lib.hid (below_new HB.out (.cells (acArr x1 Bx1 n1 n1) 66))
 obtain ⟨z0_0,z0_1,z0_2,z0_3,z0_4,z0_5,z0_6,z0_7,z0_8,z0_9,z0_10,z0_11⟩:=cells12 X0.out
 obtain ⟨z1_0,z1_1,z1_2,z1_3,z1_4,z1_5,z1_6,z1_7,z1_8⟩:=cells9 X1.out
 obtain ⟨z2_0,z2_1,z2_2,z2_3,z2_4,z2_5,z2_6,z2_7,z2_8,z2_9,z2_10,z2_11⟩:=cells12 Ys0.out
 obtain ⟨z3_0,z3_1,z3_2,z3_3,z3_4,z3_5,z3_6,z3_7,z3_8,z3_9,z3_10,z3_11⟩:=cells12 Yx0.out
 obtain ⟨z4_0,z4_1,z4_2,z4_3,z4_4,z4_5,z4_6,z4_7,z4_8⟩:=cells9 Yx1.out
 go_wp2_with fail
 clear z0_0 z0_1 z0_2 z0_3 z0_4 z0_5 z0_6 z0_7 z0_8 z0_9 z0_10 z0_11 z1_0 z1_1 z1_2 z1_3 z1_4 z1_5 z1_6 z1_7 z1_8 z2_0 z2_1 z2_2 z2_3 z2_4 z2_5 z2_6 z2_7 z2_8 z2_9 z2_10 z2_11 z3_0 z3_1 z3_2 z3_3 z3_4 z3_5 z3_6 z3_7 z3_8 z3_9 z3_10 z3_11 z4_0 z4_1 z4_2 z4_3 z4_4 z4_5 z4_6 z4_7 z4_8
 refine (doAct_any b0 tx0 x1 Bx1 n1 n1 _ ox0.out.rd ox1.out.rd (by omega) (by omega) (by omega) (by omega)).mono ?_
 rintro e w6 ⟨Rg0,rfl,rg0,bw6⟩
 have sz6:=bw6.size
 simp only [World.size_alloc] at sz6
 replace rs0:=Lib.hid (rs0.out.below bw6)
 replace ox0:=Lib.hid (ox0.out.below bw6)
 replace ox1:=Lib.hid (ox1.out.below bw6)
 replace X0:=Lib.hid (heap_tr bw6 X0.out)
 replace X1:=Lib.hid (heap_tr bw6 X1.out)
 replace Ys0:=Lib.hid (heap_tr bw6 Ys0.out)
 replace Yx0:=Lib.hid (heap_tr bw6 Yx0.out)
 replace Yx1:=Lib.hid (heap_tr bw6 Yx1.out)
 replace HB:=Lib.hid (below_tr HB.out bw6)
 simp only [World.size_alloc] at rg0
 replace rg0:=Lib.hid rg0
 clear bw6
 replace rs0:=Lib.hid (rs0.out.below (below_new (Below.refl _ _) (.cells (bdArr (daB b0 x1) Rg0) 31)))
 replace ox0:=Lib.hid (ox0.out.below (below_new (Below.refl _ _) (.cells (bdArr (daB b0 x1) Rg0) 31)))
 replace ox1:=Lib.hid (ox1.out.below (below_new (Below.refl _ _) (.cells (bdArr (daB b0 x1) Rg0) 31)))
 replace rg0:=Lib.hid (rg0.out.below (below_new (Below.refl _ _) (.cells (bdArr (daB b0 x1) Rg0) 31)))
 replace X0:=Lib.hid (heap_al (.cells (bdArr (daB b0 x1) Rg0) 31) X0.out)
 replace X1:=Lib.hid (heap_al (.cells (bdArr (daB b0 x1) Rg0) 31) X1.out)
 replace Ys0:=Lib.hid (heap_al (.cells (bdArr (daB b0 x1) Rg0) 31) Ys0.out)
 replace Yx0:=Lib.hid (heap_al (.cells (bdArr (daB b0 x1) Rg0) 31) Yx0.out)
 replace Yx1:=Lib.hid (heap_al (.cells (bdArr (daB b0 x1) Rg0) 31) Yx1.out)
 have Yg0:=Lib.hid (heap_new w6 (.cells (bdArr (daB b0 x1) Rg0) 31))
 replace HB:=Lib.hid (below_new HB.out (.cells (bdArr (daB b0 x1) Rg0) 31))
 obtain ⟨z0_0,z0_1,z0_2,z0_3,z0_4,z0_5,z0_6,z0_7,z0_8,z0_9,z0_10,z0_11⟩:=cells12 X0.out
 obtain ⟨z1_0,z1_1,z1_2,z1_3,z1_4,z1_5,z1_6,z1_7,z1_8⟩:=cells9 X1.out
 obtain ⟨z2_0,z2_1,z2_2,z2_3,z2_4,z2_5,z2_6,z2_7,z2_8,z2_9,z2_10,z2_11⟩:=cells12 Ys0.out
 obtain ⟨z3_0,z3_1,z3_2,z3_3,z3_4,z3_5,z3_6,z3_7,z3_8,z3_9,z3_10,z3_11⟩:=cells12 Yx0.out
 obtain ⟨z4_0,z4_1,z4_2,z4_3,z4_4,z4_5,z4_6,z4_7,z4_8⟩:=cells9 Yx1.out
 obtain ⟨z5_0,z5_1,z5_2,z5_3,z5_4,z5_5,z5_6,z5_7,z5_8,z5_9,z5_10,z5_11⟩:=cells12 Yg0.out
 go_wp2_with fail
 clear z0_0 z0_1 z0_2 z0_3 z0_4 z0_5 z0_6 z0_7 z0_8 z0_9 z0_10 z0_11 z1_0 z1_1 z1_2 z1_3 z1_4 z1_5 z1_6 z1_7 z1_8 z2_0 z2_1 z2_2 z2_3 z2_4 z2_5 z2_6 z2_7 z2_8 z2_9 z2_10 z2_11 z3_0 z3_1 z3_2 z3_3 z3_4 z3_5 z3_6 z3_7 z3_8 z3_9 z3_10 z3_11 z4_0 z4_1 z4_2 z4_3 z4_4 z4_5 z4_6 z4_7 z4_8 z5_0 z5_1 z5_2 z5_3 z5_4 z5_5 z5_6 z5_7 z5_8 z5_9 z5_10 z5_11
 refine (eqBoard_same _ Rg0 Rs0 _ rg0.out.rd rs0.out.rd resle0.out).mono ?_
 rintro e w7 ⟨rfl,bw7⟩
 have sz7:=bw7.size
 simp only [World.size_alloc] at sz7
 replace rs0:=Lib.hid (rs0.out.below bw7)
 replace ox0:=Lib.hid (ox0.out.below bw7)
 replace ox1:=Lib.hid (ox1.out.below bw7)
 replace rg0:=Lib.hid (rg0.out.below bw7)
 replace X0:=Lib.hid (heap_tr bw7 X0.out)
 replace X1:=Lib.hid (heap_tr bw7 X1.out)
 replace Ys0:=Lib.hid (heap_tr bw7 Ys0.out)
 replace Yx0:=Lib.hid (heap_tr bw7 Yx0.out)
 replace Yx1:=Lib.hid (heap_tr bw7 Yx1.out)
 replace Yg0:=Lib.hid (heap_tr bw7 Yg0.out)
 replace HB:=Lib.hid (below_tr HB.out bw7)
 clear bw7
 obtain ⟨z0_0,z0_1,z0_2,z0_3,z0_4,z0_5,z0_6,z0_7,z0_8,z0_9,z0_10,z0_11⟩:=cells12 X0.out
 obtain ⟨z1_0,z1_1,z1_2,z1_3,z1_4,z1_5,z1_6,z1_7,z1_8⟩:=cells9 X1.out
 obtain ⟨z2_0,z2_1,z2_2,z2_3,z2_4,z2_5,z2_6,z2_7,z2_8,z2_9,z2_10,z2_11⟩:=cells12 Ys0.out
 obtain ⟨z3_0,z3_1,z3_2,z3_3,z3_4,z3_5,z3_6,z3_7,z3_8,z3_9,z3_10,z3_11⟩:=cells12 Yx0.out
 obtain ⟨z4_0,z4_1,z4_2,z4_3,z4_4,z4_5,z4_6,z4_7,z4_8⟩:=cells9 Yx1.out
 obtain ⟨z5_0,z5_1,z5_2,z5_3,z5_4,z5_5,z5_6,z5_7,z5_8,z5_9,z5_10,z5_11⟩:=cells12 Yg0.out
 go_wp2_with fail
 have hD:=(Below.refl w7.heap.size w7).drew
 have hl_X0:=heap_lt0 X0.out
 have hl_X1:=heap_lt0 X1.out
 have hl_Ys0:=heap_lt0 Ys0.out
 have hl_Yx0:=heap_lt0 Yx0.out
 have hl_Yx1:=heap_lt0 Yx1.out
 have hl_Yg0:=heap_lt0 Yg0.out
 go_region_held3 (fun w'=>Below w7.heap.size w7 w'∧∀b o,b<w7.heap.size→w'.cell? ⟨b,o,none⟩=w7.cell? ⟨b,o,none⟩)
  (first|exact ⟨hD,(bcell hD).1⟩)
  (first
   | (go_at_call 33;refine (toBoard_any b0 s0 _ (H0.out.below (below_tr HB.out hD)) (by omega) (by omega) (by omega)).mono ?_;rintro e w8 ⟨ty00,rfl,oy00,bw8⟩;have sz8:=bw8.size;have sy8:w7.heap.size≤w8.heap.size:=bw8.size;replace hD:=below_tr hD bw8;replace oy00:=Lib.hid oy00;clear bw8;have hn_ty00:ty00.n2≤1048576:=by have e1:=oy00.out.rd.state.1;have e2:=H0.out.state.1;omega)
   | (go_at_call 36;refine (eqBoard_same b0 tx0 ty00 _ (ox0.out.rd.below hD) oy00.out.rd HBD0.out).mono ?_;rintro e w9 ⟨rfl,bw9⟩;have sz9:=bw9.size;have sy9:w8.heap.size≤w9.heap.size:=bw9.size;replace oy00:=Lib.hid (oy00.out.below bw9);replace hD:=below_tr hD bw9;clear bw9))
 clear z0_0 z0_1 z0_2 z0_3 z0_4 z0_5 z0_6 z0_7 z0_8 z0_9 z0_10 z0_11 z1_0 z1_1 z1_2 z1_3 z1_4 z1_5 z1_6 z1_7 z1_8 z2_0 z2_1 z2_2 z2_3 z2_4 z2_5 z2_6 z2_7 z2_8 z2_9 z2_10 z2_11 z3_0 z3_1 z3_2 z3_3 z3_4 z3_5 z3_6 z3_7 z3_8 z3_9 z3_10 z3_11 z4_0 z4_1 z4_2 z4_3 z4_4 z4_5 z4_6 z4_7 z4_8 z5_0 z5_1 z5_2 z5_3 z5_4 z5_5 z5_6 z5_7 z5_8 z5_9 z5_10 z5_11
 clear hl_X0 hl_X1 hl_Ys0 hl_Yx0 hl_Yx1 hl_Yg0
 have sda9:w7.drew.heap.size≤w7.heap.size:=Nat.le_refl _
 have sdb9:w7.heap.size≤w7.drew.heap.size:=Nat.le_refl _
 replace rs0:=Lib.hid (rs0.out.below hD)
 replace ox0:=Lib.hid (ox0.out.below hD)
 replace ox1:=Lib.hid (ox1.out.below hD)
 replace rg0:=Lib.hid (rg0.out.below hD)
 replace X0:=Lib.hid (heap_tr hD X0.out)
 replace X1:=Lib.hid (heap_tr hD X1.out)
 replace Ys0:=Lib.hid (heap_tr hD Ys0.out)
 replace Yx0:=Lib.hid (heap_tr hD Yx0.out)
 replace Yx1:=Lib.hid (heap_tr hD Yx1.out)
 replace Yg0:=Lib.hid (heap_tr hD Yg0.out)
 replace HB:=Lib.hid (below_tr HB.out hD)
 clear hD
 obtain ⟨z0_0,z0_1,z0_2,z0_3,z0_4,z0_5,z0_6,z0_7,z0_8,z0_9,z0_10,z0_11⟩:=cells12 X0.out
 obtain ⟨z1_0,z1_1,z1_2,z1_3,z1_4,z1_5,z1_6,z1_7,z1_8⟩:=cells9 X1.out
 obtain ⟨z2_0,z2_1,z2_2,z2_3,z2_4,z2_5,z2_6,z2_7,z2_8,z2_9,z2_10,z2_11⟩:=cells12 Ys0.out
 obtain ⟨z3_0,z3_1,z3_2,z3_3,z3_4,z3_5,z3_6,z3_7,z3_8,z3_9,z3_10,z3_11⟩:=cells12 Yx0.out
 obtain ⟨z4_0,z4_1,z4_2,z4_3,z4_4,z4_5,z4_6,z4_7,z4_8⟩:=cells9 Yx1.out
 obtain ⟨z5_0,z5_1,z5_2,z5_3,z5_4,z5_5,z5_6,z5_7,z5_8,z5_9,z5_10,z5_11⟩:=cells12 Yg0.out
 go_wp2_with fail
 have hD:=(Below.refl w9.heap.size w9).drew
 have hl_X0:=heap_lt0 X0.out
 have hl_X1:=heap_lt0 X1.out
 have hl_Ys0:=heap_lt0 Ys0.out
 have hl_Yx0:=heap_lt0 Yx0.out
 have hl_Yx1:=heap_lt0 Yx1.out
 have hl_Yg0:=heap_lt0 Yg0.out
 go_region_held3 (fun w'=>Below w9.heap.size w9 w'∧∀b o,b<w9.heap.size→w'.cell? ⟨b,o,none⟩=w9.cell? ⟨b,o,none⟩)
  (first|exact ⟨hD,(bcell hD).1⟩)
  (first
   | (go_at_call 34;refine (toAct_any x1 A1 n1 c1 _ (H1.out.below (below_tr HB.out hD)) (by omega)).mono ?_;rintro e w10 ⟨By11,rfl,oy11,bw10⟩;have sz10:=bw10.size;have sy10:w9.heap.size≤w10.heap.size:=bw10.size;replace hD:=below_tr hD bw10;have l_oy11:=oy11.lies;replace oy11:=Lib.hid oy11;clear bw10)
   | (go_at_call 37;refine (eqAct_same x1 Bx1 By11 n1 n1 n1 n1 _ (ox1.out.rd.below hD) oy11.out.rd (by omega)).mono ?_;rintro e w11 ⟨rfl,bw11⟩;have sz11:=bw11.size;have sy11:w10.heap.size≤w11.heap.size:=bw11.size;replace oy11:=Lib.hid (oy11.out.below bw11);replace hD:=below_tr hD bw11;clear bw11))
 clear z0_0 z0_1 z0_2 z0_3 z0_4 z0_5 z0_6 z0_7 z0_8 z0_9 z0_10 z0_11 z1_0 z1_1 z1_2 z1_3 z1_4 z1_5 z1_6 z1_7 z1_8 z2_0 z2_1 z2_2 z2_3 z2_4 z2_5 z2_6 z2_7 z2_8 z2_9 z2_10 z2_11 z3_0 z3_1 z3_2 z3_3 z3_4 z3_5 z3_6 z3_7 z3_8 z3_9 z3_10 z3_11 z4_0 z4_1 z4_2 z4_3 z4_4 z4_5 z4_6 z4_7 z4_8 z5_0 z5_1 z5_2 z5_3 z5_4 z5_5 z5_6 z5_7 z5_8 z5_9 z5_10 z5_11
 clear hl_X0 hl_X1 hl_Ys0 hl_Yx0 hl_Yx1 hl_Yg0
 have sda11:w9.drew.heap.size≤w9.heap.size:=Nat.le_refl _
 have sdb11:w9.heap.size≤w9.drew.heap.size:=Nat.le_refl _
 replace rs0:=Lib.hid (rs0.out.below hD)
 replace ox0:=Lib.hid (ox0.out.below hD)
 replace ox1:=Lib.hid (ox1.out.below hD)
 replace rg0:=Lib.hid (rg0.out.below hD)
 replace oy00:=Lib.hid (oy00.out.below hD)
 replace X0:=Lib.hid (heap_tr hD X0.out)
 replace X1:=Lib.hid (heap_tr hD X1.out)
 replace Ys0:=Lib.hid (heap_tr hD Ys0.out)
 replace Yx0:=Lib.hid (heap_tr hD Yx0.out)
 replace Yx1:=Lib.hid (heap_tr hD Yx1.out)
 replace Yg0:=Lib.hid (heap_tr hD Yg0.out)
 replace HB:=Lib.hid (below_tr HB.out hD)
 clear hD
 have bz0:bdN b0≤2097152:=by have e2:=H0.out.state.1;unfold bdN;unfold size2 at hz0;omega
 obtain ⟨z0_0,z0_1,z0_2,z0_3,z0_4,z0_5,z0_6,z0_7,z0_8,z0_9,z0_10,z0_11⟩:=cells12 X0.out
 obtain ⟨z1_0,z1_1,z1_2,z1_3,z1_4,z1_5,z1_6,z1_7,z1_8⟩:=cells9 X1.out
 obtain ⟨z2_0,z2_1,z2_2,z2_3,z2_4,z2_5,z2_6,z2_7,z2_8,z2_9,z2_10,z2_11⟩:=cells12 Ys0.out
 obtain ⟨z3_0,z3_1,z3_2,z3_3,z3_4,z3_5,z3_6,z3_7,z3_8,z3_9,z3_10,z3_11⟩:=cells12 Yx0.out
 obtain ⟨z4_0,z4_1,z4_2,z4_3,z4_4,z4_5,z4_6,z4_7,z4_8⟩:=cells9 Yx1.out
 obtain ⟨z5_0,z5_1,z5_2,z5_3,z5_4,z5_5,z5_6,z5_7,z5_8,z5_9,z5_10,z5_11⟩:=cells12 Yg0.out
 go_wp2_with fail
 clear z0_0 z0_1 z0_2 z0_3 z0_4 z0_5 z0_6 z0_7 z0_8 z0_9 z0_10 z0_11 z1_0 z1_1 z1_2 z1_3 z1_4 z1_5 z1_6 z1_7 z1_8 z2_0 z2_1 z2_2 z2_3 z2_4 z2_5 z2_6 z2_7 z2_8 z2_9 z2_10 z2_11 z3_0 z3_1 z3_2 z3_3 z3_4 z3_5 z3_6 z3_7 z3_8 z3_9 z3_10 z3_11 z4_0 z4_1 z4_2 z4_3 z4_4 z4_5 z4_6 z4_7 z4_8 z5_0 z5_1 z5_2 z5_3 z5_4 z5_5 z5_6 z5_7 z5_8 z5_9 z5_10 z5_11
 refine (markBoard_chg _ _ b0 tx0 1 _ ox0.out (by omega) ⟨by omega,by have e2:=H0.out.state.1;omega,by omega⟩ (by omega) (by omega) (by omega)).mono ?_
 rintro e w12 ⟨rfl,omox0,gw12⟩
 have sz12:=gw12.size
 replace rs0:=Lib.hid (rs0.out.chg gw12 (by omega))
 replace ox1:=Lib.hid (ox1.out.chg gw12 l_ox1 (by omega))
 replace rg0:=Lib.hid (rg0.out.chg gw12 (by omega))
 replace oy00:=Lib.hid (oy00.out.chg gw12 (by omega))
 replace oy11:=Lib.hid (oy11.out.chg gw12 l_oy11 (by omega))
 replace X0:=Lib.hid ((gw12.block _ (heap_lt0 X0.out) (by omega)).trans X0.out)
 replace X1:=Lib.hid ((gw12.block _ (heap_lt0 X1.out) (by omega)).trans X1.out)
 replace Ys0:=Lib.hid ((gw12.block _ (heap_lt0 Ys0.out) (by omega)).trans Ys0.out)
 replace Yx0:=Lib.hid ((gw12.block _ (heap_lt0 Yx0.out) (by omega)).trans Yx0.out)
 replace Yx1:=Lib.hid ((gw12.block _ (heap_lt0 Yx1.out) (by omega)).trans Yx1.out)
 replace Yg0:=Lib.hid ((gw12.block _ (heap_lt0 Yg0.out) (by omega)).trans Yg0.out)
 replace HB:=Lib.hid (below_chg HB.out gw12 (by omega))
 clear ox0 gw12
 replace omox0:=Lib.hid omox0
 obtain ⟨z0_0,z0_1,z0_2,z0_3,z0_4,z0_5,z0_6,z0_7,z0_8,z0_9,z0_10,z0_11⟩:=cells12 X0.out
 obtain ⟨z1_0,z1_1,z1_2,z1_3,z1_4,z1_5,z1_6,z1_7,z1_8⟩:=cells9 X1.out
 obtain ⟨z2_0,z2_1,z2_2,z2_3,z2_4,z2_5,z2_6,z2_7,z2_8,z2_9,z2_10,z2_11⟩:=cells12 Ys0.out
 obtain ⟨z3_0,z3_1,z3_2,z3_3,z3_4,z3_5,z3_6,z3_7,z3_8,z3_9,z3_10,z3_11⟩:=cells12 Yx0.out
 obtain ⟨z4_0,z4_1,z4_2,z4_3,z4_4,z4_5,z4_6,z4_7,z4_8⟩:=cells9 Yx1.out
 obtain ⟨z5_0,z5_1,z5_2,z5_3,z5_4,z5_5,z5_6,z5_7,z5_8,z5_9,z5_10,z5_11⟩:=cells12 Yg0.out
 go_wp2_with fail
 clear z0_0 z0_1 z0_2 z0_3 z0_4 z0_5 z0_6 z0_7 z0_8 z0_9 z0_10 z0_11 z1_0 z1_1 z1_2 z1_3 z1_4 z1_5 z1_6 z1_7 z1_8 z2_0 z2_1 z2_2 z2_3 z2_4 z2_5 z2_6 z2_7 z2_8 z2_9 z2_10 z2_11 z3_0 z3_1 z3_2 z3_3 z3_4 z3_5 z3_6 z3_7 z3_8 z3_9 z3_10 z3_11 z4_0 z4_1 z4_2 z4_3 z4_4 z4_5 z4_6 z4_7 z4_8 z5_0 z5_1 z5_2 z5_3 z5_4 z5_5 z5_6 z5_7 z5_8 z5_9 z5_10 z5_11
 refine (markAct_chg _ _ _ x1 Bx1 n1 n1 _ _ ox1.out l_ox1 (by omega) (by omega) (by omega)).mono ?_
 rintro e w13 ⟨rfl,omox1,gw13⟩
 have sz13:=gw13.size
 replace rs0:=Lib.hid (rs0.out.chg gw13 (by omega))
 replace rg0:=Lib.hid (rg0.out.chg gw13 (by omega))
 replace oy00:=Lib.hid (oy00.out.chg gw13 (by omega))
 replace oy11:=Lib.hid (oy11.out.chg gw13 l_oy11 (by omega))
 replace omox0:=Lib.hid (omox0.out.chg gw13 (by omega))
 replace X0:=Lib.hid ((gw13.block _ (heap_lt0 X0.out) (by omega)).trans X0.out)
 replace X1:=Lib.hid ((gw13.block _ (heap_lt0 X1.out) (by omega)).trans X1.out)
 replace Ys0:=Lib.hid ((gw13.block _ (heap_lt0 Ys0.out) (by omega)).trans Ys0.out)
 replace Yx0:=Lib.hid ((gw13.block _ (heap_lt0 Yx0.out) (by omega)).trans Yx0.out)
 replace Yx1:=Lib.hid ((gw13.block _ (heap_lt0 Yx1.out) (by omega)).trans Yx1.out)
 replace Yg0:=Lib.hid ((gw13.block _ (heap_lt0 Yg0.out) (by omega)).trans Yg0.out)
 replace HB:=Lib.hid (below_chg HB.out gw13 (by omega))
 clear ox1 gw13
 replace omox1:=Lib.hid omox1
 obtain ⟨z0_0,z0_1,z0_2,z0_3,z0_4,z0_5,z0_6,z0_7,z0_8,z0_9,z0_10,z0_11⟩:=cells12 X0.out
 obtain ⟨z1_0,z1_1,z1_2,z1_3,z1_4,z1_5,z1_6,z1_7,z1_8⟩:=cells9 X1.out
 obtain ⟨z2_0,z2_1,z2_2,z2_3,z2_4,z2_5,z2_6,z2_7,z2_8,z2_9,z2_10,z2_11⟩:=cells12 Ys0.out
 obtain ⟨z3_0,z3_1,z3_2,z3_3,z3_4,z3_5,z3_6,z3_7,z3_8,z3_9,z3_10,z3_11⟩:=cells12 Yx0.out
 obtain ⟨z4_0,z4_1,z4_2,z4_3,z4_4,z4_5,z4_6,z4_7,z4_8⟩:=cells9 Yx1.out
 obtain ⟨z5_0,z5_1,z5_2,z5_3,z5_4,z5_5,z5_6,z5_7,z5_8,z5_9,z5_10,z5_11⟩:=cells12 Yg0.out
 go_wp2_with fail
 clear z0_0 z0_1 z0_2 z0_3 z0_4 z0_5 z0_6 z0_7 z0_8 z0_9 z0_10 z0_11 z1_0 z1_1 z1_2 z1_3 z1_4 z1_5 z1_6 z1_7 z1_8 z2_0 z2_1 z2_2 z2_3 z2_4 z2_5 z2_6 z2_7 z2_8 z2_9 z2_10 z2_11 z3_0 z3_1 z3_2 z3_3 z3_4 z3_5 z3_6 z3_7 z3_8 z3_9 z3_10 z3_11 z4_0 z4_1 z4_2 z4_3 z4_4 z4_5 z4_6 z4_7 z4_8 z5_0 z5_1 z5_2 z5_3 z5_4 z5_5 z5_6 z5_7 z5_8 z5_9 z5_10 z5_11
 refine (eqBoard_same _ Rg0 Rs0 _ rg0.out.rd rs0.out.rd resle0.out).mono ?_
 rintro e w14 ⟨rfl,bw14⟩
 have sz14:=bw14.size
 replace rs0:=Lib.hid (rs0.out.below bw14)
 replace rg0:=Lib.hid (rg0.out.below bw14)
 replace oy00:=Lib.hid (oy00.out.below bw14)
 replace oy11:=Lib.hid (oy11.out.below bw14)
 replace omox0:=Lib.hid (omox0.out.below bw14)
 replace omox1:=Lib.hid (omox1.out.below bw14)
 replace X0:=Lib.hid (heap_tr bw14 X0.out)
 replace X1:=Lib.hid (heap_tr bw14 X1.out)
 replace Ys0:=Lib.hid (heap_tr bw14 Ys0.out)
 replace Yx0:=Lib.hid (heap_tr bw14 Yx0.out)
 replace Yx1:=Lib.hid (heap_tr bw14 Yx1.out)
 replace Yg0:=Lib.hid (heap_tr bw14 Yg0.out)
 replace HB:=Lib.hid (below_tr HB.out bw14)
 clear bw14
 obtain ⟨z0_0,z0_1,z0_2,z0_3,z0_4,z0_5,z0_6,z0_7,z0_8,z0_9,z0_10,z0_11⟩:=cells12 X0.out
 obtain ⟨z1_0,z1_1,z1_2,z1_3,z1_4,z1_5,z1_6,z1_7,z1_8⟩:=cells9 X1.out
 obtain ⟨z2_0,z2_1,z2_2,z2_3,z2_4,z2_5,z2_6,z2_7,z2_8,z2_9,z2_10,z2_11⟩:=cells12 Ys0.out
 obtain ⟨z3_0,z3_1,z3_2,z3_3,z3_4,z3_5,z3_6,z3_7,z3_8,z3_9,z3_10,z3_11⟩:=cells12 Yx0.out
 obtain ⟨z4_0,z4_1,z4_2,z4_3,z4_4,z4_5,z4_6,z4_7,z4_8⟩:=cells9 Yx1.out
 obtain ⟨z5_0,z5_1,z5_2,z5_3,z5_4,z5_5,z5_6,z5_7,z5_8,z5_9,z5_10,z5_11⟩:=cells12 Yg0.out
 go_wp2_with fail
 clear z0_0 z0_1 z0_2 z0_3 z0_4 z0_5 z0_6 z0_7 z0_8 z0_9 z0_10 z0_11 z1_0 z1_1 z1_2 z1_3 z1_4 z1_5 z1_6 z1_7 z1_8 z2_0 z2_1 z2_2 z2_3 z2_4 z2_5 z2_6 z2_7 z2_8 z2_9 z2_10 z2_11 z3_0 z3_1 z3_2 z3_3 z3_4 z3_5 z3_6 z3_7 z3_8 z3_9 z3_10 z3_11 z4_0 z4_1 z4_2 z4_3 z4_4 z4_5 z4_6 z4_7 z4_8 z5_0 z5_1 z5_2 z5_3 z5_4 z5_5 z5_6 z5_7 z5_8 z5_9 z5_10 z5_11
 refine (markBoard_fp _ _ _ Rg0 1 _ rg0.out (by omega) resle0.out (by omega) (by omega) (by omega)).mono ?_
 rintro e w15 ⟨rfl,omrg0,gw15⟩
 have sz15:=gw15.size
 replace rs0:=Lib.hid (rs0.out.chg gw15 (by omega))
 replace oy00:=Lib.hid (oy00.out.chg gw15 (by omega))
 replace oy11:=Lib.hid (oy11.out.chg gw15 l_oy11 (by omega))
 replace omox0:=Lib.hid (omox0.out.chg gw15 (by omega))
 replace omox1:=Lib.hid (omox1.out.chg gw15 l_ox1 (by omega))
 replace X0:=Lib.hid ((gw15.block _ (heap_lt0 X0.out) (by omega)).trans X0.out)
 replace X1:=Lib.hid ((gw15.block _ (heap_lt0 X1.out) (by omega)).trans X1.out)
 replace Ys0:=Lib.hid ((gw15.block _ (heap_lt0 Ys0.out) (by omega)).trans Ys0.out)
 replace Yx0:=Lib.hid ((gw15.block _ (heap_lt0 Yx0.out) (by omega)).trans Yx0.out)
 replace Yx1:=Lib.hid ((gw15.block _ (heap_lt0 Yx1.out) (by omega)).trans Yx1.out)
 replace Yg0:=Lib.hid ((gw15.block _ (heap_lt0 Yg0.out) (by omega)).trans Yg0.out)
 replace HB:=Lib.hid (below_chg HB.out gw15 (by omega))
 clear rg0 gw15
 replace omrg0:=Lib.hid omrg0
 obtain ⟨z0_0,z0_1,z0_2,z0_3,z0_4,z0_5,z0_6,z0_7,z0_8,z0_9,z0_10,z0_11⟩:=cells12 X0.out
 obtain ⟨z1_0,z1_1,z1_2,z1_3,z1_4,z1_5,z1_6,z1_7,z1_8⟩:=cells9 X1.out
 obtain ⟨z2_0,z2_1,z2_2,z2_3,z2_4,z2_5,z2_6,z2_7,z2_8,z2_9,z2_10,z2_11⟩:=cells12 Ys0.out
 obtain ⟨z3_0,z3_1,z3_2,z3_3,z3_4,z3_5,z3_6,z3_7,z3_8,z3_9,z3_10,z3_11⟩:=cells12 Yx0.out
 obtain ⟨z4_0,z4_1,z4_2,z4_3,z4_4,z4_5,z4_6,z4_7,z4_8⟩:=cells9 Yx1.out
 obtain ⟨z5_0,z5_1,z5_2,z5_3,z5_4,z5_5,z5_6,z5_7,z5_8,z5_9,z5_10,z5_11⟩:=cells12 Yg0.out
 go_wp2_with fail
 clear z0_0 z0_1 z0_2 z0_3 z0_4 z0_5 z0_6 z0_7 z0_8 z0_9 z0_10 z0_11 z1_0 z1_1 z1_2 z1_3 z1_4 z1_5 z1_6 z1_7 z1_8 z2_0 z2_1 z2_2 z2_3 z2_4 z2_5 z2_6 z2_7 z2_8 z2_9 z2_10 z2_11 z3_0 z3_1 z3_2 z3_3 z3_4 z3_5 z3_6 z3_7 z3_8 z3_9 z3_10 z3_11 z4_0 z4_1 z4_2 z4_3 z4_4 z4_5 z4_6 z4_7 z4_8 z5_0 z5_1 z5_2 z5_3 z5_4 z5_5 z5_6 z5_7 z5_8 z5_9 z5_10 z5_11
 refine (heldBoard_any _ Rg0 1 _ omrg0.out.rd resle0.out (by omega) (by omega) (by omega)).mono ?_
 rintro e w16 ⟨rfl,bw16⟩
 have sz16:=bw16.size
 replace rs0:=Lib.hid (rs0.out.below bw16)
 replace oy00:=Lib.hid (oy00.out.below bw16)
 replace oy11:=Lib.hid (oy11.out.below bw16)
 replace omox0:=Lib.hid (omox0.out.below bw16)
 replace omox1:=Lib.hid (omox1.out.below bw16)
 replace omrg0:=Lib.hid (omrg0.out.below bw16)
 replace X0:=Lib.hid (heap_tr bw16 X0.out)
 replace X1:=Lib.hid (heap_tr bw16 X1.out)
 replace Ys0:=Lib.hid (heap_tr bw16 Ys0.out)
 replace Yx0:=Lib.hid (heap_tr bw16 Yx0.out)
 replace Yx1:=Lib.hid (heap_tr bw16 Yx1.out)
 replace Yg0:=Lib.hid (heap_tr bw16 Yg0.out)
 replace HB:=Lib.hid (below_tr HB.out bw16)
 clear bw16
 obtain ⟨z0_0,z0_1,z0_2,z0_3,z0_4,z0_5,z0_6,z0_7,z0_8,z0_9,z0_10,z0_11⟩:=cells12 X0.out
 obtain ⟨z1_0,z1_1,z1_2,z1_3,z1_4,z1_5,z1_6,z1_7,z1_8⟩:=cells9 X1.out
 obtain ⟨z2_0,z2_1,z2_2,z2_3,z2_4,z2_5,z2_6,z2_7,z2_8,z2_9,z2_10,z2_11⟩:=cells12 Ys0.out
 obtain ⟨z3_0,z3_1,z3_2,z3_3,z3_4,z3_5,z3_6,z3_7,z3_8,z3_9,z3_10,z3_11⟩:=cells12 Yx0.out
 obtain ⟨z4_0,z4_1,z4_2,z4_3,z4_4,z4_5,z4_6,z4_7,z4_8⟩:=cells9 Yx1.out
 obtain ⟨z5_0,z5_1,z5_2,z5_3,z5_4,z5_5,z5_6,z5_7,z5_8,z5_9,z5_10,z5_11⟩:=cells12 Yg0.out
 go_wp2_with fail
 go_cut [15,16] (fun p u w'=>RunCut w16 (daB b0 x1) (.int .i64 (daN b0 x1)) p u w')
 case first =>
  have hD:=Below.refl w16.heap.size w16
  have hdr:w16.heap.size≤w16.drew.heap.size:=Nat.le_refl _
  have hl_X0:=heap_lt0 X0.out
  have hl_X1:=heap_lt0 X1.out
  have hl_Ys0:=heap_lt0 Ys0.out
  have hl_Yx0:=heap_lt0 Yx0.out
  have hl_Yx1:=heap_lt0 Yx1.out
  have hl_Yg0:=heap_lt0 Yg0.out
  go_region_held3 (fun w'=>Below w16.heap.size w16 w'∧∀b o,b<w16.heap.size→w'.cell? ⟨b,o,none⟩=w16.cell? ⟨b,o,none⟩)
   (first|with_reducible exact ⟨hD,(bcell hD).1⟩|with_reducible exact ⟨hD.drew,(bcell hD.drew).1⟩|(refine ⟨?_,(bcell ?_).1⟩ <;> (repeat (first|with_reducible exact hD|with_reducible exact hD.drew|with_reducible refine below_new ?_ _|with_reducible refine Below.drew ?_|with_reducible refine Below.setCell ?_ (by simp only;omega) _))))
   (first
    | (go_at_call 33;(refine (toBoard_any b0 s0 _ (H0.out.below (below_tr HB.out (by first|with_reducible exact hD|with_reducible exact hD.drew|with_reducible exact below_new hD _|with_reducible exact (below_new hD _).drew|with_reducible exact below_new hD.drew _|with_reducible exact (below_new hD.drew _).drew))) (by omega) (by omega) (by omega)).mono ?_);rintro e wk ⟨t0,rfl,q0,bw⟩;have hD2:=below_tr (a:=w16) (by first|with_reducible exact hD|with_reducible exact hD.drew|with_reducible exact below_new hD _|with_reducible exact (below_new hD _).drew|with_reducible exact below_new hD.drew _|with_reducible exact (below_new hD.drew _).drew) bw;(try replace hBq0:=below_tr (by first|with_reducible exact hBq0|with_reducible exact hBq0.drew|with_reducible exact below_new hBq0 _|with_reducible exact (below_new hBq0 _).drew|with_reducible exact below_new hBq0.drew _|with_reducible exact (below_new hBq0.drew _).drew) bw);(try replace hBq1:=below_tr (by first|with_reducible exact hBq1|with_reducible exact hBq1.drew|with_reducible exact below_new hBq1 _|with_reducible exact (below_new hBq1 _).drew|with_reducible exact below_new hBq1.drew _|with_reducible exact (below_new hBq1.drew _).drew) bw);have hb0:=Lib.hid bw;have hBq0:=Below.refl wk.heap.size wk;have hnq0:t0.n2≤1048576:=(by have e1:=q0.rd.state.1;have e2:=H0.out.state.1;omega);have Q0q:=Lib.hid q0.rd;clear q0;have hsz:=hD2.size;have hsz2:=bw.size;(try simp only [World.size_drew] at hsz2);(try simp only [World.size_alloc] at hsz2);(try have hlt2:=Nat.lt_of_lt_of_le hlt2 hsz2);(try have hlt2:=Nat.lt_of_succ_le hsz2);obtain ⟨hcc,hff⟩:=bcell bw;clear bw;replace hD:=hD2)
    | (go_at_call 34;(refine (toAct_any x1 A1 n1 c1 _ (H1.out.below (below_tr HB.out (by first|with_reducible exact hD|with_reducible exact hD.drew|with_reducible exact below_new hD _|with_reducible exact (below_new hD _).drew|with_reducible exact below_new hD.drew _|with_reducible exact (below_new hD.drew _).drew))) (by omega)).mono ?_);rintro e wk ⟨t1,rfl,q1,bw⟩;have hD2:=below_tr (a:=w16) (by first|with_reducible exact hD|with_reducible exact hD.drew|with_reducible exact below_new hD _|with_reducible exact (below_new hD _).drew|with_reducible exact below_new hD.drew _|with_reducible exact (below_new hD.drew _).drew) bw;(try replace hBq0:=below_tr (by first|with_reducible exact hBq0|with_reducible exact hBq0.drew|with_reducible exact below_new hBq0 _|with_reducible exact (below_new hBq0 _).drew|with_reducible exact below_new hBq0.drew _|with_reducible exact (below_new hBq0.drew _).drew) bw);(try replace hBq1:=below_tr (by first|with_reducible exact hBq1|with_reducible exact hBq1.drew|with_reducible exact below_new hBq1 _|with_reducible exact (below_new hBq1 _).drew|with_reducible exact below_new hBq1.drew _|with_reducible exact (below_new hBq1.drew _).drew) bw);have hb1:=Lib.hid bw;have hBq1:=Below.refl wk.heap.size wk;have Q1q:=Lib.hid q1.ints;clear q1;have hsz:=hD2.size;have hsz2:=bw.size;(try simp only [World.size_drew] at hsz2);(try simp only [World.size_alloc] at hsz2);(try have hlt2:=Nat.lt_of_lt_of_le hlt2 hsz2);(try have hlt2:=Nat.lt_of_succ_le hsz2);obtain ⟨hcc,hff⟩:=bcell bw;clear bw;replace hD:=hD2)
    | (go_at_call 35;(with_reducible refine (doAct_any b0 t0 x1 t1 n1 n1 _ (Q0q.out.below (by first|with_reducible exact hBq0|with_reducible exact hBq0.drew|with_reducible exact below_new hBq0 _|with_reducible exact (below_new hBq0 _).drew|with_reducible exact below_new hBq0.drew _|with_reducible exact (below_new hBq0.drew _).drew)) (Q1q.out.below (by first|with_reducible exact hBq1|with_reducible exact hBq1.drew|with_reducible exact below_new hBq1 _|with_reducible exact (below_new hBq1 _).drew|with_reducible exact below_new hBq1.drew _|with_reducible exact (below_new hBq1.drew _).drew)) (by omega) (by omega) (by omega) (by omega)).mono ?_);rintro e wk ⟨R,rfl,f,bw⟩;have hD2:=below_tr (a:=w16) (by first|with_reducible exact hD|with_reducible exact hD.drew|with_reducible exact below_new hD _|with_reducible exact (below_new hD _).drew|with_reducible exact below_new hD.drew _|with_reducible exact (below_new hD.drew _).drew) bw;(try replace hBq0:=below_tr (by first|with_reducible exact hBq0|with_reducible exact hBq0.drew|with_reducible exact below_new hBq0 _|with_reducible exact (below_new hBq0 _).drew|with_reducible exact below_new hBq0.drew _|with_reducible exact (below_new hBq0.drew _).drew) bw);(try replace hBq1:=below_tr (by first|with_reducible exact hBq1|with_reducible exact hBq1.drew|with_reducible exact below_new hBq1 _|with_reducible exact (below_new hBq1 _).drew|with_reducible exact below_new hBq1.drew _|with_reducible exact (below_new hBq1.drew _).drew) bw);have HFK:=Lib.hid f;have HBK:=Lib.hid bw;have hsf:wk.heap.size≤wk.heap.size:=Nat.le_refl _;clear f;have hsz:=hD2.size;have hsz2:=bw.size;(try simp only [World.size_drew] at hsz2);(try simp only [World.size_alloc] at hsz2);(try have hlt2:=Nat.lt_of_lt_of_le hlt2 hsz2);(try have hlt2:=Nat.lt_of_succ_le hsz2);obtain ⟨hcc,hff⟩:=bcell bw;clear bw;replace hD:=hD2))
  all_goals
   go_wp2_with fail
   go_meet
   try simp only [cut_drew_set,cut_drew_alloc]
   first|((with_reducible refine (cutA hD HFK.out ?_ ?_)) <;> first|omega|(simp;omega))|((with_reducible refine RunCut.drew (cutA hD HFK.out ?_ ?_)) <;> first|omega|(simp;omega))|((with_reducible refine RunCut.drews (cutA hD HFK.out ?_ ?_)) <;> first|omega|(simp;omega))|((with_reducible refine (cutB (b0:=zBd) (R0:=zSl) ?_ HBK.out HFK.out hD ?_ ?_ ?_)) <;> first|omega|(simp;omega)|exact heap_new _ _|exact heap_tr hb0.out (heap_new _ _)|exact heap_tr hb1.out (heap_new _ _)|exact heap_tr hb0.out (heap_tr hb1.out (heap_new _ _))|exact heap_tr hb1.out (heap_tr hb0.out (heap_new _ _)))|((with_reducible refine RunCut.drew (cutB (b0:=zBd) (R0:=zSl) ?_ HBK.out HFK.out hD ?_ ?_ ?_)) <;> first|omega|(simp;omega)|exact heap_new _ _|exact heap_tr hb0.out (heap_new _ _)|exact heap_tr hb1.out (heap_new _ _)|exact heap_tr hb0.out (heap_tr hb1.out (heap_new _ _))|exact heap_tr hb1.out (heap_tr hb0.out (heap_new _ _)))|((with_reducible refine RunCut.drews (cutB (b0:=zBd) (R0:=zSl) ?_ HBK.out HFK.out hD ?_ ?_ ?_)) <;> first|omega|(simp;omega)|exact heap_new _ _|exact heap_tr hb0.out (heap_new _ _)|exact heap_tr hb1.out (heap_new _ _)|exact heap_tr hb0.out (heap_tr hb1.out (heap_new _ _))|exact heap_tr hb1.out (heap_tr hb0.out (heap_new _ _)))
 clear z0_0 z0_1 z0_2 z0_3 z0_4 z0_5 z0_6 z0_7 z0_8 z0_9 z0_10 z0_11 z1_0 z1_1 z1_2 z1_3 z1_4 z1_5 z1_6 z1_7 z1_8 z2_0 z2_1 z2_2 z2_3 z2_4 z2_5 z2_6 z2_7 z2_8 z2_9 z2_10 z2_11 z3_0 z3_1 z3_2 z3_3 z3_4 z3_5 z3_6 z3_7 z3_8 z3_9 z3_10 z3_11 z4_0 z4_1 z4_2 z4_3 z4_4 z4_5 z4_6 z4_7 z4_8 z5_0 z5_1 z5_2 z5_3 z5_4 z5_5 z5_6 z5_7 z5_8 z5_9 z5_10 z5_11
 obtain ⟨w17,g17,Rh0,lo17,hi17,rfl,rfl,hbk17,hgw17,hsp17,hlo17,hhi17,hF17,hD,rfl⟩:=hcut
 have sz17:=hD.size
 have hgl17:=heap_lt0 hbk17
 replace rs0:=Lib.hid (rs0.out.below hD)
 replace oy00:=Lib.hid (oy00.out.below hD)
 replace oy11:=Lib.hid (oy11.out.below hD)
 replace omox0:=Lib.hid (omox0.out.below hD)
 replace omox1:=Lib.hid (omox1.out.below hD)
 replace omrg0:=Lib.hid (omrg0.out.below hD)
 replace X0:=Lib.hid (heap_tr hD X0.out)
 replace X1:=Lib.hid (heap_tr hD X1.out)
 replace Ys0:=Lib.hid (heap_tr hD Ys0.out)
 replace Yx0:=Lib.hid (heap_tr hD Yx0.out)
 replace Yx1:=Lib.hid (heap_tr hD Yx1.out)
 replace Yg0:=Lib.hid (heap_tr hD Yg0.out)
 replace HB:=Lib.hid (below_tr HB.out hD)
 have rh0:=Lib.hid hF17
 have Yh0:Hid (w17.heap[g17]?=some (.cells (bdArr (daB b0 x1) Rh0) 31 (0,0))):=hbk17
 clear hD hF17 hbk17
 obtain ⟨z0_0,z0_1,z0_2,z0_3,z0_4,z0_5,z0_6,z0_7,z0_8,z0_9,z0_10,z0_11⟩:=cells12 X0.out
 obtain ⟨z1_0,z1_1,z1_2,z1_3,z1_4,z1_5,z1_6,z1_7,z1_8⟩:=cells9 X1.out
 obtain ⟨z2_0,z2_1,z2_2,z2_3,z2_4,z2_5,z2_6,z2_7,z2_8,z2_9,z2_10,z2_11⟩:=cells12 Ys0.out
 obtain ⟨z3_0,z3_1,z3_2,z3_3,z3_4,z3_5,z3_6,z3_7,z3_8,z3_9,z3_10,z3_11⟩:=cells12 Yx0.out
 obtain ⟨z4_0,z4_1,z4_2,z4_3,z4_4,z4_5,z4_6,z4_7,z4_8⟩:=cells9 Yx1.out
 obtain ⟨z5_0,z5_1,z5_2,z5_3,z5_4,z5_5,z5_6,z5_7,z5_8,z5_9,z5_10,z5_11⟩:=cells12 Yg0.out
 obtain ⟨z6_0,z6_1,z6_2,z6_3,z6_4,z6_5,z6_6,z6_7,z6_8,z6_9,z6_10,z6_11⟩:=cells12 Yh0.out
 go_wp2_with fail
 clear z0_0 z0_1 z0_2 z0_3 z0_4 z0_5 z0_6 z0_7 z0_8 z0_9 z0_10 z0_11 z1_0 z1_1 z1_2 z1_3 z1_4 z1_5 z1_6 z1_7 z1_8 z2_0 z2_1 z2_2 z2_3 z2_4 z2_5 z2_6 z2_7 z2_8 z2_9 z2_10 z2_11 z3_0 z3_1 z3_2 z3_3 z3_4 z3_5 z3_6 z3_7 z3_8 z3_9 z3_10 z3_11 z4_0 z4_1 z4_2 z4_3 z4_4 z4_5 z4_6 z4_7 z4_8 z5_0 z5_1 z5_2 z5_3 z5_4 z5_5 z5_6 z5_7 z5_8 z5_9 z5_10 z5_11 z6_0 z6_1 z6_2 z6_3 z6_4 z6_5 z6_6 z6_7 z6_8 z6_9 z6_10 z6_11
 refine (eqBoard_same _ Rh0 Rs0 _ rh0.out.rd rs0.out.rd resle0.out).mono ?_
 rintro e w18 ⟨rfl,bw18⟩
 have sz18:=bw18.size
 replace rs0:=Lib.hid (rs0.out.below bw18)
 replace oy00:=Lib.hid (oy00.out.below bw18)
 replace oy11:=Lib.hid (oy11.out.below bw18)
 replace omox0:=Lib.hid (omox0.out.below bw18)
 replace omox1:=Lib.hid (omox1.out.below bw18)
 replace omrg0:=Lib.hid (omrg0.out.below bw18)
 replace rh0:=Lib.hid (rh0.out.below bw18)
 replace X0:=Lib.hid (heap_tr bw18 X0.out)
 replace X1:=Lib.hid (heap_tr bw18 X1.out)
 replace Ys0:=Lib.hid (heap_tr bw18 Ys0.out)
 replace Yx0:=Lib.hid (heap_tr bw18 Yx0.out)
 replace Yx1:=Lib.hid (heap_tr bw18 Yx1.out)
 replace Yg0:=Lib.hid (heap_tr bw18 Yg0.out)
 replace Yh0:=Lib.hid (heap_tr bw18 Yh0.out)
 replace HB:=Lib.hid (below_tr HB.out bw18)
 clear bw18
 obtain ⟨z0_0,z0_1,z0_2,z0_3,z0_4,z0_5,z0_6,z0_7,z0_8,z0_9,z0_10,z0_11⟩:=cells12 X0.out
 obtain ⟨z1_0,z1_1,z1_2,z1_3,z1_4,z1_5,z1_6,z1_7,z1_8⟩:=cells9 X1.out
 obtain ⟨z2_0,z2_1,z2_2,z2_3,z2_4,z2_5,z2_6,z2_7,z2_8,z2_9,z2_10,z2_11⟩:=cells12 Ys0.out
 obtain ⟨z3_0,z3_1,z3_2,z3_3,z3_4,z3_5,z3_6,z3_7,z3_8,z3_9,z3_10,z3_11⟩:=cells12 Yx0.out
 obtain ⟨z4_0,z4_1,z4_2,z4_3,z4_4,z4_5,z4_6,z4_7,z4_8⟩:=cells9 Yx1.out
 obtain ⟨z5_0,z5_1,z5_2,z5_3,z5_4,z5_5,z5_6,z5_7,z5_8,z5_9,z5_10,z5_11⟩:=cells12 Yg0.out
 obtain ⟨z6_0,z6_1,z6_2,z6_3,z6_4,z6_5,z6_6,z6_7,z6_8,z6_9,z6_10,z6_11⟩:=cells12 Yh0.out
 go_wp2_with fail
 clear z0_0 z0_1 z0_2 z0_3 z0_4 z0_5 z0_6 z0_7 z0_8 z0_9 z0_10 z0_11 z1_0 z1_1 z1_2 z1_3 z1_4 z1_5 z1_6 z1_7 z1_8 z2_0 z2_1 z2_2 z2_3 z2_4 z2_5 z2_6 z2_7 z2_8 z2_9 z2_10 z2_11 z3_0 z3_1 z3_2 z3_3 z3_4 z3_5 z3_6 z3_7 z3_8 z3_9 z3_10 z3_11 z4_0 z4_1 z4_2 z4_3 z4_4 z4_5 z4_6 z4_7 z4_8 z5_0 z5_1 z5_2 z5_3 z5_4 z5_5 z5_6 z5_7 z5_8 z5_9 z5_10 z5_11 z6_0 z6_1 z6_2 z6_3 z6_4 z6_5 z6_6 z6_7 z6_8 z6_9 z6_10 z6_11
 refine (heldBoard_any _ Rg0 1 _ omrg0.out.rd resle0.out (by omega) (by omega) (by omega)).mono ?_
 rintro e w19 ⟨rfl,bw19⟩
 have sz19:=bw19.size
 replace rs0:=Lib.hid (rs0.out.below bw19)
 replace oy00:=Lib.hid (oy00.out.below bw19)
 replace oy11:=Lib.hid (oy11.out.below bw19)
 replace omox0:=Lib.hid (omox0.out.below bw19)
 replace omox1:=Lib.hid (omox1.out.below bw19)
 replace omrg0:=Lib.hid (omrg0.out.below bw19)
 replace rh0:=Lib.hid (rh0.out.below bw19)
 replace X0:=Lib.hid (heap_tr bw19 X0.out)
 replace X1:=Lib.hid (heap_tr bw19 X1.out)
 replace Ys0:=Lib.hid (heap_tr bw19 Ys0.out)
 replace Yx0:=Lib.hid (heap_tr bw19 Yx0.out)
 replace Yx1:=Lib.hid (heap_tr bw19 Yx1.out)
 replace Yg0:=Lib.hid (heap_tr bw19 Yg0.out)
 replace Yh0:=Lib.hid (heap_tr bw19 Yh0.out)
 replace HB:=Lib.hid (below_tr HB.out bw19)
 clear bw19
 obtain ⟨z0_0,z0_1,z0_2,z0_3,z0_4,z0_5,z0_6,z0_7,z0_8,z0_9,z0_10,z0_11⟩:=cells12 X0.out
 obtain ⟨z1_0,z1_1,z1_2,z1_3,z1_4,z1_5,z1_6,z1_7,z1_8⟩:=cells9 X1.out
 obtain ⟨z2_0,z2_1,z2_2,z2_3,z2_4,z2_5,z2_6,z2_7,z2_8,z2_9,z2_10,z2_11⟩:=cells12 Ys0.out
 obtain ⟨z3_0,z3_1,z3_2,z3_3,z3_4,z3_5,z3_6,z3_7,z3_8,z3_9,z3_10,z3_11⟩:=cells12 Yx0.out
 obtain ⟨z4_0,z4_1,z4_2,z4_3,z4_4,z4_5,z4_6,z4_7,z4_8⟩:=cells9 Yx1.out
 obtain ⟨z5_0,z5_1,z5_2,z5_3,z5_4,z5_5,z5_6,z5_7,z5_8,z5_9,z5_10,z5_11⟩:=cells12 Yg0.out
 obtain ⟨z6_0,z6_1,z6_2,z6_3,z6_4,z6_5,z6_6,z6_7,z6_8,z6_9,z6_10,z6_11⟩:=cells12 Yh0.out
 go_wp2_with fail
 clear z0_0 z0_1 z0_2 z0_3 z0_4 z0_5 z0_6 z0_7 z0_8 z0_9 z0_10 z0_11 z1_0 z1_1 z1_2 z1_3 z1_4 z1_5 z1_6 z1_7 z1_8 z2_0 z2_1 z2_2 z2_3 z2_4 z2_5 z2_6 z2_7 z2_8 z2_9 z2_10 z2_11 z3_0 z3_1 z3_2 z3_3 z3_4 z3_5 z3_6 z3_7 z3_8 z3_9 z3_10 z3_11 z4_0 z4_1 z4_2 z4_3 z4_4 z4_5 z4_6 z4_7 z4_8 z5_0 z5_1 z5_2 z5_3 z5_4 z5_5 z5_6 z5_7 z5_8 z5_9 z5_10 z5_11 z6_0 z6_1 z6_2 z6_3 z6_4 z6_5 z6_6 z6_7 z6_8 z6_9 z6_10 z6_11
 go_ret
 exact ⟨rfl,HB.out⟩
end Go.Proofs.YtbnfdhidgdfbeaaGreat
