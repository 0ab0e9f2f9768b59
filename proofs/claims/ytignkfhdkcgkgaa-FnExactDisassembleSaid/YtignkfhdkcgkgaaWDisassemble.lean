/- The walk of the law FnExactDisassemble (printed by mkdisw.py). -/
import Derived.Test.YtignkfhdkcgkgaaDisBd
import Derived.Test.YtignkfhdkcgkgaaDisRM
import Derived.Test.YtignkfhdkcgkgaaRow2W
namespace Go.Proofs.Ytignkfhdkcgkgaa
set_option maxRecDepth 100000
open Go.RowKit

set_option maxRecDepth 100000 in
set_option maxHeartbeats 4000000 in
theorem law_disassemble (a0:Dev) (A1:Option Addr) (n1 c1:Nat) (x1:List (List Int)) (w:World) (_hw0:a0.wf) (h1:Rows2 w A1 n1 x1) (m1:n1≤maxLen) (_hw1:∀ys∈x1,ys.length≤maxLen∧∀y∈ys,Wf y) :
  Calls Try.prog 3 #[.agg #[.int .i64 a0.W,.int .i64 a0.H,.int .i64 a0.T,.int .i64 a0.R],.slice A1 n1 c1] w fun e w'=>e = .returned (.bool true)∧Below w.heap.size w w':=by
 unfold maxLen at *
 have hr1:=rows_len _hw1
 clear _hw1
 have H1:=Lib.hid h1
 have HD0:=Lib.hid (heap_new w (.cells #[.int .i64 a0.W,.int .i64 a0.H,.int .i64 a0.T,.int .i64 a0.R] 23))
 have HB0:=Lib.hid (below_new (Below.refl w.heap.size w) (.cells #[.int .i64 a0.W,.int .i64 a0.H,.int .i64 a0.T,.int .i64 a0.R] 23))
 go_enter Try.func3,Try.ntmps3
 go_wp2_with fail
 refine (szIntSS_any A1 n1 c1 x1 (1048576) _ (H1.out.below HB0.out) (by omega) (by omega) (by omega) hr1).mono ?_
 rintro e w' ⟨rfl,rfl⟩
 by_cases g1:(size2 x1:Int)≤1048576
 rotate_left
 ·rw [leftOf_neg g1]
  go_wp2_with fail
  go_ret
  exact ⟨rfl,HB0.out⟩
 rw [leftOf_pos g1]
 have bd1:size2 x1≤16777216:=by omega
 have be1:size2 x1≤1099511627776:=by omega
 have bn1:=(size2_bd h1.1 be1).1
 have HBD:=Lib.hid (disF_bd a0 x1)
 generalize hr:disF a0 x1=r at *
 have HR:=Lib.hid hr
 clear h1 hr
 obtain ⟨W0,hW0⟩:∃W0,W0=w.alloc (.cells #[.int .i64 a0.W,.int .i64 a0.H,.int .i64 a0.T,.int .i64 a0.R] 23):=⟨_,rfl⟩
 rw [←hW0] at HD0 HB0 ⊢
 clear hW0
 have hd':=heap_tr (Below.refl W0.heap.size W0) HD0.out
 have d0:=cell_heap (k:=0) hd' rfl
 have d1:=cell_heap (k:=1) hd' rfl
 have d2:=cell_heap (k:=2) hd' rfl
 have d3:=cell_heap (k:=3) hd' rfl
 have lD:=heap_lt0 hd'
 clear hd'
 go_wp2_with fail
 refine (toDevice_any a0 _).mono ?_
 rintro _ w1 ⟨rfl,b1⟩
 have D1:=Lib.hid b1
 clear b1
 clear d0 d1 d2 d3 lD
 go_wp2_with fail
 refine (toIntSS_any A1 n1 c1 x1 _ (H1.out.below (below_tr HB0.out D1.out)) bd1).mono ?_
 rintro _ w2 ⟨Bs1,rfl,os1,b2⟩
 have D2:=Lib.hid (below_tr D1.out b2)
 have HOS:=Lib.hid os1.rd
 clear b2 os1
 go_wp2_with fail
 refine (sdisassemble_any a0 Bs1 n1 n1 x1 _ HOS.out be1).mono ?_
 rw [HR.out]
 rintro _ w3 ⟨SA,snA,scA,LA,lnA,lcA,OA,onA,ocA,IA,niA,icA,UA,nuA,ucA,rfl,r1,r2,r3,r4,r5,b3⟩
 have D3:=Lib.hid (below_tr D2.out b3)
 have R1:=Lib.hid r1
 have R2:=Lib.hid r2
 have R3:=Lib.hid r3
 have R4:=Lib.hid r4
 have R5:=Lib.hid r5
 have HV0:=Lib.hid (below_new (Below.refl w3.heap.size w3) (.cells #[.int .i64 r.1.inputs,.slice SA snA scA,.slice LA lnA lcA,.slice OA onA ocA] 30))
 have HVB:=Lib.hid (heap_new w3 (.cells #[.int .i64 r.1.inputs,.slice SA snA scA,.slice LA lnA lcA,.slice OA onA ocA] 30))
 have hon:onA≤36:=by have:=r3.ints.1;have:=HBD.out.1.outs;omega
 have hni:niA≤36:=by have:=r4.ints.1;have:=HBD.out.2.1;omega
 have hnu:nuA≤36:=by have:=r5.ints.1;have:=HBD.out.2.2;omega
 clear r1 r2 r3 r4 r5 b3 HOS
 have hzV:w3.heap.size<(w3.alloc (.cells #[.int .i64 r.1.inputs,.slice SA snA scA,.slice LA lnA lcA,.slice OA onA ocA] 30)).heap.size:=by simp
 have HZV:=Lib.hid hzV
 clear hzV
 go_upto_region 6 with fail
 generalize hV:w3.alloc (.cells #[.int .i64 r.1.inputs,.slice SA snA scA,.slice LA lnA lcA,.slice OA onA ocA] 30)=V at *
 clear hV
 have DV:=Lib.hid (below_tr D3.out HV0.out)
 go_wp2_with fail
 refine (toIntSS_any A1 n1 c1 x1 _ (H1.out.below (below_tr HB0.out DV.out)) bd1).mono ?_
 rintro _ w4 ⟨Bx1,rfl,ox1,b4⟩
 have V4:=Lib.hid b4
 have HX:=Lib.hid ox1
 have s4:=b4.size
 clear ox1 b4
 have hd':=heap_tr (below_tr DV.out V4.out) HD0.out
 have d0:=cell_heap (k:=0) hd' rfl
 have d1:=cell_heap (k:=1) hd' rfl
 have d2:=cell_heap (k:=2) hd' rfl
 have d3:=cell_heap (k:=3) hd' rfl
 have lD:=heap_lt0 hd'
 clear hd'
 go_wp2_with fail
 refine (toDevice_any a0 _).mono ?_
 rintro _ w5 ⟨rfl,b5⟩
 have V5:=Lib.hid (below_tr V4.out b5)
 have HX5:=Lib.hid (HX.out.below b5)
 have s5:=b5.size
 clear b5
 clear d0 d1 d2 d3 lD
 go_wp2_with fail
 refine (disassemble_any a0 Bx1 n1 n1 x1 _ HX5.out.rd be1).mono ?_
 rw [HR.out]
 rintro _ w6 ⟨SG,snG,scG,LG,lnG,lcG,OG,onG,ocG,IG,niG,icG,UG,nuG,ucG,rfl,hs6⟩
 have HX6:=Lib.hid (HX5.out.below hs6.bel)
 have HG6:=Lib.hid (hs6.pushBlk #[.int .i64 r.1.inputs,.slice SG snG scG,.slice LG lnG lcG,.slice OG onG ocG] 30)
 have V6:=Lib.hid (below_new (below_tr V5.out hs6.bel) (.cells #[.int .i64 r.1.inputs,.slice SG snG scG,.slice LG lnG lcG,.slice OG onG ocG] 30))
 have s6:=hs6.size
 obtain rfl:snG=snA:=by have h1:=(hs6.rd 1 rfl).sqN;have h2:=R2.out.sqN;omega
 obtain rfl:lnG=lnA:=by have h1:=(hs6.rd 0 rfl).lutN;have h2:=R1.out.lutN;omega
 obtain rfl:onG=onA:=by have h1:=(hs6.ints 2 rfl).1;have h2:=R3.out.ints.1;omega
 obtain rfl:niG=niA:=by have h1:=(hs6.ints 3 rfl).1;have h2:=R4.out.ints.1;omega
 obtain rfl:nuG=nuA:=by have h1:=(hs6.ints 4 rfl).1;have h2:=R5.out.ints.1;omega
 have hz1:sqSum r.1.seqs snG≤432:=by have h:=HBD.out.1.z1;rwa [R2.out.sqN] at h
 have hz2:lutSum r.1.luts lnG≤360:=by have h:=HBD.out.1.z2;rwa [R1.out.lutN] at h
 have HZ1:=Lib.hid hz1
 have HZ2:=Lib.hid hz2
 clear hs6 HX5 HX hz1 hz2
 go_upto_region 8 with fail
 have HZ6:=Lib.hid (heap_new w6 (.cells #[.int .i64 r.1.inputs,.slice SG snG scG,.slice LG lnG lcG,.slice OG onG ocG] 30))
 obtain ⟨W7,hW7⟩:∃W7,W7=w6.alloc (.cells #[.int .i64 r.1.inputs,.slice SG snG scG,.slice LG lnG lcG,.slice OG onG ocG] 30):=⟨_,rfl⟩
 rw [←hW7] at HG6 V6 HZ6 ⊢
 have HX7:=Lib.hid (show Own2 V.heap.size w4.heap.size W7 Bx1 _ _ _ from by rw [hW7];exact HX6.out.below (below_new (Below.refl _ _) _))
 have s7:w6.heap.size≤W7.heap.size:=by rw [hW7];simp
 clear hW7 HX6
 have x0:=cell_heap (k:=0) (heap_tr V6.out HVB.out) rfl
 have x1:=cell_heap (k:=1) (heap_tr V6.out HVB.out) rfl
 have x2:=cell_heap (k:=2) (heap_tr V6.out HVB.out) rfl
 have x3:=cell_heap (k:=3) (heap_tr V6.out HVB.out) rfl
 have lx:=heap_lt0 (heap_tr V6.out HVB.out)
 have y0:=cell_heap (k:=0) (HG6.out.blk 5 rfl).1 rfl
 have y1:=cell_heap (k:=1) (HG6.out.blk 5 rfl).1 rfl
 have y2:=cell_heap (k:=2) (HG6.out.blk 5 rfl).1 rfl
 have y3:=cell_heap (k:=3) (HG6.out.blk 5 rfl).1 rfl
 have ly:=heap_lt0 (HG6.out.blk 5 rfl).1
 go_wp2_with fail
 refine (eqLutNet_same r.1.inputs SG LG OG SA LA OA snG scG lnG lcG onG ocG snG scA lnG lcA onG ocA r.1.luts r.1.seqs r.1.outs _ (HG6.out.rd 1 rfl) (HG6.out.rd 0 rfl) (HG6.out.rd 2 rfl) (R2.out.below (below_tr HV0.out V6.out)) (R1.out.below (below_tr HV0.out V6.out)) (R3.out.below (below_tr HV0.out V6.out)) HBD.out.1.b1 HBD.out.1.b2 (by have:=HBD.out.1.outs;omega)).mono ?_
 rintro _ w8 ⟨rfl,b8⟩
 have SG8:=Lib.hid (HG6.out.below b8)
 have VV8:=Lib.hid (below_tr V6.out b8)
 have XX8:=Lib.hid (HX7.out.below b8)
 have s8:=b8.size
 clear b8
 clear x0 x1 x2 x3 lx
 clear y0 y1 y2 y3 ly
 go_wp2_with fail
 refine (eqIntS_same IG IA niG niG icG icA _ _ (SG8.out.ints 3 rfl) (R4.out.below (below_tr HV0.out VV8.out)).ints (by omega)).mono ?_
 rintro _ w9 ⟨rfl,b9⟩
 have SG9:=Lib.hid (SG8.out.below b9)
 have VV9:=Lib.hid (below_tr VV8.out b9)
 have XX9:=Lib.hid (XX8.out.below b9)
 have s9:=b9.size
 clear b9
 go_wp2_with fail
 refine (eqIntS_same UG UA nuG nuG ucG ucA _ _ (SG9.out.ints 4 rfl) (R5.out.below (below_tr HV0.out VV9.out)).ints (by omega)).mono ?_
 rintro _ w10 ⟨rfl,b10⟩
 have SG10:=Lib.hid (SG9.out.below b10)
 have VV10:=Lib.hid (below_tr VV9.out b10)
 have XX10:=Lib.hid (XX9.out.below b10)
 have s10:=b10.size
 clear b10
 go_wp2_with fail
 refine (toIntSS_any A1 n1 c1 x1 _ (H1.out.below (below_tr HB0.out (below_tr DV.out VV10.out))) bd1).mono ?_
 rintro _ w11 ⟨By1,rfl,oy1,b11⟩
 have HY:=Lib.hid oy1.rd
 clear oy1
 have SG11:=Lib.hid (SG10.out.below b11)
 have VV11:=Lib.hid (below_tr VV10.out b11)
 have XX11:=Lib.hid (XX10.out.below b11)
 have s11:=b11.size
 clear b11
 go_wp2_with fail
 refine (eqIntSS_same Bx1 By1 n1 n1 n1 n1 x1 _ XX11.out.rd HY.out be1).mono ?_
 rintro _ w12 ⟨rfl,b12⟩
 have SG12:=Lib.hid (SG11.out.below b12)
 have VV12:=Lib.hid (below_tr VV11.out b12)
 have XX12:=Lib.hid (XX11.out.below b12)
 have s12:=b12.size
 clear b12
 clear HY
 go_wp2_with fail
 refine (markIntSS_chg _ _ Bx1 n1 n1 x1 1 _ XX12.out (by omega) (by omega) be1).mono ?_
 rintro _ w13 ⟨rfl,-,g13⟩
 have SG13:=Lib.hid (SG12.out.lowerChg V5.out (Nat.le_refl _) (by omega) g13)
 have VV13:=Lib.hid SG13.out.bel
 clear g13
 have x0:=cell_heap (k:=0) (heap_tr VV13.out HVB.out) rfl
 have x1:=cell_heap (k:=1) (heap_tr VV13.out HVB.out) rfl
 have x2:=cell_heap (k:=2) (heap_tr VV13.out HVB.out) rfl
 have x3:=cell_heap (k:=3) (heap_tr VV13.out HVB.out) rfl
 have lx:=heap_lt0 (heap_tr VV13.out HVB.out)
 have y0:=cell_heap (k:=0) (SG13.out.blk 5 rfl).1 rfl
 have y1:=cell_heap (k:=1) (SG13.out.blk 5 rfl).1 rfl
 have y2:=cell_heap (k:=2) (SG13.out.blk 5 rfl).1 rfl
 have y3:=cell_heap (k:=3) (SG13.out.blk 5 rfl).1 rfl
 have ly:=heap_lt0 (SG13.out.blk 5 rfl).1
 go_wp2_with fail
 refine (eqLutNet_same r.1.inputs SG LG OG SA LA OA snG scG lnG lcG onG ocG snG scA lnG lcA onG ocA r.1.luts r.1.seqs r.1.outs _ (SG13.out.rd 1 rfl) (SG13.out.rd 0 rfl) (SG13.out.rd 2 rfl) (R2.out.below (below_tr HV0.out VV13.out)) (R1.out.below (below_tr HV0.out VV13.out)) (R3.out.below (below_tr HV0.out VV13.out)) HBD.out.1.b1 HBD.out.1.b2 (by have:=HBD.out.1.outs;omega)).mono ?_
 rintro _ w14 ⟨rfl,b14⟩
 have SG14:=Lib.hid (SG13.out.below b14)
 have VV14:=Lib.hid (below_tr VV13.out b14)
 have s14:=b14.size
 clear b14
 clear x0 x1 x2 x3 lx
 clear y0 y1 y2 y3 ly
 go_wp2_with fail
 refine (eqIntS_same IG IA niG niG icG icA _ _ (SG14.out.ints 3 rfl) (R4.out.below (below_tr HV0.out VV14.out)).ints (by omega)).mono ?_
 rintro _ w15 ⟨rfl,b15⟩
 have SG15:=Lib.hid (SG14.out.below b15)
 have VV15:=Lib.hid (below_tr VV14.out b15)
 have s15:=b15.size
 clear b15
 go_wp2_with fail
 refine (eqIntS_same UG UA nuG nuG ucG ucA _ _ (SG15.out.ints 4 rfl) (R5.out.below (below_tr HV0.out VV15.out)).ints (by omega)).mono ?_
 rintro _ w16 ⟨rfl,b16⟩
 have SG16:=Lib.hid (SG15.out.below b16)
 have VV16:=Lib.hid (below_tr VV15.out b16)
 have s16:=b16.size
 clear b16
 have y0:=cell_heap (k:=0) (SG16.out.blk 5 rfl).1 rfl
 have y1:=cell_heap (k:=1) (SG16.out.blk 5 rfl).1 rfl
 have y2:=cell_heap (k:=2) (SG16.out.blk 5 rfl).1 rfl
 have y3:=cell_heap (k:=3) (SG16.out.blk 5 rfl).1 rfl
 have ly:=heap_lt0 (SG16.out.blk 5 rfl).1
 generalize hqq:sqSum r.1.seqs snG=qq at *
 generalize hll:lutSum r.1.luts lnG=ll at *
 have HQQ:=Lib.hid hqq
 have HLL:=Lib.hid hll
 clear hqq hll
 have hqb:=HZ1.out
 have hlb:=HZ2.out
 go_wp2_with fail
 refine (markLutNet_sep r.1.inputs SG LG OG snG scG lnG lcG onG ocG r.1.luts r.1.seqs r.1.outs _ 1 _ SG16.out (by omega) (by omega) (by rw [HQQ.out];omega) (by rw [HLL.out];omega) (by omega)).mono ?_
 rw [HQQ.out,HLL.out]
 rintro _ w17 ⟨rfl,t17,-⟩
 have SG17:=Lib.hid t17
 clear t17
 clear y0 y1 y2 y3 ly
 go_wp2_with fail
 refine (markIntS_sep 3 IG niG icG _ _ _ SG17.out rfl (by omega) (by omega) (by omega)).mono ?_
 rintro _ w18 ⟨rfl,t18,-⟩
 have SG18:=Lib.hid t18
 clear t18
 have VV18:=Lib.hid SG18.out.bel
 go_wp2_with fail
 refine (markIntS_sep 4 UG nuG ucG _ _ _ SG18.out rfl (by omega) (by omega) (by omega)).mono ?_
 rintro _ w19 ⟨rfl,t19,-⟩
 have SG19:=Lib.hid t19
 clear t19
 have VV19:=Lib.hid SG19.out.bel
 have y0:=cell_heap (k:=0) (SG19.out.blk 5 rfl).1 rfl
 have y1:=cell_heap (k:=1) (SG19.out.blk 5 rfl).1 rfl
 have y2:=cell_heap (k:=2) (SG19.out.blk 5 rfl).1 rfl
 have y3:=cell_heap (k:=3) (SG19.out.blk 5 rfl).1 rfl
 have ly:=heap_lt0 (SG19.out.blk 5 rfl).1
 go_wp2_with fail
 refine (heldLutNet_any r.1.inputs SG LG OG snG scG lnG lcG onG ocG r.1.luts r.1.seqs 1 _ (SG19.out.rd 1 rfl) (by rw [HQQ.out];exact SG19.out.rd 0 rfl) (by rw [HQQ.out,HLL.out];exact SG19.out.rd 2 rfl) (by omega) (by omega) (by rw [HQQ.out];omega) (by rw [HLL.out];omega) (by omega)).mono ?_
 rw [HQQ.out,HLL.out]
 rintro _ w20 ⟨rfl,b20⟩
 have SG20:=Lib.hid (SG19.out.below b20)
 have VV20:=Lib.hid (below_tr VV19.out b20)
 have s20:=b20.size
 clear b20
 clear y0 y1 y2 y3 ly
 go_wp2_with fail
 refine (heldIntS_any IG niG icG _ _ _ (SG20.out.ints 3 rfl) rfl (by omega) (by omega) (by omega)).mono ?_
 rintro _ w21 ⟨rfl,b21⟩
 have SG21:=Lib.hid (SG20.out.below b21)
 have VV21:=Lib.hid (below_tr VV20.out b21)
 have s21:=b21.size
 clear b21
 go_wp2_with fail
 refine (heldIntS_any UG nuG ucG _ _ _ (SG21.out.ints 4 rfl) rfl (by omega) (by omega) (by omega)).mono ?_
 rintro _ w22 ⟨rfl,b22⟩
 have SG22:=Lib.hid (SG21.out.below b22)
 have VV22:=Lib.hid (below_tr VV21.out b22)
 have s22:=b22.size
 clear b22
 have hd':=heap_tr (below_tr DV.out VV22.out) HD0.out
 have d0:=cell_heap (k:=0) hd' rfl
 have d1:=cell_heap (k:=1) hd' rfl
 have d2:=cell_heap (k:=2) hd' rfl
 have d3:=cell_heap (k:=3) hd' rfl
 have lD:=heap_lt0 hd'
 clear hd'
 go_wp2_with fail
 refine (toDevice_any a0 _).mono ?_
 rintro _ w23 ⟨rfl,b23⟩
 have SG23:=Lib.hid (SG22.out.below b23)
 have VV23:=Lib.hid (below_tr VV22.out b23)
 have s23:=b23.size
 clear b23
 clear d0 d1 d2 d3 lD
 go_wp2_with fail
 refine (toIntSS_any A1 n1 c1 x1 _ (H1.out.below (below_tr HB0.out (below_tr DV.out VV23.out))) bd1).mono ?_
 rintro _ w24 ⟨Bh1,rfl,oh1,b24⟩
 have HO:=Lib.hid oh1.rd
 clear oh1
 have SG24:=Lib.hid (SG23.out.below b24)
 have VV24:=Lib.hid (below_tr VV23.out b24)
 have s24:=b24.size
 clear b24
 go_wp2_with fail
 refine (disassemble_any a0 Bh1 n1 n1 x1 _ HO.out be1).mono ?_
 rw [HR.out]
 rintro _ w25 ⟨SH,snH,scH,LH,lnH,lcH,OH,onH,ocH,IH,niH,icH,UH,nuH,ucH,rfl,hsH⟩
 obtain rfl:snG=snH:=by have h1:=(hsH.rd 1 rfl).sqN;have h2:=R2.out.sqN;omega
 obtain rfl:lnG=lnH:=by have h1:=(hsH.rd 0 rfl).lutN;have h2:=R1.out.lutN;omega
 obtain rfl:onG=onH:=by have h1:=(hsH.ints 2 rfl).1;have h2:=R3.out.ints.1;omega
 obtain rfl:niG=niH:=by have h1:=(hsH.ints 3 rfl).1;have h2:=R4.out.ints.1;omega
 obtain rfl:nuG=nuH:=by have h1:=(hsH.ints 4 rfl).1;have h2:=R5.out.ints.1;omega
 have b25:=hsH.bel
 have SG25:=Lib.hid (SG24.out.below b25)
 have VV25:=Lib.hid (below_tr VV24.out b25)
 have s25:=b25.size
 clear b25
 have SH25:=Lib.hid (hsH.pushBlk #[.int .i64 r.1.inputs,.slice SH snG scH,.slice LH lnG lcH,.slice OH onG ocH] 30)
 clear hsH HO
 go_upto_region 33 with fail
 have SG25b:=Lib.hid (SG25.out.alloc (.cells #[.int .i64 r.1.inputs,.slice SH snG scH,.slice LH lnG lcH,.slice OH onG ocH] 30))
 have VV25b:=Lib.hid (below_new VV25.out (.cells #[.int .i64 r.1.inputs,.slice SH snG scH,.slice LH lnG lcH,.slice OH onG ocH] 30))
 generalize w25.alloc (.cells #[.int .i64 r.1.inputs,.slice SH snG scH,.slice LH lnG lcH,.slice OH onG ocH] 30)=wz at *
 have x0:=cell_heap (k:=0) (heap_tr VV25b.out HVB.out) rfl
 have x1:=cell_heap (k:=1) (heap_tr VV25b.out HVB.out) rfl
 have x2:=cell_heap (k:=2) (heap_tr VV25b.out HVB.out) rfl
 have x3:=cell_heap (k:=3) (heap_tr VV25b.out HVB.out) rfl
 have lx:=heap_lt0 (heap_tr VV25b.out HVB.out)
 have y0:=cell_heap (k:=0) (SH25.out.blk 5 rfl).1 rfl
 have y1:=cell_heap (k:=1) (SH25.out.blk 5 rfl).1 rfl
 have y2:=cell_heap (k:=2) (SH25.out.blk 5 rfl).1 rfl
 have y3:=cell_heap (k:=3) (SH25.out.blk 5 rfl).1 rfl
 have ly:=heap_lt0 (SH25.out.blk 5 rfl).1
 go_wp2_with fail
 refine (eqLutNet_same r.1.inputs SH LH OH SA LA OA snG scH lnG lcH onG ocH snG scA lnG lcA onG ocA r.1.luts r.1.seqs r.1.outs _ (SH25.out.rd 1 rfl) (SH25.out.rd 0 rfl) (SH25.out.rd 2 rfl) (R2.out.below (below_tr HV0.out VV25b.out)) (R1.out.below (below_tr HV0.out VV25b.out)) (R3.out.below (below_tr HV0.out VV25b.out)) HBD.out.1.b1 HBD.out.1.b2 (by have:=HBD.out.1.outs;omega)).mono ?_
 rintro _ w26 ⟨rfl,b26⟩
 have SG26:=Lib.hid (SG25b.out.below b26)
 have SH26:=Lib.hid (SH25.out.below b26)
 have VV26:=Lib.hid (below_tr VV25b.out b26)
 have s26:=b26.size
 clear b26
 clear x0 x1 x2 x3 lx
 clear y0 y1 y2 y3 ly
 go_wp2_with fail
 refine (eqIntS_same IH IA niG niG icH icA _ _ (SH26.out.ints 3 rfl) (R4.out.below (below_tr HV0.out VV26.out)).ints (by omega)).mono ?_
 rintro _ w27 ⟨rfl,b27⟩
 have SG27:=Lib.hid (SG26.out.below b27)
 have SH27:=Lib.hid (SH26.out.below b27)
 have VV27:=Lib.hid (below_tr VV26.out b27)
 have s27:=b27.size
 clear b27
 go_wp2_with fail
 refine (eqIntS_same UH UA nuG nuG ucH ucA _ _ (SH27.out.ints 4 rfl) (R5.out.below (below_tr HV0.out VV27.out)).ints (by omega)).mono ?_
 rintro _ w28 ⟨rfl,b28⟩
 have SG28:=Lib.hid (SG27.out.below b28)
 have SH28:=Lib.hid (SH27.out.below b28)
 have VV28:=Lib.hid (below_tr VV27.out b28)
 have s28:=b28.size
 clear b28
 have y0:=cell_heap (k:=0) (SG28.out.blk 5 rfl).1 rfl
 have y1:=cell_heap (k:=1) (SG28.out.blk 5 rfl).1 rfl
 have y2:=cell_heap (k:=2) (SG28.out.blk 5 rfl).1 rfl
 have y3:=cell_heap (k:=3) (SG28.out.blk 5 rfl).1 rfl
 have ly:=heap_lt0 (SG28.out.blk 5 rfl).1
 go_wp2_with fail
 refine (heldLutNet_any r.1.inputs SG LG OG snG scG lnG lcG onG ocG r.1.luts r.1.seqs 1 _ (SG28.out.rd 1 rfl) (by rw [HQQ.out];exact SG28.out.rd 0 rfl) (by rw [HQQ.out,HLL.out];exact SG28.out.rd 2 rfl) (by omega) (by omega) (by rw [HQQ.out];omega) (by rw [HLL.out];omega) (by omega)).mono ?_
 rw [HQQ.out,HLL.out]
 rintro _ w29 ⟨rfl,b29⟩
 have SG29:=Lib.hid (SG28.out.below b29)
 have VV29:=Lib.hid (below_tr VV28.out b29)
 have s29:=b29.size
 clear b29
 clear y0 y1 y2 y3 ly
 go_wp2_with fail
 refine (heldIntS_any IG niG icG _ _ _ (SG29.out.ints 3 rfl) rfl (by omega) (by omega) (by omega)).mono ?_
 rintro _ w30 ⟨rfl,b30⟩
 have SG30:=Lib.hid (SG29.out.below b30)
 have VV30:=Lib.hid (below_tr VV29.out b30)
 have s30:=b30.size
 clear b30
 go_wp2_with fail
 refine (heldIntS_any UG nuG ucG _ _ _ (SG30.out.ints 4 rfl) rfl (by omega) (by omega) (by omega)).mono ?_
 rintro _ w31 ⟨rfl,b31⟩
 have SG31:=Lib.hid (SG30.out.below b31)
 have VV31:=Lib.hid (below_tr VV30.out b31)
 have s31:=b31.size
 clear b31
 go_wp2_with fail
 go_ret
 exact ⟨rfl,below_tr HB0.out (below_tr DV.out VV31.out)⟩
end Go.Proofs.Ytignkfhdkcgkgaa
