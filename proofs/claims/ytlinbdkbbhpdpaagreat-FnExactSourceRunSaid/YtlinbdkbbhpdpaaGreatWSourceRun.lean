/- The walk of the law FnExactSourceRun (printed by mksrw.py). -/
import Derived.Test.YtlinbdkbbhpdpaaGreatSrLw
namespace Go.Proofs.YtlinbdkbbhpdpaaGreat
set_option maxRecDepth 100000
open Go.RowKit

set_option maxHeartbeats 16000000 in
theorem law_sourceRun (x:DsT) (MA:Option Addr) (mn mc:Nat) (a1:Int) (IA:Option Addr) (inn ic:Nat) (ins:List Int) (w:World) (h:RdC w w.heap.size (celMd x.mods) (.slice MA mn mc)) (hb:BdL x.cells) (_hw1:Wf a1) (hi:Ints w IA inn ins) (_hm:inn≤maxLen) (_hw2:∀y∈ins,Wf y) :
  Calls Tryz.prog 4 #[.agg #[.slice MA mn mc],.int .i64 a1,.slice IA inn ic] w fun e w'=>e = .returned (.bool true)∧Below w.heap.size w w':=by
 have HD:=Lib.hid h
 have HBL:=Lib.hid hb
 have HI:=Lib.hid hi
 have HIL:Hid (ins.length=inn):=hi.1
 have HRL:=Lib.hid (srcD_len x.mods a1 ins)
 clear h hb hi
 have h0:=(Sepa.refl w).pushBlk #[.slice MA mn mc] 43
 go_enter Tryz.func4,Tryz.ntmps4
 go_upto_region 1 with fail
 obtain ⟨gX,hgX⟩:∃g,w.heap.size=g:=⟨_,rfl⟩
 rw [hgX] at h0
 (try rw [hgX])
 clear hgX
 have HS:=Lib.hid h0
 clear h0
 generalize w.alloc (.cells #[.slice MA mn mc] 43)=W9 at *
 have x0:=cell_heap (k:=0) (HS.out.blk 0 rfl).1 rfl
 have lx:=heap_lt0 (HS.out.blk 0 rfl).1
 by_cases g0:inn≤1048576
 rotate_left
 ·have d0:decide ((1048576:Int)<(inn:Int))=true:=decide_eq_true (by omega)
  clear g0
  go_wp2_with fail
  go_ret
  exact ⟨rfl,HS.out.bel⟩
 have d0:decide ((1048576:Int)<(inn:Int))=false:=decide_eq_false (by omega)
 go_wp2_with fail
 refine (szDesign_any MA mn mc x 1048576 _ (HD.out.below HS.out.bel) (by omega) (by omega) HBL.out).mono ?_
 rintro _ w1 ⟨rfl,b1⟩
 replace HS:=Lib.hid (HS.out.below b1)
 clear b1 d0 x0 lx
 by_cases g1:(szCL x.cells:Int)≤1048576
 rotate_left
 ·rw [leftOf_neg g1]
  go_wp2_with fail
  go_ret
  exact ⟨rfl,HS.out.bel⟩
 rw [leftOf_pos g1]
 have hz:szCL x.cells≤1048576:=by omega
 have HZ:=Lib.hid hz
 have HZM:Hid (szC (celMd x.mods)≤1048576):=by have h1:=hz;unfold DsT.cells at h1;simp only [szCL_cons,szCL_nil] at h1;show _≤_;omega
 have hmn:mn≤1048576:=Nat.le_trans (md_len HD.out) HZM.out
 clear hz
 have x0:=cell_heap (k:=0) (HS.out.blk 0 rfl).1 rfl
 have lx:=heap_lt0 (HS.out.blk 0 rfl).1
 go_wp2_with fail
 refine (toDesign_any MA mn mc x _ (HD.out.below HS.out.bel) HZ.out).mono ?_
 rintro _ w2 ⟨Dw2,rfl,o1,b1⟩
 replace HS:=Lib.hid (HS.out.pushT b1 o1.oneT)
 clear o1 b1
 clear x0 lx
 go_wp2_with fail
 refine (toIntS_any IA inn ic ins _ (HI.out.below HS.out.bel) (by omega)).mono ?_
 rintro _ w3 ⟨Iw3,rfl,o1,b1⟩
 replace HS:=Lib.hid (HS.out.pushOwn b1 o1)
 clear o1 b1
 go_wp2_with fail
 refine (ssourceRun_any x.mods Dw2 mn mn a1 ins Iw3 inn inn _ (HS.out.rd 1 rfl) (HS.out.ints 2 rfl)).mono ?_
 rintro _ w4 ⟨WA,wn,wc0,rfl,S1⟩
 replace HS:=Lib.hid (HS.out.join S1)
 clear S1
 replace HS:=Lib.hid (HS.out.sub (qs:=[_,_]) (.cons_cons _ (.cons _ (.cons _ (.cons_cons _ .slnil)))))
 have x0:=cell_heap (k:=0) (HS.out.blk 0 rfl).1 rfl
 have lx:=heap_lt0 (HS.out.blk 0 rfl).1
 go_wp2_with fail
 refine (toDesign_any MA mn mc x _ (HD.out.below HS.out.bel) HZ.out).mono ?_
 rintro _ w5 ⟨Dw5,rfl,o1,b1⟩
 replace HS:=Lib.hid (HS.out.pushT b1 o1.oneT)
 clear o1 b1
 clear x0 lx
 replace HS:=Lib.hid (HS.out.pushBlk #[.slice Dw5 mn mn] 48)
 go_upto_region 9 with fail
 obtain ⟨gY,hgY⟩:∃g,w5.heap.size=g:=⟨_,rfl⟩
 rw [hgY] at HS
 (try rw [hgY])
 generalize w5.alloc (.cells #[.slice Dw5 mn mn] 48)=W8 at *
 clear hgY
 go_wp2_with fail
 refine (toIntS_any IA inn ic ins _ (HI.out.below HS.out.bel) (by omega)).mono ?_
 rintro _ w6 ⟨Iw6,rfl,o1,b1⟩
 replace HS:=Lib.hid (HS.out.pushOwn b1 o1)
 clear o1 b1
 have y0:=cell_heap (k:=0) (HS.out.blk 3 rfl).1 rfl
 have ly:=heap_lt0 (HS.out.blk 3 rfl).1
 go_wp2_with fail
 refine (sourceRun_any x.mods Dw5 mn mn a1 ins Iw6 inn inn _ (HS.out.rd 2 rfl) hmn (HS.out.ints 4 rfl)).mono ?_
 rintro _ w7 ⟨GA,gn,gc,rfl,S1⟩
 replace HS:=Lib.hid (HS.out.join S1)
 clear S1 y0 ly
 go_wp2_with fail
 refine (eqInts_c GA WA gn gc wn wc0 (srcD x.mods a1 ins) _ (HS.out.rd 5 rfl) (HS.out.rd 1 rfl) (by rw [szC_ints];have:=HRL.out;omega)).mono ?_
 rintro _ w8 ⟨rfl,b1⟩
 replace HS:=Lib.hid (HS.out.below b1)
 clear b1
 have x0:=cell_heap (k:=0) (HS.out.blk 0 rfl).1 rfl
 have lx:=heap_lt0 (HS.out.blk 0 rfl).1
 have y0:=cell_heap (k:=0) (HS.out.blk 3 rfl).1 rfl
 have ly:=heap_lt0 (HS.out.blk 3 rfl).1
 go_upto_region 13 with fail
 have hD:=(Below.refl w8.heap.size w8).drew
 go_region_held3 (fun w'=>Below w8.heap.size w8 w'∧∀b o,b<w8.heap.size→w'.cell? ⟨b,o,none⟩=w8.cell? ⟨b,o,none⟩)
  (first|exact ⟨hD,(bcell hD).1⟩)
  ((first
   | (go_at_call 16;(refine (toDesign_any MA mn mc x _ (HD.out.below (below_tr HS.out.bel hD)) HZ.out).mono ?_);rintro _ v3 ⟨C0,rfl,o3,b3⟩;have O6:=Lib.hid o3.oneT;replace hD:=below_tr hD b3;clear o3 b3)
   | (go_at_call 20;(refine (eqDesign_alike Dw5 C0 mn mn mn mn x _ ((HS.out.below hD).rd 2 rfl) O6.out.rd (by have:=HZ.out;omega)).mono ?_);rintro _ v7 ⟨rfl,b7⟩;replace hD:=below_tr hD b7;clear b7)))
 clear x0 lx y0 ly O6
 replace HS:=Lib.hid (HS.out.below hD)
 obtain ⟨w9,rfl⟩:∃y,y=v7:=⟨v7,rfl⟩
 clear hD
 go_wp2_with fail
 refine (toIntS_any IA inn ic ins _ (HI.out.below HS.out.bel) (by omega)).mono ?_
 rintro _ w10 ⟨Iw10,rfl,o1,b1⟩
 replace HS:=Lib.hid (HS.out.pushOwn b1 o1)
 clear o1 b1
 go_wp2_with fail
 refine (eqInts_c Iw6 Iw10 inn inn inn inn ins _ (HS.out.rd 4 rfl) (HS.out.rd 6 rfl) (by rw [szC_ints];have:=HIL.out;omega)).mono ?_
 rintro _ w11 ⟨rfl,b1⟩
 replace HS:=Lib.hid (HS.out.below b1)
 clear b1
 replace HS:=Lib.hid (HS.out.sub (qs:=[_,_,_,_,_,_]) (.cons_cons _ (.cons_cons _ (.cons_cons _ (.cons_cons _ (.cons_cons _ (.cons_cons _ (.cons _ .slnil))))))))
 have y0:=cell_heap (k:=0) (HS.out.blk 3 rfl).1 rfl
 have ly:=heap_lt0 (HS.out.blk 3 rfl).1
 go_wp2_with fail
 have hcm:cntC (celMd x.mods)≤4194304:=by have h1:=cnt_mdQ x.mods;have h2:=HZM.out;omega
 have hci:cntC (celI ins)≤4194304:=by have h1:=cnt_intsQ ins;rw [szC_ints] at h1;have h2:=HIL.out;omega
 have HCR:Hid (cntC (celI (srcD x.mods a1 ins))=gn):=by have h1:=(HS.out.ints 5 rfl).1;show _=_;rw [celI,cntC,cnt_ints];exact h1
 have hgn:gn≤16:=by have h1:=(HS.out.ints 5 rfl).1;have h2:=HRL.out;omega
 refine (markDesign_sep _ mn mn x.mods _ _ 2 1 _ HS.out rfl (by omega) (by omega)).mono ?_
 rintro _ w12 ⟨rfl,t1⟩
 replace HS:=Lib.hid t1
 clear t1 y0 ly
 go_wp2_with fail
 refine (mark_cel (i:=4) HS.out rfl (fun F a b=>markIntS_c _ _ _ _ F _ _ a b (by omega) (by omega))).mono ?_
 rintro _ w13 ⟨rfl,t1⟩
 replace HS:=Lib.hid t1
 clear t1
 obtain ⟨K,hK⟩:∃K:Int,1+(cntC (celMd x.mods):Int)+(cntC (celI ins):Int)=K:=⟨_,rfl⟩
 have hK0:¬K<0:=by omega
 have dK:decide (K<0)=false:=decide_eq_false hK0
 rw [hK]
 clear hK hcm hci
 go_wp2_with fail
 refine (eqInts_c GA WA gn gc wn wc0 (srcD x.mods a1 ins) _ (HS.out.rd 5 rfl) (HS.out.rd 1 rfl) (by rw [szC_ints];have:=HRL.out;omega)).mono ?_
 rintro _ w14 ⟨rfl,b1⟩
 replace HS:=Lib.hid (HS.out.below b1)
 clear b1
 clear dK hK0
 go_wp2_with fail
 refine (mark_cel (i:=5) HS.out rfl (fun F a b=>markIntS_c _ _ _ _ F 1 _ a b (by omega) (by rw [HCR.out];omega))).mono ?_
 rw [HCR.out]
 rintro _ w15 ⟨rfl,t1⟩
 rw [mkC_celIQ 1 (srcD x.mods a1 ins)] at t1
 replace HS:=Lib.hid t1
 clear t1
 have HGL:Hid ((srcD x.mods a1 ins).length=gn):=by have h1:=HCR.out;rw [celI,cntC,cnt_ints] at h1;exact h1
 have dq:decide ((1:Int)+(gn:Int)<0)=false:=decide_eq_false (by omega)
 have dn:((1:Int)+(gn:Int) != (1:Int)+(gn:Int))=false:=by simp
 go_wp2_with fail
 refine (heldIntS_any GA gn gc (iota 1 (srcD x.mods a1 ins).length) 1 _ (HS.out.ints 5 rfl) (by rw [HGL.out]) (by omega) (by omega) (by omega)).mono ?_
 rintro _ w16 ⟨rfl,b1⟩
 replace HS:=Lib.hid (HS.out.below b1)
 clear b1
 have x0:=cell_heap (k:=0) (HS.out.blk 0 rfl).1 rfl
 have lx:=heap_lt0 (HS.out.blk 0 rfl).1
 go_wp2_with fail
 refine (toDesign_any MA mn mc x _ (HD.out.below HS.out.bel) HZ.out).mono ?_
 rintro _ w17 ⟨Dw17,rfl,o1,b1⟩
 replace HS:=Lib.hid (HS.out.pushT b1 o1.oneT)
 clear o1 b1
 clear x0 lx
 go_wp2_with fail
 refine (toIntS_any IA inn ic ins _ (HI.out.below HS.out.bel) (by omega)).mono ?_
 rintro _ w18 ⟨Iw18,rfl,o1,b1⟩
 replace HS:=Lib.hid (HS.out.pushOwn b1 o1)
 clear o1 b1
 go_wp2_with fail
 refine (sourceRun_any x.mods Dw17 mn mn a1 ins Iw18 inn inn _ (HS.out.rd 6 rfl) hmn (HS.out.ints 7 rfl)).mono ?_
 rintro _ w19 ⟨HA,hn0,hc0,rfl,S1⟩
 replace HS:=Lib.hid (HS.out.join S1)
 clear S1
 go_wp2_with fail
 refine (eqInts_c HA WA hn0 hc0 wn wc0 (srcD x.mods a1 ins) _ (HS.out.rd 8 rfl) (HS.out.rd 1 rfl) (by rw [szC_ints];have:=HRL.out;omega)).mono ?_
 rintro _ w20 ⟨rfl,b1⟩
 replace HS:=Lib.hid (HS.out.below b1)
 clear b1
 go_wp2_with fail
 refine (heldIntS_any GA gn gc (iota 1 (srcD x.mods a1 ins).length) 1 _ (HS.out.ints 5 rfl) (by rw [HGL.out]) (by omega) (by omega) (by omega)).mono ?_
 rintro _ w21 ⟨rfl,b1⟩
 replace HS:=Lib.hid (HS.out.below b1)
 clear b1
 go_wp2_with fail
 go_ret
 exact ⟨rfl,HS.out.bel⟩
end Go.Proofs.YtlinbdkbbhpdpaaGreat
