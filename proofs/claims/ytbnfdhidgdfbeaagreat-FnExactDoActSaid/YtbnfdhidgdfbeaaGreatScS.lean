/- ScrubBoard of the reference (printed by mkop.py). -/
import Derived.Test.YtbnfdhidgdfbeaaGreatRn
namespace Go.Proofs.YtbnfdhidgdfbeaaGreat
set_option maxRecDepth 100000
open Go.RowKit
set_option maxHeartbeats 4000000 in
theorem sscrubBoard_any (b:Bd) (s:Sl3) (w:World) (hA:BoardRd w b s) (hz1:size2 b.frames≤1099511627776) (h2:s.n2≤16777216) (h3:size2 b.saved≤1099511627776) :
  Calls Tryz.prog 79 #[.agg (bdArr b s)] w fun e w'=>∃R,e = .returned (.tuple #[.agg (bdArr (scB b) R),.int .i64 (scN b 1),.int .i64 (scN b 2)])∧BoardFp w.heap.size w'.heap.size w' (scB b) R∧Below w.heap.size w w':=by
 have hz:BdOk b:=⟨hz1,by have:=hA.state.1;omega,h3⟩
 have HI:=Lib.hid hA
 have HB:=Lib.hid (below_new (below_new (Below.refl w.heap.size w) (.cells (bdArr b s) 31)) (.cells z12 31))
 have HX:Hid (BkAt ((w.alloc (.cells (bdArr b s) 31)).alloc (.cells z12 31)) w.heap.size b s):=heap_al _ (heap_new _ _)
 have HZ:Hid (BkAt ((w.alloc (.cells (bdArr b s) 31)).alloc (.cells z12 31)) (w.heap.size+1) zBd zSl):=heap_newAt (by simp)
 have hsz:w.heap.size+2≤((w.alloc (.cells (bdArr b s) 31)).alloc (.cells z12 31)).heap.size:=by simp
 clear hA
 go_enter Tryz.func79,Tryz.ntmps79
 go_wp2_with fail
 generalize hW:((w.alloc (.cells (bdArr b s) 31)).alloc (.cells z12 31))=W at *
 clear hW
 refine (sl44Copy_any b s _ (HI.out.below HB.out) hz).mono ?_
 rintro e w1 ⟨R,rfl,a1,b1⟩
 have HF:=Lib.hid a1.fp
 have hs0:=b1.size
 replace HB:=Lib.hid (below_tr HB.out b1)
 replace HX:=Lib.hid (HX.out.tr b1)
 replace HZ:=Lib.hid (HZ.out.tr b1)
 clear a1 b1
 have b2:Below w1.heap.size w1 (w1.alloc (.cells (bdArr b R) 31)):=below_new (Below.refl _ _) _
 have HO:Hid (BkAt (w1.alloc (.cells (bdArr b R) 31)) w1.heap.size b R):=heap_new _ _
 have hs2:w1.heap.size<(w1.alloc (.cells (bdArr b R) 31)).heap.size:=by simp
 replace HF:=Lib.hid (HF.out.below b2)
 replace HB:=Lib.hid (below_tr HB.out b2)
 replace HX:=Lib.hid (HX.out.tr b2)
 replace HZ:=Lib.hid (HZ.out.tr b2)
 obtain ⟨x0,x1,x2,x3,x4,x5,x6,x7,x8,x9,x10,x11⟩:=HX.out.cells
 go_wp2_with fail
 generalize hW2:(w1.alloc (.cells (bdArr b R) 31))=W2 at *
 clear x0 x1 x2 x3 x4 x5 x6 x7 x8 x9 x10 x11
 clear hW2 b2
 refine (sboardOk_any b s _ (HI.out.below HB.out) hz1 h2 h3).mono ?_
 rintro e w3 ⟨rfl,b3⟩
 have hs2:=b3.size
 replace HB:=Lib.hid (below_tr HB.out b3)
 replace HX:=Lib.hid (HX.out.tr b3)
 replace HZ:=Lib.hid (HZ.out.tr b3)
 replace HO:=Lib.hid (HO.out.tr b3)
 replace HF:=Lib.hid (HF.out.below b3)
 clear b3
 cases hb:bkF b with
 | false =>
  have HU:Hid (scB b=b):=by show _=_;unfold scB;rw [hb];rfl
  have HV:Hid (∀k,scN b k=0):=by intro k;unfold scN;rw [hb];rfl
  clear hb
  obtain ⟨z0,z1,z2,z3,z4,z5,z6,z7,z8,z9,z10,z11⟩:=HZ.out.cells
  have yz:=HZ.out.soft
  obtain ⟨o0,o1,o2,o3,o4,o5,o6,o7,o8,o9,o10,o11⟩:=HO.out.cells
  have yo:=HO.out.soft
  go_wp2_with fail
  clear z0 z1 z2 z3 z4 z5 z6 z7 z8 z9 z10 z11 yz o0 o1 o2 o3 o4 o5 o6 o7 o8 o9 o10 o11 yo
  generalize hWF:World.setCell _ _ _=WF
  obtain ⟨hbk,hszF,hBF,hCF⟩:=fin12 (W:=w3) (b':=b) (s':=R) hWF (HZ.out) (HB.out) (by omega)
  have hR:BoardFp w.heap.size WF.heap.size WF b R:=((HF.out).chg hCF (.inr (by omega))).widen (by omega) (by omega)
  clear hWF
  refine bodyPost_ret (v := .tuple #[.agg (bdArr b R),.int .i64 0,.int .i64 0]) (results_cell3 Tryz.results79 rfl hbk Tryz.underlying31 (by kernel_rfl)) rfl ⟨R,by rw [HU.out,HV.out,HV.out],by rw [HU.out];exact hR,hBF⟩
 | true =>
  have HV:Hid (∀k,scN b k=scrubN b.dev b.frames k):=by intro k;unfold scN;rw [hb];rfl
  have HU:Hid (scB b=if 0<scrubN b.dev b.frames 2 then ⟨b.dev,scrubF b.dev b.frames,b.state,2,rZ,[]⟩ else { b with frames:=scrubF b.dev b.frames }):=by show _=_;unfold scB;rw [hb];rfl
  clear hb
  obtain ⟨x0,x1,x2,x3,x4,x5,x6,x7,x8,x9,x10,x11⟩:=HX.out.cells
  go_wp2_with fail
  clear x0 x1 x2 x3 x4 x5 x6 x7 x8 x9 x10 x11
  refine (sscrubFrames_any b.dev s.A1 s.n1 s.c1 b.frames _ (HI.out.frames.below HB.out) hz1).mono ?_
  rintro e w4 ⟨A4,n4,c4,rfl,o4,b4⟩
  have O4:=Lib.hid o4
  have hs3:=b4.size
  replace HB:=Lib.hid (below_tr HB.out b4)
  replace HX:=Lib.hid (HX.out.tr b4)
  replace HZ:=Lib.hid (HZ.out.tr b4)
  replace HO:=Lib.hid (HO.out.tr b4)
  replace HF:=Lib.hid (HF.out.below b4)
  clear b4 o4
  have hC4:Chg w1.heap.size (w1.heap.size+1) w4 (w4.setCell ⟨w1.heap.size,4,none⟩ (.slice A4 n4 c4)):=(Chg.set (Chg.refl _ _ _) (Nat.le_refl _) (Nat.lt_succ_self _) _)
  replace HF:=Lib.hid (HF.out.chg hC4 (.inl (Nat.le_refl _)))
  replace O4:=Lib.hid (O4.out.chg hC4 (.inr (by omega)))
  have hsW:=hC4.size
  have HC4:=Lib.hid hC4
  clear hC4
  by_cases hd:0<scrubN b.dev b.frames 2
  ·rw [if_pos hd] at HU
   have hd0:decide (scrubN b.dev b.frames 2>0)=true:=by simp;omega
   have hl4:w1.heap.size<w4.heap.size:=by omega
   have hr4:w.heap.size+1<w4.heap.size:=by omega
   obtain ⟨z0,z1,z2,z3,z4,z5,z6,z7,z8,z9,z10,z11⟩:=HZ.out.cells
   have yz:=HZ.out.soft
   obtain ⟨o0,o1,o2,o3,o4,o5,o6,o7,o8,o9,o10,o11⟩:=HO.out.cells
   have yo:=HO.out.soft
   go_wp2_with fail
   clear z0 z1 z2 z3 z4 z5 z6 z7 z8 z9 z10 z11 yz o0 o1 o2 o3 o4 o5 o6 o7 o8 o9 o10 o11 yo
   generalize hWF:World.setCell _ _ _=WF
   have hCP:Chg w1.heap.size (w1.heap.size+1) (w4.setCell ⟨w1.heap.size,4,none⟩ (.slice A4 n4 c4)) (((((((w4.setCell ⟨w1.heap.size,4,none⟩ (.slice A4 n4 c4)).setCell ⟨w1.heap.size,6,none⟩ (.int .i64 2)).setCell ⟨w1.heap.size,7,none⟩ (.int .i64 0)).setCell ⟨w1.heap.size,8,none⟩ (.int .i64 0)).setCell ⟨w1.heap.size,9,none⟩ (.int .i64 0)).setCell ⟨w1.heap.size,10,none⟩ (.int .i64 0)).setCell ⟨w1.heap.size,11,none⟩ (.slice (some ⟨w4.heap.size,0,none⟩) 0 0)):=(Chg.set (Chg.set (Chg.set (Chg.set (Chg.set (Chg.set (Chg.refl _ _ _) (Nat.le_refl _) (Nat.lt_succ_self _) _) (Nat.le_refl _) (Nat.lt_succ_self _) _) (Nat.le_refl _) (Nat.lt_succ_self _) _) (Nat.le_refl _) (Nat.lt_succ_self _) _) (Nat.le_refl _) (Nat.lt_succ_self _) _) (Nat.le_refl _) (Nat.lt_succ_self _) _)
   have hsP:=hCP.size
   obtain ⟨hbk,hszF,hBF,hCF⟩:=fin12 (W:=(((((((w4.setCell ⟨w1.heap.size,4,none⟩ (.slice A4 n4 c4)).setCell ⟨w1.heap.size,6,none⟩ (.int .i64 2)).setCell ⟨w1.heap.size,7,none⟩ (.int .i64 0)).setCell ⟨w1.heap.size,8,none⟩ (.int .i64 0)).setCell ⟨w1.heap.size,9,none⟩ (.int .i64 0)).setCell ⟨w1.heap.size,10,none⟩ (.int .i64 0)).setCell ⟨w1.heap.size,11,none⟩ (.slice (some ⟨w4.heap.size,0,none⟩) 0 0))) (b':=⟨b.dev,scrubF b.dev b.frames,b.state,2,rZ,[]⟩) (s':=⟨A4,n4,c4,R.A2,R.n2,R.c2,some ⟨w4.heap.size,0,none⟩,0,0⟩) hWF ((HZ.out.chg HC4.out (.inl (by omega))).chg hCP (.inl (by omega))) (below_chg (below_chg HB.out HC4.out (by omega)) hCP (by omega)) (by omega)
   have hz5:WF.heap.size=w4.heap.size:=by rw [←hWF];simp only [World.size_setCell]
   have hf1:=((HF.out.chg hCP (.inl (Nat.le_refl _))).setFrames (b':={ b with frames:=scrubF b.dev b.frames }) (O4.out.chg hCP (.inr (by omega))) (by omega) (by omega) (by omega) rfl rfl).chg hCF (.inr (by omega))
   have hb6:Below WF.heap.size WF (WF.alloc (.cells #[] 27)):=below_new (Below.refl _ _) _
   have hR0:BoardFp W.heap.size (WF.alloc (.cells #[] 27)).heap.size (WF.alloc (.cells #[] 27)) ⟨b.dev,scrubF b.dev b.frames,b.state,2,rZ,[]⟩ ⟨A4,n4,c4,R.A2,R.n2,R.c2,some ⟨w4.heap.size,0,none⟩,0,0⟩:=(hf1.below hb6).setSaved (b':=⟨b.dev,scrubF b.dev b.frames,b.state,2,rZ,[]⟩) (Own2.new0 hz5) (by omega) (by omega) (by have:=hb6.size;omega) rfl rfl
   have hR:=hR0.widen (lo':=w.heap.size) (hi':=(WF.alloc (.cells #[] 27)).heap.size) (by omega) (Nat.le_refl _)
   clear hWF
   refine bodyPost_ret (v := .tuple #[.agg (bdArr ⟨b.dev,scrubF b.dev b.frames,b.state,2,rZ,[]⟩ ⟨A4,n4,c4,R.A2,R.n2,R.c2,some ⟨w4.heap.size,0,none⟩,0,0⟩),.int .i64 (scrubN b.dev b.frames 1),.int .i64 (scrubN b.dev b.frames 2)]) (results_cell3 Tryz.results79 rfl (hbk.tr hb6) Tryz.underlying31 (by kernel_rfl)) rfl ⟨⟨A4,n4,c4,R.A2,R.n2,R.c2,some ⟨w4.heap.size,0,none⟩,0,0⟩,by rw [HU.out,HV.out,HV.out],by rw [HU.out];exact hR,below_tr hBF hb6⟩
  ·rw [if_neg hd] at HU
   have hd0:decide (scrubN b.dev b.frames 2>0)=false:=by simp;omega
   obtain ⟨z0,z1,z2,z3,z4,z5,z6,z7,z8,z9,z10,z11⟩:=HZ.out.cells
   have yz:=HZ.out.soft
   obtain ⟨o0,o1,o2,o3,o4,o5,o6,o7,o8,o9,o10,o11⟩:=HO.out.cells
   have yo:=HO.out.soft
   go_wp2_with fail
   clear z0 z1 z2 z3 z4 z5 z6 z7 z8 z9 z10 z11 yz o0 o1 o2 o3 o4 o5 o6 o7 o8 o9 o10 o11 yo
   generalize hWF:World.setCell _ _ _=WF
   obtain ⟨hbk,hszF,hBF,hCF⟩:=fin12 (W:=(w4.setCell ⟨w1.heap.size,4,none⟩ (.slice A4 n4 c4))) (b':={ b with frames:=scrubF b.dev b.frames }) (s':=⟨A4,n4,c4,R.A2,R.n2,R.c2,R.A3,R.n3,R.c3⟩) hWF (HZ.out.chg HC4.out (.inl (by omega))) (HB.out.setCell (p:=⟨w1.heap.size,4,none⟩) (by simp only;omega) _) (by omega)
   have hR:BoardFp w.heap.size WF.heap.size WF { b with frames:=scrubF b.dev b.frames } ⟨A4,n4,c4,R.A2,R.n2,R.c2,R.A3,R.n3,R.c3⟩:=((HF.out.setFrames (b':={ b with frames:=scrubF b.dev b.frames }) O4.out (by omega) (by omega) (by omega) rfl rfl).chg hCF (.inr (by omega))).widen (by omega) (by omega)
   clear hWF
   refine bodyPost_ret (v := .tuple #[.agg (bdArr { b with frames:=scrubF b.dev b.frames } ⟨A4,n4,c4,R.A2,R.n2,R.c2,R.A3,R.n3,R.c3⟩),.int .i64 (scrubN b.dev b.frames 1),.int .i64 (scrubN b.dev b.frames 2)]) (results_cell3 Tryz.results79 rfl hbk Tryz.underlying31 (by kernel_rfl)) rfl ⟨⟨A4,n4,c4,R.A2,R.n2,R.c2,R.A3,R.n3,R.c3⟩,by rw [HU.out,HV.out,HV.out],by rw [HU.out];exact hR,hBF⟩
end Go.Proofs.YtbnfdhidgdfbeaaGreat
