/- UpsetBit of the program (printed by mkop.py). -/
import Derived.Test.YtbnfdhidgdfbeaaGreatOps
namespace Go.Proofs.YtbnfdhidgdfbeaaGreat
set_option maxRecDepth 100000
open Go.RowKit
set_option maxHeartbeats 4000000 in
theorem upsetBit_any (b:Bd) (s:Sl3) (t k i:Int) (w:World) (hA:BoardRd w b s) (hz1:size2 b.frames≤1099511627776) (h2:s.n2≤16777216) (h3:size2 b.saved≤1099511627776) :
  Calls Tryz.prog 23 #[.agg (bdArr b s),.int .i64 t,.int .i64 k,.int .i64 i] w fun e w'=>∃R,e = .returned (.tuple #[.agg (bdArr (upB b t k i) R),.bool (upO b t k i)])∧BoardFp w.heap.size w'.heap.size w' (upB b t k i) R∧Below w.heap.size w w':=by
 have hz:BdOk b:=⟨hz1,by have:=hA.state.1;omega,h3⟩
 have HI:=Lib.hid hA
 have HB:=Lib.hid (below_new (below_new (Below.refl w.heap.size w) (.cells (bdArr b s) 31)) (.cells z12 31))
 have HX:Hid (BkAt ((w.alloc (.cells (bdArr b s) 31)).alloc (.cells z12 31)) w.heap.size b s):=heap_al _ (heap_new _ _)
 have HZ:Hid (BkAt ((w.alloc (.cells (bdArr b s) 31)).alloc (.cells z12 31)) (w.heap.size+1) zBd zSl):=heap_newAt (by simp)
 have hsz:w.heap.size+2≤((w.alloc (.cells (bdArr b s) 31)).alloc (.cells z12 31)).heap.size:=by simp
 clear hA
 go_enter Tryz.func23,Tryz.ntmps23
 go_wp2_with fail
 generalize hW:((w.alloc (.cells (bdArr b s) 31)).alloc (.cells z12 31))=W at *
 clear hW
 refine (copyBoard_any b s _ (HI.out.below HB.out) hz).mono ?_
 rintro e w1 ⟨R,rfl,a1,b1⟩
 have HF:=Lib.hid a1.fp
 have hs0:=b1.size
 replace HB:=Lib.hid (below_tr HB.out b1)
 replace HX:=Lib.hid (HX.out.tr b1)
 replace HZ:=Lib.hid (HZ.out.tr b1)
 clear a1 b1
 have b2:Below w1.heap.size w1 (w1.alloc (.cells (bdArr b R) 31)):=below_new (Below.refl _ _) _
 have HO:Hid (BkAt (w1.alloc (.cells (bdArr b R) 31)) w1.heap.size b R):=heap_new _ _
 have hs2:w1.heap.size<(w1.alloc (.cells (bdArr b R) 31)).heap.size:=by simp
 replace HF:=Lib.hid (HF.out.below b2)
 replace HB:=Lib.hid (below_tr HB.out b2)
 replace HX:=Lib.hid (HX.out.tr b2)
 replace HZ:=Lib.hid (HZ.out.tr b2)
 obtain ⟨x0,x1,x2,x3,x4,x5,x6,x7,x8,x9,x10,x11⟩:=HX.out.cells
 go_wp2_with fail
 generalize hW2:(w1.alloc (.cells (bdArr b R) 31))=W2 at *
 clear x0 x1 x2 x3 x4 x5 x6 x7 x8 x9 x10 x11
 clear hW2 b2
 refine (boardOk_any b s _ (HI.out.below HB.out) hz1 h2 h3).mono ?_
 rintro e w3 ⟨rfl,b3⟩
 have hs2:=b3.size
 replace HB:=Lib.hid (below_tr HB.out b3)
 replace HX:=Lib.hid (HX.out.tr b3)
 replace HZ:=Lib.hid (HZ.out.tr b3)
 replace HO:=Lib.hid (HO.out.tr b3)
 replace HF:=Lib.hid (HF.out.below b3)
 clear b3
 cases hb:bkF b with
 | false =>
  have HU:Hid (upB b t k i=b):=by show _=_;unfold upB;rw [hb];rfl
  have HV:Hid (upO b t k i=false):=by show _=_;unfold upO;rw [hb];rfl
  clear hb
  obtain ⟨z0,z1,z2,z3,z4,z5,z6,z7,z8,z9,z10,z11⟩:=HZ.out.cells
  have yz:=HZ.out.soft
  obtain ⟨o0,o1,o2,o3,o4,o5,o6,o7,o8,o9,o10,o11⟩:=HO.out.cells
  have yo:=HO.out.soft
  go_wp2_with fail
  clear z0 z1 z2 z3 z4 z5 z6 z7 z8 z9 z10 z11 yz o0 o1 o2 o3 o4 o5 o6 o7 o8 o9 o10 o11 yo
  generalize hWF:World.setCell _ _ _=WF
  obtain ⟨hbk,hszF,hBF,hCF⟩:=fin12 (W:=w3) (b':=b) (s':=R) hWF (HZ.out) (HB.out) (by omega)
  have hR:BoardFp w.heap.size WF.heap.size WF b R:=((HF.out).chg hCF (.inr (by omega))).widen (by omega) (by omega)
  clear hWF
  refine bodyPost_ret (v := .tuple #[.agg (bdArr b R),.bool false]) (results_cell2 Tryz.results23 rfl hbk Tryz.underlying31 (by kernel_rfl)) rfl ⟨R,by rw [HU.out,HV.out],by rw [HU.out];exact hR,hBF⟩
 | true =>
  have HU:Hid (upB b t k i={ b with frames:=flipFrame b.dev b.frames t k i }):=by show _=_;unfold upB;rw [hb];rfl
  have HV:Hid (upO b t k i=flipOk b.dev b.frames t k i):=by show _=_;unfold upO;rw [hb];rfl
  clear hb
  obtain ⟨x0,x1,x2,x3,x4,x5,x6,x7,x8,x9,x10,x11⟩:=HX.out.cells
  go_wp2_with fail
  clear x0 x1 x2 x3 x4 x5 x6 x7 x8 x9 x10 x11
  refine (flipFrame_any b.dev s.A1 s.n1 s.c1 b.frames t k i _ (HI.out.frames.below HB.out) hz1).mono ?_
  rintro e w4 ⟨A4,n4,c4,rfl,o4,b4⟩
  have O4:=Lib.hid o4
  have hs3:=b4.size
  replace HB:=Lib.hid (below_tr HB.out b4)
  replace HX:=Lib.hid (HX.out.tr b4)
  replace HZ:=Lib.hid (HZ.out.tr b4)
  replace HO:=Lib.hid (HO.out.tr b4)
  replace HF:=Lib.hid (HF.out.below b4)
  clear b4 o4
  obtain ⟨z0,z1,z2,z3,z4,z5,z6,z7,z8,z9,z10,z11⟩:=HZ.out.cells
  have yz:=HZ.out.soft
  obtain ⟨o0,o1,o2,o3,o4,o5,o6,o7,o8,o9,o10,o11⟩:=HO.out.cells
  have yo:=HO.out.soft
  go_wp2_with fail
  clear z0 z1 z2 z3 z4 z5 z6 z7 z8 z9 z10 z11 yz o0 o1 o2 o3 o4 o5 o6 o7 o8 o9 o10 o11 yo
  have hC4:Chg w1.heap.size (w1.heap.size+1) w4 (w4.setCell ⟨w1.heap.size,4,none⟩ (.slice A4 n4 c4)):=Chg.set (Chg.refl _ _ _) (Nat.le_refl _) (Nat.lt_succ_self _) _
  have hF4:BoardFp W.heap.size w4.heap.size (w4.setCell ⟨w1.heap.size,4,none⟩ (.slice A4 n4 c4)) { b with frames:=flipFrame b.dev b.frames t k i } ⟨A4,n4,c4,R.A2,R.n2,R.c2,R.A3,R.n3,R.c3⟩:=(HF.out.chg hC4 (.inl (Nat.le_refl _))).setFrames (b':={ b with frames:=flipFrame b.dev b.frames t k i }) (O4.out.chg hC4 (.inr (by omega))) (by omega) (by omega) (by omega) rfl rfl
  have hsW:=hC4.size
  generalize hWF:World.setCell _ _ _=WF
  obtain ⟨hbk,hszF,hBF,hCF⟩:=fin12 (W:=(w4.setCell ⟨w1.heap.size,4,none⟩ (.slice A4 n4 c4))) (b':={ b with frames:=flipFrame b.dev b.frames t k i }) (s':=⟨A4,n4,c4,R.A2,R.n2,R.c2,R.A3,R.n3,R.c3⟩) hWF (HZ.out.chg hC4 (.inl (by omega))) (HB.out.setCell (p:=⟨w1.heap.size,4,none⟩) (by simp only;omega) _) (by omega)
  have hR:BoardFp w.heap.size WF.heap.size WF { b with frames:=flipFrame b.dev b.frames t k i } ⟨A4,n4,c4,R.A2,R.n2,R.c2,R.A3,R.n3,R.c3⟩:=((hF4).chg hCF (.inr (by omega))).widen (by omega) (by omega)
  clear hWF
  refine bodyPost_ret (v := .tuple #[.agg (bdArr { b with frames:=flipFrame b.dev b.frames t k i } ⟨A4,n4,c4,R.A2,R.n2,R.c2,R.A3,R.n3,R.c3⟩),.bool (flipOk b.dev b.frames t k i)]) (results_cell2 Tryz.results23 rfl hbk Tryz.underlying31 (by kernel_rfl)) rfl ⟨⟨A4,n4,c4,R.A2,R.n2,R.c2,R.A3,R.n3,R.c3⟩,by rw [HU.out,HV.out],by rw [HU.out];exact hR,hBF⟩
end Go.Proofs.YtbnfdhidgdfbeaaGreat
