/- AbortRegion of the program (printed by mkop.py). -/
import Derived.Test.YtbnfdhidgdfbeaaGreatAb
namespace Go.Proofs.YtbnfdhidgdfbeaaGreat
set_option maxRecDepth 100000
open Go.RowKit
set_option maxHeartbeats 4000000 in
theorem abortRegion_any (b:Bd) (s:Sl3) (w:World) (hA:BoardRd w b s) (hz1:size2 b.frames≤1099511627776) (h2:s.n2≤16777216) (h3:size2 b.saved≤1099511627776) :
  Calls Tryz.prog 18 #[.agg (bdArr b s)] w fun e w'=>∃R,e = .returned (.tuple #[.agg (bdArr (abB b) R),.bool (abO b)])∧BoardFp w.heap.size w'.heap.size w' (abB b) R∧Below w.heap.size w w':=by
 have hz:BdOk b:=⟨hz1,by have:=hA.state.1;omega,h3⟩
 have HI:=Lib.hid hA
 have HB:=Lib.hid (below_new (below_new (Below.refl w.heap.size w) (.cells (bdArr b s) 31)) (.cells z12 31))
 have HX:Hid (BkAt ((w.alloc (.cells (bdArr b s) 31)).alloc (.cells z12 31)) w.heap.size b s):=heap_al _ (heap_new _ _)
 have HZ:Hid (BkAt ((w.alloc (.cells (bdArr b s) 31)).alloc (.cells z12 31)) (w.heap.size+1) zBd zSl):=heap_newAt (by simp)
 have hsz:w.heap.size+2≤((w.alloc (.cells (bdArr b s) 31)).alloc (.cells z12 31)).heap.size:=by simp
 clear hA
 go_enter Tryz.func18,Tryz.ntmps18
 go_wp2_with fail
 generalize hW:((w.alloc (.cells (bdArr b s) 31)).alloc (.cells z12 31))=W at *
 clear hW
 refine (boardOk_any b s _ (HI.out.below HB.out) hz1 h2 h3).mono ?_
 rintro e w3 ⟨rfl,b3⟩
 have hs0:=b3.size
 replace HB:=Lib.hid (below_tr HB.out b3)
 replace HX:=Lib.hid (HX.out.tr b3)
 replace HZ:=Lib.hid (HZ.out.tr b3)
 clear b3
 cases hb:bkF b with
 | false =>
  have hO:abO b=false:=by unfold abO;rw [hb];rfl
  clear hb
  have HU:Hid (abB b=b):=by show _=_;unfold abB;rw [hO];rfl
  have HV:Hid (abO b=false):=hO
  clear hO
  obtain ⟨x0,x1,x2,x3,x4,x5,x6,x7,x8,x9,x10,x11⟩:=HX.out.cells
  go_wp2_with fail
  clear x0 x1 x2 x3 x4 x5 x6 x7 x8 x9 x10 x11
  refine (copyBoard_any b s _ (HI.out.below HB.out) hz).mono ?_
  rintro e w5 ⟨R,rfl,a5,b5⟩
  have HF:=Lib.hid a5.fp
  have hs1:=b5.size
  replace HB:=Lib.hid (below_tr HB.out b5)
  replace HX:=Lib.hid (HX.out.tr b5)
  replace HZ:=Lib.hid (HZ.out.tr b5)
  clear a5 b5
  obtain ⟨z0,z1,z2,z3,z4,z5,z6,z7,z8,z9,z10,z11⟩:=HZ.out.cells
  have yz:=HZ.out.soft
  go_wp2_with fail
  clear z0 z1 z2 z3 z4 z5 z6 z7 z8 z9 z10 z11 yz
  generalize hWF:World.setCell _ _ _=WF
  obtain ⟨hbk,hszF,hBF,hCF⟩:=fin12 (W:=w5) (b':=b) (s':=R) hWF (HZ.out) (HB.out) (by omega)
  have hR:BoardFp w.heap.size WF.heap.size WF b R:=((HF.out).chg hCF (.inr (by omega))).widen (by omega) (by omega)
  clear hWF
  refine bodyPost_ret (v := .tuple #[.agg (bdArr b R),.bool false]) (results_cell2 Tryz.results18 rfl hbk Tryz.underlying31 (by kernel_rfl)) rfl ⟨R,by rw [HU.out,HV.out],by rw [HU.out];exact hR,hBF⟩
 | true =>
  by_cases hp:b.phase=1
  ·have HP:=Lib.hid hp
   have hp0:(b.phase != 1)=false:=by rw [hp];rfl
   clear hp
   have hO:abO b=true:=by unfold abO;rw [hb,HP.out];rfl
   have HU:Hid (abB b=rbB b):=by show _=_;unfold abB;rw [hO];rfl
   have HV:=Lib.hid hO
   clear hO hb
   obtain ⟨x0,x1,x2,x3,x4,x5,x6,x7,x8,x9,x10,x11⟩:=HX.out.cells
   go_wp2_with fail
   clear x0 x1 x2 x3 x4 x5 x6 x7 x8 x9 x10 x11
   refine (aborted_any b s _ (HI.out.below HB.out) HV.out hz1 h2 h3).mono ?_
   rintro e w5 ⟨R,rfl,f5,b5⟩
   have HF:=Lib.hid f5
   have hs1:=b5.size
   replace HB:=Lib.hid (below_tr HB.out b5)
   replace HX:=Lib.hid (HX.out.tr b5)
   replace HZ:=Lib.hid (HZ.out.tr b5)
   clear f5 b5
   obtain ⟨z0,z1,z2,z3,z4,z5,z6,z7,z8,z9,z10,z11⟩:=HZ.out.cells
   have yz:=HZ.out.soft
   go_wp2_with fail
   clear z0 z1 z2 z3 z4 z5 z6 z7 z8 z9 z10 z11 yz
   generalize hWF:World.setCell _ _ _=WF
   obtain ⟨hbk,hszF,hBF,hCF⟩:=fin12 (W:=w5) (b':=(rbB b)) (s':=R) hWF (HZ.out) (HB.out) (by omega)
   have hR:BoardFp w.heap.size WF.heap.size WF (rbB b) R:=((HF.out).chg hCF (.inr (by omega))).widen (by omega) (by omega)
   clear hWF
   refine bodyPost_ret (v := .tuple #[.agg (bdArr (rbB b) R),.bool true]) (results_cell2 Tryz.results18 rfl hbk Tryz.underlying31 (by kernel_rfl)) rfl ⟨R,by rw [HU.out,HV.out],by rw [HU.out];exact hR,hBF⟩
  ·have hp0:(b.phase != 1)=true:=by simp [hp]
   have hO:abO b=false:=by unfold abO;rw [hb,decide_eq_false hp];rfl
   clear hb hp
   have HU:Hid (abB b=b):=by show _=_;unfold abB;rw [hO];rfl
   have HV:Hid (abO b=false):=hO
   clear hO
   obtain ⟨x0,x1,x2,x3,x4,x5,x6,x7,x8,x9,x10,x11⟩:=HX.out.cells
   go_wp2_with fail
   clear x0 x1 x2 x3 x4 x5 x6 x7 x8 x9 x10 x11
   refine (copyBoard_any b s _ (HI.out.below HB.out) hz).mono ?_
   rintro e w5 ⟨R,rfl,a5,b5⟩
   have HF:=Lib.hid a5.fp
   have hs2:=b5.size
   replace HB:=Lib.hid (below_tr HB.out b5)
   replace HX:=Lib.hid (HX.out.tr b5)
   replace HZ:=Lib.hid (HZ.out.tr b5)
   clear a5 b5
   obtain ⟨z0,z1,z2,z3,z4,z5,z6,z7,z8,z9,z10,z11⟩:=HZ.out.cells
   have yz:=HZ.out.soft
   go_wp2_with fail
   clear z0 z1 z2 z3 z4 z5 z6 z7 z8 z9 z10 z11 yz
   generalize hWF:World.setCell _ _ _=WF
   obtain ⟨hbk,hszF,hBF,hCF⟩:=fin12 (W:=w5) (b':=b) (s':=R) hWF (HZ.out) (HB.out) (by omega)
   have hR:BoardFp w.heap.size WF.heap.size WF b R:=((HF.out).chg hCF (.inr (by omega))).widen (by omega) (by omega)
   clear hWF
   refine bodyPost_ret (v := .tuple #[.agg (bdArr b R),.bool false]) (results_cell2 Tryz.results18 rfl hbk Tryz.underlying31 (by kernel_rfl)) rfl ⟨R,by rw [HU.out,HV.out],by rw [HU.out];exact hR,hBF⟩
end Go.Proofs.YtbnfdhidgdfbeaaGreat
