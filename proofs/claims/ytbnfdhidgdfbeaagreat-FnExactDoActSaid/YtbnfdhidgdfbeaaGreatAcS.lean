/- ActOk: whether an act may be performed: the program. ActOk: whether an act may be performed: the reference. -/
import Derived.Test.YtbnfdhidgdfbeaaGreatOm
import Derived.Test.YtbnfdhidgdfbeaaGreatRn
namespace Go.Proofs.YtbnfdhidgdfbeaaGreat
set_option maxRecDepth 100000
open Go.RowKit

/-- What an act must be, of itself. -/
def acF (x:Ac):Prop:=(0≤x.kind∧x.kind≤6)∧x.words.length≤20∧(x.A=0∨x.kind=0∨x.kind=1∨x.kind=4∨x.kind=5)∧(x.kind=1∨(x.B=0∧x.C=0))∧(x.kind=3∨(x.reg.X0=0∧x.reg.Y0=0∧x.reg.X1=0∧x.reg.Y1=0))∧(x.kind=4∨x.words.length=0)
instance (x:Ac):Decidable (acF x):=by unfold acF;exact inferInstance
def actOk (b:Bd) (x:Ac):Bool:=bkF b && decide (acF x)
theorem actOk_no {b:Bd} {x:Ac} (h:¬acF x):actOk b x=false:=by unfold actOk;rw [decide_eq_false h,Bool.and_false]
theorem actOk_is {b:Bd} {x:Ac} (h:bkF b=true):actOk b x=decide (acF x):=by unfold actOk;rw [h];rfl

set_option maxHeartbeats 4000000 in
theorem pactOk_any (b:Bd) (s:Sl3) (x:Ac) (A:Option Addr) (n c:Nat) (w:World) (hB:BoardRd w b s) (hA:Ints w A n x.words) (z1:size2 b.frames≤1099511627776) (z2:s.n2≤16777216) (z3:size2 b.saved≤1099511627776) (zn:n≤1099511627776) :
  Calls Tryz.prog 90 #[.agg (bdArr b s),.agg (acArr x A n c)] w fun e w'=>e = .returned (.bool (actOk b x))∧Below w.heap.size w w':=by
 have HB0:=Lib.hid (below_new (below_new (Below.refl w.heap.size w) (.cells (bdArr b s) 31)) (.cells (acArr x A n c) 66))
 have HBR:=Lib.hid hB
 have HXL:=Lib.hid hA.1
 have X0:=Lib.hid (heap_newAt (w:=w.alloc (.cells (bdArr b s) 31)) (o := .cells (acArr x A n c) 66) (g:=w.heap.size+1) (by simp))
 clear hB hA
 go_enter Tryz.func90,Tryz.ntmps90
 go_wp2_with fail
 refine (boardOk_any b s _ (HBR.out.below HB0.out) z1 z2 z3).mono ?_
 rintro e w1 ⟨rfl,b1⟩
 replace X0:=Lib.hid (heap_tr b1 X0.out)
 have HW:=Lib.hid (below_tr HB0.out b1)
 obtain ⟨x0,x1,x2,x3,x4,x5,x6,x7,x8⟩:=cells9 X0.out
 clear b1
 cases hb:bkF b with
 | false =>
  have HF:Hid (actOk b x=false):=by show _=_;unfold actOk;rw [hb];rfl
  clear hb
  go_wp2_with fail
  go_ret
  exact ⟨ret_bool HF.out.symm,HW.out⟩
 | true =>
  have HBK:=Lib.hid (actOk_is (x:=x) hb)
  clear hb
  by_cases hk:0≤x.kind∧x.kind≤6
  ·have hin:inR x.kind 0 6=true:=inR_iff.2 hk
   obtain ⟨kd,xa,xb,xc,⟨r0,r1,r2,r3⟩,ws⟩:=x
   dsimp only at *
   by_cases h20:n≤20
   ·have d20:decide ((n:Int)>20)=false:=by simp;omega
    have hkd:kd=0∨kd=1∨kd=2∨kd=3∨kd=4∨kd=5∨kd=6:=by omega
    clear hk
    by_cases hxc:xc=0
    ·subst hxc
     by_cases hn:n=0
     ·subst hn
      rcases hkd with rfl|rfl|rfl|rfl|rfl|rfl|rfl
      ·go_wp2_with (go_at_call 68;refine (inRange_any _ _ _ _).mono ?_;rintro e w' ⟨rfl,rfl⟩;rw [hin])
       all_goals
        go_ret
        exact ⟨ret_bool (by
         rw [HBK.out]
         have e:=HXL.out
         first|exact (decide_eq_true (by unfold acF;dsimp only;omega)).symm|exact (decide_eq_false (by unfold acF;dsimp only;omega)).symm),HW.out⟩
      ·go_wp2_with (go_at_call 68;refine (inRange_any _ _ _ _).mono ?_;rintro e w' ⟨rfl,rfl⟩;rw [hin])
       all_goals
        go_ret
        exact ⟨ret_bool (by
         rw [HBK.out]
         have e:=HXL.out
         first|exact (decide_eq_true (by unfold acF;dsimp only;omega)).symm|exact (decide_eq_false (by unfold acF;dsimp only;omega)).symm),HW.out⟩
      ·go_wp2_with (go_at_call 68;refine (inRange_any _ _ _ _).mono ?_;rintro e w' ⟨rfl,rfl⟩;rw [hin])
       all_goals
        go_ret
        exact ⟨ret_bool (by
         rw [HBK.out]
         have e:=HXL.out
         first|exact (decide_eq_true (by unfold acF;dsimp only;omega)).symm|exact (decide_eq_false (by unfold acF;dsimp only;omega)).symm),HW.out⟩
      ·go_wp2_with (go_at_call 68;refine (inRange_any _ _ _ _).mono ?_;rintro e w' ⟨rfl,rfl⟩;rw [hin])
       all_goals
        go_ret
        exact ⟨ret_bool (by
         rw [HBK.out]
         have e:=HXL.out
         first|exact (decide_eq_true (by unfold acF;dsimp only;omega)).symm|exact (decide_eq_false (by unfold acF;dsimp only;omega)).symm),HW.out⟩
      ·go_wp2_with (go_at_call 68;refine (inRange_any _ _ _ _).mono ?_;rintro e w' ⟨rfl,rfl⟩;rw [hin])
       all_goals
        go_ret
        exact ⟨ret_bool (by
         rw [HBK.out]
         have e:=HXL.out
         first|exact (decide_eq_true (by unfold acF;dsimp only;omega)).symm|exact (decide_eq_false (by unfold acF;dsimp only;omega)).symm),HW.out⟩
      ·go_wp2_with (go_at_call 68;refine (inRange_any _ _ _ _).mono ?_;rintro e w' ⟨rfl,rfl⟩;rw [hin])
       all_goals
        go_ret
        exact ⟨ret_bool (by
         rw [HBK.out]
         have e:=HXL.out
         first|exact (decide_eq_true (by unfold acF;dsimp only;omega)).symm|exact (decide_eq_false (by unfold acF;dsimp only;omega)).symm),HW.out⟩
      ·go_wp2_with (go_at_call 68;refine (inRange_any _ _ _ _).mono ?_;rintro e w' ⟨rfl,rfl⟩;rw [hin])
       all_goals
        go_ret
        exact ⟨ret_bool (by
         rw [HBK.out]
         have e:=HXL.out
         first|exact (decide_eq_true (by unfold acF;dsimp only;omega)).symm|exact (decide_eq_false (by unfold acF;dsimp only;omega)).symm),HW.out⟩
     ·have d0:((n:Int)==0)=false:=by simp;omega
      have d1:decide ((n:Int)>0)=true:=by simp;omega
      rcases hkd with rfl|rfl|rfl|rfl|rfl|rfl|rfl
      ·go_wp2_with (go_at_call 68;refine (inRange_any _ _ _ _).mono ?_;rintro e w' ⟨rfl,rfl⟩;rw [hin])
       all_goals
        go_ret
        exact ⟨ret_bool (by
         rw [HBK.out]
         have e:=HXL.out
         first|exact (decide_eq_true (by unfold acF;dsimp only;omega)).symm|exact (decide_eq_false (by unfold acF;dsimp only;omega)).symm),HW.out⟩
      ·go_wp2_with (go_at_call 68;refine (inRange_any _ _ _ _).mono ?_;rintro e w' ⟨rfl,rfl⟩;rw [hin])
       all_goals
        go_ret
        exact ⟨ret_bool (by
         rw [HBK.out]
         have e:=HXL.out
         first|exact (decide_eq_true (by unfold acF;dsimp only;omega)).symm|exact (decide_eq_false (by unfold acF;dsimp only;omega)).symm),HW.out⟩
      ·go_wp2_with (go_at_call 68;refine (inRange_any _ _ _ _).mono ?_;rintro e w' ⟨rfl,rfl⟩;rw [hin])
       all_goals
        go_ret
        exact ⟨ret_bool (by
         rw [HBK.out]
         have e:=HXL.out
         first|exact (decide_eq_true (by unfold acF;dsimp only;omega)).symm|exact (decide_eq_false (by unfold acF;dsimp only;omega)).symm),HW.out⟩
      ·go_wp2_with (go_at_call 68;refine (inRange_any _ _ _ _).mono ?_;rintro e w' ⟨rfl,rfl⟩;rw [hin])
       all_goals
        go_ret
        exact ⟨ret_bool (by
         rw [HBK.out]
         have e:=HXL.out
         first|exact (decide_eq_true (by unfold acF;dsimp only;omega)).symm|exact (decide_eq_false (by unfold acF;dsimp only;omega)).symm),HW.out⟩
      ·go_wp2_with (go_at_call 68;refine (inRange_any _ _ _ _).mono ?_;rintro e w' ⟨rfl,rfl⟩;rw [hin])
       all_goals
        go_ret
        exact ⟨ret_bool (by
         rw [HBK.out]
         have e:=HXL.out
         first|exact (decide_eq_true (by unfold acF;dsimp only;omega)).symm|exact (decide_eq_false (by unfold acF;dsimp only;omega)).symm),HW.out⟩
      ·go_wp2_with (go_at_call 68;refine (inRange_any _ _ _ _).mono ?_;rintro e w' ⟨rfl,rfl⟩;rw [hin])
       all_goals
        go_ret
        exact ⟨ret_bool (by
         rw [HBK.out]
         have e:=HXL.out
         first|exact (decide_eq_true (by unfold acF;dsimp only;omega)).symm|exact (decide_eq_false (by unfold acF;dsimp only;omega)).symm),HW.out⟩
      ·go_wp2_with (go_at_call 68;refine (inRange_any _ _ _ _).mono ?_;rintro e w' ⟨rfl,rfl⟩;rw [hin])
       all_goals
        go_ret
        exact ⟨ret_bool (by
         rw [HBK.out]
         have e:=HXL.out
         first|exact (decide_eq_true (by unfold acF;dsimp only;omega)).symm|exact (decide_eq_false (by unfold acF;dsimp only;omega)).symm),HW.out⟩
    ·have dxc:(xc != 0)=true:=by simpa using hxc
     have dxc2:(xc==0)=false:=by simpa using hxc
     by_cases hn:n=0
     ·subst hn
      rcases hkd with rfl|rfl|rfl|rfl|rfl|rfl|rfl
      ·go_wp2_with (go_at_call 68;refine (inRange_any _ _ _ _).mono ?_;rintro e w' ⟨rfl,rfl⟩;rw [hin])
       all_goals
        go_ret
        exact ⟨ret_bool (by
         rw [HBK.out]
         have e:=HXL.out
         first|exact (decide_eq_true (by unfold acF;dsimp only;omega)).symm|exact (decide_eq_false (by unfold acF;dsimp only;omega)).symm),HW.out⟩
      ·go_wp2_with (go_at_call 68;refine (inRange_any _ _ _ _).mono ?_;rintro e w' ⟨rfl,rfl⟩;rw [hin])
       all_goals
        go_ret
        exact ⟨ret_bool (by
         rw [HBK.out]
         have e:=HXL.out
         first|exact (decide_eq_true (by unfold acF;dsimp only;omega)).symm|exact (decide_eq_false (by unfold acF;dsimp only;omega)).symm),HW.out⟩
      ·go_wp2_with (go_at_call 68;refine (inRange_any _ _ _ _).mono ?_;rintro e w' ⟨rfl,rfl⟩;rw [hin])
       all_goals
        go_ret
        exact ⟨ret_bool (by
         rw [HBK.out]
         have e:=HXL.out
         first|exact (decide_eq_true (by unfold acF;dsimp only;omega)).symm|exact (decide_eq_false (by unfold acF;dsimp only;omega)).symm),HW.out⟩
      ·go_wp2_with (go_at_call 68;refine (inRange_any _ _ _ _).mono ?_;rintro e w' ⟨rfl,rfl⟩;rw [hin])
       all_goals
        go_ret
        exact ⟨ret_bool (by
         rw [HBK.out]
         have e:=HXL.out
         first|exact (decide_eq_true (by unfold acF;dsimp only;omega)).symm|exact (decide_eq_false (by unfold acF;dsimp only;omega)).symm),HW.out⟩
      ·go_wp2_with (go_at_call 68;refine (inRange_any _ _ _ _).mono ?_;rintro e w' ⟨rfl,rfl⟩;rw [hin])
       all_goals
        go_ret
        exact ⟨ret_bool (by
         rw [HBK.out]
         have e:=HXL.out
         first|exact (decide_eq_true (by unfold acF;dsimp only;omega)).symm|exact (decide_eq_false (by unfold acF;dsimp only;omega)).symm),HW.out⟩
      ·go_wp2_with (go_at_call 68;refine (inRange_any _ _ _ _).mono ?_;rintro e w' ⟨rfl,rfl⟩;rw [hin])
       all_goals
        go_ret
        exact ⟨ret_bool (by
         rw [HBK.out]
         have e:=HXL.out
         first|exact (decide_eq_true (by unfold acF;dsimp only;omega)).symm|exact (decide_eq_false (by unfold acF;dsimp only;omega)).symm),HW.out⟩
      ·go_wp2_with (go_at_call 68;refine (inRange_any _ _ _ _).mono ?_;rintro e w' ⟨rfl,rfl⟩;rw [hin])
       all_goals
        go_ret
        exact ⟨ret_bool (by
         rw [HBK.out]
         have e:=HXL.out
         first|exact (decide_eq_true (by unfold acF;dsimp only;omega)).symm|exact (decide_eq_false (by unfold acF;dsimp only;omega)).symm),HW.out⟩
     ·have d0:((n:Int)==0)=false:=by simp;omega
      have d1:decide ((n:Int)>0)=true:=by simp;omega
      rcases hkd with rfl|rfl|rfl|rfl|rfl|rfl|rfl
      ·go_wp2_with (go_at_call 68;refine (inRange_any _ _ _ _).mono ?_;rintro e w' ⟨rfl,rfl⟩;rw [hin])
       all_goals
        go_ret
        exact ⟨ret_bool (by
         rw [HBK.out]
         have e:=HXL.out
         first|exact (decide_eq_true (by unfold acF;dsimp only;omega)).symm|exact (decide_eq_false (by unfold acF;dsimp only;omega)).symm),HW.out⟩
      ·go_wp2_with (go_at_call 68;refine (inRange_any _ _ _ _).mono ?_;rintro e w' ⟨rfl,rfl⟩;rw [hin])
       all_goals
        go_ret
        exact ⟨ret_bool (by
         rw [HBK.out]
         have e:=HXL.out
         first|exact (decide_eq_true (by unfold acF;dsimp only;omega)).symm|exact (decide_eq_false (by unfold acF;dsimp only;omega)).symm),HW.out⟩
      ·go_wp2_with (go_at_call 68;refine (inRange_any _ _ _ _).mono ?_;rintro e w' ⟨rfl,rfl⟩;rw [hin])
       all_goals
        go_ret
        exact ⟨ret_bool (by
         rw [HBK.out]
         have e:=HXL.out
         first|exact (decide_eq_true (by unfold acF;dsimp only;omega)).symm|exact (decide_eq_false (by unfold acF;dsimp only;omega)).symm),HW.out⟩
      ·go_wp2_with (go_at_call 68;refine (inRange_any _ _ _ _).mono ?_;rintro e w' ⟨rfl,rfl⟩;rw [hin])
       all_goals
        go_ret
        exact ⟨ret_bool (by
         rw [HBK.out]
         have e:=HXL.out
         first|exact (decide_eq_true (by unfold acF;dsimp only;omega)).symm|exact (decide_eq_false (by unfold acF;dsimp only;omega)).symm),HW.out⟩
      ·go_wp2_with (go_at_call 68;refine (inRange_any _ _ _ _).mono ?_;rintro e w' ⟨rfl,rfl⟩;rw [hin])
       all_goals
        go_ret
        exact ⟨ret_bool (by
         rw [HBK.out]
         have e:=HXL.out
         first|exact (decide_eq_true (by unfold acF;dsimp only;omega)).symm|exact (decide_eq_false (by unfold acF;dsimp only;omega)).symm),HW.out⟩
      ·go_wp2_with (go_at_call 68;refine (inRange_any _ _ _ _).mono ?_;rintro e w' ⟨rfl,rfl⟩;rw [hin])
       all_goals
        go_ret
        exact ⟨ret_bool (by
         rw [HBK.out]
         have e:=HXL.out
         first|exact (decide_eq_true (by unfold acF;dsimp only;omega)).symm|exact (decide_eq_false (by unfold acF;dsimp only;omega)).symm),HW.out⟩
      ·go_wp2_with (go_at_call 68;refine (inRange_any _ _ _ _).mono ?_;rintro e w' ⟨rfl,rfl⟩;rw [hin])
       all_goals
        go_ret
        exact ⟨ret_bool (by
         rw [HBK.out]
         have e:=HXL.out
         first|exact (decide_eq_true (by unfold acF;dsimp only;omega)).symm|exact (decide_eq_false (by unfold acF;dsimp only;omega)).symm),HW.out⟩
   ·have d20:decide ((n:Int)>20)=true:=by simp;omega
    have HF:Hid (actOk b ⟨kd,xa,xb,xc,⟨r0,r1,r2,r3⟩,ws⟩=false):=actOk_no (fun h=>by have e:=HXL.out;have:=h.2.1;dsimp only at *;omega)
    clear hk
    go_wp2_with (go_at_call 68;refine (inRange_any _ _ _ _).mono ?_;rintro e w' ⟨rfl,rfl⟩;rw [hin])
    all_goals
     go_ret
     exact ⟨ret_bool HF.out.symm,HW.out⟩
  ·have hin:inR x.kind 0 6=false:=by cases h:inR x.kind 0 6 with|false=>rfl|true=>exact absurd (inR_iff.1 h) hk
   have HF:Hid (actOk b x=false):=actOk_no (fun h=>hk h.1)
   go_wp2_with (go_at_call 68;refine (inRange_any _ _ _ _).mono ?_;rintro e w' ⟨rfl,rfl⟩;rw [hin])
   go_ret
   exact ⟨ret_bool HF.out.symm,HW.out⟩
end Go.Proofs.YtbnfdhidgdfbeaaGreat

namespace Go.Proofs.YtbnfdhidgdfbeaaGreat
set_option maxRecDepth 100000
open Go.RowKit

set_option maxHeartbeats 4000000 in
theorem sactOk_any (b:Bd) (s:Sl3) (x:Ac) (A:Option Addr) (n c:Nat) (w:World) (hB:BoardRd w b s) (hA:Ints w A n x.words) (z1:size2 b.frames≤1099511627776) (z2:s.n2≤16777216) (z3:size2 b.saved≤1099511627776) (zn:n≤1099511627776) :
  Calls Tryz.prog 75 #[.agg (bdArr b s),.agg (acArr x A n c)] w fun e w'=>e = .returned (.bool (actOk b x))∧Below w.heap.size w w':=by
 have HB0:=Lib.hid (below_new (below_new (Below.refl w.heap.size w) (.cells (bdArr b s) 31)) (.cells (acArr x A n c) 66))
 have HBR:=Lib.hid hB
 have HXL:=Lib.hid hA.1
 have X0:=Lib.hid (heap_newAt (w:=w.alloc (.cells (bdArr b s) 31)) (o := .cells (acArr x A n c) 66) (g:=w.heap.size+1) (by simp))
 clear hB hA
 go_enter Tryz.func75,Tryz.ntmps75
 go_wp2_with fail
 refine (sboardOk_any b s _ (HBR.out.below HB0.out) z1 z2 z3).mono ?_
 rintro e w1 ⟨rfl,b1⟩
 replace X0:=Lib.hid (heap_tr b1 X0.out)
 have HW:=Lib.hid (below_tr HB0.out b1)
 obtain ⟨x0,x1,x2,x3,x4,x5,x6,x7,x8⟩:=cells9 X0.out
 clear b1
 cases hb:bkF b with
 | false =>
  have HF:Hid (actOk b x=false):=by show _=_;unfold actOk;rw [hb];rfl
  clear hb
  go_wp2_with fail
  go_ret
  exact ⟨ret_bool HF.out.symm,HW.out⟩
 | true =>
  have HBK:=Lib.hid (actOk_is (x:=x) hb)
  clear hb
  by_cases hk:0≤x.kind∧x.kind≤6
  ·have hin:inR x.kind 0 6=true:=inR_iff.2 hk
   obtain ⟨kd,xa,xb,xc,⟨r0,r1,r2,r3⟩,ws⟩:=x
   dsimp only at *
   by_cases h20:n≤20
   ·have d20:decide ((n:Int)>20)=false:=by simp;omega
    have hkd:kd=0∨kd=1∨kd=2∨kd=3∨kd=4∨kd=5∨kd=6:=by omega
    clear hk
    by_cases hxc:xc=0
    ·subst hxc
     by_cases hn:n=0
     ·subst hn
      rcases hkd with rfl|rfl|rfl|rfl|rfl|rfl|rfl
      ·go_wp2_with (go_at_call 119;refine (l01In_any _ _ _ _).mono ?_;rintro e w' ⟨rfl,rfl⟩;rw [hin])
       all_goals
        go_ret
        exact ⟨ret_bool (by
         rw [HBK.out]
         have e:=HXL.out
         first|exact (decide_eq_true (by unfold acF;dsimp only;omega)).symm|exact (decide_eq_false (by unfold acF;dsimp only;omega)).symm|(rw [Bool.eq_iff_iff,beq_iff_eq,decide_eq_true_eq];unfold acF;dsimp only;constructor <;> intro _ <;> omega)),HW.out⟩
      ·go_wp2_with (go_at_call 119;refine (l01In_any _ _ _ _).mono ?_;rintro e w' ⟨rfl,rfl⟩;rw [hin])
       all_goals
        go_ret
        exact ⟨ret_bool (by
         rw [HBK.out]
         have e:=HXL.out
         first|exact (decide_eq_true (by unfold acF;dsimp only;omega)).symm|exact (decide_eq_false (by unfold acF;dsimp only;omega)).symm|(rw [Bool.eq_iff_iff,beq_iff_eq,decide_eq_true_eq];unfold acF;dsimp only;constructor <;> intro _ <;> omega)),HW.out⟩
      ·go_wp2_with (go_at_call 119;refine (l01In_any _ _ _ _).mono ?_;rintro e w' ⟨rfl,rfl⟩;rw [hin])
       all_goals
        go_ret
        exact ⟨ret_bool (by
         rw [HBK.out]
         have e:=HXL.out
         first|exact (decide_eq_true (by unfold acF;dsimp only;omega)).symm|exact (decide_eq_false (by unfold acF;dsimp only;omega)).symm|(rw [Bool.eq_iff_iff,beq_iff_eq,decide_eq_true_eq];unfold acF;dsimp only;constructor <;> intro _ <;> omega)),HW.out⟩
      ·go_wp2_with (go_at_call 119;refine (l01In_any _ _ _ _).mono ?_;rintro e w' ⟨rfl,rfl⟩;rw [hin])
       all_goals
        go_ret
        exact ⟨ret_bool (by
         rw [HBK.out]
         have e:=HXL.out
         first|exact (decide_eq_true (by unfold acF;dsimp only;omega)).symm|exact (decide_eq_false (by unfold acF;dsimp only;omega)).symm|(rw [Bool.eq_iff_iff,beq_iff_eq,decide_eq_true_eq];unfold acF;dsimp only;constructor <;> intro _ <;> omega)),HW.out⟩
      ·go_wp2_with (go_at_call 119;refine (l01In_any _ _ _ _).mono ?_;rintro e w' ⟨rfl,rfl⟩;rw [hin])
       all_goals
        go_ret
        exact ⟨ret_bool (by
         rw [HBK.out]
         have e:=HXL.out
         first|exact (decide_eq_true (by unfold acF;dsimp only;omega)).symm|exact (decide_eq_false (by unfold acF;dsimp only;omega)).symm|(rw [Bool.eq_iff_iff,beq_iff_eq,decide_eq_true_eq];unfold acF;dsimp only;constructor <;> intro _ <;> omega)),HW.out⟩
      ·go_wp2_with (go_at_call 119;refine (l01In_any _ _ _ _).mono ?_;rintro e w' ⟨rfl,rfl⟩;rw [hin])
       all_goals
        go_ret
        exact ⟨ret_bool (by
         rw [HBK.out]
         have e:=HXL.out
         first|exact (decide_eq_true (by unfold acF;dsimp only;omega)).symm|exact (decide_eq_false (by unfold acF;dsimp only;omega)).symm|(rw [Bool.eq_iff_iff,beq_iff_eq,decide_eq_true_eq];unfold acF;dsimp only;constructor <;> intro _ <;> omega)),HW.out⟩
      ·go_wp2_with (go_at_call 119;refine (l01In_any _ _ _ _).mono ?_;rintro e w' ⟨rfl,rfl⟩;rw [hin])
       all_goals
        go_ret
        exact ⟨ret_bool (by
         rw [HBK.out]
         have e:=HXL.out
         first|exact (decide_eq_true (by unfold acF;dsimp only;omega)).symm|exact (decide_eq_false (by unfold acF;dsimp only;omega)).symm|(rw [Bool.eq_iff_iff,beq_iff_eq,decide_eq_true_eq];unfold acF;dsimp only;constructor <;> intro _ <;> omega)),HW.out⟩
     ·have d0:((n:Int)==0)=false:=by simp;omega
      have d1:decide ((n:Int)>0)=true:=by simp;omega
      rcases hkd with rfl|rfl|rfl|rfl|rfl|rfl|rfl
      ·go_wp2_with (go_at_call 119;refine (l01In_any _ _ _ _).mono ?_;rintro e w' ⟨rfl,rfl⟩;rw [hin])
       all_goals
        go_ret
        exact ⟨ret_bool (by
         rw [HBK.out]
         have e:=HXL.out
         first|exact (decide_eq_true (by unfold acF;dsimp only;omega)).symm|exact (decide_eq_false (by unfold acF;dsimp only;omega)).symm|(rw [Bool.eq_iff_iff,beq_iff_eq,decide_eq_true_eq];unfold acF;dsimp only;constructor <;> intro _ <;> omega)),HW.out⟩
      ·go_wp2_with (go_at_call 119;refine (l01In_any _ _ _ _).mono ?_;rintro e w' ⟨rfl,rfl⟩;rw [hin])
       all_goals
        go_ret
        exact ⟨ret_bool (by
         rw [HBK.out]
         have e:=HXL.out
         first|exact (decide_eq_true (by unfold acF;dsimp only;omega)).symm|exact (decide_eq_false (by unfold acF;dsimp only;omega)).symm|(rw [Bool.eq_iff_iff,beq_iff_eq,decide_eq_true_eq];unfold acF;dsimp only;constructor <;> intro _ <;> omega)),HW.out⟩
      ·go_wp2_with (go_at_call 119;refine (l01In_any _ _ _ _).mono ?_;rintro e w' ⟨rfl,rfl⟩;rw [hin])
       all_goals
        go_ret
        exact ⟨ret_bool (by
         rw [HBK.out]
         have e:=HXL.out
         first|exact (decide_eq_true (by unfold acF;dsimp only;omega)).symm|exact (decide_eq_false (by unfold acF;dsimp only;omega)).symm|(rw [Bool.eq_iff_iff,beq_iff_eq,decide_eq_true_eq];unfold acF;dsimp only;constructor <;> intro _ <;> omega)),HW.out⟩
      ·go_wp2_with (go_at_call 119;refine (l01In_any _ _ _ _).mono ?_;rintro e w' ⟨rfl,rfl⟩;rw [hin])
       all_goals
        go_ret
        exact ⟨ret_bool (by
         rw [HBK.out]
         have e:=HXL.out
         first|exact (decide_eq_true (by unfold acF;dsimp only;omega)).symm|exact (decide_eq_false (by unfold acF;dsimp only;omega)).symm|(rw [Bool.eq_iff_iff,beq_iff_eq,decide_eq_true_eq];unfold acF;dsimp only;constructor <;> intro _ <;> omega)),HW.out⟩
      ·go_wp2_with (go_at_call 119;refine (l01In_any _ _ _ _).mono ?_;rintro e w' ⟨rfl,rfl⟩;rw [hin])
       all_goals
        go_ret
        exact ⟨ret_bool (by
         rw [HBK.out]
         have e:=HXL.out
         first|exact (decide_eq_true (by unfold acF;dsimp only;omega)).symm|exact (decide_eq_false (by unfold acF;dsimp only;omega)).symm|(rw [Bool.eq_iff_iff,beq_iff_eq,decide_eq_true_eq];unfold acF;dsimp only;constructor <;> intro _ <;> omega)),HW.out⟩
      ·go_wp2_with (go_at_call 119;refine (l01In_any _ _ _ _).mono ?_;rintro e w' ⟨rfl,rfl⟩;rw [hin])
       all_goals
        go_ret
        exact ⟨ret_bool (by
         rw [HBK.out]
         have e:=HXL.out
         first|exact (decide_eq_true (by unfold acF;dsimp only;omega)).symm|exact (decide_eq_false (by unfold acF;dsimp only;omega)).symm|(rw [Bool.eq_iff_iff,beq_iff_eq,decide_eq_true_eq];unfold acF;dsimp only;constructor <;> intro _ <;> omega)),HW.out⟩
      ·go_wp2_with (go_at_call 119;refine (l01In_any _ _ _ _).mono ?_;rintro e w' ⟨rfl,rfl⟩;rw [hin])
       all_goals
        go_ret
        exact ⟨ret_bool (by
         rw [HBK.out]
         have e:=HXL.out
         first|exact (decide_eq_true (by unfold acF;dsimp only;omega)).symm|exact (decide_eq_false (by unfold acF;dsimp only;omega)).symm|(rw [Bool.eq_iff_iff,beq_iff_eq,decide_eq_true_eq];unfold acF;dsimp only;constructor <;> intro _ <;> omega)),HW.out⟩
    ·have dxc:(xc != 0)=true:=by simpa using hxc
     have dxc2:(xc==0)=false:=by simpa using hxc
     by_cases hn:n=0
     ·subst hn
      rcases hkd with rfl|rfl|rfl|rfl|rfl|rfl|rfl
      ·go_wp2_with (go_at_call 119;refine (l01In_any _ _ _ _).mono ?_;rintro e w' ⟨rfl,rfl⟩;rw [hin])
       all_goals
        go_ret
        exact ⟨ret_bool (by
         rw [HBK.out]
         have e:=HXL.out
         first|exact (decide_eq_true (by unfold acF;dsimp only;omega)).symm|exact (decide_eq_false (by unfold acF;dsimp only;omega)).symm|(rw [Bool.eq_iff_iff,beq_iff_eq,decide_eq_true_eq];unfold acF;dsimp only;constructor <;> intro _ <;> omega)),HW.out⟩
      ·go_wp2_with (go_at_call 119;refine (l01In_any _ _ _ _).mono ?_;rintro e w' ⟨rfl,rfl⟩;rw [hin])
       all_goals
        go_ret
        exact ⟨ret_bool (by
         rw [HBK.out]
         have e:=HXL.out
         first|exact (decide_eq_true (by unfold acF;dsimp only;omega)).symm|exact (decide_eq_false (by unfold acF;dsimp only;omega)).symm|(rw [Bool.eq_iff_iff,beq_iff_eq,decide_eq_true_eq];unfold acF;dsimp only;constructor <;> intro _ <;> omega)),HW.out⟩
      ·go_wp2_with (go_at_call 119;refine (l01In_any _ _ _ _).mono ?_;rintro e w' ⟨rfl,rfl⟩;rw [hin])
       all_goals
        go_ret
        exact ⟨ret_bool (by
         rw [HBK.out]
         have e:=HXL.out
         first|exact (decide_eq_true (by unfold acF;dsimp only;omega)).symm|exact (decide_eq_false (by unfold acF;dsimp only;omega)).symm|(rw [Bool.eq_iff_iff,beq_iff_eq,decide_eq_true_eq];unfold acF;dsimp only;constructor <;> intro _ <;> omega)),HW.out⟩
      ·go_wp2_with (go_at_call 119;refine (l01In_any _ _ _ _).mono ?_;rintro e w' ⟨rfl,rfl⟩;rw [hin])
       all_goals
        go_ret
        exact ⟨ret_bool (by
         rw [HBK.out]
         have e:=HXL.out
         first|exact (decide_eq_true (by unfold acF;dsimp only;omega)).symm|exact (decide_eq_false (by unfold acF;dsimp only;omega)).symm|(rw [Bool.eq_iff_iff,beq_iff_eq,decide_eq_true_eq];unfold acF;dsimp only;constructor <;> intro _ <;> omega)),HW.out⟩
      ·go_wp2_with (go_at_call 119;refine (l01In_any _ _ _ _).mono ?_;rintro e w' ⟨rfl,rfl⟩;rw [hin])
       all_goals
        go_ret
        exact ⟨ret_bool (by
         rw [HBK.out]
         have e:=HXL.out
         first|exact (decide_eq_true (by unfold acF;dsimp only;omega)).symm|exact (decide_eq_false (by unfold acF;dsimp only;omega)).symm|(rw [Bool.eq_iff_iff,beq_iff_eq,decide_eq_true_eq];unfold acF;dsimp only;constructor <;> intro _ <;> omega)),HW.out⟩
      ·go_wp2_with (go_at_call 119;refine (l01In_any _ _ _ _).mono ?_;rintro e w' ⟨rfl,rfl⟩;rw [hin])
       all_goals
        go_ret
        exact ⟨ret_bool (by
         rw [HBK.out]
         have e:=HXL.out
         first|exact (decide_eq_true (by unfold acF;dsimp only;omega)).symm|exact (decide_eq_false (by unfold acF;dsimp only;omega)).symm|(rw [Bool.eq_iff_iff,beq_iff_eq,decide_eq_true_eq];unfold acF;dsimp only;constructor <;> intro _ <;> omega)),HW.out⟩
      ·go_wp2_with (go_at_call 119;refine (l01In_any _ _ _ _).mono ?_;rintro e w' ⟨rfl,rfl⟩;rw [hin])
       all_goals
        go_ret
        exact ⟨ret_bool (by
         rw [HBK.out]
         have e:=HXL.out
         first|exact (decide_eq_true (by unfold acF;dsimp only;omega)).symm|exact (decide_eq_false (by unfold acF;dsimp only;omega)).symm|(rw [Bool.eq_iff_iff,beq_iff_eq,decide_eq_true_eq];unfold acF;dsimp only;constructor <;> intro _ <;> omega)),HW.out⟩
     ·have d0:((n:Int)==0)=false:=by simp;omega
      have d1:decide ((n:Int)>0)=true:=by simp;omega
      rcases hkd with rfl|rfl|rfl|rfl|rfl|rfl|rfl
      ·go_wp2_with (go_at_call 119;refine (l01In_any _ _ _ _).mono ?_;rintro e w' ⟨rfl,rfl⟩;rw [hin])
       all_goals
        go_ret
        exact ⟨ret_bool (by
         rw [HBK.out]
         have e:=HXL.out
         first|exact (decide_eq_true (by unfold acF;dsimp only;omega)).symm|exact (decide_eq_false (by unfold acF;dsimp only;omega)).symm|(rw [Bool.eq_iff_iff,beq_iff_eq,decide_eq_true_eq];unfold acF;dsimp only;constructor <;> intro _ <;> omega)),HW.out⟩
      ·go_wp2_with (go_at_call 119;refine (l01In_any _ _ _ _).mono ?_;rintro e w' ⟨rfl,rfl⟩;rw [hin])
       all_goals
        go_ret
        exact ⟨ret_bool (by
         rw [HBK.out]
         have e:=HXL.out
         first|exact (decide_eq_true (by unfold acF;dsimp only;omega)).symm|exact (decide_eq_false (by unfold acF;dsimp only;omega)).symm|(rw [Bool.eq_iff_iff,beq_iff_eq,decide_eq_true_eq];unfold acF;dsimp only;constructor <;> intro _ <;> omega)),HW.out⟩
      ·go_wp2_with (go_at_call 119;refine (l01In_any _ _ _ _).mono ?_;rintro e w' ⟨rfl,rfl⟩;rw [hin])
       all_goals
        go_ret
        exact ⟨ret_bool (by
         rw [HBK.out]
         have e:=HXL.out
         first|exact (decide_eq_true (by unfold acF;dsimp only;omega)).symm|exact (decide_eq_false (by unfold acF;dsimp only;omega)).symm|(rw [Bool.eq_iff_iff,beq_iff_eq,decide_eq_true_eq];unfold acF;dsimp only;constructor <;> intro _ <;> omega)),HW.out⟩
      ·go_wp2_with (go_at_call 119;refine (l01In_any _ _ _ _).mono ?_;rintro e w' ⟨rfl,rfl⟩;rw [hin])
       all_goals
        go_ret
        exact ⟨ret_bool (by
         rw [HBK.out]
         have e:=HXL.out
         first|exact (decide_eq_true (by unfold acF;dsimp only;omega)).symm|exact (decide_eq_false (by unfold acF;dsimp only;omega)).symm|(rw [Bool.eq_iff_iff,beq_iff_eq,decide_eq_true_eq];unfold acF;dsimp only;constructor <;> intro _ <;> omega)),HW.out⟩
      ·go_wp2_with (go_at_call 119;refine (l01In_any _ _ _ _).mono ?_;rintro e w' ⟨rfl,rfl⟩;rw [hin])
       all_goals
        go_ret
        exact ⟨ret_bool (by
         rw [HBK.out]
         have e:=HXL.out
         first|exact (decide_eq_true (by unfold acF;dsimp only;omega)).symm|exact (decide_eq_false (by unfold acF;dsimp only;omega)).symm|(rw [Bool.eq_iff_iff,beq_iff_eq,decide_eq_true_eq];unfold acF;dsimp only;constructor <;> intro _ <;> omega)),HW.out⟩
      ·go_wp2_with (go_at_call 119;refine (l01In_any _ _ _ _).mono ?_;rintro e w' ⟨rfl,rfl⟩;rw [hin])
       all_goals
        go_ret
        exact ⟨ret_bool (by
         rw [HBK.out]
         have e:=HXL.out
         first|exact (decide_eq_true (by unfold acF;dsimp only;omega)).symm|exact (decide_eq_false (by unfold acF;dsimp only;omega)).symm|(rw [Bool.eq_iff_iff,beq_iff_eq,decide_eq_true_eq];unfold acF;dsimp only;constructor <;> intro _ <;> omega)),HW.out⟩
      ·go_wp2_with (go_at_call 119;refine (l01In_any _ _ _ _).mono ?_;rintro e w' ⟨rfl,rfl⟩;rw [hin])
       all_goals
        go_ret
        exact ⟨ret_bool (by
         rw [HBK.out]
         have e:=HXL.out
         first|exact (decide_eq_true (by unfold acF;dsimp only;omega)).symm|exact (decide_eq_false (by unfold acF;dsimp only;omega)).symm|(rw [Bool.eq_iff_iff,beq_iff_eq,decide_eq_true_eq];unfold acF;dsimp only;constructor <;> intro _ <;> omega)),HW.out⟩
   ·have d20:decide ((n:Int)>20)=true:=by simp;omega
    have HF:Hid (actOk b ⟨kd,xa,xb,xc,⟨r0,r1,r2,r3⟩,ws⟩=false):=actOk_no (fun h=>by have e:=HXL.out;have:=h.2.1;dsimp only at *;omega)
    clear hk
    go_wp2_with (go_at_call 119;refine (l01In_any _ _ _ _).mono ?_;rintro e w' ⟨rfl,rfl⟩;rw [hin])
    all_goals
     go_ret
     exact ⟨ret_bool HF.out.symm,HW.out⟩
  ·have hin:inR x.kind 0 6=false:=by cases h:inR x.kind 0 6 with|false=>rfl|true=>exact absurd (inR_iff.1 h) hk
   have HF:Hid (actOk b x=false):=actOk_no (fun h=>hk h.1)
   go_wp2_with (go_at_call 119;refine (l01In_any _ _ _ _).mono ?_;rintro e w' ⟨rfl,rfl⟩;rw [hin])
   go_ret
   exact ⟨ret_bool HF.out.symm,HW.out⟩
end Go.Proofs.YtbnfdhidgdfbeaaGreat
