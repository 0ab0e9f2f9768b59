/- Boards that come in: how they read. -/
import Derived.Test.YtignkfhdkcgkgaaGreatBkS
namespace Go.Proofs.YtignkfhdkcgkgaaGreat
set_option maxHeartbeats 4000000
set_option maxRecDepth 100000
open Go.RowKit Go.ChangeShapes Go.WideShapes Go.ChangeAt
section
variable {H:Type} {enc:TypeId × Value→H} {W:World} {b0 base:Nat} {spare:Nat→Bool} {held:Bool}
end
structure Ac where
 kind:Int
 A:Int
 B:Int
 C:Int
 reg:Reg
 words:List Int
abbrev dS (x:Ac) (A:Option Addr) (n c:Nat):Array Value:=#[.int .i64 x.kind,.int .i64 x.A,.int .i64 x.B,.int .i64 x.C,.int .i64 x.reg.X0,.int .i64 x.reg.Y0,.int .i64 x.reg.X1,.int .i64 x.reg.Y1,.slice A n c]
theorem cK {w:World} {g:Nat} {v0 v1 v2 v3 v4 v5 v6 v7 v8:Value} {t:TypeId} (h:w.heap[g]?=some (.cells #[v0,v1,v2,v3,v4,v5,v6,v7,v8] t (0,0))):w.cell? ⟨g,0,none⟩=some v0/\w.cell? ⟨g,1,none⟩=some v1/\w.cell? ⟨g,2,none⟩=some v2/\w.cell? ⟨g,3,none⟩=some v3/\w.cell? ⟨g,4,none⟩=some v4/\w.cell? ⟨g,5,none⟩=some v5/\w.cell? ⟨g,6,none⟩=some v6/\w.cell? ⟨g,7,none⟩=some v7/\w.cell? ⟨g,8,none⟩=some v8 :=
 ⟨aC h rfl,aC h rfl,aC h rfl,aC h rfl,aC h rfl,aC h rfl,aC h rfl,aC h rfl,aC h rfl⟩
theorem KR {w:World} {g:Nat} {v0 v1 v2 v3 v4 v5 v6 v7 v8 u0 u1 u2 u3 u4 u5 u6 u7 u8:Value} {t:TypeId} (h:w.heap[g]?=some (.cells #[v0,v1,v2,v3,v4,v5,v6,v7,v8] t (0,0))):(((((((((w.setCell ⟨g,0,none⟩ u0).setCell ⟨g,1,none⟩ u1).setCell ⟨g,2,none⟩ u2).setCell ⟨g,3,none⟩ u3).setCell ⟨g,4,none⟩ u4).setCell ⟨g,5,none⟩ u5).setCell ⟨g,6,none⟩ u6).setCell ⟨g,7,none⟩ u7).setCell ⟨g,8,none⟩ u8).heap[g]?=some (.cells #[u0,u1,u2,u3,u4,u5,u6,u7,u8] t (0,0)):=by
 have h1:=bH (k:=0) (cs':=#[u0,v1,v2,v3,v4,v5,v6,v7,v8]) h u0 rfl
 have h2:=bH (k:=1) (cs':=#[u0,u1,v2,v3,v4,v5,v6,v7,v8]) h1 u1 rfl
 have h3:=bH (k:=2) (cs':=#[u0,u1,u2,v3,v4,v5,v6,v7,v8]) h2 u2 rfl
 have h4:=bH (k:=3) (cs':=#[u0,u1,u2,u3,v4,v5,v6,v7,v8]) h3 u3 rfl
 have h5:=bH (k:=4) (cs':=#[u0,u1,u2,u3,u4,v5,v6,v7,v8]) h4 u4 rfl
 have h6:=bH (k:=5) (cs':=#[u0,u1,u2,u3,u4,u5,v6,v7,v8]) h5 u5 rfl
 have h7:=bH (k:=6) (cs':=#[u0,u1,u2,u3,u4,u5,u6,v7,v8]) h6 u6 rfl
 have h8:=bH (k:=7) (cs':=#[u0,u1,u2,u3,u4,u5,u6,u7,v8]) h7 u7 rfl
 have h9:=bH (k:=8) (cs':=#[u0,u1,u2,u3,u4,u5,u6,u7,u8]) h8 u8 rfl
 exact h9
section
variable {H:Type} {enc:TypeId × Value→H} {W:World} {b0 base:Nat} {held:Bool}
end
def vL (w:World) (g0 g1 g:Nat) (cs cs1 cs':Array Value):Prop:=w.heap[g0]?=some (.cells cs 85 (0,0))/\w.heap[g1]?=some (.cells cs1 74 (0,0))/\w.heap[g]?=some (.cells cs' 74 (0,0))
theorem vL.tr {w w':World} {g0 g1 g:Nat} {cs cs1 cs':Array Value} (h:vL w g0 g1 g cs cs1 cs') (hb:Below w.heap.size w w'):vL w' g0 g1 g cs cs1 cs':=⟨aJ hb h.1,aJ hb h.2.1,aJ hb h.2.2⟩
theorem vL.set {w:World} {g0 g1 g k:Nat} {cs cs1 cs' cs2:Array Value} (h:vL w g0 g1 g cs cs1 cs') (hn:g0≠g) (hn1:g1≠g) (v:Value) (e:cs'.setIfInBounds k v=cs2):vL (w.setCell ⟨g,k,none⟩ v) g0 g1 g cs cs1 cs2:=⟨fC h.1 hn v,fC h.2.1 hn1 v,bH h.2.2 v e⟩
def acF (x:Ac):Prop:=(0<=x.kind/\x.kind<=6)/\x.words.length<=20/\(x.A=0∨x.kind=0∨x.kind=1∨x.kind=4∨x.kind=5)/\(x.kind=1∨(x.B=0/\x.C=0))/\(x.kind=3∨(x.reg.X0=0/\x.reg.Y0=0/\x.reg.X1=0/\x.reg.Y1=0))/\(x.kind=4∨x.words.length=0)
instance (x:Ac):Decidable (acF x):=by unfold acF;exact inferInstance
def kD (b:Bd) (x:Ac):Bool:=bkF b && decide (acF x)
theorem uf {b:Bd} {x:Ac} (h:¬acF x):kD b x=false:=by unfold kD;rw [decide_eq_false h,Bool.and_false]
theorem DN {b:Bd} {x:Ac} (h:bkF b=true):kD b x=decide (acF x):=by unfold kD;rw [h];rfl
theorem Ec (b:Bd) (s:Sl3) (x:Ac) (A:Option Addr) (n c:Nat) (w:World) (hB:bT w b s) (hA:bN w A n x.words) (z1:bF b.frames<=1099511627776) (z2:s.n2<=16777216) (z3:bF b.saved<=1099511627776) (zn:n<=1099511627776) :
  Calls Tryz.prog 103 #[.agg (aD b s),.agg (dS x A n c)] w fun e w'=>e = .returned (.bool (kD b x))/\Below w.heap.size w w':=by
 have HB0:=Hd (aB (aB (Below.refl w.heap.size w) (.cells (aD b s) 31)) (.cells (dS x A n c) 74))
 have HBR:=Hd hB
 have HXL:=Hd hA.1
 have X0:=Hd (ax (w:=w.alloc (.cells (aD b s) 31)) (o := .cells (dS x A n c) 74) (g:=w.heap.size+1) (by simp))
 clear hB hA
 go_enter Tryz.func103,Tryz.ntmps103
 go_wp2_with fail
 refine (fA b s _ (HBR.out.below HB0.out) z1 z2 z3).mono ?_
 rintro e w1 ⟨rfl,b1⟩
 replace X0:=Hd (aJ b1 X0.out)
 have HW:=Hd (aA HB0.out b1)
 obtain ⟨x0,x1,x2,x3,x4,x5,x6,x7,x8⟩:=cK X0.out
 clear b1
 cases hb:bkF b with
 | false =>
  have HF:Hid (kD b x=false):=by show _=_;unfold kD;rw [hb];rfl
  clear hb
  go_wp2_with fail
  go_ret
  exact ⟨aI HF.out.symm,HW.out⟩
 | true =>
  have HBK:=Hd (DN (x:=x) hb)
  clear hb
  by_cases hk:0<=x.kind/\x.kind<=6
  ·have hin:inR x.kind 0 6=true:=aa.2 hk
   obtain ⟨kd,xa,xb,xc,⟨r0,r1,r2,r3⟩,ws⟩:=x
   dsimp only at *
   by_cases h20:n<=20
   ·have d20:decide ((n:Int)>20)=false:=by simp;omega
    have hkd:kd=0∨kd=1∨kd=2∨kd=3∨kd=4∨kd=5∨kd=6:=by omega
    clear hk
    by_cases hxc:xc=0
    ·subst hxc
     by_cases hn:n=0
     ·subst hn
      rcases hkd with rfl|rfl|rfl|rfl|rfl|rfl|rfl
      ·go_wp2_with (go_at_call 116;refine (aN _ _ _ _).mono ?_;rintro e w' ⟨rfl,rfl⟩;rw [hin])
       all_goals
        go_ret
        exact ⟨aI (by
         rw [HBK.out]
         have e:=HXL.out
         first|exact (decide_eq_true (by unfold acF;dsimp only;omega)).symm|exact (decide_eq_false (by unfold acF;dsimp only;omega)).symm),HW.out⟩
      ·go_wp2_with (go_at_call 116;refine (aN _ _ _ _).mono ?_;rintro e w' ⟨rfl,rfl⟩;rw [hin])
       all_goals
        go_ret
        exact ⟨aI (by
         rw [HBK.out]
         have e:=HXL.out
         first|exact (decide_eq_true (by unfold acF;dsimp only;omega)).symm|exact (decide_eq_false (by unfold acF;dsimp only;omega)).symm),HW.out⟩
      ·go_wp2_with (go_at_call 116;refine (aN _ _ _ _).mono ?_;rintro e w' ⟨rfl,rfl⟩;rw [hin])
       all_goals
        go_ret
        exact ⟨aI (by
         rw [HBK.out]
         have e:=HXL.out
         first|exact (decide_eq_true (by unfold acF;dsimp only;omega)).symm|exact (decide_eq_false (by unfold acF;dsimp only;omega)).symm),HW.out⟩
      ·go_wp2_with (go_at_call 116;refine (aN _ _ _ _).mono ?_;rintro e w' ⟨rfl,rfl⟩;rw [hin])
       all_goals
        go_ret
        exact ⟨aI (by
         rw [HBK.out]
         have e:=HXL.out
         first|exact (decide_eq_true (by unfold acF;dsimp only;omega)).symm|exact (decide_eq_false (by unfold acF;dsimp only;omega)).symm),HW.out⟩
      ·go_wp2_with (go_at_call 116;refine (aN _ _ _ _).mono ?_;rintro e w' ⟨rfl,rfl⟩;rw [hin])
       all_goals
        go_ret
        exact ⟨aI (by
         rw [HBK.out]
         have e:=HXL.out
         first|exact (decide_eq_true (by unfold acF;dsimp only;omega)).symm|exact (decide_eq_false (by unfold acF;dsimp only;omega)).symm),HW.out⟩
      ·go_wp2_with (go_at_call 116;refine (aN _ _ _ _).mono ?_;rintro e w' ⟨rfl,rfl⟩;rw [hin])
       all_goals
        go_ret
        exact ⟨aI (by
         rw [HBK.out]
         have e:=HXL.out
         first|exact (decide_eq_true (by unfold acF;dsimp only;omega)).symm|exact (decide_eq_false (by unfold acF;dsimp only;omega)).symm),HW.out⟩
      ·go_wp2_with (go_at_call 116;refine (aN _ _ _ _).mono ?_;rintro e w' ⟨rfl,rfl⟩;rw [hin])
       all_goals
        go_ret
        exact ⟨aI (by
         rw [HBK.out]
         have e:=HXL.out
         first|exact (decide_eq_true (by unfold acF;dsimp only;omega)).symm|exact (decide_eq_false (by unfold acF;dsimp only;omega)).symm),HW.out⟩
     ·have d0:((n:Int)==0)=false:=by simp;omega
      have d1:decide ((n:Int)>0)=true:=by simp;omega
      rcases hkd with rfl|rfl|rfl|rfl|rfl|rfl|rfl
      ·go_wp2_with (go_at_call 116;refine (aN _ _ _ _).mono ?_;rintro e w' ⟨rfl,rfl⟩;rw [hin])
       all_goals
        go_ret
        exact ⟨aI (by
         rw [HBK.out]
         have e:=HXL.out
         first|exact (decide_eq_true (by unfold acF;dsimp only;omega)).symm|exact (decide_eq_false (by unfold acF;dsimp only;omega)).symm),HW.out⟩
      ·go_wp2_with (go_at_call 116;refine (aN _ _ _ _).mono ?_;rintro e w' ⟨rfl,rfl⟩;rw [hin])
       all_goals
        go_ret
        exact ⟨aI (by
         rw [HBK.out]
         have e:=HXL.out
         first|exact (decide_eq_true (by unfold acF;dsimp only;omega)).symm|exact (decide_eq_false (by unfold acF;dsimp only;omega)).symm),HW.out⟩
      ·go_wp2_with (go_at_call 116;refine (aN _ _ _ _).mono ?_;rintro e w' ⟨rfl,rfl⟩;rw [hin])
       all_goals
        go_ret
        exact ⟨aI (by
         rw [HBK.out]
         have e:=HXL.out
         first|exact (decide_eq_true (by unfold acF;dsimp only;omega)).symm|exact (decide_eq_false (by unfold acF;dsimp only;omega)).symm),HW.out⟩
      ·go_wp2_with (go_at_call 116;refine (aN _ _ _ _).mono ?_;rintro e w' ⟨rfl,rfl⟩;rw [hin])
       all_goals
        go_ret
        exact ⟨aI (by
         rw [HBK.out]
         have e:=HXL.out
         first|exact (decide_eq_true (by unfold acF;dsimp only;omega)).symm|exact (decide_eq_false (by unfold acF;dsimp only;omega)).symm),HW.out⟩
      ·go_wp2_with (go_at_call 116;refine (aN _ _ _ _).mono ?_;rintro e w' ⟨rfl,rfl⟩;rw [hin])
       all_goals
        go_ret
        exact ⟨aI (by
         rw [HBK.out]
         have e:=HXL.out
         first|exact (decide_eq_true (by unfold acF;dsimp only;omega)).symm|exact (decide_eq_false (by unfold acF;dsimp only;omega)).symm),HW.out⟩
      ·go_wp2_with (go_at_call 116;refine (aN _ _ _ _).mono ?_;rintro e w' ⟨rfl,rfl⟩;rw [hin])
       all_goals
        go_ret
        exact ⟨aI (by
         rw [HBK.out]
         have e:=HXL.out
         first|exact (decide_eq_true (by unfold acF;dsimp only;omega)).symm|exact (decide_eq_false (by unfold acF;dsimp only;omega)).symm),HW.out⟩
      ·go_wp2_with (go_at_call 116;refine (aN _ _ _ _).mono ?_;rintro e w' ⟨rfl,rfl⟩;rw [hin])
       all_goals
        go_ret
        exact ⟨aI (by
         rw [HBK.out]
         have e:=HXL.out
         first|exact (decide_eq_true (by unfold acF;dsimp only;omega)).symm|exact (decide_eq_false (by unfold acF;dsimp only;omega)).symm),HW.out⟩
    ·have dxc:(xc != 0)=true:=by simpa using hxc
     have dxc2:(xc==0)=false:=by simpa using hxc
     by_cases hn:n=0
     ·subst hn
      rcases hkd with rfl|rfl|rfl|rfl|rfl|rfl|rfl
      ·go_wp2_with (go_at_call 116;refine (aN _ _ _ _).mono ?_;rintro e w' ⟨rfl,rfl⟩;rw [hin])
       all_goals
        go_ret
        exact ⟨aI (by
         rw [HBK.out]
         have e:=HXL.out
         first|exact (decide_eq_true (by unfold acF;dsimp only;omega)).symm|exact (decide_eq_false (by unfold acF;dsimp only;omega)).symm),HW.out⟩
      ·go_wp2_with (go_at_call 116;refine (aN _ _ _ _).mono ?_;rintro e w' ⟨rfl,rfl⟩;rw [hin])
       all_goals
        go_ret
        exact ⟨aI (by
         rw [HBK.out]
         have e:=HXL.out
         first|exact (decide_eq_true (by unfold acF;dsimp only;omega)).symm|exact (decide_eq_false (by unfold acF;dsimp only;omega)).symm),HW.out⟩
      ·go_wp2_with (go_at_call 116;refine (aN _ _ _ _).mono ?_;rintro e w' ⟨rfl,rfl⟩;rw [hin])
       all_goals
        go_ret
        exact ⟨aI (by
         rw [HBK.out]
         have e:=HXL.out
         first|exact (decide_eq_true (by unfold acF;dsimp only;omega)).symm|exact (decide_eq_false (by unfold acF;dsimp only;omega)).symm),HW.out⟩
      ·go_wp2_with (go_at_call 116;refine (aN _ _ _ _).mono ?_;rintro e w' ⟨rfl,rfl⟩;rw [hin])
       all_goals
        go_ret
        exact ⟨aI (by
         rw [HBK.out]
         have e:=HXL.out
         first|exact (decide_eq_true (by unfold acF;dsimp only;omega)).symm|exact (decide_eq_false (by unfold acF;dsimp only;omega)).symm),HW.out⟩
      ·go_wp2_with (go_at_call 116;refine (aN _ _ _ _).mono ?_;rintro e w' ⟨rfl,rfl⟩;rw [hin])
       all_goals
        go_ret
        exact ⟨aI (by
         rw [HBK.out]
         have e:=HXL.out
         first|exact (decide_eq_true (by unfold acF;dsimp only;omega)).symm|exact (decide_eq_false (by unfold acF;dsimp only;omega)).symm),HW.out⟩
      ·go_wp2_with (go_at_call 116;refine (aN _ _ _ _).mono ?_;rintro e w' ⟨rfl,rfl⟩;rw [hin])
       all_goals
        go_ret
        exact ⟨aI (by
         rw [HBK.out]
         have e:=HXL.out
         first|exact (decide_eq_true (by unfold acF;dsimp only;omega)).symm|exact (decide_eq_false (by unfold acF;dsimp only;omega)).symm),HW.out⟩
      ·go_wp2_with (go_at_call 116;refine (aN _ _ _ _).mono ?_;rintro e w' ⟨rfl,rfl⟩;rw [hin])
       all_goals
        go_ret
        exact ⟨aI (by
         rw [HBK.out]
         have e:=HXL.out
         first|exact (decide_eq_true (by unfold acF;dsimp only;omega)).symm|exact (decide_eq_false (by unfold acF;dsimp only;omega)).symm),HW.out⟩
     ·have d0:((n:Int)==0)=false:=by simp;omega
      have d1:decide ((n:Int)>0)=true:=by simp;omega
      rcases hkd with rfl|rfl|rfl|rfl|rfl|rfl|rfl
      ·go_wp2_with (go_at_call 116;refine (aN _ _ _ _).mono ?_;rintro e w' ⟨rfl,rfl⟩;rw [hin])
       all_goals
        go_ret
        exact ⟨aI (by
         rw [HBK.out]
         have e:=HXL.out
         first|exact (decide_eq_true (by unfold acF;dsimp only;omega)).symm|exact (decide_eq_false (by unfold acF;dsimp only;omega)).symm),HW.out⟩
      ·go_wp2_with (go_at_call 116;refine (aN _ _ _ _).mono ?_;rintro e w' ⟨rfl,rfl⟩;rw [hin])
       all_goals
        go_ret
        exact ⟨aI (by
         rw [HBK.out]
         have e:=HXL.out
         first|exact (decide_eq_true (by unfold acF;dsimp only;omega)).symm|exact (decide_eq_false (by unfold acF;dsimp only;omega)).symm),HW.out⟩
      ·go_wp2_with (go_at_call 116;refine (aN _ _ _ _).mono ?_;rintro e w' ⟨rfl,rfl⟩;rw [hin])
       all_goals
        go_ret
        exact ⟨aI (by
         rw [HBK.out]
         have e:=HXL.out
         first|exact (decide_eq_true (by unfold acF;dsimp only;omega)).symm|exact (decide_eq_false (by unfold acF;dsimp only;omega)).symm),HW.out⟩
      ·go_wp2_with (go_at_call 116;refine (aN _ _ _ _).mono ?_;rintro e w' ⟨rfl,rfl⟩;rw [hin])
       all_goals
        go_ret
        exact ⟨aI (by
         rw [HBK.out]
         have e:=HXL.out
         first|exact (decide_eq_true (by unfold acF;dsimp only;omega)).symm|exact (decide_eq_false (by unfold acF;dsimp only;omega)).symm),HW.out⟩
      ·go_wp2_with (go_at_call 116;refine (aN _ _ _ _).mono ?_;rintro e w' ⟨rfl,rfl⟩;rw [hin])
       all_goals
        go_ret
        exact ⟨aI (by
         rw [HBK.out]
         have e:=HXL.out
         first|exact (decide_eq_true (by unfold acF;dsimp only;omega)).symm|exact (decide_eq_false (by unfold acF;dsimp only;omega)).symm),HW.out⟩
      ·go_wp2_with (go_at_call 116;refine (aN _ _ _ _).mono ?_;rintro e w' ⟨rfl,rfl⟩;rw [hin])
       all_goals
        go_ret
        exact ⟨aI (by
         rw [HBK.out]
         have e:=HXL.out
         first|exact (decide_eq_true (by unfold acF;dsimp only;omega)).symm|exact (decide_eq_false (by unfold acF;dsimp only;omega)).symm),HW.out⟩
      ·go_wp2_with (go_at_call 116;refine (aN _ _ _ _).mono ?_;rintro e w' ⟨rfl,rfl⟩;rw [hin])
       all_goals
        go_ret
        exact ⟨aI (by
         rw [HBK.out]
         have e:=HXL.out
         first|exact (decide_eq_true (by unfold acF;dsimp only;omega)).symm|exact (decide_eq_false (by unfold acF;dsimp only;omega)).symm),HW.out⟩
   ·have d20:decide ((n:Int)>20)=true:=by simp;omega
    have HF:Hid (kD b ⟨kd,xa,xb,xc,⟨r0,r1,r2,r3⟩,ws⟩=false):=uf (fun h=>by have e:=HXL.out;have:=h.2.1;dsimp only at *;omega)
    clear hk
    go_wp2_with (go_at_call 116;refine (aN _ _ _ _).mono ?_;rintro e w' ⟨rfl,rfl⟩;rw [hin])
    all_goals
     go_ret
     exact ⟨aI HF.out.symm,HW.out⟩
  ·have hin:inR x.kind 0 6=false:=by cases h:inR x.kind 0 6 with|false=>rfl|true=>exact absurd (aa.1 h) hk
   have HF:Hid (kD b x=false):=uf (fun h=>hk h.1)
   go_wp2_with (go_at_call 116;refine (aN _ _ _ _).mono ?_;rintro e w' ⟨rfl,rfl⟩;rw [hin])
   go_ret
   exact ⟨aI HF.out.symm,HW.out⟩
theorem Ed (b:Bd) (s:Sl3) (x:Ac) (A:Option Addr) (n c:Nat) (w:World) (hB:bT w b s) (hA:bN w A n x.words) (z1:bF b.frames<=1099511627776) (z2:s.n2<=16777216) (z3:bF b.saved<=1099511627776) (zn:n<=1099511627776) :
  Calls Tryz.prog 123 #[.agg (aD b s),.agg (dS x A n c)] w fun e w'=>e = .returned (.bool (kD b x))/\Below w.heap.size w w':=by
 have HB0:=Hd (aB (aB (Below.refl w.heap.size w) (.cells (aD b s) 31)) (.cells (dS x A n c) 74))
 have HBR:=Hd hB
 have HXL:=Hd hA.1
 have X0:=Hd (ax (w:=w.alloc (.cells (aD b s) 31)) (o := .cells (dS x A n c) 74) (g:=w.heap.size+1) (by simp))
 clear hB hA
 go_enter Tryz.func123,Tryz.ntmps123
 go_wp2_with fail
 refine (gK b s _ (HBR.out.below HB0.out) z1 z2 z3).mono ?_
 rintro e w1 ⟨rfl,b1⟩
 replace X0:=Hd (aJ b1 X0.out)
 have HW:=Hd (aA HB0.out b1)
 obtain ⟨x0,x1,x2,x3,x4,x5,x6,x7,x8⟩:=cK X0.out
 clear b1
 cases hb:bkF b with
 | false =>
  have HF:Hid (kD b x=false):=by show _=_;unfold kD;rw [hb];rfl
  clear hb
  go_wp2_with fail
  go_ret
  exact ⟨aI HF.out.symm,HW.out⟩
 | true =>
  have HBK:=Hd (DN (x:=x) hb)
  clear hb
  by_cases hk:0<=x.kind/\x.kind<=6
  ·have hin:inR x.kind 0 6=true:=aa.2 hk
   obtain ⟨kd,xa,xb,xc,⟨r0,r1,r2,r3⟩,ws⟩:=x
   dsimp only at *
   by_cases h20:n<=20
   ·have d20:decide ((n:Int)>20)=false:=by simp;omega
    have hkd:kd=0∨kd=1∨kd=2∨kd=3∨kd=4∨kd=5∨kd=6:=by omega
    clear hk
    by_cases hxc:xc=0
    ·subst hxc
     by_cases hn:n=0
     ·subst hn
      rcases hkd with rfl|rfl|rfl|rfl|rfl|rfl|rfl
      ·go_wp2_with (go_at_call 175;refine (aX _ _ _ _).mono ?_;rintro e w' ⟨rfl,rfl⟩;rw [hin])
       all_goals
        go_ret
        exact ⟨aI (by
         rw [HBK.out]
         have e:=HXL.out
         first|exact (decide_eq_true (by unfold acF;dsimp only;omega)).symm|exact (decide_eq_false (by unfold acF;dsimp only;omega)).symm|(rw [Bool.eq_iff_iff,beq_iff_eq,decide_eq_true_eq];unfold acF;dsimp only;constructor <;> intro _ <;> omega)),HW.out⟩
      ·go_wp2_with (go_at_call 175;refine (aX _ _ _ _).mono ?_;rintro e w' ⟨rfl,rfl⟩;rw [hin])
       all_goals
        go_ret
        exact ⟨aI (by
         rw [HBK.out]
         have e:=HXL.out
         first|exact (decide_eq_true (by unfold acF;dsimp only;omega)).symm|exact (decide_eq_false (by unfold acF;dsimp only;omega)).symm|(rw [Bool.eq_iff_iff,beq_iff_eq,decide_eq_true_eq];unfold acF;dsimp only;constructor <;> intro _ <;> omega)),HW.out⟩
      ·go_wp2_with (go_at_call 175;refine (aX _ _ _ _).mono ?_;rintro e w' ⟨rfl,rfl⟩;rw [hin])
       all_goals
        go_ret
        exact ⟨aI (by
         rw [HBK.out]
         have e:=HXL.out
         first|exact (decide_eq_true (by unfold acF;dsimp only;omega)).symm|exact (decide_eq_false (by unfold acF;dsimp only;omega)).symm|(rw [Bool.eq_iff_iff,beq_iff_eq,decide_eq_true_eq];unfold acF;dsimp only;constructor <;> intro _ <;> omega)),HW.out⟩
      ·go_wp2_with (go_at_call 175;refine (aX _ _ _ _).mono ?_;rintro e w' ⟨rfl,rfl⟩;rw [hin])
       all_goals
        go_ret
        exact ⟨aI (by
         rw [HBK.out]
         have e:=HXL.out
         first|exact (decide_eq_true (by unfold acF;dsimp only;omega)).symm|exact (decide_eq_false (by unfold acF;dsimp only;omega)).symm|(rw [Bool.eq_iff_iff,beq_iff_eq,decide_eq_true_eq];unfold acF;dsimp only;constructor <;> intro _ <;> omega)),HW.out⟩
      ·go_wp2_with (go_at_call 175;refine (aX _ _ _ _).mono ?_;rintro e w' ⟨rfl,rfl⟩;rw [hin])
       all_goals
        go_ret
        exact ⟨aI (by
         rw [HBK.out]
         have e:=HXL.out
         first|exact (decide_eq_true (by unfold acF;dsimp only;omega)).symm|exact (decide_eq_false (by unfold acF;dsimp only;omega)).symm|(rw [Bool.eq_iff_iff,beq_iff_eq,decide_eq_true_eq];unfold acF;dsimp only;constructor <;> intro _ <;> omega)),HW.out⟩
      ·go_wp2_with (go_at_call 175;refine (aX _ _ _ _).mono ?_;rintro e w' ⟨rfl,rfl⟩;rw [hin])
       all_goals
        go_ret
        exact ⟨aI (by
         rw [HBK.out]
         have e:=HXL.out
         first|exact (decide_eq_true (by unfold acF;dsimp only;omega)).symm|exact (decide_eq_false (by unfold acF;dsimp only;omega)).symm|(rw [Bool.eq_iff_iff,beq_iff_eq,decide_eq_true_eq];unfold acF;dsimp only;constructor <;> intro _ <;> omega)),HW.out⟩
      ·go_wp2_with (go_at_call 175;refine (aX _ _ _ _).mono ?_;rintro e w' ⟨rfl,rfl⟩;rw [hin])
       all_goals
        go_ret
        exact ⟨aI (by
         rw [HBK.out]
         have e:=HXL.out
         first|exact (decide_eq_true (by unfold acF;dsimp only;omega)).symm|exact (decide_eq_false (by unfold acF;dsimp only;omega)).symm|(rw [Bool.eq_iff_iff,beq_iff_eq,decide_eq_true_eq];unfold acF;dsimp only;constructor <;> intro _ <;> omega)),HW.out⟩
     ·have d0:((n:Int)==0)=false:=by simp;omega
      have d1:decide ((n:Int)>0)=true:=by simp;omega
      rcases hkd with rfl|rfl|rfl|rfl|rfl|rfl|rfl
      ·go_wp2_with (go_at_call 175;refine (aX _ _ _ _).mono ?_;rintro e w' ⟨rfl,rfl⟩;rw [hin])
       all_goals
        go_ret
        exact ⟨aI (by
         rw [HBK.out]
         have e:=HXL.out
         first|exact (decide_eq_true (by unfold acF;dsimp only;omega)).symm|exact (decide_eq_false (by unfold acF;dsimp only;omega)).symm|(rw [Bool.eq_iff_iff,beq_iff_eq,decide_eq_true_eq];unfold acF;dsimp only;constructor <;> intro _ <;> omega)),HW.out⟩
      ·go_wp2_with (go_at_call 175;refine (aX _ _ _ _).mono ?_;rintro e w' ⟨rfl,rfl⟩;rw [hin])
       all_goals
        go_ret
        exact ⟨aI (by
         rw [HBK.out]
         have e:=HXL.out
         first|exact (decide_eq_true (by unfold acF;dsimp only;omega)).symm|exact (decide_eq_false (by unfold acF;dsimp only;omega)).symm|(rw [Bool.eq_iff_iff,beq_iff_eq,decide_eq_true_eq];unfold acF;dsimp only;constructor <;> intro _ <;> omega)),HW.out⟩
      ·go_wp2_with (go_at_call 175;refine (aX _ _ _ _).mono ?_;rintro e w' ⟨rfl,rfl⟩;rw [hin])
       all_goals
        go_ret
        exact ⟨aI (by
         rw [HBK.out]
         have e:=HXL.out
         first|exact (decide_eq_true (by unfold acF;dsimp only;omega)).symm|exact (decide_eq_false (by unfold acF;dsimp only;omega)).symm|(rw [Bool.eq_iff_iff,beq_iff_eq,decide_eq_true_eq];unfold acF;dsimp only;constructor <;> intro _ <;> omega)),HW.out⟩
      ·go_wp2_with (go_at_call 175;refine (aX _ _ _ _).mono ?_;rintro e w' ⟨rfl,rfl⟩;rw [hin])
       all_goals
        go_ret
        exact ⟨aI (by
         rw [HBK.out]
         have e:=HXL.out
         first|exact (decide_eq_true (by unfold acF;dsimp only;omega)).symm|exact (decide_eq_false (by unfold acF;dsimp only;omega)).symm|(rw [Bool.eq_iff_iff,beq_iff_eq,decide_eq_true_eq];unfold acF;dsimp only;constructor <;> intro _ <;> omega)),HW.out⟩
      ·go_wp2_with (go_at_call 175;refine (aX _ _ _ _).mono ?_;rintro e w' ⟨rfl,rfl⟩;rw [hin])
       all_goals
        go_ret
        exact ⟨aI (by
         rw [HBK.out]
         have e:=HXL.out
         first|exact (decide_eq_true (by unfold acF;dsimp only;omega)).symm|exact (decide_eq_false (by unfold acF;dsimp only;omega)).symm|(rw [Bool.eq_iff_iff,beq_iff_eq,decide_eq_true_eq];unfold acF;dsimp only;constructor <;> intro _ <;> omega)),HW.out⟩
      ·go_wp2_with (go_at_call 175;refine (aX _ _ _ _).mono ?_;rintro e w' ⟨rfl,rfl⟩;rw [hin])
       all_goals
        go_ret
        exact ⟨aI (by
         rw [HBK.out]
         have e:=HXL.out
         first|exact (decide_eq_true (by unfold acF;dsimp only;omega)).symm|exact (decide_eq_false (by unfold acF;dsimp only;omega)).symm|(rw [Bool.eq_iff_iff,beq_iff_eq,decide_eq_true_eq];unfold acF;dsimp only;constructor <;> intro _ <;> omega)),HW.out⟩
      ·go_wp2_with (go_at_call 175;refine (aX _ _ _ _).mono ?_;rintro e w' ⟨rfl,rfl⟩;rw [hin])
       all_goals
        go_ret
        exact ⟨aI (by
         rw [HBK.out]
         have e:=HXL.out
         first|exact (decide_eq_true (by unfold acF;dsimp only;omega)).symm|exact (decide_eq_false (by unfold acF;dsimp only;omega)).symm|(rw [Bool.eq_iff_iff,beq_iff_eq,decide_eq_true_eq];unfold acF;dsimp only;constructor <;> intro _ <;> omega)),HW.out⟩
    ·have dxc:(xc != 0)=true:=by simpa using hxc
     have dxc2:(xc==0)=false:=by simpa using hxc
     by_cases hn:n=0
     ·subst hn
      rcases hkd with rfl|rfl|rfl|rfl|rfl|rfl|rfl
      ·go_wp2_with (go_at_call 175;refine (aX _ _ _ _).mono ?_;rintro e w' ⟨rfl,rfl⟩;rw [hin])
       all_goals
        go_ret
        exact ⟨aI (by
         rw [HBK.out]
         have e:=HXL.out
         first|exact (decide_eq_true (by unfold acF;dsimp only;omega)).symm|exact (decide_eq_false (by unfold acF;dsimp only;omega)).symm|(rw [Bool.eq_iff_iff,beq_iff_eq,decide_eq_true_eq];unfold acF;dsimp only;constructor <;> intro _ <;> omega)),HW.out⟩
      ·go_wp2_with (go_at_call 175;refine (aX _ _ _ _).mono ?_;rintro e w' ⟨rfl,rfl⟩;rw [hin])
       all_goals
        go_ret
        exact ⟨aI (by
         rw [HBK.out]
         have e:=HXL.out
         first|exact (decide_eq_true (by unfold acF;dsimp only;omega)).symm|exact (decide_eq_false (by unfold acF;dsimp only;omega)).symm|(rw [Bool.eq_iff_iff,beq_iff_eq,decide_eq_true_eq];unfold acF;dsimp only;constructor <;> intro _ <;> omega)),HW.out⟩
      ·go_wp2_with (go_at_call 175;refine (aX _ _ _ _).mono ?_;rintro e w' ⟨rfl,rfl⟩;rw [hin])
       all_goals
        go_ret
        exact ⟨aI (by
         rw [HBK.out]
         have e:=HXL.out
         first|exact (decide_eq_true (by unfold acF;dsimp only;omega)).symm|exact (decide_eq_false (by unfold acF;dsimp only;omega)).symm|(rw [Bool.eq_iff_iff,beq_iff_eq,decide_eq_true_eq];unfold acF;dsimp only;constructor <;> intro _ <;> omega)),HW.out⟩
      ·go_wp2_with (go_at_call 175;refine (aX _ _ _ _).mono ?_;rintro e w' ⟨rfl,rfl⟩;rw [hin])
       all_goals
        go_ret
        exact ⟨aI (by
         rw [HBK.out]
         have e:=HXL.out
         first|exact (decide_eq_true (by unfold acF;dsimp only;omega)).symm|exact (decide_eq_false (by unfold acF;dsimp only;omega)).symm|(rw [Bool.eq_iff_iff,beq_iff_eq,decide_eq_true_eq];unfold acF;dsimp only;constructor <;> intro _ <;> omega)),HW.out⟩
      ·go_wp2_with (go_at_call 175;refine (aX _ _ _ _).mono ?_;rintro e w' ⟨rfl,rfl⟩;rw [hin])
       all_goals
        go_ret
        exact ⟨aI (by
         rw [HBK.out]
         have e:=HXL.out
         first|exact (decide_eq_true (by unfold acF;dsimp only;omega)).symm|exact (decide_eq_false (by unfold acF;dsimp only;omega)).symm|(rw [Bool.eq_iff_iff,beq_iff_eq,decide_eq_true_eq];unfold acF;dsimp only;constructor <;> intro _ <;> omega)),HW.out⟩
      ·go_wp2_with (go_at_call 175;refine (aX _ _ _ _).mono ?_;rintro e w' ⟨rfl,rfl⟩;rw [hin])
       all_goals
        go_ret
        exact ⟨aI (by
         rw [HBK.out]
         have e:=HXL.out
         first|exact (decide_eq_true (by unfold acF;dsimp only;omega)).symm|exact (decide_eq_false (by unfold acF;dsimp only;omega)).symm|(rw [Bool.eq_iff_iff,beq_iff_eq,decide_eq_true_eq];unfold acF;dsimp only;constructor <;> intro _ <;> omega)),HW.out⟩
      ·go_wp2_with (go_at_call 175;refine (aX _ _ _ _).mono ?_;rintro e w' ⟨rfl,rfl⟩;rw [hin])
       all_goals
        go_ret
        exact ⟨aI (by
         rw [HBK.out]
         have e:=HXL.out
         first|exact (decide_eq_true (by unfold acF;dsimp only;omega)).symm|exact (decide_eq_false (by unfold acF;dsimp only;omega)).symm|(rw [Bool.eq_iff_iff,beq_iff_eq,decide_eq_true_eq];unfold acF;dsimp only;constructor <;> intro _ <;> omega)),HW.out⟩
     ·have d0:((n:Int)==0)=false:=by simp;omega
      have d1:decide ((n:Int)>0)=true:=by simp;omega
      rcases hkd with rfl|rfl|rfl|rfl|rfl|rfl|rfl
      ·go_wp2_with (go_at_call 175;refine (aX _ _ _ _).mono ?_;rintro e w' ⟨rfl,rfl⟩;rw [hin])
       all_goals
        go_ret
        exact ⟨aI (by
         rw [HBK.out]
         have e:=HXL.out
         first|exact (decide_eq_true (by unfold acF;dsimp only;omega)).symm|exact (decide_eq_false (by unfold acF;dsimp only;omega)).symm|(rw [Bool.eq_iff_iff,beq_iff_eq,decide_eq_true_eq];unfold acF;dsimp only;constructor <;> intro _ <;> omega)),HW.out⟩
      ·go_wp2_with (go_at_call 175;refine (aX _ _ _ _).mono ?_;rintro e w' ⟨rfl,rfl⟩;rw [hin])
       all_goals
        go_ret
        exact ⟨aI (by
         rw [HBK.out]
         have e:=HXL.out
         first|exact (decide_eq_true (by unfold acF;dsimp only;omega)).symm|exact (decide_eq_false (by unfold acF;dsimp only;omega)).symm|(rw [Bool.eq_iff_iff,beq_iff_eq,decide_eq_true_eq];unfold acF;dsimp only;constructor <;> intro _ <;> omega)),HW.out⟩
      ·go_wp2_with (go_at_call 175;refine (aX _ _ _ _).mono ?_;rintro e w' ⟨rfl,rfl⟩;rw [hin])
       all_goals
        go_ret
        exact ⟨aI (by
         rw [HBK.out]
         have e:=HXL.out
         first|exact (decide_eq_true (by unfold acF;dsimp only;omega)).symm|exact (decide_eq_false (by unfold acF;dsimp only;omega)).symm|(rw [Bool.eq_iff_iff,beq_iff_eq,decide_eq_true_eq];unfold acF;dsimp only;constructor <;> intro _ <;> omega)),HW.out⟩
      ·go_wp2_with (go_at_call 175;refine (aX _ _ _ _).mono ?_;rintro e w' ⟨rfl,rfl⟩;rw [hin])
       all_goals
        go_ret
        exact ⟨aI (by
         rw [HBK.out]
         have e:=HXL.out
         first|exact (decide_eq_true (by unfold acF;dsimp only;omega)).symm|exact (decide_eq_false (by unfold acF;dsimp only;omega)).symm|(rw [Bool.eq_iff_iff,beq_iff_eq,decide_eq_true_eq];unfold acF;dsimp only;constructor <;> intro _ <;> omega)),HW.out⟩
      ·go_wp2_with (go_at_call 175;refine (aX _ _ _ _).mono ?_;rintro e w' ⟨rfl,rfl⟩;rw [hin])
       all_goals
        go_ret
        exact ⟨aI (by
         rw [HBK.out]
         have e:=HXL.out
         first|exact (decide_eq_true (by unfold acF;dsimp only;omega)).symm|exact (decide_eq_false (by unfold acF;dsimp only;omega)).symm|(rw [Bool.eq_iff_iff,beq_iff_eq,decide_eq_true_eq];unfold acF;dsimp only;constructor <;> intro _ <;> omega)),HW.out⟩
      ·go_wp2_with (go_at_call 175;refine (aX _ _ _ _).mono ?_;rintro e w' ⟨rfl,rfl⟩;rw [hin])
       all_goals
        go_ret
        exact ⟨aI (by
         rw [HBK.out]
         have e:=HXL.out
         first|exact (decide_eq_true (by unfold acF;dsimp only;omega)).symm|exact (decide_eq_false (by unfold acF;dsimp only;omega)).symm|(rw [Bool.eq_iff_iff,beq_iff_eq,decide_eq_true_eq];unfold acF;dsimp only;constructor <;> intro _ <;> omega)),HW.out⟩
      ·go_wp2_with (go_at_call 175;refine (aX _ _ _ _).mono ?_;rintro e w' ⟨rfl,rfl⟩;rw [hin])
       all_goals
        go_ret
        exact ⟨aI (by
         rw [HBK.out]
         have e:=HXL.out
         first|exact (decide_eq_true (by unfold acF;dsimp only;omega)).symm|exact (decide_eq_false (by unfold acF;dsimp only;omega)).symm|(rw [Bool.eq_iff_iff,beq_iff_eq,decide_eq_true_eq];unfold acF;dsimp only;constructor <;> intro _ <;> omega)),HW.out⟩
   ·have d20:decide ((n:Int)>20)=true:=by simp;omega
    have HF:Hid (kD b ⟨kd,xa,xb,xc,⟨r0,r1,r2,r3⟩,ws⟩=false):=uf (fun h=>by have e:=HXL.out;have:=h.2.1;dsimp only at *;omega)
    clear hk
    go_wp2_with (go_at_call 175;refine (aX _ _ _ _).mono ?_;rintro e w' ⟨rfl,rfl⟩;rw [hin])
    all_goals
     go_ret
     exact ⟨aI HF.out.symm,HW.out⟩
  ·have hin:inR x.kind 0 6=false:=by cases h:inR x.kind 0 6 with|false=>rfl|true=>exact absurd (aa.1 h) hk
   have HF:Hid (kD b x=false):=uf (fun h=>hk h.1)
   go_wp2_with (go_at_call 175;refine (aX _ _ _ _).mono ?_;rintro e w' ⟨rfl,rfl⟩;rw [hin])
   go_ret
   exact ⟨aI HF.out.symm,HW.out⟩
end Go.Proofs.YtignkfhdkcgkgaaGreat
