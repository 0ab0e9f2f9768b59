/- Devices and regions: which are valid, and what kind a tile has: the program's answers and the reference's are one. -/
import Derived.Test.YtofihjoanjkdmaaGreatBit
import Derived.Test.YtofihjoanjkdmaaGreatHar
namespace Go.Proofs.YtofihjoanjkdmaaGreat
set_option maxHeartbeats 400000
set_option maxRecDepth 100000
open Go.RowKit
def dQ (d:Dev):Bool:=inR d.W 3 6 && (inR d.H 3 6 && (inR d.T 1 4 && (decide (d.R=-1) || inR d.R 1 (d.W - 2))))
theorem bC {d:Dev} (h:dQ d=true):3<=d.W/\d.W<=6/\3<=d.H/\d.H<=6/\1<=d.T/\d.T<=4/\-1<=d.R/\d.R<=d.W - 2:=by
 simp only [dQ,Bool.and_eq_true,Bool.or_eq_true,aV,decide_eq_true_eq] at h;omega
theorem fO (d:Dev) (w:World) :
  Calls Tryz.prog 92 #[.agg #[.int .i64 d.W,.int .i64 d.H,.int .i64 d.T,.int .i64 d.R]] w fun e w'=>e = .returned (.bool (dQ d))/\Below w.heap.size w w':=by
 by_cases hW:inR d.W 3 6=true
 ·have hb:=aV.1 hW
  go_enter Tryz.func92,Tryz.ntmps92
  go_wp2_with (first|(go_at_call 93;refine (aN _ _ _ _).mono ?_;rintro e w' ⟨rfl,rfl⟩))
  all_goals (go_ret;exact ⟨by simp [dQ, *],aF (Below.refl _ _) _⟩)
 ·go_enter Tryz.func92,Tryz.ntmps92
  go_wp2_with (first|(go_at_call 93;refine (aN _ _ _ _).mono ?_;rintro e w' ⟨rfl,rfl⟩))
  all_goals (go_ret;exact ⟨by simp [dQ, *],aF (Below.refl _ _) _⟩)
theorem gH (d:Dev) (w:World) :
  Calls Tryz.prog 82 #[.agg #[.int .i64 d.W,.int .i64 d.H,.int .i64 d.T,.int .i64 d.R]] w fun e w'=>e = .returned (.bool (dQ d))/\Below w.heap.size w w':=by
 by_cases hW:inR d.W 3 6=true
 ·have hb:=aV.1 hW
  go_enter Tryz.func82,Tryz.ntmps82
  go_wp2_with (first|(go_at_call 83;refine (af _ _ _ _).mono ?_;rintro e w' ⟨rfl,rfl⟩))
  all_goals (go_ret;exact ⟨by simp [dQ, *],aF (Below.refl _ _) _⟩)
 ·go_enter Tryz.func82,Tryz.ntmps82
  go_wp2_with (first|(go_at_call 83;refine (af _ _ _ _).mono ?_;rintro e w' ⟨rfl,rfl⟩))
  all_goals (go_ret;exact ⟨by simp [dQ, *],aF (Below.refl _ _) _⟩)
def nS (d:Dev):Nat:=(d.W * d.H).toNat
theorem mF {d:Dev} (h:dQ d=true):d.W * d.H=(nS d:Int)/\9<=nS d/\nS d<=36:=by
 obtain ⟨h1,h2,h3,h4,_⟩:=bC h
 have a:9<=d.W * d.H:=by
  have:=Int.mul_le_mul h1 h3 (by omega) (by omega)
  omega
 have b:d.W * d.H<=36:=by
  have:=Int.mul_le_mul h2 h4 (by omega) (by omega)
  omega
 unfold nS
 omega
end Go.Proofs.YtofihjoanjkdmaaGreat
