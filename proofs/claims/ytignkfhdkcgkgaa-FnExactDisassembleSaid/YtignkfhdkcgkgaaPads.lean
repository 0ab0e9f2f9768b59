/- Devices and regions: which are valid, and what kind a tile has: the program's answers and the reference's are one. PadsFor: the program's and the reference's make one list. -/
import Derived.Test.YtignkfhdkcgkgaaBit
import Derived.Test.YtignkfhdkcgkgaaHar
namespace Go.Proofs.Ytignkfhdkcgkgaa
set_option maxRecDepth 100000
open Go.RowKit

def devOk (d:Dev):Bool:=inR d.W 3 6 && (inR d.H 3 6 && (inR d.T 1 4 && (decide (d.R=-1) || inR d.R 1 (d.W - 2))))
theorem devOk_bd {d:Dev} (h:devOk d=true):3≤d.W∧d.W≤6∧3≤d.H∧d.H≤6∧1≤d.T∧d.T≤4∧-1≤d.R∧d.R≤d.W - 2:=by
 simp only [devOk,Bool.and_eq_true,Bool.or_eq_true,inR_iff,decide_eq_true_eq] at h;omega

set_option maxHeartbeats 400000 in
theorem deviceOk_any (d:Dev) (w:World) :
  Calls Try.prog 44 #[.agg #[.int .i64 d.W,.int .i64 d.H,.int .i64 d.T,.int .i64 d.R]] w fun e w'=>e = .returned (.bool (devOk d))∧Below w.heap.size w w':=by
 by_cases hW:inR d.W 3 6=true
 ·have hb:=inR_iff.1 hW
  go_enter Try.func44,Try.ntmps44
  go_wp2_with (first|(go_at_call 71;refine (inRange_any _ _ _ _).mono ?_;rintro e w' ⟨rfl,rfl⟩))
  all_goals (go_ret;exact ⟨by simp [devOk, *],below_new (Below.refl _ _) _⟩)
 ·go_enter Try.func44,Try.ntmps44
  go_wp2_with (first|(go_at_call 71;refine (inRange_any _ _ _ _).mono ?_;rintro e w' ⟨rfl,rfl⟩))
  all_goals (go_ret;exact ⟨by simp [devOk, *],below_new (Below.refl _ _) _⟩)
set_option maxHeartbeats 400000 in
theorem sdeviceOk_any (d:Dev) (w:World) :
  Calls Try.prog 43 #[.agg #[.int .i64 d.W,.int .i64 d.H,.int .i64 d.T,.int .i64 d.R]] w fun e w'=>e = .returned (.bool (devOk d))∧Below w.heap.size w w':=by
 by_cases hW:inR d.W 3 6=true
 ·have hb:=inR_iff.1 hW
  go_enter Try.func43,Try.ntmps43
  go_wp2_with (first|(go_at_call 60;refine (l01In_any _ _ _ _).mono ?_;rintro e w' ⟨rfl,rfl⟩))
  all_goals (go_ret;exact ⟨by simp [devOk, *],below_new (Below.refl _ _) _⟩)
 ·go_enter Try.func43,Try.ntmps43
  go_wp2_with (first|(go_at_call 60;refine (l01In_any _ _ _ _).mono ?_;rintro e w' ⟨rfl,rfl⟩))
  all_goals (go_ret;exact ⟨by simp [devOk, *],below_new (Below.refl _ _) _⟩)

end Go.Proofs.Ytignkfhdkcgkgaa

namespace Go.Proofs.Ytignkfhdkcgkgaa
set_option maxRecDepth 100000
open Go.RowKit

def tiles (d:Dev):Nat:=(d.W * d.H).toNat
theorem tiles_eq {d:Dev} (h:devOk d=true):d.W * d.H=(tiles d:Int)∧9≤tiles d∧tiles d≤36:=by
 obtain ⟨h1,h2,h3,h4,_⟩:=devOk_bd h
 have a:9≤d.W * d.H:=by
  have:=Int.mul_le_mul h1 h3 (by omega) (by omega)
  omega
 have b:d.W * d.H≤36:=by
  have:=Int.mul_le_mul h2 h4 (by omega) (by omega)
  omega
 unfold tiles
 omega

end Go.Proofs.Ytignkfhdkcgkgaa
