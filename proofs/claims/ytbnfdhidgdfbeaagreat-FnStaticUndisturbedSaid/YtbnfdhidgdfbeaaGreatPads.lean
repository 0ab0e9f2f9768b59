/- Bit operations of int on numbers that are not below 0; plain lemmas. Devices and regions: which are valid, and what kind a tile has: the program's answers and the reference's are one. PadsFor: the program's and the reference's make one list. -/
import Derived.Laws.BitsAllLaws
import Derived.Laws.BitsLemmas
import Derived.Test.YtbnfdhidgdfbeaaGreatHar
namespace Go.Proofs.YtbnfdhidgdfbeaaGreat
set_option maxRecDepth 100000
open Go.RowKit

theorem ofInt_i64 (a:Nat) (ha:a<9223372036854775808):(BitVec.ofInt 64 (a:Int)).toNat=a:=by
 rw [BitVec.ofInt_natCast,BitVec.toNat_ofNat];exact Nat.mod_eq_of_lt (by omega)
theorem i64_and_nat (a b:Nat) (ha:a<9223372036854775808) (hb:b<9223372036854775808):bits .and .i64 (a:Int) (b:Int)=((a &&& b:Nat):Int):=by
 have hx:a &&& b<2 ^ 63:=Nat.and_lt_two_pow _ (by omega)
 show IntKind.i64.wrap ((BitVec.ofInt 64 (a:Int) &&& BitVec.ofInt 64 (b:Int)).toNat:Int)=_
 rw [BitVec.toNat_and,ofInt_i64 a ha,ofInt_i64 b hb,IntKind.wrap_i64]
 omega
theorem i64_or_nat (a b:Nat) (ha:a<9223372036854775808) (hb:b<9223372036854775808):bits .or .i64 (a:Int) (b:Int)=((a ||| b:Nat):Int):=by
 have hx:a ||| b<2 ^ 63:=Nat.or_lt_two_pow (by omega) (by omega)
 show IntKind.i64.wrap ((BitVec.ofInt 64 (a:Int) ||| BitVec.ofInt 64 (b:Int)).toNat:Int)=_
 rw [BitVec.toNat_or,ofInt_i64 a ha,ofInt_i64 b hb,IntKind.wrap_i64]
 omega
theorem i64_xor_nat (a b:Nat) (ha:a<9223372036854775808) (hb:b<9223372036854775808):bits .xor .i64 (a:Int) (b:Int)=((a ^^^ b:Nat):Int):=by
 have hx:a ^^^ b<2 ^ 63:=Nat.xor_lt_two_pow (by omega) (by omega)
 show IntKind.i64.wrap ((BitVec.ofInt 64 (a:Int) ^^^ BitVec.ofInt 64 (b:Int)).toNat:Int)=_
 rw [BitVec.toNat_xor,ofInt_i64 a ha,ofInt_i64 b hb,IntKind.wrap_i64]
 omega
theorem or_pow (a k:Nat) (h:a<2 ^ k):a ||| 2 ^ k=a+2 ^ k:=by
 rw [Nat.or_comm,nat_join k (2 ^ k) a (Nat.mod_self _) h,Nat.add_comm]
theorem pow_le63 {k:Nat} (h:k≤62):2 ^ k<9223372036854775808:=Nat.lt_of_le_of_lt (Nat.pow_le_pow_right (by omega) h) (by decide)
theorem int_pow_cast (k:Nat):((2:Int) ^ k)=((2 ^ k:Nat):Int):=by simp
theorem wrap_pow {k:Nat} (h:k≤62):wrap64 (2 ^ k)=2 ^ k:=by
 have hp:=pow_le63 h
 rw [int_pow_cast]
 generalize 2 ^ k=p at *
 exact IntWalk.wrap64_in _ ⟨by omega,by omega⟩
end Go.Proofs.YtbnfdhidgdfbeaaGreat

namespace Go.Proofs.YtbnfdhidgdfbeaaGreat
set_option maxRecDepth 100000
open Go.RowKit

def devOk (d:Dev):Bool:=inR d.W 3 6 && (inR d.H 3 6 && (inR d.T 1 4 && (decide (d.R=-1) || inR d.R 1 (d.W - 2))))
def regOk (d:Dev) (r:Reg):Bool:=devOk d && (decide (0≤r.X0) && (decide (r.X0≤r.X1) && (decide (r.X1<d.W) && (decide (0≤r.Y0) && (decide (r.Y0≤r.Y1) && decide (r.Y1<d.H))))))
theorem devOk_bd {d:Dev} (h:devOk d=true):3≤d.W∧d.W≤6∧3≤d.H∧d.H≤6∧1≤d.T∧d.T≤4∧-1≤d.R∧d.R≤d.W - 2:=by
 simp only [devOk,Bool.and_eq_true,Bool.or_eq_true,inR_iff,decide_eq_true_eq] at h;omega

set_option maxHeartbeats 400000 in
theorem deviceOk_any (d:Dev) (w:World) :
  Calls Tryz.prog 113 #[.agg #[.int .i64 d.W,.int .i64 d.H,.int .i64 d.T,.int .i64 d.R]] w fun e w'=>e = .returned (.bool (devOk d))∧Below w.heap.size w w':=by
 by_cases hW:inR d.W 3 6=true
 ·have hb:=inR_iff.1 hW
  go_enter Tryz.func113,Tryz.ntmps113
  go_wp2_with (first|(go_at_call 68;refine (inRange_any _ _ _ _).mono ?_;rintro e w' ⟨rfl,rfl⟩))
  all_goals (go_ret;exact ⟨by simp [devOk, *],below_new (Below.refl _ _) _⟩)
 ·go_enter Tryz.func113,Tryz.ntmps113
  go_wp2_with (first|(go_at_call 68;refine (inRange_any _ _ _ _).mono ?_;rintro e w' ⟨rfl,rfl⟩))
  all_goals (go_ret;exact ⟨by simp [devOk, *],below_new (Below.refl _ _) _⟩)
set_option maxHeartbeats 400000 in
theorem sdeviceOk_any (d:Dev) (w:World) :
  Calls Tryz.prog 117 #[.agg #[.int .i64 d.W,.int .i64 d.H,.int .i64 d.T,.int .i64 d.R]] w fun e w'=>e = .returned (.bool (devOk d))∧Below w.heap.size w w':=by
 by_cases hW:inR d.W 3 6=true
 ·have hb:=inR_iff.1 hW
  go_enter Tryz.func117,Tryz.ntmps117
  go_wp2_with (first|(go_at_call 119;refine (l01In_any _ _ _ _).mono ?_;rintro e w' ⟨rfl,rfl⟩))
  all_goals (go_ret;exact ⟨by simp [devOk, *],below_new (Below.refl _ _) _⟩)
 ·go_enter Tryz.func117,Tryz.ntmps117
  go_wp2_with (first|(go_at_call 119;refine (l01In_any _ _ _ _).mono ?_;rintro e w' ⟨rfl,rfl⟩))
  all_goals (go_ret;exact ⟨by simp [devOk, *],below_new (Below.refl _ _) _⟩)

set_option maxHeartbeats 400000 in
theorem regionOk_any (d:Dev) (r:Reg) (w:World) :
  Calls Tryz.prog 46 #[.agg #[.int .i64 d.W,.int .i64 d.H,.int .i64 d.T,.int .i64 d.R],.agg #[.int .i64 r.X0,.int .i64 r.Y0,.int .i64 r.X1,.int .i64 r.Y1]] w fun e w'=>e = .returned (.bool (regOk d r))∧Below w.heap.size w w':=by
 go_enter Tryz.func46,Tryz.ntmps46
 go_wp2_with (first|(go_at_call 113;refine (deviceOk_any d _).mono ?_;rintro e w' ⟨rfl,hb⟩;obtain ⟨hc,hf⟩:=bcell hb))
 all_goals (go_ret;exact ⟨ret_bool (by clear hc hf;simp [regOk, *] <;> omega),below_tr (below_new (below_new (Below.refl _ _) _) _) hb⟩)
set_option maxHeartbeats 400000 in
theorem sregionOk_any (d:Dev) (r:Reg) (w:World) :
  Calls Tryz.prog 49 #[.agg #[.int .i64 d.W,.int .i64 d.H,.int .i64 d.T,.int .i64 d.R],.agg #[.int .i64 r.X0,.int .i64 r.Y0,.int .i64 r.X1,.int .i64 r.Y1]] w fun e w'=>e = .returned (.bool (regOk d r))∧Below w.heap.size w w':=by
 go_enter Tryz.func49,Tryz.ntmps49
 go_wp2_with (first|(go_at_call 117;refine (sdeviceOk_any d _).mono ?_;rintro e w' ⟨rfl,hb⟩;obtain ⟨hc,hf⟩:=bcell hb))
 all_goals (go_ret;exact ⟨ret_bool (by clear hc hf;simp [regOk, *] <;> omega),below_tr (below_new (below_new (Below.refl _ _) _) _) hb⟩)
end Go.Proofs.YtbnfdhidgdfbeaaGreat

namespace Go.Proofs.YtbnfdhidgdfbeaaGreat
set_option maxRecDepth 100000
open Go.RowKit

def tiles (d:Dev):Nat:=(d.W * d.H).toNat
theorem tiles_eq {d:Dev} (h:devOk d=true):d.W * d.H=(tiles d:Int)∧9≤tiles d∧tiles d≤36:=by
 obtain ⟨h1,h2,h3,h4,_⟩:=devOk_bd h
 have a:9≤d.W * d.H:=by
  have:=Int.mul_le_mul h1 h3 (by omega) (by omega)
  omega
 have b:d.W * d.H≤36:=by
  have:=Int.mul_le_mul h2 h4 (by omega) (by omega)
  omega
 unfold tiles
 omega

end Go.Proofs.YtbnfdhidgdfbeaaGreat
