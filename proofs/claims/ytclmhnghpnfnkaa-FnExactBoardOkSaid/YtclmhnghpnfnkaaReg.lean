/- The tiles of a region: the program's and the reference's are one list. -/
import Derived.Test.YtclmhnghpnfnkaaPads
namespace Go.Proofs.Ytclmhnghpnfnkaa
set_option maxRecDepth 100000
open Go.RowKit

def inReg (d : Dev) (r : Reg) (t : Int) : Bool := inR (t % d.W) r.X0 r.X1 && inR (t / d.W) r.Y0 r.Y1

set_option maxHeartbeats 1000000 in
theorem inRegion_any (d : Dev) (r : Reg) (t : Int) (w : World) (hW : 3 ≤ d.W) (hW' : d.W ≤ 6) (ht : 0 ≤ t) (ht' : t ≤ 1099511627776) :
    Calls Try.prog 161 #[.agg #[.int .i64 d.W, .int .i64 d.H, .int .i64 d.T, .int .i64 d.R], .agg #[.int .i64 r.X0, .int .i64 r.Y0, .int .i64 r.X1, .int .i64 r.Y1], .int .i64 t] w fun e w' => e = .returned (.bool (inReg d r t)) ∧ Below w.heap.size w w' := by
  unfold inReg
  have e0 : ¬ d.W = 0 := by omega
  have e1 : t.tmod d.W = t % d.W := Int.tmod_eq_emod_of_nonneg ht
  have e2 : IntKind.i64.wrap (t.tdiv d.W) = t / d.W := IntWalk.i64_quo _ _ ⟨ht, by omega, by omega⟩
  cases h1 : inR (t % d.W) r.X0 r.X1 with
  | true =>
    go_enter Try.func161, Try.ntmps161
    go_wp2_with fail
    go_quiet ((go_at_call 106; exact Calls.quiet_of_same (inRange_q _ _ _ _)))
    go_wp2_with fail
    go_ret
    exact ⟨by simp, below_drewN (below_new (below_new (Below.refl _ _) _) _) _⟩
  | false =>
    have hc1 : ∀ w, Calls Try.prog 106 #[.int .i64 (t % d.W), .int .i64 r.X0, .int .i64 r.X1] w fun e w' => e = .returned (.bool false) ∧ w' = w := fun w => by
      have := inRange_q (t % d.W) r.X0 r.X1 w
      rwa [h1] at this
    have HC1 := Lib.hid hc1
    clear hc1 h1
    go_enter Try.func161, Try.ntmps161
    go_wp2_with fail
    go_quiet ((go_at_call 106; exact Calls.quiet_of_same (HC1.out _)))
    go_wp2_with fail
    go_ret
    exact ⟨by simp, below_drewN (below_new (below_new (Below.refl _ _) _) _) _⟩
set_option maxHeartbeats 1000000 in
theorem sinRegion_any (d : Dev) (r : Reg) (t : Int) (w : World) (hW : 3 ≤ d.W) (hW' : d.W ≤ 6) (ht : 0 ≤ t) (ht' : t ≤ 1099511627776) :
    Calls Try.prog 160 #[.agg #[.int .i64 d.W, .int .i64 d.H, .int .i64 d.T, .int .i64 d.R], .agg #[.int .i64 r.X0, .int .i64 r.Y0, .int .i64 r.X1, .int .i64 r.Y1], .int .i64 t] w fun e w' => e = .returned (.bool (inReg d r t)) ∧ Below w.heap.size w w' := by
  unfold inReg
  have e0 : ¬ d.W = 0 := by omega
  have e1 : t.tmod d.W = t % d.W := Int.tmod_eq_emod_of_nonneg ht
  have e2 : IntKind.i64.wrap (t.tdiv d.W) = t / d.W := IntWalk.i64_quo _ _ ⟨ht, by omega, by omega⟩
  cases h1 : inR (t % d.W) r.X0 r.X1 with
  | true =>
    go_enter Try.func160, Try.ntmps160
    go_wp2_with fail
    go_quiet ((go_at_call 114; exact Calls.quiet_of_same (l01In_q _ _ _ _)))
    go_wp2_with fail
    go_ret
    exact ⟨by simp, below_drewN (below_new (below_new (Below.refl _ _) _) _) _⟩
  | false =>
    have hc1 : ∀ w, Calls Try.prog 114 #[.int .i64 (t % d.W), .int .i64 r.X0, .int .i64 r.X1] w fun e w' => e = .returned (.bool false) ∧ w' = w := fun w => by
      have := l01In_q (t % d.W) r.X0 r.X1 w
      rwa [h1] at this
    have HC1 := Lib.hid hc1
    clear hc1 h1
    go_enter Try.func160, Try.ntmps160
    go_wp2_with fail
    go_quiet ((go_at_call 114; exact Calls.quiet_of_same (HC1.out _)))
    go_wp2_with fail
    go_ret
    exact ⟨by simp, below_drewN (below_new (below_new (Below.refl _ _) _) _) _⟩

def regTo (d : Dev) (r : Reg) : Nat → List Int
  | 0 => []
  | k + 1 => regTo d r k ++ if inReg d r (k : Int) then [(k : Int)] else []
def regTiles (d : Dev) (r : Reg) : List Int := if regOk d r then regTo d r (tiles d) else []
theorem regTo_le (d : Dev) (r : Reg) (k : Nat) : (regTo d r k).length ≤ k := by
  induction k with
  | zero => simp [regTo]
  | succ k ih => unfold regTo; split <;> simp <;> omega
theorem regOk_dev {d : Dev} {r : Reg} (h : regOk d r = true) : devOk d = true := by
  simp only [regOk, Bool.and_eq_true] at h; exact h.1
theorem regTiles_le (d : Dev) (r : Reg) : (regTiles d r).length ≤ 36 := by
  unfold regTiles
  split
  · rename_i h
    have := (tiles_eq (regOk_dev h)).2.2
    have := regTo_le d r (tiles d)
    omega
  · simp

end Go.Proofs.Ytclmhnghpnfnkaa
