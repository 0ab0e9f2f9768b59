/- Devices and regions: which are valid, and what kind a tile has: the program's answers and the reference's are one. -/
import Derived.Test.YtdnpdfjlmejpkaaHar
namespace Go.Proofs.Ytdnpdfjlmejpkaa
set_option maxRecDepth 100000
open Go.RowKit

def devOk (d : Dev) : Bool := inR d.W 3 6 && (inR d.H 3 6 && (inR d.T 1 4 && (decide (d.R = -1) || inR d.R 1 (d.W - 2))))
def regOk (d : Dev) (r : Reg) : Bool := devOk d && (decide (0 ≤ r.X0) && (decide (r.X0 ≤ r.X1) && (decide (r.X1 < d.W) && (decide (0 ≤ r.Y0) && (decide (r.Y0 ≤ r.Y1) && decide (r.Y1 < d.H))))))
theorem devOk_bd {d : Dev} (h : devOk d = true) : 3 ≤ d.W ∧ d.W ≤ 6 ∧ 3 ≤ d.H ∧ d.H ≤ 6 ∧ 1 ≤ d.T ∧ d.T ≤ 4 ∧ -1 ≤ d.R ∧ d.R ≤ d.W - 2 := by
  simp only [devOk, Bool.and_eq_true, Bool.or_eq_true, inR_iff, decide_eq_true_eq] at h; omega

set_option maxHeartbeats 400000 in
theorem deviceOk_any (d : Dev) (w : World) :
    Calls Try.prog 89 #[.agg #[.int .i64 d.W, .int .i64 d.H, .int .i64 d.T, .int .i64 d.R]] w fun e w' => e = .returned (.bool (devOk d)) ∧ Below w.heap.size w w' := by
  by_cases hW : inR d.W 3 6 = true
  · have hb := inR_iff.1 hW
    go_enter Try.func89, Try.ntmps89
    go_wp2_with (first | (go_at_call 67; refine (inRange_any _ _ _ _).mono ?_; rintro e w' ⟨rfl, rfl⟩))
    all_goals (go_ret; exact ⟨by simp [devOk, *], below_new (Below.refl _ _) _⟩)
  · go_enter Try.func89, Try.ntmps89
    go_wp2_with (first | (go_at_call 67; refine (inRange_any _ _ _ _).mono ?_; rintro e w' ⟨rfl, rfl⟩))
    all_goals (go_ret; exact ⟨by simp [devOk, *], below_new (Below.refl _ _) _⟩)
set_option maxHeartbeats 400000 in
theorem sdeviceOk_any (d : Dev) (w : World) :
    Calls Try.prog 85 #[.agg #[.int .i64 d.W, .int .i64 d.H, .int .i64 d.T, .int .i64 d.R]] w fun e w' => e = .returned (.bool (devOk d)) ∧ Below w.heap.size w w' := by
  by_cases hW : inR d.W 3 6 = true
  · have hb := inR_iff.1 hW
    go_enter Try.func85, Try.ntmps85
    go_wp2_with (first | (go_at_call 118; refine (l01In_any _ _ _ _).mono ?_; rintro e w' ⟨rfl, rfl⟩))
    all_goals (go_ret; exact ⟨by simp [devOk, *], below_new (Below.refl _ _) _⟩)
  · go_enter Try.func85, Try.ntmps85
    go_wp2_with (first | (go_at_call 118; refine (l01In_any _ _ _ _).mono ?_; rintro e w' ⟨rfl, rfl⟩))
    all_goals (go_ret; exact ⟨by simp [devOk, *], below_new (Below.refl _ _) _⟩)

set_option maxHeartbeats 400000 in
theorem regionOk_any (d : Dev) (r : Reg) (w : World) :
    Calls Try.prog 108 #[.agg #[.int .i64 d.W, .int .i64 d.H, .int .i64 d.T, .int .i64 d.R], .agg #[.int .i64 r.X0, .int .i64 r.Y0, .int .i64 r.X1, .int .i64 r.Y1]] w fun e w' => e = .returned (.bool (regOk d r)) ∧ Below w.heap.size w w' := by
  go_enter Try.func108, Try.ntmps108
  go_wp2_with (first | (go_at_call 89; refine (deviceOk_any d _).mono ?_; rintro e w' ⟨rfl, hb⟩; obtain ⟨hc, hf⟩ := bcell hb))
  all_goals (go_ret; exact ⟨ret_bool (by clear hc hf; simp [regOk, *] <;> omega), below_tr (below_new (below_new (Below.refl _ _) _) _) hb⟩)
set_option maxHeartbeats 400000 in
theorem sregionOk_any (d : Dev) (r : Reg) (w : World) :
    Calls Try.prog 105 #[.agg #[.int .i64 d.W, .int .i64 d.H, .int .i64 d.T, .int .i64 d.R], .agg #[.int .i64 r.X0, .int .i64 r.Y0, .int .i64 r.X1, .int .i64 r.Y1]] w fun e w' => e = .returned (.bool (regOk d r)) ∧ Below w.heap.size w w' := by
  go_enter Try.func105, Try.ntmps105
  go_wp2_with (first | (go_at_call 85; refine (sdeviceOk_any d _).mono ?_; rintro e w' ⟨rfl, hb⟩; obtain ⟨hc, hf⟩ := bcell hb))
  all_goals (go_ret; exact ⟨ret_bool (by clear hc hf; simp [regOk, *] <;> omega), below_tr (below_new (below_new (Below.refl _ _) _) _) hb⟩)
end Go.Proofs.Ytdnpdfjlmejpkaa
