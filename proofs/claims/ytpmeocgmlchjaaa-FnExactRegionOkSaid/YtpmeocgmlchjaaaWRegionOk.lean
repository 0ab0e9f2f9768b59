/- The walk of the law FnExactRegionOk. -/
import Derived.Test.YtpmeocgmlchjaaaDev
namespace Go.Proofs.Ytpmeocgmlchjaaa
open Go.RowKit

set_option maxHeartbeats 1000000 in
theorem law_regionOk' (d : Dev) (r : Reg) (w : World) :
    Calls Try.prog 3 #[d.val, r.val] w fun e w' => e = .returned (.bool true) ∧ Below w.heap.size w w' := by
  have e1 : d.val = .agg #[.int .i64 d.W, .int .i64 d.H, .int .i64 d.T, .int .i64 d.R] := rfl
  have e2 : r.val = .agg #[.int .i64 r.X0, .int .i64 r.Y0, .int .i64 r.X1, .int .i64 r.Y1] := rfl
  have hD := toDevice_any d
  have hR := toRegion_any r
  have hS := sregionOk_any d r
  have hI := regionOk_any d r
  rw [e1] at hD hS hI
  rw [e2] at hR hS hI
  rw [e1, e2]
  have HD := Lib.hid hD
  have HR := Lib.hid hR
  have HS := Lib.hid hS
  have HI := Lib.hid hI
  clear e1 e2 hD hR hS hI
  generalize regOk d r = ok at *
  go_enter Try.func3, Try.ntmps3
  go_wp2_with fail
  go_region_held3 (fun w' => Below ((w.alloc (.cells #[.int .i64 d.W, .int .i64 d.H, .int .i64 d.T, .int .i64 d.R] 23)).alloc (.cells #[.int .i64 r.X0, .int .i64 r.Y0, .int .i64 r.X1, .int .i64 r.Y1] 25)).heap.size ((w.alloc (.cells #[.int .i64 d.W, .int .i64 d.H, .int .i64 d.T, .int .i64 d.R] 23)).alloc (.cells #[.int .i64 r.X0, .int .i64 r.Y0, .int .i64 r.X1, .int .i64 r.Y1] 25)) w' ∧ ∀ b o, b < ((w.alloc (.cells #[.int .i64 d.W, .int .i64 d.H, .int .i64 d.T, .int .i64 d.R] 23)).alloc (.cells #[.int .i64 r.X0, .int .i64 r.Y0, .int .i64 r.X1, .int .i64 r.Y1] 25)).heap.size → w'.cell? ⟨b, o, none⟩ = ((w.alloc (.cells #[.int .i64 d.W, .int .i64 d.H, .int .i64 d.T, .int .i64 d.R] 23)).alloc (.cells #[.int .i64 r.X0, .int .i64 r.Y0, .int .i64 r.X1, .int .i64 r.Y1] 25)).cell? ⟨b, o, none⟩)
    (first | exact held_drew _ | exact held_tr (by assumption) hb)
    (first
      | (go_at_call 16; refine (HD.out _).mono ?_; rintro e w' ⟨rfl, hb⟩)
      | (go_at_call 17; refine (HR.out _).mono ?_; rintro e w' ⟨rfl, hb⟩)
      | (go_at_call 15; refine (HS.out _).mono ?_; rintro e w' ⟨rfl, hb⟩))
  rename_i hH
  obtain ⟨hB1, hC1⟩ := hH
  go_wp2_with fail
  go_region_held3 (fun w' => Below ((w.alloc (.cells #[.int .i64 d.W, .int .i64 d.H, .int .i64 d.T, .int .i64 d.R] 23)).alloc (.cells #[.int .i64 r.X0, .int .i64 r.Y0, .int .i64 r.X1, .int .i64 r.Y1] 25)).heap.size ((w.alloc (.cells #[.int .i64 d.W, .int .i64 d.H, .int .i64 d.T, .int .i64 d.R] 23)).alloc (.cells #[.int .i64 r.X0, .int .i64 r.Y0, .int .i64 r.X1, .int .i64 r.Y1] 25)) w' ∧ ∀ b o, b < ((w.alloc (.cells #[.int .i64 d.W, .int .i64 d.H, .int .i64 d.T, .int .i64 d.R] 23)).alloc (.cells #[.int .i64 r.X0, .int .i64 r.Y0, .int .i64 r.X1, .int .i64 r.Y1] 25)).heap.size → w'.cell? ⟨b, o, none⟩ = ((w.alloc (.cells #[.int .i64 d.W, .int .i64 d.H, .int .i64 d.T, .int .i64 d.R] 23)).alloc (.cells #[.int .i64 r.X0, .int .i64 r.Y0, .int .i64 r.X1, .int .i64 r.Y1] 25)).cell? ⟨b, o, none⟩)
    (first | exact held_drew' hB1 | exact held_tr (by assumption) hb)
    (first
      | (go_at_call 16; refine (HD.out _).mono ?_; rintro e w' ⟨rfl, hb⟩)
      | (go_at_call 17; refine (HR.out _).mono ?_; rintro e w' ⟨rfl, hb⟩)
      | (go_at_call 18; refine (HI.out _).mono ?_; rintro e w' ⟨rfl, hb⟩))
  rename_i hH
  obtain ⟨hB2, hC2⟩ := hH
  go_wp2
  go_ret
  exact ⟨rfl, below_tr (below_new (below_new (Below.refl _ _) _) _) hB2⟩
end Go.Proofs.Ytpmeocgmlchjaaa
