/- The selected source of a routing node: the reference's functions. -/
import Derived.Test.YtbnfdhidgdfbeaaDrvP
import Derived.Test.YtbnfdhidgdfbeaaRtS5
namespace Go.Proofs.Ytbnfdhidgdfbeaa
set_option maxRecDepth 100000
open Go.RowKit

set_option maxHeartbeats 1000000 in
theorem ssources_none (d : Dev) (n : Int) (w : World) (h : nodeOk d n = false ∨ (nodeOk d n = true ∧ (n % perT d = 5 ∨ n % perT d = 6))) :
    Calls Try.prog 139 #[.agg #[.int .i64 d.W, .int .i64 d.H, .int .i64 d.T, .int .i64 d.R], .int .i64 n] w fun e w' => ∃ A m c, e = .returned (.slice A m c) ∧ Own w.heap.size w' A m c (srcs d n) ∧ Below w.heap.size w w' := by
  have HB0 := Lib.hid (below_new (Below.refl w.heap.size w) (.cells #[.int .i64 d.W, .int .i64 d.H, .int .i64 d.T, .int .i64 d.R] 29))
  rcases h with hno | ⟨hno, h5⟩
  · have HS := Lib.hid (srcs_no hno)
    have HNO : Hid (∀ w, Calls Try.prog 31 #[.agg #[.int .i64 d.W, .int .i64 d.H, .int .i64 d.T, .int .i64 d.R], .int .i64 n] w fun e w' => e = .returned (.bool false) ∧ Below w.heap.size w w') := fun w => by have h := srouteNodeOk_any d n w; rwa [hno] at h
    clear hno
    go_enter Try.func139, Try.ntmps139
    go_wp2_with fail
    refine (HNO.out _).mono ?_
    rintro e w1 ⟨rfl, b1⟩
    have N1 := Lib.hid ((Own.newAt (w := (w.alloc (.cells #[.int .i64 d.W, .int .i64 d.H, .int .i64 d.T, .int .i64 d.R] 29))) (base := (w.alloc (.cells #[.int .i64 d.W, .int .i64 d.H, .int .i64 d.T, .int .i64 d.R] 29)).heap.size) (g := w.heap.size + 1) (by simp) (by simp)).below b1)
    have HB1 := Lib.hid (below_tr (below_new HB0.out _) b1)
    clear b1
    go_wp2_with fail
    go_ret
    exact ⟨_, 0, 0, rfl, by rw [HS.out]; exact N1.out.more (by simp), HB1.out⟩
  · have HS := Lib.hid (srcs_out h5)
    have hni : nodeIn d n = true := by unfold nodeOk at hno; rw [Bool.and_eq_true] at hno; exact hno.1
    obtain ⟨hd, n0, n1, hq0, hq1, hr0, hr1⟩ := node_tk hni
    have hT := devOk_bd hd
    have hp := perT_bd hd
    have hWH := dev_WH hd
    have HNO : Hid (∀ w, Calls Try.prog 31 #[.agg #[.int .i64 d.W, .int .i64 d.H, .int .i64 d.T, .int .i64 d.R], .int .i64 n] w fun e w' => e = .returned (.bool true) ∧ Below w.heap.size w w') := fun w => by have h := srouteNodeOk_any d n w; rwa [hno] at h
    have e0 : ¬ perT d = 0 := by omega
    have e1 : n.tmod (perT d) = n % perT d := Int.tmod_eq_emod_of_nonneg n0
    have e2 : IntKind.i64.wrap (n.tdiv (perT d)) = n / perT d := IntWalk.i64_quo _ _ ⟨n0, by omega, by omega⟩
    clear hno hni hd
    go_enter Try.func139, Try.ntmps139
    go_wp2_with fail
    refine (HNO.out _).mono ?_
    rintro e w1 ⟨rfl, b1⟩
    have N1 := Lib.hid ((Own.newAt (w := (w.alloc (.cells #[.int .i64 d.W, .int .i64 d.H, .int .i64 d.T, .int .i64 d.R] 29))) (base := (w.alloc (.cells #[.int .i64 d.W, .int .i64 d.H, .int .i64 d.T, .int .i64 d.R] 29)).heap.size) (g := w.heap.size + 1) (by simp) (by simp)).below b1)
    have HB1 := Lib.hid (below_tr (below_new (Below.refl _ _) _) b1 : Below (w.alloc (.cells #[.int .i64 d.W, .int .i64 d.H, .int .i64 d.T, .int .i64 d.R] 29)).heap.size (w.alloc (.cells #[.int .i64 d.W, .int .i64 d.H, .int .i64 d.T, .int .i64 d.R] 29)) w1)
    have hs1 := b1.size
    simp only [World.size_alloc] at hs1
    clear b1
    obtain ⟨hcc, hff⟩ := bcell HB1.out
    go_wp2_with fail
    refine (l27Per_any d _ (by omega) (by omega)).mono ?_
    rintro e w2 ⟨rfl, b2⟩
    have HB2 := Lib.hid (below_tr HB1.out b2)
    have N2 := Lib.hid (N1.out.below b2)
    have hs2 := b2.size
    clear b2 hcc hff
    obtain ⟨hcc, hff⟩ := bcell HB2.out
    go_wp2_with fail
    refine (l27Per_any d _ (by omega) (by omega)).mono ?_
    rintro e w3 ⟨rfl, b3⟩
    have HB3 := Lib.hid (below_tr HB0.out (below_tr HB2.out b3))
    have N3 := Lib.hid (N2.out.below b3)
    clear b3 hcc hff
    generalize n % perT d = pin at *
    have h2 : ((pin == 5) = true) ∨ ((pin == 5) = false ∧ (pin == 6) = true) := by
      rcases h5 with h | h
      · exact .inl (by simpa using h)
      · exact .inr ⟨by simp; omega, by simpa using h⟩
    clear h5
    rcases h2 with q5 | ⟨q5, q6⟩
    all_goals
      go_wp2_with fail
      go_ret
      exact ⟨_, 0, 0, rfl, by rw [HS.out]; exact N3.out.more (by simp), HB3.out⟩
theorem ssources_any (d : Dev) (n : Int) (w : World) :
    Calls Try.prog 139 #[.agg #[.int .i64 d.W, .int .i64 d.H, .int .i64 d.T, .int .i64 d.R], .int .i64 n] w fun e w' => ∃ A m c, e = .returned (.slice A m c) ∧ Own w.heap.size w' A m c (srcs d n) ∧ Below w.heap.size w w' := by
  cases hno : nodeOk d n with
  | false => exact ssources_none d n w (.inl hno)
  | true =>
    by_cases h5 : n % perT d = 5 ∨ n % perT d = 6
    · exact ssources_none d n w (.inr ⟨hno, h5⟩)
    · rcases Int.lt_or_le (n % perT d) 5 with h | h
      · exact ssources_pin d n w hno h
      · exact ssources_wire d n w hno (by omega)

theorem drvF_cfg {d : Dev} {fs : List (List Int)} (n : Int) (hf : framesOk d fs = true) : drvF d fs n = drvOf d (tilesOf d fs) n := by unfold drvF; rw [if_pos hf]
theorem nodeOk_out {d : Dev} {n : Int} (h : nodeIn d n = false) : nodeOk d n = false := by unfold nodeOk; rw [h]; rfl
end Go.Proofs.Ytbnfdhidgdfbeaa
