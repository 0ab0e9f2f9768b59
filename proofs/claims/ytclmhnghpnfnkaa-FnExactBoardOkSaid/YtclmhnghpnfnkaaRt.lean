/- Routing nodes of the program: pins, wires, which nodes exist. -/
import Derived.Test.YtclmhnghpnfnkaaRtPure
namespace Go.Proofs.Ytclmhnghpnfnkaa
set_option maxRecDepth 100000
open Go.RowKit

set_option maxHeartbeats 400000 in
theorem pinPins_any (k : Int) (w : World) :
    Calls Try.prog 149 #[.int .i64 k] w fun e w' => e = .returned (.int .i64 (inPins k)) ∧ w = w' := by
  by_cases h0 : k = 0
  · subst h0
    go_enter Try.func149, Try.ntmps149
    go_wp2
    go_ret
    exact ⟨rfl, rfl⟩
  by_cases h1 : k = 1
  · subst h1
    go_enter Try.func149, Try.ntmps149
    go_wp2
    go_ret
    exact ⟨rfl, rfl⟩
  by_cases h2 : k = 2
  · subst h2
    go_enter Try.func149, Try.ntmps149
    go_wp2
    go_ret
    exact ⟨rfl, rfl⟩
  have e0 : (k == 0) = false := by simpa using h0
  have e1 : (k == 1) = false := by simpa using h1
  have e2 : (k == 2) = false := by simpa using h2
  go_enter Try.func149, Try.ntmps149
  go_wp2
  go_ret
  exact ⟨ret_int (by simp [inPins, h0, h1, h2]), rfl⟩
set_option maxHeartbeats 400000 in
theorem sinPins_any (k : Int) (w : World) :
    Calls Try.prog 95 #[.int .i64 k] w fun e w' => e = .returned (.int .i64 (inPins k)) ∧ w = w' := by
  by_cases h0 : k = 0
  · subst h0
    go_enter Try.func95, Try.ntmps95
    go_wp2
    go_ret
    exact ⟨rfl, rfl⟩
  by_cases h1 : k = 1
  · subst h1
    go_enter Try.func95, Try.ntmps95
    go_wp2
    go_ret
    exact ⟨rfl, rfl⟩
  by_cases h2 : k = 2
  · subst h2
    go_enter Try.func95, Try.ntmps95
    go_wp2
    go_ret
    exact ⟨rfl, rfl⟩
  have e0 : (k == 0) = false := by simpa using h0
  have e1 : (k == 1) = false := by simpa using h1
  have e2 : (k == 2) = false := by simpa using h2
  go_enter Try.func95, Try.ntmps95
  go_wp2
  go_ret
  exact ⟨ret_int (by simp [inPins, h0, h1, h2]), rfl⟩
set_option maxHeartbeats 400000 in
theorem poutPins_any (k : Int) (w : World) :
    Calls Try.prog 150 #[.int .i64 k] w fun e w' => e = .returned (.int .i64 (outPins k)) ∧ w = w' := by
  by_cases h0 : k = 0
  · subst h0
    go_enter Try.func150, Try.ntmps150
    go_wp2
    go_ret
    exact ⟨rfl, rfl⟩
  by_cases h1 : k = 1
  · subst h1
    go_enter Try.func150, Try.ntmps150
    go_wp2
    go_ret
    exact ⟨rfl, rfl⟩
  by_cases h2 : k = 2
  · subst h2
    go_enter Try.func150, Try.ntmps150
    go_wp2
    go_ret
    exact ⟨rfl, rfl⟩
  have e0 : (k == 0) = false := by simpa using h0
  have e1 : (k == 1) = false := by simpa using h1
  have e2 : (k == 2) = false := by simpa using h2
  go_enter Try.func150, Try.ntmps150
  go_wp2
  go_ret
  exact ⟨ret_int (by simp [outPins, h0, h1, h2]), rfl⟩
set_option maxHeartbeats 400000 in
theorem soutPins_any (k : Int) (w : World) :
    Calls Try.prog 97 #[.int .i64 k] w fun e w' => e = .returned (.int .i64 (outPins k)) ∧ w = w' := by
  by_cases h0 : k = 0
  · subst h0
    go_enter Try.func97, Try.ntmps97
    go_wp2
    go_ret
    exact ⟨rfl, rfl⟩
  by_cases h1 : k = 1
  · subst h1
    go_enter Try.func97, Try.ntmps97
    go_wp2
    go_ret
    exact ⟨rfl, rfl⟩
  by_cases h2 : k = 2
  · subst h2
    go_enter Try.func97, Try.ntmps97
    go_wp2
    go_ret
    exact ⟨rfl, rfl⟩
  have e0 : (k == 0) = false := by simpa using h0
  have e1 : (k == 1) = false := by simpa using h1
  have e2 : (k == 2) = false := by simpa using h2
  go_enter Try.func97, Try.ntmps97
  go_wp2
  go_ret
  exact ⟨ret_int (by simp [outPins, h0, h1, h2]), rfl⟩

set_option maxHeartbeats 400000 in
theorem wireLength_any (k : Int) (w : World) (h0 : 0 ≤ k) (h1 : k ≤ 1099511627776) :
    Calls Try.prog 153 #[.int .i64 k] w fun e w' => e = .returned (.int .i64 (wlen k)) ∧ w = w' := by
  unfold wlen
  go_enter Try.func153, Try.ntmps153
  go_wp2
  go_ret
  exact ⟨rfl, rfl⟩

set_option maxHeartbeats 1000000 in
theorem tileOk_any (d : Dev) (t : Int) (w : World) :
    Calls Try.prog 194 #[.agg #[.int .i64 d.W, .int .i64 d.H, .int .i64 d.T, .int .i64 d.R], .int .i64 t] w fun e w' => e = .returned (.bool (tileIn d t)) ∧ Below w.heap.size w w' := by
  go_enter Try.func194, Try.ntmps194
  go_wp2_with fail
  refine (deviceOk_any d _).mono ?_
  rintro e w1 ⟨rfl, b1⟩
  have B1 := Lib.hid (below_tr (below_new (Below.refl _ _) _) b1)
  obtain ⟨hcc, hff⟩ := bcell b1
  clear b1
  cases hd : devOk d with
  | false =>
    have HD := Lib.hid hd
    clear hd
    go_wp2_with fail
    go_ret
    exact ⟨ret_bool (by simp [tileIn, HD.out]), B1.out⟩
  | true =>
    obtain ⟨hN, hN1, hN2⟩ := tiles_eq hd
    have HD := Lib.hid hd
    have HN := Lib.hid hN
    clear hd
    go_wp2_with (go_at_call 106; refine (inRange_any _ _ _ _).mono ?_; rintro e w' ⟨rfl, rfl⟩)
    go_ret
    refine ⟨ret_bool ?_, B1.out⟩
    rw [Bool.eq_iff_iff, inR_iff, tileIn_iff, HD.out, HN.out]
    simp only [true_and]
    omega

theorem inR_call {n lo hi : Int} {b : Bool} (h : inR n lo hi = b) (w : World) : Calls Try.prog 106 #[.int .i64 n, .int .i64 lo, .int .i64 hi] w fun e w' => e = .returned (.bool b) ∧ w = w' := by
  have := inRange_any n lo hi w
  rwa [h] at this

theorem st_bd {d : Dev} {t r s : Int} (ht : tileIn d t = true) (h0 : 0 ≤ s) (h1 : s ≤ 6) : -6 ≤ stX d t r s ∧ stX d t r s ≤ 12 ∧ -6 ≤ stY d t r s ∧ stY d t r s ≤ 12 := by
  obtain ⟨a, b, c, e, _⟩ := tile_xy ht
  have := devOk_bd (tileIn_iff.1 ht).1
  unfold stX stY
  refine ⟨?_, ?_, ?_, ?_⟩ <;> repeat' split
  all_goals omega

set_option maxHeartbeats 1000000 in
theorem tileStep_any (d : Dev) (t r s : Int) (w : World) (ht : tileIn d t = true) (h0 : 0 ≤ s) (h1 : s ≤ 6) :
    Calls Try.prog 152 #[.agg #[.int .i64 d.W, .int .i64 d.H, .int .i64 d.T, .int .i64 d.R], .int .i64 t, .int .i64 r, .int .i64 s] w fun e w' => e = .returned (.int .i64 (stepOf d t r s)) ∧ Below w.heap.size w w' := by
  have hd := (tileIn_iff.1 ht).1
  have ht0 := (tileIn_iff.1 ht).2.1
  have ht1 := (tileIn_iff.1 ht).2.2
  have hWH := dev_WH hd
  obtain ⟨hw1, hw2, hh1, hh2, _⟩ := devOk_bd hd
  obtain ⟨x0, x1, y0, y1, -⟩ := tile_xy ht
  have hst := st_bd (r := r) ht h0 h1
  have e0 : ¬ d.W = 0 := by omega
  have e1 : t.tmod d.W = t % d.W := Int.tmod_eq_emod_of_nonneg ht0
  have e2 : IntKind.i64.wrap (t.tdiv d.W) = t / d.W := IntWalk.i64_quo _ _ ⟨ht0, by omega, by omega⟩
  have HS := Lib.hid (show stIn d t r s = (inR (stX d t r s) 0 (d.W - 1) && inR (stY d t r s) 0 (d.H - 1)) from rfl)
  have HT := Lib.hid (show stepOf d t r s = if stIn d t r s = true then stY d t r s * d.W + stX d t r s else -1 from rfl)
  have HX : Hid (stX d t r s = if r = 0 then t % d.W + s else if r = 2 then t % d.W - s else t % d.W) := rfl
  have HY : Hid (stY d t r s = if r = 1 then t / d.W + s else if r = 0 then t / d.W else if r = 2 then t / d.W else t / d.W - s) := rfl
  have HM := Lib.hid (fun (h : 0 ≤ stY d t r s ∧ stY d t r s ≤ d.H - 1) => mul_bd h.1 (show stY d t r s ≤ 5 by omega) (show 0 ≤ d.W by omega) (show d.W ≤ 6 by omega))
  generalize stX d t r s = X at *
  generalize stY d t r s = Y at *
  generalize stepOf d t r s = P at *
  generalize stIn d t r s = B at *
  clear ht hd
  have hcase : r = 0 ∨ r = 1 ∨ r = 2 ∨ (¬ r = 0 ∧ ¬ r = 1 ∧ ¬ r = 2) := by omega
  have hX1 : (r = 0 → X = t % d.W + s) ∧ (r = 2 → X = t % d.W - s) ∧ (¬ r = 0 ∧ ¬ r = 2 → X = t % d.W) := by
    rw [HX.out]
    refine ⟨fun h => if_pos h, fun h => by rw [if_neg (by omega), if_pos h], fun h => by rw [if_neg h.1, if_neg h.2]⟩
  have hY1 : (r = 1 → Y = t / d.W + s) ∧ (r = 0 ∨ r = 2 → Y = t / d.W) ∧ (¬ r = 0 ∧ ¬ r = 1 ∧ ¬ r = 2 → Y = t / d.W - s) := by
    rw [HY.out]
    refine ⟨fun h => if_pos h, fun h => ?_, fun h => by rw [if_neg h.2.1, if_neg h.1, if_neg h.2.2]⟩
    rcases h with h | h
    · rw [if_neg (by omega), if_pos h]
    · rw [if_neg (by omega), if_neg (by omega), if_pos h]
  clear HX HY
  rcases hcase with h | h | h | ⟨g0, g1, g2⟩
  · obtain rfl := hX1.1 h
    obtain rfl := hY1.2.1 (.inl h)
    subst h
    clear hX1 hY1
    go_enter Try.func152, Try.ntmps152
    go_wp2_with fail
    go_quiet (fail)
    clear e1 e2
    cases hX : inR (t % d.W + s) 0 (d.W - 1) with
    | false =>
      have HXX := Lib.hid hX
      clear hX
      go_wp2_with (go_at_call 106; refine (inR_call HXX.out _).mono ?_; rintro e w' ⟨rfl, rfl⟩)
      go_ret
      exact ⟨ret_int (by rw [HT.out, HS.out, HXX.out]; rfl), below_drewN (below_new (Below.refl _ _) _) _⟩
    | true =>
      have HXX := Lib.hid hX
      clear hX
      cases hY : inR (t / d.W) 0 (d.H - 1) with
      | false =>
        have HYY := Lib.hid hY
        clear hY
        go_wp2_with (go_at_call 106; (first | ((with_reducible refine (inR_call HXX.out _).mono ?_); rintro e w' ⟨rfl, rfl⟩) | ((with_reducible refine (inR_call HYY.out _).mono ?_); rintro e w' ⟨rfl, rfl⟩)))
        go_ret
        exact ⟨ret_int (by rw [HT.out, HS.out, HXX.out, HYY.out]; rfl), below_drewN (below_new (Below.refl _ _) _) _⟩
      | true =>
        have HYY := Lib.hid hY
        have hM := HM.out (inR_iff.1 hY)
        have hx2 := (inR_iff.1 HXX.out)
        clear hY
        go_wp2_with (go_at_call 106; (first | ((with_reducible refine (inR_call HXX.out _).mono ?_); rintro e w' ⟨rfl, rfl⟩) | ((with_reducible refine (inR_call HYY.out _).mono ?_); rintro e w' ⟨rfl, rfl⟩)))
        go_ret
        exact ⟨ret_int (by rw [HT.out, HS.out, HXX.out, HYY.out]; first | rfl | (simp; done) | (simp; omega)), below_drewN (below_new (Below.refl _ _) _) _⟩
  · obtain rfl := hX1.2.2 ⟨by omega, by omega⟩
    obtain rfl := hY1.1 h
    subst h
    clear hX1 hY1
    go_enter Try.func152, Try.ntmps152
    go_wp2_with fail
    go_quiet (fail)
    clear e1 e2
    cases hX : inR (t % d.W) 0 (d.W - 1) with
    | false =>
      have HXX := Lib.hid hX
      clear hX
      go_wp2_with (go_at_call 106; refine (inR_call HXX.out _).mono ?_; rintro e w' ⟨rfl, rfl⟩)
      go_ret
      exact ⟨ret_int (by rw [HT.out, HS.out, HXX.out]; rfl), below_drewN (below_new (Below.refl _ _) _) _⟩
    | true =>
      have HXX := Lib.hid hX
      clear hX
      cases hY : inR (t / d.W + s) 0 (d.H - 1) with
      | false =>
        have HYY := Lib.hid hY
        clear hY
        go_wp2_with (go_at_call 106; (first | ((with_reducible refine (inR_call HXX.out _).mono ?_); rintro e w' ⟨rfl, rfl⟩) | ((with_reducible refine (inR_call HYY.out _).mono ?_); rintro e w' ⟨rfl, rfl⟩)))
        go_ret
        exact ⟨ret_int (by rw [HT.out, HS.out, HXX.out, HYY.out]; rfl), below_drewN (below_new (Below.refl _ _) _) _⟩
      | true =>
        have HYY := Lib.hid hY
        have hM := HM.out (inR_iff.1 hY)
        have hx2 := (inR_iff.1 HXX.out)
        clear hY
        go_wp2_with (go_at_call 106; (first | ((with_reducible refine (inR_call HXX.out _).mono ?_); rintro e w' ⟨rfl, rfl⟩) | ((with_reducible refine (inR_call HYY.out _).mono ?_); rintro e w' ⟨rfl, rfl⟩)))
        go_ret
        exact ⟨ret_int (by rw [HT.out, HS.out, HXX.out, HYY.out]; first | rfl | (simp; done) | (simp; omega)), below_drewN (below_new (Below.refl _ _) _) _⟩
  · obtain rfl := hX1.2.1 h
    obtain rfl := hY1.2.1 (.inr h)
    subst h
    clear hX1 hY1
    go_enter Try.func152, Try.ntmps152
    go_wp2_with fail
    go_quiet (fail)
    clear e1 e2
    cases hX : inR (t % d.W - s) 0 (d.W - 1) with
    | false =>
      have HXX := Lib.hid hX
      clear hX
      go_wp2_with (go_at_call 106; refine (inR_call HXX.out _).mono ?_; rintro e w' ⟨rfl, rfl⟩)
      go_ret
      exact ⟨ret_int (by rw [HT.out, HS.out, HXX.out]; rfl), below_drewN (below_new (Below.refl _ _) _) _⟩
    | true =>
      have HXX := Lib.hid hX
      clear hX
      cases hY : inR (t / d.W) 0 (d.H - 1) with
      | false =>
        have HYY := Lib.hid hY
        clear hY
        go_wp2_with (go_at_call 106; (first | ((with_reducible refine (inR_call HXX.out _).mono ?_); rintro e w' ⟨rfl, rfl⟩) | ((with_reducible refine (inR_call HYY.out _).mono ?_); rintro e w' ⟨rfl, rfl⟩)))
        go_ret
        exact ⟨ret_int (by rw [HT.out, HS.out, HXX.out, HYY.out]; rfl), below_drewN (below_new (Below.refl _ _) _) _⟩
      | true =>
        have HYY := Lib.hid hY
        have hM := HM.out (inR_iff.1 hY)
        have hx2 := (inR_iff.1 HXX.out)
        clear hY
        go_wp2_with (go_at_call 106; (first | ((with_reducible refine (inR_call HXX.out _).mono ?_); rintro e w' ⟨rfl, rfl⟩) | ((with_reducible refine (inR_call HYY.out _).mono ?_); rintro e w' ⟨rfl, rfl⟩)))
        go_ret
        exact ⟨ret_int (by rw [HT.out, HS.out, HXX.out, HYY.out]; first | rfl | (simp; done) | (simp; omega)), below_drewN (below_new (Below.refl _ _) _) _⟩
  · obtain rfl := hX1.2.2 ⟨g0, g2⟩
    obtain rfl := hY1.2.2 ⟨g0, g1, g2⟩
    clear hX1 hY1
    have q0 : (r == 0) = false := by simpa using g0
    have q1 : (r == 1) = false := by simpa using g1
    have q2 : (r == 2) = false := by simpa using g2
    clear g0 g1 g2
    go_enter Try.func152, Try.ntmps152
    go_wp2_with fail
    go_quiet (fail)
    clear e1 e2
    cases hX : inR (t % d.W) 0 (d.W - 1) with
    | false =>
      have HXX := Lib.hid hX
      clear hX
      go_wp2_with (go_at_call 106; refine (inR_call HXX.out _).mono ?_; rintro e w' ⟨rfl, rfl⟩)
      go_ret
      exact ⟨ret_int (by rw [HT.out, HS.out, HXX.out]; rfl), below_drewN (below_new (Below.refl _ _) _) _⟩
    | true =>
      have HXX := Lib.hid hX
      clear hX
      cases hY : inR (t / d.W - s) 0 (d.H - 1) with
      | false =>
        have HYY := Lib.hid hY
        clear hY
        go_wp2_with (go_at_call 106; (first | ((with_reducible refine (inR_call HXX.out _).mono ?_); rintro e w' ⟨rfl, rfl⟩) | ((with_reducible refine (inR_call HYY.out _).mono ?_); rintro e w' ⟨rfl, rfl⟩)))
        go_ret
        exact ⟨ret_int (by rw [HT.out, HS.out, HXX.out, HYY.out]; rfl), below_drewN (below_new (Below.refl _ _) _) _⟩
      | true =>
        have HYY := Lib.hid hY
        have hM := HM.out (inR_iff.1 hY)
        have hx2 := (inR_iff.1 HXX.out)
        clear hY
        go_wp2_with (go_at_call 106; (first | ((with_reducible refine (inR_call HXX.out _).mono ?_); rintro e w' ⟨rfl, rfl⟩) | ((with_reducible refine (inR_call HYY.out _).mono ?_); rintro e w' ⟨rfl, rfl⟩)))
        go_ret
        exact ⟨ret_int (by rw [HT.out, HS.out, HXX.out, HYY.out]; first | rfl | (simp; done) | (simp; omega)), below_drewN (below_new (Below.refl _ _) _) _⟩
end Go.Proofs.Ytclmhnghpnfnkaa
