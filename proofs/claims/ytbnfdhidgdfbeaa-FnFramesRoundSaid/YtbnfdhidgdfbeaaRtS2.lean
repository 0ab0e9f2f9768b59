/- Routing nodes of the reference: pins, wires, which nodes exist. Pins and wires as nodes, which nodes exist: the reference's functions. -/
import Derived.Test.YtbnfdhidgdfbeaaRt5
namespace Go.Proofs.Ytbnfdhidgdfbeaa
set_option maxRecDepth 100000
open Go.RowKit

theorem l01_call {n lo hi : Int} {b : Bool} (h : inR n lo hi = b) (w : World) : Calls Try.prog 85 #[.int .i64 n, .int .i64 lo, .int .i64 hi] w fun e w' => e = .returned (.bool b) ∧ w = w' := by
  have := l01In_any n lo hi w
  rwa [h] at this
theorem wrap_add2 {a b : Int} (hb : -9223372036854775808 ≤ b ∧ b ≤ 9223372036854775807) (h : -9223372036854775808 ≤ a + b ∧ a + b ≤ 9223372036854775807) : IntKind.i64.wrap (a + IntKind.i64.wrap b) = a + b := by rw [IntWalk.i64_in b hb, IntWalk.i64_in _ h]
/-- Behind a region: a number in a slot, and memory as it was. -/
def CutN (X : Int) (w1 : World) (s : Value) (wx : World) : Prop := s = .int .i64 X ∧ Below w1.heap.size w1 wx
theorem stileKind_in (d : Dev) (t : Int) (w : World) (ht : tileIn d t = true) :
    Calls Try.prog 71 #[.agg #[.int .i64 d.W, .int .i64 d.H, .int .i64 d.T, .int .i64 d.R], .int .i64 t] w fun e w' => e = .returned (.int .i64 (kindOf d t)) ∧ Below w.heap.size w w' := by
  obtain ⟨hd, h0, h1⟩ := tileIn_iff.1 ht
  have hWH := dev_WH hd
  have := stileKind_any d t w (by omega)
  rwa [tileKind_in hd h0 h1] at this
theorem stileKind_out (d : Dev) (t : Int) (w : World) (ht : tileIn d t = false) (hb : t ≤ 1099511627776) :
    Calls Try.prog 71 #[.agg #[.int .i64 d.W, .int .i64 d.H, .int .i64 d.T, .int .i64 d.R], .int .i64 t] w fun e w' => e = .returned (.int .i64 (-1)) ∧ Below w.heap.size w w' := by
  have := stileKind_any d t w hb
  have e : tileKind d t = -1 := by
    unfold tileKind
    rw [if_neg]
    intro h
    rw [tileIn_iff.2 h] at ht
    cases ht
  rwa [e] at this

set_option maxHeartbeats 400000 in
theorem l27Per_any (d : Dev) (w : World) (h0 : 0 ≤ d.T) (h1 : d.T ≤ 1099511627776) :
    Calls Try.prog 69 #[.agg #[.int .i64 d.W, .int .i64 d.H, .int .i64 d.T, .int .i64 d.R]] w fun e w' => e = .returned (.int .i64 (perT d)) ∧ Below w.heap.size w w' := by
  unfold perT
  go_enter Try.func69, Try.ntmps69
  go_wp2
  go_ret
  exact ⟨rfl, below_new (Below.refl _ _) _⟩
def rnOf (d : Dev) : Int := if devOk d = true then nodesOf d else 0
set_option maxHeartbeats 1000000 in
theorem sRouteNodes_any (d : Dev) (w : World) :
    Calls Try.prog 30 #[.agg #[.int .i64 d.W, .int .i64 d.H, .int .i64 d.T, .int .i64 d.R]] w fun e w' => e = .returned (.int .i64 (rnOf d)) ∧ Below w.heap.size w w' := by
  go_enter Try.func30, Try.ntmps30
  go_wp2_with fail
  refine (sdeviceOk_any d _).mono ?_
  rintro e w1 ⟨rfl, b1⟩
  have B1 := Lib.hid (below_tr (below_new (Below.refl _ _) _) b1)
  have hs1 := b1.size
  simp only [World.size_alloc] at hs1
  obtain ⟨hcc, hff⟩ := bcell b1
  clear b1
  cases hd : devOk d with
  | false =>
    have HD := Lib.hid hd
    clear hd
    go_wp2_with fail
    go_ret
    exact ⟨ret_int (by rw [rnOf, HD.out]; rfl), B1.out⟩
  | true =>
    have hT := devOk_bd hd
    have hWH := dev_WH hd
    have hp := perT_bd hd
    have hn := nodesOf_bd hd
    have HD := Lib.hid hd
    have HN := Lib.hid (show nodesOf d = d.W * d.H * perT d from rfl)
    rw [HN.out] at hn
    have HR : Hid (rnOf d = d.W * d.H * perT d) := by show _ = _; rw [rnOf, if_pos hd]; rfl
    clear hd
    go_wp2_with fail
    have hwW : w.heap.size < w1.heap.size := by omega
    have hsub := sub_ne w1
    have hsc := sub_cell w1
    refine wp_region_below w1 (by kernel_rfl) (by kernel_rfl) (Below.refl _ _) ?_
    repeat (go_big_quiet_step ((first
      | (go_at_call 69; with_reducible exact calls_sub (l27Per_any d _ (by omega) (by omega))))))
    refine wpQuiet_nil ?_
    rintro _ ⟨⟨w2, hD⟩, rfl⟩
    clear hsub hsc
    go_wp2_with fail
    go_ret
    exact ⟨ret_int (by rw [HR.out]), below_tr B1.out hD⟩

set_option maxHeartbeats 1000000 in
theorem stileStep_0 (d : Dev) (t s : Int) (w : World) (ht : tileIn d t = true) (h0 : 0 ≤ s) (h1 : s ≤ 6) :
    Calls Try.prog 74 #[.agg #[.int .i64 d.W, .int .i64 d.H, .int .i64 d.T, .int .i64 d.R], .int .i64 t, .int .i64 0, .int .i64 s] w fun e w' => e = .returned (.int .i64 (stepOf d t 0 s)) ∧ Below w.heap.size w w' := by
  have hd := (tileIn_iff.1 ht).1
  have ht0 := (tileIn_iff.1 ht).2.1
  have ht1 := (tileIn_iff.1 ht).2.2
  have hWH := dev_WH hd
  obtain ⟨hw1, hw2, hh1, hh2, -⟩ := devOk_bd hd
  obtain ⟨x0, x1, y0, y1, -⟩ := tile_xy ht
  have e0 : ¬ d.W = 0 := by omega
  have e1 : t.tmod d.W = t % d.W := Int.tmod_eq_emod_of_nonneg ht0
  have e2 : IntKind.i64.wrap (t.tdiv d.W) = t / d.W := IntWalk.i64_quo _ _ ⟨ht0, by omega, by omega⟩
  have HTI := Lib.hid ht
  have HM := Lib.hid (fun (h : 0 ≤ stY d t 0 s ∧ stY d t 0 s ≤ d.H - 1) => mul_bd h.1 (show stY d t 0 s ≤ 5 by omega) (show 0 ≤ d.W by omega) (show d.W ≤ 6 by omega))
  have HS := Lib.hid (show stIn d t 0 s = (inR (stX d t 0 s) 0 (d.W - 1) && inR (stY d t 0 s) 0 (d.H - 1)) from rfl)
  have HT := Lib.hid (show stepOf d t 0 s = if stIn d t 0 s = true then stY d t 0 s * d.W + stX d t 0 s else -1 from rfl)
  generalize hX : stX d t 0 s = X at *
  generalize hY : stY d t 0 s = Y at *
  generalize stepOf d t 0 s = P at *
  generalize stIn d t 0 s = B at *
  obtain rfl : t % d.W + s = X := by rw [← hX]; simp [stX]
  obtain rfl : t / d.W = Y := by rw [← hY]; simp [stY]
  have hL1 := l01_call (n := 0) (lo := 0) (hi := 3) (b := true) (by decide)
  have hL2 := l01_call (n := s) (lo := 0) (hi := 6) (b := true) (inR_iff.2 ⟨h0, h1⟩)
  have HL1 := Lib.hid hL1
  have HL2 := Lib.hid hL2
  clear ht hd hX hY hL1 hL2
  go_enter Try.func74, Try.ntmps74
  go_wp2_with fail
  refine (stileKind_in d t _ HTI.out).mono ?_
  rintro e w1 ⟨rfl, b1⟩
  have hk3 := kindOf_bd d t
  generalize kindOf d t = K at *
  have B1 := Lib.hid (below_tr (below_new (Below.refl _ _) _) b1)
  have hs1 := b1.size
  simp only [World.size_alloc] at hs1
  obtain ⟨hcc, hff⟩ := bcell b1
  have hkk : decide (K < 0) = false := by simp; omega
  clear b1
  have hwW : w.heap.size < w1.heap.size := by omega
  go_wp2_with (go_at_call 85; (first | ((with_reducible refine (HL1.out _).mono ?_); rintro e w' ⟨rfl, rfl⟩) | ((with_reducible refine (HL2.out _).mono ?_); rintro e w' ⟨rfl, rfl⟩)))
  have HXW : Hid (IntKind.i64.wrap (t % d.W + IntKind.i64.wrap s) = t % d.W + s) := (wrap_add2 (by omega) (by omega)).trans (by omega)
  have HYW : Hid (IntKind.i64.wrap (t / d.W + IntKind.i64.wrap 0) = t / d.W) := (wrap_add2 (by omega) (by omega)).trans (by omega)
  go_cut [9] (fun s9 wx => CutN (t % d.W + s) w1 s9 wx)
  case first =>
    clear hk3 hkk h0 h1 ht0 ht1 hh1 hh2 hWH
    go_region_with (fail)
    all_goals
      go_wp2_with fail
      go_meet
      exact ⟨by rw [HXW.out], below_new (Below.refl _ _).drew _⟩
  obtain ⟨rfl, hD1⟩ := hcut
  have hwx := below_lt hD1 hwW
  have hcx := (bcell hD1).1
  go_wp2_with fail
  go_cut [10] (fun s10 wy => CutN (t / d.W) w1 s10 wy)
  case first =>
    clear hk3 hkk h0 h1 ht0 ht1 hh1 hh2 hWH
    go_region_with (fail)
    all_goals
      go_wp2_with fail
      go_meet
      exact ⟨by rw [HYW.out], below_tr hD1 (below_new (Below.refl _ _).drew _)⟩
  obtain ⟨rfl, hD⟩ := hcut
  have hwy := below_lt hD hwW
  have hcy := (bcell hD).1
  clear e1 e2 hcx
  cases hX : inR (t % d.W + s) 0 (d.W - 1) with
  | false =>
    have HXX := Lib.hid (l01_call hX)
    have HXX' := Lib.hid hX
    clear hX
    go_wp2_with (go_at_call 85; (with_reducible refine (HXX.out _).mono ?_); rintro e w' ⟨rfl, rfl⟩)
    go_ret
    exact ⟨ret_int (by rw [HT.out, HS.out, HXX'.out]; rfl), below_tr B1.out hD⟩
  | true =>
    have HXX := Lib.hid (l01_call hX)
    have HXX' := Lib.hid hX
    clear hX
    cases hY : inR (t / d.W) 0 (d.H - 1) with
    | false =>
      have HYY := Lib.hid (l01_call hY)
      have HYY' := Lib.hid hY
      clear hY
      go_wp2_with (go_at_call 85; (first | ((with_reducible refine (HXX.out _).mono ?_); rintro e w' ⟨rfl, rfl⟩) | ((with_reducible refine (HYY.out _).mono ?_); rintro e w' ⟨rfl, rfl⟩)))
      go_ret
      exact ⟨ret_int (by rw [HT.out, HS.out, HXX'.out, HYY'.out]; rfl), below_tr B1.out hD⟩
    | true =>
      have HYY := Lib.hid (l01_call hY)
      have HYY' := Lib.hid hY
      have hM := HM.out (inR_iff.1 hY)
      have hx2 := (inR_iff.1 HXX'.out)
      clear hY
      go_wp2_with (go_at_call 85; (first | ((with_reducible refine (HXX.out _).mono ?_); rintro e w' ⟨rfl, rfl⟩) | ((with_reducible refine (HYY.out _).mono ?_); rintro e w' ⟨rfl, rfl⟩)))
      go_ret
      exact ⟨ret_int (by rw [HT.out, HS.out, HXX'.out, HYY'.out]; first | rfl | (simp; done) | (simp; omega)), below_tr B1.out hD⟩
set_option maxHeartbeats 1000000 in
theorem stileStep_1 (d : Dev) (t s : Int) (w : World) (ht : tileIn d t = true) (h0 : 0 ≤ s) (h1 : s ≤ 6) :
    Calls Try.prog 74 #[.agg #[.int .i64 d.W, .int .i64 d.H, .int .i64 d.T, .int .i64 d.R], .int .i64 t, .int .i64 1, .int .i64 s] w fun e w' => e = .returned (.int .i64 (stepOf d t 1 s)) ∧ Below w.heap.size w w' := by
  have hd := (tileIn_iff.1 ht).1
  have ht0 := (tileIn_iff.1 ht).2.1
  have ht1 := (tileIn_iff.1 ht).2.2
  have hWH := dev_WH hd
  obtain ⟨hw1, hw2, hh1, hh2, -⟩ := devOk_bd hd
  obtain ⟨x0, x1, y0, y1, -⟩ := tile_xy ht
  have e0 : ¬ d.W = 0 := by omega
  have e1 : t.tmod d.W = t % d.W := Int.tmod_eq_emod_of_nonneg ht0
  have e2 : IntKind.i64.wrap (t.tdiv d.W) = t / d.W := IntWalk.i64_quo _ _ ⟨ht0, by omega, by omega⟩
  have HTI := Lib.hid ht
  have HM := Lib.hid (fun (h : 0 ≤ stY d t 1 s ∧ stY d t 1 s ≤ d.H - 1) => mul_bd h.1 (show stY d t 1 s ≤ 5 by omega) (show 0 ≤ d.W by omega) (show d.W ≤ 6 by omega))
  have HS := Lib.hid (show stIn d t 1 s = (inR (stX d t 1 s) 0 (d.W - 1) && inR (stY d t 1 s) 0 (d.H - 1)) from rfl)
  have HT := Lib.hid (show stepOf d t 1 s = if stIn d t 1 s = true then stY d t 1 s * d.W + stX d t 1 s else -1 from rfl)
  generalize hX : stX d t 1 s = X at *
  generalize hY : stY d t 1 s = Y at *
  generalize stepOf d t 1 s = P at *
  generalize stIn d t 1 s = B at *
  obtain rfl : t % d.W = X := by rw [← hX]; simp [stX]
  obtain rfl : t / d.W + s = Y := by rw [← hY]; simp [stY]
  have hL1 := l01_call (n := 1) (lo := 0) (hi := 3) (b := true) (by decide)
  have hL2 := l01_call (n := s) (lo := 0) (hi := 6) (b := true) (inR_iff.2 ⟨h0, h1⟩)
  have HL1 := Lib.hid hL1
  have HL2 := Lib.hid hL2
  clear ht hd hX hY hL1 hL2
  go_enter Try.func74, Try.ntmps74
  go_wp2_with fail
  refine (stileKind_in d t _ HTI.out).mono ?_
  rintro e w1 ⟨rfl, b1⟩
  have hk3 := kindOf_bd d t
  generalize kindOf d t = K at *
  have B1 := Lib.hid (below_tr (below_new (Below.refl _ _) _) b1)
  have hs1 := b1.size
  simp only [World.size_alloc] at hs1
  obtain ⟨hcc, hff⟩ := bcell b1
  have hkk : decide (K < 0) = false := by simp; omega
  clear b1
  have hwW : w.heap.size < w1.heap.size := by omega
  go_wp2_with (go_at_call 85; (first | ((with_reducible refine (HL1.out _).mono ?_); rintro e w' ⟨rfl, rfl⟩) | ((with_reducible refine (HL2.out _).mono ?_); rintro e w' ⟨rfl, rfl⟩)))
  have HXW : Hid (IntKind.i64.wrap (t % d.W + IntKind.i64.wrap 0) = t % d.W) := (wrap_add2 (by omega) (by omega)).trans (by omega)
  have HYW : Hid (IntKind.i64.wrap (t / d.W + IntKind.i64.wrap s) = t / d.W + s) := (wrap_add2 (by omega) (by omega)).trans (by omega)
  go_cut [9] (fun s9 wx => CutN (t % d.W) w1 s9 wx)
  case first =>
    clear hk3 hkk h0 h1 ht0 ht1 hh1 hh2 hWH
    go_region_with (fail)
    all_goals
      go_wp2_with fail
      go_meet
      exact ⟨by rw [HXW.out], below_new (Below.refl _ _).drew _⟩
  obtain ⟨rfl, hD1⟩ := hcut
  have hwx := below_lt hD1 hwW
  have hcx := (bcell hD1).1
  go_wp2_with fail
  go_cut [10] (fun s10 wy => CutN (t / d.W + s) w1 s10 wy)
  case first =>
    clear hk3 hkk h0 h1 ht0 ht1 hh1 hh2 hWH
    go_region_with (fail)
    all_goals
      go_wp2_with fail
      go_meet
      exact ⟨by rw [HYW.out], below_tr hD1 (below_new (Below.refl _ _).drew _)⟩
  obtain ⟨rfl, hD⟩ := hcut
  have hwy := below_lt hD hwW
  have hcy := (bcell hD).1
  clear e1 e2 hcx
  cases hX : inR (t % d.W) 0 (d.W - 1) with
  | false =>
    have HXX := Lib.hid (l01_call hX)
    have HXX' := Lib.hid hX
    clear hX
    go_wp2_with (go_at_call 85; (with_reducible refine (HXX.out _).mono ?_); rintro e w' ⟨rfl, rfl⟩)
    go_ret
    exact ⟨ret_int (by rw [HT.out, HS.out, HXX'.out]; rfl), below_tr B1.out hD⟩
  | true =>
    have HXX := Lib.hid (l01_call hX)
    have HXX' := Lib.hid hX
    clear hX
    cases hY : inR (t / d.W + s) 0 (d.H - 1) with
    | false =>
      have HYY := Lib.hid (l01_call hY)
      have HYY' := Lib.hid hY
      clear hY
      go_wp2_with (go_at_call 85; (first | ((with_reducible refine (HXX.out _).mono ?_); rintro e w' ⟨rfl, rfl⟩) | ((with_reducible refine (HYY.out _).mono ?_); rintro e w' ⟨rfl, rfl⟩)))
      go_ret
      exact ⟨ret_int (by rw [HT.out, HS.out, HXX'.out, HYY'.out]; rfl), below_tr B1.out hD⟩
    | true =>
      have HYY := Lib.hid (l01_call hY)
      have HYY' := Lib.hid hY
      have hM := HM.out (inR_iff.1 hY)
      have hx2 := (inR_iff.1 HXX'.out)
      clear hY
      go_wp2_with (go_at_call 85; (first | ((with_reducible refine (HXX.out _).mono ?_); rintro e w' ⟨rfl, rfl⟩) | ((with_reducible refine (HYY.out _).mono ?_); rintro e w' ⟨rfl, rfl⟩)))
      go_ret
      exact ⟨ret_int (by rw [HT.out, HS.out, HXX'.out, HYY'.out]; first | rfl | (simp; done) | (simp; omega)), below_tr B1.out hD⟩
set_option maxHeartbeats 1000000 in
theorem stileStep_2 (d : Dev) (t s : Int) (w : World) (ht : tileIn d t = true) (h0 : 0 ≤ s) (h1 : s ≤ 6) :
    Calls Try.prog 74 #[.agg #[.int .i64 d.W, .int .i64 d.H, .int .i64 d.T, .int .i64 d.R], .int .i64 t, .int .i64 2, .int .i64 s] w fun e w' => e = .returned (.int .i64 (stepOf d t 2 s)) ∧ Below w.heap.size w w' := by
  have hd := (tileIn_iff.1 ht).1
  have ht0 := (tileIn_iff.1 ht).2.1
  have ht1 := (tileIn_iff.1 ht).2.2
  have hWH := dev_WH hd
  obtain ⟨hw1, hw2, hh1, hh2, -⟩ := devOk_bd hd
  obtain ⟨x0, x1, y0, y1, -⟩ := tile_xy ht
  have e0 : ¬ d.W = 0 := by omega
  have e1 : t.tmod d.W = t % d.W := Int.tmod_eq_emod_of_nonneg ht0
  have e2 : IntKind.i64.wrap (t.tdiv d.W) = t / d.W := IntWalk.i64_quo _ _ ⟨ht0, by omega, by omega⟩
  have HTI := Lib.hid ht
  have HM := Lib.hid (fun (h : 0 ≤ stY d t 2 s ∧ stY d t 2 s ≤ d.H - 1) => mul_bd h.1 (show stY d t 2 s ≤ 5 by omega) (show 0 ≤ d.W by omega) (show d.W ≤ 6 by omega))
  have HS := Lib.hid (show stIn d t 2 s = (inR (stX d t 2 s) 0 (d.W - 1) && inR (stY d t 2 s) 0 (d.H - 1)) from rfl)
  have HT := Lib.hid (show stepOf d t 2 s = if stIn d t 2 s = true then stY d t 2 s * d.W + stX d t 2 s else -1 from rfl)
  generalize hX : stX d t 2 s = X at *
  generalize hY : stY d t 2 s = Y at *
  generalize stepOf d t 2 s = P at *
  generalize stIn d t 2 s = B at *
  obtain rfl : t % d.W - s = X := by rw [← hX]; simp [stX]
  obtain rfl : t / d.W = Y := by rw [← hY]; simp [stY]
  have hL1 := l01_call (n := 2) (lo := 0) (hi := 3) (b := true) (by decide)
  have hL2 := l01_call (n := s) (lo := 0) (hi := 6) (b := true) (inR_iff.2 ⟨h0, h1⟩)
  have HL1 := Lib.hid hL1
  have HL2 := Lib.hid hL2
  clear ht hd hX hY hL1 hL2
  go_enter Try.func74, Try.ntmps74
  go_wp2_with fail
  refine (stileKind_in d t _ HTI.out).mono ?_
  rintro e w1 ⟨rfl, b1⟩
  have hk3 := kindOf_bd d t
  generalize kindOf d t = K at *
  have B1 := Lib.hid (below_tr (below_new (Below.refl _ _) _) b1)
  have hs1 := b1.size
  simp only [World.size_alloc] at hs1
  obtain ⟨hcc, hff⟩ := bcell b1
  have hkk : decide (K < 0) = false := by simp; omega
  clear b1
  have hwW : w.heap.size < w1.heap.size := by omega
  go_wp2_with (go_at_call 85; (first | ((with_reducible refine (HL1.out _).mono ?_); rintro e w' ⟨rfl, rfl⟩) | ((with_reducible refine (HL2.out _).mono ?_); rintro e w' ⟨rfl, rfl⟩)))
  have HXW : Hid (IntKind.i64.wrap (t % d.W + IntKind.i64.wrap (-s)) = t % d.W - s) := (wrap_add2 (by omega) (by omega)).trans (by omega)
  have HYW : Hid (IntKind.i64.wrap (t / d.W + IntKind.i64.wrap 0) = t / d.W) := (wrap_add2 (by omega) (by omega)).trans (by omega)
  go_cut [9] (fun s9 wx => CutN (t % d.W - s) w1 s9 wx)
  case first =>
    clear hk3 hkk h0 h1 ht0 ht1 hh1 hh2 hWH
    go_region_with (fail)
    all_goals
      go_wp2_with fail
      go_meet
      exact ⟨by rw [HXW.out], below_new (Below.refl _ _).drew _⟩
  obtain ⟨rfl, hD1⟩ := hcut
  have hwx := below_lt hD1 hwW
  have hcx := (bcell hD1).1
  go_wp2_with fail
  go_cut [10] (fun s10 wy => CutN (t / d.W) w1 s10 wy)
  case first =>
    clear hk3 hkk h0 h1 ht0 ht1 hh1 hh2 hWH
    go_region_with (fail)
    all_goals
      go_wp2_with fail
      go_meet
      exact ⟨by rw [HYW.out], below_tr hD1 (below_new (Below.refl _ _).drew _)⟩
  obtain ⟨rfl, hD⟩ := hcut
  have hwy := below_lt hD hwW
  have hcy := (bcell hD).1
  clear e1 e2 hcx
  cases hX : inR (t % d.W - s) 0 (d.W - 1) with
  | false =>
    have HXX := Lib.hid (l01_call hX)
    have HXX' := Lib.hid hX
    clear hX
    go_wp2_with (go_at_call 85; (with_reducible refine (HXX.out _).mono ?_); rintro e w' ⟨rfl, rfl⟩)
    go_ret
    exact ⟨ret_int (by rw [HT.out, HS.out, HXX'.out]; rfl), below_tr B1.out hD⟩
  | true =>
    have HXX := Lib.hid (l01_call hX)
    have HXX' := Lib.hid hX
    clear hX
    cases hY : inR (t / d.W) 0 (d.H - 1) with
    | false =>
      have HYY := Lib.hid (l01_call hY)
      have HYY' := Lib.hid hY
      clear hY
      go_wp2_with (go_at_call 85; (first | ((with_reducible refine (HXX.out _).mono ?_); rintro e w' ⟨rfl, rfl⟩) | ((with_reducible refine (HYY.out _).mono ?_); rintro e w' ⟨rfl, rfl⟩)))
      go_ret
      exact ⟨ret_int (by rw [HT.out, HS.out, HXX'.out, HYY'.out]; rfl), below_tr B1.out hD⟩
    | true =>
      have HYY := Lib.hid (l01_call hY)
      have HYY' := Lib.hid hY
      have hM := HM.out (inR_iff.1 hY)
      have hx2 := (inR_iff.1 HXX'.out)
      clear hY
      go_wp2_with (go_at_call 85; (first | ((with_reducible refine (HXX.out _).mono ?_); rintro e w' ⟨rfl, rfl⟩) | ((with_reducible refine (HYY.out _).mono ?_); rintro e w' ⟨rfl, rfl⟩)))
      go_ret
      exact ⟨ret_int (by rw [HT.out, HS.out, HXX'.out, HYY'.out]; first | rfl | (simp; done) | (simp; omega)), below_tr B1.out hD⟩
set_option maxHeartbeats 1000000 in
theorem stileStep_3 (d : Dev) (t s : Int) (w : World) (ht : tileIn d t = true) (h0 : 0 ≤ s) (h1 : s ≤ 6) :
    Calls Try.prog 74 #[.agg #[.int .i64 d.W, .int .i64 d.H, .int .i64 d.T, .int .i64 d.R], .int .i64 t, .int .i64 3, .int .i64 s] w fun e w' => e = .returned (.int .i64 (stepOf d t 3 s)) ∧ Below w.heap.size w w' := by
  have hd := (tileIn_iff.1 ht).1
  have ht0 := (tileIn_iff.1 ht).2.1
  have ht1 := (tileIn_iff.1 ht).2.2
  have hWH := dev_WH hd
  obtain ⟨hw1, hw2, hh1, hh2, -⟩ := devOk_bd hd
  obtain ⟨x0, x1, y0, y1, -⟩ := tile_xy ht
  have e0 : ¬ d.W = 0 := by omega
  have e1 : t.tmod d.W = t % d.W := Int.tmod_eq_emod_of_nonneg ht0
  have e2 : IntKind.i64.wrap (t.tdiv d.W) = t / d.W := IntWalk.i64_quo _ _ ⟨ht0, by omega, by omega⟩
  have HTI := Lib.hid ht
  have HM := Lib.hid (fun (h : 0 ≤ stY d t 3 s ∧ stY d t 3 s ≤ d.H - 1) => mul_bd h.1 (show stY d t 3 s ≤ 5 by omega) (show 0 ≤ d.W by omega) (show d.W ≤ 6 by omega))
  have HS := Lib.hid (show stIn d t 3 s = (inR (stX d t 3 s) 0 (d.W - 1) && inR (stY d t 3 s) 0 (d.H - 1)) from rfl)
  have HT := Lib.hid (show stepOf d t 3 s = if stIn d t 3 s = true then stY d t 3 s * d.W + stX d t 3 s else -1 from rfl)
  generalize hX : stX d t 3 s = X at *
  generalize hY : stY d t 3 s = Y at *
  generalize stepOf d t 3 s = P at *
  generalize stIn d t 3 s = B at *
  obtain rfl : t % d.W = X := by rw [← hX]; simp [stX]
  obtain rfl : t / d.W - s = Y := by rw [← hY]; simp [stY]
  have hL1 := l01_call (n := 3) (lo := 0) (hi := 3) (b := true) (by decide)
  have hL2 := l01_call (n := s) (lo := 0) (hi := 6) (b := true) (inR_iff.2 ⟨h0, h1⟩)
  have HL1 := Lib.hid hL1
  have HL2 := Lib.hid hL2
  clear ht hd hX hY hL1 hL2
  go_enter Try.func74, Try.ntmps74
  go_wp2_with fail
  refine (stileKind_in d t _ HTI.out).mono ?_
  rintro e w1 ⟨rfl, b1⟩
  have hk3 := kindOf_bd d t
  generalize kindOf d t = K at *
  have B1 := Lib.hid (below_tr (below_new (Below.refl _ _) _) b1)
  have hs1 := b1.size
  simp only [World.size_alloc] at hs1
  obtain ⟨hcc, hff⟩ := bcell b1
  have hkk : decide (K < 0) = false := by simp; omega
  clear b1
  have hwW : w.heap.size < w1.heap.size := by omega
  go_wp2_with (go_at_call 85; (first | ((with_reducible refine (HL1.out _).mono ?_); rintro e w' ⟨rfl, rfl⟩) | ((with_reducible refine (HL2.out _).mono ?_); rintro e w' ⟨rfl, rfl⟩)))
  have HXW : Hid (IntKind.i64.wrap (t % d.W + IntKind.i64.wrap 0) = t % d.W) := (wrap_add2 (by omega) (by omega)).trans (by omega)
  have HYW : Hid (IntKind.i64.wrap (t / d.W + IntKind.i64.wrap (-s)) = t / d.W - s) := (wrap_add2 (by omega) (by omega)).trans (by omega)
  go_cut [9] (fun s9 wx => CutN (t % d.W) w1 s9 wx)
  case first =>
    clear hk3 hkk h0 h1 ht0 ht1 hh1 hh2 hWH
    go_region_with (fail)
    all_goals
      go_wp2_with fail
      go_meet
      exact ⟨by rw [HXW.out], below_new (Below.refl _ _).drew _⟩
  obtain ⟨rfl, hD1⟩ := hcut
  have hwx := below_lt hD1 hwW
  have hcx := (bcell hD1).1
  go_wp2_with fail
  go_cut [10] (fun s10 wy => CutN (t / d.W - s) w1 s10 wy)
  case first =>
    clear hk3 hkk h0 h1 ht0 ht1 hh1 hh2 hWH
    go_region_with (fail)
    all_goals
      go_wp2_with fail
      go_meet
      exact ⟨by rw [HYW.out], below_tr hD1 (below_new (Below.refl _ _).drew _)⟩
  obtain ⟨rfl, hD⟩ := hcut
  have hwy := below_lt hD hwW
  have hcy := (bcell hD).1
  clear e1 e2 hcx
  cases hX : inR (t % d.W) 0 (d.W - 1) with
  | false =>
    have HXX := Lib.hid (l01_call hX)
    have HXX' := Lib.hid hX
    clear hX
    go_wp2_with (go_at_call 85; (with_reducible refine (HXX.out _).mono ?_); rintro e w' ⟨rfl, rfl⟩)
    go_ret
    exact ⟨ret_int (by rw [HT.out, HS.out, HXX'.out]; rfl), below_tr B1.out hD⟩
  | true =>
    have HXX := Lib.hid (l01_call hX)
    have HXX' := Lib.hid hX
    clear hX
    cases hY : inR (t / d.W - s) 0 (d.H - 1) with
    | false =>
      have HYY := Lib.hid (l01_call hY)
      have HYY' := Lib.hid hY
      clear hY
      go_wp2_with (go_at_call 85; (first | ((with_reducible refine (HXX.out _).mono ?_); rintro e w' ⟨rfl, rfl⟩) | ((with_reducible refine (HYY.out _).mono ?_); rintro e w' ⟨rfl, rfl⟩)))
      go_ret
      exact ⟨ret_int (by rw [HT.out, HS.out, HXX'.out, HYY'.out]; rfl), below_tr B1.out hD⟩
    | true =>
      have HYY := Lib.hid (l01_call hY)
      have HYY' := Lib.hid hY
      have hM := HM.out (inR_iff.1 hY)
      have hx2 := (inR_iff.1 HXX'.out)
      clear hY
      go_wp2_with (go_at_call 85; (first | ((with_reducible refine (HXX.out _).mono ?_); rintro e w' ⟨rfl, rfl⟩) | ((with_reducible refine (HYY.out _).mono ?_); rintro e w' ⟨rfl, rfl⟩)))
      go_ret
      exact ⟨ret_int (by rw [HT.out, HS.out, HXX'.out, HYY'.out]; first | rfl | (simp; done) | (simp; omega)), below_tr B1.out hD⟩
theorem stileStep_any (d : Dev) (t r s : Int) (w : World) (ht : tileIn d t = true) (r0 : 0 ≤ r) (r3 : r ≤ 3) (h0 : 0 ≤ s) (h1 : s ≤ 6) :
  Calls Try.prog 74 #[.agg #[.int .i64 d.W, .int .i64 d.H, .int .i64 d.T, .int .i64 d.R], .int .i64 t, .int .i64 r, .int .i64 s] w fun e w' => e = .returned (.int .i64 (stepOf d t r s)) ∧ Below w.heap.size w w' := by
  have : r = 0 ∨ r = 1 ∨ r = 2 ∨ r = 3 := by omega
  rcases this with rfl | rfl | rfl | rfl
  · exact stileStep_0 d t s w ht h0 h1
  · exact stileStep_1 d t s w ht h0 h1
  · exact stileStep_2 d t s w ht h0 h1
  · exact stileStep_3 d t s w ht h0 h1
end Go.Proofs.Ytbnfdhidgdfbeaa

namespace Go.Proofs.Ytbnfdhidgdfbeaa
set_option maxRecDepth 100000
open Go.RowKit

set_option maxHeartbeats 1000000 in
theorem soutPin_any (d : Dev) (t p : Int) (w : World) (ht : tileIn d t = true) (hp0 : 0 ≤ p) (hp1 : p ≤ 10) :
    Calls Try.prog 143 #[.agg #[.int .i64 d.W, .int .i64 d.H, .int .i64 d.T, .int .i64 d.R], .int .i64 t, .int .i64 p] w fun e w' => e = .returned (.int .i64 (outPin d t p)) ∧ Below w.heap.size w w' := by
  have HO : Hid (outPin d t p = if tileIn d t = true ∧ 0 ≤ p ∧ p < outPins (kindOf d t) then t * perT d + 5 + p else -1) := rfl
  obtain ⟨hd, ht0, ht1⟩ := tileIn_iff.1 ht
  have hWH := dev_WH hd
  have hT := devOk_bd hd
  have hp := perT_bd hd
  have hop := outPins_bd d t
  have HM := Lib.hid (mul_bd ht0 (show t ≤ 35 by omega) (show 0 ≤ perT d by omega) hp.2)
  have HT := Lib.hid ht
  have hdp : decide (p < 0) = false := by simp; omega
  clear ht hd
  go_enter Try.func143, Try.ntmps143
  go_wp2_with fail
  refine (stileKind_in d t _ HT.out).mono ?_
  rintro e w2 ⟨rfl, b2⟩
  have B2 := Lib.hid (below_tr (below_new (Below.refl _ _) _) b2)
  have hs2 := b2.size
  simp only [World.size_alloc] at hs2
  obtain ⟨hcc, hff⟩ := bcell b2
  clear b2
  generalize hK : kindOf d t = K at *
  have HK := Lib.hid hK
  clear hK
  have hQ : ∃ Q, outPins K = Q := ⟨_, rfl⟩
  obtain ⟨Q, hQ⟩ := hQ
  rw [hQ] at hop HO
  have HC : Hid (∀ w, Calls Try.prog 72 #[.int .i64 K] w fun e w' => e = .returned (.int .i64 Q) ∧ w = w') := fun w => by have := soutPins_any K w; rwa [hQ] at this
  clear hQ
  by_cases hin : p < Q
  · have hh : decide (p ≥ Q) = false := by simp; omega
    go_wp2_with (go_at_call 72; refine (HC.out _).mono ?_; rintro e w' ⟨rfl, rfl⟩)
    refine (l27Per_any d _ (by omega) (by omega)).mono ?_
    rintro e w3 ⟨rfl, b3⟩
    have B3 := Lib.hid (below_tr B2.out b3)
    have hM := HM.out
    clear b3 hcc hff
    go_wp2_with fail
    go_ret
    exact ⟨ret_int (by rw [HO.out, if_pos ⟨HT.out, by omega, by omega⟩]), B3.out⟩
  · have hh : decide (p ≥ Q) = true := by simp; omega
    go_wp2_with (go_at_call 72; refine (HC.out _).mono ?_; rintro e w' ⟨rfl, rfl⟩)
    go_ret
    exact ⟨ret_int (by rw [HO.out, if_neg]; rintro ⟨_, h0, h1⟩; omega), B2.out⟩

set_option maxHeartbeats 1000000 in
theorem swireNode_any (d : Dev) (t r k : Int) (w : World) (hd : devOk d = true) (htb : t ≤ 1099511627776) (hr0 : 0 ≤ r) (hr3 : r ≤ 3) (hk0 : 0 ≤ k) (hk1 : k < d.T) :
    Calls Try.prog 144 #[.agg #[.int .i64 d.W, .int .i64 d.H, .int .i64 d.T, .int .i64 d.R], .int .i64 t, .int .i64 r, .int .i64 k] w fun e w' => e = .returned (.int .i64 (wireNode d t r k)) ∧ Below w.heap.size w w' := by
  have HO : Hid (wireNode d t r k = if tileIn d t = true ∧ (0 ≤ r ∧ r ≤ 3) ∧ (0 ≤ k ∧ k < d.T) ∧ 0 ≤ stepOf d t r (wlen k) then t * perT d + 7 + r * d.T + k else -1) := rfl
  have hT := devOk_bd hd
  have hWH := dev_WH hd
  have hp := perT_bd hd
  have HD := Lib.hid hd
  clear hd
  cases ht : tileIn d t with
  | false =>
    have HT := Lib.hid ht
    clear ht
    go_enter Try.func144, Try.ntmps144
    go_wp2_with fail
    refine (stileKind_out d t _ HT.out htb).mono ?_
    rintro e w2 ⟨rfl, b2⟩
    have B2 := Lib.hid (below_tr (below_new (Below.refl _ _) _) b2)
    clear b2
    go_wp2_with fail
    go_ret
    exact ⟨ret_int (by rw [HO.out, if_neg (by rw [HT.out]; simp)]), B2.out⟩
  | true =>
    obtain ⟨_, ht0, ht1⟩ := tileIn_iff.1 ht
    have HT := Lib.hid ht
    have hL : wlen k = 1 + k % 2 := rfl
    have hL2 : 1 ≤ wlen k ∧ wlen k ≤ 2 := by rw [hL]; omega
    have HL := Lib.hid hL.symm
    clear ht hL
    have hdk : decide (k < 0) = false := by simp; omega
    have hdk' : decide (k ≥ d.T) = false := by simp; omega
    go_enter Try.func144, Try.ntmps144
    go_wp2_with fail
    refine (stileKind_in d t _ HT.out).mono ?_
    rintro e w2 ⟨rfl, b2⟩
    have hk3 := kindOf_bd d t
    generalize kindOf d t = K at *
    have hdK : decide (K < 0) = false := by simp; omega
    have B2 := Lib.hid b2
    have hs2 := b2.size
    simp only [World.size_alloc] at hs2
    obtain ⟨hcc, hff⟩ := bcell b2
    clear b2
    go_wp2_with fail
    rw [HL.out]
    generalize hLL : wlen k = L at *
    generalize hP : stepOf d t r L = P at *
    have HP := Lib.hid hP
    have HC : Hid (∀ w, Calls Try.prog 74 #[.agg #[.int .i64 d.W, .int .i64 d.H, .int .i64 d.T, .int .i64 d.R], .int .i64 t, .int .i64 r, .int .i64 L] w fun e w' => e = .returned (.int .i64 P) ∧ Below w.heap.size w w') := fun w => by have := stileStep_any d t r L w HT.out hr0 hr3 (by omega) (by omega); rwa [hP] at this
    clear hP hLL
    refine (HC.out _).mono ?_
    rintro e w3 ⟨rfl, b3⟩
    have B3 := Lib.hid (below_tr B2.out b3)
    have hs3 := b3.size
    clear b3 hcc hff
    obtain ⟨hcc, hff⟩ := bcell B3.out
    by_cases hP0 : P < 0
    · have hdP : decide (P < 0) = true := by simpa using hP0
      go_wp2_with fail
      go_ret
      exact ⟨ret_int (by rw [HO.out, if_neg]; rintro ⟨_, _, _, h⟩; omega), below_tr (below_new (Below.refl _ _) _) B3.out⟩
    · have hdP : decide (P < 0) = false := by simp; omega
      go_wp2_with fail
      have hwW : w.heap.size < w3.heap.size := by omega
      have hsub := sub_ne w3
      have hsc := sub_cell w3
      refine wp_region_below w3 (by kernel_rfl) (by kernel_rfl) (Below.refl _ _) ?_
      repeat (go_big_quiet_step ((go_at_call 69; with_reducible exact calls_sub (l27Per_any d _ (by omega) (by omega)))))
      refine wpQuiet_nil ?_
      rintro _ ⟨⟨w4, hD⟩, rfl⟩
      clear hsub hsc
      have hM := mul_bd ht0 (show t ≤ 35 by omega) (show 0 ≤ perT d by omega) hp.2
      have hM2 := mul_bd hr0 hr3 (show 0 ≤ d.T by omega) (show d.T ≤ 4 by omega)
      have HE := Lib.hid (And.intro (IntWalk.i64_in (t * perT d) (by omega)) (And.intro (IntWalk.i64_in (t * perT d + 7) (by omega)) (And.intro (IntWalk.i64_in (r * d.T) (by omega)) (And.intro (IntWalk.i64_in (t * perT d + 7 + r * d.T) (by omega)) (IntWalk.i64_in (t * perT d + 7 + r * d.T + k) (by omega))))))
      have HE' := Lib.hid (And.intro (IntWalk.wrap64_in (t * perT d) (by omega)) (And.intro (IntWalk.wrap64_in (t * perT d + 7) (by omega)) (And.intro (IntWalk.wrap64_in (r * d.T) (by omega)) (And.intro (IntWalk.wrap64_in (t * perT d + 7 + r * d.T) (by omega)) (IntWalk.wrap64_in (t * perT d + 7 + r * d.T + k) (by omega))))))
      clear hM hM2
      go_wp2_with fail
      go_ret
      exact ⟨ret_int (by rw [HO.out, if_pos ⟨HT.out, ⟨hr0, hr3⟩, ⟨hk0, hk1⟩, by omega⟩]; first | rfl | (rw [HE.out.1, HE.out.2.1, HE.out.2.2.1, HE.out.2.2.2.1, HE.out.2.2.2.2]) | (rw [HE'.out.1, HE'.out.2.1, HE'.out.2.2.1, HE'.out.2.2.2.1, HE'.out.2.2.2.2])), below_tr (below_tr (below_new (Below.refl _ _) _) B3.out) hD⟩

set_option maxHeartbeats 1000000 in
theorem l27Wire_any (d : Dev) (n : Int) (w : World) (hn : nodeIn d n = true) (h7 : 7 ≤ n % perT d) :
    Calls Try.prog 73 #[.agg #[.int .i64 d.W, .int .i64 d.H, .int .i64 d.T, .int .i64 d.R], .int .i64 n] w fun e w' => e = .returned (.tuple #[.int .i64 ((n % perT d - 7) / d.T), .int .i64 ((n % perT d - 7) % d.T)]) ∧ Below w.heap.size w w' := by
  obtain ⟨hd, n0, n1, hq0, hq1, hr0, hr1⟩ := node_tk hn
  have hT := devOk_bd hd
  have hp := perT_bd hd
  have e0 : ¬ perT d = 0 := by omega
  have e1 : n.tmod (perT d) = n % perT d := Int.tmod_eq_emod_of_nonneg n0
  clear hn hd
  go_enter Try.func73, Try.ntmps73
  go_wp2_with fail
  refine (l27Per_any d _ (by omega) (by omega)).mono ?_
  rintro e w1 ⟨rfl, b1⟩
  have hb1 := b1.size
  simp only [World.size_alloc] at hb1
  obtain ⟨hcc, hff⟩ := bcell b1
  have B1 := Lib.hid (below_tr (below_new (Below.refl _ _) _) b1)
  clear b1
  generalize hk : n % perT d = k at *
  have HK := Lib.hid hk
  clear hk
  go_wp2_with fail
  clear e0 e1
  have e0 : ¬ d.T = 0 := by omega
  have e1 : (k - 7).tmod d.T = (k - 7) % d.T := Int.tmod_eq_emod_of_nonneg (by omega)
  have e2 : IntKind.i64.wrap ((k - 7).tdiv d.T) = (k - 7) / d.T := IntWalk.i64_quo _ _ ⟨by omega, by omega, by omega⟩
  go_quiet (fail)
  go_wp2_with fail
  go_ret2
  exact ⟨by rw [HK.out]; rfl, below_drewN B1.out _⟩

theorem rn_pos {d : Dev} (h : devOk d = true) : rnOf d = nodesOf d := by unfold rnOf; rw [if_pos h]
theorem rn_bd (d : Dev) : 0 ≤ rnOf d ∧ rnOf d ≤ 828 := by
  unfold rnOf
  split
  · rename_i h; have := nodesOf_bd h; omega
  · omega
theorem nodeIn_rn {d : Dev} {n : Int} : nodeIn d n = true ↔ 0 ≤ n ∧ n < rnOf d := by
  unfold nodeIn rnOf
  simp only [Bool.and_eq_true, decide_eq_true_eq]
  split
  · rename_i h; simp [h]
  · rename_i h; simp [h] <;> omega

set_option maxHeartbeats 1000000 in
theorem srouteNodeOk_any (d : Dev) (n : Int) (w : World) :
    Calls Try.prog 31 #[.agg #[.int .i64 d.W, .int .i64 d.H, .int .i64 d.T, .int .i64 d.R], .int .i64 n] w fun e w' => e = .returned (.bool (nodeOk d n)) ∧ Below w.heap.size w w' := by
  have hrn := rn_bd d
  by_cases h0 : n < 0
  · have HR : Hid (nodeOk d n = false) := by
      show _ = false
      unfold nodeOk
      cases h : nodeIn d n with
      | false => rfl
      | true => have := nodeIn_rn.1 h; omega
    have hd0 : decide (n < 0) = true := by simpa using h0
    go_enter Try.func31, Try.ntmps31
    go_wp2_with fail
    go_ret
    exact ⟨ret_bool HR.out.symm, below_new (Below.refl _ _) _⟩
  · have hd0 : decide (n < 0) = false := by simp; omega
    by_cases h1 : n < rnOf d
    · have hni : nodeIn d n = true := nodeIn_rn.2 ⟨by omega, h1⟩
      have hd1 : decide (n ≥ rnOf d) = false := by simp; omega
      have HR : Hid (nodeOk d n = nodeOkK d (n / perT d) (n % perT d)) := by show _ = _; unfold nodeOk; rw [hni]; rfl
      have HN := Lib.hid hni
      obtain ⟨hd, n0, n1, hq0, hq1, hr0, hr1⟩ := node_tk hni
      have hT := devOk_bd hd
      have hp := perT_bd hd
      have hWH := dev_WH hd
      have HTI := Lib.hid (node_tile hni)
      have e0 : ¬ perT d = 0 := by omega
      have e1 : n.tmod (perT d) = n % perT d := Int.tmod_eq_emod_of_nonneg n0
      have e2 : IntKind.i64.wrap (n.tdiv (perT d)) = n / perT d := IntWalk.i64_quo _ _ ⟨n0, by omega, by omega⟩
      clear hni hd
      go_enter Try.func31, Try.ntmps31
      go_wp2_with fail
      refine (sRouteNodes_any d _).mono ?_
      rintro e w1 ⟨rfl, b1⟩
      have B1 := Lib.hid b1
      have hb1 := b1.size
      simp only [World.size_alloc] at hb1
      obtain ⟨hcc, hff⟩ := bcell b1
      clear b1
      go_wp2_with fail
      refine (l27Per_any d _ (by omega) (by omega)).mono ?_
      rintro e w2 ⟨rfl, b2⟩
      have B2 := Lib.hid (below_tr B1.out b2)
      have hb2 := b2.size
      clear b2 hcc hff
      obtain ⟨hcc, hff⟩ := bcell B2.out
      go_wp2_with fail
      refine (l27Per_any d _ (by omega) (by omega)).mono ?_
      rintro e w3 ⟨rfl, b3⟩
      have B3 := Lib.hid (below_tr B2.out b3)
      have hb3 := b3.size
      clear b3 hcc hff
      obtain ⟨hcc, hff⟩ := bcell B3.out
      have hWIRE := Lib.hid (fun (h7 : 7 ≤ n % perT d) (w : World) => l27Wire_any d n w HN.out h7)
      generalize hk : n % perT d = k at *
      generalize hq : n / perT d = q at *
      have hK : nodeOkK d q k = if k < 5 then decide (k < inPins (kindOf d q)) else if k < 7 then decide (k - 5 < outPins (kindOf d q)) else decide (0 ≤ stepOf d q ((k - 7) / d.T) (wlen ((k - 7) % d.T))) := rfl
      have HK := Lib.hid hK
      have hip := inPins_bd d q
      have hop := outPins_bd d q
      have HKT := Lib.hid (fun w => stileKind_in d q w HTI.out)
      generalize kindOf d q = K at *
      clear hK hk hq
      have h3 : k < 5 ∨ (¬ k < 5 ∧ k < 7) ∨ (¬ k < 5 ∧ ¬ k < 7) := by omega
      rcases h3 with h | ⟨h, h'⟩ | ⟨h, h'⟩
      · go_wp2_with fail
        refine (HKT.out _).mono ?_
        rintro e w4 ⟨rfl, b4⟩
        have B4 := Lib.hid (below_tr B3.out b4)
        clear b4 hcc hff
        generalize hQ : inPins K = Q at *
        have HQ := Lib.hid hQ
        clear hQ
        go_wp2_with (go_at_call 70; refine (sinPins_any _ _).mono ?_; rw [HQ.out]; rintro e w' ⟨rfl, rfl⟩)
        go_ret
        exact ⟨ret_bool (by rw [HR.out, HK.out, if_pos (by omega)]), below_tr (below_new (Below.refl _ _) _) B4.out⟩
      · go_wp2_with fail
        refine (HKT.out _).mono ?_
        rintro e w4 ⟨rfl, b4⟩
        have B4 := Lib.hid (below_tr B3.out b4)
        clear b4 hcc hff
        generalize hQ : outPins K = Q at *
        have HQ := Lib.hid hQ
        clear hQ
        go_wp2_with (go_at_call 72; refine (soutPins_any _ _).mono ?_; rw [HQ.out]; rintro e w' ⟨rfl, rfl⟩)
        go_ret
        exact ⟨ret_bool (by rw [HR.out, HK.out, if_neg (by omega), if_pos (by omega)]), below_tr (below_new (Below.refl _ _) _) B4.out⟩
      · have hT0 := Int.ediv_nonneg (show 0 ≤ k - 7 by omega) (show 0 ≤ d.T by omega)
        have hT1 := Int.emod_nonneg (k - 7) (show d.T ≠ 0 by omega)
        have hT2 := Int.emod_lt_of_pos (k - 7) (show 0 < d.T by omega)
        have hT3 : (k - 7) / d.T ≤ 3 := by
          have : (k - 7) / d.T < 4 := Int.ediv_lt_of_lt_mul (by omega) (by unfold perT at hr1; omega)
          omega
        go_wp2_with fail
        refine (hWIRE.out (by omega) _).mono ?_
        rintro e w4 ⟨rfl, b4⟩
        have B4 := Lib.hid (below_tr B3.out b4)
        have hb4 := b4.size
        clear b4 hcc hff
        obtain ⟨hcc, hff⟩ := bcell B4.out
        generalize (k - 7) / d.T = r at *
        generalize (k - 7) % d.T = m at *
        have hL : wlen m = 1 + m % 2 := rfl
        have hL2 : 1 ≤ wlen m ∧ wlen m ≤ 2 := by rw [hL]; omega
        have HL := Lib.hid hL.symm
        clear hL
        go_wp2_with fail
        rw [HL.out]
        generalize hLL : wlen m = L at *
        generalize hP : stepOf d q r L = P at *
        have HC : Hid (∀ w, Calls Try.prog 74 #[.agg #[.int .i64 d.W, .int .i64 d.H, .int .i64 d.T, .int .i64 d.R], .int .i64 q, .int .i64 r, .int .i64 L] w fun e w' => e = .returned (.int .i64 P) ∧ Below w.heap.size w w') := fun w => by have := stileStep_any d q r L w HTI.out (by omega) (by omega) (by omega) (by omega); rwa [hP] at this
        clear hP hLL
        refine (HC.out _).mono ?_
        rintro e w5 ⟨rfl, b5⟩
        have B5 := Lib.hid (below_tr B4.out b5)
        clear b5 hcc hff
        go_wp2_with fail
        go_ret
        exact ⟨ret_bool (by rw [HR.out, HK.out, if_neg (by omega), if_neg (by omega)]), below_tr (below_new (Below.refl _ _) _) B5.out⟩
    · have HR : Hid (nodeOk d n = false) := by
        show _ = false
        unfold nodeOk
        cases h : nodeIn d n with
        | false => rfl
        | true => have := nodeIn_rn.1 h; omega
      have hd1 : decide (n ≥ rnOf d) = true := by simp; omega
      go_enter Try.func31, Try.ntmps31
      go_wp2_with fail
      refine (sRouteNodes_any d _).mono ?_
      rintro e w1 ⟨rfl, b1⟩
      have B1 := Lib.hid (below_tr (below_new (Below.refl _ _) _) b1)
      clear b1
      go_wp2_with fail
      go_ret
      exact ⟨ret_bool HR.out.symm, B1.out⟩
end Go.Proofs.Ytbnfdhidgdfbeaa
