/- Wires as nodes, which nodes exist, ascending insertion: the program's functions. -/
import Derived.Test.YtclmhnghpnfnkaaCopy
import Derived.Test.YtclmhnghpnfnkaaQb
import Derived.Test.YtclmhnghpnfnkaaRt2
namespace Go.Proofs.Ytclmhnghpnfnkaa
set_option maxRecDepth 100000
open Go.RowKit

theorem wire_no {d : Dev} {t r k : Int} (h : tileIn d t = false) : Hid (¬ (tileIn d t = true ∧ (0 ≤ r ∧ r ≤ 3) ∧ (0 ≤ k ∧ k < d.T) ∧ 0 ≤ stepOf d t r (wlen k))) := by
  show ¬ _
  rw [h]; simp
set_option maxHeartbeats 1000000 in
theorem pwireNode_1 (d : Dev) (t r k : Int) (w : World) (ht : tileIn d t = false) :
    Calls Try.prog 185 #[.agg #[.int .i64 d.W, .int .i64 d.H, .int .i64 d.T, .int .i64 d.R], .int .i64 t, .int .i64 r, .int .i64 k] w fun e w' => e = .returned (.int .i64 (wireNode d t r k)) ∧ Below w.heap.size w w' := by
  have HO : Hid (wireNode d t r k = if tileIn d t = true ∧ (0 ≤ r ∧ r ≤ 3) ∧ (0 ≤ k ∧ k < d.T) ∧ 0 ≤ stepOf d t r (wlen k) then t * perT d + 7 + r * d.T + k else -1) := rfl
  have hbad := wire_no (r := r) (k := k) ht
  have HT := Lib.hid ht
  have HR := Lib.hid hbad
  have HK := HR
  have HS := HR
  clear ht
  go_enter Try.func185, Try.ntmps185
  go_wp2_with fail
  have hsub := sub_ne (w.alloc (.cells #[.int .i64 d.W, .int .i64 d.H, .int .i64 d.T, .int .i64 d.R] 26))
  have hsc := sub_cell (w.alloc (.cells #[.int .i64 d.W, .int .i64 d.H, .int .i64 d.T, .int .i64 d.R] 26))
  refine wp_region_below (w.alloc (.cells #[.int .i64 d.W, .int .i64 d.H, .int .i64 d.T, .int .i64 d.R] 26)) (by kernel_rfl) (by kernel_rfl) (by first | exact Below.refl _ _ | exact hD) ?_
  repeat (go_big_quiet_step ((first
    | (go_at_call 194; with_reducible exact calls_sub (tileOk_is HT.out _))
      | (go_at_call 106; (first | with_reducible exact calls_sub_same (inR_call HR.out _) | with_reducible exact calls_sub_same (inR_call HK.out _)))
      | (go_at_call 153; with_reducible exact calls_sub_same (wireLength_any k _ (by omega) (by omega)))
      | (go_at_call 152; with_reducible exact calls_sub (tileStep_is HS.out HT.out (by omega) (by omega) _))
      | (go_at_call 162; with_reducible exact calls_sub (perTile_any d _ (by omega) (by omega))))))
  refine wpQuiet_nil ?_
  rintro _ ⟨⟨w2, hD⟩, rfl⟩
  (try dsimp only)
  clear hsub hsc
  all_goals
    go_wp2_with fail
    go_ret
    exact ⟨ret_int (by rw [HO.out, if_neg hbad.out]), below_tr (below_new (Below.refl _ _) _) hD⟩
set_option maxHeartbeats 1000000 in
theorem pwireNode_2 (d : Dev) (t r k : Int) (w : World) (ht : tileIn d t = true) (hr : inR r 0 3 = false) :
    Calls Try.prog 185 #[.agg #[.int .i64 d.W, .int .i64 d.H, .int .i64 d.T, .int .i64 d.R], .int .i64 t, .int .i64 r, .int .i64 k] w fun e w' => e = .returned (.int .i64 (wireNode d t r k)) ∧ Below w.heap.size w w' := by
  have HO : Hid (wireNode d t r k = if tileIn d t = true ∧ (0 ≤ r ∧ r ≤ 3) ∧ (0 ≤ k ∧ k < d.T) ∧ 0 ≤ stepOf d t r (wlen k) then t * perT d + 7 + r * d.T + k else -1) := rfl
  have hbad : Hid (¬ (tileIn d t = true ∧ (0 ≤ r ∧ r ≤ 3) ∧ (0 ≤ k ∧ k < d.T) ∧ 0 ≤ stepOf d t r (wlen k))) := by rintro ⟨_, h, _⟩; have := inR_false.1 hr; omega
  have hd := (tileIn_iff.1 ht).1
  have hT := devOk_bd hd
  have HT := Lib.hid ht
  have HR := Lib.hid hr
  have HK := hbad
  have HS := hbad
  clear ht hr hd
  go_enter Try.func185, Try.ntmps185
  go_wp2_with fail
  have hsub := sub_ne (w.alloc (.cells #[.int .i64 d.W, .int .i64 d.H, .int .i64 d.T, .int .i64 d.R] 26))
  have hsc := sub_cell (w.alloc (.cells #[.int .i64 d.W, .int .i64 d.H, .int .i64 d.T, .int .i64 d.R] 26))
  refine wp_region_below (w.alloc (.cells #[.int .i64 d.W, .int .i64 d.H, .int .i64 d.T, .int .i64 d.R] 26)) (by kernel_rfl) (by kernel_rfl) (by first | exact Below.refl _ _ | exact hD) ?_
  repeat (go_big_quiet_step ((first
    | (go_at_call 194; with_reducible exact calls_sub (tileOk_is HT.out _))
      | (go_at_call 106; (first | with_reducible exact calls_sub_same (inR_call HR.out _) | with_reducible exact calls_sub_same (inR_call HK.out _)))
      | (go_at_call 153; with_reducible exact calls_sub_same (wireLength_any k _ (by omega) (by omega)))
      | (go_at_call 152; with_reducible exact calls_sub (tileStep_is HS.out HT.out (by omega) (by omega) _))
      | (go_at_call 162; with_reducible exact calls_sub (perTile_any d _ (by omega) (by omega))))))
  refine wpQuiet_nil ?_
  rintro _ ⟨⟨w2, hD⟩, rfl⟩
  (try dsimp only)
  clear hsub hsc
  all_goals
    go_wp2_with fail
    go_ret
    exact ⟨ret_int (by rw [HO.out, if_neg hbad.out]), below_tr (below_new (Below.refl _ _) _) hD⟩
set_option maxHeartbeats 1000000 in
theorem pwireNode_3 (d : Dev) (t r k : Int) (w : World) (ht : tileIn d t = true) (hr : inR r 0 3 = true) (hk : inR k 0 (d.T - 1) = false) :
    Calls Try.prog 185 #[.agg #[.int .i64 d.W, .int .i64 d.H, .int .i64 d.T, .int .i64 d.R], .int .i64 t, .int .i64 r, .int .i64 k] w fun e w' => e = .returned (.int .i64 (wireNode d t r k)) ∧ Below w.heap.size w w' := by
  have HO : Hid (wireNode d t r k = if tileIn d t = true ∧ (0 ≤ r ∧ r ≤ 3) ∧ (0 ≤ k ∧ k < d.T) ∧ 0 ≤ stepOf d t r (wlen k) then t * perT d + 7 + r * d.T + k else -1) := rfl
  have hbad : Hid (¬ (tileIn d t = true ∧ (0 ≤ r ∧ r ≤ 3) ∧ (0 ≤ k ∧ k < d.T) ∧ 0 ≤ stepOf d t r (wlen k))) := by rintro ⟨_, _, h, _⟩; have := inR_false.1 hk; omega
  have hd := (tileIn_iff.1 ht).1
  have hT := devOk_bd hd
  have e3 : IntKind.i64.wrap (d.T - 1) = d.T - 1 := IntWalk.i64_in _ (by omega)
  have HT := Lib.hid ht
  have HR := Lib.hid hr
  have HK := Lib.hid hk
  have HS := hbad
  clear ht hr hd hk
  go_enter Try.func185, Try.ntmps185
  go_wp2_with fail
  have hsub := sub_ne (w.alloc (.cells #[.int .i64 d.W, .int .i64 d.H, .int .i64 d.T, .int .i64 d.R] 26))
  have hsc := sub_cell (w.alloc (.cells #[.int .i64 d.W, .int .i64 d.H, .int .i64 d.T, .int .i64 d.R] 26))
  refine wp_region_below (w.alloc (.cells #[.int .i64 d.W, .int .i64 d.H, .int .i64 d.T, .int .i64 d.R] 26)) (by kernel_rfl) (by kernel_rfl) (by first | exact Below.refl _ _ | exact hD) ?_
  repeat (go_big_quiet_step ((first
    | (go_at_call 194; with_reducible exact calls_sub (tileOk_is HT.out _))
      | (go_at_call 106; (first | with_reducible exact calls_sub_same (inR_call HR.out _) | with_reducible exact calls_sub_same (inR_call HK.out _)))
      | (go_at_call 153; with_reducible exact calls_sub_same (wireLength_any k _ (by omega) (by omega)))
      | (go_at_call 152; with_reducible exact calls_sub (tileStep_is HS.out HT.out (by omega) (by omega) _))
      | (go_at_call 162; with_reducible exact calls_sub (perTile_any d _ (by omega) (by omega))))))
  refine wpQuiet_nil ?_
  rintro _ ⟨⟨w2, hD⟩, rfl⟩
  (try dsimp only)
  clear hsub hsc
  all_goals
    go_wp2_with fail
    go_ret
    exact ⟨ret_int (by rw [HO.out, if_neg hbad.out]), below_tr (below_new (Below.refl _ _) _) hD⟩
set_option maxHeartbeats 1000000 in
theorem pwireNode_4 (d : Dev) (t r k : Int) (w : World) (ht : tileIn d t = true) (hr : inR r 0 3 = true) (hk : inR k 0 (d.T - 1) = true) (hs : stepOf d t r (wlen k) < 0) :
    Calls Try.prog 185 #[.agg #[.int .i64 d.W, .int .i64 d.H, .int .i64 d.T, .int .i64 d.R], .int .i64 t, .int .i64 r, .int .i64 k] w fun e w' => e = .returned (.int .i64 (wireNode d t r k)) ∧ Below w.heap.size w w' := by
  have HO : Hid (wireNode d t r k = if tileIn d t = true ∧ (0 ≤ r ∧ r ≤ 3) ∧ (0 ≤ k ∧ k < d.T) ∧ 0 ≤ stepOf d t r (wlen k) then t * perT d + 7 + r * d.T + k else -1) := rfl
  have hbad : Hid (¬ (tileIn d t = true ∧ (0 ≤ r ∧ r ≤ 3) ∧ (0 ≤ k ∧ k < d.T) ∧ 0 ≤ stepOf d t r (wlen k))) := by rintro ⟨_, _, _, h⟩; omega
  have hd := (tileIn_iff.1 ht).1
  have hT := devOk_bd hd
  have hki := inR_iff.1 hk
  have hL : 0 ≤ wlen k ∧ wlen k ≤ 6 := by unfold wlen; omega
  have e3 : IntKind.i64.wrap (d.T - 1) = d.T - 1 := IntWalk.i64_in _ (by omega)
  obtain ⟨P, hP⟩ : ∃ P, stepOf d t r (wlen k) = P := ⟨_, rfl⟩
  rw [hP] at hs
  have HT := Lib.hid ht
  have HR := Lib.hid hr
  have HK := Lib.hid hk
  have HS := Lib.hid hP
  clear ht hr hd hk hP
  go_enter Try.func185, Try.ntmps185
  go_wp2_with fail
  have hsub := sub_ne (w.alloc (.cells #[.int .i64 d.W, .int .i64 d.H, .int .i64 d.T, .int .i64 d.R] 26))
  have hsc := sub_cell (w.alloc (.cells #[.int .i64 d.W, .int .i64 d.H, .int .i64 d.T, .int .i64 d.R] 26))
  refine wp_region_below (w.alloc (.cells #[.int .i64 d.W, .int .i64 d.H, .int .i64 d.T, .int .i64 d.R] 26)) (by kernel_rfl) (by kernel_rfl) (by first | exact Below.refl _ _ | exact hD) ?_
  repeat (go_big_quiet_step ((first
    | (go_at_call 194; with_reducible exact calls_sub (tileOk_is HT.out _))
      | (go_at_call 106; (first | with_reducible exact calls_sub_same (inR_call HR.out _) | with_reducible exact calls_sub_same (inR_call HK.out _)))
      | (go_at_call 153; with_reducible exact calls_sub_same (wireLength_any k _ (by omega) (by omega)))
      | (go_at_call 152; with_reducible exact calls_sub (tileStep_is HS.out HT.out (by omega) (by omega) _))
      | (go_at_call 162; with_reducible exact calls_sub (perTile_any d _ (by omega) (by omega))))))
  refine wpQuiet_nil ?_
  rintro _ ⟨⟨w2, hD⟩, rfl⟩
  (try dsimp only)
  clear hsub hsc
  all_goals
    go_wp2_with fail
    go_ret
    exact ⟨ret_int (by rw [HO.out, if_neg hbad.out]), below_tr (below_new (Below.refl _ _) _) hD⟩
set_option maxHeartbeats 1000000 in
theorem pwireNode_5 (d : Dev) (t r k : Int) (w : World) (ht : tileIn d t = true) (hr : inR r 0 3 = true) (hk : inR k 0 (d.T - 1) = true) (hs : 0 ≤ stepOf d t r (wlen k)) :
    Calls Try.prog 185 #[.agg #[.int .i64 d.W, .int .i64 d.H, .int .i64 d.T, .int .i64 d.R], .int .i64 t, .int .i64 r, .int .i64 k] w fun e w' => e = .returned (.int .i64 (wireNode d t r k)) ∧ Below w.heap.size w w' := by
  have HO : Hid (wireNode d t r k = if tileIn d t = true ∧ (0 ≤ r ∧ r ≤ 3) ∧ (0 ≤ k ∧ k < d.T) ∧ 0 ≤ stepOf d t r (wlen k) then t * perT d + 7 + r * d.T + k else -1) := rfl
  have hd := (tileIn_iff.1 ht).1
  have ht0 := (tileIn_iff.1 ht).2
  have hT := devOk_bd hd
  have hWH := dev_WH hd
  have hp := perT_bd hd
  have hki := inR_iff.1 hk
  have hri := inR_iff.1 hr
  have hgood : Hid (tileIn d t = true ∧ (0 ≤ r ∧ r ≤ 3) ∧ (0 ≤ k ∧ k < d.T) ∧ 0 ≤ stepOf d t r (wlen k)) := ⟨ht, hri, by omega, hs⟩
  have hL : 0 ≤ wlen k ∧ wlen k ≤ 6 := by unfold wlen; omega
  have e3 : IntKind.i64.wrap (d.T - 1) = d.T - 1 := IntWalk.i64_in _ (by omega)
  have hM := mul_bd ht0.1 (show t ≤ 35 by omega) (show 0 ≤ perT d by omega) hp.2
  have hM2 := mul_bd hri.1 hri.2 (show 0 ≤ d.T by omega) (show d.T ≤ 4 by omega)
  have HE := Lib.hid (And.intro (IntWalk.wrap64_in (t * perT d) (by omega)) (And.intro (IntWalk.wrap64_in (t * perT d + 7) (by omega)) (And.intro (IntWalk.wrap64_in (r * d.T) (by omega)) (And.intro (IntWalk.wrap64_in (t * perT d + 7 + r * d.T) (by omega)) (IntWalk.wrap64_in (t * perT d + 7 + r * d.T + k) (by omega))))))
  obtain ⟨P, hP⟩ : ∃ P, stepOf d t r (wlen k) = P := ⟨_, rfl⟩
  rw [hP] at hs
  have HT := Lib.hid ht
  have HR := Lib.hid hr
  have HK := Lib.hid hk
  have HS := Lib.hid hP
  have HG := hgood
  clear ht hr hd hk hP hM hM2
  go_enter Try.func185, Try.ntmps185
  go_wp2_with fail
  have hsub := sub_ne (w.alloc (.cells #[.int .i64 d.W, .int .i64 d.H, .int .i64 d.T, .int .i64 d.R] 26))
  have hsc := sub_cell (w.alloc (.cells #[.int .i64 d.W, .int .i64 d.H, .int .i64 d.T, .int .i64 d.R] 26))
  refine wp_region_below (w.alloc (.cells #[.int .i64 d.W, .int .i64 d.H, .int .i64 d.T, .int .i64 d.R] 26)) (by kernel_rfl) (by kernel_rfl) (by first | exact Below.refl _ _ | exact hD) ?_
  repeat (go_big_quiet_step ((first
    | (go_at_call 194; with_reducible exact calls_sub (tileOk_is HT.out _))
      | (go_at_call 106; (first | with_reducible exact calls_sub_same (inR_call HR.out _) | with_reducible exact calls_sub_same (inR_call HK.out _)))
      | (go_at_call 153; with_reducible exact calls_sub_same (wireLength_any k _ (by omega) (by omega)))
      | (go_at_call 152; with_reducible exact calls_sub (tileStep_is HS.out HT.out (by omega) (by omega) _))
      | (go_at_call 162; with_reducible exact calls_sub (perTile_any d _ (by omega) (by omega))))))
  refine wpQuiet_nil ?_
  rintro _ ⟨⟨w2, hD⟩, rfl⟩
  (try dsimp only)
  clear hsub hsc
  all_goals
    go_wp2_with fail
    have hsub := sub_ne (w.alloc (.cells #[.int .i64 d.W, .int .i64 d.H, .int .i64 d.T, .int .i64 d.R] 26))
  have hsc := sub_cell (w.alloc (.cells #[.int .i64 d.W, .int .i64 d.H, .int .i64 d.T, .int .i64 d.R] 26))
  refine wp_region_below (w.alloc (.cells #[.int .i64 d.W, .int .i64 d.H, .int .i64 d.T, .int .i64 d.R] 26)) (by kernel_rfl) (by kernel_rfl) (by first | exact Below.refl _ _ | exact hD) ?_
  repeat (go_big_quiet_step ((first
    | (go_at_call 194; with_reducible exact calls_sub (tileOk_is HT.out _))
      | (go_at_call 106; (first | with_reducible exact calls_sub_same (inR_call HR.out _) | with_reducible exact calls_sub_same (inR_call HK.out _)))
      | (go_at_call 153; with_reducible exact calls_sub_same (wireLength_any k _ (by omega) (by omega)))
      | (go_at_call 152; with_reducible exact calls_sub (tileStep_is HS.out HT.out (by omega) (by omega) _))
      | (go_at_call 162; with_reducible exact calls_sub (perTile_any d _ (by omega) (by omega))))))
  refine wpQuiet_nil ?_
  rintro _ ⟨⟨w2, hD⟩, rfl⟩
  (try dsimp only)
  clear hsub hsc
  all_goals
    go_wp2_with fail
    go_ret
    exact ⟨ret_int (by rw [HO.out, if_pos HG.out]; first | rfl | (rw [HE.out.1, HE.out.2.1, HE.out.2.2.1, HE.out.2.2.2.1, HE.out.2.2.2.2])), below_tr (below_new (Below.refl _ _) _) hD⟩
theorem pwireNode_any (d : Dev) (t r k : Int) (w : World) :
    Calls Try.prog 185 #[.agg #[.int .i64 d.W, .int .i64 d.H, .int .i64 d.T, .int .i64 d.R], .int .i64 t, .int .i64 r, .int .i64 k] w fun e w' => e = .returned (.int .i64 (wireNode d t r k)) ∧ Below w.heap.size w w' := by
  cases ht : tileIn d t with
  | false => exact pwireNode_1 d t r k w ht
  | true =>
    cases hr : inR r 0 3 with
    | false => exact pwireNode_2 d t r k w ht hr
    | true =>
      cases hk : inR k 0 (d.T - 1) with
      | false => exact pwireNode_3 d t r k w ht hr hk
      | true =>
        rcases Int.lt_or_le (stepOf d t r (wlen k)) 0 with h | h
        · exact pwireNode_4 d t r k w ht hr hk h
        · exact pwireNode_5 d t r k w ht hr hk h

/-! ### which nodes exist -/
set_option maxHeartbeats 1000000 in
theorem prouteNodeOk_out (d : Dev) (n : Int) (w : World) (hn : nodeIn d n = false) :
    Calls Try.prog 100 #[.agg #[.int .i64 d.W, .int .i64 d.H, .int .i64 d.T, .int .i64 d.R], .int .i64 n] w fun e w' => e = .returned (.bool (nodeOk d n)) ∧ Below w.heap.size w w' := by
  have HR : Hid (nodeOk d n = false) := by show _ = false; unfold nodeOk; rw [hn]; rfl
  have HN := Lib.hid hn
  clear hn
  go_enter Try.func100, Try.ntmps100
  go_wp2_with fail
  refine (deviceOk_any d _).mono ?_
  rintro e w1 ⟨rfl, b1⟩
  have B1 := Lib.hid (below_tr (below_new (Below.refl _ _) _) b1)
  have hb1 := b1.size
  simp only [World.size_alloc] at hb1
  obtain ⟨hcc, hff⟩ := bcell b1
  clear b1
  cases hd : devOk d with
  | false =>
    go_wp2_with fail
    go_ret
    exact ⟨ret_bool HR.out.symm, B1.out⟩
  | true =>
    have hh := nodesOf_bd hd
    have HD := Lib.hid hd
    clear hd
    go_wp2_with fail
    refine (routeNodes_any d _ HD.out).mono ?_
    rintro e w2 ⟨rfl, b2⟩
    have B2 := Lib.hid (below_tr B1.out b2)
    clear b2 hcc hff
    have e3 : IntKind.i64.wrap (nodesOf d - 1) = nodesOf d - 1 := IntWalk.i64_in _ (by omega)
    have hin : inR n 0 (nodesOf d - 1) = false := by
      cases h : inR n 0 (nodesOf d - 1) with
      | false => rfl
      | true =>
        have h1 := HN.out
        have h2 := inR_iff.1 h
        rw [nodeIn, HD.out, decide_eq_true (by omega), decide_eq_true (by omega)] at h1
        cases h1
    have HI := Lib.hid hin
    clear hin
    go_wp2_with (go_at_call 106; refine (inR_call HI.out _).mono ?_; rintro e w' ⟨rfl, rfl⟩)
    go_ret
    exact ⟨ret_bool HR.out.symm, B2.out⟩

set_option maxHeartbeats 1000000 in
theorem prouteNodeOk_in (d : Dev) (n : Int) (w : World) (hn : nodeIn d n = true) :
    Calls Try.prog 100 #[.agg #[.int .i64 d.W, .int .i64 d.H, .int .i64 d.T, .int .i64 d.R], .int .i64 n] w fun e w' => e = .returned (.bool (nodeOk d n)) ∧ Below w.heap.size w w' := by
  have HR : Hid (nodeOk d n = nodeOkK d (n / perT d) (n % perT d)) := by show _ = _; unfold nodeOk; rw [hn]; rfl
  have HN := Lib.hid hn
  obtain ⟨hd, n0, n1, hq0, hq1, hr0, hr1⟩ := node_tk hn
  have hT := devOk_bd hd
  have hp := perT_bd hd
  have hWH := dev_WH hd
  have hh := nodesOf_bd hd
  have HTI := Lib.hid (node_tile hn)
  have HD := Lib.hid hd
  have e3 : IntKind.i64.wrap (nodesOf d - 1) = nodesOf d - 1 := IntWalk.i64_in _ (by omega)
  have HI : Hid (inR n 0 (nodesOf d - 1) = true) := by
    show _ = true
    unfold nodeIn at hn
    simp only [Bool.and_eq_true, decide_eq_true_eq] at hn
    rw [inR_iff]
    omega
  clear hn hd
  go_enter Try.func100, Try.ntmps100
  go_wp2_with fail
  refine (deviceOk_any d _).mono ?_
  rintro e w1 ⟨rfl, b1⟩
  rw [HD.out]
  have B1 := Lib.hid b1
  have hb1 := b1.size
  simp only [World.size_alloc] at hb1
  obtain ⟨hcc, hff⟩ := bcell b1
  clear b1
  go_wp2_with fail
  refine (routeNodes_any d _ HD.out).mono ?_
  rintro e w2 ⟨rfl, b2⟩
  have B2 := Lib.hid (below_tr B1.out b2)
  have hb2 := b2.size
  clear b2 hcc hff
  obtain ⟨hcc, hff⟩ := bcell B2.out
  go_wp2_with (go_at_call 106; refine (inR_call HI.out _).mono ?_; rintro e w' ⟨rfl, rfl⟩)
  refine (nodePlace_any d n _ HN.out).mono ?_
  rintro e w3 ⟨rfl, b3⟩
  have B3 := Lib.hid (below_tr B2.out b3)
  have hb3 := b3.size
  clear b3 hcc hff e3
  obtain ⟨hcc, hff⟩ := bcell B3.out
  have hWIRE := Lib.hid (fun (h7 : 7 ≤ n % perT d) (w : World) => wireOf_any d n w HN.out h7)
  generalize hk : n % perT d = k at *
  generalize hq : n / perT d = q at *
  have hK : nodeOkK d q k = if k < 5 then decide (k < inPins (kindOf d q)) else if k < 7 then decide (k - 5 < outPins (kindOf d q)) else decide (0 ≤ stepOf d q ((k - 7) / d.T) (wlen ((k - 7) % d.T))) := rfl
  have HK := Lib.hid hK
  have HKQ := Lib.hid (And.intro hk hq)
  have hip := inPins_bd d q
  have hop := outPins_bd d q
  have hKT := (fun w => tileKind_any d q w HD.out (by omega) (by omega))
  have HKT := Lib.hid hKT
  generalize kindOf d q = K at *
  clear hK hk hq hKT
  have h3 : k < 5 ∨ (¬ k < 5 ∧ k < 7) ∨ (¬ k < 5 ∧ ¬ k < 7) := by omega
  rcases h3 with h | ⟨h, h'⟩ | ⟨h, h'⟩
  · go_wp2_with fail
    refine (HKT.out _).mono ?_
    rintro e w4 ⟨rfl, b4⟩
    have B4 := Lib.hid (below_tr B3.out b4)
    clear b4 hcc hff
    generalize hQ : inPins K = Q at *
    have HQ := Lib.hid hQ
    clear hQ
    go_wp2_with (go_at_call 149; refine (pinPins_any _ _).mono ?_; rw [HQ.out]; rintro e w' ⟨rfl, rfl⟩)
    go_ret
    exact ⟨ret_bool (by rw [HR.out, HK.out, if_pos (by omega)]), below_tr (below_new (Below.refl _ _) _) B4.out⟩
  · go_wp2_with fail
    refine (HKT.out _).mono ?_
    rintro e w4 ⟨rfl, b4⟩
    have B4 := Lib.hid (below_tr B3.out b4)
    clear b4 hcc hff
    generalize hQ : outPins K = Q at *
    have HQ := Lib.hid hQ
    clear hQ
    go_wp2_with (go_at_call 150; refine (poutPins_any _ _).mono ?_; rw [HQ.out]; rintro e w' ⟨rfl, rfl⟩)
    go_ret
    exact ⟨ret_bool (by rw [HR.out, HK.out, if_neg (by omega), if_pos (by omega)]), below_tr (below_new (Below.refl _ _) _) B4.out⟩
  · have hT0 := Int.ediv_nonneg (show 0 ≤ k - 7 by omega) (show 0 ≤ d.T by omega)
    have hT1 := Int.emod_nonneg (k - 7) (show d.T ≠ 0 by omega)
    have hT2 := Int.emod_lt_of_pos (k - 7) (show 0 < d.T by omega)
    go_wp2_with fail
    refine (hWIRE.out (by omega) _).mono ?_
    rintro e w4 ⟨rfl, b4⟩
    have hD := below_tr B3.out b4
    have hb4 := b4.size
    clear b4 hcc hff
    obtain ⟨hcc, hff⟩ := bcell hD
    generalize (k - 7) / d.T = r at *
    generalize (k - 7) % d.T = m at *
    have hL : 0 ≤ wlen m ∧ wlen m ≤ 6 := by unfold wlen; omega
    have HS : Hid (∃ P, stepOf d q r (wlen m) = P) := ⟨_, rfl⟩
    obtain ⟨P, hP⟩ := HS.out
    have HP := Lib.hid hP
    clear hP
    go_wp2_with fail
    clear hcc hff
    have hsub := sub_ne (w.alloc (.cells #[.int .i64 d.W, .int .i64 d.H, .int .i64 d.T, .int .i64 d.R] 26))
    have hsc := sub_cell (w.alloc (.cells #[.int .i64 d.W, .int .i64 d.H, .int .i64 d.T, .int .i64 d.R] 26))
    refine wp_region_below (w.alloc (.cells #[.int .i64 d.W, .int .i64 d.H, .int .i64 d.T, .int .i64 d.R] 26)) (by kernel_rfl) (by kernel_rfl) (by first | exact Below.refl _ _ | exact hD) ?_
    repeat (go_big_quiet_step ((first
      | (go_at_call 153; with_reducible exact calls_sub_same (wireLength_any m _ (by omega) (by omega)))
      | (go_at_call 152; with_reducible exact calls_sub (tileStep_is HP.out HTI.out (by omega) (by omega) _)))))
    refine wpQuiet_nil ?_
    rintro _ ⟨⟨w2, hD⟩, rfl⟩
    (try dsimp only)
    clear hsub hsc
    go_wp2_with fail
    go_ret
    exact ⟨ret_bool (by rw [HR.out, HK.out, if_neg (by omega), if_neg (by omega), HP.out]), below_tr (below_new (Below.refl _ _) _) hD⟩
theorem prouteNodeOk_any (d : Dev) (n : Int) (w : World) :
    Calls Try.prog 100 #[.agg #[.int .i64 d.W, .int .i64 d.H, .int .i64 d.T, .int .i64 d.R], .int .i64 n] w fun e w' => e = .returned (.bool (nodeOk d n)) ∧ Below w.heap.size w w' := by
  cases hn : nodeIn d n with
  | false => exact prouteNodeOk_out d n w hn
  | true => exact prouteNodeOk_in d n w hn
end Go.Proofs.Ytclmhnghpnfnkaa
