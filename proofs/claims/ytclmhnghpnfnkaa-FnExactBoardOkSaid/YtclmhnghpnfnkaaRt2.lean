/- Places of routing nodes; pins and wires as nodes; which nodes exist: the program's functions. -/
import Derived.Test.YtclmhnghpnfnkaaRt
namespace Go.Proofs.Ytclmhnghpnfnkaa
set_option maxRecDepth 100000
open Go.RowKit

set_option maxHeartbeats 400000 in
theorem perTile_any (d : Dev) (w : World) (h0 : 0 ≤ d.T) (h1 : d.T ≤ 1099511627776) :
    Calls Try.prog 162 #[.agg #[.int .i64 d.W, .int .i64 d.H, .int .i64 d.T, .int .i64 d.R]] w fun e w' => e = .returned (.int .i64 (perT d)) ∧ Below w.heap.size w w' := by
  unfold perT
  go_enter Try.func162, Try.ntmps162
  go_wp2
  go_ret
  exact ⟨rfl, below_new (Below.refl _ _) _⟩

set_option maxHeartbeats 1000000 in
theorem routeNodes_any (d : Dev) (w : World) (hd : devOk d = true) :
    Calls Try.prog 142 #[.agg #[.int .i64 d.W, .int .i64 d.H, .int .i64 d.T, .int .i64 d.R]] w fun e w' => e = .returned (.int .i64 (nodesOf d)) ∧ Below w.heap.size w w' := by
  have hT := devOk_bd hd
  have hWH := dev_WH hd
  have hp := perT_bd hd
  have hn := nodesOf_bd hd
  have HN := Lib.hid (show nodesOf d = d.W * d.H * perT d from rfl)
  rw [HN.out] at hn
  have hD : Below (w.alloc (.cells #[.int .i64 d.W, .int .i64 d.H, .int .i64 d.T, .int .i64 d.R] 26)).heap.size (w.alloc (.cells #[.int .i64 d.W, .int .i64 d.H, .int .i64 d.T, .int .i64 d.R] 26)) (w.alloc (.cells #[.int .i64 d.W, .int .i64 d.H, .int .i64 d.T, .int .i64 d.R] 26)) := Below.refl _ _
  go_enter Try.func142, Try.ntmps142
  go_wp2_with fail
  go_region_held3 (fun w' => Below (w.alloc (.cells #[.int .i64 d.W, .int .i64 d.H, .int .i64 d.T, .int .i64 d.R] 26)).heap.size (w.alloc (.cells #[.int .i64 d.W, .int .i64 d.H, .int .i64 d.T, .int .i64 d.R] 26)) w' ∧ ∀ b o, b < (w.alloc (.cells #[.int .i64 d.W, .int .i64 d.H, .int .i64 d.T, .int .i64 d.R] 26)).heap.size → w'.cell? ⟨b, o, none⟩ = (w.alloc (.cells #[.int .i64 d.W, .int .i64 d.H, .int .i64 d.T, .int .i64 d.R] 26)).cell? ⟨b, o, none⟩)
    (first | exact ⟨hD, (bcell hD).1⟩ | exact ⟨hD.drew, (bcell hD.drew).1⟩)
    (first
      | (go_at_call 162; (with_reducible refine (perTile_any d _ (by omega) (by omega)).mono ?_); rintro e w2 ⟨rfl, b2⟩; (first | (with_reducible replace hD := below_tr hD b2) | (with_reducible replace hD := below_tr hD.drew b2)); clear b2))
  all_goals
    go_wp2_with fail
    go_ret
    exact ⟨ret_int (by rw [IntWalk.i64_in (d.W * d.H) (by omega), IntWalk.i64_in _ (by omega), HN.out]), below_tr (below_new (Below.refl _ _) _) hD⟩

set_option maxHeartbeats 1000000 in
theorem nodePlace_any (d : Dev) (n : Int) (w : World) (hn : nodeIn d n = true) :
    Calls Try.prog 143 #[.agg #[.int .i64 d.W, .int .i64 d.H, .int .i64 d.T, .int .i64 d.R], .int .i64 n] w fun e w' => e = .returned (.tuple #[.int .i64 (n / perT d), .int .i64 (n % perT d)]) ∧ Below w.heap.size w w' := by
  obtain ⟨hd, n0, n1, hq0, hq1, hr0, hr1⟩ := node_tk hn
  have hT := devOk_bd hd
  have hWH := dev_WH hd
  have hp := perT_bd hd
  have e0 : ¬ perT d = 0 := by omega
  have e1 : n.tmod (perT d) = n % perT d := Int.tmod_eq_emod_of_nonneg n0
  have e2 : IntKind.i64.wrap (n.tdiv (perT d)) = n / perT d := IntWalk.i64_quo _ _ ⟨n0, by omega, by omega⟩
  have hD : Below (w.alloc (.cells #[.int .i64 d.W, .int .i64 d.H, .int .i64 d.T, .int .i64 d.R] 26)).heap.size (w.alloc (.cells #[.int .i64 d.W, .int .i64 d.H, .int .i64 d.T, .int .i64 d.R] 26)) (w.alloc (.cells #[.int .i64 d.W, .int .i64 d.H, .int .i64 d.T, .int .i64 d.R] 26)) := Below.refl _ _
  clear hd hn
  go_enter Try.func143, Try.ntmps143
  go_wp2_with fail
  go_region_held3 (fun w' => Below (w.alloc (.cells #[.int .i64 d.W, .int .i64 d.H, .int .i64 d.T, .int .i64 d.R] 26)).heap.size (w.alloc (.cells #[.int .i64 d.W, .int .i64 d.H, .int .i64 d.T, .int .i64 d.R] 26)) w' ∧ ∀ b o, b < (w.alloc (.cells #[.int .i64 d.W, .int .i64 d.H, .int .i64 d.T, .int .i64 d.R] 26)).heap.size → w'.cell? ⟨b, o, none⟩ = (w.alloc (.cells #[.int .i64 d.W, .int .i64 d.H, .int .i64 d.T, .int .i64 d.R] 26)).cell? ⟨b, o, none⟩)
    (first | exact ⟨hD, (bcell hD).1⟩ | exact ⟨hD.drew, (bcell hD.drew).1⟩)
    (first
      | (go_at_call 162; (with_reducible refine (perTile_any d _ (by omega) (by omega)).mono ?_); rintro e w2 ⟨rfl, b2⟩; (first | (with_reducible replace hD := below_tr hD b2) | (with_reducible replace hD := below_tr hD.drew b2)); clear b2))
  all_goals
    go_wp2_with fail
    go_ret2
    exact ⟨rfl, below_tr (below_new (Below.refl _ _) _) hD⟩
theorem nodePlace_eq {d : Dev} {n : Int} (h : nodeIn d n = true) : n = n / perT d * perT d + n % perT d := by
  have := Int.emod_add_mul_ediv n (perT d)
  rw [Int.mul_comm (n / perT d)]
  omega

set_option maxHeartbeats 1000000 in
theorem wireOf_any (d : Dev) (n : Int) (w : World) (hn : nodeIn d n = true) (h7 : 7 ≤ n % perT d) :
    Calls Try.prog 151 #[.agg #[.int .i64 d.W, .int .i64 d.H, .int .i64 d.T, .int .i64 d.R], .int .i64 n] w fun e w' => e = .returned (.tuple #[.int .i64 (n / perT d), .int .i64 ((n % perT d - 7) / d.T), .int .i64 ((n % perT d - 7) % d.T), .bool true]) ∧ Below w.heap.size w w' := by
  obtain ⟨hd, n0, n1, hq0, hq1, hr0, hr1⟩ := node_tk hn
  have HN := Lib.hid hn
  have hT := devOk_bd hd
  have hp := perT_bd hd
  clear hn
  go_enter Try.func151, Try.ntmps151
  go_wp2_with fail
  refine (nodePlace_any d n _ HN.out).mono ?_
  rintro e w1 ⟨rfl, b1⟩
  have hb1 := b1.size
  simp only [World.size_alloc] at hb1
  obtain ⟨hcc, hff⟩ := bcell b1
  have B1 := Lib.hid (below_tr (below_new (Below.refl _ _) _) b1)
  clear b1
  generalize hk : n % perT d = k at *
  generalize hq : n / perT d = q at *
  have HK := Lib.hid hk
  have HQ := Lib.hid hq
  clear hk hq HN
  have e0 : ¬ d.T = 0 := by omega
  have e1 : (k - 7).tmod d.T = (k - 7) % d.T := Int.tmod_eq_emod_of_nonneg (by omega)
  have e2 : IntKind.i64.wrap ((k - 7).tdiv d.T) = (k - 7) / d.T := IntWalk.i64_quo _ _ ⟨by omega, by omega, by omega⟩
  have e3 : IntKind.i64.wrap (k - 7) = k - 7 := IntWalk.i64_in _ (by omega)
  have hh : decide (k ≥ 7) = true := by simpa using h7
  go_wp2_with fail
  go_quiet (fail)
  go_wp2_with fail
  exact bodyPost_ret (v := .tuple #[.int .i64 q, .int .i64 ((k - 7) / d.T), .int .i64 ((k - 7) % d.T), .bool true]) (by simp [results, Try.results151, go_sem]) rfl ⟨by rw [HK.out, HQ.out], below_drewN B1.out _⟩

theorem tileOk_is {d : Dev} {t : Int} {b : Bool} (h : tileIn d t = b) (w : World) : Calls Try.prog 194 #[.agg #[.int .i64 d.W, .int .i64 d.H, .int .i64 d.T, .int .i64 d.R], .int .i64 t] w fun e w' => e = .returned (.bool b) ∧ Below w.heap.size w w' := by
  have := tileOk_any d t w
  rwa [h] at this
theorem tileStep_is {d : Dev} {t r s p : Int} (h : stepOf d t r s = p) (ht : tileIn d t = true) (h0 : 0 ≤ s) (h1 : s ≤ 6) (w : World) : Calls Try.prog 152 #[.agg #[.int .i64 d.W, .int .i64 d.H, .int .i64 d.T, .int .i64 d.R], .int .i64 t, .int .i64 r, .int .i64 s] w fun e w' => e = .returned (.int .i64 p) ∧ Below w.heap.size w w' := by
  have := tileStep_any d t r s w ht h0 h1
  rwa [h] at this

set_option maxHeartbeats 1000000 in
theorem poutPin_any (d : Dev) (t p : Int) (w : World) :
    Calls Try.prog 187 #[.agg #[.int .i64 d.W, .int .i64 d.H, .int .i64 d.T, .int .i64 d.R], .int .i64 t, .int .i64 p] w fun e w' => e = .returned (.int .i64 (outPin d t p)) ∧ Below w.heap.size w w' := by
  have HO : Hid (outPin d t p = if tileIn d t = true ∧ 0 ≤ p ∧ p < outPins (kindOf d t) then t * perT d + 5 + p else -1) := rfl
  go_enter Try.func187, Try.ntmps187
  go_wp2_with fail
  cases ht : tileIn d t with
  | false =>
    refine (tileOk_is ht _).mono ?_
    rintro e w1 ⟨rfl, b1⟩
    have B1 := Lib.hid (below_tr (below_new (Below.refl _ _) _) b1)
    have HT := Lib.hid ht
    clear b1 ht
    go_wp2_with fail
    go_ret
    exact ⟨ret_int (by rw [HO.out, if_neg (by rw [HT.out]; simp)]), B1.out⟩
  | true =>
    refine (tileOk_is ht _).mono ?_
    rintro e w1 ⟨rfl, b1⟩
    have B1 := Lib.hid (below_tr (below_new (Below.refl _ _) _) b1)
    have D1 := Lib.hid b1
    obtain ⟨hcc, hff⟩ := bcell b1
    have hs1 := b1.size
    simp only [World.size_alloc] at hs1
    obtain ⟨hd, ht0, ht1⟩ := tileIn_iff.1 ht
    have hWH := dev_WH hd
    have hT := devOk_bd hd
    have hp := perT_bd hd
    have hop := outPins_bd d t
    have HM := Lib.hid (mul_bd ht0 (show t ≤ 35 by omega) (show 0 ≤ perT d by omega) hp.2)
    have HT := Lib.hid ht
    have HD := Lib.hid hd
    clear b1 ht hd
    go_wp2_with fail
    refine (tileKind_any d t _ HD.out ht0 (by omega)).mono ?_
    rintro e w2 ⟨rfl, b2⟩
    have B2 := Lib.hid (below_tr B1.out b2)
    have D2 := Lib.hid (below_tr D1.out b2)
    have hs2 := b2.size
    clear b2 hcc hff
    obtain ⟨hcc, hff⟩ := bcell D2.out
    generalize hK : kindOf d t = K at *
    have HK := Lib.hid hK
    clear hK
    go_wp2_with (go_at_call 150; refine (poutPins_any _ _).mono ?_; rintro e w' ⟨rfl, rfl⟩)
    generalize hQ : outPins K = Q at *
    have HQ := Lib.hid hQ
    clear hQ
    have e3 : IntKind.i64.wrap (Q - 1) = Q - 1 := IntWalk.i64_in _ (by omega)
    cases hin : inR p 0 (Q - 1) with
    | false =>
      have HI := Lib.hid hin
      clear hin
      go_wp2_with (go_at_call 106; refine (inR_call HI.out _).mono ?_; rintro e w' ⟨rfl, rfl⟩)
      go_ret
      exact ⟨ret_int (by rw [HO.out, if_neg]; rintro ⟨_, h0, h1⟩; have := inR_false.1 HI.out; omega), B2.out⟩
    | true =>
      have HI := Lib.hid hin
      have hi := inR_iff.1 hin
      clear hin
      go_wp2_with (go_at_call 106; refine (inR_call HI.out _).mono ?_; rintro e w' ⟨rfl, rfl⟩)
      refine (perTile_any d _ (by omega) (by omega)).mono ?_
      rintro e w3 ⟨rfl, b3⟩
      have B3 := Lib.hid (below_tr B2.out b3)
      have hM := HM.out
      clear b3 hcc hff e3
      go_wp2_with fail
      go_ret
      exact ⟨ret_int (by rw [HO.out, if_pos ⟨HT.out, by omega, by omega⟩]), B3.out⟩
end Go.Proofs.Ytclmhnghpnfnkaa
