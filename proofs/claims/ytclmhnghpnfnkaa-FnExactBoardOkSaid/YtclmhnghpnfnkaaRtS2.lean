/- Pins and wires as nodes, which nodes exist: the reference's functions. -/
import Derived.Test.YtclmhnghpnfnkaaRtS
namespace Go.Proofs.Ytclmhnghpnfnkaa
set_option maxRecDepth 100000
open Go.RowKit

set_option maxHeartbeats 1000000 in
theorem soutPin_any (d : Dev) (t p : Int) (w : World) (ht : tileIn d t = true) (hp0 : 0 ≤ p) (hp1 : p ≤ 10) :
    Calls Try.prog 189 #[.agg #[.int .i64 d.W, .int .i64 d.H, .int .i64 d.T, .int .i64 d.R], .int .i64 t, .int .i64 p] w fun e w' => e = .returned (.int .i64 (outPin d t p)) ∧ Below w.heap.size w w' := by
  have HO : Hid (outPin d t p = if tileIn d t = true ∧ 0 ≤ p ∧ p < outPins (kindOf d t) then t * perT d + 5 + p else -1) := rfl
  obtain ⟨hd, ht0, ht1⟩ := tileIn_iff.1 ht
  have hWH := dev_WH hd
  have hT := devOk_bd hd
  have hp := perT_bd hd
  have hop := outPins_bd d t
  have HM := Lib.hid (mul_bd ht0 (show t ≤ 35 by omega) (show 0 ≤ perT d by omega) hp.2)
  have HT := Lib.hid ht
  have hdp : decide (p < 0) = false := by simp; omega
  clear ht hd
  go_enter Try.func189, Try.ntmps189
  go_wp2_with fail
  refine (stileKind_in d t _ HT.out).mono ?_
  rintro e w2 ⟨rfl, b2⟩
  have B2 := Lib.hid (below_tr (below_new (Below.refl _ _) _) b2)
  have hs2 := b2.size
  simp only [World.size_alloc] at hs2
  obtain ⟨hcc, hff⟩ := bcell b2
  clear b2
  generalize hK : kindOf d t = K at *
  have HK := Lib.hid hK
  clear hK
  have hQ : ∃ Q, outPins K = Q := ⟨_, rfl⟩
  obtain ⟨Q, hQ⟩ := hQ
  rw [hQ] at hop HO
  have HC : Hid (∀ w, Calls Try.prog 97 #[.int .i64 K] w fun e w' => e = .returned (.int .i64 Q) ∧ w = w') := fun w => by have := soutPins_any K w; rwa [hQ] at this
  clear hQ
  by_cases hin : p < Q
  · have hh : decide (p ≥ Q) = false := by simp; omega
    go_wp2_with (go_at_call 97; refine (HC.out _).mono ?_; rintro e w' ⟨rfl, rfl⟩)
    refine (l27Per_any d _ (by omega) (by omega)).mono ?_
    rintro e w3 ⟨rfl, b3⟩
    have B3 := Lib.hid (below_tr B2.out b3)
    have hM := HM.out
    clear b3 hcc hff
    go_wp2_with fail
    go_ret
    exact ⟨ret_int (by rw [HO.out, if_pos ⟨HT.out, by omega, by omega⟩]), B3.out⟩
  · have hh : decide (p ≥ Q) = true := by simp; omega
    go_wp2_with (go_at_call 97; refine (HC.out _).mono ?_; rintro e w' ⟨rfl, rfl⟩)
    go_ret
    exact ⟨ret_int (by rw [HO.out, if_neg]; rintro ⟨_, h0, h1⟩; omega), B2.out⟩

set_option maxHeartbeats 1000000 in
theorem swireNode_any (d : Dev) (t r k : Int) (w : World) (hd : devOk d = true) (htb : t ≤ 1099511627776) (hr0 : 0 ≤ r) (hr3 : r ≤ 3) (hk0 : 0 ≤ k) (hk1 : k < d.T) :
    Calls Try.prog 190 #[.agg #[.int .i64 d.W, .int .i64 d.H, .int .i64 d.T, .int .i64 d.R], .int .i64 t, .int .i64 r, .int .i64 k] w fun e w' => e = .returned (.int .i64 (wireNode d t r k)) ∧ Below w.heap.size w w' := by
  have HO : Hid (wireNode d t r k = if tileIn d t = true ∧ (0 ≤ r ∧ r ≤ 3) ∧ (0 ≤ k ∧ k < d.T) ∧ 0 ≤ stepOf d t r (wlen k) then t * perT d + 7 + r * d.T + k else -1) := rfl
  have hT := devOk_bd hd
  have hWH := dev_WH hd
  have hp := perT_bd hd
  have HD := Lib.hid hd
  clear hd
  cases ht : tileIn d t with
  | false =>
    have HT := Lib.hid ht
    clear ht
    go_enter Try.func190, Try.ntmps190
    go_wp2_with fail
    refine (stileKind_out d t _ HT.out htb).mono ?_
    rintro e w2 ⟨rfl, b2⟩
    have B2 := Lib.hid (below_tr (below_new (Below.refl _ _) _) b2)
    clear b2
    go_wp2_with fail
    go_ret
    exact ⟨ret_int (by rw [HO.out, if_neg (by rw [HT.out]; simp)]), B2.out⟩
  | true =>
    obtain ⟨_, ht0, ht1⟩ := tileIn_iff.1 ht
    have HT := Lib.hid ht
    have hL : wlen k = 1 + k % 2 := rfl
    have hL2 : 1 ≤ wlen k ∧ wlen k ≤ 2 := by rw [hL]; omega
    have HL := Lib.hid hL.symm
    clear ht hL
    have hdk : decide (k < 0) = false := by simp; omega
    have hdk' : decide (k ≥ d.T) = false := by simp; omega
    go_enter Try.func190, Try.ntmps190
    go_wp2_with fail
    refine (stileKind_in d t _ HT.out).mono ?_
    rintro e w2 ⟨rfl, b2⟩
    have hk3 := kindOf_bd d t
    generalize kindOf d t = K at *
    have hdK : decide (K < 0) = false := by simp; omega
    have B2 := Lib.hid b2
    have hs2 := b2.size
    simp only [World.size_alloc] at hs2
    obtain ⟨hcc, hff⟩ := bcell b2
    clear b2
    go_wp2_with fail
    rw [HL.out]
    generalize hLL : wlen k = L at *
    generalize hP : stepOf d t r L = P at *
    have HP := Lib.hid hP
    have HC : Hid (∀ w, Calls Try.prog 99 #[.agg #[.int .i64 d.W, .int .i64 d.H, .int .i64 d.T, .int .i64 d.R], .int .i64 t, .int .i64 r, .int .i64 L] w fun e w' => e = .returned (.int .i64 P) ∧ Below w.heap.size w w') := fun w => by have := stileStep_any d t r L w HT.out hr0 hr3 (by omega) (by omega); rwa [hP] at this
    clear hP hLL
    refine (HC.out _).mono ?_
    rintro e w3 ⟨rfl, b3⟩
    have B3 := Lib.hid (below_tr B2.out b3)
    have hs3 := b3.size
    clear b3 hcc hff
    obtain ⟨hcc, hff⟩ := bcell B3.out
    by_cases hP0 : P < 0
    · have hdP : decide (P < 0) = true := by simpa using hP0
      go_wp2_with fail
      go_ret
      exact ⟨ret_int (by rw [HO.out, if_neg]; rintro ⟨_, _, _, h⟩; omega), below_tr (below_new (Below.refl _ _) _) B3.out⟩
    · have hdP : decide (P < 0) = false := by simp; omega
      go_wp2_with fail
      have hwW : w.heap.size < w3.heap.size := by omega
      have hsub := sub_ne w3
      have hsc := sub_cell w3
      refine wp_region_below w3 (by kernel_rfl) (by kernel_rfl) (Below.refl _ _) ?_
      repeat (go_big_quiet_step ((go_at_call 94; with_reducible exact calls_sub (l27Per_any d _ (by omega) (by omega)))))
      refine wpQuiet_nil ?_
      rintro _ ⟨⟨w4, hD⟩, rfl⟩
      clear hsub hsc
      have hM := mul_bd ht0 (show t ≤ 35 by omega) (show 0 ≤ perT d by omega) hp.2
      have hM2 := mul_bd hr0 hr3 (show 0 ≤ d.T by omega) (show d.T ≤ 4 by omega)
      have HE := Lib.hid (And.intro (IntWalk.i64_in (t * perT d) (by omega)) (And.intro (IntWalk.i64_in (t * perT d + 7) (by omega)) (And.intro (IntWalk.i64_in (r * d.T) (by omega)) (And.intro (IntWalk.i64_in (t * perT d + 7 + r * d.T) (by omega)) (IntWalk.i64_in (t * perT d + 7 + r * d.T + k) (by omega))))))
      have HE' := Lib.hid (And.intro (IntWalk.wrap64_in (t * perT d) (by omega)) (And.intro (IntWalk.wrap64_in (t * perT d + 7) (by omega)) (And.intro (IntWalk.wrap64_in (r * d.T) (by omega)) (And.intro (IntWalk.wrap64_in (t * perT d + 7 + r * d.T) (by omega)) (IntWalk.wrap64_in (t * perT d + 7 + r * d.T + k) (by omega))))))
      clear hM hM2
      go_wp2_with fail
      go_ret
      exact ⟨ret_int (by rw [HO.out, if_pos ⟨HT.out, ⟨hr0, hr3⟩, ⟨hk0, hk1⟩, by omega⟩]; first | rfl | (rw [HE.out.1, HE.out.2.1, HE.out.2.2.1, HE.out.2.2.2.1, HE.out.2.2.2.2]) | (rw [HE'.out.1, HE'.out.2.1, HE'.out.2.2.1, HE'.out.2.2.2.1, HE'.out.2.2.2.2])), below_tr (below_tr (below_new (Below.refl _ _) _) B3.out) hD⟩

set_option maxHeartbeats 1000000 in
theorem l27Wire_any (d : Dev) (n : Int) (w : World) (hn : nodeIn d n = true) (h7 : 7 ≤ n % perT d) :
    Calls Try.prog 98 #[.agg #[.int .i64 d.W, .int .i64 d.H, .int .i64 d.T, .int .i64 d.R], .int .i64 n] w fun e w' => e = .returned (.tuple #[.int .i64 ((n % perT d - 7) / d.T), .int .i64 ((n % perT d - 7) % d.T)]) ∧ Below w.heap.size w w' := by
  obtain ⟨hd, n0, n1, hq0, hq1, hr0, hr1⟩ := node_tk hn
  have hT := devOk_bd hd
  have hp := perT_bd hd
  have e0 : ¬ perT d = 0 := by omega
  have e1 : n.tmod (perT d) = n % perT d := Int.tmod_eq_emod_of_nonneg n0
  clear hn hd
  go_enter Try.func98, Try.ntmps98
  go_wp2_with fail
  refine (l27Per_any d _ (by omega) (by omega)).mono ?_
  rintro e w1 ⟨rfl, b1⟩
  have hb1 := b1.size
  simp only [World.size_alloc] at hb1
  obtain ⟨hcc, hff⟩ := bcell b1
  have B1 := Lib.hid (below_tr (below_new (Below.refl _ _) _) b1)
  clear b1
  generalize hk : n % perT d = k at *
  have HK := Lib.hid hk
  clear hk
  go_wp2_with fail
  clear e0 e1
  have e0 : ¬ d.T = 0 := by omega
  have e1 : (k - 7).tmod d.T = (k - 7) % d.T := Int.tmod_eq_emod_of_nonneg (by omega)
  have e2 : IntKind.i64.wrap ((k - 7).tdiv d.T) = (k - 7) / d.T := IntWalk.i64_quo _ _ ⟨by omega, by omega, by omega⟩
  go_quiet (fail)
  go_wp2_with fail
  go_ret2
  exact ⟨by rw [HK.out]; rfl, below_drewN B1.out _⟩

theorem rn_pos {d : Dev} (h : devOk d = true) : rnOf d = nodesOf d := by unfold rnOf; rw [if_pos h]
theorem rn_bd (d : Dev) : 0 ≤ rnOf d ∧ rnOf d ≤ 828 := by
  unfold rnOf
  split
  · rename_i h; have := nodesOf_bd h; omega
  · omega
theorem nodeIn_rn {d : Dev} {n : Int} : nodeIn d n = true ↔ 0 ≤ n ∧ n < rnOf d := by
  unfold nodeIn rnOf
  simp only [Bool.and_eq_true, decide_eq_true_eq]
  split
  · rename_i h; simp [h]
  · rename_i h; simp [h] <;> omega

set_option maxHeartbeats 1000000 in
theorem srouteNodeOk_any (d : Dev) (n : Int) (w : World) :
    Calls Try.prog 38 #[.agg #[.int .i64 d.W, .int .i64 d.H, .int .i64 d.T, .int .i64 d.R], .int .i64 n] w fun e w' => e = .returned (.bool (nodeOk d n)) ∧ Below w.heap.size w w' := by
  have hrn := rn_bd d
  by_cases h0 : n < 0
  · have HR : Hid (nodeOk d n = false) := by
      show _ = false
      unfold nodeOk
      cases h : nodeIn d n with
      | false => rfl
      | true => have := nodeIn_rn.1 h; omega
    have hd0 : decide (n < 0) = true := by simpa using h0
    go_enter Try.func38, Try.ntmps38
    go_wp2_with fail
    go_ret
    exact ⟨ret_bool HR.out.symm, below_new (Below.refl _ _) _⟩
  · have hd0 : decide (n < 0) = false := by simp; omega
    by_cases h1 : n < rnOf d
    · have hni : nodeIn d n = true := nodeIn_rn.2 ⟨by omega, h1⟩
      have hd1 : decide (n ≥ rnOf d) = false := by simp; omega
      have HR : Hid (nodeOk d n = nodeOkK d (n / perT d) (n % perT d)) := by show _ = _; unfold nodeOk; rw [hni]; rfl
      have HN := Lib.hid hni
      obtain ⟨hd, n0, n1, hq0, hq1, hr0, hr1⟩ := node_tk hni
      have hT := devOk_bd hd
      have hp := perT_bd hd
      have hWH := dev_WH hd
      have HTI := Lib.hid (node_tile hni)
      have e0 : ¬ perT d = 0 := by omega
      have e1 : n.tmod (perT d) = n % perT d := Int.tmod_eq_emod_of_nonneg n0
      have e2 : IntKind.i64.wrap (n.tdiv (perT d)) = n / perT d := IntWalk.i64_quo _ _ ⟨n0, by omega, by omega⟩
      clear hni hd
      go_enter Try.func38, Try.ntmps38
      go_wp2_with fail
      refine (sRouteNodes_any d _).mono ?_
      rintro e w1 ⟨rfl, b1⟩
      have B1 := Lib.hid b1
      have hb1 := b1.size
      simp only [World.size_alloc] at hb1
      obtain ⟨hcc, hff⟩ := bcell b1
      clear b1
      go_wp2_with fail
      refine (l27Per_any d _ (by omega) (by omega)).mono ?_
      rintro e w2 ⟨rfl, b2⟩
      have B2 := Lib.hid (below_tr B1.out b2)
      have hb2 := b2.size
      clear b2 hcc hff
      obtain ⟨hcc, hff⟩ := bcell B2.out
      go_wp2_with fail
      refine (l27Per_any d _ (by omega) (by omega)).mono ?_
      rintro e w3 ⟨rfl, b3⟩
      have B3 := Lib.hid (below_tr B2.out b3)
      have hb3 := b3.size
      clear b3 hcc hff
      obtain ⟨hcc, hff⟩ := bcell B3.out
      have hWIRE := Lib.hid (fun (h7 : 7 ≤ n % perT d) (w : World) => l27Wire_any d n w HN.out h7)
      generalize hk : n % perT d = k at *
      generalize hq : n / perT d = q at *
      have hK : nodeOkK d q k = if k < 5 then decide (k < inPins (kindOf d q)) else if k < 7 then decide (k - 5 < outPins (kindOf d q)) else decide (0 ≤ stepOf d q ((k - 7) / d.T) (wlen ((k - 7) % d.T))) := rfl
      have HK := Lib.hid hK
      have hip := inPins_bd d q
      have hop := outPins_bd d q
      have HKT := Lib.hid (fun w => stileKind_in d q w HTI.out)
      generalize kindOf d q = K at *
      clear hK hk hq
      have h3 : k < 5 ∨ (¬ k < 5 ∧ k < 7) ∨ (¬ k < 5 ∧ ¬ k < 7) := by omega
      rcases h3 with h | ⟨h, h'⟩ | ⟨h, h'⟩
      · go_wp2_with fail
        refine (HKT.out _).mono ?_
        rintro e w4 ⟨rfl, b4⟩
        have B4 := Lib.hid (below_tr B3.out b4)
        clear b4 hcc hff
        generalize hQ : inPins K = Q at *
        have HQ := Lib.hid hQ
        clear hQ
        go_wp2_with (go_at_call 95; refine (sinPins_any _ _).mono ?_; rw [HQ.out]; rintro e w' ⟨rfl, rfl⟩)
        go_ret
        exact ⟨ret_bool (by rw [HR.out, HK.out, if_pos (by omega)]), below_tr (below_new (Below.refl _ _) _) B4.out⟩
      · go_wp2_with fail
        refine (HKT.out _).mono ?_
        rintro e w4 ⟨rfl, b4⟩
        have B4 := Lib.hid (below_tr B3.out b4)
        clear b4 hcc hff
        generalize hQ : outPins K = Q at *
        have HQ := Lib.hid hQ
        clear hQ
        go_wp2_with (go_at_call 97; refine (soutPins_any _ _).mono ?_; rw [HQ.out]; rintro e w' ⟨rfl, rfl⟩)
        go_ret
        exact ⟨ret_bool (by rw [HR.out, HK.out, if_neg (by omega), if_pos (by omega)]), below_tr (below_new (Below.refl _ _) _) B4.out⟩
      · have hT0 := Int.ediv_nonneg (show 0 ≤ k - 7 by omega) (show 0 ≤ d.T by omega)
        have hT1 := Int.emod_nonneg (k - 7) (show d.T ≠ 0 by omega)
        have hT2 := Int.emod_lt_of_pos (k - 7) (show 0 < d.T by omega)
        have hT3 : (k - 7) / d.T ≤ 3 := by
          have : (k - 7) / d.T < 4 := Int.ediv_lt_of_lt_mul (by omega) (by unfold perT at hr1; omega)
          omega
        go_wp2_with fail
        refine (hWIRE.out (by omega) _).mono ?_
        rintro e w4 ⟨rfl, b4⟩
        have B4 := Lib.hid (below_tr B3.out b4)
        have hb4 := b4.size
        clear b4 hcc hff
        obtain ⟨hcc, hff⟩ := bcell B4.out
        generalize (k - 7) / d.T = r at *
        generalize (k - 7) % d.T = m at *
        have hL : wlen m = 1 + m % 2 := rfl
        have hL2 : 1 ≤ wlen m ∧ wlen m ≤ 2 := by rw [hL]; omega
        have HL := Lib.hid hL.symm
        clear hL
        go_wp2_with fail
        rw [HL.out]
        generalize hLL : wlen m = L at *
        generalize hP : stepOf d q r L = P at *
        have HC : Hid (∀ w, Calls Try.prog 99 #[.agg #[.int .i64 d.W, .int .i64 d.H, .int .i64 d.T, .int .i64 d.R], .int .i64 q, .int .i64 r, .int .i64 L] w fun e w' => e = .returned (.int .i64 P) ∧ Below w.heap.size w w') := fun w => by have := stileStep_any d q r L w HTI.out (by omega) (by omega) (by omega) (by omega); rwa [hP] at this
        clear hP hLL
        refine (HC.out _).mono ?_
        rintro e w5 ⟨rfl, b5⟩
        have B5 := Lib.hid (below_tr B4.out b5)
        clear b5 hcc hff
        go_wp2_with fail
        go_ret
        exact ⟨ret_bool (by rw [HR.out, HK.out, if_neg (by omega), if_neg (by omega)]), below_tr (below_new (Below.refl _ _) _) B5.out⟩
    · have HR : Hid (nodeOk d n = false) := by
        show _ = false
        unfold nodeOk
        cases h : nodeIn d n with
        | false => rfl
        | true => have := nodeIn_rn.1 h; omega
      have hd1 : decide (n ≥ rnOf d) = true := by simp; omega
      go_enter Try.func38, Try.ntmps38
      go_wp2_with fail
      refine (sRouteNodes_any d _).mono ?_
      rintro e w1 ⟨rfl, b1⟩
      have B1 := Lib.hid (below_tr (below_new (Below.refl _ _) _) b1)
      clear b1
      go_wp2_with fail
      go_ret
      exact ⟨ret_bool HR.out.symm, B1.out⟩
end Go.Proofs.Ytclmhnghpnfnkaa
