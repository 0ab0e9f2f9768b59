/- The tiles of a region: the program's and the reference's are one list. -/
import Derived.Test.YtpmeocgmlchjaaaPads
namespace Go.Proofs.Ytpmeocgmlchjaaa
open Go.RowKit

def inReg (d : Dev) (r : Reg) (t : Int) : Bool := inR (t % d.W) r.X0 r.X1 && inR (t / d.W) r.Y0 r.Y1

set_option maxHeartbeats 1000000 in
theorem inRegion_any (d : Dev) (r : Reg) (t : Int) (w : World) (hW : 3 ≤ d.W) (hW' : d.W ≤ 6) (ht : 0 ≤ t) (ht' : t ≤ 1099511627776) :
    Calls Try.prog 63 #[.agg #[.int .i64 d.W, .int .i64 d.H, .int .i64 d.T, .int .i64 d.R], .agg #[.int .i64 r.X0, .int .i64 r.Y0, .int .i64 r.X1, .int .i64 r.Y1], .int .i64 t] w fun e w' => e = .returned (.bool (inReg d r t)) ∧ Below w.heap.size w w' := by
  unfold inReg
  have e0 : ¬ d.W = 0 := by omega
  have e1 : t.tmod d.W = t % d.W := Int.tmod_eq_emod_of_nonneg ht
  have e2 : IntKind.i64.wrap (t.tdiv d.W) = t / d.W := IntWalk.i64_quo _ _ ⟨ht, by omega, by omega⟩
  cases h1 : inR (t % d.W) r.X0 r.X1 with
  | true =>
    go_enter Try.func63, Try.ntmps63
    go_wp2_with fail
    go_quiet ((go_at_call 56; exact Calls.quiet_of_same (inRange_q _ _ _ _)))
    go_wp2_with fail
    go_ret
    exact ⟨by simp, below_drewN (below_new (below_new (Below.refl _ _) _) _) _⟩
  | false =>
    have hc1 : ∀ w, Calls Try.prog 56 #[.int .i64 (t % d.W), .int .i64 r.X0, .int .i64 r.X1] w fun e w' => e = .returned (.bool false) ∧ w' = w := fun w => by
      have := inRange_q (t % d.W) r.X0 r.X1 w
      rwa [h1] at this
    have HC1 := Lib.hid hc1
    clear hc1 h1
    go_enter Try.func63, Try.ntmps63
    go_wp2_with fail
    go_quiet ((go_at_call 56; exact Calls.quiet_of_same (HC1.out _)))
    go_wp2_with fail
    go_ret
    exact ⟨by simp, below_drewN (below_new (below_new (Below.refl _ _) _) _) _⟩
set_option maxHeartbeats 1000000 in
theorem sinRegion_any (d : Dev) (r : Reg) (t : Int) (w : World) (hW : 3 ≤ d.W) (hW' : d.W ≤ 6) (ht : 0 ≤ t) (ht' : t ≤ 1099511627776) :
    Calls Try.prog 62 #[.agg #[.int .i64 d.W, .int .i64 d.H, .int .i64 d.T, .int .i64 d.R], .agg #[.int .i64 r.X0, .int .i64 r.Y0, .int .i64 r.X1, .int .i64 r.Y1], .int .i64 t] w fun e w' => e = .returned (.bool (inReg d r t)) ∧ Below w.heap.size w w' := by
  unfold inReg
  have e0 : ¬ d.W = 0 := by omega
  have e1 : t.tmod d.W = t % d.W := Int.tmod_eq_emod_of_nonneg ht
  have e2 : IntKind.i64.wrap (t.tdiv d.W) = t / d.W := IntWalk.i64_quo _ _ ⟨ht, by omega, by omega⟩
  cases h1 : inR (t % d.W) r.X0 r.X1 with
  | true =>
    go_enter Try.func62, Try.ntmps62
    go_wp2_with fail
    go_quiet ((go_at_call 65; exact Calls.quiet_of_same (l01In_q _ _ _ _)))
    go_wp2_with fail
    go_ret
    exact ⟨by simp, below_drewN (below_new (below_new (Below.refl _ _) _) _) _⟩
  | false =>
    have hc1 : ∀ w, Calls Try.prog 65 #[.int .i64 (t % d.W), .int .i64 r.X0, .int .i64 r.X1] w fun e w' => e = .returned (.bool false) ∧ w' = w := fun w => by
      have := l01In_q (t % d.W) r.X0 r.X1 w
      rwa [h1] at this
    have HC1 := Lib.hid hc1
    clear hc1 h1
    go_enter Try.func62, Try.ntmps62
    go_wp2_with fail
    go_quiet ((go_at_call 65; exact Calls.quiet_of_same (HC1.out _)))
    go_wp2_with fail
    go_ret
    exact ⟨by simp, below_drewN (below_new (below_new (Below.refl _ _) _) _) _⟩

def regTo (d : Dev) (r : Reg) : Nat → List Int
  | 0 => []
  | k + 1 => regTo d r k ++ if inReg d r (k : Int) then [(k : Int)] else []
def regTiles (d : Dev) (r : Reg) : List Int := if regOk d r then regTo d r (tiles d) else []
theorem regTo_le (d : Dev) (r : Reg) (k : Nat) : (regTo d r k).length ≤ k := by
  induction k with
  | zero => simp [regTo]
  | succ k ih => unfold regTo; split <;> simp <;> omega
theorem regOk_dev {d : Dev} {r : Reg} (h : regOk d r = true) : devOk d = true := by
  simp only [regOk, Bool.and_eq_true] at h; exact h.1
theorem regTiles_le (d : Dev) (r : Reg) : (regTiles d r).length ≤ 36 := by
  unfold regTiles
  split
  · rename_i h
    have := (tiles_eq (regOk_dev h)).2.2
    have := regTo_le d r (tiles d)
    omega
  · simp

set_option maxHeartbeats 1000000 in
theorem regionTiles_any (d : Dev) (r : Reg) (w : World) :
    Calls Try.prog 34 #[.agg #[.int .i64 d.W, .int .i64 d.H, .int .i64 d.T, .int .i64 d.R], .agg #[.int .i64 r.X0, .int .i64 r.Y0, .int .i64 r.X1, .int .i64 r.Y1]] w fun e w' => ∃ A m c, e = .returned (.slice A m c) ∧ Own w.heap.size w' A m c (regTiles d r) ∧ Below w.heap.size w w' := by
  have hB0 : Below w.heap.size w ((w.alloc (.cells #[.int .i64 d.W, .int .i64 d.H, .int .i64 d.T, .int .i64 d.R] 27)).alloc (.cells #[.int .i64 r.X0, .int .i64 r.Y0, .int .i64 r.X1, .int .i64 r.Y1] 29)) := below_new (below_new (Below.refl _ _) _) _
  go_enter Try.func34, Try.ntmps34
  go_wp2_with fail
  refine (regionOk_any d r _).mono ?_
  rintro e w1 ⟨rfl, b1⟩
  have hs1 := b1.size
  simp only [World.size_alloc] at hs1
  obtain ⟨hcc, hff⟩ := bcell b1
  have B1 := Lib.hid b1
  clear b1
  cases hd : regOk d r with
  | false =>
    have HD := Lib.hid hd
    clear hd
    go_wp2_with fail
    go_ret
    exact ⟨none, 0, 0, rfl, by rw [regTiles, HD.out]; exact Own.nil, below_tr hB0 B1.out⟩
  | true =>
    obtain ⟨hN, hN1, hN2⟩ := tiles_eq (regOk_dev hd)
    obtain ⟨hw1, hw2, _⟩ := devOk_bd (regOk_dev hd)
    have HD := Lib.hid hd
    clear hd
    generalize hT : tiles d = N at *
    have HT := Lib.hid hT
    clear hT
    go_wp2_with fail
    go_loopw [5, 6] (fun v i wr => ∃ (k : Nat) (A : Option Addr) (m c : Nat), k ≤ N ∧ m ≤ k ∧ i = .int .i64 k ∧ v = .slice A m c ∧ Own (((w.alloc (.cells #[.int .i64 d.W, .int .i64 d.H, .int .i64 d.T, .int .i64 d.R] 27)).alloc (.cells #[.int .i64 r.X0, .int .i64 r.Y0, .int .i64 r.X1, .int .i64 r.Y1] 29))).heap.size wr A m c (regTo d r k) ∧ Below (((w.alloc (.cells #[.int .i64 d.W, .int .i64 d.H, .int .i64 d.T, .int .i64 d.R] 27)).alloc (.cells #[.int .i64 r.X0, .int .i64 r.Y0, .int .i64 r.X1, .int .i64 r.Y1] 29))).heap.size ((w.alloc (.cells #[.int .i64 d.W, .int .i64 d.H, .int .i64 d.T, .int .i64 d.R] 27)).alloc (.cells #[.int .i64 r.X0, .int .i64 r.Y0, .int .i64 r.X1, .int .i64 r.Y1] 29)) wr) (fun _ i _ => N - (intOf i).toNat)
    case atStart => exact ⟨0, none, 0, 0, Nat.zero_le _, Nat.zero_le _, rfl, rfl, Own.nil, B1.out⟩
    case round =>
      obtain ⟨k, A, m, c, hk, hmk, rfl, rfl, ho, hbe⟩ := hrel
      clear hcc hff
      obtain ⟨hcc, hff⟩ := bcell hbe
      have hsw := hbe.size
      simp only [World.size_alloc] at hsw
      have HO := Lib.hid ho
      have HE := Lib.hid hbe
      clear ho hbe
      by_cases hlt : k < N
      · go_wp2_with fail
        refine (inRegion_any d r k _ hw1 hw2 (by omega) (by omega)).mono ?_
        rintro e w3 ⟨rfl, b3⟩
        have O3 := Lib.hid (HO.out.below b3)
        have E3 := Lib.hid (below_tr HE.out b3)
        have s3 := b3.size
        clear b3
        have hs := regTo.eq_2 d r k
        have HS := Lib.hid hs
        clear hs
        cases hin : inReg d r k with
        | true =>
          have HI := Lib.hid hin
          clear hin hcc hff
          obtain ⟨hcc, hff⟩ := bcell E3.out
          go_wp2_with (at_builtin; refine wpList_push rfl _ _ rfl (((w.alloc (.cells #[.int .i64 d.W, .int .i64 d.H, .int .i64 d.T, .int .i64 d.R] 27)).alloc (.cells #[.int .i64 r.X0, .int .i64 r.Y0, .int .i64 r.X1, .int .i64 r.Y1] 29))).heap.size A m c (regTo d r k) (k : Int) rfl O3.out rfl (by omega) E3.out.size E3.out ?_; rintro g4 cap w4 o4 b4 gr4 hat4)
          go_roundw
          case rel => exact ⟨k + 1, _, _, _, by omega, by omega, by go_num, rfl, by rw [HS.out, HI.out]; exact o4, b4⟩
          case measure => simp [intOf]; omega
        | false =>
          have HI := Lib.hid hin
          clear hin hcc hff
          obtain ⟨hcc, hff⟩ := bcell E3.out
          go_wp2_with fail
          go_roundw
          case rel => exact ⟨k + 1, A, m, c, by omega, by omega, by go_num, rfl, by rw [HS.out, HI.out]; simpa using O3.out, E3.out⟩
          case measure => simp [intOf]; omega
      · have hkn : k = N := by omega
        subst hkn
        go_wp2_with fail
        go_ret
        exact ⟨_, _, _, rfl, by rw [regTiles, HD.out, if_pos rfl, HT.out]; exact HO.out.more hB0.size, below_tr hB0 HE.out⟩
set_option maxHeartbeats 1000000 in
theorem sregionTiles_any (d : Dev) (r : Reg) (w : World) :
    Calls Try.prog 33 #[.agg #[.int .i64 d.W, .int .i64 d.H, .int .i64 d.T, .int .i64 d.R], .agg #[.int .i64 r.X0, .int .i64 r.Y0, .int .i64 r.X1, .int .i64 r.Y1]] w fun e w' => ∃ A m c, e = .returned (.slice A m c) ∧ Own w.heap.size w' A m c (regTiles d r) ∧ Below w.heap.size w w' := by
  have hB0 : Below w.heap.size w ((w.alloc (.cells #[.int .i64 d.W, .int .i64 d.H, .int .i64 d.T, .int .i64 d.R] 27)).alloc (.cells #[.int .i64 r.X0, .int .i64 r.Y0, .int .i64 r.X1, .int .i64 r.Y1] 29)) := below_new (below_new (Below.refl _ _) _) _
  go_enter Try.func33, Try.ntmps33
  go_wp2_with fail
  refine (sregionOk_any d r _).mono ?_
  rintro e w1 ⟨rfl, b1⟩
  have hs1 := b1.size
  simp only [World.size_alloc] at hs1
  replace hs1 : w.heap.size + 3 ≤ w1.heap.size := by omega
  have O1 := Lib.hid ((Own.newAt (base := (((w.alloc (.cells #[.int .i64 d.W, .int .i64 d.H, .int .i64 d.T, .int .i64 d.R] 27)).alloc (.cells #[.int .i64 r.X0, .int .i64 r.Y0, .int .i64 r.X1, .int .i64 r.Y1] 29))).heap.size) (w := ((w.alloc (.cells #[.int .i64 d.W, .int .i64 d.H, .int .i64 d.T, .int .i64 d.R] 27)).alloc (.cells #[.int .i64 r.X0, .int .i64 r.Y0, .int .i64 r.X1, .int .i64 r.Y1] 29))) (g := w.heap.size + 1 + 1) (by simp) (by simp)).below b1)
  replace b1 := below_tr (below_new (Below.refl (((w.alloc (.cells #[.int .i64 d.W, .int .i64 d.H, .int .i64 d.T, .int .i64 d.R] 27)).alloc (.cells #[.int .i64 r.X0, .int .i64 r.Y0, .int .i64 r.X1, .int .i64 r.Y1] 29))).heap.size ((w.alloc (.cells #[.int .i64 d.W, .int .i64 d.H, .int .i64 d.T, .int .i64 d.R] 27)).alloc (.cells #[.int .i64 r.X0, .int .i64 r.Y0, .int .i64 r.X1, .int .i64 r.Y1] 29))) _) b1
  obtain ⟨hcc, hff⟩ := bcell b1
  have B1 := Lib.hid b1
  clear b1
  cases hd : regOk d r with
  | false =>
    have HD := Lib.hid hd
    clear hd
    go_wp2_with fail
    go_ret
    exact ⟨_, 0, 0, rfl, by rw [regTiles, HD.out]; exact O1.out.more hB0.size, below_tr hB0 B1.out⟩
  | true =>
    obtain ⟨hN, hN1, hN2⟩ := tiles_eq (regOk_dev hd)
    obtain ⟨hw1, hw2, _⟩ := devOk_bd (regOk_dev hd)
    have HD := Lib.hid hd
    clear hd
    generalize hT : tiles d = N at *
    have HT := Lib.hid hT
    clear hT
    go_wp2_with fail
    go_loopw [5, 6] (fun v i wr => ∃ (k : Nat) (A : Option Addr) (m c : Nat), k ≤ N ∧ m ≤ k ∧ i = .int .i64 k ∧ v = .slice A m c ∧ Own (((w.alloc (.cells #[.int .i64 d.W, .int .i64 d.H, .int .i64 d.T, .int .i64 d.R] 27)).alloc (.cells #[.int .i64 r.X0, .int .i64 r.Y0, .int .i64 r.X1, .int .i64 r.Y1] 29))).heap.size wr A m c (regTo d r k) ∧ Below (((w.alloc (.cells #[.int .i64 d.W, .int .i64 d.H, .int .i64 d.T, .int .i64 d.R] 27)).alloc (.cells #[.int .i64 r.X0, .int .i64 r.Y0, .int .i64 r.X1, .int .i64 r.Y1] 29))).heap.size ((w.alloc (.cells #[.int .i64 d.W, .int .i64 d.H, .int .i64 d.T, .int .i64 d.R] 27)).alloc (.cells #[.int .i64 r.X0, .int .i64 r.Y0, .int .i64 r.X1, .int .i64 r.Y1] 29)) wr) (fun _ i _ => N - (intOf i).toNat)
    case atStart => exact ⟨0, _, 0, 0, Nat.zero_le _, Nat.zero_le _, rfl, rfl, O1.out, B1.out⟩
    case round =>
      obtain ⟨k, A, m, c, hk, hmk, rfl, rfl, ho, hbe⟩ := hrel
      clear hcc hff
      obtain ⟨hcc, hff⟩ := bcell hbe
      have hsw := hbe.size
      simp only [World.size_alloc] at hsw
      have HO := Lib.hid ho
      have HE := Lib.hid hbe
      clear ho hbe
      by_cases hlt : k < N
      · go_wp2_with fail
        refine (sinRegion_any d r k _ hw1 hw2 (by omega) (by omega)).mono ?_
        rintro e w3 ⟨rfl, b3⟩
        have O3 := Lib.hid (HO.out.below b3)
        have E3 := Lib.hid (below_tr HE.out b3)
        have s3 := b3.size
        clear b3
        have hs := regTo.eq_2 d r k
        have HS := Lib.hid hs
        clear hs
        cases hin : inReg d r k with
        | true =>
          have HI := Lib.hid hin
          clear hin hcc hff
          obtain ⟨hcc, hff⟩ := bcell E3.out
          go_wp2_with (at_builtin; refine wpList_push rfl _ _ rfl (((w.alloc (.cells #[.int .i64 d.W, .int .i64 d.H, .int .i64 d.T, .int .i64 d.R] 27)).alloc (.cells #[.int .i64 r.X0, .int .i64 r.Y0, .int .i64 r.X1, .int .i64 r.Y1] 29))).heap.size A m c (regTo d r k) (k : Int) rfl O3.out rfl (by omega) E3.out.size E3.out ?_; rintro g4 cap w4 o4 b4 gr4 hat4)
          go_roundw
          case rel => exact ⟨k + 1, _, _, _, by omega, by omega, by go_num, rfl, by rw [HS.out, HI.out]; exact o4, b4⟩
          case measure => simp [intOf]; omega
        | false =>
          have HI := Lib.hid hin
          clear hin hcc hff
          obtain ⟨hcc, hff⟩ := bcell E3.out
          go_wp2_with fail
          go_roundw
          case rel => exact ⟨k + 1, A, m, c, by omega, by omega, by go_num, rfl, by rw [HS.out, HI.out]; simpa using O3.out, E3.out⟩
          case measure => simp [intOf]; omega
      · have hkn : k = N := by omega
        subst hkn
        go_wp2_with fail
        go_ret
        exact ⟨_, _, _, rfl, by rw [regTiles, HD.out, if_pos rfl, HT.out]; exact HO.out.more hB0.size, below_tr hB0 HE.out⟩
end Go.Proofs.Ytpmeocgmlchjaaa
