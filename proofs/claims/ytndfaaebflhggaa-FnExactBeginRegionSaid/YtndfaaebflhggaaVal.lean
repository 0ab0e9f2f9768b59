/- The tiles of a region: the program's and the reference's are one list. RegionQuiet: whether nothing outside of a region is driven from it: the program's answer. The values of a device's nodes in plain terms: sweeps over the nodes until nothing changes. Plain lemmas. Look-up tables and output pins of the program's emulator. -/
import Derived.Test.YtndfaaebflhggaaEm
import Derived.Test.YtndfaaebflhggaaEmpty
import Derived.Test.YtndfaaebflhggaaPads
namespace Go.Proofs.Ytndfaaebflhggaa
set_option maxRecDepth 100000
open Go.RowKit

def inReg (d : Dev) (r : Reg) (t : Int) : Bool := inR (t % d.W) r.X0 r.X1 && inR (t / d.W) r.Y0 r.Y1

set_option maxHeartbeats 1000000 in
theorem inRegion_any (d : Dev) (r : Reg) (t : Int) (w : World) (hW : 3 ≤ d.W) (hW' : d.W ≤ 6) (ht : 0 ≤ t) (ht' : t ≤ 1099511627776) :
    Calls Try.prog 111 #[.agg #[.int .i64 d.W, .int .i64 d.H, .int .i64 d.T, .int .i64 d.R], .agg #[.int .i64 r.X0, .int .i64 r.Y0, .int .i64 r.X1, .int .i64 r.Y1], .int .i64 t] w fun e w' => e = .returned (.bool (inReg d r t)) ∧ Below w.heap.size w w' := by
  unfold inReg
  have e0 : ¬ d.W = 0 := by omega
  have e1 : t.tmod d.W = t % d.W := Int.tmod_eq_emod_of_nonneg ht
  have e2 : IntKind.i64.wrap (t.tdiv d.W) = t / d.W := IntWalk.i64_quo _ _ ⟨ht, by omega, by omega⟩
  cases h1 : inR (t % d.W) r.X0 r.X1 with
  | true =>
    go_enter Try.func111, Try.ntmps111
    go_wp2_with fail
    go_quiet ((go_at_call 56; exact Calls.quiet_of_same (inRange_q _ _ _ _)))
    go_wp2_with fail
    go_ret
    exact ⟨by simp, below_drewN (below_new (below_new (Below.refl _ _) _) _) _⟩
  | false =>
    have hc1 : ∀ w, Calls Try.prog 56 #[.int .i64 (t % d.W), .int .i64 r.X0, .int .i64 r.X1] w fun e w' => e = .returned (.bool false) ∧ w' = w := fun w => by
      have := inRange_q (t % d.W) r.X0 r.X1 w
      rwa [h1] at this
    have HC1 := Lib.hid hc1
    clear hc1 h1
    go_enter Try.func111, Try.ntmps111
    go_wp2_with fail
    go_quiet ((go_at_call 56; exact Calls.quiet_of_same (HC1.out _)))
    go_wp2_with fail
    go_ret
    exact ⟨by simp, below_drewN (below_new (below_new (Below.refl _ _) _) _) _⟩
set_option maxHeartbeats 1000000 in
theorem sinRegion_any (d : Dev) (r : Reg) (t : Int) (w : World) (hW : 3 ≤ d.W) (hW' : d.W ≤ 6) (ht : 0 ≤ t) (ht' : t ≤ 1099511627776) :
    Calls Try.prog 106 #[.agg #[.int .i64 d.W, .int .i64 d.H, .int .i64 d.T, .int .i64 d.R], .agg #[.int .i64 r.X0, .int .i64 r.Y0, .int .i64 r.X1, .int .i64 r.Y1], .int .i64 t] w fun e w' => e = .returned (.bool (inReg d r t)) ∧ Below w.heap.size w w' := by
  unfold inReg
  have e0 : ¬ d.W = 0 := by omega
  have e1 : t.tmod d.W = t % d.W := Int.tmod_eq_emod_of_nonneg ht
  have e2 : IntKind.i64.wrap (t.tdiv d.W) = t / d.W := IntWalk.i64_quo _ _ ⟨ht, by omega, by omega⟩
  cases h1 : inR (t % d.W) r.X0 r.X1 with
  | true =>
    go_enter Try.func106, Try.ntmps106
    go_wp2_with fail
    go_quiet ((go_at_call 81; exact Calls.quiet_of_same (l01In_q _ _ _ _)))
    go_wp2_with fail
    go_ret
    exact ⟨by simp, below_drewN (below_new (below_new (Below.refl _ _) _) _) _⟩
  | false =>
    have hc1 : ∀ w, Calls Try.prog 81 #[.int .i64 (t % d.W), .int .i64 r.X0, .int .i64 r.X1] w fun e w' => e = .returned (.bool false) ∧ w' = w := fun w => by
      have := l01In_q (t % d.W) r.X0 r.X1 w
      rwa [h1] at this
    have HC1 := Lib.hid hc1
    clear hc1 h1
    go_enter Try.func106, Try.ntmps106
    go_wp2_with fail
    go_quiet ((go_at_call 81; exact Calls.quiet_of_same (HC1.out _)))
    go_wp2_with fail
    go_ret
    exact ⟨by simp, below_drewN (below_new (below_new (Below.refl _ _) _) _) _⟩

def regTo (d : Dev) (r : Reg) : Nat → List Int
  | 0 => []
  | k + 1 => regTo d r k ++ if inReg d r (k : Int) then [(k : Int)] else []
def regTiles (d : Dev) (r : Reg) : List Int := if regOk d r then regTo d r (tiles d) else []
theorem regTo_le (d : Dev) (r : Reg) (k : Nat) : (regTo d r k).length ≤ k := by
  induction k with
  | zero => simp [regTo]
  | succ k ih => unfold regTo; split <;> simp <;> omega
theorem regOk_dev {d : Dev} {r : Reg} (h : regOk d r = true) : devOk d = true := by
  simp only [regOk, Bool.and_eq_true] at h; exact h.1
theorem regTiles_le (d : Dev) (r : Reg) : (regTiles d r).length ≤ 36 := by
  unfold regTiles
  split
  · rename_i h
    have := (tiles_eq (regOk_dev h)).2.2
    have := regTo_le d r (tiles d)
    omega
  · simp

set_option maxHeartbeats 1000000 in
theorem regionTiles_any (d : Dev) (r : Reg) (w : World) :
    Calls Try.prog 113 #[.agg #[.int .i64 d.W, .int .i64 d.H, .int .i64 d.T, .int .i64 d.R], .agg #[.int .i64 r.X0, .int .i64 r.Y0, .int .i64 r.X1, .int .i64 r.Y1]] w fun e w' => ∃ A m c, e = .returned (.slice A m c) ∧ Own w.heap.size w' A m c (regTiles d r) ∧ Below w.heap.size w w' := by
  have hB0 : Below w.heap.size w ((w.alloc (.cells #[.int .i64 d.W, .int .i64 d.H, .int .i64 d.T, .int .i64 d.R] 29)).alloc (.cells #[.int .i64 r.X0, .int .i64 r.Y0, .int .i64 r.X1, .int .i64 r.Y1] 58)) := below_new (below_new (Below.refl _ _) _) _
  go_enter Try.func113, Try.ntmps113
  go_wp2_with fail
  refine (regionOk_any d r _).mono ?_
  rintro e w1 ⟨rfl, b1⟩
  have hs1 := b1.size
  simp only [World.size_alloc] at hs1
  obtain ⟨hcc, hff⟩ := bcell b1
  have B1 := Lib.hid b1
  clear b1
  cases hd : regOk d r with
  | false =>
    have HD := Lib.hid hd
    clear hd
    go_wp2_with fail
    go_ret
    exact ⟨none, 0, 0, rfl, by rw [regTiles, HD.out]; exact Own.nil, below_tr hB0 B1.out⟩
  | true =>
    obtain ⟨hN, hN1, hN2⟩ := tiles_eq (regOk_dev hd)
    obtain ⟨hw1, hw2, _⟩ := devOk_bd (regOk_dev hd)
    have HD := Lib.hid hd
    clear hd
    generalize hT : tiles d = N at *
    have HT := Lib.hid hT
    clear hT
    go_wp2_with fail
    go_loopw [5, 6] (fun v i wr => ∃ (k : Nat) (A : Option Addr) (m c : Nat), k ≤ N ∧ m ≤ k ∧ i = .int .i64 k ∧ v = .slice A m c ∧ Own (((w.alloc (.cells #[.int .i64 d.W, .int .i64 d.H, .int .i64 d.T, .int .i64 d.R] 29)).alloc (.cells #[.int .i64 r.X0, .int .i64 r.Y0, .int .i64 r.X1, .int .i64 r.Y1] 58))).heap.size wr A m c (regTo d r k) ∧ Below (((w.alloc (.cells #[.int .i64 d.W, .int .i64 d.H, .int .i64 d.T, .int .i64 d.R] 29)).alloc (.cells #[.int .i64 r.X0, .int .i64 r.Y0, .int .i64 r.X1, .int .i64 r.Y1] 58))).heap.size ((w.alloc (.cells #[.int .i64 d.W, .int .i64 d.H, .int .i64 d.T, .int .i64 d.R] 29)).alloc (.cells #[.int .i64 r.X0, .int .i64 r.Y0, .int .i64 r.X1, .int .i64 r.Y1] 58)) wr) (fun _ i _ => N - (intOf i).toNat)
    case atStart => exact ⟨0, none, 0, 0, Nat.zero_le _, Nat.zero_le _, rfl, rfl, Own.nil, B1.out⟩
    case round =>
      obtain ⟨k, A, m, c, hk, hmk, rfl, rfl, ho, hbe⟩ := hrel
      clear hcc hff
      obtain ⟨hcc, hff⟩ := bcell hbe
      have hsw := hbe.size
      simp only [World.size_alloc] at hsw
      have HO := Lib.hid ho
      have HE := Lib.hid hbe
      clear ho hbe
      by_cases hlt : k < N
      · go_wp2_with fail
        refine (inRegion_any d r k _ hw1 hw2 (by omega) (by omega)).mono ?_
        rintro e w3 ⟨rfl, b3⟩
        have O3 := Lib.hid (HO.out.below b3)
        have E3 := Lib.hid (below_tr HE.out b3)
        have s3 := b3.size
        clear b3
        have hs := regTo.eq_2 d r k
        have HS := Lib.hid hs
        clear hs
        cases hin : inReg d r k with
        | true =>
          have HI := Lib.hid hin
          clear hin hcc hff
          obtain ⟨hcc, hff⟩ := bcell E3.out
          go_wp2_with (at_builtin; refine wpList_push rfl _ _ rfl (((w.alloc (.cells #[.int .i64 d.W, .int .i64 d.H, .int .i64 d.T, .int .i64 d.R] 29)).alloc (.cells #[.int .i64 r.X0, .int .i64 r.Y0, .int .i64 r.X1, .int .i64 r.Y1] 58))).heap.size A m c (regTo d r k) (k : Int) rfl O3.out rfl (by omega) E3.out.size E3.out ?_; rintro g4 cap w4 o4 b4 gr4 hat4)
          go_roundw
          case rel => exact ⟨k + 1, _, _, _, by omega, by omega, by go_num, rfl, by rw [HS.out, HI.out]; exact o4, b4⟩
          case measure => simp [intOf]; omega
        | false =>
          have HI := Lib.hid hin
          clear hin hcc hff
          obtain ⟨hcc, hff⟩ := bcell E3.out
          go_wp2_with fail
          go_roundw
          case rel => exact ⟨k + 1, A, m, c, by omega, by omega, by go_num, rfl, by rw [HS.out, HI.out]; simpa using O3.out, E3.out⟩
          case measure => simp [intOf]; omega
      · have hkn : k = N := by omega
        subst hkn
        go_wp2_with fail
        go_ret
        exact ⟨_, _, _, rfl, by rw [regTiles, HD.out, if_pos rfl, HT.out]; exact HO.out.more hB0.size, below_tr hB0 HE.out⟩
set_option maxHeartbeats 1000000 in
theorem sregionTiles_any (d : Dev) (r : Reg) (w : World) :
    Calls Try.prog 78 #[.agg #[.int .i64 d.W, .int .i64 d.H, .int .i64 d.T, .int .i64 d.R], .agg #[.int .i64 r.X0, .int .i64 r.Y0, .int .i64 r.X1, .int .i64 r.Y1]] w fun e w' => ∃ A m c, e = .returned (.slice A m c) ∧ Own w.heap.size w' A m c (regTiles d r) ∧ Below w.heap.size w w' := by
  have hB0 : Below w.heap.size w ((w.alloc (.cells #[.int .i64 d.W, .int .i64 d.H, .int .i64 d.T, .int .i64 d.R] 29)).alloc (.cells #[.int .i64 r.X0, .int .i64 r.Y0, .int .i64 r.X1, .int .i64 r.Y1] 58)) := below_new (below_new (Below.refl _ _) _) _
  go_enter Try.func78, Try.ntmps78
  go_wp2_with fail
  refine (sregionOk_any d r _).mono ?_
  rintro e w1 ⟨rfl, b1⟩
  have hs1 := b1.size
  simp only [World.size_alloc] at hs1
  replace hs1 : w.heap.size + 3 ≤ w1.heap.size := by omega
  have O1 := Lib.hid ((Own.newAt (base := (((w.alloc (.cells #[.int .i64 d.W, .int .i64 d.H, .int .i64 d.T, .int .i64 d.R] 29)).alloc (.cells #[.int .i64 r.X0, .int .i64 r.Y0, .int .i64 r.X1, .int .i64 r.Y1] 58))).heap.size) (w := ((w.alloc (.cells #[.int .i64 d.W, .int .i64 d.H, .int .i64 d.T, .int .i64 d.R] 29)).alloc (.cells #[.int .i64 r.X0, .int .i64 r.Y0, .int .i64 r.X1, .int .i64 r.Y1] 58))) (g := w.heap.size + 1 + 1) (by simp) (by simp)).below b1)
  replace b1 := below_tr (below_new (Below.refl (((w.alloc (.cells #[.int .i64 d.W, .int .i64 d.H, .int .i64 d.T, .int .i64 d.R] 29)).alloc (.cells #[.int .i64 r.X0, .int .i64 r.Y0, .int .i64 r.X1, .int .i64 r.Y1] 58))).heap.size ((w.alloc (.cells #[.int .i64 d.W, .int .i64 d.H, .int .i64 d.T, .int .i64 d.R] 29)).alloc (.cells #[.int .i64 r.X0, .int .i64 r.Y0, .int .i64 r.X1, .int .i64 r.Y1] 58))) _) b1
  obtain ⟨hcc, hff⟩ := bcell b1
  have B1 := Lib.hid b1
  clear b1
  cases hd : regOk d r with
  | false =>
    have HD := Lib.hid hd
    clear hd
    go_wp2_with fail
    go_ret
    exact ⟨_, 0, 0, rfl, by rw [regTiles, HD.out]; exact O1.out.more hB0.size, below_tr hB0 B1.out⟩
  | true =>
    obtain ⟨hN, hN1, hN2⟩ := tiles_eq (regOk_dev hd)
    obtain ⟨hw1, hw2, _⟩ := devOk_bd (regOk_dev hd)
    have HD := Lib.hid hd
    clear hd
    generalize hT : tiles d = N at *
    have HT := Lib.hid hT
    clear hT
    go_wp2_with fail
    go_loopw [5, 6] (fun v i wr => ∃ (k : Nat) (A : Option Addr) (m c : Nat), k ≤ N ∧ m ≤ k ∧ i = .int .i64 k ∧ v = .slice A m c ∧ Own (((w.alloc (.cells #[.int .i64 d.W, .int .i64 d.H, .int .i64 d.T, .int .i64 d.R] 29)).alloc (.cells #[.int .i64 r.X0, .int .i64 r.Y0, .int .i64 r.X1, .int .i64 r.Y1] 58))).heap.size wr A m c (regTo d r k) ∧ Below (((w.alloc (.cells #[.int .i64 d.W, .int .i64 d.H, .int .i64 d.T, .int .i64 d.R] 29)).alloc (.cells #[.int .i64 r.X0, .int .i64 r.Y0, .int .i64 r.X1, .int .i64 r.Y1] 58))).heap.size ((w.alloc (.cells #[.int .i64 d.W, .int .i64 d.H, .int .i64 d.T, .int .i64 d.R] 29)).alloc (.cells #[.int .i64 r.X0, .int .i64 r.Y0, .int .i64 r.X1, .int .i64 r.Y1] 58)) wr) (fun _ i _ => N - (intOf i).toNat)
    case atStart => exact ⟨0, _, 0, 0, Nat.zero_le _, Nat.zero_le _, rfl, rfl, O1.out, B1.out⟩
    case round =>
      obtain ⟨k, A, m, c, hk, hmk, rfl, rfl, ho, hbe⟩ := hrel
      clear hcc hff
      obtain ⟨hcc, hff⟩ := bcell hbe
      have hsw := hbe.size
      simp only [World.size_alloc] at hsw
      have HO := Lib.hid ho
      have HE := Lib.hid hbe
      clear ho hbe
      by_cases hlt : k < N
      · go_wp2_with fail
        refine (sinRegion_any d r k _ hw1 hw2 (by omega) (by omega)).mono ?_
        rintro e w3 ⟨rfl, b3⟩
        have O3 := Lib.hid (HO.out.below b3)
        have E3 := Lib.hid (below_tr HE.out b3)
        have s3 := b3.size
        clear b3
        have hs := regTo.eq_2 d r k
        have HS := Lib.hid hs
        clear hs
        cases hin : inReg d r k with
        | true =>
          have HI := Lib.hid hin
          clear hin hcc hff
          obtain ⟨hcc, hff⟩ := bcell E3.out
          go_wp2_with (at_builtin; refine wpList_push rfl _ _ rfl (((w.alloc (.cells #[.int .i64 d.W, .int .i64 d.H, .int .i64 d.T, .int .i64 d.R] 29)).alloc (.cells #[.int .i64 r.X0, .int .i64 r.Y0, .int .i64 r.X1, .int .i64 r.Y1] 58))).heap.size A m c (regTo d r k) (k : Int) rfl O3.out rfl (by omega) E3.out.size E3.out ?_; rintro g4 cap w4 o4 b4 gr4 hat4)
          go_roundw
          case rel => exact ⟨k + 1, _, _, _, by omega, by omega, by go_num, rfl, by rw [HS.out, HI.out]; exact o4, b4⟩
          case measure => simp [intOf]; omega
        | false =>
          have HI := Lib.hid hin
          clear hin hcc hff
          obtain ⟨hcc, hff⟩ := bcell E3.out
          go_wp2_with fail
          go_roundw
          case rel => exact ⟨k + 1, A, m, c, by omega, by omega, by go_num, rfl, by rw [HS.out, HI.out]; simpa using O3.out, E3.out⟩
          case measure => simp [intOf]; omega
      · have hkn : k = N := by omega
        subst hkn
        go_wp2_with fail
        go_ret
        exact ⟨_, _, _, rfl, by rw [regTiles, HD.out, if_pos rfl, HT.out]; exact HO.out.more hB0.size, below_tr hB0 HE.out⟩
end Go.Proofs.Ytndfaaebflhggaa

namespace Go.Proofs.Ytndfaaebflhggaa
set_option maxRecDepth 100000
open Go.RowKit

/-- Every source is a node, and none is its own. -/
theorem src_node {d : Dev} {n y : Int} (h : y ∈ srcs d n) : nodeIn d y = true ∧ y ≠ n := by
  unfold srcs at h
  split at h
  · rename_i hn
    have hno := hn.1
    unfold nodeOk at hno
    rw [Bool.and_eq_true] at hno
    have ht := node_tile hno.1
    obtain ⟨hd, n0, n1, hq0, hq1, hr0, hr1⟩ := node_tk hno.1
    have hT := devOk_bd hd
    have hp := perT_bd hd
    rw [mem_asc] at h
    unfold itemsOf at h
    have hin : ∀ {q k : Int}, y = q * perT d + k → 0 ≤ q → q < d.W * d.H → 0 ≤ k → k < perT d → nodeIn d y = true := by
      intro q k e q0 q1 k0 k1
      refine nodeIn_rnP.2 ⟨hd, ?_, ?_⟩
      · have := Int.mul_nonneg q0 (show 0 ≤ perT d by omega); omega
      · have h1 : (q + 1) * perT d ≤ d.W * d.H * perT d := Int.mul_le_mul_of_nonneg_right (by omega) (by omega)
        rw [Int.add_mul, Int.one_mul] at h1
        unfold nodesOf
        omega
    rcases List.mem_append.1 h with h | h
    · split at h
      · rename_i h7
        obtain ⟨p, hp2, rfl⟩ := mem_outsOf.1 h
        have hm := outPin_mod ht hp2.1 hp2.2
        have hop := outPins_bd d (n / perT d)
        refine ⟨hin (q := n / perT d) (k := 5 + p) (by rw [outPin_eq ht hp2.1 hp2.2]; omega) hq0 hq1 (by omega) (by omega), fun e => ?_⟩
        rw [e] at hm
        omega
      · simp at h
    · obtain ⟨r, k, s, hr, hk, hs, hu, e, h0⟩ := (mem_candA' hd).1 h
      have hc := cand_ge hd (t := n / perT d) (r := r) (k := k) (s := s) (by omega)
      have hm := cand_mod hd (t := n / perT d) (r := r) (k := k) (s := s) (by omega)
      have hti := tileIn_iff.1 hc.1
      have hk3 : 7 + r * d.T + k < perT d := by
        have := mul_bd hr.1 hr.2 (show 0 ≤ d.T by omega) (Int.le_refl d.T)
        unfold perT
        omega
      refine ⟨hin (q := stepOf d (n / perT d) ((r + 2) % 4) s) (k := 7 + r * d.T + k) (by rw [e, hc.2.2.2.2]) hti.2.1 hti.2.2 (by omega) hk3, fun e2 => ?_⟩
      rw [← e, e2] at hm
      have hst := step_tile hd hti.2.1
      rw [← hm.1] at hst
      obtain ⟨_, _, ex, ey⟩ := hst
      unfold stX at ex
      unfold stY at ey
      have : (r + 2) % 4 = 0 ∨ (r + 2) % 4 = 1 ∨ (r + 2) % 4 = 2 ∨ (r + 2) % 4 = 3 := by omega
      rcases this with h4 | h4 | h4 | h4 <;> rw [h4] at ex ey <;> simp at ex ey <;> omega
  · simp at h
theorem drv_node {d : Dev} {ts : List Tile} {n : Int} (hc : CfgOk d ts) (h : 0 ≤ drvOf d ts n) : nodeIn d (drvOf d ts n) = true ∧ drvOf d ts n ≠ n := by
  unfold drvOf at h ⊢
  split at h
  · rename_i hl
    rw [if_pos hl]
    unfold drvSel at h ⊢
    split at h
    · omega
    · rename_i hs
      rw [if_neg hs]
      refine src_node (n := n) ?_
      rcases Nat.lt_or_ge (selOf d ts n - 1).toNat (srcs d n).length with hlt | hge
      · rw [List.getElem?_eq_getElem hlt]
        exact List.getElem_mem hlt
      · exfalso
        have hni : nodeIn d n = true := by have := hl.1; unfold nodeOk at this; rw [Bool.and_eq_true] at this; exact this.1
        have := sel_bd hc hni hl.2
        omega
  · omega
theorem drv_ge {d : Dev} {ts : List Tile} {n : Int} : -1 ≤ drvOf d ts n := by
  rcases Int.lt_or_le (drvOf d ts n) 0 with h | h
  · unfold drvOf at h ⊢
    split
    · rename_i hl
      rw [if_pos hl] at h
      unfold drvSel at h ⊢
      split
      · omega
      · rename_i hs
        rw [if_neg hs] at h
        rcases Nat.lt_or_ge (selOf d ts n - 1).toNat (srcs d n).length with hlt | hge
        · have hmem := List.getElem_mem hlt
          rw [List.getElem?_eq_getElem hlt, Option.getD_some] at h ⊢
          have h2 := (node_tk (src_node hmem).1).2.1
          omega
        · rw [List.getElem?_eq_none hge]; simp
    · omega
  · omega

def rqOk (d : Dev) (ts : List Tile) (r : Reg) (k : Int) : Bool := decide (drvOf d ts k < 0) || (inReg d r (k / perT d) || !inReg d r (drvOf d ts k / perT d))
def rqF (d : Dev) (fs : List (List Int)) (r : Reg) : Bool := framesOk d fs && (regOk d r && (List.range (nodesOf d).toNat).all fun (k : Nat) => rqOk d (tilesOf d fs) r (k : Int))
theorem rq_bad {d : Dev} {fs : List (List Int)} {r : Reg} {k : Nat} (hk : k < (nodesOf d).toNat) (h : rqOk d (tilesOf d fs) r (k : Int) = false) : rqF d fs r = false := by
  cases hs : rqF d fs r with
  | false => rfl
  | true =>
    simp only [rqF, Bool.and_eq_true, List.all_eq_true, List.mem_range] at hs
    rw [hs.2.2 k hk] at h
    cases h
theorem rq_good {d : Dev} {fs : List (List Int)} {r : Reg} (hf : framesOk d fs = true) (hr : regOk d r = true) (h : ∀ k, k < (nodesOf d).toNat → rqOk d (tilesOf d fs) r ((k : Nat) : Int) = true) : rqF d fs r = true := by
  simp only [rqF, Bool.and_eq_true, List.all_eq_true, List.mem_range]
  exact ⟨hf, hr, h⟩
theorem inRegion_is {d : Dev} {r : Reg} {t : Int} {b : Bool} (h : inReg d r t = b) (hd : devOk d = true) (h0 : 0 ≤ t) (h1 : t ≤ 1099511627776) (w : World) :
    Calls Try.prog 111 #[.agg #[.int .i64 d.W, .int .i64 d.H, .int .i64 d.T, .int .i64 d.R], .agg #[.int .i64 r.X0, .int .i64 r.Y0, .int .i64 r.X1, .int .i64 r.Y1], .int .i64 t] w fun e w' => e = .returned (.bool b) ∧ Below w.heap.size w w' := by
  obtain ⟨a, b', _⟩ := devOk_bd hd
  have := inRegion_any d r t w a b' h0 h1
  rwa [h] at this
theorem drvTo_get {d : Dev} {ts : List Tile} {k N : Nat} (h : k < N) : (drvTo d ts N)[k]?.getD 0 = drvOf d ts (k : Int) := by
  unfold drvTo
  rw [List.getElem?_map, List.getElem?_range h]
  rfl

set_option maxHeartbeats 4000000 in
theorem regionQuiet_any (d : Dev) (A : Option Addr) (m c : Nat) (fs : List (List Int)) (r : Reg) (w : World) (hA : Rows2 w A m fs) (hz : size2 fs ≤ 1099511627776) :
    Calls Try.prog 74 #[.agg #[.int .i64 d.W, .int .i64 d.H, .int .i64 d.T, .int .i64 d.R], .slice A m c, .agg #[.int .i64 r.X0, .int .i64 r.Y0, .int .i64 r.X1, .int .i64 r.Y1]] w fun e w' => e = .returned (.bool (rqF d fs r)) ∧ Below w.heap.size w w' := by
  have HB0 := Lib.hid (below_new (below_new (Below.refl w.heap.size w) (.cells #[.int .i64 d.W, .int .i64 d.H, .int .i64 d.T, .int .i64 d.R] 29)) (.cells #[.int .i64 r.X0, .int .i64 r.Y0, .int .i64 r.X1, .int .i64 r.Y1] 58))
  have HI := Lib.hid hA
  clear hA
  go_enter Try.func74, Try.ntmps74
  go_wp2_with fail
  refine (framesOk_any d A m c fs _ (HI.out.below HB0.out) hz).mono ?_
  rintro e w1 ⟨rfl, b1⟩
  have hs1 := b1.size
  simp only [World.size_alloc] at hs1
  have D1 := Lib.hid b1
  obtain ⟨hcc, hff⟩ := bcell b1
  clear b1
  cases hf : framesOk d fs with
  | false =>
    have HF : Hid (rqF d fs r = false) := by show _ = _; unfold rqF; rw [hf]; rfl
    clear hf
    go_wp2_with fail
    go_ret
    exact ⟨ret_bool HF.out.symm, below_tr HB0.out D1.out⟩
  | true =>
    have HFO := Lib.hid hf
    have hdv := (framesOk_iff hf).1
    have HD := Lib.hid hdv
    have hnb := nodesOf_bd hdv
    have hWH := dev_WH hdv
    have hm36 := (frames_n hf).2
    clear hf
    go_wp2_with fail
    refine (regionOk_any d r _).mono ?_
    rintro e w2 ⟨rfl, b2⟩
    have D2 := Lib.hid (below_tr D1.out b2)
    have hs2 := b2.size
    clear b2 hcc hff
    obtain ⟨hcc, hff⟩ := bcell D2.out
    cases hr : regOk d r with
    | false =>
      have HF : Hid (rqF d fs r = false) := by show _ = _; unfold rqF; rw [hr]; simp
      clear hr hdv hcc hff
      go_wp2_with fail
      go_ret
      exact ⟨ret_bool HF.out.symm, below_tr HB0.out D2.out⟩
    | true =>
      have HR := Lib.hid hr
      clear hr hdv
      go_wp2_with fail
      refine (emulatorOf_any d A m c fs _ (HI.out.below (below_tr HB0.out D2.out)) HFO.out).mono ?_
      rintro e w3 ⟨g, TA, tc, EA, DA, rfl, hem, b3⟩
      have D3 := Lib.hid (below_tr D2.out b3)
      have hs3 := b3.size
      have x6 := cell_heap (k := 6) hem.box rfl
      have HDR := Lib.hid hem.drv
      have hgl := heap_lt0 hem.box
      clear b3 hem hcc hff
      obtain ⟨N, hN⟩ : ∃ N : Nat, nodesOf d = (N : Int) := ⟨(nodesOf d).toNat, by omega⟩
      have hNN : (nodesOf d).toNat = N := by omega
      have HN := Lib.hid hN
      have HBAD := Lib.hid (fun k hk h => rq_bad (d := d) (fs := fs) (r := r) (k := k) hk h)
      have HGOOD := Lib.hid (fun h => rq_good (d := d) (fs := fs) (r := r) HFO.out HR.out h)
      rw [hNN] at x6 HDR HBAD HGOOD
      rw [hN] at hnb
      clear hN hNN
      go_wp2_with fail
      go_loopw [30] (fun i wr => ∃ k : Nat, k ≤ N ∧ i = .int .i64 k ∧ Below w3.heap.size w3 wr ∧ ∀ j, j < k → rqOk d (tilesOf d fs) r ((j : Nat) : Int) = true) (fun i _ => N - (intOf i).toNat)
      case atStart => exact ⟨0, by omega, rfl, Below.refl _ _, by intro j hj; omega⟩
      case round =>
        obtain ⟨k, hk, rfl, hb, hall⟩ := hrel
        have HALL := Lib.hid hall
        have HB := Lib.hid hb
        have hs := hb.size
        clear hall
        by_cases hlt : k < N
        · have hdk : decide ((k : Int) < (N : Int)) = true := by simp; omega
          have hni : nodeIn d (k : Int) = true := nodeIn_rnP.2 ⟨HD.out, by omega, by rw [HN.out]; omega⟩
          have HNI := Lib.hid hni
          obtain ⟨_, n0, n1, hq0, hq1, hr0, hr1⟩ := node_tk hni
          obtain ⟨b, o, rfl, hbl, hc⟩ := HDR.out.2 (by omega)
          have hck := hc k hlt
          rw [drvTo_get hlt, ← hb.cell (p := ⟨b, o + k, none⟩) hbl] at hck
          have hbr : b < wr.heap.size := by omega
          have HROK : Hid (rqOk d (tilesOf d fs) r (k : Int) = (decide (drvOf d (tilesOf d fs) (k : Int) < 0) || (inReg d r ((k : Int) / perT d) || !inReg d r (drvOf d (tilesOf d fs) (k : Int) / perT d)))) := rfl
          have HDN := Lib.hid (fun h => (drv_node (n := (k : Int)) (cfg_of_frames HFO.out) h).1)
          have HBD := Lib.hid (HBAD.out k hlt)
          have HALS := Lib.hid (fun h => all_succ HALL.out h)
          have i0 : (0 : Int) ≤ (k : Int) := by omega
          have i1 : (k : Int) < (N : Int) := by omega
          generalize drvOf d (tilesOf d fs) (k : Int) = s at *
          clear hni hc hb
          obtain ⟨hcc, hff⟩ := bcell (below_tr D3.out HB.out)
          by_cases hs0 : s < 0
          · have hds : decide (s < 0) = true := by simpa using hs0
            have HE : Hid (rqOk d (tilesOf d fs) r (k : Int) = true) := by show _ = _; rw [HROK.out, hds]; rfl
            clear hcc hff
            go_wp2_with fail
            go_roundw
            case rel => exact ⟨k + 1, by omega, by go_num, HB.out, HALS.out HE.out⟩
            case measure => simp [intOf]; omega
          · have hds : decide (s < 0) = false := by simp; omega
            have hsi := HDN.out (by omega)
            have HSI := Lib.hid hsi
            obtain ⟨_, s0, s1, hqs0, hqs1, _⟩ := node_tk hsi
            rw [hds] at HROK
            clear hsi
            have hww : w.heap.size + 1 < wr.heap.size := by omega
            go_wp2_with fail
            refine (nodePlace_any d (k : Int) _ HNI.out).mono ?_
            rintro e w4 ⟨rfl, b4⟩
            have HB4 := Lib.hid (below_tr HB.out b4)
            have hs4 := b4.size
            clear b4 hcc hff hck
            obtain ⟨hcc, hff⟩ := bcell (below_tr D3.out HB4.out)
            go_wp2_with fail
            refine (nodePlace_any d s _ HSI.out).mono ?_
            rintro e w5 ⟨rfl, b5⟩
            have HB5 := Lib.hid (below_tr HB4.out b5)
            have hs5 := b5.size
            clear b5 hcc hff
            obtain ⟨hcc, hff⟩ := bcell (below_tr D3.out HB5.out)
            generalize (k : Int) / perT d = q at *
            generalize (k : Int) % perT d = qm at *
            generalize s / perT d = qs at *
            generalize s % perT d = qsm at *
            cases h1 : inReg d r q with
            | true =>
              have HC := Lib.hid (fun w => inRegion_is h1 HD.out hq0 (by omega) w)
              have HE : Hid (rqOk d (tilesOf d fs) r (k : Int) = true) := by show _ = _; rw [HROK.out, h1]; rfl
              clear h1
              go_wp2_with fail
              refine (HC.out _).mono ?_
              rintro e w6 ⟨rfl, b6⟩
              have HB6 := Lib.hid (below_tr HB5.out b6)
              clear b6 hcc hff
              go_wp2_with fail
              go_roundw
              case rel => exact ⟨k + 1, by omega, by go_num, HB6.out, HALS.out HE.out⟩
              case measure => simp [intOf]; omega
            | false =>
              have HC := Lib.hid (fun w => inRegion_is h1 HD.out hq0 (by omega) w)
              rw [h1] at HROK
              clear h1
              go_wp2_with fail
              refine (HC.out _).mono ?_
              rintro e w6 ⟨rfl, b6⟩
              have HB6 := Lib.hid (below_tr HB5.out b6)
              have hs6 := b6.size
              clear b6 hcc hff
              obtain ⟨hcc, hff⟩ := bcell (below_tr D3.out HB6.out)
              cases h2 : inReg d r qs with
              | true =>
                have HC2 := Lib.hid (fun w => inRegion_is h2 HD.out hqs0 (by omega) w)
                have HE := Lib.hid (HBD.out (by rw [HROK.out, h2]; rfl))
                clear h2
                go_wp2_with fail
                refine (HC2.out _).mono ?_
                rintro e w7 ⟨rfl, b7⟩
                have HB7 := Lib.hid (below_tr HB6.out b7)
                clear b7 hcc hff
                go_wp2_with fail
                go_ret
                exact ⟨ret_bool HE.out.symm, below_tr HB0.out (below_tr D3.out HB7.out)⟩
              | false =>
                have HC2 := Lib.hid (fun w => inRegion_is h2 HD.out hqs0 (by omega) w)
                have HE : Hid (rqOk d (tilesOf d fs) r (k : Int) = true) := by show _ = _; rw [HROK.out, h2]; rfl
                clear h2
                go_wp2_with fail
                refine (HC2.out _).mono ?_
                rintro e w7 ⟨rfl, b7⟩
                have HB7 := Lib.hid (below_tr HB6.out b7)
                clear b7 hcc hff
                go_wp2_with fail
                go_roundw
                case rel => exact ⟨k + 1, by omega, by go_num, HB7.out, HALS.out HE.out⟩
                case measure => simp [intOf]; omega
        · have hkN : k = N := by omega
          have HKN := Lib.hid hkN
          have hdk : decide ((k : Int) < (N : Int)) = false := by simp; omega
          clear hkN
          go_wp2_with fail
          go_ret
          exact ⟨ret_bool (HGOOD.out (by rw [← HKN.out]; exact HALL.out)).symm, below_tr HB0.out (below_tr D3.out HB.out)⟩
end Go.Proofs.Ytndfaaebflhggaa

namespace Go.Proofs.Ytndfaaebflhggaa
set_option maxRecDepth 100000
open Go.RowKit Cw

def nv (vs : List Int) (i : Int) : Int := vs[i.toNat]?.getD 0
def selV (d : Dev) (vs : List Int) (t s : Int) : Int := if s > 0 then nv vs (t * perT d + s - 1) else 0
def negTo (d : Dev) (vs : List Int) (t : Int) (sel : List Int) : Nat → Bool
  | 0 => false
  | j + 1 => negTo d vs t sel j || decide (selV d vs t (sel[j]?.getD 0) < 0)
def idxTo (d : Dev) (vs : List Int) (t : Int) (sel : List Int) : Nat → Nat
  | 0 => 0
  | j + 1 => idxTo d vs t sel j + (selV d vs t (sel[j]?.getD 0)).toNat * 2 ^ j
def lutF (d : Dev) (vs : List Int) (t : Int) (e : Le) : Int := if negTo d vs t e.sel 4 = true then -1 else ((bit e.mask.toNat (idxTo d vs t e.sel 4) : Nat) : Int)
def leAt (ts : List Tile) (t e : Int) : Le := (tileAt ts t).les[e.toNat]?.getD Le.zero
def pinF (d : Dev) (ts : List Tile) (st pads vs : List Int) (t e : Int) : Int :=
  if kindOf d t = 0 then (if (tileAt ts t).pad = 1 then nv pads t else 0) else if kindOf d t = 2 then nv st (2 * t) % 2 else if (leAt ts t e).flop = 1 then nv st (2 * t + e) else lutF d vs t (leAt ts t e)
def nodeV (d : Dev) (ts : List Tile) (st pads vs : List Int) (n : Int) : Int :=
  if n % perT d = 5 ∨ n % perT d = 6 then pinF d ts st pads vs (n / perT d) (n % perT d - 5) else if 0 ≤ drvOf d ts n then nv vs (drvOf d ts n) else 0
def stepV (d : Dev) (ts : List Tile) (st pads vs : List Int) (n : Int) : List Int :=
  if nodeOk d n = true ∧ nv vs n < 0 ∧ 0 ≤ nodeV d ts st pads vs n then vs.set n.toNat (nodeV d ts st pads vs n) else vs
def sweepTo (d : Dev) (ts : List Tile) (st pads vs : List Int) : Nat → List Int
  | 0 => vs
  | k + 1 => stepV d ts st pads (sweepTo d ts st pads vs k) (k : Int)
def itV (d : Dev) (ts : List Tile) (st pads : List Int) (N : Nat) : Nat → List Int
  | 0 => List.replicate N (-1)
  | j + 1 => sweepTo d ts st pads (itV d ts st pads N j) N
def valsF (d : Dev) (ts : List Tile) (st pads : List Int) : List Int := itV d ts st pads (nodesOf d).toNat ((nodesOf d).toNat + 1)
def cntV (vs : List Int) : Nat := (vs.filter fun x => decide (0 ≤ x)).length
/-- Undetermined, 0 or 1. -/
def In3 (vs : List Int) : Prop := ∀ x ∈ vs, -1 ≤ x ∧ x ≤ 1
theorem in3_nv {vs : List Int} (h : In3 vs) (i : Int) : -1 ≤ nv vs i ∧ nv vs i ≤ 1 := by
  unfold nv
  rcases Nat.lt_or_ge i.toNat vs.length with hlt | hge
  · rw [List.getElem?_eq_getElem hlt]; exact h _ (List.getElem_mem hlt)
  · rw [List.getElem?_eq_none hge]; simp
theorem in3_set {vs : List Int} (h : In3 vs) (k : Nat) {x : Int} (hx : -1 ≤ x ∧ x ≤ 1) : In3 (vs.set k x) := by
  intro y hy
  rcases List.mem_or_eq_of_mem_set hy with hy | rfl
  · exact h y hy
  · exact hx
theorem in3_rep (N : Nat) : In3 (List.replicate N (-1)) := by intro x hx; rw [List.mem_replicate] at hx; omega
theorem selV_in {d : Dev} {vs : List Int} (h : In3 vs) (t s : Int) : -1 ≤ selV d vs t s ∧ selV d vs t s ≤ 1 := by
  unfold selV
  split
  · exact in3_nv h _
  · omega
theorem idxTo_lt {d : Dev} {vs : List Int} (h : In3 vs) (t : Int) (sel : List Int) (j : Nat) : idxTo d vs t sel j < 2 ^ j := by
  induction j with
  | zero => simp [idxTo]
  | succ j ih =>
    have := selV_in (d := d) h t (sel[j]?.getD 0)
    rw [idxTo, Nat.pow_succ]
    have h2 : (selV d vs t (sel[j]?.getD 0)).toNat ≤ 1 := by omega
    have := Nat.mul_le_mul_right (2 ^ j) h2
    omega
theorem negTo_mono {d : Dev} {vs : List Int} {t : Int} {sel : List Int} {j k : Nat} (hjk : j ≤ k) (h : negTo d vs t sel j = true) : negTo d vs t sel k = true := by
  induction k with
  | zero => obtain rfl : j = 0 := by omega
            exact h
  | succ k ih =>
    rcases Nat.lt_or_ge k j with hlt | hge
    · obtain rfl : j = k + 1 := by omega
      exact h
    · rw [negTo, ih hge]; rfl
theorem lutF_in (d : Dev) (vs : List Int) (t : Int) (e : Le) : -1 ≤ lutF d vs t e ∧ lutF d vs t e ≤ 1 := by
  unfold lutF
  split
  · omega
  · have := bit_le e.mask.toNat (idxTo d vs t e.sel 4); omega
/-- States and pads that fit: what the output pins read is 0 or 1. -/
structure StPads (d : Dev) (ts : List Tile) (st pads : List Int) : Prop where
  pad : ∀ t, tileIn d t = true → kindOf d t = 0 → 0 ≤ nv pads t ∧ nv pads t ≤ 1
  sta : ∀ t e, tileIn d t = true → kindOf d t = 1 → 0 ≤ e → e ≤ 1 → 0 ≤ nv st (2 * t + e) ∧ nv st (2 * t + e) ≤ 1
  ram : ∀ t, tileIn d t = true → kindOf d t = 2 → 0 ≤ nv st (2 * t) ∧ nv st (2 * t) ≤ 31
theorem pinF_in {d : Dev} {ts : List Tile} {st pads vs : List Int} (h : StPads d ts st pads) {t e : Int} (ht : tileIn d t = true) (he : 0 ≤ e ∧ e ≤ 1) : -1 ≤ pinF d ts st pads vs t e ∧ pinF d ts st pads vs t e ≤ 1 := by
  unfold pinF
  rcases kindOf_bd d t with hk | hk | hk
  · rw [if_pos hk]; split
    · have := h.pad t ht hk; omega
    · omega
  · rw [if_neg (by omega), if_neg (by omega)]; split
    · have := h.sta t e ht hk he.1 he.2; omega
    · exact lutF_in _ _ _ _
  · rw [if_neg (by omega), if_pos hk]; omega
theorem nodeV_in {d : Dev} {ts : List Tile} {st pads vs : List Int} (h : StPads d ts st pads) (hv : In3 vs) {n : Int} (hn : nodeIn d n = true) : -1 ≤ nodeV d ts st pads vs n ∧ nodeV d ts st pads vs n ≤ 1 := by
  unfold nodeV
  split
  · exact pinF_in h (node_tile hn) (by omega)
  · split
    · exact in3_nv hv _
    · omega
theorem stepV_length (d : Dev) (ts : List Tile) (st pads vs : List Int) (n : Int) : (stepV d ts st pads vs n).length = vs.length := by unfold stepV; split <;> simp
theorem sweepTo_length (d : Dev) (ts : List Tile) (st pads vs : List Int) (k : Nat) : (sweepTo d ts st pads vs k).length = vs.length := by
  induction k with
  | zero => rfl
  | succ k ih => rw [sweepTo, stepV_length, ih]
theorem itV_length (d : Dev) (ts : List Tile) (st pads : List Int) (N j : Nat) : (itV d ts st pads N j).length = N := by
  induction j with
  | zero => simp [itV]
  | succ j ih => rw [itV, sweepTo_length, ih]
theorem stepV_in {d : Dev} {ts : List Tile} {st pads vs : List Int} (h : StPads d ts st pads) (hv : In3 vs) (n : Int) : In3 (stepV d ts st pads vs n) := by
  unfold stepV
  split
  · rename_i hc
    have hni : nodeIn d n = true := by have := hc.1; unfold nodeOk at this; rw [Bool.and_eq_true] at this; exact this.1
    exact in3_set hv _ (nodeV_in h hv hni)
  · exact hv
theorem sweepTo_in {d : Dev} {ts : List Tile} {st pads vs : List Int} (h : StPads d ts st pads) (hv : In3 vs) (k : Nat) : In3 (sweepTo d ts st pads vs k) := by
  induction k with
  | zero => exact hv
  | succ k ih => exact stepV_in h ih _
theorem itV_in {d : Dev} {ts : List Tile} {st pads : List Int} (h : StPads d ts st pads) (N j : Nat) : In3 (itV d ts st pads N j) := by
  induction j with
  | zero => exact in3_rep N
  | succ j ih => exact sweepTo_in h ih _
theorem cntV_set {vs : List Int} {k : Nat} (hk : k < vs.length) (h : vs[k]?.getD 0 < 0) {x : Int} (hx : 0 ≤ x) : cntV (vs.set k x) = cntV vs + 1 := by
  induction vs generalizing k with
  | nil => simp at hk
  | cons y vs ih =>
    cases k with
    | zero =>
      simp only [List.getElem?_cons_zero, Option.getD_some] at h
      unfold cntV
      rw [List.set_cons_zero, List.filter_cons_of_pos (by simpa using hx), List.filter_cons_of_neg (by simp; omega)]
      simp
    | succ k =>
      have := ih (k := k) (by simpa using hk) (by simpa using h)
      unfold cntV at *
      rw [List.set_cons_succ, List.filter_cons, List.filter_cons]
      split <;> simp [this]
theorem cntV_le (vs : List Int) : cntV vs ≤ vs.length := List.length_filter_le _ _
/-- A step changes nothing, or determines one node more. -/
theorem stepV_cnt (d : Dev) (ts : List Tile) (st pads vs : List Int) (n : Int) : (stepV d ts st pads vs n = vs) ∨ cntV (stepV d ts st pads vs n) = cntV vs + 1 := by
  unfold stepV
  split
  · rename_i hc
    rcases Nat.lt_or_ge n.toNat vs.length with hlt | hge
    · exact .inr (cntV_set hlt hc.2.1 hc.2.2)
    · have := hc.2.1
      unfold nv at this
      rw [List.getElem?_eq_none hge] at this
      simp at this
  · exact .inl rfl
theorem sweepTo_cnt (d : Dev) (ts : List Tile) (st pads vs : List Int) (k : Nat) : cntV vs ≤ cntV (sweepTo d ts st pads vs k) ∧ (cntV (sweepTo d ts st pads vs k) = cntV vs → sweepTo d ts st pads vs k = vs) := by
  induction k with
  | zero => exact ⟨Nat.le_refl _, fun _ => rfl⟩
  | succ k ih =>
    rw [sweepTo]
    rcases stepV_cnt d ts st pads (sweepTo d ts st pads vs k) (k : Int) with h | h
    · rw [h]; exact ih
    · rw [h]; exact ⟨by omega, fun h2 => by omega⟩
theorem itV_fix {d : Dev} {ts : List Tile} {st pads : List Int} {N j : Nat} (h : sweepTo d ts st pads (itV d ts st pads N j) N = itV d ts st pads N j) : ∀ i, itV d ts st pads N (j + i) = itV d ts st pads N j
  | 0 => rfl
  | i + 1 => by rw [← Nat.add_assoc, itV, itV_fix h i, h]
theorem valsF_of {d : Dev} {ts : List Tile} {st pads : List Int} {j : Nat} (hj : j ≤ (nodesOf d).toNat) (h : sweepTo d ts st pads (itV d ts st pads (nodesOf d).toNat j) (nodesOf d).toNat = itV d ts st pads (nodesOf d).toNat j) : valsF d ts st pads = itV d ts st pads (nodesOf d).toNat j := by
  have := itV_fix h ((nodesOf d).toNat + 1 - j)
  rw [show j + ((nodesOf d).toNat + 1 - j) = (nodesOf d).toNat + 1 by omega] at this
  exact this
theorem valsF_length (d : Dev) (ts : List Tile) (st pads : List Int) : (valsF d ts st pads).length = (nodesOf d).toNat := itV_length _ _ _ _ _ _
/-- After as many sweeps as there are nodes nothing changes. -/
theorem valsF_fix (d : Dev) (ts : List Tile) (st pads : List Int) : sweepTo d ts st pads (valsF d ts st pads) (nodesOf d).toNat = valsF d ts st pads := by
  unfold valsF
  generalize (nodesOf d).toNat = N
  have key : ∀ j, (sweepTo d ts st pads (itV d ts st pads N j) N = itV d ts st pads N j) ∨ j + 1 ≤ cntV (itV d ts st pads N (j + 1)) := by
    intro j
    induction j with
    | zero =>
      have := sweepTo_cnt d ts st pads (itV d ts st pads N 0) N
      change cntV (itV d ts st pads N 0) ≤ cntV (itV d ts st pads N (0 + 1)) ∧ (cntV (itV d ts st pads N (0 + 1)) = cntV (itV d ts st pads N 0) → _) at this
      rcases Nat.lt_or_ge (cntV (itV d ts st pads N 0)) (cntV (itV d ts st pads N (0 + 1))) with hlt | hge
      · exact .inr (by omega)
      · exact .inl (this.2 (by omega))
    | succ j ih =>
      rcases ih with h | h
      · left
        have := itV_fix h 1
        rw [this]; exact h
      · have := sweepTo_cnt d ts st pads (itV d ts st pads N (j + 1)) N
        change cntV (itV d ts st pads N (j + 1)) ≤ cntV (itV d ts st pads N (j + 1 + 1)) ∧ (cntV (itV d ts st pads N (j + 1 + 1)) = cntV (itV d ts st pads N (j + 1)) → _) at this
        rcases Nat.lt_or_ge (cntV (itV d ts st pads N (j + 1))) (cntV (itV d ts st pads N (j + 1 + 1))) with hlt | hge
        · exact .inr (by omega)
        · exact .inl (this.2 (by omega))
  rcases key (N + 1) with h | h
  · exact h
  · have := cntV_le (itV d ts st pads N (N + 1 + 1))
    rw [itV_length] at this
    omega

/-! ### which nodes are determined does not depend on the state or the pads -/
def Same (vs us : List Int) : Prop := vs.length = us.length ∧ ∀ i, nv vs i < 0 ↔ nv us i < 0
theorem same_sel {d : Dev} {vs us : List Int} (h : Same vs us) (t s : Int) : selV d vs t s < 0 ↔ selV d us t s < 0 := by
  unfold selV
  split
  · exact h.2 _
  · exact Iff.rfl
theorem same_neg {d : Dev} {vs us : List Int} (h : Same vs us) (t : Int) (sel : List Int) (j : Nat) : negTo d vs t sel j = negTo d us t sel j := by
  induction j with
  | zero => rfl
  | succ j ih =>
    rw [negTo, negTo, ih]
    congr 1
    exact decide_eq_decide.2 (same_sel h t _)
theorem lutF_neg {d : Dev} {vs : List Int} {t : Int} {e : Le} : lutF d vs t e < 0 ↔ negTo d vs t e.sel 4 = true := by
  unfold lutF
  split
  · rename_i h; simp [h]
  · rename_i h
    constructor
    · intro h2; omega
    · intro h2; exact absurd h2 h
theorem same_pin {d : Dev} {ts : List Tile} {st pads st' pads' vs us : List Int} (h : StPads d ts st pads) (h' : StPads d ts st' pads') (hs : Same vs us) {t e : Int} (ht : tileIn d t = true) (he : 0 ≤ e ∧ e ≤ 1) : pinF d ts st pads vs t e < 0 ↔ pinF d ts st' pads' us t e < 0 := by
  unfold pinF
  rcases kindOf_bd d t with hk | hk | hk
  · rw [if_pos hk, if_pos hk]
    split
    · have := h.pad t ht hk
      have := h'.pad t ht hk
      omega
    · exact Iff.rfl
  · simp only [hk, show ¬ (1 : Int) = 0 by omega, show ¬ (1 : Int) = 2 by omega, if_false]
    by_cases hf : (leAt ts t e).flop = 1
    · rw [if_pos hf, if_pos hf]
      have := h.sta t e ht hk he.1 he.2
      have := h'.sta t e ht hk he.1 he.2
      omega
    · rw [if_neg hf, if_neg hf, lutF_neg, lutF_neg, same_neg hs]
  · rw [if_neg (by omega), if_pos hk, if_neg (by omega), if_pos hk]; omega
theorem same_node {d : Dev} {ts : List Tile} {st pads st' pads' vs us : List Int} (h : StPads d ts st pads) (h' : StPads d ts st' pads') (hs : Same vs us) {n : Int} (hn : nodeIn d n = true) : nodeV d ts st pads vs n < 0 ↔ nodeV d ts st' pads' us n < 0 := by
  unfold nodeV
  split
  · exact same_pin h h' hs (node_tile hn) (by omega)
  · split
    · exact hs.2 _
    · exact Iff.rfl
theorem nv_set {vs : List Int} {k : Nat} (hk : k < vs.length) (x i : Int) : nv (vs.set k x) i = if i.toNat = k then x else nv vs i := by
  unfold nv
  rw [List.getElem?_set]
  split
  · rename_i h
    subst h
    simp
  · rename_i h
    rw [if_neg (fun e => h e.symm)]
theorem same_step {d : Dev} {ts : List Tile} {st pads st' pads' vs us : List Int} (h : StPads d ts st pads) (h' : StPads d ts st' pads') (hs : Same vs us) (n : Int) : Same (stepV d ts st pads vs n) (stepV d ts st' pads' us n) := by
  refine ⟨by rw [stepV_length, stepV_length]; exact hs.1, fun i => ?_⟩
  unfold stepV
  cases hno : nodeOk d n with
  | false => simp only [Bool.false_eq_true, false_and, if_false]; exact hs.2 i
  | true =>
    have hni : nodeIn d n = true := by unfold nodeOk at hno; rw [Bool.and_eq_true] at hno; exact hno.1
    have hnode := same_node h h' hs hni
    have hn := hs.2 n
    by_cases hc : nv vs n < 0 ∧ 0 ≤ nodeV d ts st pads vs n
    · have hl : n.toNat < vs.length := by
        rcases Nat.lt_or_ge n.toNat vs.length with hlt | hge
        · exact hlt
        · have := hc.1; unfold nv at this; rw [List.getElem?_eq_none hge] at this; simp at this
      rw [if_pos ⟨rfl, hc⟩, if_pos ⟨rfl, by omega, by omega⟩, nv_set hl, nv_set (by rw [← hs.1]; exact hl)]
      split
      · omega
      · exact hs.2 i
    · rw [if_neg (by rintro ⟨_, h1⟩; exact hc h1), if_neg (by rintro ⟨_, h1, h2⟩; exact hc ⟨by omega, by omega⟩)]
      exact hs.2 i
theorem same_sweep {d : Dev} {ts : List Tile} {st pads st' pads' vs us : List Int} (h : StPads d ts st pads) (h' : StPads d ts st' pads') (hs : Same vs us) (k : Nat) : Same (sweepTo d ts st pads vs k) (sweepTo d ts st' pads' us k) := by
  induction k with
  | zero => exact hs
  | succ k ih => exact same_step h h' ih _
theorem same_it {d : Dev} {ts : List Tile} {st pads st' pads' : List Int} (h : StPads d ts st pads) (h' : StPads d ts st' pads') (N j : Nat) : Same (itV d ts st pads N j) (itV d ts st' pads' N j) := by
  induction j with
  | zero => exact ⟨rfl, fun _ => Iff.rfl⟩
  | succ j ih => exact same_sweep h h' ih _
theorem same_vals {d : Dev} {ts : List Tile} {st pads st' pads' : List Int} (h : StPads d ts st pads) (h' : StPads d ts st' pads') : Same (valsF d ts st pads) (valsF d ts st' pads') := same_it h h' _ _
end Go.Proofs.Ytndfaaebflhggaa

namespace Go.Proofs.Ytndfaaebflhggaa
set_option maxRecDepth 100000
open Go.RowKit Cw

theorem le_fit {d : Dev} {ts : List Tile} {t e : Int} (hc : CfgOk d ts) (ht : tileIn d t = true) (he : 0 ≤ e ∧ e ≤ 1) : LeFit (leAt ts t e) ∧ (tileAt ts t).les.length = 2 ∧ t.toNat < ts.length ∧ TileFit d (tileAt ts t) := by
  obtain ⟨hd, h0, h1⟩ := tileIn_iff.1 ht
  have hN := (tiles_eq hd).1
  have hlt : t.toNat < ts.length := by rw [hc.len]; omega
  have hf := tileOk_iff (hc.fit _ hlt)
  obtain ⟨e0, e1, hle, ho0, ho1⟩ := hf.les
  change (tileAt ts t).les = [e0, e1] at hle
  refine ⟨?_, by rw [hle]; rfl, hlt, hf⟩
  unfold leAt
  rw [hle]
  have : e = 0 ∨ e = 1 := by omega
  rcases this with rfl | rfl
  · exact leOk_iff ho0
  · exact leOk_iff ho1
theorem sel_fit {e : Le} (h : LeFit e) : e.sel.length = 4 ∧ ∀ j, j < 4 → 0 ≤ e.sel[j]?.getD 0 ∧ e.sel[j]?.getD 0 ≤ 7 := by
  obtain ⟨a, b, c, d, hs, ha, hb, hc, hd⟩ := h.sel
  rw [hs]
  refine ⟨rfl, fun j hj => ?_⟩
  have : j = 0 ∨ j = 1 ∨ j = 2 ∨ j = 3 := by omega
  rcases this with rfl | rfl | rfl | rfl <;> simp <;> omega
theorem selV_at {d : Dev} {vs : List Int} {t s : Int} (h : s > 0) : selV d vs t s = nv vs (t * perT d + s - 1) := by unfold selV; rw [if_pos h]
theorem selV_zero {d : Dev} {vs : List Int} {t s : Int} (h : ¬ s > 0) : selV d vs t s = 0 := by unfold selV; rw [if_neg h]
theorem node_bd {d : Dev} {t k : Int} (ht : tileIn d t = true) (_h0 : 0 ≤ k) (h1 : k < perT d) : 0 ≤ t * perT d ∧ t * perT d ≤ 805 ∧ t * perT d + k < nodesOf d := by
  obtain ⟨hd, t0, t1⟩ := tileIn_iff.1 ht
  have hp := perT_bd hd
  have hWH := dev_WH hd
  have a := mul_bd t0 (show t ≤ 35 by omega) (show 0 ≤ perT d by omega) hp.2
  have h2 : (t + 1) * perT d ≤ d.W * d.H * perT d := Int.mul_le_mul_of_nonneg_right (by omega) (by omega)
  rw [Int.add_mul, Int.one_mul] at h2
  unfold nodesOf
  omega


theorem and1 {x : Int} (h0 : 0 ≤ x) (h1 : x ≤ 31) : bits .and .i64 x 1 = x % 2 := by
  obtain ⟨n, rfl⟩ := Int.eq_ofNat_of_zero_le h0
  rw [and_one_nat n (by omega)]
  omega
end Go.Proofs.Ytndfaaebflhggaa
