/- Devices and regions: which are valid, and what kind a tile has: the program's answers and the reference's are one. PadsFor: the program's and the reference's make one list. -/
import Derived.Test.YtclmhnghpnfnkaaBit
import Derived.Test.YtclmhnghpnfnkaaHar
namespace Go.Proofs.Ytclmhnghpnfnkaa
set_option maxRecDepth 100000
open Go.RowKit

def devOk (d : Dev) : Bool := inR d.W 3 6 && (inR d.H 3 6 && (inR d.T 1 4 && (decide (d.R = -1) || inR d.R 1 (d.W - 2))))
def regOk (d : Dev) (r : Reg) : Bool := devOk d && (decide (0 ≤ r.X0) && (decide (r.X0 ≤ r.X1) && (decide (r.X1 < d.W) && (decide (0 ≤ r.Y0) && (decide (r.Y0 ≤ r.Y1) && decide (r.Y1 < d.H))))))
theorem devOk_bd {d : Dev} (h : devOk d = true) : 3 ≤ d.W ∧ d.W ≤ 6 ∧ 3 ≤ d.H ∧ d.H ≤ 6 ∧ 1 ≤ d.T ∧ d.T ≤ 4 ∧ -1 ≤ d.R ∧ d.R ≤ d.W - 2 := by
  simp only [devOk, Bool.and_eq_true, Bool.or_eq_true, inR_iff, decide_eq_true_eq] at h; omega

set_option maxHeartbeats 400000 in
theorem deviceOk_any (d : Dev) (w : World) :
    Calls Try.prog 79 #[.agg #[.int .i64 d.W, .int .i64 d.H, .int .i64 d.T, .int .i64 d.R]] w fun e w' => e = .returned (.bool (devOk d)) ∧ Below w.heap.size w w' := by
  by_cases hW : inR d.W 3 6 = true
  · have hb := inR_iff.1 hW
    go_enter Try.func79, Try.ntmps79
    go_wp2_with (first | (go_at_call 106; refine (inRange_any _ _ _ _).mono ?_; rintro e w' ⟨rfl, rfl⟩))
    all_goals (go_ret; exact ⟨by simp [devOk, *], below_new (Below.refl _ _) _⟩)
  · go_enter Try.func79, Try.ntmps79
    go_wp2_with (first | (go_at_call 106; refine (inRange_any _ _ _ _).mono ?_; rintro e w' ⟨rfl, rfl⟩))
    all_goals (go_ret; exact ⟨by simp [devOk, *], below_new (Below.refl _ _) _⟩)
set_option maxHeartbeats 400000 in
theorem sdeviceOk_any (d : Dev) (w : World) :
    Calls Try.prog 75 #[.agg #[.int .i64 d.W, .int .i64 d.H, .int .i64 d.T, .int .i64 d.R]] w fun e w' => e = .returned (.bool (devOk d)) ∧ Below w.heap.size w w' := by
  by_cases hW : inR d.W 3 6 = true
  · have hb := inR_iff.1 hW
    go_enter Try.func75, Try.ntmps75
    go_wp2_with (first | (go_at_call 114; refine (l01In_any _ _ _ _).mono ?_; rintro e w' ⟨rfl, rfl⟩))
    all_goals (go_ret; exact ⟨by simp [devOk, *], below_new (Below.refl _ _) _⟩)
  · go_enter Try.func75, Try.ntmps75
    go_wp2_with (first | (go_at_call 114; refine (l01In_any _ _ _ _).mono ?_; rintro e w' ⟨rfl, rfl⟩))
    all_goals (go_ret; exact ⟨by simp [devOk, *], below_new (Below.refl _ _) _⟩)

set_option maxHeartbeats 400000 in
theorem regionOk_any (d : Dev) (r : Reg) (w : World) :
    Calls Try.prog 110 #[.agg #[.int .i64 d.W, .int .i64 d.H, .int .i64 d.T, .int .i64 d.R], .agg #[.int .i64 r.X0, .int .i64 r.Y0, .int .i64 r.X1, .int .i64 r.Y1]] w fun e w' => e = .returned (.bool (regOk d r)) ∧ Below w.heap.size w w' := by
  go_enter Try.func110, Try.ntmps110
  go_wp2_with (first | (go_at_call 79; refine (deviceOk_any d _).mono ?_; rintro e w' ⟨rfl, hb⟩; obtain ⟨hc, hf⟩ := bcell hb))
  all_goals (go_ret; exact ⟨ret_bool (by clear hc hf; simp [regOk, *] <;> omega), below_tr (below_new (below_new (Below.refl _ _) _) _) hb⟩)
set_option maxHeartbeats 400000 in
theorem sregionOk_any (d : Dev) (r : Reg) (w : World) :
    Calls Try.prog 159 #[.agg #[.int .i64 d.W, .int .i64 d.H, .int .i64 d.T, .int .i64 d.R], .agg #[.int .i64 r.X0, .int .i64 r.Y0, .int .i64 r.X1, .int .i64 r.Y1]] w fun e w' => e = .returned (.bool (regOk d r)) ∧ Below w.heap.size w w' := by
  go_enter Try.func159, Try.ntmps159
  go_wp2_with (first | (go_at_call 75; refine (sdeviceOk_any d _).mono ?_; rintro e w' ⟨rfl, hb⟩; obtain ⟨hc, hf⟩ := bcell hb))
  all_goals (go_ret; exact ⟨ret_bool (by clear hc hf; simp [regOk, *] <;> omega), below_tr (below_new (below_new (Below.refl _ _) _) _) hb⟩)
end Go.Proofs.Ytclmhnghpnfnkaa

namespace Go.Proofs.Ytclmhnghpnfnkaa
set_option maxRecDepth 100000
open Go.RowKit

def padsTo (N : Nat) (ts : List Int) (b : Int) : Nat → List Int
  | 0 => List.replicate N 0
  | k + 1 => (padsTo N ts b k).set (ts[k]?.getD 0).toNat (bits .and .i64 (b / 2 ^ k) 1)
def tiles (d : Dev) : Nat := (d.W * d.H).toNat
def padsFor (d : Dev) (ts : List Int) (b : Int) : List Int :=
  if devOk d = true ∧ ts.length ≤ 40 ∧ ∀ j, j < ts.length → inR (ts[j]?.getD 0) 0 ((tiles d : Int) - 1) = true then padsTo (tiles d) ts b ts.length else []
theorem padsTo_length (N : Nat) (ts : List Int) (b : Int) (k : Nat) : (padsTo N ts b k).length = N := by
  induction k with
  | zero => simp [padsTo]
  | succ k ih => simp [padsTo, ih]
theorem padsFor_le (d : Dev) (ts : List Int) (b : Int) : (padsFor d ts b).length ≤ 36 := by
  unfold padsFor
  split
  · rename_i h
    rw [padsTo_length]
    have h1 := devOk_bd h.1
    have h2 := Int.mul_le_mul h1.2.1 h1.2.2.2.1 (by omega) (by omega)
    unfold tiles
    omega
  · simp
theorem tiles_eq {d : Dev} (h : devOk d = true) : d.W * d.H = (tiles d : Int) ∧ 9 ≤ tiles d ∧ tiles d ≤ 36 := by
  obtain ⟨h1, h2, h3, h4, _⟩ := devOk_bd h
  have a : 9 ≤ d.W * d.H := by
    have := Int.mul_le_mul h1 h3 (by omega) (by omega)
    omega
  have b : d.W * d.H ≤ 36 := by
    have := Int.mul_le_mul h2 h4 (by omega) (by omega)
    omega
  unfold tiles
  omega

set_option maxHeartbeats 1000000 in
theorem padsFor_any (d : Dev) (A : Option Addr) (n c : Nat) (ts : List Int) (b : Int) (w : World) (hA : Ints w A n ts) (hn : n ≤ 16777216) :
    Calls Try.prog 121 #[.agg #[.int .i64 d.W, .int .i64 d.H, .int .i64 d.T, .int .i64 d.R], .slice A n c, .int .i64 b] w fun e w' => ∃ A' m c', e = .returned (.slice A' m c') ∧ Own w.heap.size w' A' m c' (padsFor d ts b) ∧ Below w.heap.size w w' := by
  have HI := Lib.hid hA
  have hX := hA.1
  have HX := Lib.hid hX
  clear hA hX
  go_enter Try.func121, Try.ntmps121
  go_wp2_with fail
  refine (deviceOk_any d _).mono ?_
  rintro e w1 ⟨rfl, b1⟩
  have hs1 := b1.size
  simp only [World.size_alloc] at hs1
  obtain ⟨hcc, hff⟩ := bcell b1
  have B1 := Lib.hid (below_tr (below_new (Below.refl _ _) _) b1)
  clear b1
  cases hd : devOk d with
  | false =>
    have HD := Lib.hid hd
    clear hd
    go_wp2_with fail
    go_ret
    exact ⟨none, 0, 0, rfl, by rw [padsFor, if_neg (by simp [HD.out])]; exact Own.nil, B1.out⟩
  | true =>
    obtain ⟨hN, hN1, hN2⟩ := tiles_eq hd
    have HD := Lib.hid hd
    clear hd
    by_cases h40 : n ≤ 40
    · have d40 : decide ((n : Int) > 40) = false := by simp; omega
      obtain ⟨i0, hi, hz0, hz1, hz2⟩ := info_parts int_info
      have hmk := fun W => run_make_rowN (P := Try.prog) 27 3 i0 _ Try.underlying27 hi hz0 .i64 .i64 (tiles d) (tiles d) (Nat.le_refl _) (by rw [hz2]; omega) (by omega) W
      rw [hz1, Nat.mul_one, show (Value.int .i64 0).cells = #[Value.int .i64 0] from rfl, arr_made] at hmk
      clear hi hz0 hz1 hz2
      go_wp2_with fail
      have hI := HI.out.below B1.out
      obtain ⟨_, hA⟩ := hI
      generalize hT : tiles d = N at *
      have HT := Lib.hid hT
      clear hT hN hcc hff hmk
      go_loopw [26] (fun i wr => ∃ k : Nat, k ≤ n ∧ i = .int .i64 k ∧ wr = w1.alloc (.cells (arr (padsTo N ts b k)) 3) ∧ ∀ j, j < k → inR (ts[j]?.getD 0) 0 ((N : Int) - 1) = true) (fun i _ => n - (intOf i).toNat)
      case atStart => exact ⟨0, Nat.zero_le _, rfl, rfl, by intro j hj; omega⟩
      case round =>
        obtain ⟨k, hk, rfl, rfl, hall⟩ := hrel
        have HALL := Lib.hid hall
        clear hall
        by_cases hlt : k < n
        · obtain ⟨bb, o, rfl, hb, hc⟩ := hA (by omega)
          have hck := hc k hlt
          have hs := padsTo.eq_2 N ts b k
          have HS := Lib.hid hs
          have HR : Hid (inR (ts[k]?.getD 0) 0 ((N : Int) - 1) = true → ∀ j, j < k + 1 → inR (ts[j]?.getD 0) 0 ((N : Int) - 1) = true) := by
            intro h j hj
            rcases Nat.lt_or_ge j k with h1 | h1
            · exact HALL.out j h1
            · obtain rfl : j = k := by omega
              exact h
          have HF : Hid (inR (ts[k]?.getD 0) 0 ((N : Int) - 1) = false → padsFor d ts b = []) := by
            intro h
            rw [padsFor, if_neg]
            rintro ⟨_, _, h3⟩
            have := h3 k (by rw [HX.out]; exact hlt)
            rw [HT.out, h] at this
            cases this
          clear hc hs
          have hl := padsTo_length N ts b k
          have HL := Lib.hid hl
          generalize padsTo N ts b k = ps at *
          generalize ts[k]?.getD 0 = t at *
          by_cases ht : inR t 0 ((N : Int) - 1) = true
          · have htb := inR_iff.1 ht
            have hlt' : t.toNat < ps.length := by omega
            have hg := arr_get hlt'
            have hz : t.toNat < (arr ps).size := by rw [arr_size]; exact hlt'
            have hi0 : (0 : Int) ≤ (k : Int) := by omega
            have hi1 : (k : Int) ≤ 63 := by omega
            clear hl
            go_wp2_with (go_at_call 106; refine (inRange_any _ _ _ _).mono ?_; rintro e w' ⟨rfl, rfl⟩)
            go_roundw
            case rel => exact ⟨k + 1, by omega, by go_num, by rw [arr_set, HS.out], HR.out ht⟩
            case measure => simp [intOf]; omega
          · have htf := Bool.not_eq_true _ ▸ ht
            clear hl
            go_wp2_with (go_at_call 106; refine (inRange_any _ _ _ _).mono ?_; rintro e w' ⟨rfl, rfl⟩)
            go_ret
            exact ⟨none, 0, 0, rfl, by rw [HF.out htf]; exact Own.nil, below_new B1.out _⟩
        · have hkn : k = n := by omega
          subst hkn
          go_wp2
          go_ret
          refine ⟨_, _, _, rfl, ?_, below_new B1.out _⟩
          rw [padsFor, if_pos ⟨HD.out, by rw [HX.out]; exact h40, by rw [HX.out, HT.out]; exact HALL.out⟩, HX.out, HT.out]
          exact Own.arr (heap_new _ _) (by omega) (by unfold maxLen; omega) (padsTo_length _ _ _ _)
    · have d40 : decide ((n : Int) > 40) = true := by simp; omega
      clear hN
      go_wp2_with fail
      go_ret
      exact ⟨none, 0, 0, rfl, by rw [padsFor, if_neg (by simp only [HX.out]; omega)]; exact Own.nil, B1.out⟩
set_option maxHeartbeats 1000000 in
theorem spadsFor_any (d : Dev) (A : Option Addr) (n c : Nat) (ts : List Int) (b : Int) (w : World) (hA : Ints w A n ts) (hn : n ≤ 16777216) :
    Calls Try.prog 119 #[.agg #[.int .i64 d.W, .int .i64 d.H, .int .i64 d.T, .int .i64 d.R], .slice A n c, .int .i64 b] w fun e w' => ∃ A' m c', e = .returned (.slice A' m c') ∧ Own w.heap.size w' A' m c' (padsFor d ts b) ∧ Below w.heap.size w w' := by
  have HI := Lib.hid hA
  have hX := hA.1
  have HX := Lib.hid hX
  clear hA hX
  go_enter Try.func119, Try.ntmps119
  go_wp2_with fail
  refine (sdeviceOk_any d _).mono ?_
  rintro e w1 ⟨rfl, b1⟩
  have hs1 := b1.size
  simp only [World.size_alloc] at hs1
  obtain ⟨hcc, hff⟩ := bcell b1
  have B1 := Lib.hid (below_tr (below_new (Below.refl _ _) _) b1)
  clear b1
  cases hd : devOk d with
  | false =>
    have HD := Lib.hid hd
    clear hd
    go_wp2_with fail
    go_ret
    exact ⟨_, 0, 0, rfl, by rw [padsFor, if_neg (by simp [HD.out])]; exact Own.new0 (by omega), below_new B1.out _⟩
  | true =>
    obtain ⟨hN, hN1, hN2⟩ := tiles_eq hd
    have HD := Lib.hid hd
    clear hd
    by_cases h40 : n ≤ 40
    · have d40 : decide ((n : Int) > 40) = false := by simp; omega
      obtain ⟨i0, hi, hz0, hz1, hz2⟩ := info_parts int_info
      have hmk := fun W => run_make_rowN (P := Try.prog) 27 3 i0 _ Try.underlying27 hi hz0 .i64 .i64 (tiles d) (tiles d) (Nat.le_refl _) (by rw [hz2]; omega) (by omega) W
      rw [hz1, Nat.mul_one, show (Value.int .i64 0).cells = #[Value.int .i64 0] from rfl, arr_made] at hmk
      clear hi hz0 hz1 hz2
      go_wp2_with fail
      have hI := HI.out.below B1.out
      obtain ⟨_, hA⟩ := hI
      generalize hT : tiles d = N at *
      have HT := Lib.hid hT
      clear hT hN hcc hff hmk
      go_loopw [8] (fun i wr => ∃ k nq : Nat, k ≤ n ∧ i = .int .i64 k ∧ wr = (w1.alloc (.cells (arr (padsTo N ts b k)) 3)).drewN nq ∧ ∀ j, j < k → inR (ts[j]?.getD 0) 0 ((N : Int) - 1) = true) (fun i _ => n - (intOf i).toNat)
      case atStart => exact ⟨0, 0, Nat.zero_le _, rfl, rfl, by intro j hj; omega⟩
      case round =>
        obtain ⟨k, nq, hk, rfl, rfl, hall⟩ := hrel
        have HALL := Lib.hid hall
        clear hall
        by_cases hlt : k < n
        · obtain ⟨bb, o, rfl, hb, hc⟩ := hA (by omega)
          have hck := hc k hlt
          have hs := padsTo.eq_2 N ts b k
          have HS := Lib.hid hs
          have HR : Hid (inR (ts[k]?.getD 0) 0 ((N : Int) - 1) = true → ∀ j, j < k + 1 → inR (ts[j]?.getD 0) 0 ((N : Int) - 1) = true) := by
            intro h j hj
            rcases Nat.lt_or_ge j k with h1 | h1
            · exact HALL.out j h1
            · obtain rfl : j = k := by omega
              exact h
          have HF : Hid (inR (ts[k]?.getD 0) 0 ((N : Int) - 1) = false → padsFor d ts b = []) := by
            intro h
            rw [padsFor, if_neg]
            rintro ⟨_, _, h3⟩
            have := h3 k (by rw [HX.out]; exact hlt)
            rw [HT.out, h] at this
            cases this
          clear hc hs
          have hl := padsTo_length N ts b k
          have HL := Lib.hid hl
          generalize padsTo N ts b k = ps at *
          generalize ts[k]?.getD 0 = t at *
          by_cases ht : inR t 0 ((N : Int) - 1) = true
          · have htb := inR_iff.1 ht
            have hlt' : t.toNat < ps.length := by omega
            have hg := arr_get hlt'
            have hz : t.toNat < (arr ps).size := by rw [arr_size]; exact hlt'
            have hi0 : (0 : Int) ≤ (k : Int) := by omega
            have hi1 : (k : Int) ≤ 63 := by omega
            clear hl
            go_wp2_with fail
            go_region
            go_wp2_with fail
            go_roundw
            case rel => exact ⟨k + 1, _, by omega, by go_num, by rw [store_alloc_drewN, arr_set, HS.out], HR.out ht⟩
            case measure => simp [intOf]; omega
          · have htf := Bool.not_eq_true _ ▸ ht
            clear hl
            rcases inR_false.1 htf with h | h
            · have hd : decide (t < 0) = true := by simp; omega
              go_wp2_with fail
              go_ret
              exact ⟨_, 0, 0, rfl, by rw [HF.out htf]; exact Own.newAt (by simp) (by omega), below_new (below_drewN (below_new B1.out _) _) _⟩
            · have hd : decide (t < 0) = false := by simp; omega
              have hd' : decide (t ≥ (N : Int)) = true := by simp; omega
              go_wp2_with fail
              go_ret
              exact ⟨_, 0, 0, rfl, by rw [HF.out htf]; exact Own.newAt (by simp) (by omega), below_new (below_drewN (below_new B1.out _) _) _⟩
        · have hkn : k = n := by omega
          subst hkn
          go_wp2
          go_ret
          refine ⟨_, _, _, rfl, ?_, below_drewN (below_new B1.out _) _⟩
          rw [padsFor, if_pos ⟨HD.out, by rw [HX.out]; exact h40, by rw [HX.out, HT.out]; exact HALL.out⟩, HX.out, HT.out]
          exact Own.arr (w := (w1.alloc _).drewN _) (heap_new _ _) (by omega) (by unfold maxLen; omega) (padsTo_length _ _ _ _)
    · have d40 : decide ((n : Int) > 40) = true := by simp; omega
      clear hN
      go_wp2_with fail
      go_ret
      exact ⟨_, 0, 0, rfl, by rw [padsFor, if_neg (by simp only [HX.out]; omega)]; exact Own.new0 (by omega), below_new B1.out _⟩
end Go.Proofs.Ytclmhnghpnfnkaa
