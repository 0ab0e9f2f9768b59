/- PadsFor: the program's and the reference's make one list. -/
import Derived.Test.YtpmeocgmlchjaaaDev
import Derived.Test.YtpmeocgmlchjaaaBit
namespace Go.Proofs.Ytpmeocgmlchjaaa
open Go.RowKit

def padsTo (N : Nat) (ts : List Int) (b : Int) : Nat → List Int
  | 0 => List.replicate N 0
  | k + 1 => (padsTo N ts b k).set (ts[k]?.getD 0).toNat (bits .and .i64 (b / 2 ^ k) 1)
def tiles (d : Dev) : Nat := (d.W * d.H).toNat
def padsFor (d : Dev) (ts : List Int) (b : Int) : List Int :=
  if devOk d = true ∧ ts.length ≤ 40 ∧ ∀ j, j < ts.length → inR (ts[j]?.getD 0) 0 ((tiles d : Int) - 1) = true then padsTo (tiles d) ts b ts.length else []
theorem padsTo_length (N : Nat) (ts : List Int) (b : Int) (k : Nat) : (padsTo N ts b k).length = N := by
  induction k with
  | zero => simp [padsTo]
  | succ k ih => simp [padsTo, ih]
theorem padsFor_le (d : Dev) (ts : List Int) (b : Int) : (padsFor d ts b).length ≤ 36 := by
  unfold padsFor
  split
  · rename_i h
    rw [padsTo_length]
    have h1 := devOk_bd h.1
    have h2 := Int.mul_le_mul h1.2.1 h1.2.2.2.1 (by omega) (by omega)
    unfold tiles
    omega
  · simp
theorem tiles_eq {d : Dev} (h : devOk d = true) : d.W * d.H = (tiles d : Int) ∧ 9 ≤ tiles d ∧ tiles d ≤ 36 := by
  obtain ⟨h1, h2, h3, h4, _⟩ := devOk_bd h
  have a : 9 ≤ d.W * d.H := by
    have := Int.mul_le_mul h1 h3 (by omega) (by omega)
    omega
  have b : d.W * d.H ≤ 36 := by
    have := Int.mul_le_mul h2 h4 (by omega) (by omega)
    omega
  unfold tiles
  omega

set_option maxHeartbeats 1000000 in
theorem padsFor_any (d : Dev) (A : Option Addr) (n c : Nat) (ts : List Int) (b : Int) (w : World) (hA : Ints w A n ts) (hn : n ≤ 16777216) :
    Calls Try.prog 29 #[.agg #[.int .i64 d.W, .int .i64 d.H, .int .i64 d.T, .int .i64 d.R], .slice A n c, .int .i64 b] w fun e w' => ∃ A' m c', e = .returned (.slice A' m c') ∧ Own w.heap.size w' A' m c' (padsFor d ts b) ∧ Below w.heap.size w w' := by
  have HI := Lib.hid hA
  have hX := hA.1
  have HX := Lib.hid hX
  clear hA hX
  go_enter Try.func29, Try.ntmps29
  go_wp2_with fail
  refine (deviceOk_any d _).mono ?_
  rintro e w1 ⟨rfl, b1⟩
  have hs1 := b1.size
  simp only [World.size_alloc] at hs1
  obtain ⟨hcc, hff⟩ := bcell b1
  have B1 := Lib.hid (below_tr (below_new (Below.refl _ _) _) b1)
  clear b1
  cases hd : devOk d with
  | false =>
    have HD := Lib.hid hd
    clear hd
    go_wp2_with fail
    go_ret
    exact ⟨none, 0, 0, rfl, by rw [padsFor, if_neg (by simp [HD.out])]; exact Own.nil, B1.out⟩
  | true =>
    obtain ⟨hN, hN1, hN2⟩ := tiles_eq hd
    have HD := Lib.hid hd
    clear hd
    by_cases h40 : n ≤ 40
    · have d40 : decide ((n : Int) > 40) = false := by simp; omega
      obtain ⟨i0, hi, hz0, hz1, hz2⟩ := info_parts int_info
      have hmk := fun W => run_make_rowN (P := Try.prog) 32 3 i0 _ Try.underlying32 hi hz0 .i64 .i64 (tiles d) (tiles d) (Nat.le_refl _) (by rw [hz2]; omega) (by omega) W
      rw [hz1, Nat.mul_one, show (Value.int .i64 0).cells = #[Value.int .i64 0] from rfl, arr_made] at hmk
      clear hi hz0 hz1 hz2
      go_wp2_with fail
      have hI := HI.out.below B1.out
      obtain ⟨_, hA⟩ := hI
      generalize hT : tiles d = N at *
      have HT := Lib.hid hT
      clear hT hN hcc hff hmk
      go_loopw [26] (fun i wr => ∃ k : Nat, k ≤ n ∧ i = .int .i64 k ∧ wr = w1.alloc (.cells (arr (padsTo N ts b k)) 3) ∧ ∀ j, j < k → inR (ts[j]?.getD 0) 0 ((N : Int) - 1) = true) (fun i _ => n - (intOf i).toNat)
      case atStart => exact ⟨0, Nat.zero_le _, rfl, rfl, by intro j hj; omega⟩
      case round =>
        obtain ⟨k, hk, rfl, rfl, hall⟩ := hrel
        have HALL := Lib.hid hall
        clear hall
        by_cases hlt : k < n
        · obtain ⟨bb, o, rfl, hb, hc⟩ := hA (by omega)
          have hck := hc k hlt
          have hs := padsTo.eq_2 N ts b k
          have HS := Lib.hid hs
          have HR : Hid (inR (ts[k]?.getD 0) 0 ((N : Int) - 1) = true → ∀ j, j < k + 1 → inR (ts[j]?.getD 0) 0 ((N : Int) - 1) = true) := by
            intro h j hj
            rcases Nat.lt_or_ge j k with h1 | h1
            · exact HALL.out j h1
            · obtain rfl : j = k := by omega
              exact h
          have HF : Hid (inR (ts[k]?.getD 0) 0 ((N : Int) - 1) = false → padsFor d ts b = []) := by
            intro h
            rw [padsFor, if_neg]
            rintro ⟨_, _, h3⟩
            have := h3 k (by rw [HX.out]; exact hlt)
            rw [HT.out, h] at this
            cases this
          clear hc hs
          have hl := padsTo_length N ts b k
          have HL := Lib.hid hl
          generalize padsTo N ts b k = ps at *
          generalize ts[k]?.getD 0 = t at *
          by_cases ht : inR t 0 ((N : Int) - 1) = true
          · have htb := inR_iff.1 ht
            have hlt' : t.toNat < ps.length := by omega
            have hg := arr_get hlt'
            have hz : t.toNat < (arr ps).size := by rw [arr_size]; exact hlt'
            have hi0 : (0 : Int) ≤ (k : Int) := by omega
            have hi1 : (k : Int) ≤ 63 := by omega
            clear hl
            go_wp2_with (go_at_call 56; refine (inRange_any _ _ _ _).mono ?_; rintro e w' ⟨rfl, rfl⟩)
            go_roundw
            case rel => exact ⟨k + 1, by omega, by go_num, by rw [arr_set, HS.out], HR.out ht⟩
            case measure => simp [intOf]; omega
          · have htf := Bool.not_eq_true _ ▸ ht
            clear hl
            go_wp2_with (go_at_call 56; refine (inRange_any _ _ _ _).mono ?_; rintro e w' ⟨rfl, rfl⟩)
            go_ret
            exact ⟨none, 0, 0, rfl, by rw [HF.out htf]; exact Own.nil, below_new B1.out _⟩
        · have hkn : k = n := by omega
          subst hkn
          go_wp2
          go_ret
          refine ⟨_, _, _, rfl, ?_, below_new B1.out _⟩
          rw [padsFor, if_pos ⟨HD.out, by rw [HX.out]; exact h40, by rw [HX.out, HT.out]; exact HALL.out⟩, HX.out, HT.out]
          exact Own.arr (heap_new _ _) (by omega) (by unfold maxLen; omega) (padsTo_length _ _ _ _)
    · have d40 : decide ((n : Int) > 40) = true := by simp; omega
      clear hN
      go_wp2_with fail
      go_ret
      exact ⟨none, 0, 0, rfl, by rw [padsFor, if_neg (by simp only [HX.out]; omega)]; exact Own.nil, B1.out⟩
set_option maxHeartbeats 1000000 in
theorem spadsFor_any (d : Dev) (A : Option Addr) (n c : Nat) (ts : List Int) (b : Int) (w : World) (hA : Ints w A n ts) (hn : n ≤ 16777216) :
    Calls Try.prog 30 #[.agg #[.int .i64 d.W, .int .i64 d.H, .int .i64 d.T, .int .i64 d.R], .slice A n c, .int .i64 b] w fun e w' => ∃ A' m c', e = .returned (.slice A' m c') ∧ Own w.heap.size w' A' m c' (padsFor d ts b) ∧ Below w.heap.size w w' := by
  have HI := Lib.hid hA
  have hX := hA.1
  have HX := Lib.hid hX
  clear hA hX
  go_enter Try.func30, Try.ntmps30
  go_wp2_with fail
  refine (sdeviceOk_any d _).mono ?_
  rintro e w1 ⟨rfl, b1⟩
  have hs1 := b1.size
  simp only [World.size_alloc] at hs1
  obtain ⟨hcc, hff⟩ := bcell b1
  have B1 := Lib.hid (below_tr (below_new (Below.refl _ _) _) b1)
  clear b1
  cases hd : devOk d with
  | false =>
    have HD := Lib.hid hd
    clear hd
    go_wp2_with fail
    go_ret
    exact ⟨_, 0, 0, rfl, by rw [padsFor, if_neg (by simp [HD.out])]; exact Own.new0 (by omega), below_new B1.out _⟩
  | true =>
    obtain ⟨hN, hN1, hN2⟩ := tiles_eq hd
    have HD := Lib.hid hd
    clear hd
    by_cases h40 : n ≤ 40
    · have d40 : decide ((n : Int) > 40) = false := by simp; omega
      obtain ⟨i0, hi, hz0, hz1, hz2⟩ := info_parts int_info
      have hmk := fun W => run_make_rowN (P := Try.prog) 32 3 i0 _ Try.underlying32 hi hz0 .i64 .i64 (tiles d) (tiles d) (Nat.le_refl _) (by rw [hz2]; omega) (by omega) W
      rw [hz1, Nat.mul_one, show (Value.int .i64 0).cells = #[Value.int .i64 0] from rfl, arr_made] at hmk
      clear hi hz0 hz1 hz2
      go_wp2_with fail
      have hI := HI.out.below B1.out
      obtain ⟨_, hA⟩ := hI
      generalize hT : tiles d = N at *
      have HT := Lib.hid hT
      clear hT hN hcc hff hmk
      go_loopw [8] (fun i wr => ∃ k nq : Nat, k ≤ n ∧ i = .int .i64 k ∧ wr = (w1.alloc (.cells (arr (padsTo N ts b k)) 3)).drewN nq ∧ ∀ j, j < k → inR (ts[j]?.getD 0) 0 ((N : Int) - 1) = true) (fun i _ => n - (intOf i).toNat)
      case atStart => exact ⟨0, 0, Nat.zero_le _, rfl, rfl, by intro j hj; omega⟩
      case round =>
        obtain ⟨k, nq, hk, rfl, rfl, hall⟩ := hrel
        have HALL := Lib.hid hall
        clear hall
        by_cases hlt : k < n
        · obtain ⟨bb, o, rfl, hb, hc⟩ := hA (by omega)
          have hck := hc k hlt
          have hs := padsTo.eq_2 N ts b k
          have HS := Lib.hid hs
          have HR : Hid (inR (ts[k]?.getD 0) 0 ((N : Int) - 1) = true → ∀ j, j < k + 1 → inR (ts[j]?.getD 0) 0 ((N : Int) - 1) = true) := by
            intro h j hj
            rcases Nat.lt_or_ge j k with h1 | h1
            · exact HALL.out j h1
            · obtain rfl : j = k := by omega
              exact h
          have HF : Hid (inR (ts[k]?.getD 0) 0 ((N : Int) - 1) = false → padsFor d ts b = []) := by
            intro h
            rw [padsFor, if_neg]
            rintro ⟨_, _, h3⟩
            have := h3 k (by rw [HX.out]; exact hlt)
            rw [HT.out, h] at this
            cases this
          clear hc hs
          have hl := padsTo_length N ts b k
          have HL := Lib.hid hl
          generalize padsTo N ts b k = ps at *
          generalize ts[k]?.getD 0 = t at *
          by_cases ht : inR t 0 ((N : Int) - 1) = true
          · have htb := inR_iff.1 ht
            have hlt' : t.toNat < ps.length := by omega
            have hg := arr_get hlt'
            have hz : t.toNat < (arr ps).size := by rw [arr_size]; exact hlt'
            have hi0 : (0 : Int) ≤ (k : Int) := by omega
            have hi1 : (k : Int) ≤ 63 := by omega
            clear hl
            go_wp2_with fail
            go_region
            go_wp2_with fail
            go_roundw
            case rel => exact ⟨k + 1, _, by omega, by go_num, by rw [store_alloc_drewN, arr_set, HS.out], HR.out ht⟩
            case measure => simp [intOf]; omega
          · have htf := Bool.not_eq_true _ ▸ ht
            clear hl
            rcases inR_false.1 htf with h | h
            · have hd : decide (t < 0) = true := by simp; omega
              go_wp2_with fail
              go_ret
              exact ⟨_, 0, 0, rfl, by rw [HF.out htf]; exact Own.newAt (by simp) (by omega), below_new (below_drewN (below_new B1.out _) _) _⟩
            · have hd : decide (t < 0) = false := by simp; omega
              have hd' : decide (t ≥ (N : Int)) = true := by simp; omega
              go_wp2_with fail
              go_ret
              exact ⟨_, 0, 0, rfl, by rw [HF.out htf]; exact Own.newAt (by simp) (by omega), below_new (below_drewN (below_new B1.out _) _) _⟩
        · have hkn : k = n := by omega
          subst hkn
          go_wp2
          go_ret
          refine ⟨_, _, _, rfl, ?_, below_drewN (below_new B1.out _) _⟩
          rw [padsFor, if_pos ⟨HD.out, by rw [HX.out]; exact h40, by rw [HX.out, HT.out]; exact HALL.out⟩, HX.out, HT.out]
          exact Own.arr (w := (w1.alloc _).drewN _) (heap_new _ _) (by omega) (by unfold maxLen; omega) (padsTo_length _ _ _ _)
    · have d40 : decide ((n : Int) > 40) = true := by simp; omega
      clear hN
      go_wp2_with fail
      go_ret
      exact ⟨_, 0, 0, rfl, by rw [padsFor, if_neg (by simp only [HX.out]; omega)]; exact Own.new0 (by omega), below_new B1.out _⟩
end Go.Proofs.Ytpmeocgmlchjaaa
