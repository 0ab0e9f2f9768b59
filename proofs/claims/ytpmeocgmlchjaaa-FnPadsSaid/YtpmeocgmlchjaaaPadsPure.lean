/- Bits that are applied to tiles can be read at these tiles; plain. -/
import Derived.Test.YtpmeocgmlchjaaaPads
import Derived.Test.YtpmeocgmlchjaaaBitsAt
import Derived.Test.YtpmeocgmlchjaaaCwFlip
import Derived.Test.YtpmeocgmlchjaaaCw
namespace Go.Proofs.Ytpmeocgmlchjaaa
open Go.RowKit Cw

def evTo (p : Nat → Bool) : Nat → List Int
  | 0 => []
  | k + 1 => if p k = true then evTo p k ++ [(k : Int)] else evTo p k
theorem evTo_len (p : Nat → Bool) (k : Nat) : (evTo p k).length ≤ k := by
  induction k with
  | zero => exact Nat.le_refl _
  | succ k ih =>
    rw [evTo]
    split
    · simp; omega
    · omega
theorem getD_snoc_lt {xs : List Int} {y : Int} {j : Nat} (h : j < xs.length) : (xs ++ [y])[j]?.getD 0 = xs[j]?.getD 0 := by
  rw [List.getElem?_append_left h]
theorem getD_snoc_eq {xs : List Int} {y : Int} : (xs ++ [y])[xs.length]?.getD 0 = y := by simp
theorem evTo_bd (p : Nat → Bool) (k : Nat) : ∀ j, j < (evTo p k).length → ∃ t : Nat, (evTo p k)[j]?.getD 0 = (t : Int) ∧ t < k := by
  induction k with
  | zero => intro j hj; simp [evTo] at hj
  | succ k ih =>
    intro j hj
    rw [evTo] at hj ⊢
    split
    · rename_i hp
      rw [if_pos hp] at hj
      simp only [List.length_append, List.length_cons, List.length_nil] at hj
      rcases Nat.lt_or_ge j (evTo p k).length with h | h
      · obtain ⟨t, e, ht⟩ := ih j h
        exact ⟨t, by rw [getD_snoc_lt h, e], by omega⟩
      · obtain rfl : j = (evTo p k).length := by omega
        exact ⟨k, getD_snoc_eq, by omega⟩
    · rename_i hp
      rw [if_neg hp] at hj
      obtain ⟨t, e, ht⟩ := ih j hj
      exact ⟨t, e, by omega⟩
theorem evTo_up (p : Nat → Bool) (k : Nat) : ∀ i j, i < j → j < (evTo p k).length → (evTo p k)[i]?.getD 0 < (evTo p k)[j]?.getD 0 := by
  induction k with
  | zero => intro i j _ hj; simp [evTo] at hj
  | succ k ih =>
    intro i j hij hj
    rw [evTo] at hj ⊢
    split
    · rename_i hp
      rw [if_pos hp] at hj
      simp only [List.length_append, List.length_cons, List.length_nil] at hj
      rcases Nat.lt_or_ge j (evTo p k).length with h | h
      · rw [getD_snoc_lt h, getD_snoc_lt (by omega)]
        exact ih i j hij h
      · obtain rfl : j = (evTo p k).length := by omega
        obtain ⟨t, e, ht⟩ := evTo_bd p k i hij
        rw [getD_snoc_eq, getD_snoc_lt hij, e]
        omega
    · rename_i hp
      rw [if_neg hp] at hj
      exact ih i j hij hj
theorem padsTo_get {N : Nat} {ts : List Int} {b : Int} (hr : ∀ j, j < ts.length → ∃ t : Nat, ts[j]?.getD 0 = (t : Int) ∧ t < N) (hu : ∀ i j, i < j → j < ts.length → ts[i]?.getD 0 < ts[j]?.getD 0) (k : Nat) (hk : k ≤ ts.length) :
    ∀ j, j < k → (padsTo N ts b k)[(ts[j]?.getD 0).toNat]?.getD 0 = bits .and .i64 (b / 2 ^ j) 1 := by
  induction k with
  | zero => intro j hj; omega
  | succ k ih =>
    intro j hj
    obtain ⟨t, e, ht⟩ := hr k (by omega)
    rw [padsTo, e]
    rcases Nat.lt_or_ge j k with h | h
    · have := hu j k h (by omega)
      obtain ⟨s, e', hs⟩ := hr j (by omega)
      rw [e, e'] at this
      rw [List.getElem?_set_ne (by rw [e']; simp; omega)]
      exact ih (by omega) j h
    · obtain rfl : j = k := by omega
      rw [e, Int.toNat_natCast, List.getElem?_set_self (by rw [padsTo_length]; exact ht)]
      rfl
theorem bitsTo_mod {o ts : List Int} {X : Nat} (h : ∀ j, j < ts.length → hitAt o (ts[j]?.getD 0) = decide (bit X j = 1)) (k : Nat) (hk : k ≤ ts.length) : bitsTo o ts k = ((X % 2 ^ k : Nat) : Int) := by
  induction k with
  | zero => simp [bitsTo, Nat.mod_one]
  | succ k ih =>
    rw [bitsTo, ih (by omega), h k (by omega), mod_pow_succ']
    have hb := bit_le X k
    by_cases h1 : bit X k = 1
    · simp [h1]
    · have h0 : bit X k = 0 := by omega
      simp [h0]
theorem pads_law {d : Dev} (hd : devOk d = true) (p : Nat → Bool) (X : Nat) (hX : X < 65536) :
    (padsFor d (evTo p (tiles d)) (X : Int)).length = tiles d ∧ bitsAt (padsFor d (evTo p (tiles d)) (X : Int)) (evTo p (tiles d)) = ((X % 2 ^ (evTo p (tiles d)).length : Nat) : Int) := by
  obtain ⟨_, h9, h36⟩ := tiles_eq hd
  have hl := evTo_len p (tiles d)
  have hb := evTo_bd p (tiles d)
  have hu := evTo_up p (tiles d)
  generalize evTo p (tiles d) = ts at *
  have e : padsFor d ts (X : Int) = padsTo (tiles d) ts X ts.length := by
    rw [padsFor, if_pos ⟨hd, by omega, fun j hj => by obtain ⟨t, e, ht⟩ := hb j hj; rw [e]; exact inR_iff.2 ⟨by omega, by omega⟩⟩]
  rw [e]
  refine ⟨padsTo_length _ _ _ _, ?_⟩
  rw [bitsAt, if_pos (by omega)]
  refine bitsTo_mod (fun j hj => ?_) _ (Nat.le_refl _)
  obtain ⟨t, e', ht⟩ := hb j hj
  have hg := padsTo_get (b := (X : Int)) hb hu ts.length (Nat.le_refl _) j hj
  rw [e', Int.toNat_natCast] at hg
  rw [e', hitAt, padsTo_length, Int.toNat_natCast, hg, shr_bit X j (by omega)]
  have hb1 := bit_le X j
  rcases (by omega : bit X j = 0 ∨ bit X j = 1) with h0 | h0 <;> simp [h0, ht]
end Go.Proofs.Ytpmeocgmlchjaaa
