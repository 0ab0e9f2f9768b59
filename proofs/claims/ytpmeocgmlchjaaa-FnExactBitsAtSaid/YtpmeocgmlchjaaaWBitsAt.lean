/- The walk of the law FnExactBitsAt. -/
import Derived.Test.YtpmeocgmlchjaaaBitsAt
import Derived.Test.YtpmeocgmlchjaaaOpen
namespace Go.Proofs.Ytpmeocgmlchjaaa
open Go.RowKit

set_option maxHeartbeats 1000000 in
theorem law_bitsAt (A : Option Addr) (n c : Nat) (xs : List Int) (B : Option Addr) (m d : Nat) (ys : List Int) (w : World) (hA : Ints w A n xs) (hn : n ≤ maxLen) (_ : ∀ x ∈ xs, Wf x) (hB : Ints w B m ys) (hm : m ≤ maxLen) (_ : ∀ x ∈ ys, Wf x) :
    Calls Try.prog 4 #[.slice A n c, .slice B m d] w fun e w' => e = .returned (.bool true) ∧ Below w.heap.size w w' := by
  unfold maxLen at hn hm
  by_cases h1 : n ≤ 1048576
  · by_cases h2 : m ≤ 1048576
    · have d1 : decide ((n : Int) > 1048576) = false := by simp; omega
      have d2 : decide ((m : Int) > 1048576) = false := by simp; omega
      go_enter Try.func4, Try.ntmps4
      go_wp2_with fail
      refine (toIntS_any A n c xs _ hA (by omega)).mono ?_
      rintro e w1 ⟨A1, rfl, o1, b1⟩
      go_wp2_with fail
      refine (toIntS_any B m d ys _ (hB.below b1) (by omega)).mono ?_
      rintro e w2 ⟨A2, rfl, o2, b2⟩
      go_wp2_with fail
      refine (sbitsAt_any A1 A2 n m n m xs ys _ (o1.ints.below b2) o2.ints (by omega) (by omega)).mono ?_
      rintro e w3 ⟨rfl, b3⟩
      have B3 := below_tr (below_tr b1 b2) b3
      go_wp2_with fail
      refine (toIntS_any A n c xs _ (hA.below B3) (by omega)).mono ?_
      rintro e w4 ⟨A4, rfl, o4, b4⟩
      go_wp2_with fail
      refine (toIntS_any B m d ys _ (hB.below (below_tr B3 b4)) (by omega)).mono ?_
      rintro e w5 ⟨A5, rfl, o5, b5⟩
      go_wp2_with fail
      refine (bitsAt_any A4 A5 n m n m xs ys _ (o4.ints.below b5) o5.ints (by omega) (by omega)).mono ?_
      rintro e w6 ⟨rfl, b6⟩
      have B6 := below_tr (below_tr (below_tr B3 b4) b5) b6
      go_wp2_with fail
      refine (toIntS_any A n c xs _ (hA.below B6) (by omega)).mono ?_
      rintro e w7 ⟨A7, rfl, o7, b7⟩
      go_wp2_with fail
      refine (eqIntS_any A4 A7 n n n n xs xs _ (o4.ints.below (below_tr (below_tr b5 b6) b7)) o7.ints (by omega)).mono ?_
      rintro e w8 ⟨rfl, b8⟩
      simp only [decide_true]
      have B8 := below_tr (below_tr B6 b7) b8
      go_wp2_with fail
      refine (toIntS_any B m d ys _ (hB.below B8) (by omega)).mono ?_
      rintro e w9 ⟨A9, rfl, o9, b9⟩
      go_wp2_with fail
      refine (eqIntS_any A5 A9 m m m m ys ys _ (o5.ints.below (below_tr (below_tr (below_tr b6 b7) b8) b9)) o9.ints (by omega)).mono ?_
      rintro e w10 ⟨rfl, b10⟩
      simp only [decide_true]
      go_wp2_with fail
      go_ret
      exact ⟨rfl, below_tr (below_tr B8 b9) b10⟩
    · have d1 : decide ((n : Int) > 1048576) = false := by simp; omega
      have d2 : decide ((m : Int) > 1048576) = true := by simp; omega
      go_enter Try.func4, Try.ntmps4
      go_wp2_with fail
      go_ret
      exact ⟨rfl, Below.refl _ _⟩
  · have d1 : decide ((n : Int) > 1048576) = true := by simp; omega
    go_enter Try.func4, Try.ntmps4
    go_wp2_with fail
    go_ret
    exact ⟨rfl, Below.refl _ _⟩
end Go.Proofs.Ytpmeocgmlchjaaa
