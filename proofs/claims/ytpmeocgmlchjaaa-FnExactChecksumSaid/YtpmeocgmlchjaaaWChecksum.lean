/- The walk of the law FnExactChecksum (printed by gen.py). -/
import Derived.Test.YtpmeocgmlchjaaaCsum
import Derived.Test.YtpmeocgmlchjaaaOpen
namespace Go.Proofs.Ytpmeocgmlchjaaa
open Go.RowKit
set_option maxHeartbeats 400000 in
theorem law_checksum (A0 : Option Addr) (n0 c0 : Nat) (x0 : List Int) (w : World) (h0 : Ints w A0 n0 x0) (m0 : n0 ≤ maxLen) (_hw0 : ∀ y ∈ x0, Wf y) :
    Calls Try.prog 5 #[.slice A0 n0 c0] w fun e w' => e = .returned (.bool true) ∧ Below w.heap.size w w' := by
  unfold maxLen at *
  by_cases g0 : n0 ≤ 1048576
  · have d0 : decide ((n0 : Int) > 1048576) = false := by simp; omega
    go_enter Try.func5, Try.ntmps5
    have hB : Below w.heap.size w w := Below.refl _ _
    go_wp2_with fail
    refine (toIntS_any A0 n0 c0 x0 _ (h0.below hB) (by omega)).mono ?_
    rintro e w1 ⟨Bs0, rfl, os0, b1⟩
    have s1 := b1.size
    replace hB := below_tr hB b1
    have l_os0 := os0.lies
    go_wp2_with fail
    refine (schecksum_any Bs0 n0 n0 x0 _ (os0.rd) (by omega)).mono ?_
    rintro e w2 ⟨rfl, b2⟩
    have s2 := b2.size
    replace os0 := os0.below b2
    replace hB := below_tr hB b2
    go_wp2_with fail
    refine (toIntS_any A0 n0 c0 x0 _ (h0.below hB) (by omega)).mono ?_
    rintro e w3 ⟨Bx0, rfl, ox0, b3⟩
    have s3 := b3.size
    replace os0 := os0.below b3
    replace hB := below_tr hB b3
    have l_ox0 := ox0.lies
    go_wp2_with fail
    refine (checksum_any Bx0 n0 n0 x0 _ (ox0.rd) (by omega)).mono ?_
    rintro e w4 ⟨rfl, b4⟩
    have s4 := b4.size
    replace os0 := os0.below b4
    replace ox0 := ox0.below b4
    replace hB := below_tr hB b4
    go_wp2_with fail
    refine (toIntS_any A0 n0 c0 x0 _ (h0.below hB) (by omega)).mono ?_
    rintro e w5 ⟨By00, rfl, oy00, b5⟩
    have s5 := b5.size
    replace os0 := os0.below b5
    replace ox0 := ox0.below b5
    replace hB := below_tr hB b5
    have l_oy00 := oy00.lies
    go_wp2_with fail
    refine (eqIntS_same Bx0 By00 n0 n0 n0 n0 x0 _ ox0.rd oy00.rd (by omega)).mono ?_
    rintro e w6 ⟨rfl, b6⟩
    have s6 := b6.size
    replace os0 := os0.below b6
    replace ox0 := ox0.below b6
    replace oy00 := oy00.below b6
    replace hB := below_tr hB b6
    go_wp2_with fail
    go_ret
    exact ⟨rfl, hB⟩
  · have d0 : decide ((n0 : Int) > 1048576) = true := by simp; omega
    go_enter Try.func5, Try.ntmps5
    go_wp2_with fail
    go_ret
    exact ⟨rfl, Below.refl _ _⟩
end Go.Proofs.Ytpmeocgmlchjaaa
