/- The laws' own comparing of rows and of rows of rows. -/
import Derived.Test.YtbnfdhidgdfbeaaRow2W
namespace Go.Proofs.Ytbnfdhidgdfbeaa
set_option maxRecDepth 100000
open Go.RowKit

set_option maxHeartbeats 400000 in
theorem sameInts_any (A B : Option Addr) (n m c d : Nat) (xs ys : List Int) (w : World) (hA : Ints w A n xs) (hB : Ints w B m ys) (hn : n ≤ 1099511627776) :
    Calls Try.prog 40 #[.slice A n c, .slice B m d] w fun e w' => e = .returned (.bool (decide (xs = ys))) ∧ Below w.heap.size w w' := by
  obtain ⟨hx, hA⟩ := hA
  obtain ⟨hy, hB⟩ := hB
  by_cases hnm : n = m
  · subst hnm
    have HX := Lib.hid hx
    have HY := Lib.hid hy
    clear hx hy
    go_enter Try.func40, Try.ntmps40
    go_wp2_with fail
    go_loopw [5] (fun i wr => ∃ k nq : Nat, k ≤ n ∧ i = .int .i64 k ∧ wr = w.drewN nq ∧ xs.take k = ys.take k) (fun i _ => n - (intOf i).toNat)
    case atStart => exact ⟨0, 0, Nat.zero_le _, rfl, rfl, rfl⟩
    case round =>
      obtain ⟨k, nq, hk, rfl, rfl, ht⟩ := hrel
      have HT := Lib.hid ht
      clear ht
      by_cases hlt : k < n
      · obtain ⟨b, o, rfl, hb, hc⟩ := hA (by omega)
        obtain ⟨b', o', rfl, hb', hc'⟩ := hB (by omega)
        have hck := hc k hlt
        have hck' := hc' k hlt
        have hi0 : (0 : Int) ≤ (k : Int) := by omega
        have hi1 : (k : Int) < (n : Int) := by omega
        clear hc hc'
        go_wp2
        go_quiet (fail)
        go_wp2
        · have hne : xs[k]?.getD 0 ≠ ys[k]?.getD 0 := bne_iff_ne.1 (by assumption)
          go_ret
          exact ⟨ret_bool (by
            have : xs ≠ ys := by rintro rfl; exact hne rfl
            simp [this]), below_drewN (below_drewN (Below.refl _ _) _) _⟩
        · have he : xs[k]?.getD 0 = ys[k]?.getD 0 := by simpa using ‹(xs[k]?.getD 0 != ys[k]?.getD 0) = false›
          go_roundw
          case rel => exact ⟨k + 1, _, by omega, by go_num, rfl, take_succ_eq HT.out (by rw [HX.out]; exact hlt) (by rw [HY.out]; exact hlt) he⟩
          case measure => simp [intOf]; omega
      · have hkn : k = n := by omega
        subst hkn
        go_wp2
        go_ret
        exact ⟨ret_bool (by
          have := HT.out
          rw [List.take_of_length_le (by rw [HX.out]; exact Nat.le_refl _), List.take_of_length_le (by rw [HY.out]; exact Nat.le_refl _)] at this
          simp [this]), below_drewN (Below.refl _ _) _⟩
  · have hne : ((n : Int) == (m : Int)) = false := by simp; omega
    have hne' : ((n : Int) != (m : Int)) = true := by simp; omega
    go_enter Try.func40, Try.ntmps40
    go_wp2_with fail
    go_ret
    exact ⟨ret_bool (by
      have : xs ≠ ys := by rintro rfl; omega
      simp [this]), Below.refl _ _⟩

theorem takeR_succ {xss yss : List (List Int)} {k : Nat} (h : xss.take k = yss.take k) (hx : k < xss.length) (hy : k < yss.length) (he : xss[k]?.getD [] = yss[k]?.getD []) : xss.take (k + 1) = yss.take (k + 1) := by
  rw [List.take_succ_eq_append_getElem hx, List.take_succ_eq_append_getElem hy, h]
  simp [hx, hy] at he
  rw [he]
set_option maxHeartbeats 1000000 in
theorem sameRows_any (A B : Option Addr) (n m c d : Nat) (xss yss : List (List Int)) (w : World) (hA : Rows2 w A n xss) (hB : Rows2 w B m yss) (hz : size2 xss ≤ 1099511627776) :
    Calls Try.prog 24 #[.slice A n c, .slice B m d] w fun e w' => e = .returned (.bool (decide (xss = yss))) ∧ Below w.heap.size w w' := by
  obtain ⟨hx, hA⟩ := hA
  obtain ⟨hy, hB⟩ := hB
  obtain ⟨hn, hrow⟩ : n ≤ 1099511627776 ∧ ∀ j : Nat, (xss[j]?.getD []).length ≤ 1099511627776 := size2_bd hx hz
  by_cases hnm : n = m
  · subst hnm
    have HX := Lib.hid hx
    have HY := Lib.hid hy
    have HR := Lib.hid hrow
    clear hx hy hrow
    go_enter Try.func24, Try.ntmps24
    go_wp2_with fail
    go_loopw [5] (fun i wr => ∃ k : Nat, k ≤ n ∧ i = .int .i64 k ∧ Below w.heap.size w wr ∧ xss.take k = yss.take k) (fun i _ => n - (intOf i).toNat)
    case atStart => exact ⟨0, Nat.zero_le _, rfl, Below.refl _ _, rfl⟩
    case round =>
      obtain ⟨k, hk, rfl, hbe, ht⟩ := hrel
      have HT := Lib.hid ht
      clear ht
      by_cases hlt : k < n
      · obtain ⟨b, o, rfl, hb, hc⟩ := hA (by omega)
        obtain ⟨b', o', rfl, hb', hc'⟩ := hB (by omega)
        obtain ⟨A1, m1, c1, hck, hI1⟩ := hc k hlt
        obtain ⟨A2, m2, c2, hck', hI2⟩ := hc' k hlt
        rw [← hbe.cell (p := ⟨b, o + k, none⟩) hb] at hck
        rw [← hbe.cell (p := ⟨b', o' + k, none⟩) hb'] at hck'
        have J1 := Lib.hid (hI1.below hbe).drewd
        have J2 := Lib.hid (hI2.below hbe).drewd
        have hm1 : m1 ≤ 1099511627776 := by have := HR.out k; have := hI1.1; omega
        have hi0 : (0 : Int) ≤ (k : Int) := by omega
        have hi1 : (k : Int) < (n : Int) := by omega
        have HE := Lib.hid hbe.drew
        clear hc hc' hI1 hI2 hbe
        cases hq : decide (xss[k]?.getD [] = yss[k]?.getD []) with
        | true =>
          have HQ := Lib.hid (of_decide_eq_true hq)
          have HCL : Hid (∀ w' : World, Ints w' A1 m1 (xss[k]?.getD []) → Ints w' A2 m2 (yss[k]?.getD []) → Calls Try.prog 40 #[.slice A1 m1 c1, .slice A2 m2 c2] w' fun e w'' => e = .returned (.bool true) ∧ Below w'.heap.size w' w'') := fun w' h1 h2 => by
            have h := sameInts_any A1 A2 m1 m2 c1 c2 _ _ w' h1 h2 hm1
            rwa [hq] at h
          clear hq
          go_wp2_with fail
          go_region_held3 (fun w' => w'.cell? ⟨b, o + k, none⟩ = some (.slice A1 m1 c1) ∧ w'.cell? ⟨b', o' + k, none⟩ = some (.slice A2 m2 c2) ∧ Below w.heap.size w w')
            (first | exact ⟨hck, hck', HE.out⟩ | exact ⟨(b3.cell (p := ⟨b, o + k, none⟩) (Nat.lt_of_lt_of_le hb HE.out.size)).trans hck, (b3.cell (p := ⟨b', o' + k, none⟩) (Nat.lt_of_lt_of_le hb' HE.out.size)).trans hck', below_tr HE.out b3⟩)
            (first | (go_at_call 40; refine (HCL.out _ J1.out J2.out).mono ?_; rintro e w3 ⟨rfl, b3⟩))
          rename_i hH
          obtain ⟨_, _, hE3⟩ := hH
          go_wp2_with fail
          go_roundw
          case rel => exact ⟨k + 1, by omega, by go_num, hE3, takeR_succ HT.out (by rw [HX.out]; exact hlt) (by rw [HY.out]; exact hlt) HQ.out⟩
          case measure => simp [intOf]; omega
        | false =>
          have HQ := Lib.hid (of_decide_eq_false hq)
          have HCL : Hid (∀ w' : World, Ints w' A1 m1 (xss[k]?.getD []) → Ints w' A2 m2 (yss[k]?.getD []) → Calls Try.prog 40 #[.slice A1 m1 c1, .slice A2 m2 c2] w' fun e w'' => e = .returned (.bool false) ∧ Below w'.heap.size w' w'') := fun w' h1 h2 => by
            have h := sameInts_any A1 A2 m1 m2 c1 c2 _ _ w' h1 h2 hm1
            rwa [hq] at h
          clear hq
          go_wp2_with fail
          go_region_held3 (fun w' => w'.cell? ⟨b, o + k, none⟩ = some (.slice A1 m1 c1) ∧ w'.cell? ⟨b', o' + k, none⟩ = some (.slice A2 m2 c2) ∧ Below w.heap.size w w')
            (first | exact ⟨hck, hck', HE.out⟩ | exact ⟨(b3.cell (p := ⟨b, o + k, none⟩) (Nat.lt_of_lt_of_le hb HE.out.size)).trans hck, (b3.cell (p := ⟨b', o' + k, none⟩) (Nat.lt_of_lt_of_le hb' HE.out.size)).trans hck', below_tr HE.out b3⟩)
            (first | (go_at_call 40; refine (HCL.out _ J1.out J2.out).mono ?_; rintro e w3 ⟨rfl, b3⟩))
          rename_i hH
          obtain ⟨_, _, hE3⟩ := hH
          go_wp2_with fail
          go_ret
          exact ⟨ret_bool (decide_eq_false (by rintro rfl; exact HQ.out rfl)).symm, hE3⟩
      · have hkn : k = n := by omega
        subst hkn
        go_wp2_with fail
        go_ret
        exact ⟨ret_bool (decide_eq_true (by
          have := HT.out
          rwa [List.take_of_length_le (by rw [HX.out]; exact Nat.le_refl _), List.take_of_length_le (by rw [HY.out]; exact Nat.le_refl _)] at this)).symm, hbe⟩
  · have hne : ((n : Int) == (m : Int)) = false := by simp; omega
    have hne' : ((n : Int) != (m : Int)) = true := by simp; omega
    go_enter Try.func24, Try.ntmps24
    go_wp2_with fail
    go_ret
    exact ⟨ret_bool (decide_eq_false (by rintro rfl; omega)).symm, Below.refl _ _⟩
end Go.Proofs.Ytbnfdhidgdfbeaa
