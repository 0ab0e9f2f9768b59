/- The walk of the law FnExactDriverOf (printed by gen.py). -/
import Derived.Test.YtdnpdfjlmejpkaaDrvS
import Derived.Test.YtdnpdfjlmejpkaaOpen
namespace Go.Proofs.Ytdnpdfjlmejpkaa
set_option maxRecDepth 100000
open Go.RowKit
set_option maxHeartbeats 400000 in
theorem law_driverOf (a0 : Dev) (A1 : Option Addr) (n1 c1 : Nat) (x1 : List (List Int)) (a2 : Int) (w : World) (_hw0 : a0.wf) (h1 : Rows2 w A1 n1 x1) (m1 : n1 ≤ maxLen) (_hw1 : ∀ ys ∈ x1, ys.length ≤ maxLen ∧ ∀ y ∈ ys, Wf y) (_hw2 : Wf a2) :
    Calls Try.prog 11 #[.agg #[.int .i64 a0.W, .int .i64 a0.H, .int .i64 a0.T, .int .i64 a0.R], .slice A1 n1 c1, .int .i64 a2] w fun e w' => e = .returned (.bool true) ∧ Below w.heap.size w w' := by
  unfold maxLen at *
  go_enter Try.func11, Try.ntmps11
  have hB : Below w.heap.size w (w.alloc (.cells #[.int .i64 a0.W, .int .i64 a0.H, .int .i64 a0.T, .int .i64 a0.R] 23)) := (below_new (Below.refl _ _) _)
  have hD : Below (w.alloc (.cells #[.int .i64 a0.W, .int .i64 a0.H, .int .i64 a0.T, .int .i64 a0.R] 23)).heap.size (w.alloc (.cells #[.int .i64 a0.W, .int .i64 a0.H, .int .i64 a0.T, .int .i64 a0.R] 23)) (w.alloc (.cells #[.int .i64 a0.W, .int .i64 a0.H, .int .i64 a0.T, .int .i64 a0.R] 23)) := Below.refl _ _
  have hs0 : w.heap.size ≤ (w.alloc (.cells #[.int .i64 a0.W, .int .i64 a0.H, .int .i64 a0.T, .int .i64 a0.R] 23)).heap.size := hB.size
  go_wp2_with fail
  obtain ⟨hcc, hff⟩ := bcell hD
  have hr1 := rows_len _hw1
  clear _hw1
  refine (szIntSS_any A1 n1 c1 x1 (1048576) _ (h1.below hB) (by omega) (by omega) (by omega) hr1).mono ?_
  rintro e w' ⟨rfl, rfl⟩
  by_cases g1 : (size2 x1 : Int) ≤ 1048576
  rotate_left
  · rw [leftOf_neg g1]
    go_wp2_with fail
    go_ret
    exact ⟨rfl, hB⟩
  rw [leftOf_pos g1]
  have bd1 : size2 x1 ≤ 16777216 := by omega
  have be1 : size2 x1 ≤ 1099511627776 := by omega
  have bn1 := (size2_bd h1.1 be1).1
  go_wp2_with fail
  clear hcc hff
  refine (toDevice_any a0 _ ).mono ?_
  rintro e w1 ⟨rfl, b1⟩
  have s1 : (w.alloc (.cells #[.int .i64 a0.W, .int .i64 a0.H, .int .i64 a0.T, .int .i64 a0.R] 23)).heap.size ≤ w1.heap.size := b1.size
  replace hB := below_tr hB b1
  replace hD := below_tr hD b1
  obtain ⟨hcc, hff⟩ := bcell hD
  go_wp2_with fail
  clear hcc hff
  refine (toIntSS_any A1 n1 c1 x1 _ (h1.below hB) bd1).mono ?_
  rintro e w2 ⟨Bs1, rfl, os1, b2⟩
  have s2 : w1.heap.size ≤ w2.heap.size := b2.size
  replace hB := below_tr hB b2
  replace hD := below_tr hD b2
  replace os1 : Own2 w1.heap.size w2.heap.size w2 Bs1 _ _ _ := os1
  obtain ⟨hcc, hff⟩ := bcell hD
  go_wp2_with fail
  clear hcc hff
  refine (sdriverOf_any a0 Bs1 n1 n1 x1 a2 _ (os1.rd) be1).mono ?_
  rintro e w3 ⟨rfl, b3⟩
  have s3 : w2.heap.size ≤ w3.heap.size := b3.size
  replace os1 := os1.below b3
  replace hB := below_tr hB b3
  replace hD := below_tr hD b3
  obtain ⟨hcc, hff⟩ := bcell hD
  go_wp2_with fail
  clear hcc hff
  refine (toIntSS_any A1 n1 c1 x1 _ (h1.below hB) bd1).mono ?_
  rintro e w4 ⟨Bx1, rfl, ox1, b4⟩
  have s4 : w3.heap.size ≤ w4.heap.size := b4.size
  replace os1 := os1.below b4
  replace hB := below_tr hB b4
  replace hD := below_tr hD b4
  replace ox1 : Own2 w3.heap.size w4.heap.size w4 Bx1 _ _ _ := ox1
  obtain ⟨hcc, hff⟩ := bcell hD
  go_wp2_with fail
  clear hcc hff
  refine (toDevice_any a0 _ ).mono ?_
  rintro e w5 ⟨rfl, b5⟩
  have s5 : w4.heap.size ≤ w5.heap.size := b5.size
  replace os1 := os1.below b5
  replace ox1 := ox1.below b5
  replace hB := below_tr hB b5
  replace hD := below_tr hD b5
  obtain ⟨hcc, hff⟩ := bcell hD
  go_wp2_with fail
  clear hcc hff
  refine (pdriverOf_any a0 Bx1 n1 n1 x1 a2 _ (ox1.rd) be1).mono ?_
  rintro e w6 ⟨rfl, b6⟩
  have s6 : w5.heap.size ≤ w6.heap.size := b6.size
  replace os1 := os1.below b6
  replace ox1 := ox1.below b6
  replace hB := below_tr hB b6
  replace hD := below_tr hD b6
  obtain ⟨hcc, hff⟩ := bcell hD
  go_wp2_with fail
  clear hcc hff
  refine (toIntSS_any A1 n1 c1 x1 _ (h1.below hB) bd1).mono ?_
  rintro e w7 ⟨By11, rfl, oy11, b7⟩
  have s7 : w6.heap.size ≤ w7.heap.size := b7.size
  replace os1 := os1.below b7
  replace ox1 := ox1.below b7
  replace hB := below_tr hB b7
  replace hD := below_tr hD b7
  replace oy11 : Own2 w6.heap.size w7.heap.size w7 By11 _ _ _ := oy11
  obtain ⟨hcc, hff⟩ := bcell hD
  go_wp2_with fail
  clear hcc hff
  refine (eqIntSS_same Bx1 By11 n1 n1 n1 n1 x1 _ ox1.rd oy11.rd be1).mono ?_
  rintro e w8 ⟨rfl, b8⟩
  have s8 : w7.heap.size ≤ w8.heap.size := b8.size
  replace os1 := os1.below b8
  replace ox1 := ox1.below b8
  replace oy11 := oy11.below b8
  replace hB := below_tr hB b8
  replace hD := below_tr hD b8
  obtain ⟨hcc, hff⟩ := bcell hD
  go_wp2_with fail
  go_ret
  exact ⟨rfl, hB⟩
end Go.Proofs.Ytdnpdfjlmejpkaa
