/- The walk of the law FnExactNewBoard (printed by gen.py). -/
import Derived.Test.YtclmhnghpnfnkaaNbs
import Derived.Test.YtclmhnghpnfnkaaOb
import Derived.Test.YtclmhnghpnfnkaaRow2W
namespace Go.Proofs.Ytclmhnghpnfnkaa
set_option maxRecDepth 100000
open Go.RowKit
set_option maxHeartbeats 4000000 in
theorem law_newBoard (a0 : Dev) (A1 : Option Addr) (n1 c1 : Nat) (x1 : List (List Int)) (w : World) (_hw0 : a0.wf) (h1 : Rows2 w A1 n1 x1) (m1 : n1 ≤ maxLen) (_hw1 : ∀ ys ∈ x1, ys.length ≤ maxLen ∧ ∀ y ∈ ys, Wf y) :
    Calls Try.prog 3 #[.agg #[.int .i64 a0.W, .int .i64 a0.H, .int .i64 a0.T, .int .i64 a0.R], .slice A1 n1 c1] w fun e w' => e = .returned (.bool true) ∧ Below w.heap.size w w' := by
  unfold maxLen at *
  have H1 := Lib.hid h1
  have Q1 := Lib.hid (rows_len _hw1)
  clear h1 _hw0 _hw1
  go_enter Try.func3, Try.ntmps3
  have X0 : Hid ((World.alloc w (.cells #[.int .i64 a0.W, .int .i64 a0.H, .int .i64 a0.T, .int .i64 a0.R] 23)).heap[w.heap.size]? = some (.cells #[.int .i64 a0.W, .int .i64 a0.H, .int .i64 a0.T, .int .i64 a0.R] 23)) := heap_newAt (by simp)
  have HB := Lib.hid ((below_new (Below.refl w.heap.size w) (.cells #[.int .i64 a0.W, .int .i64 a0.H, .int .i64 a0.T, .int .i64 a0.R] 23)))
  obtain ⟨z0_0, z0_1, z0_2, z0_3⟩ := cells4 X0.out
  go_wp2_with fail
  clear z0_0 z0_1 z0_2 z0_3
  refine (szIntSS_any A1 n1 c1 x1 (1048576) _ (H1.out.below HB.out) (by omega) (by omega) (by omega) Q1.out).mono ?_
  rintro e w' ⟨rfl, rfl⟩
  by_cases g1 : (size2 x1 : Int) ≤ 1048576
  rotate_left
  · rw [leftOf_neg g1]
    obtain ⟨z0_0, z0_1, z0_2, z0_3⟩ := cells4 X0.out
    go_wp2_with fail
    clear z0_0 z0_1 z0_2 z0_3
    go_ret
    exact ⟨rfl, HB.out⟩
  rw [leftOf_pos g1]
  have bd1 : size2 x1 ≤ 16777216 := by omega
  have be1 : size2 x1 ≤ 1099511627776 := by omega
  have resle0 := Lib.hid (newB_ok a0 x1)
  have resn0 := newB_n a0 x1
  obtain ⟨z0_0, z0_1, z0_2, z0_3⟩ := cells4 X0.out
  go_wp2_with fail
  clear z0_0 z0_1 z0_2 z0_3
  refine (toDevice_any a0 _ ).mono ?_
  rintro e w1 ⟨rfl, bw1⟩
  have sz1 := bw1.size
  simp only [World.size_alloc] at sz1
  replace X0 := Lib.hid (heap_tr bw1 X0.out)
  replace HB := Lib.hid (below_tr HB.out bw1)
  clear bw1
  obtain ⟨z0_0, z0_1, z0_2, z0_3⟩ := cells4 X0.out
  go_wp2_with fail
  clear z0_0 z0_1 z0_2 z0_3
  refine (toIntSS_any A1 n1 c1 x1 _ (H1.out.below HB.out) bd1).mono ?_
  rintro e w2 ⟨Bs1, rfl, os1, bw2⟩
  have sz2 := bw2.size
  replace X0 := Lib.hid (heap_tr bw2 X0.out)
  replace HB := Lib.hid (below_tr HB.out bw2)
  replace os1 := Lib.hid os1
  clear bw2
  obtain ⟨z0_0, z0_1, z0_2, z0_3⟩ := cells4 X0.out
  go_wp2_with fail
  clear z0_0 z0_1 z0_2 z0_3
  refine (snewBoard_any a0 Bs1 n1 n1 x1 _ (os1.out.rd) be1).mono ?_
  rintro e w3 ⟨Rs0, rfl, rs0, bw3⟩
  have sz3 := bw3.size
  replace os1 := Lib.hid (os1.out.below bw3)
  replace X0 := Lib.hid (heap_tr bw3 X0.out)
  replace HB := Lib.hid (below_tr HB.out bw3)
  replace rs0 := Lib.hid rs0
  clear bw3
  replace os1 := Lib.hid (os1.out.below (below_new (Below.refl _ _) (.cells (bdArr (newB a0 x1) Rs0) 31)))
  replace rs0 := Lib.hid (rs0.out.below (below_new (Below.refl _ _) (.cells (bdArr (newB a0 x1) Rs0) 31)))
  replace X0 := Lib.hid (heap_al (.cells (bdArr (newB a0 x1) Rs0) 31) X0.out)
  have Ys0 := Lib.hid (heap_new w3 (.cells (bdArr (newB a0 x1) Rs0) 31))
  replace HB := Lib.hid (below_new HB.out (.cells (bdArr (newB a0 x1) Rs0) 31))
  obtain ⟨z0_0, z0_1, z0_2, z0_3⟩ := cells4 X0.out
  obtain ⟨z1_0, z1_1, z1_2, z1_3, z1_4, z1_5, z1_6, z1_7, z1_8, z1_9, z1_10, z1_11⟩ := cells12 Ys0.out
  go_wp2_with fail
  clear z0_0 z0_1 z0_2 z0_3 z1_0 z1_1 z1_2 z1_3 z1_4 z1_5 z1_6 z1_7 z1_8 z1_9 z1_10 z1_11
  refine (toIntSS_any A1 n1 c1 x1 _ (H1.out.below HB.out) bd1).mono ?_
  rintro e w4 ⟨Bx1, rfl, ox1, bw4⟩
  have sz4 := bw4.size
  simp only [World.size_alloc] at sz4
  replace os1 := Lib.hid (os1.out.below bw4)
  replace rs0 := Lib.hid (rs0.out.below bw4)
  replace X0 := Lib.hid (heap_tr bw4 X0.out)
  replace Ys0 := Lib.hid (heap_tr bw4 Ys0.out)
  replace HB := Lib.hid (below_tr HB.out bw4)
  simp only [World.size_alloc] at ox1
  replace ox1 := Lib.hid ox1
  clear bw4
  obtain ⟨z0_0, z0_1, z0_2, z0_3⟩ := cells4 X0.out
  obtain ⟨z1_0, z1_1, z1_2, z1_3, z1_4, z1_5, z1_6, z1_7, z1_8, z1_9, z1_10, z1_11⟩ := cells12 Ys0.out
  go_wp2_with fail
  clear z0_0 z0_1 z0_2 z0_3 z1_0 z1_1 z1_2 z1_3 z1_4 z1_5 z1_6 z1_7 z1_8 z1_9 z1_10 z1_11
  refine (toDevice_any a0 _ ).mono ?_
  rintro e w5 ⟨rfl, bw5⟩
  have sz5 := bw5.size
  replace os1 := Lib.hid (os1.out.below bw5)
  replace rs0 := Lib.hid (rs0.out.below bw5)
  replace ox1 := Lib.hid (ox1.out.below bw5)
  replace X0 := Lib.hid (heap_tr bw5 X0.out)
  replace Ys0 := Lib.hid (heap_tr bw5 Ys0.out)
  replace HB := Lib.hid (below_tr HB.out bw5)
  clear bw5
  obtain ⟨z0_0, z0_1, z0_2, z0_3⟩ := cells4 X0.out
  obtain ⟨z1_0, z1_1, z1_2, z1_3, z1_4, z1_5, z1_6, z1_7, z1_8, z1_9, z1_10, z1_11⟩ := cells12 Ys0.out
  go_wp2_with fail
  clear z0_0 z0_1 z0_2 z0_3 z1_0 z1_1 z1_2 z1_3 z1_4 z1_5 z1_6 z1_7 z1_8 z1_9 z1_10 z1_11
  refine (pnewBoard_any a0 Bx1 n1 n1 x1 _ (ox1.out.rd) be1).mono ?_
  rintro e w6 ⟨Rg0, rfl, rg0, bw6⟩
  have sz6 := bw6.size
  replace os1 := Lib.hid (os1.out.below bw6)
  replace rs0 := Lib.hid (rs0.out.below bw6)
  replace ox1 := Lib.hid (ox1.out.below bw6)
  replace X0 := Lib.hid (heap_tr bw6 X0.out)
  replace Ys0 := Lib.hid (heap_tr bw6 Ys0.out)
  replace HB := Lib.hid (below_tr HB.out bw6)
  replace rg0 := Lib.hid rg0
  clear bw6
  replace os1 := Lib.hid (os1.out.below (below_new (Below.refl _ _) (.cells (bdArr (newB a0 x1) Rg0) 31)))
  replace rs0 := Lib.hid (rs0.out.below (below_new (Below.refl _ _) (.cells (bdArr (newB a0 x1) Rg0) 31)))
  replace ox1 := Lib.hid (ox1.out.below (below_new (Below.refl _ _) (.cells (bdArr (newB a0 x1) Rg0) 31)))
  replace rg0 := Lib.hid (rg0.out.below (below_new (Below.refl _ _) (.cells (bdArr (newB a0 x1) Rg0) 31)))
  replace X0 := Lib.hid (heap_al (.cells (bdArr (newB a0 x1) Rg0) 31) X0.out)
  replace Ys0 := Lib.hid (heap_al (.cells (bdArr (newB a0 x1) Rg0) 31) Ys0.out)
  have Yg0 := Lib.hid (heap_new w6 (.cells (bdArr (newB a0 x1) Rg0) 31))
  replace HB := Lib.hid (below_new HB.out (.cells (bdArr (newB a0 x1) Rg0) 31))
  obtain ⟨z0_0, z0_1, z0_2, z0_3⟩ := cells4 X0.out
  obtain ⟨z1_0, z1_1, z1_2, z1_3, z1_4, z1_5, z1_6, z1_7, z1_8, z1_9, z1_10, z1_11⟩ := cells12 Ys0.out
  obtain ⟨z2_0, z2_1, z2_2, z2_3, z2_4, z2_5, z2_6, z2_7, z2_8, z2_9, z2_10, z2_11⟩ := cells12 Yg0.out
  go_wp2_with fail
  clear z0_0 z0_1 z0_2 z0_3 z1_0 z1_1 z1_2 z1_3 z1_4 z1_5 z1_6 z1_7 z1_8 z1_9 z1_10 z1_11 z2_0 z2_1 z2_2 z2_3 z2_4 z2_5 z2_6 z2_7 z2_8 z2_9 z2_10 z2_11
  refine (eqBoard_same _ Rg0 Rs0 _ rg0.out.rd rs0.out.rd resle0.out).mono ?_
  rintro e w7 ⟨rfl, bw7⟩
  have sz7 := bw7.size
  simp only [World.size_alloc] at sz7
  replace os1 := Lib.hid (os1.out.below bw7)
  replace rs0 := Lib.hid (rs0.out.below bw7)
  replace ox1 := Lib.hid (ox1.out.below bw7)
  replace rg0 := Lib.hid (rg0.out.below bw7)
  replace X0 := Lib.hid (heap_tr bw7 X0.out)
  replace Ys0 := Lib.hid (heap_tr bw7 Ys0.out)
  replace Yg0 := Lib.hid (heap_tr bw7 Yg0.out)
  replace HB := Lib.hid (below_tr HB.out bw7)
  clear bw7
  obtain ⟨z0_0, z0_1, z0_2, z0_3⟩ := cells4 X0.out
  obtain ⟨z1_0, z1_1, z1_2, z1_3, z1_4, z1_5, z1_6, z1_7, z1_8, z1_9, z1_10, z1_11⟩ := cells12 Ys0.out
  obtain ⟨z2_0, z2_1, z2_2, z2_3, z2_4, z2_5, z2_6, z2_7, z2_8, z2_9, z2_10, z2_11⟩ := cells12 Yg0.out
  go_wp2_with fail
  clear z0_0 z0_1 z0_2 z0_3 z1_0 z1_1 z1_2 z1_3 z1_4 z1_5 z1_6 z1_7 z1_8 z1_9 z1_10 z1_11 z2_0 z2_1 z2_2 z2_3 z2_4 z2_5 z2_6 z2_7 z2_8 z2_9 z2_10 z2_11
  refine (toIntSS_any A1 n1 c1 x1 _ (H1.out.below HB.out) bd1).mono ?_
  rintro e w8 ⟨By11, rfl, oy11, bw8⟩
  have sz8 := bw8.size
  replace os1 := Lib.hid (os1.out.below bw8)
  replace rs0 := Lib.hid (rs0.out.below bw8)
  replace ox1 := Lib.hid (ox1.out.below bw8)
  replace rg0 := Lib.hid (rg0.out.below bw8)
  replace X0 := Lib.hid (heap_tr bw8 X0.out)
  replace Ys0 := Lib.hid (heap_tr bw8 Ys0.out)
  replace Yg0 := Lib.hid (heap_tr bw8 Yg0.out)
  replace HB := Lib.hid (below_tr HB.out bw8)
  replace oy11 := Lib.hid oy11
  clear bw8
  obtain ⟨z0_0, z0_1, z0_2, z0_3⟩ := cells4 X0.out
  obtain ⟨z1_0, z1_1, z1_2, z1_3, z1_4, z1_5, z1_6, z1_7, z1_8, z1_9, z1_10, z1_11⟩ := cells12 Ys0.out
  obtain ⟨z2_0, z2_1, z2_2, z2_3, z2_4, z2_5, z2_6, z2_7, z2_8, z2_9, z2_10, z2_11⟩ := cells12 Yg0.out
  go_wp2_with fail
  clear z0_0 z0_1 z0_2 z0_3 z1_0 z1_1 z1_2 z1_3 z1_4 z1_5 z1_6 z1_7 z1_8 z1_9 z1_10 z1_11 z2_0 z2_1 z2_2 z2_3 z2_4 z2_5 z2_6 z2_7 z2_8 z2_9 z2_10 z2_11
  refine (eqIntSS_same Bx1 By11 n1 n1 n1 n1 x1 _ ox1.out.rd oy11.out.rd be1).mono ?_
  rintro e w9 ⟨rfl, bw9⟩
  have sz9 := bw9.size
  replace os1 := Lib.hid (os1.out.below bw9)
  replace rs0 := Lib.hid (rs0.out.below bw9)
  replace ox1 := Lib.hid (ox1.out.below bw9)
  replace rg0 := Lib.hid (rg0.out.below bw9)
  replace oy11 := Lib.hid (oy11.out.below bw9)
  replace X0 := Lib.hid (heap_tr bw9 X0.out)
  replace Ys0 := Lib.hid (heap_tr bw9 Ys0.out)
  replace Yg0 := Lib.hid (heap_tr bw9 Yg0.out)
  replace HB := Lib.hid (below_tr HB.out bw9)
  clear bw9
  have bz1 : sizeTo x1 n1 ≤ 16777216 := by have q := bd1; unfold size2 at q; rw [H1.out.1] at q; omega
  obtain ⟨z0_0, z0_1, z0_2, z0_3⟩ := cells4 X0.out
  obtain ⟨z1_0, z1_1, z1_2, z1_3, z1_4, z1_5, z1_6, z1_7, z1_8, z1_9, z1_10, z1_11⟩ := cells12 Ys0.out
  obtain ⟨z2_0, z2_1, z2_2, z2_3, z2_4, z2_5, z2_6, z2_7, z2_8, z2_9, z2_10, z2_11⟩ := cells12 Yg0.out
  go_wp2_with fail
  clear z0_0 z0_1 z0_2 z0_3 z1_0 z1_1 z1_2 z1_3 z1_4 z1_5 z1_6 z1_7 z1_8 z1_9 z1_10 z1_11 z2_0 z2_1 z2_2 z2_3 z2_4 z2_5 z2_6 z2_7 z2_8 z2_9 z2_10 z2_11
  refine (markIntSS_chg _ _ Bx1 n1 n1 x1 1 _ ox1.out (by omega) (by omega) be1).mono ?_
  rintro e w10 ⟨rfl, omox1, gw10⟩
  have sz10 := gw10.size
  replace os1 := Lib.hid (os1.out.chg gw10 (by omega))
  replace rs0 := Lib.hid (rs0.out.chg gw10 (by omega))
  replace rg0 := Lib.hid (rg0.out.chg gw10 (by omega))
  replace oy11 := Lib.hid (oy11.out.chg gw10 (by omega))
  replace X0 := Lib.hid ((gw10.block _ (heap_lt0 X0.out) (by omega)).trans X0.out)
  replace Ys0 := Lib.hid ((gw10.block _ (heap_lt0 Ys0.out) (by omega)).trans Ys0.out)
  replace Yg0 := Lib.hid ((gw10.block _ (heap_lt0 Yg0.out) (by omega)).trans Yg0.out)
  replace HB := Lib.hid (below_chg HB.out gw10 (by omega))
  clear ox1 gw10
  replace omox1 := Lib.hid omox1
  obtain ⟨z0_0, z0_1, z0_2, z0_3⟩ := cells4 X0.out
  obtain ⟨z1_0, z1_1, z1_2, z1_3, z1_4, z1_5, z1_6, z1_7, z1_8, z1_9, z1_10, z1_11⟩ := cells12 Ys0.out
  obtain ⟨z2_0, z2_1, z2_2, z2_3, z2_4, z2_5, z2_6, z2_7, z2_8, z2_9, z2_10, z2_11⟩ := cells12 Yg0.out
  go_wp2_with fail
  clear z0_0 z0_1 z0_2 z0_3 z1_0 z1_1 z1_2 z1_3 z1_4 z1_5 z1_6 z1_7 z1_8 z1_9 z1_10 z1_11 z2_0 z2_1 z2_2 z2_3 z2_4 z2_5 z2_6 z2_7 z2_8 z2_9 z2_10 z2_11
  refine (eqBoard_same _ Rg0 Rs0 _ rg0.out.rd rs0.out.rd resle0.out).mono ?_
  rintro e w11 ⟨rfl, bw11⟩
  have sz11 := bw11.size
  replace os1 := Lib.hid (os1.out.below bw11)
  replace rs0 := Lib.hid (rs0.out.below bw11)
  replace rg0 := Lib.hid (rg0.out.below bw11)
  replace oy11 := Lib.hid (oy11.out.below bw11)
  replace omox1 := Lib.hid (omox1.out.below bw11)
  replace X0 := Lib.hid (heap_tr bw11 X0.out)
  replace Ys0 := Lib.hid (heap_tr bw11 Ys0.out)
  replace Yg0 := Lib.hid (heap_tr bw11 Yg0.out)
  replace HB := Lib.hid (below_tr HB.out bw11)
  clear bw11
  obtain ⟨z0_0, z0_1, z0_2, z0_3⟩ := cells4 X0.out
  obtain ⟨z1_0, z1_1, z1_2, z1_3, z1_4, z1_5, z1_6, z1_7, z1_8, z1_9, z1_10, z1_11⟩ := cells12 Ys0.out
  obtain ⟨z2_0, z2_1, z2_2, z2_3, z2_4, z2_5, z2_6, z2_7, z2_8, z2_9, z2_10, z2_11⟩ := cells12 Yg0.out
  go_wp2_with fail
  clear z0_0 z0_1 z0_2 z0_3 z1_0 z1_1 z1_2 z1_3 z1_4 z1_5 z1_6 z1_7 z1_8 z1_9 z1_10 z1_11 z2_0 z2_1 z2_2 z2_3 z2_4 z2_5 z2_6 z2_7 z2_8 z2_9 z2_10 z2_11
  refine (markBoard_chg _ _ _ Rg0 1 _ rg0.out (by omega) resle0.out (by omega) (by omega) (by omega)).mono ?_
  rintro e w12 ⟨rfl, omrg0, gw12⟩
  have sz12 := gw12.size
  replace os1 := Lib.hid (os1.out.chg gw12 (by omega))
  replace rs0 := Lib.hid (rs0.out.chg gw12 (by omega))
  replace oy11 := Lib.hid (oy11.out.chg gw12 (by omega))
  replace omox1 := Lib.hid (omox1.out.chg gw12 (by omega))
  replace X0 := Lib.hid ((gw12.block _ (heap_lt0 X0.out) (by omega)).trans X0.out)
  replace Ys0 := Lib.hid ((gw12.block _ (heap_lt0 Ys0.out) (by omega)).trans Ys0.out)
  replace Yg0 := Lib.hid ((gw12.block _ (heap_lt0 Yg0.out) (by omega)).trans Yg0.out)
  replace HB := Lib.hid (below_chg HB.out gw12 (by omega))
  clear rg0 gw12
  replace omrg0 := Lib.hid omrg0
  obtain ⟨z0_0, z0_1, z0_2, z0_3⟩ := cells4 X0.out
  obtain ⟨z1_0, z1_1, z1_2, z1_3, z1_4, z1_5, z1_6, z1_7, z1_8, z1_9, z1_10, z1_11⟩ := cells12 Ys0.out
  obtain ⟨z2_0, z2_1, z2_2, z2_3, z2_4, z2_5, z2_6, z2_7, z2_8, z2_9, z2_10, z2_11⟩ := cells12 Yg0.out
  go_wp2_with fail
  clear z0_0 z0_1 z0_2 z0_3 z1_0 z1_1 z1_2 z1_3 z1_4 z1_5 z1_6 z1_7 z1_8 z1_9 z1_10 z1_11 z2_0 z2_1 z2_2 z2_3 z2_4 z2_5 z2_6 z2_7 z2_8 z2_9 z2_10 z2_11
  refine (heldBoard_any _ Rg0 1 _ omrg0.out.rd resle0.out (by omega) (by omega) (by omega)).mono ?_
  rintro e w13 ⟨rfl, bw13⟩
  have sz13 := bw13.size
  replace os1 := Lib.hid (os1.out.below bw13)
  replace rs0 := Lib.hid (rs0.out.below bw13)
  replace oy11 := Lib.hid (oy11.out.below bw13)
  replace omox1 := Lib.hid (omox1.out.below bw13)
  replace omrg0 := Lib.hid (omrg0.out.below bw13)
  replace X0 := Lib.hid (heap_tr bw13 X0.out)
  replace Ys0 := Lib.hid (heap_tr bw13 Ys0.out)
  replace Yg0 := Lib.hid (heap_tr bw13 Yg0.out)
  replace HB := Lib.hid (below_tr HB.out bw13)
  clear bw13
  obtain ⟨z0_0, z0_1, z0_2, z0_3⟩ := cells4 X0.out
  obtain ⟨z1_0, z1_1, z1_2, z1_3, z1_4, z1_5, z1_6, z1_7, z1_8, z1_9, z1_10, z1_11⟩ := cells12 Ys0.out
  obtain ⟨z2_0, z2_1, z2_2, z2_3, z2_4, z2_5, z2_6, z2_7, z2_8, z2_9, z2_10, z2_11⟩ := cells12 Yg0.out
  go_wp2_with fail
  clear z0_0 z0_1 z0_2 z0_3 z1_0 z1_1 z1_2 z1_3 z1_4 z1_5 z1_6 z1_7 z1_8 z1_9 z1_10 z1_11 z2_0 z2_1 z2_2 z2_3 z2_4 z2_5 z2_6 z2_7 z2_8 z2_9 z2_10 z2_11
  refine (toDevice_any a0 _ ).mono ?_
  rintro e w14 ⟨rfl, bw14⟩
  have sz14 := bw14.size
  replace os1 := Lib.hid (os1.out.below bw14)
  replace rs0 := Lib.hid (rs0.out.below bw14)
  replace oy11 := Lib.hid (oy11.out.below bw14)
  replace omox1 := Lib.hid (omox1.out.below bw14)
  replace omrg0 := Lib.hid (omrg0.out.below bw14)
  replace X0 := Lib.hid (heap_tr bw14 X0.out)
  replace Ys0 := Lib.hid (heap_tr bw14 Ys0.out)
  replace Yg0 := Lib.hid (heap_tr bw14 Yg0.out)
  replace HB := Lib.hid (below_tr HB.out bw14)
  clear bw14
  obtain ⟨z0_0, z0_1, z0_2, z0_3⟩ := cells4 X0.out
  obtain ⟨z1_0, z1_1, z1_2, z1_3, z1_4, z1_5, z1_6, z1_7, z1_8, z1_9, z1_10, z1_11⟩ := cells12 Ys0.out
  obtain ⟨z2_0, z2_1, z2_2, z2_3, z2_4, z2_5, z2_6, z2_7, z2_8, z2_9, z2_10, z2_11⟩ := cells12 Yg0.out
  go_wp2_with fail
  clear z0_0 z0_1 z0_2 z0_3 z1_0 z1_1 z1_2 z1_3 z1_4 z1_5 z1_6 z1_7 z1_8 z1_9 z1_10 z1_11 z2_0 z2_1 z2_2 z2_3 z2_4 z2_5 z2_6 z2_7 z2_8 z2_9 z2_10 z2_11
  refine (toIntSS_any A1 n1 c1 x1 _ (H1.out.below HB.out) bd1).mono ?_
  rintro e w15 ⟨Bh1, rfl, oh1, bw15⟩
  have sz15 := bw15.size
  replace os1 := Lib.hid (os1.out.below bw15)
  replace rs0 := Lib.hid (rs0.out.below bw15)
  replace oy11 := Lib.hid (oy11.out.below bw15)
  replace omox1 := Lib.hid (omox1.out.below bw15)
  replace omrg0 := Lib.hid (omrg0.out.below bw15)
  replace X0 := Lib.hid (heap_tr bw15 X0.out)
  replace Ys0 := Lib.hid (heap_tr bw15 Ys0.out)
  replace Yg0 := Lib.hid (heap_tr bw15 Yg0.out)
  replace HB := Lib.hid (below_tr HB.out bw15)
  replace oh1 := Lib.hid oh1
  clear bw15
  obtain ⟨z0_0, z0_1, z0_2, z0_3⟩ := cells4 X0.out
  obtain ⟨z1_0, z1_1, z1_2, z1_3, z1_4, z1_5, z1_6, z1_7, z1_8, z1_9, z1_10, z1_11⟩ := cells12 Ys0.out
  obtain ⟨z2_0, z2_1, z2_2, z2_3, z2_4, z2_5, z2_6, z2_7, z2_8, z2_9, z2_10, z2_11⟩ := cells12 Yg0.out
  go_wp2_with fail
  clear z0_0 z0_1 z0_2 z0_3 z1_0 z1_1 z1_2 z1_3 z1_4 z1_5 z1_6 z1_7 z1_8 z1_9 z1_10 z1_11 z2_0 z2_1 z2_2 z2_3 z2_4 z2_5 z2_6 z2_7 z2_8 z2_9 z2_10 z2_11
  refine (pnewBoard_any a0 Bh1 n1 n1 x1 _ (oh1.out.rd) be1).mono ?_
  rintro e w16 ⟨Rh0, rfl, rh0, bw16⟩
  have sz16 := bw16.size
  replace os1 := Lib.hid (os1.out.below bw16)
  replace rs0 := Lib.hid (rs0.out.below bw16)
  replace oy11 := Lib.hid (oy11.out.below bw16)
  replace omox1 := Lib.hid (omox1.out.below bw16)
  replace omrg0 := Lib.hid (omrg0.out.below bw16)
  replace oh1 := Lib.hid (oh1.out.below bw16)
  replace X0 := Lib.hid (heap_tr bw16 X0.out)
  replace Ys0 := Lib.hid (heap_tr bw16 Ys0.out)
  replace Yg0 := Lib.hid (heap_tr bw16 Yg0.out)
  replace HB := Lib.hid (below_tr HB.out bw16)
  replace rh0 := Lib.hid rh0
  clear bw16
  replace os1 := Lib.hid (os1.out.below (below_new (Below.refl _ _) (.cells (bdArr (newB a0 x1) Rh0) 31)))
  replace rs0 := Lib.hid (rs0.out.below (below_new (Below.refl _ _) (.cells (bdArr (newB a0 x1) Rh0) 31)))
  replace oy11 := Lib.hid (oy11.out.below (below_new (Below.refl _ _) (.cells (bdArr (newB a0 x1) Rh0) 31)))
  replace omox1 := Lib.hid (omox1.out.below (below_new (Below.refl _ _) (.cells (bdArr (newB a0 x1) Rh0) 31)))
  replace omrg0 := Lib.hid (omrg0.out.below (below_new (Below.refl _ _) (.cells (bdArr (newB a0 x1) Rh0) 31)))
  replace oh1 := Lib.hid (oh1.out.below (below_new (Below.refl _ _) (.cells (bdArr (newB a0 x1) Rh0) 31)))
  replace rh0 := Lib.hid (rh0.out.below (below_new (Below.refl _ _) (.cells (bdArr (newB a0 x1) Rh0) 31)))
  replace X0 := Lib.hid (heap_al (.cells (bdArr (newB a0 x1) Rh0) 31) X0.out)
  replace Ys0 := Lib.hid (heap_al (.cells (bdArr (newB a0 x1) Rh0) 31) Ys0.out)
  replace Yg0 := Lib.hid (heap_al (.cells (bdArr (newB a0 x1) Rh0) 31) Yg0.out)
  have Yh0 := Lib.hid (heap_new w16 (.cells (bdArr (newB a0 x1) Rh0) 31))
  replace HB := Lib.hid (below_new HB.out (.cells (bdArr (newB a0 x1) Rh0) 31))
  obtain ⟨z0_0, z0_1, z0_2, z0_3⟩ := cells4 X0.out
  obtain ⟨z1_0, z1_1, z1_2, z1_3, z1_4, z1_5, z1_6, z1_7, z1_8, z1_9, z1_10, z1_11⟩ := cells12 Ys0.out
  obtain ⟨z2_0, z2_1, z2_2, z2_3, z2_4, z2_5, z2_6, z2_7, z2_8, z2_9, z2_10, z2_11⟩ := cells12 Yg0.out
  obtain ⟨z3_0, z3_1, z3_2, z3_3, z3_4, z3_5, z3_6, z3_7, z3_8, z3_9, z3_10, z3_11⟩ := cells12 Yh0.out
  go_wp2_with fail
  clear z0_0 z0_1 z0_2 z0_3 z1_0 z1_1 z1_2 z1_3 z1_4 z1_5 z1_6 z1_7 z1_8 z1_9 z1_10 z1_11 z2_0 z2_1 z2_2 z2_3 z2_4 z2_5 z2_6 z2_7 z2_8 z2_9 z2_10 z2_11 z3_0 z3_1 z3_2 z3_3 z3_4 z3_5 z3_6 z3_7 z3_8 z3_9 z3_10 z3_11
  refine (eqBoard_same _ Rh0 Rs0 _ rh0.out.rd rs0.out.rd resle0.out).mono ?_
  rintro e w17 ⟨rfl, bw17⟩
  have sz17 := bw17.size
  simp only [World.size_alloc] at sz17
  replace os1 := Lib.hid (os1.out.below bw17)
  replace rs0 := Lib.hid (rs0.out.below bw17)
  replace oy11 := Lib.hid (oy11.out.below bw17)
  replace omox1 := Lib.hid (omox1.out.below bw17)
  replace omrg0 := Lib.hid (omrg0.out.below bw17)
  replace oh1 := Lib.hid (oh1.out.below bw17)
  replace rh0 := Lib.hid (rh0.out.below bw17)
  replace X0 := Lib.hid (heap_tr bw17 X0.out)
  replace Ys0 := Lib.hid (heap_tr bw17 Ys0.out)
  replace Yg0 := Lib.hid (heap_tr bw17 Yg0.out)
  replace Yh0 := Lib.hid (heap_tr bw17 Yh0.out)
  replace HB := Lib.hid (below_tr HB.out bw17)
  clear bw17
  obtain ⟨z0_0, z0_1, z0_2, z0_3⟩ := cells4 X0.out
  obtain ⟨z1_0, z1_1, z1_2, z1_3, z1_4, z1_5, z1_6, z1_7, z1_8, z1_9, z1_10, z1_11⟩ := cells12 Ys0.out
  obtain ⟨z2_0, z2_1, z2_2, z2_3, z2_4, z2_5, z2_6, z2_7, z2_8, z2_9, z2_10, z2_11⟩ := cells12 Yg0.out
  obtain ⟨z3_0, z3_1, z3_2, z3_3, z3_4, z3_5, z3_6, z3_7, z3_8, z3_9, z3_10, z3_11⟩ := cells12 Yh0.out
  go_wp2_with fail
  clear z0_0 z0_1 z0_2 z0_3 z1_0 z1_1 z1_2 z1_3 z1_4 z1_5 z1_6 z1_7 z1_8 z1_9 z1_10 z1_11 z2_0 z2_1 z2_2 z2_3 z2_4 z2_5 z2_6 z2_7 z2_8 z2_9 z2_10 z2_11 z3_0 z3_1 z3_2 z3_3 z3_4 z3_5 z3_6 z3_7 z3_8 z3_9 z3_10 z3_11
  refine (heldBoard_any _ Rg0 1 _ omrg0.out.rd resle0.out (by omega) (by omega) (by omega)).mono ?_
  rintro e w18 ⟨rfl, bw18⟩
  have sz18 := bw18.size
  replace os1 := Lib.hid (os1.out.below bw18)
  replace rs0 := Lib.hid (rs0.out.below bw18)
  replace oy11 := Lib.hid (oy11.out.below bw18)
  replace omox1 := Lib.hid (omox1.out.below bw18)
  replace omrg0 := Lib.hid (omrg0.out.below bw18)
  replace oh1 := Lib.hid (oh1.out.below bw18)
  replace rh0 := Lib.hid (rh0.out.below bw18)
  replace X0 := Lib.hid (heap_tr bw18 X0.out)
  replace Ys0 := Lib.hid (heap_tr bw18 Ys0.out)
  replace Yg0 := Lib.hid (heap_tr bw18 Yg0.out)
  replace Yh0 := Lib.hid (heap_tr bw18 Yh0.out)
  replace HB := Lib.hid (below_tr HB.out bw18)
  clear bw18
  obtain ⟨z0_0, z0_1, z0_2, z0_3⟩ := cells4 X0.out
  obtain ⟨z1_0, z1_1, z1_2, z1_3, z1_4, z1_5, z1_6, z1_7, z1_8, z1_9, z1_10, z1_11⟩ := cells12 Ys0.out
  obtain ⟨z2_0, z2_1, z2_2, z2_3, z2_4, z2_5, z2_6, z2_7, z2_8, z2_9, z2_10, z2_11⟩ := cells12 Yg0.out
  obtain ⟨z3_0, z3_1, z3_2, z3_3, z3_4, z3_5, z3_6, z3_7, z3_8, z3_9, z3_10, z3_11⟩ := cells12 Yh0.out
  go_wp2_with fail
  clear z0_0 z0_1 z0_2 z0_3 z1_0 z1_1 z1_2 z1_3 z1_4 z1_5 z1_6 z1_7 z1_8 z1_9 z1_10 z1_11 z2_0 z2_1 z2_2 z2_3 z2_4 z2_5 z2_6 z2_7 z2_8 z2_9 z2_10 z2_11 z3_0 z3_1 z3_2 z3_3 z3_4 z3_5 z3_6 z3_7 z3_8 z3_9 z3_10 z3_11
  go_ret
  exact ⟨rfl, HB.out⟩
end Go.Proofs.Ytclmhnghpnfnkaa
