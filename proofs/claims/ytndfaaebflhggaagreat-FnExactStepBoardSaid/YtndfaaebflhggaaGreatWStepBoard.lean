/- The walk of the law FnExactStepBoard (printed by gen.py). -/
import Derived.Test.YtndfaaebflhggaaGreatCopy
import Derived.Test.YtndfaaebflhggaaGreatNbs
import Derived.Test.YtndfaaebflhggaaGreatObn
import Derived.Test.YtndfaaebflhggaaGreatSp
import Derived.Test.YtndfaaebflhggaaGreatSpS
namespace Go.Proofs.YtndfaaebflhggaaGreat
set_option maxRecDepth 100000
open Go.RowKit
set_option maxHeartbeats 4000000 in
theorem law_stepBoard (b0 : Bd) (s0 : Sl3) (A1 : Option Addr) (n1 c1 : Nat) (x1 : List Int) (w : World) (h0 : BoardRd w b0 s0) (m0 : s0.n1 ≤ maxLen) (mm0 : s0.n2 ≤ maxLen) (mn0 : s0.n3 ≤ maxLen) (_q0 : ∀ ys ∈ b0.frames, ys.length ≤ maxLen ∧ ∀ y ∈ ys, Wf y) (_r0 : ∀ ys ∈ b0.saved, ys.length ≤ maxLen ∧ ∀ y ∈ ys, Wf y) (h1 : Ints w A1 n1 x1) (m1 : n1 ≤ maxLen) (_hw1 : ∀ y ∈ x1, Wf y) :
    Calls Tryz.prog 6 #[.agg (bdArr b0 s0), .slice A1 n1 c1] w fun e w' => e = .returned (.bool true) ∧ Below w.heap.size w w' := by
  unfold maxLen at *
  have H0 := Lib.hid h0
  have H1 := Lib.hid h1
  have Q0 := Lib.hid (rows_len _q0)
  have R0 := Lib.hid (rows_len _r0)
  clear h0 h1 _q0 _r0 _hw1
  by_cases g1 : n1 ≤ 1048576
  · have d1 : decide ((n1 : Int) > 1048576) = false := by simp; omega
    go_enter Tryz.func6, Tryz.ntmps6
    have X0 : Hid ((World.alloc w (.cells (bdArr b0 s0) 29)).heap[w.heap.size]? = some (.cells (bdArr b0 s0) 29)) := heap_newAt (by simp)
    have HB := Lib.hid ((below_new (Below.refl w.heap.size w) (.cells (bdArr b0 s0) 29)))
    obtain ⟨z0_0, z0_1, z0_2, z0_3, z0_4, z0_5, z0_6, z0_7, z0_8, z0_9, z0_10, z0_11⟩ := cells12 X0.out
    go_wp2_with fail
    clear z0_0 z0_1 z0_2 z0_3 z0_4 z0_5 z0_6 z0_7 z0_8 z0_9 z0_10 z0_11
    refine (szBoard_any b0 s0 _ (H0.out.below HB.out) (by omega) (by omega) (by omega) Q0.out R0.out).mono ?_
    rintro e w1 ⟨L0, rfl, hx0, bw1⟩
    have sz1 := bw1.size
    simp only [World.size_alloc] at sz1
    replace X0 := Lib.hid (heap_tr bw1 X0.out)
    replace HB := Lib.hid (below_tr HB.out bw1)
    clear bw1
    rcases hx0 with hx0 | ⟨hx0, hy0, hz0⟩
    · have hd : decide (L0 < 0) = true := by simpa using hx0
      obtain ⟨z0_0, z0_1, z0_2, z0_3, z0_4, z0_5, z0_6, z0_7, z0_8, z0_9, z0_10, z0_11⟩ := cells12 X0.out
      go_wp2_with fail
      clear z0_0 z0_1 z0_2 z0_3 z0_4 z0_5 z0_6 z0_7 z0_8 z0_9 z0_10 z0_11
      go_ret
      exact ⟨rfl, HB.out⟩
    have hd0 : decide (L0 < 0) = false := by simp; omega
    have HBD0 : Hid (BdOk b0) := ⟨by omega, by have e2 := H0.out.state.1; omega, by omega⟩
    have resle0 := Lib.hid ((spB_bb (show BdB 1048576 b0 from ⟨by omega, by have e2 := H0.out.state.1; omega, by omega⟩) x1).ok (by decide))
    have resn0 := (spB_bb (show BdB 1048576 b0 from ⟨by omega, by have e2 := H0.out.state.1; omega, by omega⟩) x1).n
    have resle1 := Lib.hid (spN_le b0 x1)
    obtain ⟨z0_0, z0_1, z0_2, z0_3, z0_4, z0_5, z0_6, z0_7, z0_8, z0_9, z0_10, z0_11⟩ := cells12 X0.out
    go_wp2_with fail
    clear z0_0 z0_1 z0_2 z0_3 z0_4 z0_5 z0_6 z0_7 z0_8 z0_9 z0_10 z0_11
    refine (toBoard_any b0 s0 _ (H0.out.below HB.out) (by omega) (by omega) (by omega)).mono ?_
    rintro e w2 ⟨ts0, rfl, os0, bw2⟩
    have sz2 := bw2.size
    replace X0 := Lib.hid (heap_tr bw2 X0.out)
    replace HB := Lib.hid (below_tr HB.out bw2)
    replace os0 := Lib.hid os0
    clear bw2
    have hn_ts0 : ts0.n2 ≤ 1048576 := by have e1 := os0.out.rd.state.1; have e2 := H0.out.state.1; omega
    obtain ⟨z0_0, z0_1, z0_2, z0_3, z0_4, z0_5, z0_6, z0_7, z0_8, z0_9, z0_10, z0_11⟩ := cells12 X0.out
    go_wp2_with fail
    clear z0_0 z0_1 z0_2 z0_3 z0_4 z0_5 z0_6 z0_7 z0_8 z0_9 z0_10 z0_11
    refine (toIntS_any A1 n1 c1 x1 _ (H1.out.below HB.out) (by omega)).mono ?_
    rintro e w3 ⟨Bs1, rfl, os1, bw3⟩
    have sz3 := bw3.size
    replace os0 := Lib.hid (os0.out.below bw3)
    replace X0 := Lib.hid (heap_tr bw3 X0.out)
    replace HB := Lib.hid (below_tr HB.out bw3)
    have l_os1 := os1.lies
    replace os1 := Lib.hid os1
    clear bw3
    obtain ⟨z0_0, z0_1, z0_2, z0_3, z0_4, z0_5, z0_6, z0_7, z0_8, z0_9, z0_10, z0_11⟩ := cells12 X0.out
    go_wp2_with fail
    clear z0_0 z0_1 z0_2 z0_3 z0_4 z0_5 z0_6 z0_7 z0_8 z0_9 z0_10 z0_11
    refine (sstepBoard_any b0 ts0 Bs1 n1 n1 x1 _ os0.out.rd os1.out.rd (by omega) (by omega) (by omega) (by omega)).mono ?_
    rintro e w4 ⟨Rs0, Rs1, rns1, rcs1, rfl, mds, rs0, rs1, ⟨u1s, u2s, lrs⟩, bw4⟩
    have sz4 := bw4.size
    replace os0 := Lib.hid (os0.out.below bw4)
    replace os1 := Lib.hid (os1.out.below bw4)
    replace X0 := Lib.hid (heap_tr bw4 X0.out)
    replace HB := Lib.hid (below_tr HB.out bw4)
    replace rs0 := Lib.hid rs0
    have l_rs1 := lrs
    replace rs1 := Lib.hid rs1
    clear bw4
    have le_s1 : rns1 ≤ 1099511627776 := by have h1 := rs1.out.len; have h2 := resle1.out; omega
    replace os0 := Lib.hid (os0.out.below (below_new (Below.refl _ _) (.cells (bdArr (spB b0 x1) Rs0) 34)))
    replace os1 := Lib.hid (os1.out.below (below_new (Below.refl _ _) (.cells (bdArr (spB b0 x1) Rs0) 34)))
    replace rs0 := Lib.hid (rs0.out.below (below_new (Below.refl _ _) (.cells (bdArr (spB b0 x1) Rs0) 34)))
    replace rs1 := Lib.hid (rs1.out.below (below_new (Below.refl _ _) (.cells (bdArr (spB b0 x1) Rs0) 34)))
    replace X0 := Lib.hid (heap_al (.cells (bdArr (spB b0 x1) Rs0) 34) X0.out)
    have Ys0 := Lib.hid (heap_new w4 (.cells (bdArr (spB b0 x1) Rs0) 34))
    replace HB := Lib.hid (below_new HB.out (.cells (bdArr (spB b0 x1) Rs0) 34))
    obtain ⟨z0_0, z0_1, z0_2, z0_3, z0_4, z0_5, z0_6, z0_7, z0_8, z0_9, z0_10, z0_11⟩ := cells12 X0.out
    obtain ⟨z1_0, z1_1, z1_2, z1_3, z1_4, z1_5, z1_6, z1_7, z1_8, z1_9, z1_10, z1_11⟩ := cells12 Ys0.out
    go_wp2_with fail
    clear z0_0 z0_1 z0_2 z0_3 z0_4 z0_5 z0_6 z0_7 z0_8 z0_9 z0_10 z0_11 z1_0 z1_1 z1_2 z1_3 z1_4 z1_5 z1_6 z1_7 z1_8 z1_9 z1_10 z1_11
    refine (toBoard_any b0 s0 _ (H0.out.below HB.out) (by omega) (by omega) (by omega)).mono ?_
    rintro e w5 ⟨tx0, rfl, ox0, bw5⟩
    have sz5 := bw5.size
    simp only [World.size_alloc] at sz5
    replace os0 := Lib.hid (os0.out.below bw5)
    replace os1 := Lib.hid (os1.out.below bw5)
    replace rs0 := Lib.hid (rs0.out.below bw5)
    replace rs1 := Lib.hid (rs1.out.below bw5)
    replace X0 := Lib.hid (heap_tr bw5 X0.out)
    replace Ys0 := Lib.hid (heap_tr bw5 Ys0.out)
    replace HB := Lib.hid (below_tr HB.out bw5)
    simp only [World.size_alloc] at ox0
    replace ox0 := Lib.hid ox0
    clear bw5
    have hn_tx0 : tx0.n2 ≤ 1048576 := by have e1 := ox0.out.rd.state.1; have e2 := H0.out.state.1; omega
    replace os0 := Lib.hid (os0.out.below (below_new (Below.refl _ _) (.cells (bdArr b0 tx0) 34)))
    replace os1 := Lib.hid (os1.out.below (below_new (Below.refl _ _) (.cells (bdArr b0 tx0) 34)))
    replace rs0 := Lib.hid (rs0.out.below (below_new (Below.refl _ _) (.cells (bdArr b0 tx0) 34)))
    replace rs1 := Lib.hid (rs1.out.below (below_new (Below.refl _ _) (.cells (bdArr b0 tx0) 34)))
    replace ox0 := Lib.hid (ox0.out.below (below_new (Below.refl _ _) (.cells (bdArr b0 tx0) 34)))
    replace X0 := Lib.hid (heap_al (.cells (bdArr b0 tx0) 34) X0.out)
    replace Ys0 := Lib.hid (heap_al (.cells (bdArr b0 tx0) 34) Ys0.out)
    have Yx0 := Lib.hid (heap_new w5 (.cells (bdArr b0 tx0) 34))
    replace HB := Lib.hid (below_new HB.out (.cells (bdArr b0 tx0) 34))
    obtain ⟨z0_0, z0_1, z0_2, z0_3, z0_4, z0_5, z0_6, z0_7, z0_8, z0_9, z0_10, z0_11⟩ := cells12 X0.out
    obtain ⟨z1_0, z1_1, z1_2, z1_3, z1_4, z1_5, z1_6, z1_7, z1_8, z1_9, z1_10, z1_11⟩ := cells12 Ys0.out
    obtain ⟨z2_0, z2_1, z2_2, z2_3, z2_4, z2_5, z2_6, z2_7, z2_8, z2_9, z2_10, z2_11⟩ := cells12 Yx0.out
    go_wp2_with fail
    clear z0_0 z0_1 z0_2 z0_3 z0_4 z0_5 z0_6 z0_7 z0_8 z0_9 z0_10 z0_11 z1_0 z1_1 z1_2 z1_3 z1_4 z1_5 z1_6 z1_7 z1_8 z1_9 z1_10 z1_11 z2_0 z2_1 z2_2 z2_3 z2_4 z2_5 z2_6 z2_7 z2_8 z2_9 z2_10 z2_11
    refine (toIntS_any A1 n1 c1 x1 _ (H1.out.below HB.out) (by omega)).mono ?_
    rintro e w6 ⟨Bx1, rfl, ox1, bw6⟩
    have sz6 := bw6.size
    simp only [World.size_alloc] at sz6
    replace os0 := Lib.hid (os0.out.below bw6)
    replace os1 := Lib.hid (os1.out.below bw6)
    replace rs0 := Lib.hid (rs0.out.below bw6)
    replace rs1 := Lib.hid (rs1.out.below bw6)
    replace ox0 := Lib.hid (ox0.out.below bw6)
    replace X0 := Lib.hid (heap_tr bw6 X0.out)
    replace Ys0 := Lib.hid (heap_tr bw6 Ys0.out)
    replace Yx0 := Lib.hid (heap_tr bw6 Yx0.out)
    replace HB := Lib.hid (below_tr HB.out bw6)
    simp only [World.size_alloc] at ox1
    have l_ox1 := ox1.lies
    replace ox1 := Lib.hid ox1
    clear bw6
    obtain ⟨z0_0, z0_1, z0_2, z0_3, z0_4, z0_5, z0_6, z0_7, z0_8, z0_9, z0_10, z0_11⟩ := cells12 X0.out
    obtain ⟨z1_0, z1_1, z1_2, z1_3, z1_4, z1_5, z1_6, z1_7, z1_8, z1_9, z1_10, z1_11⟩ := cells12 Ys0.out
    obtain ⟨z2_0, z2_1, z2_2, z2_3, z2_4, z2_5, z2_6, z2_7, z2_8, z2_9, z2_10, z2_11⟩ := cells12 Yx0.out
    go_wp2_with fail
    clear z0_0 z0_1 z0_2 z0_3 z0_4 z0_5 z0_6 z0_7 z0_8 z0_9 z0_10 z0_11 z1_0 z1_1 z1_2 z1_3 z1_4 z1_5 z1_6 z1_7 z1_8 z1_9 z1_10 z1_11 z2_0 z2_1 z2_2 z2_3 z2_4 z2_5 z2_6 z2_7 z2_8 z2_9 z2_10 z2_11
    refine (stepBoard_any b0 tx0 Bx1 n1 n1 x1 _ ox0.out.rd ox1.out.rd (by omega) (by omega) (by omega) (by omega)).mono ?_
    rintro e w7 ⟨Rg0, Rg1, rng1, rcg1, rfl, mdg, rg0, rg1, ⟨u1g, u2g, lrg⟩, bw7⟩
    have sz7 := bw7.size
    replace os0 := Lib.hid (os0.out.below bw7)
    replace os1 := Lib.hid (os1.out.below bw7)
    replace rs0 := Lib.hid (rs0.out.below bw7)
    replace rs1 := Lib.hid (rs1.out.below bw7)
    replace ox0 := Lib.hid (ox0.out.below bw7)
    replace ox1 := Lib.hid (ox1.out.below bw7)
    replace X0 := Lib.hid (heap_tr bw7 X0.out)
    replace Ys0 := Lib.hid (heap_tr bw7 Ys0.out)
    replace Yx0 := Lib.hid (heap_tr bw7 Yx0.out)
    replace HB := Lib.hid (below_tr HB.out bw7)
    replace rg0 := Lib.hid rg0
    have l_rg1 := lrg
    replace rg1 := Lib.hid rg1
    clear bw7
    have le_g1 : rng1 ≤ 1099511627776 := by have h1 := rg1.out.len; have h2 := resle1.out; omega
    replace os0 := Lib.hid (os0.out.below (below_new (Below.refl _ _) (.cells (bdArr (spB b0 x1) Rg0) 34)))
    replace os1 := Lib.hid (os1.out.below (below_new (Below.refl _ _) (.cells (bdArr (spB b0 x1) Rg0) 34)))
    replace rs0 := Lib.hid (rs0.out.below (below_new (Below.refl _ _) (.cells (bdArr (spB b0 x1) Rg0) 34)))
    replace rs1 := Lib.hid (rs1.out.below (below_new (Below.refl _ _) (.cells (bdArr (spB b0 x1) Rg0) 34)))
    replace ox0 := Lib.hid (ox0.out.below (below_new (Below.refl _ _) (.cells (bdArr (spB b0 x1) Rg0) 34)))
    replace ox1 := Lib.hid (ox1.out.below (below_new (Below.refl _ _) (.cells (bdArr (spB b0 x1) Rg0) 34)))
    replace rg0 := Lib.hid (rg0.out.below (below_new (Below.refl _ _) (.cells (bdArr (spB b0 x1) Rg0) 34)))
    replace rg1 := Lib.hid (rg1.out.below (below_new (Below.refl _ _) (.cells (bdArr (spB b0 x1) Rg0) 34)))
    replace X0 := Lib.hid (heap_al (.cells (bdArr (spB b0 x1) Rg0) 34) X0.out)
    replace Ys0 := Lib.hid (heap_al (.cells (bdArr (spB b0 x1) Rg0) 34) Ys0.out)
    replace Yx0 := Lib.hid (heap_al (.cells (bdArr (spB b0 x1) Rg0) 34) Yx0.out)
    have Yg0 := Lib.hid (heap_new w7 (.cells (bdArr (spB b0 x1) Rg0) 34))
    replace HB := Lib.hid (below_new HB.out (.cells (bdArr (spB b0 x1) Rg0) 34))
    obtain ⟨z0_0, z0_1, z0_2, z0_3, z0_4, z0_5, z0_6, z0_7, z0_8, z0_9, z0_10, z0_11⟩ := cells12 X0.out
    obtain ⟨z1_0, z1_1, z1_2, z1_3, z1_4, z1_5, z1_6, z1_7, z1_8, z1_9, z1_10, z1_11⟩ := cells12 Ys0.out
    obtain ⟨z2_0, z2_1, z2_2, z2_3, z2_4, z2_5, z2_6, z2_7, z2_8, z2_9, z2_10, z2_11⟩ := cells12 Yx0.out
    obtain ⟨z3_0, z3_1, z3_2, z3_3, z3_4, z3_5, z3_6, z3_7, z3_8, z3_9, z3_10, z3_11⟩ := cells12 Yg0.out
    go_wp2_with fail
    clear z0_0 z0_1 z0_2 z0_3 z0_4 z0_5 z0_6 z0_7 z0_8 z0_9 z0_10 z0_11 z1_0 z1_1 z1_2 z1_3 z1_4 z1_5 z1_6 z1_7 z1_8 z1_9 z1_10 z1_11 z2_0 z2_1 z2_2 z2_3 z2_4 z2_5 z2_6 z2_7 z2_8 z2_9 z2_10 z2_11 z3_0 z3_1 z3_2 z3_3 z3_4 z3_5 z3_6 z3_7 z3_8 z3_9 z3_10 z3_11
    refine (eqBoard_same _ Rg0 Rs0 _ rg0.out.rd rs0.out.rd resle0.out).mono ?_
    rintro e w8 ⟨rfl, bw8⟩
    have sz8 := bw8.size
    simp only [World.size_alloc] at sz8
    replace os0 := Lib.hid (os0.out.below bw8)
    replace os1 := Lib.hid (os1.out.below bw8)
    replace rs0 := Lib.hid (rs0.out.below bw8)
    replace rs1 := Lib.hid (rs1.out.below bw8)
    replace ox0 := Lib.hid (ox0.out.below bw8)
    replace ox1 := Lib.hid (ox1.out.below bw8)
    replace rg0 := Lib.hid (rg0.out.below bw8)
    replace rg1 := Lib.hid (rg1.out.below bw8)
    replace X0 := Lib.hid (heap_tr bw8 X0.out)
    replace Ys0 := Lib.hid (heap_tr bw8 Ys0.out)
    replace Yx0 := Lib.hid (heap_tr bw8 Yx0.out)
    replace Yg0 := Lib.hid (heap_tr bw8 Yg0.out)
    replace HB := Lib.hid (below_tr HB.out bw8)
    clear bw8
    obtain ⟨z0_0, z0_1, z0_2, z0_3, z0_4, z0_5, z0_6, z0_7, z0_8, z0_9, z0_10, z0_11⟩ := cells12 X0.out
    obtain ⟨z1_0, z1_1, z1_2, z1_3, z1_4, z1_5, z1_6, z1_7, z1_8, z1_9, z1_10, z1_11⟩ := cells12 Ys0.out
    obtain ⟨z2_0, z2_1, z2_2, z2_3, z2_4, z2_5, z2_6, z2_7, z2_8, z2_9, z2_10, z2_11⟩ := cells12 Yx0.out
    obtain ⟨z3_0, z3_1, z3_2, z3_3, z3_4, z3_5, z3_6, z3_7, z3_8, z3_9, z3_10, z3_11⟩ := cells12 Yg0.out
    go_wp2_with fail
    clear z0_0 z0_1 z0_2 z0_3 z0_4 z0_5 z0_6 z0_7 z0_8 z0_9 z0_10 z0_11 z1_0 z1_1 z1_2 z1_3 z1_4 z1_5 z1_6 z1_7 z1_8 z1_9 z1_10 z1_11 z2_0 z2_1 z2_2 z2_3 z2_4 z2_5 z2_6 z2_7 z2_8 z2_9 z2_10 z2_11 z3_0 z3_1 z3_2 z3_3 z3_4 z3_5 z3_6 z3_7 z3_8 z3_9 z3_10 z3_11
    refine (eqIntS_same Rg1 Rs1 rng1 rns1 rcg1 rcs1 _ _ rg1.out.rd rs1.out.rd le_g1).mono ?_
    rintro e w9 ⟨rfl, bw9⟩
    have sz9 := bw9.size
    replace os0 := Lib.hid (os0.out.below bw9)
    replace os1 := Lib.hid (os1.out.below bw9)
    replace rs0 := Lib.hid (rs0.out.below bw9)
    replace rs1 := Lib.hid (rs1.out.below bw9)
    replace ox0 := Lib.hid (ox0.out.below bw9)
    replace ox1 := Lib.hid (ox1.out.below bw9)
    replace rg0 := Lib.hid (rg0.out.below bw9)
    replace rg1 := Lib.hid (rg1.out.below bw9)
    replace X0 := Lib.hid (heap_tr bw9 X0.out)
    replace Ys0 := Lib.hid (heap_tr bw9 Ys0.out)
    replace Yx0 := Lib.hid (heap_tr bw9 Yx0.out)
    replace Yg0 := Lib.hid (heap_tr bw9 Yg0.out)
    replace HB := Lib.hid (below_tr HB.out bw9)
    clear bw9
    obtain ⟨z0_0, z0_1, z0_2, z0_3, z0_4, z0_5, z0_6, z0_7, z0_8, z0_9, z0_10, z0_11⟩ := cells12 X0.out
    obtain ⟨z1_0, z1_1, z1_2, z1_3, z1_4, z1_5, z1_6, z1_7, z1_8, z1_9, z1_10, z1_11⟩ := cells12 Ys0.out
    obtain ⟨z2_0, z2_1, z2_2, z2_3, z2_4, z2_5, z2_6, z2_7, z2_8, z2_9, z2_10, z2_11⟩ := cells12 Yx0.out
    obtain ⟨z3_0, z3_1, z3_2, z3_3, z3_4, z3_5, z3_6, z3_7, z3_8, z3_9, z3_10, z3_11⟩ := cells12 Yg0.out
    go_wp2_with fail
    have hD := (Below.refl w9.heap.size w9).drew
    have hl_X0 := heap_lt0 X0.out
    have hl_Ys0 := heap_lt0 Ys0.out
    have hl_Yx0 := heap_lt0 Yx0.out
    have hl_Yg0 := heap_lt0 Yg0.out
    go_region_held3 (fun w' => Below w9.heap.size w9 w' ∧ ∀ b o, b < w9.heap.size → w'.cell? ⟨b, o, none⟩ = w9.cell? ⟨b, o, none⟩)
      (first | exact ⟨hD, (bcell hD).1⟩)
      (first
        | (go_at_call 11; refine (toBoard_any b0 s0 _ (H0.out.below (below_tr HB.out hD)) (by omega) (by omega) (by omega)).mono ?_; rintro e w10 ⟨ty00, rfl, oy00, bw10⟩; have sz10 := bw10.size; have sy10 : w9.heap.size ≤ w10.heap.size := bw10.size; replace hD := below_tr hD bw10; replace oy00 := Lib.hid oy00; clear bw10; have hn_ty00 : ty00.n2 ≤ 1048576 := by have e1 := oy00.out.rd.state.1; have e2 := H0.out.state.1; omega)
        | (go_at_call 14; refine (eqBoard_same b0 tx0 ty00 _ (ox0.out.rd.below hD) oy00.out.rd HBD0.out).mono ?_; rintro e w11 ⟨rfl, bw11⟩; have sz11 := bw11.size; have sy11 : w10.heap.size ≤ w11.heap.size := bw11.size; replace oy00 := Lib.hid (oy00.out.below bw11); replace hD := below_tr hD bw11; clear bw11))
    clear z0_0 z0_1 z0_2 z0_3 z0_4 z0_5 z0_6 z0_7 z0_8 z0_9 z0_10 z0_11 z1_0 z1_1 z1_2 z1_3 z1_4 z1_5 z1_6 z1_7 z1_8 z1_9 z1_10 z1_11 z2_0 z2_1 z2_2 z2_3 z2_4 z2_5 z2_6 z2_7 z2_8 z2_9 z2_10 z2_11 z3_0 z3_1 z3_2 z3_3 z3_4 z3_5 z3_6 z3_7 z3_8 z3_9 z3_10 z3_11
    clear hl_X0 hl_Ys0 hl_Yx0 hl_Yg0
    have sda11 : w9.drew.heap.size ≤ w9.heap.size := Nat.le_refl _
    have sdb11 : w9.heap.size ≤ w9.drew.heap.size := Nat.le_refl _
    replace os0 := Lib.hid (os0.out.below hD)
    replace os1 := Lib.hid (os1.out.below hD)
    replace rs0 := Lib.hid (rs0.out.below hD)
    replace rs1 := Lib.hid (rs1.out.below hD)
    replace ox0 := Lib.hid (ox0.out.below hD)
    replace ox1 := Lib.hid (ox1.out.below hD)
    replace rg0 := Lib.hid (rg0.out.below hD)
    replace rg1 := Lib.hid (rg1.out.below hD)
    replace X0 := Lib.hid (heap_tr hD X0.out)
    replace Ys0 := Lib.hid (heap_tr hD Ys0.out)
    replace Yx0 := Lib.hid (heap_tr hD Yx0.out)
    replace Yg0 := Lib.hid (heap_tr hD Yg0.out)
    replace HB := Lib.hid (below_tr HB.out hD)
    clear hD
    obtain ⟨z0_0, z0_1, z0_2, z0_3, z0_4, z0_5, z0_6, z0_7, z0_8, z0_9, z0_10, z0_11⟩ := cells12 X0.out
    obtain ⟨z1_0, z1_1, z1_2, z1_3, z1_4, z1_5, z1_6, z1_7, z1_8, z1_9, z1_10, z1_11⟩ := cells12 Ys0.out
    obtain ⟨z2_0, z2_1, z2_2, z2_3, z2_4, z2_5, z2_6, z2_7, z2_8, z2_9, z2_10, z2_11⟩ := cells12 Yx0.out
    obtain ⟨z3_0, z3_1, z3_2, z3_3, z3_4, z3_5, z3_6, z3_7, z3_8, z3_9, z3_10, z3_11⟩ := cells12 Yg0.out
    go_wp2_with fail
    clear z0_0 z0_1 z0_2 z0_3 z0_4 z0_5 z0_6 z0_7 z0_8 z0_9 z0_10 z0_11 z1_0 z1_1 z1_2 z1_3 z1_4 z1_5 z1_6 z1_7 z1_8 z1_9 z1_10 z1_11 z2_0 z2_1 z2_2 z2_3 z2_4 z2_5 z2_6 z2_7 z2_8 z2_9 z2_10 z2_11 z3_0 z3_1 z3_2 z3_3 z3_4 z3_5 z3_6 z3_7 z3_8 z3_9 z3_10 z3_11
    refine (toIntS_any A1 n1 c1 x1 _ (H1.out.below HB.out) (by omega)).mono ?_
    rintro e w12 ⟨By11, rfl, oy11, bw12⟩
    have sz12 := bw12.size
    replace os0 := Lib.hid (os0.out.below bw12)
    replace os1 := Lib.hid (os1.out.below bw12)
    replace rs0 := Lib.hid (rs0.out.below bw12)
    replace rs1 := Lib.hid (rs1.out.below bw12)
    replace ox0 := Lib.hid (ox0.out.below bw12)
    replace ox1 := Lib.hid (ox1.out.below bw12)
    replace rg0 := Lib.hid (rg0.out.below bw12)
    replace rg1 := Lib.hid (rg1.out.below bw12)
    replace oy00 := Lib.hid (oy00.out.below bw12)
    replace X0 := Lib.hid (heap_tr bw12 X0.out)
    replace Ys0 := Lib.hid (heap_tr bw12 Ys0.out)
    replace Yx0 := Lib.hid (heap_tr bw12 Yx0.out)
    replace Yg0 := Lib.hid (heap_tr bw12 Yg0.out)
    replace HB := Lib.hid (below_tr HB.out bw12)
    have l_oy11 := oy11.lies
    replace oy11 := Lib.hid oy11
    clear bw12
    obtain ⟨z0_0, z0_1, z0_2, z0_3, z0_4, z0_5, z0_6, z0_7, z0_8, z0_9, z0_10, z0_11⟩ := cells12 X0.out
    obtain ⟨z1_0, z1_1, z1_2, z1_3, z1_4, z1_5, z1_6, z1_7, z1_8, z1_9, z1_10, z1_11⟩ := cells12 Ys0.out
    obtain ⟨z2_0, z2_1, z2_2, z2_3, z2_4, z2_5, z2_6, z2_7, z2_8, z2_9, z2_10, z2_11⟩ := cells12 Yx0.out
    obtain ⟨z3_0, z3_1, z3_2, z3_3, z3_4, z3_5, z3_6, z3_7, z3_8, z3_9, z3_10, z3_11⟩ := cells12 Yg0.out
    go_wp2_with fail
    clear z0_0 z0_1 z0_2 z0_3 z0_4 z0_5 z0_6 z0_7 z0_8 z0_9 z0_10 z0_11 z1_0 z1_1 z1_2 z1_3 z1_4 z1_5 z1_6 z1_7 z1_8 z1_9 z1_10 z1_11 z2_0 z2_1 z2_2 z2_3 z2_4 z2_5 z2_6 z2_7 z2_8 z2_9 z2_10 z2_11 z3_0 z3_1 z3_2 z3_3 z3_4 z3_5 z3_6 z3_7 z3_8 z3_9 z3_10 z3_11
    refine (eqIntS_same Bx1 By11 n1 n1 n1 n1 x1 _ ox1.out.rd oy11.out.rd (by omega)).mono ?_
    rintro e w13 ⟨rfl, bw13⟩
    have sz13 := bw13.size
    replace os0 := Lib.hid (os0.out.below bw13)
    replace os1 := Lib.hid (os1.out.below bw13)
    replace rs0 := Lib.hid (rs0.out.below bw13)
    replace rs1 := Lib.hid (rs1.out.below bw13)
    replace ox0 := Lib.hid (ox0.out.below bw13)
    replace ox1 := Lib.hid (ox1.out.below bw13)
    replace rg0 := Lib.hid (rg0.out.below bw13)
    replace rg1 := Lib.hid (rg1.out.below bw13)
    replace oy00 := Lib.hid (oy00.out.below bw13)
    replace oy11 := Lib.hid (oy11.out.below bw13)
    replace X0 := Lib.hid (heap_tr bw13 X0.out)
    replace Ys0 := Lib.hid (heap_tr bw13 Ys0.out)
    replace Yx0 := Lib.hid (heap_tr bw13 Yx0.out)
    replace Yg0 := Lib.hid (heap_tr bw13 Yg0.out)
    replace HB := Lib.hid (below_tr HB.out bw13)
    clear bw13
    have bz0 : bdN b0 ≤ 2097152 := by have e2 := H0.out.state.1; unfold bdN; unfold size2 at hz0; omega
    obtain ⟨z0_0, z0_1, z0_2, z0_3, z0_4, z0_5, z0_6, z0_7, z0_8, z0_9, z0_10, z0_11⟩ := cells12 X0.out
    obtain ⟨z1_0, z1_1, z1_2, z1_3, z1_4, z1_5, z1_6, z1_7, z1_8, z1_9, z1_10, z1_11⟩ := cells12 Ys0.out
    obtain ⟨z2_0, z2_1, z2_2, z2_3, z2_4, z2_5, z2_6, z2_7, z2_8, z2_9, z2_10, z2_11⟩ := cells12 Yx0.out
    obtain ⟨z3_0, z3_1, z3_2, z3_3, z3_4, z3_5, z3_6, z3_7, z3_8, z3_9, z3_10, z3_11⟩ := cells12 Yg0.out
    go_wp2_with fail
    clear z0_0 z0_1 z0_2 z0_3 z0_4 z0_5 z0_6 z0_7 z0_8 z0_9 z0_10 z0_11 z1_0 z1_1 z1_2 z1_3 z1_4 z1_5 z1_6 z1_7 z1_8 z1_9 z1_10 z1_11 z2_0 z2_1 z2_2 z2_3 z2_4 z2_5 z2_6 z2_7 z2_8 z2_9 z2_10 z2_11 z3_0 z3_1 z3_2 z3_3 z3_4 z3_5 z3_6 z3_7 z3_8 z3_9 z3_10 z3_11
    refine (markBoard_chg _ _ b0 tx0 1 _ ox0.out (by omega) ⟨by omega, by have e2 := H0.out.state.1; omega, by omega⟩ (by omega) (by omega) (by omega)).mono ?_
    rintro e w14 ⟨rfl, omox0, gw14⟩
    have sz14 := gw14.size
    replace os0 := Lib.hid (os0.out.chg gw14 (by omega))
    replace os1 := Lib.hid (os1.out.chg gw14 l_os1 (by omega))
    replace rs0 := Lib.hid (rs0.out.chg gw14 (by omega))
    replace rs1 := Lib.hid (rs1.out.chg gw14 l_rs1 (by omega))
    replace ox1 := Lib.hid (ox1.out.chg gw14 l_ox1 (by omega))
    replace rg0 := Lib.hid (rg0.out.chg gw14 (by omega))
    replace rg1 := Lib.hid (rg1.out.chg gw14 l_rg1 (by omega))
    replace oy00 := Lib.hid (oy00.out.chg gw14 (by omega))
    replace oy11 := Lib.hid (oy11.out.chg gw14 l_oy11 (by omega))
    replace X0 := Lib.hid ((gw14.block _ (heap_lt0 X0.out) (by omega)).trans X0.out)
    replace Ys0 := Lib.hid ((gw14.block _ (heap_lt0 Ys0.out) (by omega)).trans Ys0.out)
    replace Yx0 := Lib.hid ((gw14.block _ (heap_lt0 Yx0.out) (by omega)).trans Yx0.out)
    replace Yg0 := Lib.hid ((gw14.block _ (heap_lt0 Yg0.out) (by omega)).trans Yg0.out)
    replace HB := Lib.hid (below_chg HB.out gw14 (by omega))
    clear ox0 gw14
    replace omox0 := Lib.hid omox0
    obtain ⟨z0_0, z0_1, z0_2, z0_3, z0_4, z0_5, z0_6, z0_7, z0_8, z0_9, z0_10, z0_11⟩ := cells12 X0.out
    obtain ⟨z1_0, z1_1, z1_2, z1_3, z1_4, z1_5, z1_6, z1_7, z1_8, z1_9, z1_10, z1_11⟩ := cells12 Ys0.out
    obtain ⟨z2_0, z2_1, z2_2, z2_3, z2_4, z2_5, z2_6, z2_7, z2_8, z2_9, z2_10, z2_11⟩ := cells12 Yx0.out
    obtain ⟨z3_0, z3_1, z3_2, z3_3, z3_4, z3_5, z3_6, z3_7, z3_8, z3_9, z3_10, z3_11⟩ := cells12 Yg0.out
    go_wp2_with fail
    clear z0_0 z0_1 z0_2 z0_3 z0_4 z0_5 z0_6 z0_7 z0_8 z0_9 z0_10 z0_11 z1_0 z1_1 z1_2 z1_3 z1_4 z1_5 z1_6 z1_7 z1_8 z1_9 z1_10 z1_11 z2_0 z2_1 z2_2 z2_3 z2_4 z2_5 z2_6 z2_7 z2_8 z2_9 z2_10 z2_11 z3_0 z3_1 z3_2 z3_3 z3_4 z3_5 z3_6 z3_7 z3_8 z3_9 z3_10 z3_11
    refine (markIntS_chg _ _ _ Bx1 n1 n1 x1 _ _ ox1.out l_ox1 (by omega) (by omega) (by omega)).mono ?_
    rintro e w15 ⟨rfl, omox1, gw15⟩
    have sz15 := gw15.size
    replace os0 := Lib.hid (os0.out.chg gw15 (by omega))
    replace os1 := Lib.hid (os1.out.chg gw15 l_os1 (by omega))
    replace rs0 := Lib.hid (rs0.out.chg gw15 (by omega))
    replace rs1 := Lib.hid (rs1.out.chg gw15 l_rs1 (by omega))
    replace rg0 := Lib.hid (rg0.out.chg gw15 (by omega))
    replace rg1 := Lib.hid (rg1.out.chg gw15 l_rg1 (by omega))
    replace oy00 := Lib.hid (oy00.out.chg gw15 (by omega))
    replace oy11 := Lib.hid (oy11.out.chg gw15 l_oy11 (by omega))
    replace omox0 := Lib.hid (omox0.out.chg gw15 (by omega))
    replace X0 := Lib.hid ((gw15.block _ (heap_lt0 X0.out) (by omega)).trans X0.out)
    replace Ys0 := Lib.hid ((gw15.block _ (heap_lt0 Ys0.out) (by omega)).trans Ys0.out)
    replace Yx0 := Lib.hid ((gw15.block _ (heap_lt0 Yx0.out) (by omega)).trans Yx0.out)
    replace Yg0 := Lib.hid ((gw15.block _ (heap_lt0 Yg0.out) (by omega)).trans Yg0.out)
    replace HB := Lib.hid (below_chg HB.out gw15 (by omega))
    clear ox1 gw15
    replace omox1 := Lib.hid omox1
    obtain ⟨z0_0, z0_1, z0_2, z0_3, z0_4, z0_5, z0_6, z0_7, z0_8, z0_9, z0_10, z0_11⟩ := cells12 X0.out
    obtain ⟨z1_0, z1_1, z1_2, z1_3, z1_4, z1_5, z1_6, z1_7, z1_8, z1_9, z1_10, z1_11⟩ := cells12 Ys0.out
    obtain ⟨z2_0, z2_1, z2_2, z2_3, z2_4, z2_5, z2_6, z2_7, z2_8, z2_9, z2_10, z2_11⟩ := cells12 Yx0.out
    obtain ⟨z3_0, z3_1, z3_2, z3_3, z3_4, z3_5, z3_6, z3_7, z3_8, z3_9, z3_10, z3_11⟩ := cells12 Yg0.out
    go_wp2_with fail
    clear z0_0 z0_1 z0_2 z0_3 z0_4 z0_5 z0_6 z0_7 z0_8 z0_9 z0_10 z0_11 z1_0 z1_1 z1_2 z1_3 z1_4 z1_5 z1_6 z1_7 z1_8 z1_9 z1_10 z1_11 z2_0 z2_1 z2_2 z2_3 z2_4 z2_5 z2_6 z2_7 z2_8 z2_9 z2_10 z2_11 z3_0 z3_1 z3_2 z3_3 z3_4 z3_5 z3_6 z3_7 z3_8 z3_9 z3_10 z3_11
    refine (eqBoard_same _ Rg0 Rs0 _ rg0.out.rd rs0.out.rd resle0.out).mono ?_
    rintro e w16 ⟨rfl, bw16⟩
    have sz16 := bw16.size
    replace os0 := Lib.hid (os0.out.below bw16)
    replace os1 := Lib.hid (os1.out.below bw16)
    replace rs0 := Lib.hid (rs0.out.below bw16)
    replace rs1 := Lib.hid (rs1.out.below bw16)
    replace rg0 := Lib.hid (rg0.out.below bw16)
    replace rg1 := Lib.hid (rg1.out.below bw16)
    replace oy00 := Lib.hid (oy00.out.below bw16)
    replace oy11 := Lib.hid (oy11.out.below bw16)
    replace omox0 := Lib.hid (omox0.out.below bw16)
    replace omox1 := Lib.hid (omox1.out.below bw16)
    replace X0 := Lib.hid (heap_tr bw16 X0.out)
    replace Ys0 := Lib.hid (heap_tr bw16 Ys0.out)
    replace Yx0 := Lib.hid (heap_tr bw16 Yx0.out)
    replace Yg0 := Lib.hid (heap_tr bw16 Yg0.out)
    replace HB := Lib.hid (below_tr HB.out bw16)
    clear bw16
    obtain ⟨z0_0, z0_1, z0_2, z0_3, z0_4, z0_5, z0_6, z0_7, z0_8, z0_9, z0_10, z0_11⟩ := cells12 X0.out
    obtain ⟨z1_0, z1_1, z1_2, z1_3, z1_4, z1_5, z1_6, z1_7, z1_8, z1_9, z1_10, z1_11⟩ := cells12 Ys0.out
    obtain ⟨z2_0, z2_1, z2_2, z2_3, z2_4, z2_5, z2_6, z2_7, z2_8, z2_9, z2_10, z2_11⟩ := cells12 Yx0.out
    obtain ⟨z3_0, z3_1, z3_2, z3_3, z3_4, z3_5, z3_6, z3_7, z3_8, z3_9, z3_10, z3_11⟩ := cells12 Yg0.out
    go_wp2_with fail
    clear z0_0 z0_1 z0_2 z0_3 z0_4 z0_5 z0_6 z0_7 z0_8 z0_9 z0_10 z0_11 z1_0 z1_1 z1_2 z1_3 z1_4 z1_5 z1_6 z1_7 z1_8 z1_9 z1_10 z1_11 z2_0 z2_1 z2_2 z2_3 z2_4 z2_5 z2_6 z2_7 z2_8 z2_9 z2_10 z2_11 z3_0 z3_1 z3_2 z3_3 z3_4 z3_5 z3_6 z3_7 z3_8 z3_9 z3_10 z3_11
    refine (eqIntS_same Rg1 Rs1 rng1 rns1 rcg1 rcs1 _ _ rg1.out.rd rs1.out.rd le_g1).mono ?_
    rintro e w17 ⟨rfl, bw17⟩
    have sz17 := bw17.size
    replace os0 := Lib.hid (os0.out.below bw17)
    replace os1 := Lib.hid (os1.out.below bw17)
    replace rs0 := Lib.hid (rs0.out.below bw17)
    replace rs1 := Lib.hid (rs1.out.below bw17)
    replace rg0 := Lib.hid (rg0.out.below bw17)
    replace rg1 := Lib.hid (rg1.out.below bw17)
    replace oy00 := Lib.hid (oy00.out.below bw17)
    replace oy11 := Lib.hid (oy11.out.below bw17)
    replace omox0 := Lib.hid (omox0.out.below bw17)
    replace omox1 := Lib.hid (omox1.out.below bw17)
    replace X0 := Lib.hid (heap_tr bw17 X0.out)
    replace Ys0 := Lib.hid (heap_tr bw17 Ys0.out)
    replace Yx0 := Lib.hid (heap_tr bw17 Yx0.out)
    replace Yg0 := Lib.hid (heap_tr bw17 Yg0.out)
    replace HB := Lib.hid (below_tr HB.out bw17)
    clear bw17
    obtain ⟨z0_0, z0_1, z0_2, z0_3, z0_4, z0_5, z0_6, z0_7, z0_8, z0_9, z0_10, z0_11⟩ := cells12 X0.out
    obtain ⟨z1_0, z1_1, z1_2, z1_3, z1_4, z1_5, z1_6, z1_7, z1_8, z1_9, z1_10, z1_11⟩ := cells12 Ys0.out
    obtain ⟨z2_0, z2_1, z2_2, z2_3, z2_4, z2_5, z2_6, z2_7, z2_8, z2_9, z2_10, z2_11⟩ := cells12 Yx0.out
    obtain ⟨z3_0, z3_1, z3_2, z3_3, z3_4, z3_5, z3_6, z3_7, z3_8, z3_9, z3_10, z3_11⟩ := cells12 Yg0.out
    go_wp2_with fail
    clear z0_0 z0_1 z0_2 z0_3 z0_4 z0_5 z0_6 z0_7 z0_8 z0_9 z0_10 z0_11 z1_0 z1_1 z1_2 z1_3 z1_4 z1_5 z1_6 z1_7 z1_8 z1_9 z1_10 z1_11 z2_0 z2_1 z2_2 z2_3 z2_4 z2_5 z2_6 z2_7 z2_8 z2_9 z2_10 z2_11 z3_0 z3_1 z3_2 z3_3 z3_4 z3_5 z3_6 z3_7 z3_8 z3_9 z3_10 z3_11
    refine (markBoard_fp _ _ _ Rg0 1 _ rg0.out (by omega) resle0.out (by omega) (by omega) (by omega)).mono ?_
    rintro e w18 ⟨rfl, omrg0, gw18⟩
    have sz18 := gw18.size
    replace os0 := Lib.hid (os0.out.chg gw18 (by omega))
    replace os1 := Lib.hid (os1.out.chg gw18 l_os1 (by omega))
    replace rs0 := Lib.hid (rs0.out.chg gw18 (by omega))
    replace rs1 := Lib.hid (rs1.out.chg gw18 l_rs1 (by omega))
    replace rg1 := Lib.hid (rg1.out.chg gw18 l_rg1 (by omega))
    replace oy00 := Lib.hid (oy00.out.chg gw18 (by omega))
    replace oy11 := Lib.hid (oy11.out.chg gw18 l_oy11 (by omega))
    replace omox0 := Lib.hid (omox0.out.chg gw18 (by omega))
    replace omox1 := Lib.hid (omox1.out.chg gw18 l_ox1 (by omega))
    replace X0 := Lib.hid ((gw18.block _ (heap_lt0 X0.out) (by omega)).trans X0.out)
    replace Ys0 := Lib.hid ((gw18.block _ (heap_lt0 Ys0.out) (by omega)).trans Ys0.out)
    replace Yx0 := Lib.hid ((gw18.block _ (heap_lt0 Yx0.out) (by omega)).trans Yx0.out)
    replace Yg0 := Lib.hid ((gw18.block _ (heap_lt0 Yg0.out) (by omega)).trans Yg0.out)
    replace HB := Lib.hid (below_chg HB.out gw18 (by omega))
    clear rg0 gw18
    replace omrg0 := Lib.hid omrg0
    obtain ⟨z0_0, z0_1, z0_2, z0_3, z0_4, z0_5, z0_6, z0_7, z0_8, z0_9, z0_10, z0_11⟩ := cells12 X0.out
    obtain ⟨z1_0, z1_1, z1_2, z1_3, z1_4, z1_5, z1_6, z1_7, z1_8, z1_9, z1_10, z1_11⟩ := cells12 Ys0.out
    obtain ⟨z2_0, z2_1, z2_2, z2_3, z2_4, z2_5, z2_6, z2_7, z2_8, z2_9, z2_10, z2_11⟩ := cells12 Yx0.out
    obtain ⟨z3_0, z3_1, z3_2, z3_3, z3_4, z3_5, z3_6, z3_7, z3_8, z3_9, z3_10, z3_11⟩ := cells12 Yg0.out
    go_wp2_with fail
    clear z0_0 z0_1 z0_2 z0_3 z0_4 z0_5 z0_6 z0_7 z0_8 z0_9 z0_10 z0_11 z1_0 z1_1 z1_2 z1_3 z1_4 z1_5 z1_6 z1_7 z1_8 z1_9 z1_10 z1_11 z2_0 z2_1 z2_2 z2_3 z2_4 z2_5 z2_6 z2_7 z2_8 z2_9 z2_10 z2_11 z3_0 z3_1 z3_2 z3_3 z3_4 z3_5 z3_6 z3_7 z3_8 z3_9 z3_10 z3_11
    refine (markIntS_chg _ _ _ Rg1 rng1 rcg1 _ _ _ rg1.out l_rg1 (by omega) (by omega) le_g1).mono ?_
    rintro e w19 ⟨rfl, omrg1, gw19⟩
    have sz19 := gw19.size
    replace os0 := Lib.hid (os0.out.chg gw19 (by omega))
    replace os1 := Lib.hid (os1.out.chg gw19 l_os1 (by omega))
    replace rs0 := Lib.hid (rs0.out.chg gw19 (by omega))
    replace rs1 := Lib.hid (rs1.out.chg gw19 l_rs1 (by omega))
    replace oy00 := Lib.hid (oy00.out.chg gw19 (by omega))
    replace oy11 := Lib.hid (oy11.out.chg gw19 l_oy11 (by omega))
    replace omox0 := Lib.hid (omox0.out.chg gw19 (by omega))
    replace omox1 := Lib.hid (omox1.out.chg gw19 l_ox1 (by omega))
    replace omrg0 := Lib.hid (omrg0.out.chg gw19 (by omega))
    replace X0 := Lib.hid ((gw19.block _ (heap_lt0 X0.out) (by omega)).trans X0.out)
    replace Ys0 := Lib.hid ((gw19.block _ (heap_lt0 Ys0.out) (by omega)).trans Ys0.out)
    replace Yx0 := Lib.hid ((gw19.block _ (heap_lt0 Yx0.out) (by omega)).trans Yx0.out)
    replace Yg0 := Lib.hid ((gw19.block _ (heap_lt0 Yg0.out) (by omega)).trans Yg0.out)
    replace HB := Lib.hid (below_chg HB.out gw19 (by omega))
    clear rg1 gw19
    replace omrg1 := Lib.hid omrg1
    obtain ⟨z0_0, z0_1, z0_2, z0_3, z0_4, z0_5, z0_6, z0_7, z0_8, z0_9, z0_10, z0_11⟩ := cells12 X0.out
    obtain ⟨z1_0, z1_1, z1_2, z1_3, z1_4, z1_5, z1_6, z1_7, z1_8, z1_9, z1_10, z1_11⟩ := cells12 Ys0.out
    obtain ⟨z2_0, z2_1, z2_2, z2_3, z2_4, z2_5, z2_6, z2_7, z2_8, z2_9, z2_10, z2_11⟩ := cells12 Yx0.out
    obtain ⟨z3_0, z3_1, z3_2, z3_3, z3_4, z3_5, z3_6, z3_7, z3_8, z3_9, z3_10, z3_11⟩ := cells12 Yg0.out
    go_wp2_with fail
    clear z0_0 z0_1 z0_2 z0_3 z0_4 z0_5 z0_6 z0_7 z0_8 z0_9 z0_10 z0_11 z1_0 z1_1 z1_2 z1_3 z1_4 z1_5 z1_6 z1_7 z1_8 z1_9 z1_10 z1_11 z2_0 z2_1 z2_2 z2_3 z2_4 z2_5 z2_6 z2_7 z2_8 z2_9 z2_10 z2_11 z3_0 z3_1 z3_2 z3_3 z3_4 z3_5 z3_6 z3_7 z3_8 z3_9 z3_10 z3_11
    refine (heldBoard_any _ Rg0 1 _ omrg0.out.rd resle0.out (by omega) (by omega) (by omega)).mono ?_
    rintro e w20 ⟨rfl, bw20⟩
    have sz20 := bw20.size
    replace os0 := Lib.hid (os0.out.below bw20)
    replace os1 := Lib.hid (os1.out.below bw20)
    replace rs0 := Lib.hid (rs0.out.below bw20)
    replace rs1 := Lib.hid (rs1.out.below bw20)
    replace oy00 := Lib.hid (oy00.out.below bw20)
    replace oy11 := Lib.hid (oy11.out.below bw20)
    replace omox0 := Lib.hid (omox0.out.below bw20)
    replace omox1 := Lib.hid (omox1.out.below bw20)
    replace omrg0 := Lib.hid (omrg0.out.below bw20)
    replace omrg1 := Lib.hid (omrg1.out.below bw20)
    replace X0 := Lib.hid (heap_tr bw20 X0.out)
    replace Ys0 := Lib.hid (heap_tr bw20 Ys0.out)
    replace Yx0 := Lib.hid (heap_tr bw20 Yx0.out)
    replace Yg0 := Lib.hid (heap_tr bw20 Yg0.out)
    replace HB := Lib.hid (below_tr HB.out bw20)
    clear bw20
    obtain ⟨z0_0, z0_1, z0_2, z0_3, z0_4, z0_5, z0_6, z0_7, z0_8, z0_9, z0_10, z0_11⟩ := cells12 X0.out
    obtain ⟨z1_0, z1_1, z1_2, z1_3, z1_4, z1_5, z1_6, z1_7, z1_8, z1_9, z1_10, z1_11⟩ := cells12 Ys0.out
    obtain ⟨z2_0, z2_1, z2_2, z2_3, z2_4, z2_5, z2_6, z2_7, z2_8, z2_9, z2_10, z2_11⟩ := cells12 Yx0.out
    obtain ⟨z3_0, z3_1, z3_2, z3_3, z3_4, z3_5, z3_6, z3_7, z3_8, z3_9, z3_10, z3_11⟩ := cells12 Yg0.out
    go_wp2_with fail
    clear z0_0 z0_1 z0_2 z0_3 z0_4 z0_5 z0_6 z0_7 z0_8 z0_9 z0_10 z0_11 z1_0 z1_1 z1_2 z1_3 z1_4 z1_5 z1_6 z1_7 z1_8 z1_9 z1_10 z1_11 z2_0 z2_1 z2_2 z2_3 z2_4 z2_5 z2_6 z2_7 z2_8 z2_9 z2_10 z2_11 z3_0 z3_1 z3_2 z3_3 z3_4 z3_5 z3_6 z3_7 z3_8 z3_9 z3_10 z3_11
    refine (heldIntS_any Rg1 rng1 rcg1 _ _ _ omrg1.out.rd rfl (by omega) (by omega) le_g1).mono ?_
    rintro e w21 ⟨rfl, bw21⟩
    have sz21 := bw21.size
    replace os0 := Lib.hid (os0.out.below bw21)
    replace os1 := Lib.hid (os1.out.below bw21)
    replace rs0 := Lib.hid (rs0.out.below bw21)
    replace rs1 := Lib.hid (rs1.out.below bw21)
    replace oy00 := Lib.hid (oy00.out.below bw21)
    replace oy11 := Lib.hid (oy11.out.below bw21)
    replace omox0 := Lib.hid (omox0.out.below bw21)
    replace omox1 := Lib.hid (omox1.out.below bw21)
    replace omrg0 := Lib.hid (omrg0.out.below bw21)
    replace omrg1 := Lib.hid (omrg1.out.below bw21)
    replace X0 := Lib.hid (heap_tr bw21 X0.out)
    replace Ys0 := Lib.hid (heap_tr bw21 Ys0.out)
    replace Yx0 := Lib.hid (heap_tr bw21 Yx0.out)
    replace Yg0 := Lib.hid (heap_tr bw21 Yg0.out)
    replace HB := Lib.hid (below_tr HB.out bw21)
    clear bw21
    obtain ⟨z0_0, z0_1, z0_2, z0_3, z0_4, z0_5, z0_6, z0_7, z0_8, z0_9, z0_10, z0_11⟩ := cells12 X0.out
    obtain ⟨z1_0, z1_1, z1_2, z1_3, z1_4, z1_5, z1_6, z1_7, z1_8, z1_9, z1_10, z1_11⟩ := cells12 Ys0.out
    obtain ⟨z2_0, z2_1, z2_2, z2_3, z2_4, z2_5, z2_6, z2_7, z2_8, z2_9, z2_10, z2_11⟩ := cells12 Yx0.out
    obtain ⟨z3_0, z3_1, z3_2, z3_3, z3_4, z3_5, z3_6, z3_7, z3_8, z3_9, z3_10, z3_11⟩ := cells12 Yg0.out
    go_wp2_with fail
    clear z0_0 z0_1 z0_2 z0_3 z0_4 z0_5 z0_6 z0_7 z0_8 z0_9 z0_10 z0_11 z1_0 z1_1 z1_2 z1_3 z1_4 z1_5 z1_6 z1_7 z1_8 z1_9 z1_10 z1_11 z2_0 z2_1 z2_2 z2_3 z2_4 z2_5 z2_6 z2_7 z2_8 z2_9 z2_10 z2_11 z3_0 z3_1 z3_2 z3_3 z3_4 z3_5 z3_6 z3_7 z3_8 z3_9 z3_10 z3_11
    refine (toBoard_any b0 s0 _ (H0.out.below HB.out) (by omega) (by omega) (by omega)).mono ?_
    rintro e w22 ⟨th0, rfl, oh0, bw22⟩
    have sz22 := bw22.size
    replace os0 := Lib.hid (os0.out.below bw22)
    replace os1 := Lib.hid (os1.out.below bw22)
    replace rs0 := Lib.hid (rs0.out.below bw22)
    replace rs1 := Lib.hid (rs1.out.below bw22)
    replace oy00 := Lib.hid (oy00.out.below bw22)
    replace oy11 := Lib.hid (oy11.out.below bw22)
    replace omox0 := Lib.hid (omox0.out.below bw22)
    replace omox1 := Lib.hid (omox1.out.below bw22)
    replace omrg0 := Lib.hid (omrg0.out.below bw22)
    replace omrg1 := Lib.hid (omrg1.out.below bw22)
    replace X0 := Lib.hid (heap_tr bw22 X0.out)
    replace Ys0 := Lib.hid (heap_tr bw22 Ys0.out)
    replace Yx0 := Lib.hid (heap_tr bw22 Yx0.out)
    replace Yg0 := Lib.hid (heap_tr bw22 Yg0.out)
    replace HB := Lib.hid (below_tr HB.out bw22)
    replace oh0 := Lib.hid oh0
    clear bw22
    have hn_th0 : th0.n2 ≤ 1048576 := by have e1 := oh0.out.rd.state.1; have e2 := H0.out.state.1; omega
    obtain ⟨z0_0, z0_1, z0_2, z0_3, z0_4, z0_5, z0_6, z0_7, z0_8, z0_9, z0_10, z0_11⟩ := cells12 X0.out
    obtain ⟨z1_0, z1_1, z1_2, z1_3, z1_4, z1_5, z1_6, z1_7, z1_8, z1_9, z1_10, z1_11⟩ := cells12 Ys0.out
    obtain ⟨z2_0, z2_1, z2_2, z2_3, z2_4, z2_5, z2_6, z2_7, z2_8, z2_9, z2_10, z2_11⟩ := cells12 Yx0.out
    obtain ⟨z3_0, z3_1, z3_2, z3_3, z3_4, z3_5, z3_6, z3_7, z3_8, z3_9, z3_10, z3_11⟩ := cells12 Yg0.out
    go_wp2_with fail
    clear z0_0 z0_1 z0_2 z0_3 z0_4 z0_5 z0_6 z0_7 z0_8 z0_9 z0_10 z0_11 z1_0 z1_1 z1_2 z1_3 z1_4 z1_5 z1_6 z1_7 z1_8 z1_9 z1_10 z1_11 z2_0 z2_1 z2_2 z2_3 z2_4 z2_5 z2_6 z2_7 z2_8 z2_9 z2_10 z2_11 z3_0 z3_1 z3_2 z3_3 z3_4 z3_5 z3_6 z3_7 z3_8 z3_9 z3_10 z3_11
    refine (toIntS_any A1 n1 c1 x1 _ (H1.out.below HB.out) (by omega)).mono ?_
    rintro e w23 ⟨Bh1, rfl, oh1, bw23⟩
    have sz23 := bw23.size
    replace os0 := Lib.hid (os0.out.below bw23)
    replace os1 := Lib.hid (os1.out.below bw23)
    replace rs0 := Lib.hid (rs0.out.below bw23)
    replace rs1 := Lib.hid (rs1.out.below bw23)
    replace oy00 := Lib.hid (oy00.out.below bw23)
    replace oy11 := Lib.hid (oy11.out.below bw23)
    replace omox0 := Lib.hid (omox0.out.below bw23)
    replace omox1 := Lib.hid (omox1.out.below bw23)
    replace omrg0 := Lib.hid (omrg0.out.below bw23)
    replace omrg1 := Lib.hid (omrg1.out.below bw23)
    replace oh0 := Lib.hid (oh0.out.below bw23)
    replace X0 := Lib.hid (heap_tr bw23 X0.out)
    replace Ys0 := Lib.hid (heap_tr bw23 Ys0.out)
    replace Yx0 := Lib.hid (heap_tr bw23 Yx0.out)
    replace Yg0 := Lib.hid (heap_tr bw23 Yg0.out)
    replace HB := Lib.hid (below_tr HB.out bw23)
    have l_oh1 := oh1.lies
    replace oh1 := Lib.hid oh1
    clear bw23
    obtain ⟨z0_0, z0_1, z0_2, z0_3, z0_4, z0_5, z0_6, z0_7, z0_8, z0_9, z0_10, z0_11⟩ := cells12 X0.out
    obtain ⟨z1_0, z1_1, z1_2, z1_3, z1_4, z1_5, z1_6, z1_7, z1_8, z1_9, z1_10, z1_11⟩ := cells12 Ys0.out
    obtain ⟨z2_0, z2_1, z2_2, z2_3, z2_4, z2_5, z2_6, z2_7, z2_8, z2_9, z2_10, z2_11⟩ := cells12 Yx0.out
    obtain ⟨z3_0, z3_1, z3_2, z3_3, z3_4, z3_5, z3_6, z3_7, z3_8, z3_9, z3_10, z3_11⟩ := cells12 Yg0.out
    go_wp2_with fail
    clear z0_0 z0_1 z0_2 z0_3 z0_4 z0_5 z0_6 z0_7 z0_8 z0_9 z0_10 z0_11 z1_0 z1_1 z1_2 z1_3 z1_4 z1_5 z1_6 z1_7 z1_8 z1_9 z1_10 z1_11 z2_0 z2_1 z2_2 z2_3 z2_4 z2_5 z2_6 z2_7 z2_8 z2_9 z2_10 z2_11 z3_0 z3_1 z3_2 z3_3 z3_4 z3_5 z3_6 z3_7 z3_8 z3_9 z3_10 z3_11
    refine (stepBoard_any b0 th0 Bh1 n1 n1 x1 _ oh0.out.rd oh1.out.rd (by omega) (by omega) (by omega) (by omega)).mono ?_
    rintro e w24 ⟨Rh0, Rh1, rnh1, rch1, rfl, mdh, rh0, rh1, ⟨u1h, u2h, lrh⟩, bw24⟩
    have sz24 := bw24.size
    replace os0 := Lib.hid (os0.out.below bw24)
    replace os1 := Lib.hid (os1.out.below bw24)
    replace rs0 := Lib.hid (rs0.out.below bw24)
    replace rs1 := Lib.hid (rs1.out.below bw24)
    replace oy00 := Lib.hid (oy00.out.below bw24)
    replace oy11 := Lib.hid (oy11.out.below bw24)
    replace omox0 := Lib.hid (omox0.out.below bw24)
    replace omox1 := Lib.hid (omox1.out.below bw24)
    replace omrg0 := Lib.hid (omrg0.out.below bw24)
    replace omrg1 := Lib.hid (omrg1.out.below bw24)
    replace oh0 := Lib.hid (oh0.out.below bw24)
    replace oh1 := Lib.hid (oh1.out.below bw24)
    replace X0 := Lib.hid (heap_tr bw24 X0.out)
    replace Ys0 := Lib.hid (heap_tr bw24 Ys0.out)
    replace Yx0 := Lib.hid (heap_tr bw24 Yx0.out)
    replace Yg0 := Lib.hid (heap_tr bw24 Yg0.out)
    replace HB := Lib.hid (below_tr HB.out bw24)
    replace rh0 := Lib.hid rh0
    have l_rh1 := lrh
    replace rh1 := Lib.hid rh1
    clear bw24
    have le_h1 : rnh1 ≤ 1099511627776 := by have h1 := rh1.out.len; have h2 := resle1.out; omega
    replace os0 := Lib.hid (os0.out.below (below_new (Below.refl _ _) (.cells (bdArr (spB b0 x1) Rh0) 34)))
    replace os1 := Lib.hid (os1.out.below (below_new (Below.refl _ _) (.cells (bdArr (spB b0 x1) Rh0) 34)))
    replace rs0 := Lib.hid (rs0.out.below (below_new (Below.refl _ _) (.cells (bdArr (spB b0 x1) Rh0) 34)))
    replace rs1 := Lib.hid (rs1.out.below (below_new (Below.refl _ _) (.cells (bdArr (spB b0 x1) Rh0) 34)))
    replace oy00 := Lib.hid (oy00.out.below (below_new (Below.refl _ _) (.cells (bdArr (spB b0 x1) Rh0) 34)))
    replace oy11 := Lib.hid (oy11.out.below (below_new (Below.refl _ _) (.cells (bdArr (spB b0 x1) Rh0) 34)))
    replace omox0 := Lib.hid (omox0.out.below (below_new (Below.refl _ _) (.cells (bdArr (spB b0 x1) Rh0) 34)))
    replace omox1 := Lib.hid (omox1.out.below (below_new (Below.refl _ _) (.cells (bdArr (spB b0 x1) Rh0) 34)))
    replace omrg0 := Lib.hid (omrg0.out.below (below_new (Below.refl _ _) (.cells (bdArr (spB b0 x1) Rh0) 34)))
    replace omrg1 := Lib.hid (omrg1.out.below (below_new (Below.refl _ _) (.cells (bdArr (spB b0 x1) Rh0) 34)))
    replace oh0 := Lib.hid (oh0.out.below (below_new (Below.refl _ _) (.cells (bdArr (spB b0 x1) Rh0) 34)))
    replace oh1 := Lib.hid (oh1.out.below (below_new (Below.refl _ _) (.cells (bdArr (spB b0 x1) Rh0) 34)))
    replace rh0 := Lib.hid (rh0.out.below (below_new (Below.refl _ _) (.cells (bdArr (spB b0 x1) Rh0) 34)))
    replace rh1 := Lib.hid (rh1.out.below (below_new (Below.refl _ _) (.cells (bdArr (spB b0 x1) Rh0) 34)))
    replace X0 := Lib.hid (heap_al (.cells (bdArr (spB b0 x1) Rh0) 34) X0.out)
    replace Ys0 := Lib.hid (heap_al (.cells (bdArr (spB b0 x1) Rh0) 34) Ys0.out)
    replace Yx0 := Lib.hid (heap_al (.cells (bdArr (spB b0 x1) Rh0) 34) Yx0.out)
    replace Yg0 := Lib.hid (heap_al (.cells (bdArr (spB b0 x1) Rh0) 34) Yg0.out)
    have Yh0 := Lib.hid (heap_new w24 (.cells (bdArr (spB b0 x1) Rh0) 34))
    replace HB := Lib.hid (below_new HB.out (.cells (bdArr (spB b0 x1) Rh0) 34))
    obtain ⟨z0_0, z0_1, z0_2, z0_3, z0_4, z0_5, z0_6, z0_7, z0_8, z0_9, z0_10, z0_11⟩ := cells12 X0.out
    obtain ⟨z1_0, z1_1, z1_2, z1_3, z1_4, z1_5, z1_6, z1_7, z1_8, z1_9, z1_10, z1_11⟩ := cells12 Ys0.out
    obtain ⟨z2_0, z2_1, z2_2, z2_3, z2_4, z2_5, z2_6, z2_7, z2_8, z2_9, z2_10, z2_11⟩ := cells12 Yx0.out
    obtain ⟨z3_0, z3_1, z3_2, z3_3, z3_4, z3_5, z3_6, z3_7, z3_8, z3_9, z3_10, z3_11⟩ := cells12 Yg0.out
    obtain ⟨z4_0, z4_1, z4_2, z4_3, z4_4, z4_5, z4_6, z4_7, z4_8, z4_9, z4_10, z4_11⟩ := cells12 Yh0.out
    go_wp2_with fail
    clear z0_0 z0_1 z0_2 z0_3 z0_4 z0_5 z0_6 z0_7 z0_8 z0_9 z0_10 z0_11 z1_0 z1_1 z1_2 z1_3 z1_4 z1_5 z1_6 z1_7 z1_8 z1_9 z1_10 z1_11 z2_0 z2_1 z2_2 z2_3 z2_4 z2_5 z2_6 z2_7 z2_8 z2_9 z2_10 z2_11 z3_0 z3_1 z3_2 z3_3 z3_4 z3_5 z3_6 z3_7 z3_8 z3_9 z3_10 z3_11 z4_0 z4_1 z4_2 z4_3 z4_4 z4_5 z4_6 z4_7 z4_8 z4_9 z4_10 z4_11
    refine (eqBoard_same _ Rh0 Rs0 _ rh0.out.rd rs0.out.rd resle0.out).mono ?_
    rintro e w25 ⟨rfl, bw25⟩
    have sz25 := bw25.size
    simp only [World.size_alloc] at sz25
    replace os0 := Lib.hid (os0.out.below bw25)
    replace os1 := Lib.hid (os1.out.below bw25)
    replace rs0 := Lib.hid (rs0.out.below bw25)
    replace rs1 := Lib.hid (rs1.out.below bw25)
    replace oy00 := Lib.hid (oy00.out.below bw25)
    replace oy11 := Lib.hid (oy11.out.below bw25)
    replace omox0 := Lib.hid (omox0.out.below bw25)
    replace omox1 := Lib.hid (omox1.out.below bw25)
    replace omrg0 := Lib.hid (omrg0.out.below bw25)
    replace omrg1 := Lib.hid (omrg1.out.below bw25)
    replace oh0 := Lib.hid (oh0.out.below bw25)
    replace oh1 := Lib.hid (oh1.out.below bw25)
    replace rh0 := Lib.hid (rh0.out.below bw25)
    replace rh1 := Lib.hid (rh1.out.below bw25)
    replace X0 := Lib.hid (heap_tr bw25 X0.out)
    replace Ys0 := Lib.hid (heap_tr bw25 Ys0.out)
    replace Yx0 := Lib.hid (heap_tr bw25 Yx0.out)
    replace Yg0 := Lib.hid (heap_tr bw25 Yg0.out)
    replace Yh0 := Lib.hid (heap_tr bw25 Yh0.out)
    replace HB := Lib.hid (below_tr HB.out bw25)
    clear bw25
    obtain ⟨z0_0, z0_1, z0_2, z0_3, z0_4, z0_5, z0_6, z0_7, z0_8, z0_9, z0_10, z0_11⟩ := cells12 X0.out
    obtain ⟨z1_0, z1_1, z1_2, z1_3, z1_4, z1_5, z1_6, z1_7, z1_8, z1_9, z1_10, z1_11⟩ := cells12 Ys0.out
    obtain ⟨z2_0, z2_1, z2_2, z2_3, z2_4, z2_5, z2_6, z2_7, z2_8, z2_9, z2_10, z2_11⟩ := cells12 Yx0.out
    obtain ⟨z3_0, z3_1, z3_2, z3_3, z3_4, z3_5, z3_6, z3_7, z3_8, z3_9, z3_10, z3_11⟩ := cells12 Yg0.out
    obtain ⟨z4_0, z4_1, z4_2, z4_3, z4_4, z4_5, z4_6, z4_7, z4_8, z4_9, z4_10, z4_11⟩ := cells12 Yh0.out
    go_wp2_with fail
    clear z0_0 z0_1 z0_2 z0_3 z0_4 z0_5 z0_6 z0_7 z0_8 z0_9 z0_10 z0_11 z1_0 z1_1 z1_2 z1_3 z1_4 z1_5 z1_6 z1_7 z1_8 z1_9 z1_10 z1_11 z2_0 z2_1 z2_2 z2_3 z2_4 z2_5 z2_6 z2_7 z2_8 z2_9 z2_10 z2_11 z3_0 z3_1 z3_2 z3_3 z3_4 z3_5 z3_6 z3_7 z3_8 z3_9 z3_10 z3_11 z4_0 z4_1 z4_2 z4_3 z4_4 z4_5 z4_6 z4_7 z4_8 z4_9 z4_10 z4_11
    refine (eqIntS_same Rh1 Rs1 rnh1 rns1 rch1 rcs1 _ _ rh1.out.rd rs1.out.rd le_h1).mono ?_
    rintro e w26 ⟨rfl, bw26⟩
    have sz26 := bw26.size
    replace os0 := Lib.hid (os0.out.below bw26)
    replace os1 := Lib.hid (os1.out.below bw26)
    replace rs0 := Lib.hid (rs0.out.below bw26)
    replace rs1 := Lib.hid (rs1.out.below bw26)
    replace oy00 := Lib.hid (oy00.out.below bw26)
    replace oy11 := Lib.hid (oy11.out.below bw26)
    replace omox0 := Lib.hid (omox0.out.below bw26)
    replace omox1 := Lib.hid (omox1.out.below bw26)
    replace omrg0 := Lib.hid (omrg0.out.below bw26)
    replace omrg1 := Lib.hid (omrg1.out.below bw26)
    replace oh0 := Lib.hid (oh0.out.below bw26)
    replace oh1 := Lib.hid (oh1.out.below bw26)
    replace rh0 := Lib.hid (rh0.out.below bw26)
    replace rh1 := Lib.hid (rh1.out.below bw26)
    replace X0 := Lib.hid (heap_tr bw26 X0.out)
    replace Ys0 := Lib.hid (heap_tr bw26 Ys0.out)
    replace Yx0 := Lib.hid (heap_tr bw26 Yx0.out)
    replace Yg0 := Lib.hid (heap_tr bw26 Yg0.out)
    replace Yh0 := Lib.hid (heap_tr bw26 Yh0.out)
    replace HB := Lib.hid (below_tr HB.out bw26)
    clear bw26
    obtain ⟨z0_0, z0_1, z0_2, z0_3, z0_4, z0_5, z0_6, z0_7, z0_8, z0_9, z0_10, z0_11⟩ := cells12 X0.out
    obtain ⟨z1_0, z1_1, z1_2, z1_3, z1_4, z1_5, z1_6, z1_7, z1_8, z1_9, z1_10, z1_11⟩ := cells12 Ys0.out
    obtain ⟨z2_0, z2_1, z2_2, z2_3, z2_4, z2_5, z2_6, z2_7, z2_8, z2_9, z2_10, z2_11⟩ := cells12 Yx0.out
    obtain ⟨z3_0, z3_1, z3_2, z3_3, z3_4, z3_5, z3_6, z3_7, z3_8, z3_9, z3_10, z3_11⟩ := cells12 Yg0.out
    obtain ⟨z4_0, z4_1, z4_2, z4_3, z4_4, z4_5, z4_6, z4_7, z4_8, z4_9, z4_10, z4_11⟩ := cells12 Yh0.out
    go_wp2_with fail
    clear z0_0 z0_1 z0_2 z0_3 z0_4 z0_5 z0_6 z0_7 z0_8 z0_9 z0_10 z0_11 z1_0 z1_1 z1_2 z1_3 z1_4 z1_5 z1_6 z1_7 z1_8 z1_9 z1_10 z1_11 z2_0 z2_1 z2_2 z2_3 z2_4 z2_5 z2_6 z2_7 z2_8 z2_9 z2_10 z2_11 z3_0 z3_1 z3_2 z3_3 z3_4 z3_5 z3_6 z3_7 z3_8 z3_9 z3_10 z3_11 z4_0 z4_1 z4_2 z4_3 z4_4 z4_5 z4_6 z4_7 z4_8 z4_9 z4_10 z4_11
    refine (heldBoard_any _ Rg0 1 _ omrg0.out.rd resle0.out (by omega) (by omega) (by omega)).mono ?_
    rintro e w27 ⟨rfl, bw27⟩
    have sz27 := bw27.size
    replace os0 := Lib.hid (os0.out.below bw27)
    replace os1 := Lib.hid (os1.out.below bw27)
    replace rs0 := Lib.hid (rs0.out.below bw27)
    replace rs1 := Lib.hid (rs1.out.below bw27)
    replace oy00 := Lib.hid (oy00.out.below bw27)
    replace oy11 := Lib.hid (oy11.out.below bw27)
    replace omox0 := Lib.hid (omox0.out.below bw27)
    replace omox1 := Lib.hid (omox1.out.below bw27)
    replace omrg0 := Lib.hid (omrg0.out.below bw27)
    replace omrg1 := Lib.hid (omrg1.out.below bw27)
    replace oh0 := Lib.hid (oh0.out.below bw27)
    replace oh1 := Lib.hid (oh1.out.below bw27)
    replace rh0 := Lib.hid (rh0.out.below bw27)
    replace rh1 := Lib.hid (rh1.out.below bw27)
    replace X0 := Lib.hid (heap_tr bw27 X0.out)
    replace Ys0 := Lib.hid (heap_tr bw27 Ys0.out)
    replace Yx0 := Lib.hid (heap_tr bw27 Yx0.out)
    replace Yg0 := Lib.hid (heap_tr bw27 Yg0.out)
    replace Yh0 := Lib.hid (heap_tr bw27 Yh0.out)
    replace HB := Lib.hid (below_tr HB.out bw27)
    clear bw27
    obtain ⟨z0_0, z0_1, z0_2, z0_3, z0_4, z0_5, z0_6, z0_7, z0_8, z0_9, z0_10, z0_11⟩ := cells12 X0.out
    obtain ⟨z1_0, z1_1, z1_2, z1_3, z1_4, z1_5, z1_6, z1_7, z1_8, z1_9, z1_10, z1_11⟩ := cells12 Ys0.out
    obtain ⟨z2_0, z2_1, z2_2, z2_3, z2_4, z2_5, z2_6, z2_7, z2_8, z2_9, z2_10, z2_11⟩ := cells12 Yx0.out
    obtain ⟨z3_0, z3_1, z3_2, z3_3, z3_4, z3_5, z3_6, z3_7, z3_8, z3_9, z3_10, z3_11⟩ := cells12 Yg0.out
    obtain ⟨z4_0, z4_1, z4_2, z4_3, z4_4, z4_5, z4_6, z4_7, z4_8, z4_9, z4_10, z4_11⟩ := cells12 Yh0.out
    go_wp2_with fail
    clear z0_0 z0_1 z0_2 z0_3 z0_4 z0_5 z0_6 z0_7 z0_8 z0_9 z0_10 z0_11 z1_0 z1_1 z1_2 z1_3 z1_4 z1_5 z1_6 z1_7 z1_8 z1_9 z1_10 z1_11 z2_0 z2_1 z2_2 z2_3 z2_4 z2_5 z2_6 z2_7 z2_8 z2_9 z2_10 z2_11 z3_0 z3_1 z3_2 z3_3 z3_4 z3_5 z3_6 z3_7 z3_8 z3_9 z3_10 z3_11 z4_0 z4_1 z4_2 z4_3 z4_4 z4_5 z4_6 z4_7 z4_8 z4_9 z4_10 z4_11
    refine (heldIntS_any Rg1 rng1 rcg1 _ _ _ omrg1.out.rd rfl (by omega) (by omega) le_g1).mono ?_
    rintro e w28 ⟨rfl, bw28⟩
    have sz28 := bw28.size
    replace os0 := Lib.hid (os0.out.below bw28)
    replace os1 := Lib.hid (os1.out.below bw28)
    replace rs0 := Lib.hid (rs0.out.below bw28)
    replace rs1 := Lib.hid (rs1.out.below bw28)
    replace oy00 := Lib.hid (oy00.out.below bw28)
    replace oy11 := Lib.hid (oy11.out.below bw28)
    replace omox0 := Lib.hid (omox0.out.below bw28)
    replace omox1 := Lib.hid (omox1.out.below bw28)
    replace omrg0 := Lib.hid (omrg0.out.below bw28)
    replace omrg1 := Lib.hid (omrg1.out.below bw28)
    replace oh0 := Lib.hid (oh0.out.below bw28)
    replace oh1 := Lib.hid (oh1.out.below bw28)
    replace rh0 := Lib.hid (rh0.out.below bw28)
    replace rh1 := Lib.hid (rh1.out.below bw28)
    replace X0 := Lib.hid (heap_tr bw28 X0.out)
    replace Ys0 := Lib.hid (heap_tr bw28 Ys0.out)
    replace Yx0 := Lib.hid (heap_tr bw28 Yx0.out)
    replace Yg0 := Lib.hid (heap_tr bw28 Yg0.out)
    replace Yh0 := Lib.hid (heap_tr bw28 Yh0.out)
    replace HB := Lib.hid (below_tr HB.out bw28)
    clear bw28
    obtain ⟨z0_0, z0_1, z0_2, z0_3, z0_4, z0_5, z0_6, z0_7, z0_8, z0_9, z0_10, z0_11⟩ := cells12 X0.out
    obtain ⟨z1_0, z1_1, z1_2, z1_3, z1_4, z1_5, z1_6, z1_7, z1_8, z1_9, z1_10, z1_11⟩ := cells12 Ys0.out
    obtain ⟨z2_0, z2_1, z2_2, z2_3, z2_4, z2_5, z2_6, z2_7, z2_8, z2_9, z2_10, z2_11⟩ := cells12 Yx0.out
    obtain ⟨z3_0, z3_1, z3_2, z3_3, z3_4, z3_5, z3_6, z3_7, z3_8, z3_9, z3_10, z3_11⟩ := cells12 Yg0.out
    obtain ⟨z4_0, z4_1, z4_2, z4_3, z4_4, z4_5, z4_6, z4_7, z4_8, z4_9, z4_10, z4_11⟩ := cells12 Yh0.out
    go_wp2_with fail
    clear z0_0 z0_1 z0_2 z0_3 z0_4 z0_5 z0_6 z0_7 z0_8 z0_9 z0_10 z0_11 z1_0 z1_1 z1_2 z1_3 z1_4 z1_5 z1_6 z1_7 z1_8 z1_9 z1_10 z1_11 z2_0 z2_1 z2_2 z2_3 z2_4 z2_5 z2_6 z2_7 z2_8 z2_9 z2_10 z2_11 z3_0 z3_1 z3_2 z3_3 z3_4 z3_5 z3_6 z3_7 z3_8 z3_9 z3_10 z3_11 z4_0 z4_1 z4_2 z4_3 z4_4 z4_5 z4_6 z4_7 z4_8 z4_9 z4_10 z4_11
    go_ret
    exact ⟨rfl, HB.out⟩
  · have d1 : decide ((n1 : Int) > 1048576) = true := by simp; omega
    go_enter Tryz.func6, Tryz.ntmps6
    go_wp2_with fail
    go_ret
    exact ⟨rfl, (below_new (Below.refl w.heap.size w) (.cells (bdArr b0 s0) 29))⟩
end Go.Proofs.YtndfaaebflhggaaGreat
