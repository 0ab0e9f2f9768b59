/- The walk of the law FnExactWriteRegion (printed by gen.py). -/
import Derived.Test.YtndfaaebflhggaaGreatCopy
import Derived.Test.YtndfaaebflhggaaGreatNbs
import Derived.Test.YtndfaaebflhggaaGreatObn
import Derived.Test.YtndfaaebflhggaaGreatWr
import Derived.Test.YtndfaaebflhggaaGreatWrS
namespace Go.Proofs.YtndfaaebflhggaaGreat
set_option maxRecDepth 100000
open Go.RowKit
set_option maxHeartbeats 4000000 in
theorem law_writeRegion (b0 : Bd) (s0 : Sl3) (a1 : Int) (A2 : Option Addr) (n2 c2 : Nat) (x2 : List Int) (w : World) (h0 : BoardRd w b0 s0) (m0 : s0.n1 ≤ maxLen) (mm0 : s0.n2 ≤ maxLen) (mn0 : s0.n3 ≤ maxLen) (_q0 : ∀ ys ∈ b0.frames, ys.length ≤ maxLen ∧ ∀ y ∈ ys, Wf y) (_r0 : ∀ ys ∈ b0.saved, ys.length ≤ maxLen ∧ ∀ y ∈ ys, Wf y) (_hw1 : Wf a1) (h2 : Ints w A2 n2 x2) (m2 : n2 ≤ maxLen) (_hw2 : ∀ y ∈ x2, Wf y) :
    Calls Tryz.prog 3 #[.agg (bdArr b0 s0), .int .i64 a1, .slice A2 n2 c2] w fun e w' => e = .returned (.bool true) ∧ Below w.heap.size w w' := by
  unfold maxLen at *
  have H0 := Lib.hid h0
  have H2 := Lib.hid h2
  have Q0 := Lib.hid (rows_len _q0)
  have R0 := Lib.hid (rows_len _r0)
  clear h0 h2 _q0 _r0 _hw1 _hw2
  by_cases g2 : n2 ≤ 1048576
  · have d2 : decide ((n2 : Int) > 1048576) = false := by simp; omega
    go_enter Tryz.func3, Tryz.ntmps3
    have X0 : Hid ((World.alloc w (.cells (bdArr b0 s0) 29)).heap[w.heap.size]? = some (.cells (bdArr b0 s0) 29)) := heap_newAt (by simp)
    have HB := Lib.hid ((below_new (Below.refl w.heap.size w) (.cells (bdArr b0 s0) 29)))
    obtain ⟨z0_0, z0_1, z0_2, z0_3, z0_4, z0_5, z0_6, z0_7, z0_8, z0_9, z0_10, z0_11⟩ := cells12 X0.out
    go_wp2_with fail
    clear z0_0 z0_1 z0_2 z0_3 z0_4 z0_5 z0_6 z0_7 z0_8 z0_9 z0_10 z0_11
    refine (szBoard_any b0 s0 _ (H0.out.below HB.out) (by omega) (by omega) (by omega) Q0.out R0.out).mono ?_
    rintro e w1 ⟨L0, rfl, hx0, bw1⟩
    have sz1 := bw1.size
    simp only [World.size_alloc] at sz1
    replace X0 := Lib.hid (heap_tr bw1 X0.out)
    replace HB := Lib.hid (below_tr HB.out bw1)
    clear bw1
    rcases hx0 with hx0 | ⟨hx0, hy0, hz0⟩
    · have hd : decide (L0 < 0) = true := by simpa using hx0
      obtain ⟨z0_0, z0_1, z0_2, z0_3, z0_4, z0_5, z0_6, z0_7, z0_8, z0_9, z0_10, z0_11⟩ := cells12 X0.out
      go_wp2_with fail
      clear z0_0 z0_1 z0_2 z0_3 z0_4 z0_5 z0_6 z0_7 z0_8 z0_9 z0_10 z0_11
      go_ret
      exact ⟨rfl, HB.out⟩
    have hd0 : decide (L0 < 0) = false := by simp; omega
    have HBD0 : Hid (BdOk b0) := ⟨by omega, by have e2 := H0.out.state.1; omega, by omega⟩
    have resle0 := Lib.hid ((wrB_bb (by decide) (show BdB 1048576 b0 from ⟨by omega, by have e2 := H0.out.state.1; omega, by omega⟩) a1 x2).ok (by decide))
    have resn0 := (wrB_bb (by decide) (show BdB 1048576 b0 from ⟨by omega, by have e2 := H0.out.state.1; omega, by omega⟩) a1 x2).n
    obtain ⟨z0_0, z0_1, z0_2, z0_3, z0_4, z0_5, z0_6, z0_7, z0_8, z0_9, z0_10, z0_11⟩ := cells12 X0.out
    go_wp2_with fail
    clear z0_0 z0_1 z0_2 z0_3 z0_4 z0_5 z0_6 z0_7 z0_8 z0_9 z0_10 z0_11
    refine (toBoard_any b0 s0 _ (H0.out.below HB.out) (by omega) (by omega) (by omega)).mono ?_
    rintro e w2 ⟨ts0, rfl, os0, bw2⟩
    have sz2 := bw2.size
    replace X0 := Lib.hid (heap_tr bw2 X0.out)
    replace HB := Lib.hid (below_tr HB.out bw2)
    replace os0 := Lib.hid os0
    clear bw2
    have hn_ts0 : ts0.n2 ≤ 1048576 := by have e1 := os0.out.rd.state.1; have e2 := H0.out.state.1; omega
    obtain ⟨z0_0, z0_1, z0_2, z0_3, z0_4, z0_5, z0_6, z0_7, z0_8, z0_9, z0_10, z0_11⟩ := cells12 X0.out
    go_wp2_with fail
    clear z0_0 z0_1 z0_2 z0_3 z0_4 z0_5 z0_6 z0_7 z0_8 z0_9 z0_10 z0_11
    refine (toIntS_any A2 n2 c2 x2 _ (H2.out.below HB.out) (by omega)).mono ?_
    rintro e w3 ⟨Bs2, rfl, os2, bw3⟩
    have sz3 := bw3.size
    replace os0 := Lib.hid (os0.out.below bw3)
    replace X0 := Lib.hid (heap_tr bw3 X0.out)
    replace HB := Lib.hid (below_tr HB.out bw3)
    have l_os2 := os2.lies
    replace os2 := Lib.hid os2
    clear bw3
    obtain ⟨z0_0, z0_1, z0_2, z0_3, z0_4, z0_5, z0_6, z0_7, z0_8, z0_9, z0_10, z0_11⟩ := cells12 X0.out
    go_wp2_with fail
    clear z0_0 z0_1 z0_2 z0_3 z0_4 z0_5 z0_6 z0_7 z0_8 z0_9 z0_10 z0_11
    refine (swriteRegion_any b0 ts0 a1 Bs2 n2 n2 x2 _ os0.out.rd os2.out.rd (by omega) (by omega) (by omega) (by omega)).mono ?_
    rintro e w4 ⟨Rs0, rfl, rs0, bw4⟩
    have sz4 := bw4.size
    replace os0 := Lib.hid (os0.out.below bw4)
    replace os2 := Lib.hid (os2.out.below bw4)
    replace X0 := Lib.hid (heap_tr bw4 X0.out)
    replace HB := Lib.hid (below_tr HB.out bw4)
    replace rs0 := Lib.hid rs0
    clear bw4
    replace os0 := Lib.hid (os0.out.below (below_new (Below.refl _ _) (.cells (bdArr (wrB b0 a1 x2) Rs0) 34)))
    replace os2 := Lib.hid (os2.out.below (below_new (Below.refl _ _) (.cells (bdArr (wrB b0 a1 x2) Rs0) 34)))
    replace rs0 := Lib.hid (rs0.out.below (below_new (Below.refl _ _) (.cells (bdArr (wrB b0 a1 x2) Rs0) 34)))
    replace X0 := Lib.hid (heap_al (.cells (bdArr (wrB b0 a1 x2) Rs0) 34) X0.out)
    have Ys0 := Lib.hid (heap_new w4 (.cells (bdArr (wrB b0 a1 x2) Rs0) 34))
    replace HB := Lib.hid (below_new HB.out (.cells (bdArr (wrB b0 a1 x2) Rs0) 34))
    obtain ⟨z0_0, z0_1, z0_2, z0_3, z0_4, z0_5, z0_6, z0_7, z0_8, z0_9, z0_10, z0_11⟩ := cells12 X0.out
    obtain ⟨z1_0, z1_1, z1_2, z1_3, z1_4, z1_5, z1_6, z1_7, z1_8, z1_9, z1_10, z1_11⟩ := cells12 Ys0.out
    go_wp2_with fail
    clear z0_0 z0_1 z0_2 z0_3 z0_4 z0_5 z0_6 z0_7 z0_8 z0_9 z0_10 z0_11 z1_0 z1_1 z1_2 z1_3 z1_4 z1_5 z1_6 z1_7 z1_8 z1_9 z1_10 z1_11
    refine (toBoard_any b0 s0 _ (H0.out.below HB.out) (by omega) (by omega) (by omega)).mono ?_
    rintro e w5 ⟨tx0, rfl, ox0, bw5⟩
    have sz5 := bw5.size
    simp only [World.size_alloc] at sz5
    replace os0 := Lib.hid (os0.out.below bw5)
    replace os2 := Lib.hid (os2.out.below bw5)
    replace rs0 := Lib.hid (rs0.out.below bw5)
    replace X0 := Lib.hid (heap_tr bw5 X0.out)
    replace Ys0 := Lib.hid (heap_tr bw5 Ys0.out)
    replace HB := Lib.hid (below_tr HB.out bw5)
    simp only [World.size_alloc] at ox0
    replace ox0 := Lib.hid ox0
    clear bw5
    have hn_tx0 : tx0.n2 ≤ 1048576 := by have e1 := ox0.out.rd.state.1; have e2 := H0.out.state.1; omega
    replace os0 := Lib.hid (os0.out.below (below_new (Below.refl _ _) (.cells (bdArr b0 tx0) 34)))
    replace os2 := Lib.hid (os2.out.below (below_new (Below.refl _ _) (.cells (bdArr b0 tx0) 34)))
    replace rs0 := Lib.hid (rs0.out.below (below_new (Below.refl _ _) (.cells (bdArr b0 tx0) 34)))
    replace ox0 := Lib.hid (ox0.out.below (below_new (Below.refl _ _) (.cells (bdArr b0 tx0) 34)))
    replace X0 := Lib.hid (heap_al (.cells (bdArr b0 tx0) 34) X0.out)
    replace Ys0 := Lib.hid (heap_al (.cells (bdArr b0 tx0) 34) Ys0.out)
    have Yx0 := Lib.hid (heap_new w5 (.cells (bdArr b0 tx0) 34))
    replace HB := Lib.hid (below_new HB.out (.cells (bdArr b0 tx0) 34))
    obtain ⟨z0_0, z0_1, z0_2, z0_3, z0_4, z0_5, z0_6, z0_7, z0_8, z0_9, z0_10, z0_11⟩ := cells12 X0.out
    obtain ⟨z1_0, z1_1, z1_2, z1_3, z1_4, z1_5, z1_6, z1_7, z1_8, z1_9, z1_10, z1_11⟩ := cells12 Ys0.out
    obtain ⟨z2_0, z2_1, z2_2, z2_3, z2_4, z2_5, z2_6, z2_7, z2_8, z2_9, z2_10, z2_11⟩ := cells12 Yx0.out
    go_wp2_with fail
    clear z0_0 z0_1 z0_2 z0_3 z0_4 z0_5 z0_6 z0_7 z0_8 z0_9 z0_10 z0_11 z1_0 z1_1 z1_2 z1_3 z1_4 z1_5 z1_6 z1_7 z1_8 z1_9 z1_10 z1_11 z2_0 z2_1 z2_2 z2_3 z2_4 z2_5 z2_6 z2_7 z2_8 z2_9 z2_10 z2_11
    refine (toIntS_any A2 n2 c2 x2 _ (H2.out.below HB.out) (by omega)).mono ?_
    rintro e w6 ⟨Bx2, rfl, ox2, bw6⟩
    have sz6 := bw6.size
    simp only [World.size_alloc] at sz6
    replace os0 := Lib.hid (os0.out.below bw6)
    replace os2 := Lib.hid (os2.out.below bw6)
    replace rs0 := Lib.hid (rs0.out.below bw6)
    replace ox0 := Lib.hid (ox0.out.below bw6)
    replace X0 := Lib.hid (heap_tr bw6 X0.out)
    replace Ys0 := Lib.hid (heap_tr bw6 Ys0.out)
    replace Yx0 := Lib.hid (heap_tr bw6 Yx0.out)
    replace HB := Lib.hid (below_tr HB.out bw6)
    simp only [World.size_alloc] at ox2
    have l_ox2 := ox2.lies
    replace ox2 := Lib.hid ox2
    clear bw6
    obtain ⟨z0_0, z0_1, z0_2, z0_3, z0_4, z0_5, z0_6, z0_7, z0_8, z0_9, z0_10, z0_11⟩ := cells12 X0.out
    obtain ⟨z1_0, z1_1, z1_2, z1_3, z1_4, z1_5, z1_6, z1_7, z1_8, z1_9, z1_10, z1_11⟩ := cells12 Ys0.out
    obtain ⟨z2_0, z2_1, z2_2, z2_3, z2_4, z2_5, z2_6, z2_7, z2_8, z2_9, z2_10, z2_11⟩ := cells12 Yx0.out
    go_wp2_with fail
    clear z0_0 z0_1 z0_2 z0_3 z0_4 z0_5 z0_6 z0_7 z0_8 z0_9 z0_10 z0_11 z1_0 z1_1 z1_2 z1_3 z1_4 z1_5 z1_6 z1_7 z1_8 z1_9 z1_10 z1_11 z2_0 z2_1 z2_2 z2_3 z2_4 z2_5 z2_6 z2_7 z2_8 z2_9 z2_10 z2_11
    refine (writeRegion_any b0 tx0 a1 Bx2 n2 n2 x2 _ ox0.out.rd ox2.out.rd (by omega) (by omega) (by omega) (by omega)).mono ?_
    rintro e w7 ⟨Rg0, rfl, rg0, bw7⟩
    have sz7 := bw7.size
    replace os0 := Lib.hid (os0.out.below bw7)
    replace os2 := Lib.hid (os2.out.below bw7)
    replace rs0 := Lib.hid (rs0.out.below bw7)
    replace ox0 := Lib.hid (ox0.out.below bw7)
    replace ox2 := Lib.hid (ox2.out.below bw7)
    replace X0 := Lib.hid (heap_tr bw7 X0.out)
    replace Ys0 := Lib.hid (heap_tr bw7 Ys0.out)
    replace Yx0 := Lib.hid (heap_tr bw7 Yx0.out)
    replace HB := Lib.hid (below_tr HB.out bw7)
    replace rg0 := Lib.hid rg0
    clear bw7
    replace os0 := Lib.hid (os0.out.below (below_new (Below.refl _ _) (.cells (bdArr (wrB b0 a1 x2) Rg0) 34)))
    replace os2 := Lib.hid (os2.out.below (below_new (Below.refl _ _) (.cells (bdArr (wrB b0 a1 x2) Rg0) 34)))
    replace rs0 := Lib.hid (rs0.out.below (below_new (Below.refl _ _) (.cells (bdArr (wrB b0 a1 x2) Rg0) 34)))
    replace ox0 := Lib.hid (ox0.out.below (below_new (Below.refl _ _) (.cells (bdArr (wrB b0 a1 x2) Rg0) 34)))
    replace ox2 := Lib.hid (ox2.out.below (below_new (Below.refl _ _) (.cells (bdArr (wrB b0 a1 x2) Rg0) 34)))
    replace rg0 := Lib.hid (rg0.out.below (below_new (Below.refl _ _) (.cells (bdArr (wrB b0 a1 x2) Rg0) 34)))
    replace X0 := Lib.hid (heap_al (.cells (bdArr (wrB b0 a1 x2) Rg0) 34) X0.out)
    replace Ys0 := Lib.hid (heap_al (.cells (bdArr (wrB b0 a1 x2) Rg0) 34) Ys0.out)
    replace Yx0 := Lib.hid (heap_al (.cells (bdArr (wrB b0 a1 x2) Rg0) 34) Yx0.out)
    have Yg0 := Lib.hid (heap_new w7 (.cells (bdArr (wrB b0 a1 x2) Rg0) 34))
    replace HB := Lib.hid (below_new HB.out (.cells (bdArr (wrB b0 a1 x2) Rg0) 34))
    obtain ⟨z0_0, z0_1, z0_2, z0_3, z0_4, z0_5, z0_6, z0_7, z0_8, z0_9, z0_10, z0_11⟩ := cells12 X0.out
    obtain ⟨z1_0, z1_1, z1_2, z1_3, z1_4, z1_5, z1_6, z1_7, z1_8, z1_9, z1_10, z1_11⟩ := cells12 Ys0.out
    obtain ⟨z2_0, z2_1, z2_2, z2_3, z2_4, z2_5, z2_6, z2_7, z2_8, z2_9, z2_10, z2_11⟩ := cells12 Yx0.out
    obtain ⟨z3_0, z3_1, z3_2, z3_3, z3_4, z3_5, z3_6, z3_7, z3_8, z3_9, z3_10, z3_11⟩ := cells12 Yg0.out
    go_wp2_with fail
    clear z0_0 z0_1 z0_2 z0_3 z0_4 z0_5 z0_6 z0_7 z0_8 z0_9 z0_10 z0_11 z1_0 z1_1 z1_2 z1_3 z1_4 z1_5 z1_6 z1_7 z1_8 z1_9 z1_10 z1_11 z2_0 z2_1 z2_2 z2_3 z2_4 z2_5 z2_6 z2_7 z2_8 z2_9 z2_10 z2_11 z3_0 z3_1 z3_2 z3_3 z3_4 z3_5 z3_6 z3_7 z3_8 z3_9 z3_10 z3_11
    refine (eqBoard_same _ Rg0 Rs0 _ rg0.out.rd rs0.out.rd resle0.out).mono ?_
    rintro e w8 ⟨rfl, bw8⟩
    have sz8 := bw8.size
    simp only [World.size_alloc] at sz8
    replace os0 := Lib.hid (os0.out.below bw8)
    replace os2 := Lib.hid (os2.out.below bw8)
    replace rs0 := Lib.hid (rs0.out.below bw8)
    replace ox0 := Lib.hid (ox0.out.below bw8)
    replace ox2 := Lib.hid (ox2.out.below bw8)
    replace rg0 := Lib.hid (rg0.out.below bw8)
    replace X0 := Lib.hid (heap_tr bw8 X0.out)
    replace Ys0 := Lib.hid (heap_tr bw8 Ys0.out)
    replace Yx0 := Lib.hid (heap_tr bw8 Yx0.out)
    replace Yg0 := Lib.hid (heap_tr bw8 Yg0.out)
    replace HB := Lib.hid (below_tr HB.out bw8)
    clear bw8
    obtain ⟨z0_0, z0_1, z0_2, z0_3, z0_4, z0_5, z0_6, z0_7, z0_8, z0_9, z0_10, z0_11⟩ := cells12 X0.out
    obtain ⟨z1_0, z1_1, z1_2, z1_3, z1_4, z1_5, z1_6, z1_7, z1_8, z1_9, z1_10, z1_11⟩ := cells12 Ys0.out
    obtain ⟨z2_0, z2_1, z2_2, z2_3, z2_4, z2_5, z2_6, z2_7, z2_8, z2_9, z2_10, z2_11⟩ := cells12 Yx0.out
    obtain ⟨z3_0, z3_1, z3_2, z3_3, z3_4, z3_5, z3_6, z3_7, z3_8, z3_9, z3_10, z3_11⟩ := cells12 Yg0.out
    go_wp2_with fail
    have hD := (Below.refl w8.heap.size w8).drew
    have hl_X0 := heap_lt0 X0.out
    have hl_Ys0 := heap_lt0 Ys0.out
    have hl_Yx0 := heap_lt0 Yx0.out
    have hl_Yg0 := heap_lt0 Yg0.out
    go_region_held3 (fun w' => Below w8.heap.size w8 w' ∧ ∀ b o, b < w8.heap.size → w'.cell? ⟨b, o, none⟩ = w8.cell? ⟨b, o, none⟩)
      (first | exact ⟨hD, (bcell hD).1⟩)
      (first
        | (go_at_call 11; refine (toBoard_any b0 s0 _ (H0.out.below (below_tr HB.out hD)) (by omega) (by omega) (by omega)).mono ?_; rintro e w9 ⟨ty00, rfl, oy00, bw9⟩; have sz9 := bw9.size; have sy9 : w8.heap.size ≤ w9.heap.size := bw9.size; replace hD := below_tr hD bw9; replace oy00 := Lib.hid oy00; clear bw9; have hn_ty00 : ty00.n2 ≤ 1048576 := by have e1 := oy00.out.rd.state.1; have e2 := H0.out.state.1; omega)
        | (go_at_call 14; refine (eqBoard_same b0 tx0 ty00 _ (ox0.out.rd.below hD) oy00.out.rd HBD0.out).mono ?_; rintro e w10 ⟨rfl, bw10⟩; have sz10 := bw10.size; have sy10 : w9.heap.size ≤ w10.heap.size := bw10.size; replace oy00 := Lib.hid (oy00.out.below bw10); replace hD := below_tr hD bw10; clear bw10))
    clear z0_0 z0_1 z0_2 z0_3 z0_4 z0_5 z0_6 z0_7 z0_8 z0_9 z0_10 z0_11 z1_0 z1_1 z1_2 z1_3 z1_4 z1_5 z1_6 z1_7 z1_8 z1_9 z1_10 z1_11 z2_0 z2_1 z2_2 z2_3 z2_4 z2_5 z2_6 z2_7 z2_8 z2_9 z2_10 z2_11 z3_0 z3_1 z3_2 z3_3 z3_4 z3_5 z3_6 z3_7 z3_8 z3_9 z3_10 z3_11
    clear hl_X0 hl_Ys0 hl_Yx0 hl_Yg0
    have sda10 : w8.drew.heap.size ≤ w8.heap.size := Nat.le_refl _
    have sdb10 : w8.heap.size ≤ w8.drew.heap.size := Nat.le_refl _
    replace os0 := Lib.hid (os0.out.below hD)
    replace os2 := Lib.hid (os2.out.below hD)
    replace rs0 := Lib.hid (rs0.out.below hD)
    replace ox0 := Lib.hid (ox0.out.below hD)
    replace ox2 := Lib.hid (ox2.out.below hD)
    replace rg0 := Lib.hid (rg0.out.below hD)
    replace X0 := Lib.hid (heap_tr hD X0.out)
    replace Ys0 := Lib.hid (heap_tr hD Ys0.out)
    replace Yx0 := Lib.hid (heap_tr hD Yx0.out)
    replace Yg0 := Lib.hid (heap_tr hD Yg0.out)
    replace HB := Lib.hid (below_tr HB.out hD)
    clear hD
    obtain ⟨z0_0, z0_1, z0_2, z0_3, z0_4, z0_5, z0_6, z0_7, z0_8, z0_9, z0_10, z0_11⟩ := cells12 X0.out
    obtain ⟨z1_0, z1_1, z1_2, z1_3, z1_4, z1_5, z1_6, z1_7, z1_8, z1_9, z1_10, z1_11⟩ := cells12 Ys0.out
    obtain ⟨z2_0, z2_1, z2_2, z2_3, z2_4, z2_5, z2_6, z2_7, z2_8, z2_9, z2_10, z2_11⟩ := cells12 Yx0.out
    obtain ⟨z3_0, z3_1, z3_2, z3_3, z3_4, z3_5, z3_6, z3_7, z3_8, z3_9, z3_10, z3_11⟩ := cells12 Yg0.out
    go_wp2_with fail
    clear z0_0 z0_1 z0_2 z0_3 z0_4 z0_5 z0_6 z0_7 z0_8 z0_9 z0_10 z0_11 z1_0 z1_1 z1_2 z1_3 z1_4 z1_5 z1_6 z1_7 z1_8 z1_9 z1_10 z1_11 z2_0 z2_1 z2_2 z2_3 z2_4 z2_5 z2_6 z2_7 z2_8 z2_9 z2_10 z2_11 z3_0 z3_1 z3_2 z3_3 z3_4 z3_5 z3_6 z3_7 z3_8 z3_9 z3_10 z3_11
    refine (toIntS_any A2 n2 c2 x2 _ (H2.out.below HB.out) (by omega)).mono ?_
    rintro e w11 ⟨By22, rfl, oy22, bw11⟩
    have sz11 := bw11.size
    replace os0 := Lib.hid (os0.out.below bw11)
    replace os2 := Lib.hid (os2.out.below bw11)
    replace rs0 := Lib.hid (rs0.out.below bw11)
    replace ox0 := Lib.hid (ox0.out.below bw11)
    replace ox2 := Lib.hid (ox2.out.below bw11)
    replace rg0 := Lib.hid (rg0.out.below bw11)
    replace oy00 := Lib.hid (oy00.out.below bw11)
    replace X0 := Lib.hid (heap_tr bw11 X0.out)
    replace Ys0 := Lib.hid (heap_tr bw11 Ys0.out)
    replace Yx0 := Lib.hid (heap_tr bw11 Yx0.out)
    replace Yg0 := Lib.hid (heap_tr bw11 Yg0.out)
    replace HB := Lib.hid (below_tr HB.out bw11)
    have l_oy22 := oy22.lies
    replace oy22 := Lib.hid oy22
    clear bw11
    obtain ⟨z0_0, z0_1, z0_2, z0_3, z0_4, z0_5, z0_6, z0_7, z0_8, z0_9, z0_10, z0_11⟩ := cells12 X0.out
    obtain ⟨z1_0, z1_1, z1_2, z1_3, z1_4, z1_5, z1_6, z1_7, z1_8, z1_9, z1_10, z1_11⟩ := cells12 Ys0.out
    obtain ⟨z2_0, z2_1, z2_2, z2_3, z2_4, z2_5, z2_6, z2_7, z2_8, z2_9, z2_10, z2_11⟩ := cells12 Yx0.out
    obtain ⟨z3_0, z3_1, z3_2, z3_3, z3_4, z3_5, z3_6, z3_7, z3_8, z3_9, z3_10, z3_11⟩ := cells12 Yg0.out
    go_wp2_with fail
    clear z0_0 z0_1 z0_2 z0_3 z0_4 z0_5 z0_6 z0_7 z0_8 z0_9 z0_10 z0_11 z1_0 z1_1 z1_2 z1_3 z1_4 z1_5 z1_6 z1_7 z1_8 z1_9 z1_10 z1_11 z2_0 z2_1 z2_2 z2_3 z2_4 z2_5 z2_6 z2_7 z2_8 z2_9 z2_10 z2_11 z3_0 z3_1 z3_2 z3_3 z3_4 z3_5 z3_6 z3_7 z3_8 z3_9 z3_10 z3_11
    refine (eqIntS_same Bx2 By22 n2 n2 n2 n2 x2 _ ox2.out.rd oy22.out.rd (by omega)).mono ?_
    rintro e w12 ⟨rfl, bw12⟩
    have sz12 := bw12.size
    replace os0 := Lib.hid (os0.out.below bw12)
    replace os2 := Lib.hid (os2.out.below bw12)
    replace rs0 := Lib.hid (rs0.out.below bw12)
    replace ox0 := Lib.hid (ox0.out.below bw12)
    replace ox2 := Lib.hid (ox2.out.below bw12)
    replace rg0 := Lib.hid (rg0.out.below bw12)
    replace oy00 := Lib.hid (oy00.out.below bw12)
    replace oy22 := Lib.hid (oy22.out.below bw12)
    replace X0 := Lib.hid (heap_tr bw12 X0.out)
    replace Ys0 := Lib.hid (heap_tr bw12 Ys0.out)
    replace Yx0 := Lib.hid (heap_tr bw12 Yx0.out)
    replace Yg0 := Lib.hid (heap_tr bw12 Yg0.out)
    replace HB := Lib.hid (below_tr HB.out bw12)
    clear bw12
    have bz0 : bdN b0 ≤ 2097152 := by have e2 := H0.out.state.1; unfold bdN; unfold size2 at hz0; omega
    obtain ⟨z0_0, z0_1, z0_2, z0_3, z0_4, z0_5, z0_6, z0_7, z0_8, z0_9, z0_10, z0_11⟩ := cells12 X0.out
    obtain ⟨z1_0, z1_1, z1_2, z1_3, z1_4, z1_5, z1_6, z1_7, z1_8, z1_9, z1_10, z1_11⟩ := cells12 Ys0.out
    obtain ⟨z2_0, z2_1, z2_2, z2_3, z2_4, z2_5, z2_6, z2_7, z2_8, z2_9, z2_10, z2_11⟩ := cells12 Yx0.out
    obtain ⟨z3_0, z3_1, z3_2, z3_3, z3_4, z3_5, z3_6, z3_7, z3_8, z3_9, z3_10, z3_11⟩ := cells12 Yg0.out
    go_wp2_with fail
    clear z0_0 z0_1 z0_2 z0_3 z0_4 z0_5 z0_6 z0_7 z0_8 z0_9 z0_10 z0_11 z1_0 z1_1 z1_2 z1_3 z1_4 z1_5 z1_6 z1_7 z1_8 z1_9 z1_10 z1_11 z2_0 z2_1 z2_2 z2_3 z2_4 z2_5 z2_6 z2_7 z2_8 z2_9 z2_10 z2_11 z3_0 z3_1 z3_2 z3_3 z3_4 z3_5 z3_6 z3_7 z3_8 z3_9 z3_10 z3_11
    refine (markBoard_chg _ _ b0 tx0 1 _ ox0.out (by omega) ⟨by omega, by have e2 := H0.out.state.1; omega, by omega⟩ (by omega) (by omega) (by omega)).mono ?_
    rintro e w13 ⟨rfl, omox0, gw13⟩
    have sz13 := gw13.size
    replace os0 := Lib.hid (os0.out.chg gw13 (by omega))
    replace os2 := Lib.hid (os2.out.chg gw13 l_os2 (by omega))
    replace rs0 := Lib.hid (rs0.out.chg gw13 (by omega))
    replace ox2 := Lib.hid (ox2.out.chg gw13 l_ox2 (by omega))
    replace rg0 := Lib.hid (rg0.out.chg gw13 (by omega))
    replace oy00 := Lib.hid (oy00.out.chg gw13 (by omega))
    replace oy22 := Lib.hid (oy22.out.chg gw13 l_oy22 (by omega))
    replace X0 := Lib.hid ((gw13.block _ (heap_lt0 X0.out) (by omega)).trans X0.out)
    replace Ys0 := Lib.hid ((gw13.block _ (heap_lt0 Ys0.out) (by omega)).trans Ys0.out)
    replace Yx0 := Lib.hid ((gw13.block _ (heap_lt0 Yx0.out) (by omega)).trans Yx0.out)
    replace Yg0 := Lib.hid ((gw13.block _ (heap_lt0 Yg0.out) (by omega)).trans Yg0.out)
    replace HB := Lib.hid (below_chg HB.out gw13 (by omega))
    clear ox0 gw13
    replace omox0 := Lib.hid omox0
    obtain ⟨z0_0, z0_1, z0_2, z0_3, z0_4, z0_5, z0_6, z0_7, z0_8, z0_9, z0_10, z0_11⟩ := cells12 X0.out
    obtain ⟨z1_0, z1_1, z1_2, z1_3, z1_4, z1_5, z1_6, z1_7, z1_8, z1_9, z1_10, z1_11⟩ := cells12 Ys0.out
    obtain ⟨z2_0, z2_1, z2_2, z2_3, z2_4, z2_5, z2_6, z2_7, z2_8, z2_9, z2_10, z2_11⟩ := cells12 Yx0.out
    obtain ⟨z3_0, z3_1, z3_2, z3_3, z3_4, z3_5, z3_6, z3_7, z3_8, z3_9, z3_10, z3_11⟩ := cells12 Yg0.out
    go_wp2_with fail
    clear z0_0 z0_1 z0_2 z0_3 z0_4 z0_5 z0_6 z0_7 z0_8 z0_9 z0_10 z0_11 z1_0 z1_1 z1_2 z1_3 z1_4 z1_5 z1_6 z1_7 z1_8 z1_9 z1_10 z1_11 z2_0 z2_1 z2_2 z2_3 z2_4 z2_5 z2_6 z2_7 z2_8 z2_9 z2_10 z2_11 z3_0 z3_1 z3_2 z3_3 z3_4 z3_5 z3_6 z3_7 z3_8 z3_9 z3_10 z3_11
    refine (markIntS_chg _ _ _ Bx2 n2 n2 x2 _ _ ox2.out l_ox2 (by omega) (by omega) (by omega)).mono ?_
    rintro e w14 ⟨rfl, omox2, gw14⟩
    have sz14 := gw14.size
    replace os0 := Lib.hid (os0.out.chg gw14 (by omega))
    replace os2 := Lib.hid (os2.out.chg gw14 l_os2 (by omega))
    replace rs0 := Lib.hid (rs0.out.chg gw14 (by omega))
    replace rg0 := Lib.hid (rg0.out.chg gw14 (by omega))
    replace oy00 := Lib.hid (oy00.out.chg gw14 (by omega))
    replace oy22 := Lib.hid (oy22.out.chg gw14 l_oy22 (by omega))
    replace omox0 := Lib.hid (omox0.out.chg gw14 (by omega))
    replace X0 := Lib.hid ((gw14.block _ (heap_lt0 X0.out) (by omega)).trans X0.out)
    replace Ys0 := Lib.hid ((gw14.block _ (heap_lt0 Ys0.out) (by omega)).trans Ys0.out)
    replace Yx0 := Lib.hid ((gw14.block _ (heap_lt0 Yx0.out) (by omega)).trans Yx0.out)
    replace Yg0 := Lib.hid ((gw14.block _ (heap_lt0 Yg0.out) (by omega)).trans Yg0.out)
    replace HB := Lib.hid (below_chg HB.out gw14 (by omega))
    clear ox2 gw14
    replace omox2 := Lib.hid omox2
    obtain ⟨z0_0, z0_1, z0_2, z0_3, z0_4, z0_5, z0_6, z0_7, z0_8, z0_9, z0_10, z0_11⟩ := cells12 X0.out
    obtain ⟨z1_0, z1_1, z1_2, z1_3, z1_4, z1_5, z1_6, z1_7, z1_8, z1_9, z1_10, z1_11⟩ := cells12 Ys0.out
    obtain ⟨z2_0, z2_1, z2_2, z2_3, z2_4, z2_5, z2_6, z2_7, z2_8, z2_9, z2_10, z2_11⟩ := cells12 Yx0.out
    obtain ⟨z3_0, z3_1, z3_2, z3_3, z3_4, z3_5, z3_6, z3_7, z3_8, z3_9, z3_10, z3_11⟩ := cells12 Yg0.out
    go_wp2_with fail
    clear z0_0 z0_1 z0_2 z0_3 z0_4 z0_5 z0_6 z0_7 z0_8 z0_9 z0_10 z0_11 z1_0 z1_1 z1_2 z1_3 z1_4 z1_5 z1_6 z1_7 z1_8 z1_9 z1_10 z1_11 z2_0 z2_1 z2_2 z2_3 z2_4 z2_5 z2_6 z2_7 z2_8 z2_9 z2_10 z2_11 z3_0 z3_1 z3_2 z3_3 z3_4 z3_5 z3_6 z3_7 z3_8 z3_9 z3_10 z3_11
    refine (eqBoard_same _ Rg0 Rs0 _ rg0.out.rd rs0.out.rd resle0.out).mono ?_
    rintro e w15 ⟨rfl, bw15⟩
    have sz15 := bw15.size
    replace os0 := Lib.hid (os0.out.below bw15)
    replace os2 := Lib.hid (os2.out.below bw15)
    replace rs0 := Lib.hid (rs0.out.below bw15)
    replace rg0 := Lib.hid (rg0.out.below bw15)
    replace oy00 := Lib.hid (oy00.out.below bw15)
    replace oy22 := Lib.hid (oy22.out.below bw15)
    replace omox0 := Lib.hid (omox0.out.below bw15)
    replace omox2 := Lib.hid (omox2.out.below bw15)
    replace X0 := Lib.hid (heap_tr bw15 X0.out)
    replace Ys0 := Lib.hid (heap_tr bw15 Ys0.out)
    replace Yx0 := Lib.hid (heap_tr bw15 Yx0.out)
    replace Yg0 := Lib.hid (heap_tr bw15 Yg0.out)
    replace HB := Lib.hid (below_tr HB.out bw15)
    clear bw15
    obtain ⟨z0_0, z0_1, z0_2, z0_3, z0_4, z0_5, z0_6, z0_7, z0_8, z0_9, z0_10, z0_11⟩ := cells12 X0.out
    obtain ⟨z1_0, z1_1, z1_2, z1_3, z1_4, z1_5, z1_6, z1_7, z1_8, z1_9, z1_10, z1_11⟩ := cells12 Ys0.out
    obtain ⟨z2_0, z2_1, z2_2, z2_3, z2_4, z2_5, z2_6, z2_7, z2_8, z2_9, z2_10, z2_11⟩ := cells12 Yx0.out
    obtain ⟨z3_0, z3_1, z3_2, z3_3, z3_4, z3_5, z3_6, z3_7, z3_8, z3_9, z3_10, z3_11⟩ := cells12 Yg0.out
    go_wp2_with fail
    clear z0_0 z0_1 z0_2 z0_3 z0_4 z0_5 z0_6 z0_7 z0_8 z0_9 z0_10 z0_11 z1_0 z1_1 z1_2 z1_3 z1_4 z1_5 z1_6 z1_7 z1_8 z1_9 z1_10 z1_11 z2_0 z2_1 z2_2 z2_3 z2_4 z2_5 z2_6 z2_7 z2_8 z2_9 z2_10 z2_11 z3_0 z3_1 z3_2 z3_3 z3_4 z3_5 z3_6 z3_7 z3_8 z3_9 z3_10 z3_11
    refine (markBoard_fp _ _ _ Rg0 1 _ rg0.out (by omega) resle0.out (by omega) (by omega) (by omega)).mono ?_
    rintro e w16 ⟨rfl, omrg0, gw16⟩
    have sz16 := gw16.size
    replace os0 := Lib.hid (os0.out.chg gw16 (by omega))
    replace os2 := Lib.hid (os2.out.chg gw16 l_os2 (by omega))
    replace rs0 := Lib.hid (rs0.out.chg gw16 (by omega))
    replace oy00 := Lib.hid (oy00.out.chg gw16 (by omega))
    replace oy22 := Lib.hid (oy22.out.chg gw16 l_oy22 (by omega))
    replace omox0 := Lib.hid (omox0.out.chg gw16 (by omega))
    replace omox2 := Lib.hid (omox2.out.chg gw16 l_ox2 (by omega))
    replace X0 := Lib.hid ((gw16.block _ (heap_lt0 X0.out) (by omega)).trans X0.out)
    replace Ys0 := Lib.hid ((gw16.block _ (heap_lt0 Ys0.out) (by omega)).trans Ys0.out)
    replace Yx0 := Lib.hid ((gw16.block _ (heap_lt0 Yx0.out) (by omega)).trans Yx0.out)
    replace Yg0 := Lib.hid ((gw16.block _ (heap_lt0 Yg0.out) (by omega)).trans Yg0.out)
    replace HB := Lib.hid (below_chg HB.out gw16 (by omega))
    clear rg0 gw16
    replace omrg0 := Lib.hid omrg0
    obtain ⟨z0_0, z0_1, z0_2, z0_3, z0_4, z0_5, z0_6, z0_7, z0_8, z0_9, z0_10, z0_11⟩ := cells12 X0.out
    obtain ⟨z1_0, z1_1, z1_2, z1_3, z1_4, z1_5, z1_6, z1_7, z1_8, z1_9, z1_10, z1_11⟩ := cells12 Ys0.out
    obtain ⟨z2_0, z2_1, z2_2, z2_3, z2_4, z2_5, z2_6, z2_7, z2_8, z2_9, z2_10, z2_11⟩ := cells12 Yx0.out
    obtain ⟨z3_0, z3_1, z3_2, z3_3, z3_4, z3_5, z3_6, z3_7, z3_8, z3_9, z3_10, z3_11⟩ := cells12 Yg0.out
    go_wp2_with fail
    clear z0_0 z0_1 z0_2 z0_3 z0_4 z0_5 z0_6 z0_7 z0_8 z0_9 z0_10 z0_11 z1_0 z1_1 z1_2 z1_3 z1_4 z1_5 z1_6 z1_7 z1_8 z1_9 z1_10 z1_11 z2_0 z2_1 z2_2 z2_3 z2_4 z2_5 z2_6 z2_7 z2_8 z2_9 z2_10 z2_11 z3_0 z3_1 z3_2 z3_3 z3_4 z3_5 z3_6 z3_7 z3_8 z3_9 z3_10 z3_11
    refine (heldBoard_any _ Rg0 1 _ omrg0.out.rd resle0.out (by omega) (by omega) (by omega)).mono ?_
    rintro e w17 ⟨rfl, bw17⟩
    have sz17 := bw17.size
    replace os0 := Lib.hid (os0.out.below bw17)
    replace os2 := Lib.hid (os2.out.below bw17)
    replace rs0 := Lib.hid (rs0.out.below bw17)
    replace oy00 := Lib.hid (oy00.out.below bw17)
    replace oy22 := Lib.hid (oy22.out.below bw17)
    replace omox0 := Lib.hid (omox0.out.below bw17)
    replace omox2 := Lib.hid (omox2.out.below bw17)
    replace omrg0 := Lib.hid (omrg0.out.below bw17)
    replace X0 := Lib.hid (heap_tr bw17 X0.out)
    replace Ys0 := Lib.hid (heap_tr bw17 Ys0.out)
    replace Yx0 := Lib.hid (heap_tr bw17 Yx0.out)
    replace Yg0 := Lib.hid (heap_tr bw17 Yg0.out)
    replace HB := Lib.hid (below_tr HB.out bw17)
    clear bw17
    obtain ⟨z0_0, z0_1, z0_2, z0_3, z0_4, z0_5, z0_6, z0_7, z0_8, z0_9, z0_10, z0_11⟩ := cells12 X0.out
    obtain ⟨z1_0, z1_1, z1_2, z1_3, z1_4, z1_5, z1_6, z1_7, z1_8, z1_9, z1_10, z1_11⟩ := cells12 Ys0.out
    obtain ⟨z2_0, z2_1, z2_2, z2_3, z2_4, z2_5, z2_6, z2_7, z2_8, z2_9, z2_10, z2_11⟩ := cells12 Yx0.out
    obtain ⟨z3_0, z3_1, z3_2, z3_3, z3_4, z3_5, z3_6, z3_7, z3_8, z3_9, z3_10, z3_11⟩ := cells12 Yg0.out
    go_wp2_with fail
    clear z0_0 z0_1 z0_2 z0_3 z0_4 z0_5 z0_6 z0_7 z0_8 z0_9 z0_10 z0_11 z1_0 z1_1 z1_2 z1_3 z1_4 z1_5 z1_6 z1_7 z1_8 z1_9 z1_10 z1_11 z2_0 z2_1 z2_2 z2_3 z2_4 z2_5 z2_6 z2_7 z2_8 z2_9 z2_10 z2_11 z3_0 z3_1 z3_2 z3_3 z3_4 z3_5 z3_6 z3_7 z3_8 z3_9 z3_10 z3_11
    refine (toBoard_any b0 s0 _ (H0.out.below HB.out) (by omega) (by omega) (by omega)).mono ?_
    rintro e w18 ⟨th0, rfl, oh0, bw18⟩
    have sz18 := bw18.size
    replace os0 := Lib.hid (os0.out.below bw18)
    replace os2 := Lib.hid (os2.out.below bw18)
    replace rs0 := Lib.hid (rs0.out.below bw18)
    replace oy00 := Lib.hid (oy00.out.below bw18)
    replace oy22 := Lib.hid (oy22.out.below bw18)
    replace omox0 := Lib.hid (omox0.out.below bw18)
    replace omox2 := Lib.hid (omox2.out.below bw18)
    replace omrg0 := Lib.hid (omrg0.out.below bw18)
    replace X0 := Lib.hid (heap_tr bw18 X0.out)
    replace Ys0 := Lib.hid (heap_tr bw18 Ys0.out)
    replace Yx0 := Lib.hid (heap_tr bw18 Yx0.out)
    replace Yg0 := Lib.hid (heap_tr bw18 Yg0.out)
    replace HB := Lib.hid (below_tr HB.out bw18)
    replace oh0 := Lib.hid oh0
    clear bw18
    have hn_th0 : th0.n2 ≤ 1048576 := by have e1 := oh0.out.rd.state.1; have e2 := H0.out.state.1; omega
    obtain ⟨z0_0, z0_1, z0_2, z0_3, z0_4, z0_5, z0_6, z0_7, z0_8, z0_9, z0_10, z0_11⟩ := cells12 X0.out
    obtain ⟨z1_0, z1_1, z1_2, z1_3, z1_4, z1_5, z1_6, z1_7, z1_8, z1_9, z1_10, z1_11⟩ := cells12 Ys0.out
    obtain ⟨z2_0, z2_1, z2_2, z2_3, z2_4, z2_5, z2_6, z2_7, z2_8, z2_9, z2_10, z2_11⟩ := cells12 Yx0.out
    obtain ⟨z3_0, z3_1, z3_2, z3_3, z3_4, z3_5, z3_6, z3_7, z3_8, z3_9, z3_10, z3_11⟩ := cells12 Yg0.out
    go_wp2_with fail
    clear z0_0 z0_1 z0_2 z0_3 z0_4 z0_5 z0_6 z0_7 z0_8 z0_9 z0_10 z0_11 z1_0 z1_1 z1_2 z1_3 z1_4 z1_5 z1_6 z1_7 z1_8 z1_9 z1_10 z1_11 z2_0 z2_1 z2_2 z2_3 z2_4 z2_5 z2_6 z2_7 z2_8 z2_9 z2_10 z2_11 z3_0 z3_1 z3_2 z3_3 z3_4 z3_5 z3_6 z3_7 z3_8 z3_9 z3_10 z3_11
    refine (toIntS_any A2 n2 c2 x2 _ (H2.out.below HB.out) (by omega)).mono ?_
    rintro e w19 ⟨Bh2, rfl, oh2, bw19⟩
    have sz19 := bw19.size
    replace os0 := Lib.hid (os0.out.below bw19)
    replace os2 := Lib.hid (os2.out.below bw19)
    replace rs0 := Lib.hid (rs0.out.below bw19)
    replace oy00 := Lib.hid (oy00.out.below bw19)
    replace oy22 := Lib.hid (oy22.out.below bw19)
    replace omox0 := Lib.hid (omox0.out.below bw19)
    replace omox2 := Lib.hid (omox2.out.below bw19)
    replace omrg0 := Lib.hid (omrg0.out.below bw19)
    replace oh0 := Lib.hid (oh0.out.below bw19)
    replace X0 := Lib.hid (heap_tr bw19 X0.out)
    replace Ys0 := Lib.hid (heap_tr bw19 Ys0.out)
    replace Yx0 := Lib.hid (heap_tr bw19 Yx0.out)
    replace Yg0 := Lib.hid (heap_tr bw19 Yg0.out)
    replace HB := Lib.hid (below_tr HB.out bw19)
    have l_oh2 := oh2.lies
    replace oh2 := Lib.hid oh2
    clear bw19
    obtain ⟨z0_0, z0_1, z0_2, z0_3, z0_4, z0_5, z0_6, z0_7, z0_8, z0_9, z0_10, z0_11⟩ := cells12 X0.out
    obtain ⟨z1_0, z1_1, z1_2, z1_3, z1_4, z1_5, z1_6, z1_7, z1_8, z1_9, z1_10, z1_11⟩ := cells12 Ys0.out
    obtain ⟨z2_0, z2_1, z2_2, z2_3, z2_4, z2_5, z2_6, z2_7, z2_8, z2_9, z2_10, z2_11⟩ := cells12 Yx0.out
    obtain ⟨z3_0, z3_1, z3_2, z3_3, z3_4, z3_5, z3_6, z3_7, z3_8, z3_9, z3_10, z3_11⟩ := cells12 Yg0.out
    go_wp2_with fail
    clear z0_0 z0_1 z0_2 z0_3 z0_4 z0_5 z0_6 z0_7 z0_8 z0_9 z0_10 z0_11 z1_0 z1_1 z1_2 z1_3 z1_4 z1_5 z1_6 z1_7 z1_8 z1_9 z1_10 z1_11 z2_0 z2_1 z2_2 z2_3 z2_4 z2_5 z2_6 z2_7 z2_8 z2_9 z2_10 z2_11 z3_0 z3_1 z3_2 z3_3 z3_4 z3_5 z3_6 z3_7 z3_8 z3_9 z3_10 z3_11
    refine (writeRegion_any b0 th0 a1 Bh2 n2 n2 x2 _ oh0.out.rd oh2.out.rd (by omega) (by omega) (by omega) (by omega)).mono ?_
    rintro e w20 ⟨Rh0, rfl, rh0, bw20⟩
    have sz20 := bw20.size
    replace os0 := Lib.hid (os0.out.below bw20)
    replace os2 := Lib.hid (os2.out.below bw20)
    replace rs0 := Lib.hid (rs0.out.below bw20)
    replace oy00 := Lib.hid (oy00.out.below bw20)
    replace oy22 := Lib.hid (oy22.out.below bw20)
    replace omox0 := Lib.hid (omox0.out.below bw20)
    replace omox2 := Lib.hid (omox2.out.below bw20)
    replace omrg0 := Lib.hid (omrg0.out.below bw20)
    replace oh0 := Lib.hid (oh0.out.below bw20)
    replace oh2 := Lib.hid (oh2.out.below bw20)
    replace X0 := Lib.hid (heap_tr bw20 X0.out)
    replace Ys0 := Lib.hid (heap_tr bw20 Ys0.out)
    replace Yx0 := Lib.hid (heap_tr bw20 Yx0.out)
    replace Yg0 := Lib.hid (heap_tr bw20 Yg0.out)
    replace HB := Lib.hid (below_tr HB.out bw20)
    replace rh0 := Lib.hid rh0
    clear bw20
    replace os0 := Lib.hid (os0.out.below (below_new (Below.refl _ _) (.cells (bdArr (wrB b0 a1 x2) Rh0) 34)))
    replace os2 := Lib.hid (os2.out.below (below_new (Below.refl _ _) (.cells (bdArr (wrB b0 a1 x2) Rh0) 34)))
    replace rs0 := Lib.hid (rs0.out.below (below_new (Below.refl _ _) (.cells (bdArr (wrB b0 a1 x2) Rh0) 34)))
    replace oy00 := Lib.hid (oy00.out.below (below_new (Below.refl _ _) (.cells (bdArr (wrB b0 a1 x2) Rh0) 34)))
    replace oy22 := Lib.hid (oy22.out.below (below_new (Below.refl _ _) (.cells (bdArr (wrB b0 a1 x2) Rh0) 34)))
    replace omox0 := Lib.hid (omox0.out.below (below_new (Below.refl _ _) (.cells (bdArr (wrB b0 a1 x2) Rh0) 34)))
    replace omox2 := Lib.hid (omox2.out.below (below_new (Below.refl _ _) (.cells (bdArr (wrB b0 a1 x2) Rh0) 34)))
    replace omrg0 := Lib.hid (omrg0.out.below (below_new (Below.refl _ _) (.cells (bdArr (wrB b0 a1 x2) Rh0) 34)))
    replace oh0 := Lib.hid (oh0.out.below (below_new (Below.refl _ _) (.cells (bdArr (wrB b0 a1 x2) Rh0) 34)))
    replace oh2 := Lib.hid (oh2.out.below (below_new (Below.refl _ _) (.cells (bdArr (wrB b0 a1 x2) Rh0) 34)))
    replace rh0 := Lib.hid (rh0.out.below (below_new (Below.refl _ _) (.cells (bdArr (wrB b0 a1 x2) Rh0) 34)))
    replace X0 := Lib.hid (heap_al (.cells (bdArr (wrB b0 a1 x2) Rh0) 34) X0.out)
    replace Ys0 := Lib.hid (heap_al (.cells (bdArr (wrB b0 a1 x2) Rh0) 34) Ys0.out)
    replace Yx0 := Lib.hid (heap_al (.cells (bdArr (wrB b0 a1 x2) Rh0) 34) Yx0.out)
    replace Yg0 := Lib.hid (heap_al (.cells (bdArr (wrB b0 a1 x2) Rh0) 34) Yg0.out)
    have Yh0 := Lib.hid (heap_new w20 (.cells (bdArr (wrB b0 a1 x2) Rh0) 34))
    replace HB := Lib.hid (below_new HB.out (.cells (bdArr (wrB b0 a1 x2) Rh0) 34))
    obtain ⟨z0_0, z0_1, z0_2, z0_3, z0_4, z0_5, z0_6, z0_7, z0_8, z0_9, z0_10, z0_11⟩ := cells12 X0.out
    obtain ⟨z1_0, z1_1, z1_2, z1_3, z1_4, z1_5, z1_6, z1_7, z1_8, z1_9, z1_10, z1_11⟩ := cells12 Ys0.out
    obtain ⟨z2_0, z2_1, z2_2, z2_3, z2_4, z2_5, z2_6, z2_7, z2_8, z2_9, z2_10, z2_11⟩ := cells12 Yx0.out
    obtain ⟨z3_0, z3_1, z3_2, z3_3, z3_4, z3_5, z3_6, z3_7, z3_8, z3_9, z3_10, z3_11⟩ := cells12 Yg0.out
    obtain ⟨z4_0, z4_1, z4_2, z4_3, z4_4, z4_5, z4_6, z4_7, z4_8, z4_9, z4_10, z4_11⟩ := cells12 Yh0.out
    go_wp2_with fail
    clear z0_0 z0_1 z0_2 z0_3 z0_4 z0_5 z0_6 z0_7 z0_8 z0_9 z0_10 z0_11 z1_0 z1_1 z1_2 z1_3 z1_4 z1_5 z1_6 z1_7 z1_8 z1_9 z1_10 z1_11 z2_0 z2_1 z2_2 z2_3 z2_4 z2_5 z2_6 z2_7 z2_8 z2_9 z2_10 z2_11 z3_0 z3_1 z3_2 z3_3 z3_4 z3_5 z3_6 z3_7 z3_8 z3_9 z3_10 z3_11 z4_0 z4_1 z4_2 z4_3 z4_4 z4_5 z4_6 z4_7 z4_8 z4_9 z4_10 z4_11
    refine (eqBoard_same _ Rh0 Rs0 _ rh0.out.rd rs0.out.rd resle0.out).mono ?_
    rintro e w21 ⟨rfl, bw21⟩
    have sz21 := bw21.size
    simp only [World.size_alloc] at sz21
    replace os0 := Lib.hid (os0.out.below bw21)
    replace os2 := Lib.hid (os2.out.below bw21)
    replace rs0 := Lib.hid (rs0.out.below bw21)
    replace oy00 := Lib.hid (oy00.out.below bw21)
    replace oy22 := Lib.hid (oy22.out.below bw21)
    replace omox0 := Lib.hid (omox0.out.below bw21)
    replace omox2 := Lib.hid (omox2.out.below bw21)
    replace omrg0 := Lib.hid (omrg0.out.below bw21)
    replace oh0 := Lib.hid (oh0.out.below bw21)
    replace oh2 := Lib.hid (oh2.out.below bw21)
    replace rh0 := Lib.hid (rh0.out.below bw21)
    replace X0 := Lib.hid (heap_tr bw21 X0.out)
    replace Ys0 := Lib.hid (heap_tr bw21 Ys0.out)
    replace Yx0 := Lib.hid (heap_tr bw21 Yx0.out)
    replace Yg0 := Lib.hid (heap_tr bw21 Yg0.out)
    replace Yh0 := Lib.hid (heap_tr bw21 Yh0.out)
    replace HB := Lib.hid (below_tr HB.out bw21)
    clear bw21
    obtain ⟨z0_0, z0_1, z0_2, z0_3, z0_4, z0_5, z0_6, z0_7, z0_8, z0_9, z0_10, z0_11⟩ := cells12 X0.out
    obtain ⟨z1_0, z1_1, z1_2, z1_3, z1_4, z1_5, z1_6, z1_7, z1_8, z1_9, z1_10, z1_11⟩ := cells12 Ys0.out
    obtain ⟨z2_0, z2_1, z2_2, z2_3, z2_4, z2_5, z2_6, z2_7, z2_8, z2_9, z2_10, z2_11⟩ := cells12 Yx0.out
    obtain ⟨z3_0, z3_1, z3_2, z3_3, z3_4, z3_5, z3_6, z3_7, z3_8, z3_9, z3_10, z3_11⟩ := cells12 Yg0.out
    obtain ⟨z4_0, z4_1, z4_2, z4_3, z4_4, z4_5, z4_6, z4_7, z4_8, z4_9, z4_10, z4_11⟩ := cells12 Yh0.out
    go_wp2_with fail
    clear z0_0 z0_1 z0_2 z0_3 z0_4 z0_5 z0_6 z0_7 z0_8 z0_9 z0_10 z0_11 z1_0 z1_1 z1_2 z1_3 z1_4 z1_5 z1_6 z1_7 z1_8 z1_9 z1_10 z1_11 z2_0 z2_1 z2_2 z2_3 z2_4 z2_5 z2_6 z2_7 z2_8 z2_9 z2_10 z2_11 z3_0 z3_1 z3_2 z3_3 z3_4 z3_5 z3_6 z3_7 z3_8 z3_9 z3_10 z3_11 z4_0 z4_1 z4_2 z4_3 z4_4 z4_5 z4_6 z4_7 z4_8 z4_9 z4_10 z4_11
    refine (heldBoard_any _ Rg0 1 _ omrg0.out.rd resle0.out (by omega) (by omega) (by omega)).mono ?_
    rintro e w22 ⟨rfl, bw22⟩
    have sz22 := bw22.size
    replace os0 := Lib.hid (os0.out.below bw22)
    replace os2 := Lib.hid (os2.out.below bw22)
    replace rs0 := Lib.hid (rs0.out.below bw22)
    replace oy00 := Lib.hid (oy00.out.below bw22)
    replace oy22 := Lib.hid (oy22.out.below bw22)
    replace omox0 := Lib.hid (omox0.out.below bw22)
    replace omox2 := Lib.hid (omox2.out.below bw22)
    replace omrg0 := Lib.hid (omrg0.out.below bw22)
    replace oh0 := Lib.hid (oh0.out.below bw22)
    replace oh2 := Lib.hid (oh2.out.below bw22)
    replace rh0 := Lib.hid (rh0.out.below bw22)
    replace X0 := Lib.hid (heap_tr bw22 X0.out)
    replace Ys0 := Lib.hid (heap_tr bw22 Ys0.out)
    replace Yx0 := Lib.hid (heap_tr bw22 Yx0.out)
    replace Yg0 := Lib.hid (heap_tr bw22 Yg0.out)
    replace Yh0 := Lib.hid (heap_tr bw22 Yh0.out)
    replace HB := Lib.hid (below_tr HB.out bw22)
    clear bw22
    obtain ⟨z0_0, z0_1, z0_2, z0_3, z0_4, z0_5, z0_6, z0_7, z0_8, z0_9, z0_10, z0_11⟩ := cells12 X0.out
    obtain ⟨z1_0, z1_1, z1_2, z1_3, z1_4, z1_5, z1_6, z1_7, z1_8, z1_9, z1_10, z1_11⟩ := cells12 Ys0.out
    obtain ⟨z2_0, z2_1, z2_2, z2_3, z2_4, z2_5, z2_6, z2_7, z2_8, z2_9, z2_10, z2_11⟩ := cells12 Yx0.out
    obtain ⟨z3_0, z3_1, z3_2, z3_3, z3_4, z3_5, z3_6, z3_7, z3_8, z3_9, z3_10, z3_11⟩ := cells12 Yg0.out
    obtain ⟨z4_0, z4_1, z4_2, z4_3, z4_4, z4_5, z4_6, z4_7, z4_8, z4_9, z4_10, z4_11⟩ := cells12 Yh0.out
    go_wp2_with fail
    clear z0_0 z0_1 z0_2 z0_3 z0_4 z0_5 z0_6 z0_7 z0_8 z0_9 z0_10 z0_11 z1_0 z1_1 z1_2 z1_3 z1_4 z1_5 z1_6 z1_7 z1_8 z1_9 z1_10 z1_11 z2_0 z2_1 z2_2 z2_3 z2_4 z2_5 z2_6 z2_7 z2_8 z2_9 z2_10 z2_11 z3_0 z3_1 z3_2 z3_3 z3_4 z3_5 z3_6 z3_7 z3_8 z3_9 z3_10 z3_11 z4_0 z4_1 z4_2 z4_3 z4_4 z4_5 z4_6 z4_7 z4_8 z4_9 z4_10 z4_11
    go_ret
    exact ⟨rfl, HB.out⟩
  · have d2 : decide ((n2 : Int) > 1048576) = true := by simp; omega
    go_enter Tryz.func3, Tryz.ntmps3
    go_wp2_with fail
    go_ret
    exact ⟨rfl, (below_new (Below.refl w.heap.size w) (.cells (bdArr b0 s0) 29))⟩
end Go.Proofs.YtndfaaebflhggaaGreat
