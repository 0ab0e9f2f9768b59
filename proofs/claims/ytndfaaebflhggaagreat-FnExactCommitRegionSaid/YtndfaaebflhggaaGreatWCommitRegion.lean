/- The walk of the law FnExactCommitRegion (printed by gen.py). -/
import Derived.Test.YtndfaaebflhggaaGreatCo
import Derived.Test.YtndfaaebflhggaaGreatCoS
import Derived.Test.YtndfaaebflhggaaGreatCopy
import Derived.Test.YtndfaaebflhggaaGreatNbs
import Derived.Test.YtndfaaebflhggaaGreatObn
namespace Go.Proofs.YtndfaaebflhggaaGreat
set_option maxRecDepth 100000
open Go.RowKit
set_option maxHeartbeats 4000000 in
theorem law_commitRegion (b0 : Bd) (s0 : Sl3) (a1 : Int) (w : World) (h0 : BoardRd w b0 s0) (m0 : s0.n1 ≤ maxLen) (mm0 : s0.n2 ≤ maxLen) (mn0 : s0.n3 ≤ maxLen) (_q0 : ∀ ys ∈ b0.frames, ys.length ≤ maxLen ∧ ∀ y ∈ ys, Wf y) (_r0 : ∀ ys ∈ b0.saved, ys.length ≤ maxLen ∧ ∀ y ∈ ys, Wf y) (_hw1 : Wf a1) :
    Calls Tryz.prog 5 #[.agg (bdArr b0 s0), .int .i64 a1] w fun e w' => e = .returned (.bool true) ∧ Below w.heap.size w w' := by
  unfold maxLen at *
  have H0 := Lib.hid h0
  have Q0 := Lib.hid (rows_len _q0)
  have R0 := Lib.hid (rows_len _r0)
  clear h0 _q0 _r0 _hw1
  go_enter Tryz.func5, Tryz.ntmps5
  have X0 : Hid ((World.alloc w (.cells (bdArr b0 s0) 29)).heap[w.heap.size]? = some (.cells (bdArr b0 s0) 29)) := heap_newAt (by simp)
  have HB := Lib.hid ((below_new (Below.refl w.heap.size w) (.cells (bdArr b0 s0) 29)))
  obtain ⟨z0_0, z0_1, z0_2, z0_3, z0_4, z0_5, z0_6, z0_7, z0_8, z0_9, z0_10, z0_11⟩ := cells12 X0.out
  go_wp2_with fail
  clear z0_0 z0_1 z0_2 z0_3 z0_4 z0_5 z0_6 z0_7 z0_8 z0_9 z0_10 z0_11
  refine (szBoard_any b0 s0 _ (H0.out.below HB.out) (by omega) (by omega) (by omega) Q0.out R0.out).mono ?_
  rintro e w1 ⟨L0, rfl, hx0, bw1⟩
  have sz1 := bw1.size
  simp only [World.size_alloc] at sz1
  replace X0 := Lib.hid (heap_tr bw1 X0.out)
  replace HB := Lib.hid (below_tr HB.out bw1)
  clear bw1
  rcases hx0 with hx0 | ⟨hx0, hy0, hz0⟩
  · have hd : decide (L0 < 0) = true := by simpa using hx0
    obtain ⟨z0_0, z0_1, z0_2, z0_3, z0_4, z0_5, z0_6, z0_7, z0_8, z0_9, z0_10, z0_11⟩ := cells12 X0.out
    go_wp2_with fail
    clear z0_0 z0_1 z0_2 z0_3 z0_4 z0_5 z0_6 z0_7 z0_8 z0_9 z0_10 z0_11
    go_ret
    exact ⟨rfl, HB.out⟩
  have hd0 : decide (L0 < 0) = false := by simp; omega
  have HBD0 : Hid (BdOk b0) := ⟨by omega, by have e2 := H0.out.state.1; omega, by omega⟩
  have resle0 := Lib.hid ((coB_bb (by decide) (show BdB 1048576 b0 from ⟨by omega, by have e2 := H0.out.state.1; omega, by omega⟩) a1).ok (by decide))
  have resn0 := (coB_bb (by decide) (show BdB 1048576 b0 from ⟨by omega, by have e2 := H0.out.state.1; omega, by omega⟩) a1).n
  obtain ⟨z0_0, z0_1, z0_2, z0_3, z0_4, z0_5, z0_6, z0_7, z0_8, z0_9, z0_10, z0_11⟩ := cells12 X0.out
  go_wp2_with fail
  clear z0_0 z0_1 z0_2 z0_3 z0_4 z0_5 z0_6 z0_7 z0_8 z0_9 z0_10 z0_11
  refine (toBoard_any b0 s0 _ (H0.out.below HB.out) (by omega) (by omega) (by omega)).mono ?_
  rintro e w2 ⟨ts0, rfl, os0, bw2⟩
  have sz2 := bw2.size
  replace X0 := Lib.hid (heap_tr bw2 X0.out)
  replace HB := Lib.hid (below_tr HB.out bw2)
  replace os0 := Lib.hid os0
  clear bw2
  have hn_ts0 : ts0.n2 ≤ 1048576 := by have e1 := os0.out.rd.state.1; have e2 := H0.out.state.1; omega
  obtain ⟨z0_0, z0_1, z0_2, z0_3, z0_4, z0_5, z0_6, z0_7, z0_8, z0_9, z0_10, z0_11⟩ := cells12 X0.out
  go_wp2_with fail
  clear z0_0 z0_1 z0_2 z0_3 z0_4 z0_5 z0_6 z0_7 z0_8 z0_9 z0_10 z0_11
  refine (scommitRegion_any b0 ts0 a1 _ os0.out.rd (by omega) (by omega) (by omega)).mono ?_
  rintro e w3 ⟨Rs0, rfl, rs0, bw3⟩
  have sz3 := bw3.size
  replace os0 := Lib.hid (os0.out.below bw3)
  replace X0 := Lib.hid (heap_tr bw3 X0.out)
  replace HB := Lib.hid (below_tr HB.out bw3)
  replace rs0 := Lib.hid rs0
  clear bw3
  replace os0 := Lib.hid (os0.out.below (below_new (Below.refl _ _) (.cells (bdArr (coB b0 a1) Rs0) 34)))
  replace rs0 := Lib.hid (rs0.out.below (below_new (Below.refl _ _) (.cells (bdArr (coB b0 a1) Rs0) 34)))
  replace X0 := Lib.hid (heap_al (.cells (bdArr (coB b0 a1) Rs0) 34) X0.out)
  have Ys0 := Lib.hid (heap_new w3 (.cells (bdArr (coB b0 a1) Rs0) 34))
  replace HB := Lib.hid (below_new HB.out (.cells (bdArr (coB b0 a1) Rs0) 34))
  obtain ⟨z0_0, z0_1, z0_2, z0_3, z0_4, z0_5, z0_6, z0_7, z0_8, z0_9, z0_10, z0_11⟩ := cells12 X0.out
  obtain ⟨z1_0, z1_1, z1_2, z1_3, z1_4, z1_5, z1_6, z1_7, z1_8, z1_9, z1_10, z1_11⟩ := cells12 Ys0.out
  go_wp2_with fail
  clear z0_0 z0_1 z0_2 z0_3 z0_4 z0_5 z0_6 z0_7 z0_8 z0_9 z0_10 z0_11 z1_0 z1_1 z1_2 z1_3 z1_4 z1_5 z1_6 z1_7 z1_8 z1_9 z1_10 z1_11
  refine (toBoard_any b0 s0 _ (H0.out.below HB.out) (by omega) (by omega) (by omega)).mono ?_
  rintro e w4 ⟨tx0, rfl, ox0, bw4⟩
  have sz4 := bw4.size
  simp only [World.size_alloc] at sz4
  replace os0 := Lib.hid (os0.out.below bw4)
  replace rs0 := Lib.hid (rs0.out.below bw4)
  replace X0 := Lib.hid (heap_tr bw4 X0.out)
  replace Ys0 := Lib.hid (heap_tr bw4 Ys0.out)
  replace HB := Lib.hid (below_tr HB.out bw4)
  simp only [World.size_alloc] at ox0
  replace ox0 := Lib.hid ox0
  clear bw4
  have hn_tx0 : tx0.n2 ≤ 1048576 := by have e1 := ox0.out.rd.state.1; have e2 := H0.out.state.1; omega
  replace os0 := Lib.hid (os0.out.below (below_new (Below.refl _ _) (.cells (bdArr b0 tx0) 34)))
  replace rs0 := Lib.hid (rs0.out.below (below_new (Below.refl _ _) (.cells (bdArr b0 tx0) 34)))
  replace ox0 := Lib.hid (ox0.out.below (below_new (Below.refl _ _) (.cells (bdArr b0 tx0) 34)))
  replace X0 := Lib.hid (heap_al (.cells (bdArr b0 tx0) 34) X0.out)
  replace Ys0 := Lib.hid (heap_al (.cells (bdArr b0 tx0) 34) Ys0.out)
  have Yx0 := Lib.hid (heap_new w4 (.cells (bdArr b0 tx0) 34))
  replace HB := Lib.hid (below_new HB.out (.cells (bdArr b0 tx0) 34))
  obtain ⟨z0_0, z0_1, z0_2, z0_3, z0_4, z0_5, z0_6, z0_7, z0_8, z0_9, z0_10, z0_11⟩ := cells12 X0.out
  obtain ⟨z1_0, z1_1, z1_2, z1_3, z1_4, z1_5, z1_6, z1_7, z1_8, z1_9, z1_10, z1_11⟩ := cells12 Ys0.out
  obtain ⟨z2_0, z2_1, z2_2, z2_3, z2_4, z2_5, z2_6, z2_7, z2_8, z2_9, z2_10, z2_11⟩ := cells12 Yx0.out
  go_wp2_with fail
  clear z0_0 z0_1 z0_2 z0_3 z0_4 z0_5 z0_6 z0_7 z0_8 z0_9 z0_10 z0_11 z1_0 z1_1 z1_2 z1_3 z1_4 z1_5 z1_6 z1_7 z1_8 z1_9 z1_10 z1_11 z2_0 z2_1 z2_2 z2_3 z2_4 z2_5 z2_6 z2_7 z2_8 z2_9 z2_10 z2_11
  refine (commitRegion_any b0 tx0 a1 _ ox0.out.rd (by omega) (by omega) (by omega)).mono ?_
  rintro e w5 ⟨Rg0, rfl, rg0, bw5⟩
  have sz5 := bw5.size
  simp only [World.size_alloc] at sz5
  replace os0 := Lib.hid (os0.out.below bw5)
  replace rs0 := Lib.hid (rs0.out.below bw5)
  replace ox0 := Lib.hid (ox0.out.below bw5)
  replace X0 := Lib.hid (heap_tr bw5 X0.out)
  replace Ys0 := Lib.hid (heap_tr bw5 Ys0.out)
  replace Yx0 := Lib.hid (heap_tr bw5 Yx0.out)
  replace HB := Lib.hid (below_tr HB.out bw5)
  simp only [World.size_alloc] at rg0
  replace rg0 := Lib.hid rg0
  clear bw5
  replace os0 := Lib.hid (os0.out.below (below_new (Below.refl _ _) (.cells (bdArr (coB b0 a1) Rg0) 34)))
  replace rs0 := Lib.hid (rs0.out.below (below_new (Below.refl _ _) (.cells (bdArr (coB b0 a1) Rg0) 34)))
  replace ox0 := Lib.hid (ox0.out.below (below_new (Below.refl _ _) (.cells (bdArr (coB b0 a1) Rg0) 34)))
  replace rg0 := Lib.hid (rg0.out.below (below_new (Below.refl _ _) (.cells (bdArr (coB b0 a1) Rg0) 34)))
  replace X0 := Lib.hid (heap_al (.cells (bdArr (coB b0 a1) Rg0) 34) X0.out)
  replace Ys0 := Lib.hid (heap_al (.cells (bdArr (coB b0 a1) Rg0) 34) Ys0.out)
  replace Yx0 := Lib.hid (heap_al (.cells (bdArr (coB b0 a1) Rg0) 34) Yx0.out)
  have Yg0 := Lib.hid (heap_new w5 (.cells (bdArr (coB b0 a1) Rg0) 34))
  replace HB := Lib.hid (below_new HB.out (.cells (bdArr (coB b0 a1) Rg0) 34))
  obtain ⟨z0_0, z0_1, z0_2, z0_3, z0_4, z0_5, z0_6, z0_7, z0_8, z0_9, z0_10, z0_11⟩ := cells12 X0.out
  obtain ⟨z1_0, z1_1, z1_2, z1_3, z1_4, z1_5, z1_6, z1_7, z1_8, z1_9, z1_10, z1_11⟩ := cells12 Ys0.out
  obtain ⟨z2_0, z2_1, z2_2, z2_3, z2_4, z2_5, z2_6, z2_7, z2_8, z2_9, z2_10, z2_11⟩ := cells12 Yx0.out
  obtain ⟨z3_0, z3_1, z3_2, z3_3, z3_4, z3_5, z3_6, z3_7, z3_8, z3_9, z3_10, z3_11⟩ := cells12 Yg0.out
  go_wp2_with fail
  clear z0_0 z0_1 z0_2 z0_3 z0_4 z0_5 z0_6 z0_7 z0_8 z0_9 z0_10 z0_11 z1_0 z1_1 z1_2 z1_3 z1_4 z1_5 z1_6 z1_7 z1_8 z1_9 z1_10 z1_11 z2_0 z2_1 z2_2 z2_3 z2_4 z2_5 z2_6 z2_7 z2_8 z2_9 z2_10 z2_11 z3_0 z3_1 z3_2 z3_3 z3_4 z3_5 z3_6 z3_7 z3_8 z3_9 z3_10 z3_11
  refine (eqBoard_same _ Rg0 Rs0 _ rg0.out.rd rs0.out.rd resle0.out).mono ?_
  rintro e w6 ⟨rfl, bw6⟩
  have sz6 := bw6.size
  simp only [World.size_alloc] at sz6
  replace os0 := Lib.hid (os0.out.below bw6)
  replace rs0 := Lib.hid (rs0.out.below bw6)
  replace ox0 := Lib.hid (ox0.out.below bw6)
  replace rg0 := Lib.hid (rg0.out.below bw6)
  replace X0 := Lib.hid (heap_tr bw6 X0.out)
  replace Ys0 := Lib.hid (heap_tr bw6 Ys0.out)
  replace Yx0 := Lib.hid (heap_tr bw6 Yx0.out)
  replace Yg0 := Lib.hid (heap_tr bw6 Yg0.out)
  replace HB := Lib.hid (below_tr HB.out bw6)
  clear bw6
  obtain ⟨z0_0, z0_1, z0_2, z0_3, z0_4, z0_5, z0_6, z0_7, z0_8, z0_9, z0_10, z0_11⟩ := cells12 X0.out
  obtain ⟨z1_0, z1_1, z1_2, z1_3, z1_4, z1_5, z1_6, z1_7, z1_8, z1_9, z1_10, z1_11⟩ := cells12 Ys0.out
  obtain ⟨z2_0, z2_1, z2_2, z2_3, z2_4, z2_5, z2_6, z2_7, z2_8, z2_9, z2_10, z2_11⟩ := cells12 Yx0.out
  obtain ⟨z3_0, z3_1, z3_2, z3_3, z3_4, z3_5, z3_6, z3_7, z3_8, z3_9, z3_10, z3_11⟩ := cells12 Yg0.out
  go_wp2_with fail
  have hD := (Below.refl w6.heap.size w6).drew
  have hl_X0 := heap_lt0 X0.out
  have hl_Ys0 := heap_lt0 Ys0.out
  have hl_Yx0 := heap_lt0 Yx0.out
  have hl_Yg0 := heap_lt0 Yg0.out
  go_region_held3 (fun w' => Below w6.heap.size w6 w' ∧ ∀ b o, b < w6.heap.size → w'.cell? ⟨b, o, none⟩ = w6.cell? ⟨b, o, none⟩)
    (first | exact ⟨hD, (bcell hD).1⟩)
    (first
      | (go_at_call 11; refine (toBoard_any b0 s0 _ (H0.out.below (below_tr HB.out hD)) (by omega) (by omega) (by omega)).mono ?_; rintro e w7 ⟨ty00, rfl, oy00, bw7⟩; have sz7 := bw7.size; have sy7 : w6.heap.size ≤ w7.heap.size := bw7.size; replace hD := below_tr hD bw7; replace oy00 := Lib.hid oy00; clear bw7; have hn_ty00 : ty00.n2 ≤ 1048576 := by have e1 := oy00.out.rd.state.1; have e2 := H0.out.state.1; omega)
      | (go_at_call 14; refine (eqBoard_same b0 tx0 ty00 _ (ox0.out.rd.below hD) oy00.out.rd HBD0.out).mono ?_; rintro e w8 ⟨rfl, bw8⟩; have sz8 := bw8.size; have sy8 : w7.heap.size ≤ w8.heap.size := bw8.size; replace oy00 := Lib.hid (oy00.out.below bw8); replace hD := below_tr hD bw8; clear bw8))
  clear z0_0 z0_1 z0_2 z0_3 z0_4 z0_5 z0_6 z0_7 z0_8 z0_9 z0_10 z0_11 z1_0 z1_1 z1_2 z1_3 z1_4 z1_5 z1_6 z1_7 z1_8 z1_9 z1_10 z1_11 z2_0 z2_1 z2_2 z2_3 z2_4 z2_5 z2_6 z2_7 z2_8 z2_9 z2_10 z2_11 z3_0 z3_1 z3_2 z3_3 z3_4 z3_5 z3_6 z3_7 z3_8 z3_9 z3_10 z3_11
  clear hl_X0 hl_Ys0 hl_Yx0 hl_Yg0
  have sda8 : w6.drew.heap.size ≤ w6.heap.size := Nat.le_refl _
  have sdb8 : w6.heap.size ≤ w6.drew.heap.size := Nat.le_refl _
  replace os0 := Lib.hid (os0.out.below hD)
  replace rs0 := Lib.hid (rs0.out.below hD)
  replace ox0 := Lib.hid (ox0.out.below hD)
  replace rg0 := Lib.hid (rg0.out.below hD)
  replace X0 := Lib.hid (heap_tr hD X0.out)
  replace Ys0 := Lib.hid (heap_tr hD Ys0.out)
  replace Yx0 := Lib.hid (heap_tr hD Yx0.out)
  replace Yg0 := Lib.hid (heap_tr hD Yg0.out)
  replace HB := Lib.hid (below_tr HB.out hD)
  clear hD
  have bz0 : bdN b0 ≤ 2097152 := by have e2 := H0.out.state.1; unfold bdN; unfold size2 at hz0; omega
  obtain ⟨z0_0, z0_1, z0_2, z0_3, z0_4, z0_5, z0_6, z0_7, z0_8, z0_9, z0_10, z0_11⟩ := cells12 X0.out
  obtain ⟨z1_0, z1_1, z1_2, z1_3, z1_4, z1_5, z1_6, z1_7, z1_8, z1_9, z1_10, z1_11⟩ := cells12 Ys0.out
  obtain ⟨z2_0, z2_1, z2_2, z2_3, z2_4, z2_5, z2_6, z2_7, z2_8, z2_9, z2_10, z2_11⟩ := cells12 Yx0.out
  obtain ⟨z3_0, z3_1, z3_2, z3_3, z3_4, z3_5, z3_6, z3_7, z3_8, z3_9, z3_10, z3_11⟩ := cells12 Yg0.out
  go_wp2_with fail
  clear z0_0 z0_1 z0_2 z0_3 z0_4 z0_5 z0_6 z0_7 z0_8 z0_9 z0_10 z0_11 z1_0 z1_1 z1_2 z1_3 z1_4 z1_5 z1_6 z1_7 z1_8 z1_9 z1_10 z1_11 z2_0 z2_1 z2_2 z2_3 z2_4 z2_5 z2_6 z2_7 z2_8 z2_9 z2_10 z2_11 z3_0 z3_1 z3_2 z3_3 z3_4 z3_5 z3_6 z3_7 z3_8 z3_9 z3_10 z3_11
  refine (markBoard_chg _ _ b0 tx0 1 _ ox0.out (by omega) ⟨by omega, by have e2 := H0.out.state.1; omega, by omega⟩ (by omega) (by omega) (by omega)).mono ?_
  rintro e w9 ⟨rfl, omox0, gw9⟩
  have sz9 := gw9.size
  replace os0 := Lib.hid (os0.out.chg gw9 (by omega))
  replace rs0 := Lib.hid (rs0.out.chg gw9 (by omega))
  replace rg0 := Lib.hid (rg0.out.chg gw9 (by omega))
  replace oy00 := Lib.hid (oy00.out.chg gw9 (by omega))
  replace X0 := Lib.hid ((gw9.block _ (heap_lt0 X0.out) (by omega)).trans X0.out)
  replace Ys0 := Lib.hid ((gw9.block _ (heap_lt0 Ys0.out) (by omega)).trans Ys0.out)
  replace Yx0 := Lib.hid ((gw9.block _ (heap_lt0 Yx0.out) (by omega)).trans Yx0.out)
  replace Yg0 := Lib.hid ((gw9.block _ (heap_lt0 Yg0.out) (by omega)).trans Yg0.out)
  replace HB := Lib.hid (below_chg HB.out gw9 (by omega))
  clear ox0 gw9
  replace omox0 := Lib.hid omox0
  obtain ⟨z0_0, z0_1, z0_2, z0_3, z0_4, z0_5, z0_6, z0_7, z0_8, z0_9, z0_10, z0_11⟩ := cells12 X0.out
  obtain ⟨z1_0, z1_1, z1_2, z1_3, z1_4, z1_5, z1_6, z1_7, z1_8, z1_9, z1_10, z1_11⟩ := cells12 Ys0.out
  obtain ⟨z2_0, z2_1, z2_2, z2_3, z2_4, z2_5, z2_6, z2_7, z2_8, z2_9, z2_10, z2_11⟩ := cells12 Yx0.out
  obtain ⟨z3_0, z3_1, z3_2, z3_3, z3_4, z3_5, z3_6, z3_7, z3_8, z3_9, z3_10, z3_11⟩ := cells12 Yg0.out
  go_wp2_with fail
  clear z0_0 z0_1 z0_2 z0_3 z0_4 z0_5 z0_6 z0_7 z0_8 z0_9 z0_10 z0_11 z1_0 z1_1 z1_2 z1_3 z1_4 z1_5 z1_6 z1_7 z1_8 z1_9 z1_10 z1_11 z2_0 z2_1 z2_2 z2_3 z2_4 z2_5 z2_6 z2_7 z2_8 z2_9 z2_10 z2_11 z3_0 z3_1 z3_2 z3_3 z3_4 z3_5 z3_6 z3_7 z3_8 z3_9 z3_10 z3_11
  refine (eqBoard_same _ Rg0 Rs0 _ rg0.out.rd rs0.out.rd resle0.out).mono ?_
  rintro e w10 ⟨rfl, bw10⟩
  have sz10 := bw10.size
  replace os0 := Lib.hid (os0.out.below bw10)
  replace rs0 := Lib.hid (rs0.out.below bw10)
  replace rg0 := Lib.hid (rg0.out.below bw10)
  replace oy00 := Lib.hid (oy00.out.below bw10)
  replace omox0 := Lib.hid (omox0.out.below bw10)
  replace X0 := Lib.hid (heap_tr bw10 X0.out)
  replace Ys0 := Lib.hid (heap_tr bw10 Ys0.out)
  replace Yx0 := Lib.hid (heap_tr bw10 Yx0.out)
  replace Yg0 := Lib.hid (heap_tr bw10 Yg0.out)
  replace HB := Lib.hid (below_tr HB.out bw10)
  clear bw10
  obtain ⟨z0_0, z0_1, z0_2, z0_3, z0_4, z0_5, z0_6, z0_7, z0_8, z0_9, z0_10, z0_11⟩ := cells12 X0.out
  obtain ⟨z1_0, z1_1, z1_2, z1_3, z1_4, z1_5, z1_6, z1_7, z1_8, z1_9, z1_10, z1_11⟩ := cells12 Ys0.out
  obtain ⟨z2_0, z2_1, z2_2, z2_3, z2_4, z2_5, z2_6, z2_7, z2_8, z2_9, z2_10, z2_11⟩ := cells12 Yx0.out
  obtain ⟨z3_0, z3_1, z3_2, z3_3, z3_4, z3_5, z3_6, z3_7, z3_8, z3_9, z3_10, z3_11⟩ := cells12 Yg0.out
  go_wp2_with fail
  clear z0_0 z0_1 z0_2 z0_3 z0_4 z0_5 z0_6 z0_7 z0_8 z0_9 z0_10 z0_11 z1_0 z1_1 z1_2 z1_3 z1_4 z1_5 z1_6 z1_7 z1_8 z1_9 z1_10 z1_11 z2_0 z2_1 z2_2 z2_3 z2_4 z2_5 z2_6 z2_7 z2_8 z2_9 z2_10 z2_11 z3_0 z3_1 z3_2 z3_3 z3_4 z3_5 z3_6 z3_7 z3_8 z3_9 z3_10 z3_11
  refine (markBoard_fp _ _ _ Rg0 1 _ rg0.out (by omega) resle0.out (by omega) (by omega) (by omega)).mono ?_
  rintro e w11 ⟨rfl, omrg0, gw11⟩
  have sz11 := gw11.size
  replace os0 := Lib.hid (os0.out.chg gw11 (by omega))
  replace rs0 := Lib.hid (rs0.out.chg gw11 (by omega))
  replace oy00 := Lib.hid (oy00.out.chg gw11 (by omega))
  replace omox0 := Lib.hid (omox0.out.chg gw11 (by omega))
  replace X0 := Lib.hid ((gw11.block _ (heap_lt0 X0.out) (by omega)).trans X0.out)
  replace Ys0 := Lib.hid ((gw11.block _ (heap_lt0 Ys0.out) (by omega)).trans Ys0.out)
  replace Yx0 := Lib.hid ((gw11.block _ (heap_lt0 Yx0.out) (by omega)).trans Yx0.out)
  replace Yg0 := Lib.hid ((gw11.block _ (heap_lt0 Yg0.out) (by omega)).trans Yg0.out)
  replace HB := Lib.hid (below_chg HB.out gw11 (by omega))
  clear rg0 gw11
  replace omrg0 := Lib.hid omrg0
  obtain ⟨z0_0, z0_1, z0_2, z0_3, z0_4, z0_5, z0_6, z0_7, z0_8, z0_9, z0_10, z0_11⟩ := cells12 X0.out
  obtain ⟨z1_0, z1_1, z1_2, z1_3, z1_4, z1_5, z1_6, z1_7, z1_8, z1_9, z1_10, z1_11⟩ := cells12 Ys0.out
  obtain ⟨z2_0, z2_1, z2_2, z2_3, z2_4, z2_5, z2_6, z2_7, z2_8, z2_9, z2_10, z2_11⟩ := cells12 Yx0.out
  obtain ⟨z3_0, z3_1, z3_2, z3_3, z3_4, z3_5, z3_6, z3_7, z3_8, z3_9, z3_10, z3_11⟩ := cells12 Yg0.out
  go_wp2_with fail
  clear z0_0 z0_1 z0_2 z0_3 z0_4 z0_5 z0_6 z0_7 z0_8 z0_9 z0_10 z0_11 z1_0 z1_1 z1_2 z1_3 z1_4 z1_5 z1_6 z1_7 z1_8 z1_9 z1_10 z1_11 z2_0 z2_1 z2_2 z2_3 z2_4 z2_5 z2_6 z2_7 z2_8 z2_9 z2_10 z2_11 z3_0 z3_1 z3_2 z3_3 z3_4 z3_5 z3_6 z3_7 z3_8 z3_9 z3_10 z3_11
  refine (heldBoard_any _ Rg0 1 _ omrg0.out.rd resle0.out (by omega) (by omega) (by omega)).mono ?_
  rintro e w12 ⟨rfl, bw12⟩
  have sz12 := bw12.size
  replace os0 := Lib.hid (os0.out.below bw12)
  replace rs0 := Lib.hid (rs0.out.below bw12)
  replace oy00 := Lib.hid (oy00.out.below bw12)
  replace omox0 := Lib.hid (omox0.out.below bw12)
  replace omrg0 := Lib.hid (omrg0.out.below bw12)
  replace X0 := Lib.hid (heap_tr bw12 X0.out)
  replace Ys0 := Lib.hid (heap_tr bw12 Ys0.out)
  replace Yx0 := Lib.hid (heap_tr bw12 Yx0.out)
  replace Yg0 := Lib.hid (heap_tr bw12 Yg0.out)
  replace HB := Lib.hid (below_tr HB.out bw12)
  clear bw12
  obtain ⟨z0_0, z0_1, z0_2, z0_3, z0_4, z0_5, z0_6, z0_7, z0_8, z0_9, z0_10, z0_11⟩ := cells12 X0.out
  obtain ⟨z1_0, z1_1, z1_2, z1_3, z1_4, z1_5, z1_6, z1_7, z1_8, z1_9, z1_10, z1_11⟩ := cells12 Ys0.out
  obtain ⟨z2_0, z2_1, z2_2, z2_3, z2_4, z2_5, z2_6, z2_7, z2_8, z2_9, z2_10, z2_11⟩ := cells12 Yx0.out
  obtain ⟨z3_0, z3_1, z3_2, z3_3, z3_4, z3_5, z3_6, z3_7, z3_8, z3_9, z3_10, z3_11⟩ := cells12 Yg0.out
  go_wp2_with fail
  clear z0_0 z0_1 z0_2 z0_3 z0_4 z0_5 z0_6 z0_7 z0_8 z0_9 z0_10 z0_11 z1_0 z1_1 z1_2 z1_3 z1_4 z1_5 z1_6 z1_7 z1_8 z1_9 z1_10 z1_11 z2_0 z2_1 z2_2 z2_3 z2_4 z2_5 z2_6 z2_7 z2_8 z2_9 z2_10 z2_11 z3_0 z3_1 z3_2 z3_3 z3_4 z3_5 z3_6 z3_7 z3_8 z3_9 z3_10 z3_11
  refine (toBoard_any b0 s0 _ (H0.out.below HB.out) (by omega) (by omega) (by omega)).mono ?_
  rintro e w13 ⟨th0, rfl, oh0, bw13⟩
  have sz13 := bw13.size
  replace os0 := Lib.hid (os0.out.below bw13)
  replace rs0 := Lib.hid (rs0.out.below bw13)
  replace oy00 := Lib.hid (oy00.out.below bw13)
  replace omox0 := Lib.hid (omox0.out.below bw13)
  replace omrg0 := Lib.hid (omrg0.out.below bw13)
  replace X0 := Lib.hid (heap_tr bw13 X0.out)
  replace Ys0 := Lib.hid (heap_tr bw13 Ys0.out)
  replace Yx0 := Lib.hid (heap_tr bw13 Yx0.out)
  replace Yg0 := Lib.hid (heap_tr bw13 Yg0.out)
  replace HB := Lib.hid (below_tr HB.out bw13)
  replace oh0 := Lib.hid oh0
  clear bw13
  have hn_th0 : th0.n2 ≤ 1048576 := by have e1 := oh0.out.rd.state.1; have e2 := H0.out.state.1; omega
  obtain ⟨z0_0, z0_1, z0_2, z0_3, z0_4, z0_5, z0_6, z0_7, z0_8, z0_9, z0_10, z0_11⟩ := cells12 X0.out
  obtain ⟨z1_0, z1_1, z1_2, z1_3, z1_4, z1_5, z1_6, z1_7, z1_8, z1_9, z1_10, z1_11⟩ := cells12 Ys0.out
  obtain ⟨z2_0, z2_1, z2_2, z2_3, z2_4, z2_5, z2_6, z2_7, z2_8, z2_9, z2_10, z2_11⟩ := cells12 Yx0.out
  obtain ⟨z3_0, z3_1, z3_2, z3_3, z3_4, z3_5, z3_6, z3_7, z3_8, z3_9, z3_10, z3_11⟩ := cells12 Yg0.out
  go_wp2_with fail
  clear z0_0 z0_1 z0_2 z0_3 z0_4 z0_5 z0_6 z0_7 z0_8 z0_9 z0_10 z0_11 z1_0 z1_1 z1_2 z1_3 z1_4 z1_5 z1_6 z1_7 z1_8 z1_9 z1_10 z1_11 z2_0 z2_1 z2_2 z2_3 z2_4 z2_5 z2_6 z2_7 z2_8 z2_9 z2_10 z2_11 z3_0 z3_1 z3_2 z3_3 z3_4 z3_5 z3_6 z3_7 z3_8 z3_9 z3_10 z3_11
  refine (commitRegion_any b0 th0 a1 _ oh0.out.rd (by omega) (by omega) (by omega)).mono ?_
  rintro e w14 ⟨Rh0, rfl, rh0, bw14⟩
  have sz14 := bw14.size
  replace os0 := Lib.hid (os0.out.below bw14)
  replace rs0 := Lib.hid (rs0.out.below bw14)
  replace oy00 := Lib.hid (oy00.out.below bw14)
  replace omox0 := Lib.hid (omox0.out.below bw14)
  replace omrg0 := Lib.hid (omrg0.out.below bw14)
  replace oh0 := Lib.hid (oh0.out.below bw14)
  replace X0 := Lib.hid (heap_tr bw14 X0.out)
  replace Ys0 := Lib.hid (heap_tr bw14 Ys0.out)
  replace Yx0 := Lib.hid (heap_tr bw14 Yx0.out)
  replace Yg0 := Lib.hid (heap_tr bw14 Yg0.out)
  replace HB := Lib.hid (below_tr HB.out bw14)
  replace rh0 := Lib.hid rh0
  clear bw14
  replace os0 := Lib.hid (os0.out.below (below_new (Below.refl _ _) (.cells (bdArr (coB b0 a1) Rh0) 34)))
  replace rs0 := Lib.hid (rs0.out.below (below_new (Below.refl _ _) (.cells (bdArr (coB b0 a1) Rh0) 34)))
  replace oy00 := Lib.hid (oy00.out.below (below_new (Below.refl _ _) (.cells (bdArr (coB b0 a1) Rh0) 34)))
  replace omox0 := Lib.hid (omox0.out.below (below_new (Below.refl _ _) (.cells (bdArr (coB b0 a1) Rh0) 34)))
  replace omrg0 := Lib.hid (omrg0.out.below (below_new (Below.refl _ _) (.cells (bdArr (coB b0 a1) Rh0) 34)))
  replace oh0 := Lib.hid (oh0.out.below (below_new (Below.refl _ _) (.cells (bdArr (coB b0 a1) Rh0) 34)))
  replace rh0 := Lib.hid (rh0.out.below (below_new (Below.refl _ _) (.cells (bdArr (coB b0 a1) Rh0) 34)))
  replace X0 := Lib.hid (heap_al (.cells (bdArr (coB b0 a1) Rh0) 34) X0.out)
  replace Ys0 := Lib.hid (heap_al (.cells (bdArr (coB b0 a1) Rh0) 34) Ys0.out)
  replace Yx0 := Lib.hid (heap_al (.cells (bdArr (coB b0 a1) Rh0) 34) Yx0.out)
  replace Yg0 := Lib.hid (heap_al (.cells (bdArr (coB b0 a1) Rh0) 34) Yg0.out)
  have Yh0 := Lib.hid (heap_new w14 (.cells (bdArr (coB b0 a1) Rh0) 34))
  replace HB := Lib.hid (below_new HB.out (.cells (bdArr (coB b0 a1) Rh0) 34))
  obtain ⟨z0_0, z0_1, z0_2, z0_3, z0_4, z0_5, z0_6, z0_7, z0_8, z0_9, z0_10, z0_11⟩ := cells12 X0.out
  obtain ⟨z1_0, z1_1, z1_2, z1_3, z1_4, z1_5, z1_6, z1_7, z1_8, z1_9, z1_10, z1_11⟩ := cells12 Ys0.out
  obtain ⟨z2_0, z2_1, z2_2, z2_3, z2_4, z2_5, z2_6, z2_7, z2_8, z2_9, z2_10, z2_11⟩ := cells12 Yx0.out
  obtain ⟨z3_0, z3_1, z3_2, z3_3, z3_4, z3_5, z3_6, z3_7, z3_8, z3_9, z3_10, z3_11⟩ := cells12 Yg0.out
  obtain ⟨z4_0, z4_1, z4_2, z4_3, z4_4, z4_5, z4_6, z4_7, z4_8, z4_9, z4_10, z4_11⟩ := cells12 Yh0.out
  go_wp2_with fail
  clear z0_0 z0_1 z0_2 z0_3 z0_4 z0_5 z0_6 z0_7 z0_8 z0_9 z0_10 z0_11 z1_0 z1_1 z1_2 z1_3 z1_4 z1_5 z1_6 z1_7 z1_8 z1_9 z1_10 z1_11 z2_0 z2_1 z2_2 z2_3 z2_4 z2_5 z2_6 z2_7 z2_8 z2_9 z2_10 z2_11 z3_0 z3_1 z3_2 z3_3 z3_4 z3_5 z3_6 z3_7 z3_8 z3_9 z3_10 z3_11 z4_0 z4_1 z4_2 z4_3 z4_4 z4_5 z4_6 z4_7 z4_8 z4_9 z4_10 z4_11
  refine (eqBoard_same _ Rh0 Rs0 _ rh0.out.rd rs0.out.rd resle0.out).mono ?_
  rintro e w15 ⟨rfl, bw15⟩
  have sz15 := bw15.size
  simp only [World.size_alloc] at sz15
  replace os0 := Lib.hid (os0.out.below bw15)
  replace rs0 := Lib.hid (rs0.out.below bw15)
  replace oy00 := Lib.hid (oy00.out.below bw15)
  replace omox0 := Lib.hid (omox0.out.below bw15)
  replace omrg0 := Lib.hid (omrg0.out.below bw15)
  replace oh0 := Lib.hid (oh0.out.below bw15)
  replace rh0 := Lib.hid (rh0.out.below bw15)
  replace X0 := Lib.hid (heap_tr bw15 X0.out)
  replace Ys0 := Lib.hid (heap_tr bw15 Ys0.out)
  replace Yx0 := Lib.hid (heap_tr bw15 Yx0.out)
  replace Yg0 := Lib.hid (heap_tr bw15 Yg0.out)
  replace Yh0 := Lib.hid (heap_tr bw15 Yh0.out)
  replace HB := Lib.hid (below_tr HB.out bw15)
  clear bw15
  obtain ⟨z0_0, z0_1, z0_2, z0_3, z0_4, z0_5, z0_6, z0_7, z0_8, z0_9, z0_10, z0_11⟩ := cells12 X0.out
  obtain ⟨z1_0, z1_1, z1_2, z1_3, z1_4, z1_5, z1_6, z1_7, z1_8, z1_9, z1_10, z1_11⟩ := cells12 Ys0.out
  obtain ⟨z2_0, z2_1, z2_2, z2_3, z2_4, z2_5, z2_6, z2_7, z2_8, z2_9, z2_10, z2_11⟩ := cells12 Yx0.out
  obtain ⟨z3_0, z3_1, z3_2, z3_3, z3_4, z3_5, z3_6, z3_7, z3_8, z3_9, z3_10, z3_11⟩ := cells12 Yg0.out
  obtain ⟨z4_0, z4_1, z4_2, z4_3, z4_4, z4_5, z4_6, z4_7, z4_8, z4_9, z4_10, z4_11⟩ := cells12 Yh0.out
  go_wp2_with fail
  clear z0_0 z0_1 z0_2 z0_3 z0_4 z0_5 z0_6 z0_7 z0_8 z0_9 z0_10 z0_11 z1_0 z1_1 z1_2 z1_3 z1_4 z1_5 z1_6 z1_7 z1_8 z1_9 z1_10 z1_11 z2_0 z2_1 z2_2 z2_3 z2_4 z2_5 z2_6 z2_7 z2_8 z2_9 z2_10 z2_11 z3_0 z3_1 z3_2 z3_3 z3_4 z3_5 z3_6 z3_7 z3_8 z3_9 z3_10 z3_11 z4_0 z4_1 z4_2 z4_3 z4_4 z4_5 z4_6 z4_7 z4_8 z4_9 z4_10 z4_11
  refine (heldBoard_any _ Rg0 1 _ omrg0.out.rd resle0.out (by omega) (by omega) (by omega)).mono ?_
  rintro e w16 ⟨rfl, bw16⟩
  have sz16 := bw16.size
  replace os0 := Lib.hid (os0.out.below bw16)
  replace rs0 := Lib.hid (rs0.out.below bw16)
  replace oy00 := Lib.hid (oy00.out.below bw16)
  replace omox0 := Lib.hid (omox0.out.below bw16)
  replace omrg0 := Lib.hid (omrg0.out.below bw16)
  replace oh0 := Lib.hid (oh0.out.below bw16)
  replace rh0 := Lib.hid (rh0.out.below bw16)
  replace X0 := Lib.hid (heap_tr bw16 X0.out)
  replace Ys0 := Lib.hid (heap_tr bw16 Ys0.out)
  replace Yx0 := Lib.hid (heap_tr bw16 Yx0.out)
  replace Yg0 := Lib.hid (heap_tr bw16 Yg0.out)
  replace Yh0 := Lib.hid (heap_tr bw16 Yh0.out)
  replace HB := Lib.hid (below_tr HB.out bw16)
  clear bw16
  obtain ⟨z0_0, z0_1, z0_2, z0_3, z0_4, z0_5, z0_6, z0_7, z0_8, z0_9, z0_10, z0_11⟩ := cells12 X0.out
  obtain ⟨z1_0, z1_1, z1_2, z1_3, z1_4, z1_5, z1_6, z1_7, z1_8, z1_9, z1_10, z1_11⟩ := cells12 Ys0.out
  obtain ⟨z2_0, z2_1, z2_2, z2_3, z2_4, z2_5, z2_6, z2_7, z2_8, z2_9, z2_10, z2_11⟩ := cells12 Yx0.out
  obtain ⟨z3_0, z3_1, z3_2, z3_3, z3_4, z3_5, z3_6, z3_7, z3_8, z3_9, z3_10, z3_11⟩ := cells12 Yg0.out
  obtain ⟨z4_0, z4_1, z4_2, z4_3, z4_4, z4_5, z4_6, z4_7, z4_8, z4_9, z4_10, z4_11⟩ := cells12 Yh0.out
  go_wp2_with fail
  clear z0_0 z0_1 z0_2 z0_3 z0_4 z0_5 z0_6 z0_7 z0_8 z0_9 z0_10 z0_11 z1_0 z1_1 z1_2 z1_3 z1_4 z1_5 z1_6 z1_7 z1_8 z1_9 z1_10 z1_11 z2_0 z2_1 z2_2 z2_3 z2_4 z2_5 z2_6 z2_7 z2_8 z2_9 z2_10 z2_11 z3_0 z3_1 z3_2 z3_3 z3_4 z3_5 z3_6 z3_7 z3_8 z3_9 z3_10 z3_11 z4_0 z4_1 z4_2 z4_3 z4_4 z4_5 z4_6 z4_7 z4_8 z4_9 z4_10 z4_11
  go_ret
  exact ⟨rfl, HB.out⟩
end Go.Proofs.YtndfaaebflhggaaGreat
