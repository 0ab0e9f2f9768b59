/- The walk of the law FnExactActOk (printed by gen.py). -/
import Derived.Test.YtclmhnghpnfnkaaAcS
import Derived.Test.YtclmhnghpnfnkaaOb
import Derived.Test.YtclmhnghpnfnkaaRow2W
namespace Go.Proofs.Ytclmhnghpnfnkaa
set_option maxRecDepth 100000
open Go.RowKit
set_option maxHeartbeats 4000000 in
theorem law_actOk (b0 : Bd) (s0 : Sl3) (x1 : Ac) (A1 : Option Addr) (n1 c1 : Nat) (w : World) (h0 : BoardRd w b0 s0) (m0 : s0.n1 ≤ maxLen) (mm0 : s0.n2 ≤ maxLen) (mn0 : s0.n3 ≤ maxLen) (_q0 : ∀ ys ∈ b0.frames, ys.length ≤ maxLen ∧ ∀ y ∈ ys, Wf y) (_r0 : ∀ ys ∈ b0.saved, ys.length ≤ maxLen ∧ ∀ y ∈ ys, Wf y) (h1 : Ints w A1 n1 x1.words) (m1 : n1 ≤ maxLen) :
    Calls Try.prog 10 #[.agg (bdArr b0 s0), .agg (acArr x1 A1 n1 c1)] w fun e w' => e = .returned (.bool true) ∧ Below w.heap.size w w' := by
  unfold maxLen at *
  have H0 := Lib.hid h0
  have H1 := Lib.hid h1
  have Q0 := Lib.hid (rows_len _q0)
  have R0 := Lib.hid (rows_len _r0)
  clear h0 h1 _q0 _r0
  go_enter Try.func10, Try.ntmps10
  have X0 : Hid ((World.alloc w (.cells (bdArr b0 s0) 63)).heap[w.heap.size]? = some (.cells (bdArr b0 s0) 63)) := heap_newAt (by simp)
  replace X0 := Lib.hid (heap_al (.cells (acArr x1 A1 n1 c1) 74) X0.out)
  have X1 : Hid ((World.alloc (w.alloc (.cells (bdArr b0 s0) 63)) (.cells (acArr x1 A1 n1 c1) 74)).heap[w.heap.size + 1]? = some (.cells (acArr x1 A1 n1 c1) 74)) := heap_newAt (by simp)
  have HB := Lib.hid ((below_new ((below_new (Below.refl w.heap.size w) (.cells (bdArr b0 s0) 63))) (.cells (acArr x1 A1 n1 c1) 74)))
  obtain ⟨z0_0, z0_1, z0_2, z0_3, z0_4, z0_5, z0_6, z0_7, z0_8, z0_9, z0_10, z0_11⟩ := cells12 X0.out
  obtain ⟨z1_0, z1_1, z1_2, z1_3, z1_4, z1_5, z1_6, z1_7, z1_8⟩ := cells9 X1.out
  go_wp2_with fail
  clear z0_0 z0_1 z0_2 z0_3 z0_4 z0_5 z0_6 z0_7 z0_8 z0_9 z0_10 z0_11 z1_0 z1_1 z1_2 z1_3 z1_4 z1_5 z1_6 z1_7 z1_8
  refine (szBoard_any b0 s0 _ (H0.out.below HB.out) (by omega) (by omega) (by omega) Q0.out R0.out).mono ?_
  rintro e w1 ⟨L0, rfl, hx0, bw1⟩
  have sz1 := bw1.size
  simp only [World.size_alloc] at sz1
  replace X0 := Lib.hid (heap_tr bw1 X0.out)
  replace X1 := Lib.hid (heap_tr bw1 X1.out)
  replace HB := Lib.hid (below_tr HB.out bw1)
  clear bw1
  rcases hx0 with hx0 | ⟨hx0, hy0, hz0⟩
  · have hd : decide (L0 < 0) = true := by simpa using hx0
    obtain ⟨z0_0, z0_1, z0_2, z0_3, z0_4, z0_5, z0_6, z0_7, z0_8, z0_9, z0_10, z0_11⟩ := cells12 X0.out
    obtain ⟨z1_0, z1_1, z1_2, z1_3, z1_4, z1_5, z1_6, z1_7, z1_8⟩ := cells9 X1.out
    go_wp2_with fail
    clear z0_0 z0_1 z0_2 z0_3 z0_4 z0_5 z0_6 z0_7 z0_8 z0_9 z0_10 z0_11 z1_0 z1_1 z1_2 z1_3 z1_4 z1_5 z1_6 z1_7 z1_8
    go_ret
    exact ⟨rfl, HB.out⟩
  have hd0 : decide (L0 < 0) = false := by simp; omega
  have HBD0 : Hid (BdOk b0) := ⟨by omega, by have e2 := H0.out.state.1; omega, by omega⟩
  obtain ⟨z0_0, z0_1, z0_2, z0_3, z0_4, z0_5, z0_6, z0_7, z0_8, z0_9, z0_10, z0_11⟩ := cells12 X0.out
  obtain ⟨z1_0, z1_1, z1_2, z1_3, z1_4, z1_5, z1_6, z1_7, z1_8⟩ := cells9 X1.out
  go_wp2_with fail
  clear z0_0 z0_1 z0_2 z0_3 z0_4 z0_5 z0_6 z0_7 z0_8 z0_9 z0_10 z0_11 z1_0 z1_1 z1_2 z1_3 z1_4 z1_5 z1_6 z1_7 z1_8
  refine (szAct_any x1 A1 n1 c1 L0 _ (by omega) (by omega) (by omega)).mono ?_
  rintro e w2 ⟨L1, rfl, hx1, bw2⟩
  have sz2 := bw2.size
  replace X0 := Lib.hid (heap_tr bw2 X0.out)
  replace X1 := Lib.hid (heap_tr bw2 X1.out)
  replace HB := Lib.hid (below_tr HB.out bw2)
  clear bw2
  rcases hx1 with hx1 | ⟨hx1, hz1⟩
  · have hd : decide (L1 < 0) = true := by simpa using hx1
    obtain ⟨z0_0, z0_1, z0_2, z0_3, z0_4, z0_5, z0_6, z0_7, z0_8, z0_9, z0_10, z0_11⟩ := cells12 X0.out
    obtain ⟨z1_0, z1_1, z1_2, z1_3, z1_4, z1_5, z1_6, z1_7, z1_8⟩ := cells9 X1.out
    go_wp2_with fail
    clear z0_0 z0_1 z0_2 z0_3 z0_4 z0_5 z0_6 z0_7 z0_8 z0_9 z0_10 z0_11 z1_0 z1_1 z1_2 z1_3 z1_4 z1_5 z1_6 z1_7 z1_8
    go_ret
    exact ⟨rfl, HB.out⟩
  have hd1 : decide (L1 < 0) = false := by simp; omega
  obtain ⟨z0_0, z0_1, z0_2, z0_3, z0_4, z0_5, z0_6, z0_7, z0_8, z0_9, z0_10, z0_11⟩ := cells12 X0.out
  obtain ⟨z1_0, z1_1, z1_2, z1_3, z1_4, z1_5, z1_6, z1_7, z1_8⟩ := cells9 X1.out
  go_wp2_with fail
  have hD := (Below.refl w2.heap.size w2).drew
  have hl_X0 := heap_lt0 X0.out
  have hl_X1 := heap_lt0 X1.out
  go_region_held3 (fun w' => Below w2.heap.size w2 w' ∧ ∀ b o, b < w2.heap.size → w'.cell? ⟨b, o, none⟩ = w2.cell? ⟨b, o, none⟩)
    (first | exact ⟨hD, (bcell hD).1⟩)
    (first
      | (go_at_call 45; refine (toBoard_any b0 s0 _ (H0.out.below (below_tr HB.out hD)) (by omega) (by omega) (by omega)).mono ?_; rintro e w3 ⟨ts0, rfl, os0, bw3⟩; have sz3 := bw3.size; replace hD := below_tr hD bw3; replace os0 := Lib.hid os0; clear bw3; have hn_ts0 : ts0.n2 ≤ 1048576 := by have e1 := os0.out.rd.state.1; have e2 := H0.out.state.1; omega)
      | (go_at_call 56; refine (toAct_any x1 A1 n1 c1 _ (H1.out.below (below_tr HB.out hD)) (by omega)).mono ?_; rintro e w4 ⟨Bs1, rfl, os1, bw4⟩; have sz4 := bw4.size; replace os0 := Lib.hid (os0.out.below bw4); replace hD := below_tr hD bw4; have l_os1 := os1.lies; replace os1 := Lib.hid os1; clear bw4)
      | (go_at_call 55; refine (sactOk_any b0 ts0 x1 Bs1 n1 n1 _ os0.out.rd os1.out.rd (by omega) (by omega) (by omega) (by omega)).mono ?_; rintro e w5 ⟨rfl, bw5⟩; have sz5 := bw5.size; replace os1 := Lib.hid (os1.out.below bw5); replace os0 := Lib.hid (os0.out.below bw5); replace hD := below_tr hD bw5; clear bw5))
  clear z0_0 z0_1 z0_2 z0_3 z0_4 z0_5 z0_6 z0_7 z0_8 z0_9 z0_10 z0_11 z1_0 z1_1 z1_2 z1_3 z1_4 z1_5 z1_6 z1_7 z1_8
  clear hl_X0 hl_X1
  replace X0 := Lib.hid (heap_tr hD X0.out)
  replace X1 := Lib.hid (heap_tr hD X1.out)
  replace HB := Lib.hid (below_tr HB.out hD)
  clear hD
  obtain ⟨z0_0, z0_1, z0_2, z0_3, z0_4, z0_5, z0_6, z0_7, z0_8, z0_9, z0_10, z0_11⟩ := cells12 X0.out
  obtain ⟨z1_0, z1_1, z1_2, z1_3, z1_4, z1_5, z1_6, z1_7, z1_8⟩ := cells9 X1.out
  go_wp2_with fail
  clear z0_0 z0_1 z0_2 z0_3 z0_4 z0_5 z0_6 z0_7 z0_8 z0_9 z0_10 z0_11 z1_0 z1_1 z1_2 z1_3 z1_4 z1_5 z1_6 z1_7 z1_8
  refine (toBoard_any b0 s0 _ (H0.out.below HB.out) (by omega) (by omega) (by omega)).mono ?_
  rintro e w6 ⟨tx0, rfl, ox0, bw6⟩
  have sz6 := bw6.size
  replace os0 := Lib.hid (os0.out.below bw6)
  replace os1 := Lib.hid (os1.out.below bw6)
  replace X0 := Lib.hid (heap_tr bw6 X0.out)
  replace X1 := Lib.hid (heap_tr bw6 X1.out)
  replace HB := Lib.hid (below_tr HB.out bw6)
  replace ox0 := Lib.hid ox0
  clear bw6
  have hn_tx0 : tx0.n2 ≤ 1048576 := by have e1 := ox0.out.rd.state.1; have e2 := H0.out.state.1; omega
  replace os0 := Lib.hid (os0.out.below (below_new (Below.refl _ _) (.cells (bdArr b0 tx0) 31)))
  replace os1 := Lib.hid (os1.out.below (below_new (Below.refl _ _) (.cells (bdArr b0 tx0) 31)))
  replace ox0 := Lib.hid (ox0.out.below (below_new (Below.refl _ _) (.cells (bdArr b0 tx0) 31)))
  replace X0 := Lib.hid (heap_al (.cells (bdArr b0 tx0) 31) X0.out)
  replace X1 := Lib.hid (heap_al (.cells (bdArr b0 tx0) 31) X1.out)
  have Yx0 := Lib.hid (heap_new w6 (.cells (bdArr b0 tx0) 31))
  replace HB := Lib.hid (below_new HB.out (.cells (bdArr b0 tx0) 31))
  obtain ⟨z0_0, z0_1, z0_2, z0_3, z0_4, z0_5, z0_6, z0_7, z0_8, z0_9, z0_10, z0_11⟩ := cells12 X0.out
  obtain ⟨z1_0, z1_1, z1_2, z1_3, z1_4, z1_5, z1_6, z1_7, z1_8⟩ := cells9 X1.out
  obtain ⟨z2_0, z2_1, z2_2, z2_3, z2_4, z2_5, z2_6, z2_7, z2_8, z2_9, z2_10, z2_11⟩ := cells12 Yx0.out
  go_wp2_with fail
  clear z0_0 z0_1 z0_2 z0_3 z0_4 z0_5 z0_6 z0_7 z0_8 z0_9 z0_10 z0_11 z1_0 z1_1 z1_2 z1_3 z1_4 z1_5 z1_6 z1_7 z1_8 z2_0 z2_1 z2_2 z2_3 z2_4 z2_5 z2_6 z2_7 z2_8 z2_9 z2_10 z2_11
  refine (toAct_any x1 A1 n1 c1 _ (H1.out.below HB.out) (by omega)).mono ?_
  rintro e w7 ⟨Bx1, rfl, ox1, bw7⟩
  have sz7 := bw7.size
  simp only [World.size_alloc] at sz7
  replace os0 := Lib.hid (os0.out.below bw7)
  replace os1 := Lib.hid (os1.out.below bw7)
  replace ox0 := Lib.hid (ox0.out.below bw7)
  replace X0 := Lib.hid (heap_tr bw7 X0.out)
  replace X1 := Lib.hid (heap_tr bw7 X1.out)
  replace Yx0 := Lib.hid (heap_tr bw7 Yx0.out)
  replace HB := Lib.hid (below_tr HB.out bw7)
  simp only [World.size_alloc] at ox1
  have l_ox1 := ox1.lies
  replace ox1 := Lib.hid ox1
  clear bw7
  replace os0 := Lib.hid (os0.out.below (below_new (Below.refl _ _) (.cells (acArr x1 Bx1 n1 n1) 78)))
  replace os1 := Lib.hid (os1.out.below (below_new (Below.refl _ _) (.cells (acArr x1 Bx1 n1 n1) 78)))
  replace ox0 := Lib.hid (ox0.out.below (below_new (Below.refl _ _) (.cells (acArr x1 Bx1 n1 n1) 78)))
  replace ox1 := Lib.hid (ox1.out.below (below_new (Below.refl _ _) (.cells (acArr x1 Bx1 n1 n1) 78)))
  replace X0 := Lib.hid (heap_al (.cells (acArr x1 Bx1 n1 n1) 78) X0.out)
  replace X1 := Lib.hid (heap_al (.cells (acArr x1 Bx1 n1 n1) 78) X1.out)
  replace Yx0 := Lib.hid (heap_al (.cells (acArr x1 Bx1 n1 n1) 78) Yx0.out)
  have Yx1 := Lib.hid (heap_new w7 (.cells (acArr x1 Bx1 n1 n1) 78))
  replace HB := Lib.hid (below_new HB.out (.cells (acArr x1 Bx1 n1 n1) 78))
  obtain ⟨z0_0, z0_1, z0_2, z0_3, z0_4, z0_5, z0_6, z0_7, z0_8, z0_9, z0_10, z0_11⟩ := cells12 X0.out
  obtain ⟨z1_0, z1_1, z1_2, z1_3, z1_4, z1_5, z1_6, z1_7, z1_8⟩ := cells9 X1.out
  obtain ⟨z2_0, z2_1, z2_2, z2_3, z2_4, z2_5, z2_6, z2_7, z2_8, z2_9, z2_10, z2_11⟩ := cells12 Yx0.out
  obtain ⟨z3_0, z3_1, z3_2, z3_3, z3_4, z3_5, z3_6, z3_7, z3_8⟩ := cells9 Yx1.out
  go_wp2_with fail
  clear z0_0 z0_1 z0_2 z0_3 z0_4 z0_5 z0_6 z0_7 z0_8 z0_9 z0_10 z0_11 z1_0 z1_1 z1_2 z1_3 z1_4 z1_5 z1_6 z1_7 z1_8 z2_0 z2_1 z2_2 z2_3 z2_4 z2_5 z2_6 z2_7 z2_8 z2_9 z2_10 z2_11 z3_0 z3_1 z3_2 z3_3 z3_4 z3_5 z3_6 z3_7 z3_8
  refine (pactOk_any b0 tx0 x1 Bx1 n1 n1 _ ox0.out.rd ox1.out.rd (by omega) (by omega) (by omega) (by omega)).mono ?_
  rintro e w8 ⟨rfl, bw8⟩
  have sz8 := bw8.size
  simp only [World.size_alloc] at sz8
  replace os0 := Lib.hid (os0.out.below bw8)
  replace os1 := Lib.hid (os1.out.below bw8)
  replace ox0 := Lib.hid (ox0.out.below bw8)
  replace ox1 := Lib.hid (ox1.out.below bw8)
  replace X0 := Lib.hid (heap_tr bw8 X0.out)
  replace X1 := Lib.hid (heap_tr bw8 X1.out)
  replace Yx0 := Lib.hid (heap_tr bw8 Yx0.out)
  replace Yx1 := Lib.hid (heap_tr bw8 Yx1.out)
  replace HB := Lib.hid (below_tr HB.out bw8)
  clear bw8
  obtain ⟨z0_0, z0_1, z0_2, z0_3, z0_4, z0_5, z0_6, z0_7, z0_8, z0_9, z0_10, z0_11⟩ := cells12 X0.out
  obtain ⟨z1_0, z1_1, z1_2, z1_3, z1_4, z1_5, z1_6, z1_7, z1_8⟩ := cells9 X1.out
  obtain ⟨z2_0, z2_1, z2_2, z2_3, z2_4, z2_5, z2_6, z2_7, z2_8, z2_9, z2_10, z2_11⟩ := cells12 Yx0.out
  obtain ⟨z3_0, z3_1, z3_2, z3_3, z3_4, z3_5, z3_6, z3_7, z3_8⟩ := cells9 Yx1.out
  go_wp2_with fail
  have hD := (Below.refl w8.heap.size w8).drew
  have hl_X0 := heap_lt0 X0.out
  have hl_X1 := heap_lt0 X1.out
  have hl_Yx0 := heap_lt0 Yx0.out
  have hl_Yx1 := heap_lt0 Yx1.out
  go_region_held3 (fun w' => Below w8.heap.size w8 w' ∧ ∀ b o, b < w8.heap.size → w'.cell? ⟨b, o, none⟩ = w8.cell? ⟨b, o, none⟩)
    (first | exact ⟨hD, (bcell hD).1⟩)
    (first
      | (go_at_call 45; refine (toBoard_any b0 s0 _ (H0.out.below (below_tr HB.out hD)) (by omega) (by omega) (by omega)).mono ?_; rintro e w9 ⟨ty00, rfl, oy00, bw9⟩; have sz9 := bw9.size; replace hD := below_tr hD bw9; replace oy00 := Lib.hid oy00; clear bw9; have hn_ty00 : ty00.n2 ≤ 1048576 := by have e1 := oy00.out.rd.state.1; have e2 := H0.out.state.1; omega)
      | (go_at_call 20; refine (eqBoard_same b0 tx0 ty00 _ (ox0.out.rd.below hD) oy00.out.rd HBD0.out).mono ?_; rintro e w10 ⟨rfl, bw10⟩; have sz10 := bw10.size; replace oy00 := Lib.hid (oy00.out.below bw10); replace hD := below_tr hD bw10; clear bw10))
  clear z0_0 z0_1 z0_2 z0_3 z0_4 z0_5 z0_6 z0_7 z0_8 z0_9 z0_10 z0_11 z1_0 z1_1 z1_2 z1_3 z1_4 z1_5 z1_6 z1_7 z1_8 z2_0 z2_1 z2_2 z2_3 z2_4 z2_5 z2_6 z2_7 z2_8 z2_9 z2_10 z2_11 z3_0 z3_1 z3_2 z3_3 z3_4 z3_5 z3_6 z3_7 z3_8
  clear hl_X0 hl_X1 hl_Yx0 hl_Yx1
  replace os0 := Lib.hid (os0.out.below hD)
  replace os1 := Lib.hid (os1.out.below hD)
  replace ox0 := Lib.hid (ox0.out.below hD)
  replace ox1 := Lib.hid (ox1.out.below hD)
  replace X0 := Lib.hid (heap_tr hD X0.out)
  replace X1 := Lib.hid (heap_tr hD X1.out)
  replace Yx0 := Lib.hid (heap_tr hD Yx0.out)
  replace Yx1 := Lib.hid (heap_tr hD Yx1.out)
  replace HB := Lib.hid (below_tr HB.out hD)
  clear hD
  obtain ⟨z0_0, z0_1, z0_2, z0_3, z0_4, z0_5, z0_6, z0_7, z0_8, z0_9, z0_10, z0_11⟩ := cells12 X0.out
  obtain ⟨z1_0, z1_1, z1_2, z1_3, z1_4, z1_5, z1_6, z1_7, z1_8⟩ := cells9 X1.out
  obtain ⟨z2_0, z2_1, z2_2, z2_3, z2_4, z2_5, z2_6, z2_7, z2_8, z2_9, z2_10, z2_11⟩ := cells12 Yx0.out
  obtain ⟨z3_0, z3_1, z3_2, z3_3, z3_4, z3_5, z3_6, z3_7, z3_8⟩ := cells9 Yx1.out
  go_wp2_with fail
  have hD := (Below.refl w10.heap.size w10).drew
  have hl_X0 := heap_lt0 X0.out
  have hl_X1 := heap_lt0 X1.out
  have hl_Yx0 := heap_lt0 Yx0.out
  have hl_Yx1 := heap_lt0 Yx1.out
  go_region_held3 (fun w' => Below w10.heap.size w10 w' ∧ ∀ b o, b < w10.heap.size → w'.cell? ⟨b, o, none⟩ = w10.cell? ⟨b, o, none⟩)
    (first | exact ⟨hD, (bcell hD).1⟩)
    (first
      | (go_at_call 56; refine (toAct_any x1 A1 n1 c1 _ (H1.out.below (below_tr HB.out hD)) (by omega)).mono ?_; rintro e w11 ⟨By11, rfl, oy11, bw11⟩; have sz11 := bw11.size; replace hD := below_tr hD bw11; have l_oy11 := oy11.lies; replace oy11 := Lib.hid oy11; clear bw11)
      | (go_at_call 58; refine (eqAct_same x1 Bx1 By11 n1 n1 n1 n1 _ (ox1.out.rd.below hD) oy11.out.rd (by omega)).mono ?_; rintro e w12 ⟨rfl, bw12⟩; have sz12 := bw12.size; replace oy11 := Lib.hid (oy11.out.below bw12); replace hD := below_tr hD bw12; clear bw12))
  clear z0_0 z0_1 z0_2 z0_3 z0_4 z0_5 z0_6 z0_7 z0_8 z0_9 z0_10 z0_11 z1_0 z1_1 z1_2 z1_3 z1_4 z1_5 z1_6 z1_7 z1_8 z2_0 z2_1 z2_2 z2_3 z2_4 z2_5 z2_6 z2_7 z2_8 z2_9 z2_10 z2_11 z3_0 z3_1 z3_2 z3_3 z3_4 z3_5 z3_6 z3_7 z3_8
  clear hl_X0 hl_X1 hl_Yx0 hl_Yx1
  replace os0 := Lib.hid (os0.out.below hD)
  replace os1 := Lib.hid (os1.out.below hD)
  replace ox0 := Lib.hid (ox0.out.below hD)
  replace ox1 := Lib.hid (ox1.out.below hD)
  replace oy00 := Lib.hid (oy00.out.below hD)
  replace X0 := Lib.hid (heap_tr hD X0.out)
  replace X1 := Lib.hid (heap_tr hD X1.out)
  replace Yx0 := Lib.hid (heap_tr hD Yx0.out)
  replace Yx1 := Lib.hid (heap_tr hD Yx1.out)
  replace HB := Lib.hid (below_tr HB.out hD)
  clear hD
  obtain ⟨z0_0, z0_1, z0_2, z0_3, z0_4, z0_5, z0_6, z0_7, z0_8, z0_9, z0_10, z0_11⟩ := cells12 X0.out
  obtain ⟨z1_0, z1_1, z1_2, z1_3, z1_4, z1_5, z1_6, z1_7, z1_8⟩ := cells9 X1.out
  obtain ⟨z2_0, z2_1, z2_2, z2_3, z2_4, z2_5, z2_6, z2_7, z2_8, z2_9, z2_10, z2_11⟩ := cells12 Yx0.out
  obtain ⟨z3_0, z3_1, z3_2, z3_3, z3_4, z3_5, z3_6, z3_7, z3_8⟩ := cells9 Yx1.out
  go_wp2_with fail
  clear z0_0 z0_1 z0_2 z0_3 z0_4 z0_5 z0_6 z0_7 z0_8 z0_9 z0_10 z0_11 z1_0 z1_1 z1_2 z1_3 z1_4 z1_5 z1_6 z1_7 z1_8 z2_0 z2_1 z2_2 z2_3 z2_4 z2_5 z2_6 z2_7 z2_8 z2_9 z2_10 z2_11 z3_0 z3_1 z3_2 z3_3 z3_4 z3_5 z3_6 z3_7 z3_8
  go_ret
  exact ⟨rfl, HB.out⟩
end Go.Proofs.Ytclmhnghpnfnkaa
