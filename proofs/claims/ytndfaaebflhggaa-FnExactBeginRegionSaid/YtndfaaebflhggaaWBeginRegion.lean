/- The walk of the law FnExactBeginRegion (printed by gen.py). -/
import Derived.Deep.CutBlock
import Derived.Deep.CutRange
import Derived.Deep.DeepCutAuto
import Derived.Test.YtndfaaebflhggaaBe
import Derived.Test.YtndfaaebflhggaaBeS
import Derived.Test.YtndfaaebflhggaaOb
import Derived.Test.YtndfaaebflhggaaObn
import Derived.Test.YtndfaaebflhggaaRc
import Derived.Test.YtndfaaebflhggaaRow2W
namespace Go.Proofs.Ytndfaaebflhggaa
set_option maxRecDepth 100000
open Go.RowKit
set_option maxHeartbeats 4000000 in
theorem law_beginRegion (b0 : Bd) (s0 : Sl3) (a1 : Reg) (w : World) (h0 : BoardRd w b0 s0) (m0 : s0.n1 ≤ maxLen) (mm0 : s0.n2 ≤ maxLen) (mn0 : s0.n3 ≤ maxLen) (_q0 : ∀ ys ∈ b0.frames, ys.length ≤ maxLen ∧ ∀ y ∈ ys, Wf y) (_r0 : ∀ ys ∈ b0.saved, ys.length ≤ maxLen ∧ ∀ y ∈ ys, Wf y) (_hw1 : a1.wf) :
    Calls Try.prog 6 #[.agg (bdArr b0 s0), .agg #[.int .i64 a1.X0, .int .i64 a1.Y0, .int .i64 a1.X1, .int .i64 a1.Y1]] w fun e w' => e = .returned (.bool true) ∧ Below w.heap.size w w' := by
  unfold maxLen at *
  have H0 := Lib.hid h0
  have Q0 := Lib.hid (rows_len _q0)
  have R0 := Lib.hid (rows_len _r0)
  clear h0 _q0 _r0 _hw1
  go_enter Try.func6, Try.ntmps6
  have X0 : Hid ((World.alloc w (.cells (bdArr b0 s0) 56)).heap[w.heap.size]? = some (.cells (bdArr b0 s0) 56)) := heap_newAt (by simp)
  replace X0 := Lib.hid (heap_al (.cells #[.int .i64 a1.X0, .int .i64 a1.Y0, .int .i64 a1.X1, .int .i64 a1.Y1] 54) X0.out)
  have X1 : Hid ((World.alloc (w.alloc (.cells (bdArr b0 s0) 56)) (.cells #[.int .i64 a1.X0, .int .i64 a1.Y0, .int .i64 a1.X1, .int .i64 a1.Y1] 54)).heap[w.heap.size + 1]? = some (.cells #[.int .i64 a1.X0, .int .i64 a1.Y0, .int .i64 a1.X1, .int .i64 a1.Y1] 54)) := heap_newAt (by simp)
  have HB := Lib.hid ((below_new ((below_new (Below.refl w.heap.size w) (.cells (bdArr b0 s0) 56))) (.cells #[.int .i64 a1.X0, .int .i64 a1.Y0, .int .i64 a1.X1, .int .i64 a1.Y1] 54)))
  obtain ⟨z0_0, z0_1, z0_2, z0_3, z0_4, z0_5, z0_6, z0_7, z0_8, z0_9, z0_10, z0_11⟩ := cells12 X0.out
  obtain ⟨z1_0, z1_1, z1_2, z1_3⟩ := cells4 X1.out
  go_wp2_with fail
  clear z0_0 z0_1 z0_2 z0_3 z0_4 z0_5 z0_6 z0_7 z0_8 z0_9 z0_10 z0_11 z1_0 z1_1 z1_2 z1_3
  refine (szBoard_any b0 s0 _ (H0.out.below HB.out) (by omega) (by omega) (by omega) Q0.out R0.out).mono ?_
  rintro e w1 ⟨L0, rfl, hx0, bw1⟩
  have sz1 := bw1.size
  simp only [World.size_alloc] at sz1
  replace X0 := Lib.hid (heap_tr bw1 X0.out)
  replace X1 := Lib.hid (heap_tr bw1 X1.out)
  replace HB := Lib.hid (below_tr HB.out bw1)
  clear bw1
  rcases hx0 with hx0 | ⟨hx0, hy0, hz0⟩
  · have hd : decide (L0 < 0) = true := by simpa using hx0
    obtain ⟨z0_0, z0_1, z0_2, z0_3, z0_4, z0_5, z0_6, z0_7, z0_8, z0_9, z0_10, z0_11⟩ := cells12 X0.out
    obtain ⟨z1_0, z1_1, z1_2, z1_3⟩ := cells4 X1.out
    go_wp2_with fail
    clear z0_0 z0_1 z0_2 z0_3 z0_4 z0_5 z0_6 z0_7 z0_8 z0_9 z0_10 z0_11 z1_0 z1_1 z1_2 z1_3
    go_ret
    exact ⟨rfl, HB.out⟩
  have hd0 : decide (L0 < 0) = false := by simp; omega
  have HBD0 : Hid (BdOk b0) := ⟨by omega, by have e2 := H0.out.state.1; omega, by omega⟩
  have resle0 := Lib.hid ((beB_bb (show BdB 1048576 b0 from ⟨by omega, by have e2 := H0.out.state.1; omega, by omega⟩) a1).ok (by decide))
  have resn0 := (beB_bb (show BdB 1048576 b0 from ⟨by omega, by have e2 := H0.out.state.1; omega, by omega⟩) a1).n
  obtain ⟨z0_0, z0_1, z0_2, z0_3, z0_4, z0_5, z0_6, z0_7, z0_8, z0_9, z0_10, z0_11⟩ := cells12 X0.out
  obtain ⟨z1_0, z1_1, z1_2, z1_3⟩ := cells4 X1.out
  go_wp2_with fail
  go_cut [6, 7] (fun p u w' => RunCut w1 (beB b0 a1) (.bool (beO b0 a1)) p u w')
  case first =>
    have hD := Below.refl w1.heap.size w1
    have hdr : w1.heap.size ≤ w1.drew.heap.size := Nat.le_refl _
    have hl_X0 := heap_lt0 X0.out
    have hl_X1 := heap_lt0 X1.out
    go_region_held3 (fun w' => Below w1.heap.size w1 w' ∧ ∀ b o, b < w1.heap.size → w'.cell? ⟨b, o, none⟩ = w1.cell? ⟨b, o, none⟩)
      (first | with_reducible exact ⟨hD, (bcell hD).1⟩ | with_reducible exact ⟨hD.drew, (bcell hD.drew).1⟩ | (refine ⟨?_, (bcell ?_).1⟩ <;> (repeat (first | with_reducible exact hD | with_reducible exact hD.drew | with_reducible refine below_new ?_ _ | with_reducible refine Below.drew ?_ | with_reducible refine Below.setCell ?_ (by simp only; omega) _))))
      (first
        | (go_at_call 30; (refine (toBoard_any b0 s0 _ (H0.out.below (below_tr HB.out (by first | with_reducible exact hD | with_reducible exact hD.drew | with_reducible exact below_new hD _ | with_reducible exact (below_new hD _).drew | with_reducible exact below_new hD.drew _ | with_reducible exact (below_new hD.drew _).drew))) (by omega) (by omega) (by omega)).mono ?_); rintro e wk ⟨t0, rfl, q0, bw⟩; have hD2 := below_tr (a := w1) (by first | with_reducible exact hD | with_reducible exact hD.drew | with_reducible exact below_new hD _ | with_reducible exact (below_new hD _).drew | with_reducible exact below_new hD.drew _ | with_reducible exact (below_new hD.drew _).drew) bw; (try replace hBq0 := below_tr (by first | with_reducible exact hBq0 | with_reducible exact hBq0.drew | with_reducible exact below_new hBq0 _ | with_reducible exact (below_new hBq0 _).drew | with_reducible exact below_new hBq0.drew _ | with_reducible exact (below_new hBq0.drew _).drew) bw); have hb0 := Lib.hid bw; have hBq0 := Below.refl wk.heap.size wk; have hnq0 : t0.n2 ≤ 1048576 := (by have e1 := q0.rd.state.1; have e2 := H0.out.state.1; omega); have Q0q := Lib.hid q0.rd; clear q0; have hsz := hD2.size; have hsz2 := bw.size; (try simp only [World.size_drew] at hsz2); (try simp only [World.size_alloc] at hsz2); (try have hlt2 := Nat.lt_of_lt_of_le hlt2 hsz2); (try have hlt2 := Nat.lt_of_succ_le hsz2); obtain ⟨hcc, hff⟩ := bcell bw; clear bw; replace hD := hD2)
        | (go_at_call 31; (refine (toRegion_any a1 _ ).mono ?_); rintro e wk ⟨rfl, bw⟩; have hD2 := below_tr (a := w1) (by first | with_reducible exact hD | with_reducible exact hD.drew | with_reducible exact below_new hD _ | with_reducible exact (below_new hD _).drew | with_reducible exact below_new hD.drew _ | with_reducible exact (below_new hD.drew _).drew) bw; (try replace hBq0 := below_tr (by first | with_reducible exact hBq0 | with_reducible exact hBq0.drew | with_reducible exact below_new hBq0 _ | with_reducible exact (below_new hBq0 _).drew | with_reducible exact below_new hBq0.drew _ | with_reducible exact (below_new hBq0.drew _).drew) bw); have hb1 := Lib.hid bw; have hsz := hD2.size; have hsz2 := bw.size; (try simp only [World.size_drew] at hsz2); (try simp only [World.size_alloc] at hsz2); (try have hlt2 := Nat.lt_of_lt_of_le hlt2 hsz2); (try have hlt2 := Nat.lt_of_succ_le hsz2); obtain ⟨hcc, hff⟩ := bcell bw; clear bw; replace hD := hD2)
        | (go_at_call 29; (with_reducible refine (sbeginRegion_any b0 t0 a1 _ (Q0q.out.below (by first | with_reducible exact hBq0 | with_reducible exact hBq0.drew | with_reducible exact below_new hBq0 _ | with_reducible exact (below_new hBq0 _).drew | with_reducible exact below_new hBq0.drew _ | with_reducible exact (below_new hBq0.drew _).drew)) (by omega) (by omega) (by omega)).mono ?_); rintro e wk ⟨R, rfl, f, bw⟩; have hD2 := below_tr (a := w1) (by first | with_reducible exact hD | with_reducible exact hD.drew | with_reducible exact below_new hD _ | with_reducible exact (below_new hD _).drew | with_reducible exact below_new hD.drew _ | with_reducible exact (below_new hD.drew _).drew) bw; (try replace hBq0 := below_tr (by first | with_reducible exact hBq0 | with_reducible exact hBq0.drew | with_reducible exact below_new hBq0 _ | with_reducible exact (below_new hBq0 _).drew | with_reducible exact below_new hBq0.drew _ | with_reducible exact (below_new hBq0.drew _).drew) bw); have HFK := Lib.hid f; have HBK := Lib.hid bw; have hsf : wk.heap.size ≤ wk.heap.size := Nat.le_refl _; clear f; have hsz := hD2.size; have hsz2 := bw.size; (try simp only [World.size_drew] at hsz2); (try simp only [World.size_alloc] at hsz2); (try have hlt2 := Nat.lt_of_lt_of_le hlt2 hsz2); (try have hlt2 := Nat.lt_of_succ_le hsz2); obtain ⟨hcc, hff⟩ := bcell bw; clear bw; replace hD := hD2))
    all_goals
      go_wp2_with fail
      go_meet
      try simp only [cut_drew_set, cut_drew_alloc]
      first | ((with_reducible refine (cutA hD HFK.out ?_ ?_)) <;> first | omega | (simp; omega)) | ((with_reducible refine RunCut.drew (cutA hD HFK.out ?_ ?_)) <;> first | omega | (simp; omega)) | ((with_reducible refine RunCut.drews (cutA hD HFK.out ?_ ?_)) <;> first | omega | (simp; omega)) | ((with_reducible refine (cutB (b0 := zBd) (R0 := zSl) ?_ HBK.out HFK.out hD ?_ ?_ ?_)) <;> first | omega | (simp; omega) | exact heap_new _ _ | exact heap_tr hb0.out (heap_new _ _) | exact heap_tr hb1.out (heap_new _ _) | exact heap_tr hb0.out (heap_tr hb1.out (heap_new _ _)) | exact heap_tr hb1.out (heap_tr hb0.out (heap_new _ _))) | ((with_reducible refine RunCut.drew (cutB (b0 := zBd) (R0 := zSl) ?_ HBK.out HFK.out hD ?_ ?_ ?_)) <;> first | omega | (simp; omega) | exact heap_new _ _ | exact heap_tr hb0.out (heap_new _ _) | exact heap_tr hb1.out (heap_new _ _) | exact heap_tr hb0.out (heap_tr hb1.out (heap_new _ _)) | exact heap_tr hb1.out (heap_tr hb0.out (heap_new _ _))) | ((with_reducible refine RunCut.drews (cutB (b0 := zBd) (R0 := zSl) ?_ HBK.out HFK.out hD ?_ ?_ ?_)) <;> first | omega | (simp; omega) | exact heap_new _ _ | exact heap_tr hb0.out (heap_new _ _) | exact heap_tr hb1.out (heap_new _ _) | exact heap_tr hb0.out (heap_tr hb1.out (heap_new _ _)) | exact heap_tr hb1.out (heap_tr hb0.out (heap_new _ _)))
  clear z0_0 z0_1 z0_2 z0_3 z0_4 z0_5 z0_6 z0_7 z0_8 z0_9 z0_10 z0_11 z1_0 z1_1 z1_2 z1_3
  obtain ⟨w2, g2, Rs0, lo2, hi2, rfl, rfl, hbk2, hgw2, hsp2, hlo2, hhi2, hF2, hD, rfl⟩ := hcut
  have sz2 := hD.size
  have hgl2 := heap_lt0 hbk2
  replace X0 := Lib.hid (heap_tr hD X0.out)
  replace X1 := Lib.hid (heap_tr hD X1.out)
  replace HB := Lib.hid (below_tr HB.out hD)
  have rs0 := Lib.hid hF2
  have Ys0 : Hid (w2.heap[g2]? = some (.cells (bdArr (beB b0 a1) Rs0) 60 (0, 0))) := hbk2
  clear hD hF2 hbk2
  obtain ⟨z0_0, z0_1, z0_2, z0_3, z0_4, z0_5, z0_6, z0_7, z0_8, z0_9, z0_10, z0_11⟩ := cells12 X0.out
  obtain ⟨z1_0, z1_1, z1_2, z1_3⟩ := cells4 X1.out
  obtain ⟨z2_0, z2_1, z2_2, z2_3, z2_4, z2_5, z2_6, z2_7, z2_8, z2_9, z2_10, z2_11⟩ := cells12 Ys0.out
  go_wp2_with fail
  clear z0_0 z0_1 z0_2 z0_3 z0_4 z0_5 z0_6 z0_7 z0_8 z0_9 z0_10 z0_11 z1_0 z1_1 z1_2 z1_3 z2_0 z2_1 z2_2 z2_3 z2_4 z2_5 z2_6 z2_7 z2_8 z2_9 z2_10 z2_11
  refine (toBoard_any b0 s0 _ (H0.out.below HB.out) (by omega) (by omega) (by omega)).mono ?_
  rintro e w3 ⟨tx0, rfl, ox0, bw3⟩
  have sz3 := bw3.size
  replace rs0 := Lib.hid (rs0.out.below bw3)
  replace X0 := Lib.hid (heap_tr bw3 X0.out)
  replace X1 := Lib.hid (heap_tr bw3 X1.out)
  replace Ys0 := Lib.hid (heap_tr bw3 Ys0.out)
  replace HB := Lib.hid (below_tr HB.out bw3)
  replace ox0 := Lib.hid ox0
  clear bw3
  have hn_tx0 : tx0.n2 ≤ 1048576 := by have e1 := ox0.out.rd.state.1; have e2 := H0.out.state.1; omega
  replace rs0 := Lib.hid (rs0.out.below (below_new (Below.refl _ _) (.cells (bdArr b0 tx0) 60)))
  replace ox0 := Lib.hid (ox0.out.below (below_new (Below.refl _ _) (.cells (bdArr b0 tx0) 60)))
  replace X0 := Lib.hid (heap_al (.cells (bdArr b0 tx0) 60) X0.out)
  replace X1 := Lib.hid (heap_al (.cells (bdArr b0 tx0) 60) X1.out)
  replace Ys0 := Lib.hid (heap_al (.cells (bdArr b0 tx0) 60) Ys0.out)
  have Yx0 := Lib.hid (heap_new w3 (.cells (bdArr b0 tx0) 60))
  replace HB := Lib.hid (below_new HB.out (.cells (bdArr b0 tx0) 60))
  obtain ⟨z0_0, z0_1, z0_2, z0_3, z0_4, z0_5, z0_6, z0_7, z0_8, z0_9, z0_10, z0_11⟩ := cells12 X0.out
  obtain ⟨z1_0, z1_1, z1_2, z1_3⟩ := cells4 X1.out
  obtain ⟨z2_0, z2_1, z2_2, z2_3, z2_4, z2_5, z2_6, z2_7, z2_8, z2_9, z2_10, z2_11⟩ := cells12 Ys0.out
  obtain ⟨z3_0, z3_1, z3_2, z3_3, z3_4, z3_5, z3_6, z3_7, z3_8, z3_9, z3_10, z3_11⟩ := cells12 Yx0.out
  go_wp2_with fail
  have szg4 : w3.heap.size < (w3.alloc (.cells (bdArr b0 tx0) 60)).heap.size := by simp
  generalize hWg : (w3.alloc (.cells (bdArr b0 tx0) 60)) = w4 at *
  clear hWg
  go_cut [9, 10] (fun p u w' => RunCut w4 (beB b0 a1) (.bool (beO b0 a1)) p u w')
  case first =>
    have hD := Below.refl w4.heap.size w4
    have hdr : w4.heap.size ≤ w4.drew.heap.size := Nat.le_refl _
    have hl_X0 := heap_lt0 X0.out
    have hl_X1 := heap_lt0 X1.out
    have hl_Ys0 := heap_lt0 Ys0.out
    have hl_Yx0 := heap_lt0 Yx0.out
    go_region_held3 (fun w' => Below w4.heap.size w4 w' ∧ ∀ b o, b < w4.heap.size → w'.cell? ⟨b, o, none⟩ = w4.cell? ⟨b, o, none⟩)
      (first | with_reducible exact ⟨hD, (bcell hD).1⟩ | with_reducible exact ⟨hD.drew, (bcell hD.drew).1⟩ | (refine ⟨?_, (bcell ?_).1⟩ <;> (repeat (first | with_reducible exact hD | with_reducible exact hD.drew | with_reducible refine below_new ?_ _ | with_reducible refine Below.drew ?_ | with_reducible refine Below.setCell ?_ (by simp only; omega) _))))
      (first
        | (go_at_call 31; (refine (toRegion_any a1 _ ).mono ?_); rintro e wk ⟨rfl, bw⟩; have hD2 := below_tr (a := w4) (by first | with_reducible exact hD | with_reducible exact hD.drew | with_reducible exact below_new hD _ | with_reducible exact (below_new hD _).drew | with_reducible exact below_new hD.drew _ | with_reducible exact (below_new hD.drew _).drew) bw; have hb1 := Lib.hid bw; have hsz := hD2.size; have hsz2 := bw.size; (try simp only [World.size_drew] at hsz2); (try simp only [World.size_alloc] at hsz2); (try have hlt2 := Nat.lt_of_lt_of_le hlt2 hsz2); (try have hlt2 := Nat.lt_of_succ_le hsz2); obtain ⟨hcc, hff⟩ := bcell bw; clear bw; replace hD := hD2)
        | (go_at_call 32; (with_reducible refine (beginRegion_any b0 tx0 a1 _ (ox0.out.rd.below (by first | with_reducible exact hD | with_reducible exact hD.drew | with_reducible exact below_new hD _ | with_reducible exact (below_new hD _).drew | with_reducible exact below_new hD.drew _ | with_reducible exact (below_new hD.drew _).drew)) (by omega) (by omega) (by omega)).mono ?_); rintro e wk ⟨R, rfl, f, bw⟩; have hD2 := below_tr (a := w4) (by first | with_reducible exact hD | with_reducible exact hD.drew | with_reducible exact below_new hD _ | with_reducible exact (below_new hD _).drew | with_reducible exact below_new hD.drew _ | with_reducible exact (below_new hD.drew _).drew) bw; have HFK := Lib.hid f; have HBK := Lib.hid bw; have hsf : wk.heap.size ≤ wk.heap.size := Nat.le_refl _; clear f; have hsz := hD2.size; have hsz2 := bw.size; (try simp only [World.size_drew] at hsz2); (try simp only [World.size_alloc] at hsz2); (try have hlt2 := Nat.lt_of_lt_of_le hlt2 hsz2); (try have hlt2 := Nat.lt_of_succ_le hsz2); obtain ⟨hcc, hff⟩ := bcell bw; clear bw; replace hD := hD2))
    all_goals
      go_wp2_with fail
      go_meet
      try simp only [cut_drew_set, cut_drew_alloc]
      first | ((with_reducible refine (cutA hD HFK.out ?_ ?_)) <;> first | omega | (simp; omega)) | ((with_reducible refine RunCut.drew (cutA hD HFK.out ?_ ?_)) <;> first | omega | (simp; omega)) | ((with_reducible refine RunCut.drews (cutA hD HFK.out ?_ ?_)) <;> first | omega | (simp; omega)) | ((with_reducible refine (cutB (b0 := zBd) (R0 := zSl) ?_ HBK.out HFK.out hD ?_ ?_ ?_)) <;> first | omega | (simp; omega) | exact heap_new _ _ | exact heap_tr hb1.out (heap_new _ _)) | ((with_reducible refine RunCut.drew (cutB (b0 := zBd) (R0 := zSl) ?_ HBK.out HFK.out hD ?_ ?_ ?_)) <;> first | omega | (simp; omega) | exact heap_new _ _ | exact heap_tr hb1.out (heap_new _ _)) | ((with_reducible refine RunCut.drews (cutB (b0 := zBd) (R0 := zSl) ?_ HBK.out HFK.out hD ?_ ?_ ?_)) <;> first | omega | (simp; omega) | exact heap_new _ _ | exact heap_tr hb1.out (heap_new _ _))
  clear z0_0 z0_1 z0_2 z0_3 z0_4 z0_5 z0_6 z0_7 z0_8 z0_9 z0_10 z0_11 z1_0 z1_1 z1_2 z1_3 z2_0 z2_1 z2_2 z2_3 z2_4 z2_5 z2_6 z2_7 z2_8 z2_9 z2_10 z2_11 z3_0 z3_1 z3_2 z3_3 z3_4 z3_5 z3_6 z3_7 z3_8 z3_9 z3_10 z3_11
  obtain ⟨w5, g5, Rg0, lo5, hi5, rfl, rfl, hbk5, hgw5, hsp5, hlo5, hhi5, hF5, hD, rfl⟩ := hcut
  have sz5 := hD.size
  have hgl5 := heap_lt0 hbk5
  replace rs0 := Lib.hid (rs0.out.below hD)
  replace ox0 := Lib.hid (ox0.out.below hD)
  replace X0 := Lib.hid (heap_tr hD X0.out)
  replace X1 := Lib.hid (heap_tr hD X1.out)
  replace Ys0 := Lib.hid (heap_tr hD Ys0.out)
  replace Yx0 := Lib.hid (heap_tr hD Yx0.out)
  replace HB := Lib.hid (below_tr HB.out hD)
  have rg0 := Lib.hid hF5
  have Yg0 : Hid (w5.heap[g5]? = some (.cells (bdArr (beB b0 a1) Rg0) 60 (0, 0))) := hbk5
  clear hD hF5 hbk5
  obtain ⟨z0_0, z0_1, z0_2, z0_3, z0_4, z0_5, z0_6, z0_7, z0_8, z0_9, z0_10, z0_11⟩ := cells12 X0.out
  obtain ⟨z1_0, z1_1, z1_2, z1_3⟩ := cells4 X1.out
  obtain ⟨z2_0, z2_1, z2_2, z2_3, z2_4, z2_5, z2_6, z2_7, z2_8, z2_9, z2_10, z2_11⟩ := cells12 Ys0.out
  obtain ⟨z3_0, z3_1, z3_2, z3_3, z3_4, z3_5, z3_6, z3_7, z3_8, z3_9, z3_10, z3_11⟩ := cells12 Yx0.out
  obtain ⟨z4_0, z4_1, z4_2, z4_3, z4_4, z4_5, z4_6, z4_7, z4_8, z4_9, z4_10, z4_11⟩ := cells12 Yg0.out
  go_wp2_with fail
  clear z0_0 z0_1 z0_2 z0_3 z0_4 z0_5 z0_6 z0_7 z0_8 z0_9 z0_10 z0_11 z1_0 z1_1 z1_2 z1_3 z2_0 z2_1 z2_2 z2_3 z2_4 z2_5 z2_6 z2_7 z2_8 z2_9 z2_10 z2_11 z3_0 z3_1 z3_2 z3_3 z3_4 z3_5 z3_6 z3_7 z3_8 z3_9 z3_10 z3_11 z4_0 z4_1 z4_2 z4_3 z4_4 z4_5 z4_6 z4_7 z4_8 z4_9 z4_10 z4_11
  refine (eqBoard_same _ Rg0 Rs0 _ rg0.out.rd rs0.out.rd resle0.out).mono ?_
  rintro e w6 ⟨rfl, bw6⟩
  have sz6 := bw6.size
  replace rs0 := Lib.hid (rs0.out.below bw6)
  replace ox0 := Lib.hid (ox0.out.below bw6)
  replace rg0 := Lib.hid (rg0.out.below bw6)
  replace X0 := Lib.hid (heap_tr bw6 X0.out)
  replace X1 := Lib.hid (heap_tr bw6 X1.out)
  replace Ys0 := Lib.hid (heap_tr bw6 Ys0.out)
  replace Yx0 := Lib.hid (heap_tr bw6 Yx0.out)
  replace Yg0 := Lib.hid (heap_tr bw6 Yg0.out)
  replace HB := Lib.hid (below_tr HB.out bw6)
  clear bw6
  obtain ⟨z0_0, z0_1, z0_2, z0_3, z0_4, z0_5, z0_6, z0_7, z0_8, z0_9, z0_10, z0_11⟩ := cells12 X0.out
  obtain ⟨z1_0, z1_1, z1_2, z1_3⟩ := cells4 X1.out
  obtain ⟨z2_0, z2_1, z2_2, z2_3, z2_4, z2_5, z2_6, z2_7, z2_8, z2_9, z2_10, z2_11⟩ := cells12 Ys0.out
  obtain ⟨z3_0, z3_1, z3_2, z3_3, z3_4, z3_5, z3_6, z3_7, z3_8, z3_9, z3_10, z3_11⟩ := cells12 Yx0.out
  obtain ⟨z4_0, z4_1, z4_2, z4_3, z4_4, z4_5, z4_6, z4_7, z4_8, z4_9, z4_10, z4_11⟩ := cells12 Yg0.out
  go_wp2_with fail
  have hD := (Below.refl w6.heap.size w6).drew
  have hl_X0 := heap_lt0 X0.out
  have hl_X1 := heap_lt0 X1.out
  have hl_Ys0 := heap_lt0 Ys0.out
  have hl_Yx0 := heap_lt0 Yx0.out
  have hl_Yg0 := heap_lt0 Yg0.out
  go_region_held3 (fun w' => Below w6.heap.size w6 w' ∧ ∀ b o, b < w6.heap.size → w'.cell? ⟨b, o, none⟩ = w6.cell? ⟨b, o, none⟩)
    (first | exact ⟨hD, (bcell hD).1⟩)
    (first
      | (go_at_call 30; refine (toBoard_any b0 s0 _ (H0.out.below (below_tr HB.out hD)) (by omega) (by omega) (by omega)).mono ?_; rintro e w7 ⟨ty00, rfl, oy00, bw7⟩; have sz7 := bw7.size; have sy7 : w6.heap.size ≤ w7.heap.size := bw7.size; replace hD := below_tr hD bw7; replace oy00 := Lib.hid oy00; clear bw7; have hn_ty00 : ty00.n2 ≤ 1048576 := by have e1 := oy00.out.rd.state.1; have e2 := H0.out.state.1; omega)
      | (go_at_call 33; refine (eqBoard_same b0 tx0 ty00 _ (ox0.out.rd.below hD) oy00.out.rd HBD0.out).mono ?_; rintro e w8 ⟨rfl, bw8⟩; have sz8 := bw8.size; have sy8 : w7.heap.size ≤ w8.heap.size := bw8.size; replace oy00 := Lib.hid (oy00.out.below bw8); replace hD := below_tr hD bw8; clear bw8))
  clear z0_0 z0_1 z0_2 z0_3 z0_4 z0_5 z0_6 z0_7 z0_8 z0_9 z0_10 z0_11 z1_0 z1_1 z1_2 z1_3 z2_0 z2_1 z2_2 z2_3 z2_4 z2_5 z2_6 z2_7 z2_8 z2_9 z2_10 z2_11 z3_0 z3_1 z3_2 z3_3 z3_4 z3_5 z3_6 z3_7 z3_8 z3_9 z3_10 z3_11 z4_0 z4_1 z4_2 z4_3 z4_4 z4_5 z4_6 z4_7 z4_8 z4_9 z4_10 z4_11
  clear hl_X0 hl_X1 hl_Ys0 hl_Yx0 hl_Yg0
  have sda8 : w6.drew.heap.size ≤ w6.heap.size := Nat.le_refl _
  have sdb8 : w6.heap.size ≤ w6.drew.heap.size := Nat.le_refl _
  replace rs0 := Lib.hid (rs0.out.below hD)
  replace ox0 := Lib.hid (ox0.out.below hD)
  replace rg0 := Lib.hid (rg0.out.below hD)
  replace X0 := Lib.hid (heap_tr hD X0.out)
  replace X1 := Lib.hid (heap_tr hD X1.out)
  replace Ys0 := Lib.hid (heap_tr hD Ys0.out)
  replace Yx0 := Lib.hid (heap_tr hD Yx0.out)
  replace Yg0 := Lib.hid (heap_tr hD Yg0.out)
  replace HB := Lib.hid (below_tr HB.out hD)
  clear hD
  have bz0 : bdN b0 ≤ 2097152 := by have e2 := H0.out.state.1; unfold bdN; unfold size2 at hz0; omega
  obtain ⟨z0_0, z0_1, z0_2, z0_3, z0_4, z0_5, z0_6, z0_7, z0_8, z0_9, z0_10, z0_11⟩ := cells12 X0.out
  obtain ⟨z1_0, z1_1, z1_2, z1_3⟩ := cells4 X1.out
  obtain ⟨z2_0, z2_1, z2_2, z2_3, z2_4, z2_5, z2_6, z2_7, z2_8, z2_9, z2_10, z2_11⟩ := cells12 Ys0.out
  obtain ⟨z3_0, z3_1, z3_2, z3_3, z3_4, z3_5, z3_6, z3_7, z3_8, z3_9, z3_10, z3_11⟩ := cells12 Yx0.out
  obtain ⟨z4_0, z4_1, z4_2, z4_3, z4_4, z4_5, z4_6, z4_7, z4_8, z4_9, z4_10, z4_11⟩ := cells12 Yg0.out
  go_wp2_with fail
  clear z0_0 z0_1 z0_2 z0_3 z0_4 z0_5 z0_6 z0_7 z0_8 z0_9 z0_10 z0_11 z1_0 z1_1 z1_2 z1_3 z2_0 z2_1 z2_2 z2_3 z2_4 z2_5 z2_6 z2_7 z2_8 z2_9 z2_10 z2_11 z3_0 z3_1 z3_2 z3_3 z3_4 z3_5 z3_6 z3_7 z3_8 z3_9 z3_10 z3_11 z4_0 z4_1 z4_2 z4_3 z4_4 z4_5 z4_6 z4_7 z4_8 z4_9 z4_10 z4_11
  refine (markBoard_chg _ _ b0 tx0 1 _ ox0.out (by omega) ⟨by omega, by have e2 := H0.out.state.1; omega, by omega⟩ (by omega) (by omega) (by omega)).mono ?_
  rintro e w9 ⟨rfl, omox0, gw9⟩
  have sz9 := gw9.size
  replace rs0 := Lib.hid (rs0.out.chg gw9 (by omega))
  replace rg0 := Lib.hid (rg0.out.chg gw9 (by omega))
  replace oy00 := Lib.hid (oy00.out.chg gw9 (by omega))
  replace X0 := Lib.hid ((gw9.block _ (heap_lt0 X0.out) (by omega)).trans X0.out)
  replace X1 := Lib.hid ((gw9.block _ (heap_lt0 X1.out) (by omega)).trans X1.out)
  replace Ys0 := Lib.hid ((gw9.block _ (heap_lt0 Ys0.out) (by omega)).trans Ys0.out)
  replace Yx0 := Lib.hid ((gw9.block _ (heap_lt0 Yx0.out) (by omega)).trans Yx0.out)
  replace Yg0 := Lib.hid ((gw9.block _ (heap_lt0 Yg0.out) (by omega)).trans Yg0.out)
  replace HB := Lib.hid (below_chg HB.out gw9 (by omega))
  clear ox0 gw9
  replace omox0 := Lib.hid omox0
  obtain ⟨z0_0, z0_1, z0_2, z0_3, z0_4, z0_5, z0_6, z0_7, z0_8, z0_9, z0_10, z0_11⟩ := cells12 X0.out
  obtain ⟨z1_0, z1_1, z1_2, z1_3⟩ := cells4 X1.out
  obtain ⟨z2_0, z2_1, z2_2, z2_3, z2_4, z2_5, z2_6, z2_7, z2_8, z2_9, z2_10, z2_11⟩ := cells12 Ys0.out
  obtain ⟨z3_0, z3_1, z3_2, z3_3, z3_4, z3_5, z3_6, z3_7, z3_8, z3_9, z3_10, z3_11⟩ := cells12 Yx0.out
  obtain ⟨z4_0, z4_1, z4_2, z4_3, z4_4, z4_5, z4_6, z4_7, z4_8, z4_9, z4_10, z4_11⟩ := cells12 Yg0.out
  go_wp2_with fail
  clear z0_0 z0_1 z0_2 z0_3 z0_4 z0_5 z0_6 z0_7 z0_8 z0_9 z0_10 z0_11 z1_0 z1_1 z1_2 z1_3 z2_0 z2_1 z2_2 z2_3 z2_4 z2_5 z2_6 z2_7 z2_8 z2_9 z2_10 z2_11 z3_0 z3_1 z3_2 z3_3 z3_4 z3_5 z3_6 z3_7 z3_8 z3_9 z3_10 z3_11 z4_0 z4_1 z4_2 z4_3 z4_4 z4_5 z4_6 z4_7 z4_8 z4_9 z4_10 z4_11
  refine (eqBoard_same _ Rg0 Rs0 _ rg0.out.rd rs0.out.rd resle0.out).mono ?_
  rintro e w10 ⟨rfl, bw10⟩
  have sz10 := bw10.size
  replace rs0 := Lib.hid (rs0.out.below bw10)
  replace rg0 := Lib.hid (rg0.out.below bw10)
  replace oy00 := Lib.hid (oy00.out.below bw10)
  replace omox0 := Lib.hid (omox0.out.below bw10)
  replace X0 := Lib.hid (heap_tr bw10 X0.out)
  replace X1 := Lib.hid (heap_tr bw10 X1.out)
  replace Ys0 := Lib.hid (heap_tr bw10 Ys0.out)
  replace Yx0 := Lib.hid (heap_tr bw10 Yx0.out)
  replace Yg0 := Lib.hid (heap_tr bw10 Yg0.out)
  replace HB := Lib.hid (below_tr HB.out bw10)
  clear bw10
  obtain ⟨z0_0, z0_1, z0_2, z0_3, z0_4, z0_5, z0_6, z0_7, z0_8, z0_9, z0_10, z0_11⟩ := cells12 X0.out
  obtain ⟨z1_0, z1_1, z1_2, z1_3⟩ := cells4 X1.out
  obtain ⟨z2_0, z2_1, z2_2, z2_3, z2_4, z2_5, z2_6, z2_7, z2_8, z2_9, z2_10, z2_11⟩ := cells12 Ys0.out
  obtain ⟨z3_0, z3_1, z3_2, z3_3, z3_4, z3_5, z3_6, z3_7, z3_8, z3_9, z3_10, z3_11⟩ := cells12 Yx0.out
  obtain ⟨z4_0, z4_1, z4_2, z4_3, z4_4, z4_5, z4_6, z4_7, z4_8, z4_9, z4_10, z4_11⟩ := cells12 Yg0.out
  go_wp2_with fail
  clear z0_0 z0_1 z0_2 z0_3 z0_4 z0_5 z0_6 z0_7 z0_8 z0_9 z0_10 z0_11 z1_0 z1_1 z1_2 z1_3 z2_0 z2_1 z2_2 z2_3 z2_4 z2_5 z2_6 z2_7 z2_8 z2_9 z2_10 z2_11 z3_0 z3_1 z3_2 z3_3 z3_4 z3_5 z3_6 z3_7 z3_8 z3_9 z3_10 z3_11 z4_0 z4_1 z4_2 z4_3 z4_4 z4_5 z4_6 z4_7 z4_8 z4_9 z4_10 z4_11
  refine (markBoard_fp _ _ _ Rg0 1 _ rg0.out (by omega) resle0.out (by omega) (by omega) (by omega)).mono ?_
  rintro e w11 ⟨rfl, omrg0, gw11⟩
  have sz11 := gw11.size
  replace rs0 := Lib.hid (rs0.out.chg gw11 (by omega))
  replace oy00 := Lib.hid (oy00.out.chg gw11 (by omega))
  replace omox0 := Lib.hid (omox0.out.chg gw11 (by omega))
  replace X0 := Lib.hid ((gw11.block _ (heap_lt0 X0.out) (by omega)).trans X0.out)
  replace X1 := Lib.hid ((gw11.block _ (heap_lt0 X1.out) (by omega)).trans X1.out)
  replace Ys0 := Lib.hid ((gw11.block _ (heap_lt0 Ys0.out) (by omega)).trans Ys0.out)
  replace Yx0 := Lib.hid ((gw11.block _ (heap_lt0 Yx0.out) (by omega)).trans Yx0.out)
  replace Yg0 := Lib.hid ((gw11.block _ (heap_lt0 Yg0.out) (by omega)).trans Yg0.out)
  replace HB := Lib.hid (below_chg HB.out gw11 (by omega))
  clear rg0 gw11
  replace omrg0 := Lib.hid omrg0
  obtain ⟨z0_0, z0_1, z0_2, z0_3, z0_4, z0_5, z0_6, z0_7, z0_8, z0_9, z0_10, z0_11⟩ := cells12 X0.out
  obtain ⟨z1_0, z1_1, z1_2, z1_3⟩ := cells4 X1.out
  obtain ⟨z2_0, z2_1, z2_2, z2_3, z2_4, z2_5, z2_6, z2_7, z2_8, z2_9, z2_10, z2_11⟩ := cells12 Ys0.out
  obtain ⟨z3_0, z3_1, z3_2, z3_3, z3_4, z3_5, z3_6, z3_7, z3_8, z3_9, z3_10, z3_11⟩ := cells12 Yx0.out
  obtain ⟨z4_0, z4_1, z4_2, z4_3, z4_4, z4_5, z4_6, z4_7, z4_8, z4_9, z4_10, z4_11⟩ := cells12 Yg0.out
  go_wp2_with fail
  clear z0_0 z0_1 z0_2 z0_3 z0_4 z0_5 z0_6 z0_7 z0_8 z0_9 z0_10 z0_11 z1_0 z1_1 z1_2 z1_3 z2_0 z2_1 z2_2 z2_3 z2_4 z2_5 z2_6 z2_7 z2_8 z2_9 z2_10 z2_11 z3_0 z3_1 z3_2 z3_3 z3_4 z3_5 z3_6 z3_7 z3_8 z3_9 z3_10 z3_11 z4_0 z4_1 z4_2 z4_3 z4_4 z4_5 z4_6 z4_7 z4_8 z4_9 z4_10 z4_11
  refine (heldBoard_any _ Rg0 1 _ omrg0.out.rd resle0.out (by omega) (by omega) (by omega)).mono ?_
  rintro e w12 ⟨rfl, bw12⟩
  have sz12 := bw12.size
  replace rs0 := Lib.hid (rs0.out.below bw12)
  replace oy00 := Lib.hid (oy00.out.below bw12)
  replace omox0 := Lib.hid (omox0.out.below bw12)
  replace omrg0 := Lib.hid (omrg0.out.below bw12)
  replace X0 := Lib.hid (heap_tr bw12 X0.out)
  replace X1 := Lib.hid (heap_tr bw12 X1.out)
  replace Ys0 := Lib.hid (heap_tr bw12 Ys0.out)
  replace Yx0 := Lib.hid (heap_tr bw12 Yx0.out)
  replace Yg0 := Lib.hid (heap_tr bw12 Yg0.out)
  replace HB := Lib.hid (below_tr HB.out bw12)
  clear bw12
  obtain ⟨z0_0, z0_1, z0_2, z0_3, z0_4, z0_5, z0_6, z0_7, z0_8, z0_9, z0_10, z0_11⟩ := cells12 X0.out
  obtain ⟨z1_0, z1_1, z1_2, z1_3⟩ := cells4 X1.out
  obtain ⟨z2_0, z2_1, z2_2, z2_3, z2_4, z2_5, z2_6, z2_7, z2_8, z2_9, z2_10, z2_11⟩ := cells12 Ys0.out
  obtain ⟨z3_0, z3_1, z3_2, z3_3, z3_4, z3_5, z3_6, z3_7, z3_8, z3_9, z3_10, z3_11⟩ := cells12 Yx0.out
  obtain ⟨z4_0, z4_1, z4_2, z4_3, z4_4, z4_5, z4_6, z4_7, z4_8, z4_9, z4_10, z4_11⟩ := cells12 Yg0.out
  go_wp2_with fail
  go_cut [14, 15] (fun p u w' => RunCut w12 (beB b0 a1) (.bool (beO b0 a1)) p u w')
  case first =>
    have hD := Below.refl w12.heap.size w12
    have hdr : w12.heap.size ≤ w12.drew.heap.size := Nat.le_refl _
    have hl_X0 := heap_lt0 X0.out
    have hl_X1 := heap_lt0 X1.out
    have hl_Ys0 := heap_lt0 Ys0.out
    have hl_Yx0 := heap_lt0 Yx0.out
    have hl_Yg0 := heap_lt0 Yg0.out
    go_region_held3 (fun w' => Below w12.heap.size w12 w' ∧ ∀ b o, b < w12.heap.size → w'.cell? ⟨b, o, none⟩ = w12.cell? ⟨b, o, none⟩)
      (first | with_reducible exact ⟨hD, (bcell hD).1⟩ | with_reducible exact ⟨hD.drew, (bcell hD.drew).1⟩ | (refine ⟨?_, (bcell ?_).1⟩ <;> (repeat (first | with_reducible exact hD | with_reducible exact hD.drew | with_reducible refine below_new ?_ _ | with_reducible refine Below.drew ?_ | with_reducible refine Below.setCell ?_ (by simp only; omega) _))))
      (first
        | (go_at_call 30; (refine (toBoard_any b0 s0 _ (H0.out.below (below_tr HB.out (by first | with_reducible exact hD | with_reducible exact hD.drew | with_reducible exact below_new hD _ | with_reducible exact (below_new hD _).drew | with_reducible exact below_new hD.drew _ | with_reducible exact (below_new hD.drew _).drew))) (by omega) (by omega) (by omega)).mono ?_); rintro e wk ⟨t0, rfl, q0, bw⟩; have hD2 := below_tr (a := w12) (by first | with_reducible exact hD | with_reducible exact hD.drew | with_reducible exact below_new hD _ | with_reducible exact (below_new hD _).drew | with_reducible exact below_new hD.drew _ | with_reducible exact (below_new hD.drew _).drew) bw; (try replace hBq0 := below_tr (by first | with_reducible exact hBq0 | with_reducible exact hBq0.drew | with_reducible exact below_new hBq0 _ | with_reducible exact (below_new hBq0 _).drew | with_reducible exact below_new hBq0.drew _ | with_reducible exact (below_new hBq0.drew _).drew) bw); have hb0 := Lib.hid bw; have hBq0 := Below.refl wk.heap.size wk; have hnq0 : t0.n2 ≤ 1048576 := (by have e1 := q0.rd.state.1; have e2 := H0.out.state.1; omega); have Q0q := Lib.hid q0.rd; clear q0; have hsz := hD2.size; have hsz2 := bw.size; (try simp only [World.size_drew] at hsz2); (try simp only [World.size_alloc] at hsz2); (try have hlt2 := Nat.lt_of_lt_of_le hlt2 hsz2); (try have hlt2 := Nat.lt_of_succ_le hsz2); obtain ⟨hcc, hff⟩ := bcell bw; clear bw; replace hD := hD2)
        | (go_at_call 31; (refine (toRegion_any a1 _ ).mono ?_); rintro e wk ⟨rfl, bw⟩; have hD2 := below_tr (a := w12) (by first | with_reducible exact hD | with_reducible exact hD.drew | with_reducible exact below_new hD _ | with_reducible exact (below_new hD _).drew | with_reducible exact below_new hD.drew _ | with_reducible exact (below_new hD.drew _).drew) bw; (try replace hBq0 := below_tr (by first | with_reducible exact hBq0 | with_reducible exact hBq0.drew | with_reducible exact below_new hBq0 _ | with_reducible exact (below_new hBq0 _).drew | with_reducible exact below_new hBq0.drew _ | with_reducible exact (below_new hBq0.drew _).drew) bw); have hb1 := Lib.hid bw; have hsz := hD2.size; have hsz2 := bw.size; (try simp only [World.size_drew] at hsz2); (try simp only [World.size_alloc] at hsz2); (try have hlt2 := Nat.lt_of_lt_of_le hlt2 hsz2); (try have hlt2 := Nat.lt_of_succ_le hsz2); obtain ⟨hcc, hff⟩ := bcell bw; clear bw; replace hD := hD2)
        | (go_at_call 32; (with_reducible refine (beginRegion_any b0 t0 a1 _ (Q0q.out.below (by first | with_reducible exact hBq0 | with_reducible exact hBq0.drew | with_reducible exact below_new hBq0 _ | with_reducible exact (below_new hBq0 _).drew | with_reducible exact below_new hBq0.drew _ | with_reducible exact (below_new hBq0.drew _).drew)) (by omega) (by omega) (by omega)).mono ?_); rintro e wk ⟨R, rfl, f, bw⟩; have hD2 := below_tr (a := w12) (by first | with_reducible exact hD | with_reducible exact hD.drew | with_reducible exact below_new hD _ | with_reducible exact (below_new hD _).drew | with_reducible exact below_new hD.drew _ | with_reducible exact (below_new hD.drew _).drew) bw; (try replace hBq0 := below_tr (by first | with_reducible exact hBq0 | with_reducible exact hBq0.drew | with_reducible exact below_new hBq0 _ | with_reducible exact (below_new hBq0 _).drew | with_reducible exact below_new hBq0.drew _ | with_reducible exact (below_new hBq0.drew _).drew) bw); have HFK := Lib.hid f; have HBK := Lib.hid bw; have hsf : wk.heap.size ≤ wk.heap.size := Nat.le_refl _; clear f; have hsz := hD2.size; have hsz2 := bw.size; (try simp only [World.size_drew] at hsz2); (try simp only [World.size_alloc] at hsz2); (try have hlt2 := Nat.lt_of_lt_of_le hlt2 hsz2); (try have hlt2 := Nat.lt_of_succ_le hsz2); obtain ⟨hcc, hff⟩ := bcell bw; clear bw; replace hD := hD2))
    all_goals
      go_wp2_with fail
      go_meet
      try simp only [cut_drew_set, cut_drew_alloc]
      first | ((with_reducible refine (cutA hD HFK.out ?_ ?_)) <;> first | omega | (simp; omega)) | ((with_reducible refine RunCut.drew (cutA hD HFK.out ?_ ?_)) <;> first | omega | (simp; omega)) | ((with_reducible refine RunCut.drews (cutA hD HFK.out ?_ ?_)) <;> first | omega | (simp; omega)) | ((with_reducible refine (cutB (b0 := zBd) (R0 := zSl) ?_ HBK.out HFK.out hD ?_ ?_ ?_)) <;> first | omega | (simp; omega) | exact heap_new _ _ | exact heap_tr hb0.out (heap_new _ _) | exact heap_tr hb1.out (heap_new _ _) | exact heap_tr hb0.out (heap_tr hb1.out (heap_new _ _)) | exact heap_tr hb1.out (heap_tr hb0.out (heap_new _ _))) | ((with_reducible refine RunCut.drew (cutB (b0 := zBd) (R0 := zSl) ?_ HBK.out HFK.out hD ?_ ?_ ?_)) <;> first | omega | (simp; omega) | exact heap_new _ _ | exact heap_tr hb0.out (heap_new _ _) | exact heap_tr hb1.out (heap_new _ _) | exact heap_tr hb0.out (heap_tr hb1.out (heap_new _ _)) | exact heap_tr hb1.out (heap_tr hb0.out (heap_new _ _))) | ((with_reducible refine RunCut.drews (cutB (b0 := zBd) (R0 := zSl) ?_ HBK.out HFK.out hD ?_ ?_ ?_)) <;> first | omega | (simp; omega) | exact heap_new _ _ | exact heap_tr hb0.out (heap_new _ _) | exact heap_tr hb1.out (heap_new _ _) | exact heap_tr hb0.out (heap_tr hb1.out (heap_new _ _)) | exact heap_tr hb1.out (heap_tr hb0.out (heap_new _ _)))
  clear z0_0 z0_1 z0_2 z0_3 z0_4 z0_5 z0_6 z0_7 z0_8 z0_9 z0_10 z0_11 z1_0 z1_1 z1_2 z1_3 z2_0 z2_1 z2_2 z2_3 z2_4 z2_5 z2_6 z2_7 z2_8 z2_9 z2_10 z2_11 z3_0 z3_1 z3_2 z3_3 z3_4 z3_5 z3_6 z3_7 z3_8 z3_9 z3_10 z3_11 z4_0 z4_1 z4_2 z4_3 z4_4 z4_5 z4_6 z4_7 z4_8 z4_9 z4_10 z4_11
  obtain ⟨w13, g13, Rh0, lo13, hi13, rfl, rfl, hbk13, hgw13, hsp13, hlo13, hhi13, hF13, hD, rfl⟩ := hcut
  have sz13 := hD.size
  have hgl13 := heap_lt0 hbk13
  replace rs0 := Lib.hid (rs0.out.below hD)
  replace oy00 := Lib.hid (oy00.out.below hD)
  replace omox0 := Lib.hid (omox0.out.below hD)
  replace omrg0 := Lib.hid (omrg0.out.below hD)
  replace X0 := Lib.hid (heap_tr hD X0.out)
  replace X1 := Lib.hid (heap_tr hD X1.out)
  replace Ys0 := Lib.hid (heap_tr hD Ys0.out)
  replace Yx0 := Lib.hid (heap_tr hD Yx0.out)
  replace Yg0 := Lib.hid (heap_tr hD Yg0.out)
  replace HB := Lib.hid (below_tr HB.out hD)
  have rh0 := Lib.hid hF13
  have Yh0 : Hid (w13.heap[g13]? = some (.cells (bdArr (beB b0 a1) Rh0) 60 (0, 0))) := hbk13
  clear hD hF13 hbk13
  obtain ⟨z0_0, z0_1, z0_2, z0_3, z0_4, z0_5, z0_6, z0_7, z0_8, z0_9, z0_10, z0_11⟩ := cells12 X0.out
  obtain ⟨z1_0, z1_1, z1_2, z1_3⟩ := cells4 X1.out
  obtain ⟨z2_0, z2_1, z2_2, z2_3, z2_4, z2_5, z2_6, z2_7, z2_8, z2_9, z2_10, z2_11⟩ := cells12 Ys0.out
  obtain ⟨z3_0, z3_1, z3_2, z3_3, z3_4, z3_5, z3_6, z3_7, z3_8, z3_9, z3_10, z3_11⟩ := cells12 Yx0.out
  obtain ⟨z4_0, z4_1, z4_2, z4_3, z4_4, z4_5, z4_6, z4_7, z4_8, z4_9, z4_10, z4_11⟩ := cells12 Yg0.out
  obtain ⟨z5_0, z5_1, z5_2, z5_3, z5_4, z5_5, z5_6, z5_7, z5_8, z5_9, z5_10, z5_11⟩ := cells12 Yh0.out
  go_wp2_with fail
  clear z0_0 z0_1 z0_2 z0_3 z0_4 z0_5 z0_6 z0_7 z0_8 z0_9 z0_10 z0_11 z1_0 z1_1 z1_2 z1_3 z2_0 z2_1 z2_2 z2_3 z2_4 z2_5 z2_6 z2_7 z2_8 z2_9 z2_10 z2_11 z3_0 z3_1 z3_2 z3_3 z3_4 z3_5 z3_6 z3_7 z3_8 z3_9 z3_10 z3_11 z4_0 z4_1 z4_2 z4_3 z4_4 z4_5 z4_6 z4_7 z4_8 z4_9 z4_10 z4_11 z5_0 z5_1 z5_2 z5_3 z5_4 z5_5 z5_6 z5_7 z5_8 z5_9 z5_10 z5_11
  refine (eqBoard_same _ Rh0 Rs0 _ rh0.out.rd rs0.out.rd resle0.out).mono ?_
  rintro e w14 ⟨rfl, bw14⟩
  have sz14 := bw14.size
  replace rs0 := Lib.hid (rs0.out.below bw14)
  replace oy00 := Lib.hid (oy00.out.below bw14)
  replace omox0 := Lib.hid (omox0.out.below bw14)
  replace omrg0 := Lib.hid (omrg0.out.below bw14)
  replace rh0 := Lib.hid (rh0.out.below bw14)
  replace X0 := Lib.hid (heap_tr bw14 X0.out)
  replace X1 := Lib.hid (heap_tr bw14 X1.out)
  replace Ys0 := Lib.hid (heap_tr bw14 Ys0.out)
  replace Yx0 := Lib.hid (heap_tr bw14 Yx0.out)
  replace Yg0 := Lib.hid (heap_tr bw14 Yg0.out)
  replace Yh0 := Lib.hid (heap_tr bw14 Yh0.out)
  replace HB := Lib.hid (below_tr HB.out bw14)
  clear bw14
  obtain ⟨z0_0, z0_1, z0_2, z0_3, z0_4, z0_5, z0_6, z0_7, z0_8, z0_9, z0_10, z0_11⟩ := cells12 X0.out
  obtain ⟨z1_0, z1_1, z1_2, z1_3⟩ := cells4 X1.out
  obtain ⟨z2_0, z2_1, z2_2, z2_3, z2_4, z2_5, z2_6, z2_7, z2_8, z2_9, z2_10, z2_11⟩ := cells12 Ys0.out
  obtain ⟨z3_0, z3_1, z3_2, z3_3, z3_4, z3_5, z3_6, z3_7, z3_8, z3_9, z3_10, z3_11⟩ := cells12 Yx0.out
  obtain ⟨z4_0, z4_1, z4_2, z4_3, z4_4, z4_5, z4_6, z4_7, z4_8, z4_9, z4_10, z4_11⟩ := cells12 Yg0.out
  obtain ⟨z5_0, z5_1, z5_2, z5_3, z5_4, z5_5, z5_6, z5_7, z5_8, z5_9, z5_10, z5_11⟩ := cells12 Yh0.out
  go_wp2_with fail
  clear z0_0 z0_1 z0_2 z0_3 z0_4 z0_5 z0_6 z0_7 z0_8 z0_9 z0_10 z0_11 z1_0 z1_1 z1_2 z1_3 z2_0 z2_1 z2_2 z2_3 z2_4 z2_5 z2_6 z2_7 z2_8 z2_9 z2_10 z2_11 z3_0 z3_1 z3_2 z3_3 z3_4 z3_5 z3_6 z3_7 z3_8 z3_9 z3_10 z3_11 z4_0 z4_1 z4_2 z4_3 z4_4 z4_5 z4_6 z4_7 z4_8 z4_9 z4_10 z4_11 z5_0 z5_1 z5_2 z5_3 z5_4 z5_5 z5_6 z5_7 z5_8 z5_9 z5_10 z5_11
  refine (heldBoard_any _ Rg0 1 _ omrg0.out.rd resle0.out (by omega) (by omega) (by omega)).mono ?_
  rintro e w15 ⟨rfl, bw15⟩
  have sz15 := bw15.size
  replace rs0 := Lib.hid (rs0.out.below bw15)
  replace oy00 := Lib.hid (oy00.out.below bw15)
  replace omox0 := Lib.hid (omox0.out.below bw15)
  replace omrg0 := Lib.hid (omrg0.out.below bw15)
  replace rh0 := Lib.hid (rh0.out.below bw15)
  replace X0 := Lib.hid (heap_tr bw15 X0.out)
  replace X1 := Lib.hid (heap_tr bw15 X1.out)
  replace Ys0 := Lib.hid (heap_tr bw15 Ys0.out)
  replace Yx0 := Lib.hid (heap_tr bw15 Yx0.out)
  replace Yg0 := Lib.hid (heap_tr bw15 Yg0.out)
  replace Yh0 := Lib.hid (heap_tr bw15 Yh0.out)
  replace HB := Lib.hid (below_tr HB.out bw15)
  clear bw15
  obtain ⟨z0_0, z0_1, z0_2, z0_3, z0_4, z0_5, z0_6, z0_7, z0_8, z0_9, z0_10, z0_11⟩ := cells12 X0.out
  obtain ⟨z1_0, z1_1, z1_2, z1_3⟩ := cells4 X1.out
  obtain ⟨z2_0, z2_1, z2_2, z2_3, z2_4, z2_5, z2_6, z2_7, z2_8, z2_9, z2_10, z2_11⟩ := cells12 Ys0.out
  obtain ⟨z3_0, z3_1, z3_2, z3_3, z3_4, z3_5, z3_6, z3_7, z3_8, z3_9, z3_10, z3_11⟩ := cells12 Yx0.out
  obtain ⟨z4_0, z4_1, z4_2, z4_3, z4_4, z4_5, z4_6, z4_7, z4_8, z4_9, z4_10, z4_11⟩ := cells12 Yg0.out
  obtain ⟨z5_0, z5_1, z5_2, z5_3, z5_4, z5_5, z5_6, z5_7, z5_8, z5_9, z5_10, z5_11⟩ := cells12 Yh0.out
  go_wp2_with fail
  clear z0_0 z0_1 z0_2 z0_3 z0_4 z0_5 z0_6 z0_7 z0_8 z0_9 z0_10 z0_11 z1_0 z1_1 z1_2 z1_3 z2_0 z2_1 z2_2 z2_3 z2_4 z2_5 z2_6 z2_7 z2_8 z2_9 z2_10 z2_11 z3_0 z3_1 z3_2 z3_3 z3_4 z3_5 z3_6 z3_7 z3_8 z3_9 z3_10 z3_11 z4_0 z4_1 z4_2 z4_3 z4_4 z4_5 z4_6 z4_7 z4_8 z4_9 z4_10 z4_11 z5_0 z5_1 z5_2 z5_3 z5_4 z5_5 z5_6 z5_7 z5_8 z5_9 z5_10 z5_11
  go_ret
  exact ⟨rfl, HB.out⟩
end Go.Proofs.Ytndfaaebflhggaa
