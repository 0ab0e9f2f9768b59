/- BoardOk of the reference. The walk of the law FnExactBoardOk. -/
import Derived.Test.YtclmhnghpnfnkaaBk
import Derived.Test.YtclmhnghpnfnkaaOb
import Derived.Test.YtclmhnghpnfnkaaObn
import Derived.Test.YtclmhnghpnfnkaaRqS
namespace Go.Proofs.Ytclmhnghpnfnkaa
set_option maxRecDepth 100000
open Go.RowKit

set_option maxHeartbeats 1000000 in
theorem sboardOk_any (b : Bd) (s : Sl3) (w : World) (hA : BoardRd w b s) (hz1 : size2 b.frames ≤ 1099511627776) (h2 : s.n2 ≤ 16777216) (h3 : size2 b.saved ≤ 1099511627776) :
    Calls Try.prog 44 #[.agg (bdArr b s)] w fun e w' => e = .returned (.bool (bkF b)) ∧ Below w.heap.size w w' := by
  obtain ⟨d, fs, st, ph, r, sv⟩ := b
  obtain ⟨A1, n1, c1, A2, n2, c2, A3, n3, c3⟩ := s
  have HB0 := Lib.hid (below_new (Below.refl w.heap.size w) (.cells (bdArr ⟨d, fs, st, ph, r, sv⟩ ⟨A1, n1, c1, A2, n2, c2, A3, n3, c3⟩) 31))
  have HI := Lib.hid hA
  dsimp only at hz1 h2 h3
  clear hA
  go_enter Try.func44, Try.ntmps44
  go_wp2_with fail
  refine (sframesOk_any d A1 n1 c1 fs _ (HI.out.frames.below HB0.out) hz1).mono ?_
  rintro e w1 ⟨rfl, b1⟩
  have hs1 := b1.size
  simp only [World.size_alloc] at hs1
  have D1 := Lib.hid b1
  obtain ⟨hcc, hff⟩ := bcell b1
  clear b1
  cases hf : framesOk d fs with
  | false =>
    have HF : Hid (bkF ⟨d, fs, st, ph, r, sv⟩ = false) := by show _ = _; unfold bkF; rw [hf]; rfl
    clear hf
    go_wp2_with fail
    go_ret
    exact ⟨ret_bool HF.out.symm, below_tr HB0.out D1.out⟩
  | true =>
    have HFO := Lib.hid hf
    clear hf
    go_wp2_with fail
    refine (semuStateOk_any d A2 n2 c2 st _ (HI.out.state.below (below_tr HB0.out D1.out)) h2).mono ?_
    rintro e w2 ⟨rfl, b2⟩
    have D2 := Lib.hid (below_tr D1.out b2)
    have hs2 := b2.size
    clear b2 hcc hff
    obtain ⟨hcc, hff⟩ := bcell D2.out
    cases hst : stOk d st with
    | false =>
      have HF : Hid (bkF ⟨d, fs, st, ph, r, sv⟩ = false) := by show _ = _; unfold bkF; rw [hst]; simp
      clear hst
      go_wp2_with fail
      go_ret
      exact ⟨ret_bool HF.out.symm, below_tr HB0.out D2.out⟩
    | true =>
      have HF : Hid (bkF ⟨d, fs, st, ph, r, sv⟩ = (if ph = 0 ∨ ph = 2 then (regZ r && decide (sv.length = 0)) else decide (ph = 1) && rqF d sv r)) := by show _ = _; unfold bkF; rw [hst, HFO.out]; rfl
      clear hst
      by_cases h1 : ph = 1
      · subst h1
        rw [if_neg (by omega)] at HF
        go_wp2_with fail
        refine (sregionQuiet_any d A3 n3 c3 sv r _ (HI.out.saved.below (below_tr HB0.out D2.out)) h3).mono ?_
        rintro e w5 ⟨rfl, b5⟩
        have D5 := Lib.hid (below_tr D2.out b5)
        clear b5 hcc hff
        go_wp2_with fail
        go_ret
        exact ⟨ret_bool (by rw [HF.out]; simp), below_tr HB0.out D5.out⟩
      · by_cases h2' : ph = 0 ∨ ph = 2
        · rw [if_pos h2'] at HF
          have hln : sv.length = n3 := HI.out.saved.1
          have HLN := Lib.hid hln
          clear hln
          obtain ⟨x0, y0, x1, y1⟩ := r
          have HZ : Hid (regZ ⟨x0, y0, x1, y1⟩ = (decide (x0 = 0) && (decide (y0 = 0) && (decide (x1 = 0) && decide (y1 = 0))))) := rfl
          by_cases hz : x0 = 0 ∧ y0 = 0 ∧ x1 = 0 ∧ y1 = 0
          · obtain ⟨rfl, rfl, rfl, rfl⟩ := hz
            have HE : Hid (((n3 : Int) == 0) = decide (n3 = 0)) := by show _ = _; rw [Bool.eq_iff_iff, beq_iff_eq, decide_eq_true_iff]; omega
            rcases h2' with rfl | rfl
            · go_wp2_with fail
              go_ret
              exact ⟨ret_bool (by rw [HF.out, HZ.out, HLN.out, HE.out]; simp), below_tr HB0.out D2.out⟩
            · go_wp2_with fail
              go_ret
              exact ⟨ret_bool (by rw [HF.out, HZ.out, HLN.out, HE.out]; simp), below_tr HB0.out D2.out⟩
          · have HZF : Hid (regZ ⟨x0, y0, x1, y1⟩ = false) := by
              rw [HZ.out]
              show _ = _
              by_cases a : x0 = 0
              · by_cases b : y0 = 0
                · by_cases c : x1 = 0
                  · rw [decide_eq_false (p := y1 = 0) (fun e => hz ⟨a, b, c, e⟩)]; simp
                  · rw [decide_eq_false c]; simp
                · rw [decide_eq_false b]; simp
              · rw [decide_eq_false a]; simp
            rcases h2' with rfl | rfl
            · go_wp2_with fail
              all_goals
                go_ret
                exact ⟨ret_bool (by rw [HF.out, HZF.out]; rfl), below_tr HB0.out D2.out⟩
            · go_wp2_with fail
              all_goals
                go_ret
                exact ⟨ret_bool (by rw [HF.out, HZF.out]; rfl), below_tr HB0.out D2.out⟩
        · rw [if_neg h2'] at HF
          have p0 : (ph == 0) = false := by rw [beq_eq_false_iff_ne]; omega
          have p1 : (ph == 1) = false := by rw [beq_eq_false_iff_ne]; omega
          have p2 : (ph == 2) = false := by rw [beq_eq_false_iff_ne]; omega
          have HE : Hid (decide (ph = 1) = false) := by show _ = _; simp [h1]
          clear h2' h1
          go_wp2_with fail
          go_ret
          exact ⟨ret_bool (by rw [HF.out, HE.out]; rfl), below_tr HB0.out D2.out⟩
end Go.Proofs.Ytclmhnghpnfnkaa

namespace Go.Proofs.Ytclmhnghpnfnkaa
set_option maxRecDepth 100000
open Go.RowKit

set_option maxHeartbeats 4000000 in
theorem law_boardOk (b : Bd) (s : Sl3) (w : World) (h : BoardRd w b s) (m1 : s.n1 ≤ maxLen) (m2 : s.n2 ≤ maxLen) (m3 : s.n3 ≤ maxLen) (q1 : ∀ ys ∈ b.frames, ys.length ≤ maxLen ∧ ∀ y ∈ ys, Wf y) (q3 : ∀ ys ∈ b.saved, ys.length ≤ maxLen ∧ ∀ y ∈ ys, Wf y) :
    Calls Try.prog 7 #[.agg (bdArr b s)] w fun e w' => e = .returned (.bool true) ∧ Below w.heap.size w w' := by
  have Q1 := Lib.hid (rows_len q1)
  have Q3 := Lib.hid (rows_len q3)
  have HI := Lib.hid h
  unfold maxLen at *
  have HB := Lib.hid (below_new (Below.refl w.heap.size w) (.cells (bdArr b s) 63))
  have HX := Lib.hid (heap_new w (.cells (bdArr b s) 63))
  clear h q1 q3
  go_enter Try.func7, Try.ntmps7
  go_wp2_with fail
  refine (szBoard_any b s _ (HI.out.below HB.out) (by omega) (by omega) (by omega) Q1.out Q3.out).mono ?_
  rintro e w1 ⟨x, rfl, hx, b1⟩
  replace HB := Lib.hid (below_tr HB.out b1)
  replace HX := Lib.hid (heap_tr b1 HX.out)
  obtain ⟨x0, x1, x2, x3, x4, x5, x6, x7, x8, x9, x10, x11⟩ := cells12 HX.out
  have y0 := fun k => frozen_heap HX.out k
  clear b1
  rcases hx with hx | ⟨hx, hz⟩
  · have hd : decide (x < 0) = true := by simpa using hx
    go_wp2_with fail
    go_ret
    exact ⟨rfl, HB.out⟩
  · have hd : decide (x < 0) = false := by simp; omega
    clear hx
    go_wp2_with fail
    refine (toBoard_any b s _ (HI.out.below HB.out) (by omega) (by omega) (by omega)).mono ?_
    rintro e w2 ⟨t1, rfl, o1, b2⟩
    have T1 := Lib.hid o1
    replace HB := Lib.hid (below_tr HB.out b2)
    replace HX := Lib.hid (heap_tr b2 HX.out)
    clear x0 x1 x2 x3 x4 x5 x6 x7 x8 x9 x10 x11
    obtain ⟨x0, x1, x2, x3, x4, x5, x6, x7, x8, x9, x10, x11⟩ := cells12 HX.out
    clear y0 b2 o1
    have y0 := fun k => frozen_heap HX.out k
    go_wp2_with fail
    have hn1 : t1.n2 ≤ 1048576 := by have e1 := T1.out.rd.state.1; have e2 := HI.out.state.1; omega
    refine (sboardOk_any b t1 _ T1.out.rd (by omega) (by omega) (by omega)).mono ?_
    rintro e w3 ⟨rfl, b3⟩
    replace HB := Lib.hid (below_tr HB.out b3)
    replace HX := Lib.hid (heap_tr b3 HX.out)
    clear x0 x1 x2 x3 x4 x5 x6 x7 x8 x9 x10 x11
    obtain ⟨x0, x1, x2, x3, x4, x5, x6, x7, x8, x9, x10, x11⟩ := cells12 HX.out
    clear y0 b3 T1 hn1
    have y0 := fun k => frozen_heap HX.out k
    go_wp2_with fail
    refine (toBoard_any b s _ (HI.out.below HB.out) (by omega) (by omega) (by omega)).mono ?_
    rintro e w4 ⟨t2, rfl, o2, b4⟩
    have T2 := Lib.hid o2
    replace HB := Lib.hid (below_tr HB.out b4)
    replace HX := Lib.hid (heap_tr b4 HX.out)
    clear x0 x1 x2 x3 x4 x5 x6 x7 x8 x9 x10 x11
    obtain ⟨x0, x1, x2, x3, x4, x5, x6, x7, x8, x9, x10, x11⟩ := cells12 HX.out
    clear y0 b4 o2
    have y0 := fun k => frozen_heap HX.out k
    go_wp2_with fail
    have hn2 : t2.n2 ≤ 1048576 := by have e1 := T2.out.rd.state.1; have e2 := HI.out.state.1; omega
    have hg : w.heap.size ≠ w4.heap.size := by have := heap_lt0 HX.out; omega
    refine (boardOk_any b t2 _ (T2.out.rd.below (below_new (Below.refl _ _) _)) (by omega) (by omega) (by omega)).mono ?_
    rintro e w5 ⟨rfl, b5⟩
    replace HB := Lib.hid (below_tr (below_new HB.out _) b5)
    replace HX := Lib.hid (heap_tr b5 (heap_al _ HX.out))
    have HZ := Lib.hid (heap_tr b5 (heap_new w4 (.cells (bdArr b t2) 31)))
    have T3 := Lib.hid (T2.out.rd.below (below_tr (below_new (Below.refl _ _) _) b5))
    clear x0 x1 x2 x3 x4 x5 x6 x7 x8 x9 x10 x11
    obtain ⟨x0, x1, x2, x3, x4, x5, x6, x7, x8, x9, x10, x11⟩ := cells12 HX.out
    clear y0 b5 T2 hn2
    have y0 := fun k => frozen_heap HX.out k
    obtain ⟨z0, z1, z2, z3, z4, z5, z6, z7, z8, z9, z10, z11⟩ := cells12 HZ.out
    have y1 := fun k => frozen_heap HZ.out k
    generalize bkF b = bo
    go_wp2_with fail
    have HBD : Hid (BdOk b) := ⟨by omega, by have e2 := HI.out.state.1; omega, by omega⟩
    have hD := (Below.refl w5.heap.size w5).drew
    have hl0 := heap_lt0 HX.out
    have hl1 := heap_lt0 HZ.out
    clear y0 y1
    go_region_held3 (fun w' => Below w5.heap.size w5 w' ∧ ∀ b o, b < w5.heap.size → w'.cell? ⟨b, o, none⟩ = w5.cell? ⟨b, o, none⟩)
      (first | exact ⟨hD, (bcell hD).1⟩)
      (first
        | (go_at_call 45; (with_reducible refine (toBoard_any b s _ (HI.out.below (below_tr HB.out hD)) (by omega) (by omega) (by omega)).mono ?_); rintro e w6 ⟨t4, rfl, o4, b6⟩; have T4 := Lib.hid o4.rd; replace hD := below_tr hD b6; clear b6 o4)
        | (go_at_call 20; (with_reducible refine (eqBoard_same b t2 t4 _ (T3.out.below hD) T4.out HBD.out).mono ?_); rintro e w7 ⟨rfl, b7⟩; replace hD := below_tr hD b7; clear b7))
    go_wp2_with fail
    go_ret
    exact ⟨rfl, below_tr HB.out hD⟩
end Go.Proofs.Ytclmhnghpnfnkaa
