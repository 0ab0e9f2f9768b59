/- NewBoard of both: the program's and the reference's answers are one. -/
import Derived.Laws.CopyOwn
import Derived.Laws.Tables
import Derived.Lib.SmallJoins
import Derived.Test.YtclmhnghpnfnkaaOb
import Derived.Test.YtclmhnghpnfnkaaUndS
namespace Go.Proofs.Ytclmhnghpnfnkaa
set_option maxRecDepth 100000
open Go.RowKit

def zBd : Bd := ⟨⟨0, 0, 0, 0⟩, [], [], 0, ⟨0, 0, 0, 0⟩, []⟩
def newB (d : Dev) (fs : List (List Int)) : Bd := if framesOk d fs = true then ⟨d, fs, startF d fs, 0, ⟨0, 0, 0, 0⟩, []⟩ else zBd
theorem newB_bad {d : Dev} {fs : List (List Int)} (h : framesOk d fs = false) : newB d fs = zBd := by unfold newB; rw [h]; rfl
theorem newB_good {d : Dev} {fs : List (List Int)} (h : framesOk d fs = true) : newB d fs = ⟨d, fs, startF d fs, 0, ⟨0, 0, 0, 0⟩, []⟩ := by unfold newB; rw [h]; rfl
theorem zBd_at (lo hi : Nat) (w : World) (h : lo ≤ hi) : BoardAt lo hi w zBd ⟨none, 0, 0, none, 0, 0, none, 0, 0⟩ :=
  ⟨lo, lo, lo, lo, lo, lo, Own2.nil, Own.nil, by rintro a ⟨⟩, Own2.nil, .inl (Nat.le_refl _), .inl (Nat.le_refl _), .inl (Nat.le_refl _), ⟨Nat.le_refl _, h⟩, ⟨Nat.le_refl _, h⟩, ⟨Nat.le_refl _, h⟩⟩
theorem keep4s {w : World} {g : Nat} {p : Addr} {v v0 v1 v2 v3 : Value} (hne : g ≠ p.block) (h : w.cell? ⟨g, 0, none⟩ = some v0 ∧ w.cell? ⟨g, 1, none⟩ = some v1 ∧ w.cell? ⟨g, 2, none⟩ = some v2 ∧ w.cell? ⟨g, 3, none⟩ = some v3) : (w.setCell p v).cell? ⟨g, 0, none⟩ = some v0 ∧ (w.setCell p v).cell? ⟨g, 1, none⟩ = some v1 ∧ (w.setCell p v).cell? ⟨g, 2, none⟩ = some v2 ∧ (w.setCell p v).cell? ⟨g, 3, none⟩ = some v3 :=
  ⟨(World.cell?_of_block (a := ⟨g, 0, none⟩) (Below.heap_setCell w p v g hne)).trans h.1, (World.cell?_of_block (a := ⟨g, 1, none⟩) (Below.heap_setCell w p v g hne)).trans h.2.1, (World.cell?_of_block (a := ⟨g, 2, none⟩) (Below.heap_setCell w p v g hne)).trans h.2.2.1, (World.cell?_of_block (a := ⟨g, 3, none⟩) (Below.heap_setCell w p v g hne)).trans h.2.2.2⟩
theorem keep4s12 {w : World} {g gw : Nat} {v0 v1 v2 v3 u0 u1 u2 u3 u4 u5 u6 u7 u8 u9 u10 u11 : Value} (hne : g ≠ gw) (h : w.cell? ⟨g, 0, none⟩ = some v0 ∧ w.cell? ⟨g, 1, none⟩ = some v1 ∧ w.cell? ⟨g, 2, none⟩ = some v2 ∧ w.cell? ⟨g, 3, none⟩ = some v3) : ((((((((((((w.setCell ⟨gw, 0, none⟩ u0).setCell ⟨gw, 1, none⟩ u1).setCell ⟨gw, 2, none⟩ u2).setCell ⟨gw, 3, none⟩ u3).setCell ⟨gw, 4, none⟩ u4).setCell ⟨gw, 5, none⟩ u5).setCell ⟨gw, 6, none⟩ u6).setCell ⟨gw, 7, none⟩ u7).setCell ⟨gw, 8, none⟩ u8).setCell ⟨gw, 9, none⟩ u9).setCell ⟨gw, 10, none⟩ u10).setCell ⟨gw, 11, none⟩ u11).cell? ⟨g, 0, none⟩ = some v0 ∧ ((((((((((((w.setCell ⟨gw, 0, none⟩ u0).setCell ⟨gw, 1, none⟩ u1).setCell ⟨gw, 2, none⟩ u2).setCell ⟨gw, 3, none⟩ u3).setCell ⟨gw, 4, none⟩ u4).setCell ⟨gw, 5, none⟩ u5).setCell ⟨gw, 6, none⟩ u6).setCell ⟨gw, 7, none⟩ u7).setCell ⟨gw, 8, none⟩ u8).setCell ⟨gw, 9, none⟩ u9).setCell ⟨gw, 10, none⟩ u10).setCell ⟨gw, 11, none⟩ u11).cell? ⟨g, 1, none⟩ = some v1 ∧ ((((((((((((w.setCell ⟨gw, 0, none⟩ u0).setCell ⟨gw, 1, none⟩ u1).setCell ⟨gw, 2, none⟩ u2).setCell ⟨gw, 3, none⟩ u3).setCell ⟨gw, 4, none⟩ u4).setCell ⟨gw, 5, none⟩ u5).setCell ⟨gw, 6, none⟩ u6).setCell ⟨gw, 7, none⟩ u7).setCell ⟨gw, 8, none⟩ u8).setCell ⟨gw, 9, none⟩ u9).setCell ⟨gw, 10, none⟩ u10).setCell ⟨gw, 11, none⟩ u11).cell? ⟨g, 2, none⟩ = some v2 ∧ ((((((((((((w.setCell ⟨gw, 0, none⟩ u0).setCell ⟨gw, 1, none⟩ u1).setCell ⟨gw, 2, none⟩ u2).setCell ⟨gw, 3, none⟩ u3).setCell ⟨gw, 4, none⟩ u4).setCell ⟨gw, 5, none⟩ u5).setCell ⟨gw, 6, none⟩ u6).setCell ⟨gw, 7, none⟩ u7).setCell ⟨gw, 8, none⟩ u8).setCell ⟨gw, 9, none⟩ u9).setCell ⟨gw, 10, none⟩ u10).setCell ⟨gw, 11, none⟩ u11).cell? ⟨g, 3, none⟩ = some v3 :=
  keep4s hne (keep4s hne (keep4s hne (keep4s hne (keep4s hne (keep4s hne (keep4s hne (keep4s hne (keep4s hne (keep4s hne (keep4s hne (keep4s hne h)))))))))))
theorem keepB4 {B : Nat} {W W' : World} {g : Nat} {v0 v1 v2 v3 : Value} (hb : Below B W W') (hg : g < B)
    (h : W.cell? ⟨g, 0, none⟩ = some v0 ∧ W.cell? ⟨g, 1, none⟩ = some v1 ∧ W.cell? ⟨g, 2, none⟩ = some v2 ∧ W.cell? ⟨g, 3, none⟩ = some v3) :
    W'.cell? ⟨g, 0, none⟩ = some v0 ∧ W'.cell? ⟨g, 1, none⟩ = some v1 ∧ W'.cell? ⟨g, 2, none⟩ = some v2 ∧ W'.cell? ⟨g, 3, none⟩ = some v3 :=
  ⟨(hb.cell (p := ⟨g, 0, none⟩) hg).trans h.1, (hb.cell (p := ⟨g, 1, none⟩) hg).trans h.2.1, (hb.cell (p := ⟨g, 2, none⟩) hg).trans h.2.2.1, (hb.cell (p := ⟨g, 3, none⟩) hg).trans h.2.2.2⟩
set_option maxHeartbeats 4000000 in
theorem pnewBoard_any (d : Dev) (A : Option Addr) (n c : Nat) (fs : List (List Int)) (w : World) (hA : Rows2 w A n fs) (hz : size2 fs ≤ 1099511627776) :
    Calls Try.prog 19 #[.agg #[.int .i64 d.W, .int .i64 d.H, .int .i64 d.T, .int .i64 d.R], .slice A n c] w fun e w' => ∃ s, e = .returned (.tuple #[.agg (bdArr (newB d fs) s), .bool (framesOk d fs)]) ∧ BoardAt w.heap.size w'.heap.size w' (newB d fs) s ∧ Below w.heap.size w w' := by
  have hB0 : Below w.heap.size w (w.alloc (.cells #[.int .i64 d.W, .int .i64 d.H, .int .i64 d.T, .int .i64 d.R] 26)) := below_new (Below.refl _ _) _
  have HI := Lib.hid hA
  have HX := Lib.hid hA.1
  clear hA
  go_enter Try.func19, Try.ntmps19
  go_wp2_with fail
  refine (framesOk_any d A n c fs _ (HI.out.below (below_new hB0 _)) hz).mono ?_
  rintro e w1 ⟨rfl, b1⟩
  have hs1 := b1.size
  simp only [World.size_alloc] at hs1
  have B1 := Lib.hid (below_tr (below_new hB0 _) b1)
  have HZ : Hid (w1.heap[w.heap.size + 1]? = some (.cells (bdArr zBd ⟨none, 0, 0, none, 0, 0, none, 0, 0⟩) 31 (0, 0))) := heap_tr b1 (heap_newAt (by simp))
  have HW1 := B1
  have HQ := Lib.hid (keep4 b1 (by simp; omega) (keep4 (below_new (Below.refl _ _) _) (by simp) (box4 w d)))
  obtain ⟨z0, z1, z2, z3, z4, z5, z6, z7, z8, z9, z10, z11⟩ := cells12 HZ.out
  have y0 := fun k => frozen_heap HZ.out k
  clear b1
  cases hf : framesOk d fs with
  | false =>
    have HF := Lib.hid hf
    clear hf
    go_wp2_with fail
    generalize hWF : World.setCell _ _ _ = WF
    have hb : WF.heap[w.heap.size + 1]? = some (.cells (bdArr zBd ⟨none, 0, 0, none, 0, 0, none, 0, 0⟩) 31 (0, 0)) := by rw [← hWF]; exact set12 HZ.out
    have hsz : WF.heap.size = w1.heap.size := by rw [← hWF]; simp only [World.size_setCell]
    have hB : Below w.heap.size w WF := by
      rw [← hWF]
      repeat (first | with_reducible exact B1.out | with_reducible refine Below.setCell ?_ (by simp only; omega) _)
    clear hWF z0 z1 z2 z3 z4 z5 z6 z7 z8 z9 z10 z11 y0
    refine bodyPost_ret (v := .tuple #[.agg (bdArr zBd ⟨none, 0, 0, none, 0, 0, none, 0, 0⟩), .bool false]) (results_cell2 Try.results19 rfl hb Try.underlying31 (by kernel_rfl)) rfl ⟨⟨none, 0, 0, none, 0, 0, none, 0, 0⟩, by rw [newB_bad HF.out, HF.out], by rw [newB_bad HF.out]; exact zBd_at _ _ _ hB.size, hB⟩
  | true =>
    have HF := Lib.hid hf
    have hww : w.heap.size < w1.heap.size := by omega
    have hD := Below.refl w1.heap.size w1
    have hne : w.heap.size ≠ w.heap.size + 1 := by omega
    have hw11 : w.heap.size + 1 < w1.heap.size := by omega
    clear hf z0 z1 z2 z3 z4 z5 z6 z7 z8 z9 z10 z11 y0
    go_wp2_with fail
    go_region_held3 (fun w' => w'.cell? ⟨w.heap.size, 0, none⟩ = some (.int .i64 d.W) ∧ w'.cell? ⟨w.heap.size, 1, none⟩ = some (.int .i64 d.H) ∧ w'.cell? ⟨w.heap.size, 2, none⟩ = some (.int .i64 d.T) ∧ w'.cell? ⟨w.heap.size, 3, none⟩ = some (.int .i64 d.R))
      (first | with_reducible exact keep4s12 hne (keep4 hD hww HQ.out) | with_reducible exact keep4s12 hne (keep4 hD.drew hww HQ.out) | with_reducible exact keep4 hD hww HQ.out | with_reducible exact keep4 hD.drew hww HQ.out)
      (first
        | (go_at_call 71; (with_reducible refine (copyLists_any A n c fs _ (HI.out.below (below_tr B1.out (by first | with_reducible exact hD | with_reducible exact hD.drew))) hz).mono ?_); rintro e w2 ⟨A2, c2, rfl, o2, b2⟩; have O2 := Lib.hid o2; have hb2 := Lib.hid b2; have hD2 := below_tr (a := w1) (by first | with_reducible exact hD | with_reducible exact hD.drew) b2; clear b2 o2; replace hD := hD2; (try clear z0 z1 z2 z3 z4 z5 z6 z7 z8 z9 z10 z11 y0); have HZc := heap_tr hD HZ.out; obtain ⟨z0, z1, z2, z3, z4, z5, z6, z7, z8, z9, z10, z11⟩ := cells12 HZc; have y0 := fun k => frozen_heap HZc k; clear HZc)
        | (go_at_call 47; (with_reducible refine (pemuStart_any d A n c fs _ (HI.out.below (below_tr B1.out (by first | with_reducible exact hD | with_reducible exact hD.drew))) hz).mono ?_); rintro e w3 ⟨A3, n3, c3, rfl, o3, b3⟩; have O3 := Lib.hid o3; have hb3 := Lib.hid b3; have hD2 := below_tr (a := w1) (by first | with_reducible exact hD | with_reducible exact hD.drew) b3; clear b3 o3; replace hD := hD2; (try clear z0 z1 z2 z3 z4 z5 z6 z7 z8 z9 z10 z11 y0); have HZc := heap_tr hD HZ.out; obtain ⟨z0, z1, z2, z3, z4, z5, z6, z7, z8, z9, z10, z11⟩ := cells12 HZc; have y0 := fun k => frozen_heap HZc k; clear HZc))
    · clear z0 z1 z2 z3 z4 z5 z6 z7 z8 z9 z10 z11 y0
      go_wp2_with fail
      have hs9 := hD.size
      have hs2 := hb2.out.size
      have hs3 := hb3.out.size
      have hs4 := HW1.out.size
      have e1 : w1.drew.heap.size = w1.heap.size := rfl
      (try rw [e1] at hs2)
      (try rw [e1] at hs3)
      generalize hWF : World.setCell _ _ _ = WF
      have hb : WF.heap[w.heap.size + 1]? = some (.cells (bdArr (newB d fs) ⟨A2, n, c2, A3, n3, c3, none, 0, 0⟩) 31 (0, 0)) := by
        rw [← hWF, newB_good HF.out]
        exact set12 (heap_tr hD HZ.out)
      have hC : Chg (w.heap.size + 1) (w.heap.size + 2) w3 WF := by
        rw [← hWF]
        repeat (first | with_reducible exact Chg.refl _ _ _ | with_reducible refine Chg.set ?_ (by omega) (by omega) _)
      have hB : Below w.heap.size w WF := by
        have h0 := below_tr B1.out hD
        rw [← hWF]
        repeat (first | with_reducible exact h0 | with_reducible refine Below.setCell ?_ (by simp only; omega) _)
      have hsz := hC.size
      have K2 := (O2.out.below hb3.out).chg hC (.inr (by first | omega | (simp only [World.size_drew]; omega)))
      have K3 := (O3.out).chg hC O3.out.lies (.inr (by first | omega | (simp only [World.size_drew]; omega)))
      have l3 := O3.out.lies
      (try rw [e1] at K2); (try rw [e1] at K3); (try rw [e1] at l3)
      clear hWF
      refine bodyPost_ret (v := .tuple #[.agg (bdArr (newB d fs) ⟨A2, n, c2, A3, n3, c3, none, 0, 0⟩), .bool true]) (results_cell2 Try.results19 rfl hb Try.underlying31 (by kernel_rfl)) rfl ⟨⟨A2, n, c2, A3, n3, c3, none, 0, 0⟩, by rw [HF.out], ?_, hB⟩
      rw [newB_good HF.out]
      exact ⟨_, _, _, _, w.heap.size, w.heap.size, K2, K3, l3, Own2.nil, by unfold Ap; omega, by unfold Ap; omega, by unfold Ap; omega, ⟨by omega, by omega⟩, ⟨by omega, by omega⟩, ⟨Nat.le_refl _, by omega⟩⟩
set_option maxHeartbeats 4000000 in
theorem snewBoard_any (d : Dev) (A : Option Addr) (n c : Nat) (fs : List (List Int)) (w : World) (hA : Rows2 w A n fs) (hz : size2 fs ≤ 1099511627776) :
    Calls Try.prog 16 #[.agg #[.int .i64 d.W, .int .i64 d.H, .int .i64 d.T, .int .i64 d.R], .slice A n c] w fun e w' => ∃ s, e = .returned (.tuple #[.agg (bdArr (newB d fs) s), .bool (framesOk d fs)]) ∧ BoardAt w.heap.size w'.heap.size w' (newB d fs) s ∧ Below w.heap.size w w' := by
  have hB0 : Below w.heap.size w (w.alloc (.cells #[.int .i64 d.W, .int .i64 d.H, .int .i64 d.T, .int .i64 d.R] 26)) := below_new (Below.refl _ _) _
  have HI := Lib.hid hA
  have HX := Lib.hid hA.1
  clear hA
  go_enter Try.func16, Try.ntmps16
  go_wp2_with fail
  refine (sframesOk_any d A n c fs _ (HI.out.below (below_new hB0 _)) hz).mono ?_
  rintro e w1 ⟨rfl, b1⟩
  have hs1 := b1.size
  simp only [World.size_alloc] at hs1
  have B1 := Lib.hid (below_tr (below_new hB0 _) b1)
  have HZ : Hid (w1.heap[w.heap.size + 1]? = some (.cells (bdArr zBd ⟨none, 0, 0, none, 0, 0, none, 0, 0⟩) 31 (0, 0))) := heap_tr b1 (heap_newAt (by simp))
  have HW1 := B1
  have HQ := Lib.hid (keep4 b1 (by simp; omega) (keep4 (below_new (Below.refl _ _) _) (by simp) (box4 w d)))
  obtain ⟨z0, z1, z2, z3, z4, z5, z6, z7, z8, z9, z10, z11⟩ := cells12 HZ.out
  have y0 := fun k => frozen_heap HZ.out k
  clear b1
  cases hf : framesOk d fs with
  | false =>
    have HF := Lib.hid hf
    clear hf
    go_wp2_with fail
    generalize hWF : World.setCell _ _ _ = WF
    have hb : WF.heap[w.heap.size + 1]? = some (.cells (bdArr zBd ⟨none, 0, 0, none, 0, 0, none, 0, 0⟩) 31 (0, 0)) := by rw [← hWF]; exact set12 HZ.out
    have hsz : WF.heap.size = w1.heap.size := by rw [← hWF]; simp only [World.size_setCell]
    have hB : Below w.heap.size w WF := by
      rw [← hWF]
      repeat (first | with_reducible exact B1.out | with_reducible refine Below.setCell ?_ (by simp only; omega) _)
    clear hWF z0 z1 z2 z3 z4 z5 z6 z7 z8 z9 z10 z11 y0
    refine bodyPost_ret (v := .tuple #[.agg (bdArr zBd ⟨none, 0, 0, none, 0, 0, none, 0, 0⟩), .bool false]) (results_cell2 Try.results16 rfl hb Try.underlying31 (by kernel_rfl)) rfl ⟨⟨none, 0, 0, none, 0, 0, none, 0, 0⟩, by rw [newB_bad HF.out, HF.out], by rw [newB_bad HF.out]; exact zBd_at _ _ _ hB.size, hB⟩
  | true =>
    have HF := Lib.hid hf
    have hww : w.heap.size < w1.heap.size := by omega
    have hD := Below.refl w1.heap.size w1
    have hne : w.heap.size ≠ w.heap.size + 1 := by omega
    have hw11 : w.heap.size + 1 < w1.heap.size := by omega
    clear hf z0 z1 z2 z3 z4 z5 z6 z7 z8 z9 z10 z11 y0
    go_wp2_with fail
    go_region_held3 (fun w' => w'.cell? ⟨w.heap.size, 0, none⟩ = some (.int .i64 d.W) ∧ w'.cell? ⟨w.heap.size, 1, none⟩ = some (.int .i64 d.H) ∧ w'.cell? ⟨w.heap.size, 2, none⟩ = some (.int .i64 d.T) ∧ w'.cell? ⟨w.heap.size, 3, none⟩ = some (.int .i64 d.R))
      (first | with_reducible exact keep4s12 hne (keep4 hD hww HQ.out) | with_reducible exact keep4s12 hne (keep4 hD.drew hww HQ.out) | with_reducible exact keep4 hD hww HQ.out | with_reducible exact keep4 hD.drew hww HQ.out)
      (first
        | (go_at_call 68; (with_reducible refine (l19Copy_any A n c fs _ (HI.out.below (below_tr B1.out (by first | with_reducible exact hD | with_reducible exact hD.drew))) hz).mono ?_); rintro e w2 ⟨A2, c2, rfl, o2, b2⟩; have O2 := Lib.hid o2; have hb2 := Lib.hid b2; have hD2 := below_tr (a := w1) (by first | with_reducible exact hD | with_reducible exact hD.drew) b2; clear b2 o2; replace hD := hD2; (try clear z0 z1 z2 z3 z4 z5 z6 z7 z8 z9 z10 z11 y0); have HZc := heap_tr hD HZ.out; obtain ⟨z0, z1, z2, z3, z4, z5, z6, z7, z8, z9, z10, z11⟩ := cells12 HZc; have y0 := fun k => frozen_heap HZc k; clear HZc)
        | (go_at_call 69; (with_reducible refine (semuStart_any d A n c fs _ (HI.out.below (below_tr B1.out (by first | with_reducible exact hD | with_reducible exact hD.drew))) hz).mono ?_); rintro e w3 ⟨A3, n3, c3, rfl, o3, b3⟩; have O3 := Lib.hid o3; have hb3 := Lib.hid b3; have hD2 := below_tr (a := w1) (by first | with_reducible exact hD | with_reducible exact hD.drew) b3; clear b3 o3; replace hD := hD2; (try clear z0 z1 z2 z3 z4 z5 z6 z7 z8 z9 z10 z11 y0); have HZc := heap_tr hD HZ.out; obtain ⟨z0, z1, z2, z3, z4, z5, z6, z7, z8, z9, z10, z11⟩ := cells12 HZc; have y0 := fun k => frozen_heap HZc k; clear HZc))
    · clear z0 z1 z2 z3 z4 z5 z6 z7 z8 z9 z10 z11 y0
      go_wp2_with fail
      have hs9 := hD.size
      have hs2 := hb2.out.size
      have hs3 := hb3.out.size
      have hs4 := HW1.out.size
      have e1 : w1.drew.heap.size = w1.heap.size := rfl
      (try rw [e1] at hs2)
      (try rw [e1] at hs3)
      generalize hWF : World.setCell _ _ _ = WF
      have hb : WF.heap[w.heap.size + 1]? = some (.cells (bdArr (newB d fs) ⟨A2, n, c2, A3, n3, c3, none, 0, 0⟩) 31 (0, 0)) := by
        rw [← hWF, newB_good HF.out]
        exact set12 (heap_tr hD HZ.out)
      have hC : Chg (w.heap.size + 1) (w.heap.size + 2) w3 WF := by
        rw [← hWF]
        repeat (first | with_reducible exact Chg.refl _ _ _ | with_reducible refine Chg.set ?_ (by omega) (by omega) _)
      have hB : Below w.heap.size w WF := by
        have h0 := below_tr B1.out hD
        rw [← hWF]
        repeat (first | with_reducible exact h0 | with_reducible refine Below.setCell ?_ (by simp only; omega) _)
      have hsz := hC.size
      have K2 := (O2.out.below hb3.out).chg hC (.inr (by first | omega | (simp only [World.size_drew]; omega)))
      have K3 := (O3.out).chg hC O3.out.lies (.inr (by first | omega | (simp only [World.size_drew]; omega)))
      have l3 := O3.out.lies
      (try rw [e1] at K2); (try rw [e1] at K3); (try rw [e1] at l3)
      clear hWF
      refine bodyPost_ret (v := .tuple #[.agg (bdArr (newB d fs) ⟨A2, n, c2, A3, n3, c3, none, 0, 0⟩), .bool true]) (results_cell2 Try.results16 rfl hb Try.underlying31 (by kernel_rfl)) rfl ⟨⟨A2, n, c2, A3, n3, c3, none, 0, 0⟩, by rw [HF.out], ?_, hB⟩
      rw [newB_good HF.out]
      exact ⟨_, _, _, _, w.heap.size, w.heap.size, K2, K3, l3, Own2.nil, by unfold Ap; omega, by unfold Ap; omega, by unfold Ap; omega, ⟨by omega, by omega⟩, ⟨by omega, by omega⟩, ⟨Nat.le_refl _, by omega⟩⟩
end Go.Proofs.Ytclmhnghpnfnkaa
