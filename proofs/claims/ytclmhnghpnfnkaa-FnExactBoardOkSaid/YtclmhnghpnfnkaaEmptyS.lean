/- The empty configuration of a tile, of the reference. -/
import Derived.Test.YtclmhnghpnfnkaaEmpty
namespace Go.Proofs.Ytclmhnghpnfnkaa
set_option maxRecDepth 100000
open Go.RowKit
set_option maxHeartbeats 8000000 in
theorem semptyTile_any (d : Dev) (w : World) (hd : devOk d = true) :
    Calls Try.prog 177 #[.agg #[.int .i64 d.W, .int .i64 d.H, .int .i64 d.T, .int .i64 d.R]] w (EmptyPost w (muxN d)) := by
  obtain ⟨hm, hm1, hm2, _⟩ := muxN_bd hd
  have HD := Lib.hid hd
  obtain ⟨i0, hi, hz0, hz1, hz2⟩ := info_parts int_info
  have hmk := fun W => run_make_rowN (P := Try.prog) 27 3 i0 _ Try.underlying27 hi hz0 .i64 .i64 (muxN d) (muxN d) (Nat.le_refl _) (by rw [hz2]; omega) (by omega) W
  have hmk4 : ∀ W : World, (Instr.makeSlice 27 (.int .i64 4) (.int .i64 4)).run Try.prog W = .ok (.slice (some ⟨W.heap.size, 0, none⟩) 4 4) (W.alloc (.cells (madeCells (Value.int .i64 0).cells (4 * i0.size)) 3)) := fun W => run_make_rowN (P := Try.prog) 27 3 i0 _ Try.underlying27 hi hz0 .i64 .i64 4 4 (Nat.le_refl _) (by rw [hz2]; omega) (by omega) W
  rw [hz1, Nat.mul_one, show (Value.int .i64 0).cells = #[Value.int .i64 0] from rfl, arr_made] at hmk hmk4
  clear hi hz0 hz1 hz2
  generalize hMM : muxN d = M at *
  have HMM := Lib.hid hMM
  have hmc : ∀ w, Calls Try.prog 167 #[.agg #[.int .i64 d.W, .int .i64 d.H, .int .i64 d.T, .int .i64 d.R]] w fun e w' => e = .returned (.int .i64 (M : Int)) ∧ Below w.heap.size w w' := fun w => by rw [← HMM.out]; exact smuxCount_n d w HD.out
  have HMC := Lib.hid hmc
  clear hd hm hMM hmc
  go_enter Try.func177, Try.ntmps177
  go_wp2_with fail
  refine (sdeviceOk_any d _).mono ?_
  rintro e w1 ⟨rfl, b1⟩
  have hS := keep_init b1
  have hX1 := Lib.hid (box_init b1)
  rw [HD.out]
  go_wp2_with fail
  clear b1
  obtain ⟨hB, c0, c1, c2, c3, e0, e1, e2, e3, f0, f1, f2, f3, hl⟩ := hS
  obtain ⟨p1, p2, p3, p4, p5, p6⟩ := apart4 (a := w.heap.size) (b := w1.heap.size) (by omega)
  have hq1 : w.heap.size + 1 < w1.heap.size := p1
  have HH := Lib.hid (show Below w.heap.size w w1 ∧ w1.cell? ⟨w.heap.size, 0, none⟩ = some (.int .i64 d.W) ∧ w1.cell? ⟨w.heap.size, 1, none⟩ = some (.int .i64 d.H) ∧ w1.cell? ⟨w.heap.size, 2, none⟩ = some (.int .i64 d.T) ∧ w1.cell? ⟨w.heap.size, 3, none⟩ = some (.int .i64 d.R) ∧ w1.cell? ⟨w.heap.size + 1, 0, none⟩ = some (.slice none 0 0) ∧ w1.cell? ⟨w.heap.size + 1, 1, none⟩ = some (.slice none 0 0) ∧ w1.cell? ⟨w.heap.size + 1, 2, none⟩ = some (.int .i64 0) ∧ w1.cell? ⟨w.heap.size + 1, 3, none⟩ = some (.int .i64 0) ∧ w1.frozen? ⟨w.heap.size + 1, 0, none⟩ = false ∧ w1.frozen? ⟨w.heap.size + 1, 1, none⟩ = false ∧ w1.frozen? ⟨w.heap.size + 1, 2, none⟩ = false ∧ w1.frozen? ⟨w.heap.size + 1, 3, none⟩ = false ∧ w.heap.size + 1 < w1.heap.size from ⟨hB, c0, c1, c2, c3, e0, e1, e2, e3, f0, f1, f2, f3, hl⟩)
  clear hl hB hm1 hm2
  have H4 : w1.cell? ⟨w.heap.size, 0, none⟩ = some (.int .i64 d.W) ∧ w1.cell? ⟨w.heap.size, 1, none⟩ = some (.int .i64 d.H) ∧ w1.cell? ⟨w.heap.size, 2, none⟩ = some (.int .i64 d.T) ∧ w1.cell? ⟨w.heap.size, 3, none⟩ = some (.int .i64 d.R) := ⟨c0, c1, c2, c3⟩
  clear c0 c1 c2 c3
  go_cut [] (fun wx => CutE w.heap.size M w wx)
  case first =>
    go_region_held3 (fun w' => w'.cell? ⟨w.heap.size, 0, none⟩ = some (.int .i64 d.W) ∧ w'.cell? ⟨w.heap.size, 1, none⟩ = some (.int .i64 d.H) ∧ w'.cell? ⟨w.heap.size, 2, none⟩ = some (.int .i64 d.T) ∧ w'.cell? ⟨w.heap.size, 3, none⟩ = some (.int .i64 d.R))
      (first
        | with_reducible exact k4_drew H4
        | with_reducible exact k4_drew (k4_al _ H4)
        | with_reducible exact k4_drew (k4_al _ (k4_al _ H4))
        | with_reducible exact k4_drew (k4_al _ (k4_al _ (k4_al _ H4)))
        | with_reducible exact k4_drew (k4_al _ (k4_al _ (k4_al _ (k4_al _ H4))))
        | with_reducible exact (k4_sets H4)
        | with_reducible exact (k4_al _ (k4_sets H4))
        | with_reducible exact (k4_al _ (k4_al _ (k4_sets H4)))
        | with_reducible exact (k4_al _ (k4_al _ (k4_al _ (k4_sets H4))))
        | with_reducible exact (k4_al _ (k4_al _ (k4_al _ (k4_al _ (k4_sets H4)))))
        | with_reducible exact H4
        | with_reducible exact (k4_al _ H4)
        | with_reducible exact (k4_al _ (k4_al _ H4))
        | with_reducible exact (k4_al _ (k4_al _ (k4_al _ H4)))
        | with_reducible exact (k4_al _ (k4_al _ (k4_al _ (k4_al _ H4)))))
      (first
        | (go_at_call 167; (with_reducible refine (HMC.out _).mono ?_); rintro e w2 ⟨rfl, b2⟩; (first | (with_reducible have hS2 := keep_call b2 HH.out) | (with_reducible have hS2 := keep_call b2 (keep_al _ HH.out)) | (with_reducible have hS2 := keep_call b2 (keep_al _ (keep_al _ HH.out))) | (with_reducible have hS2 := keep_call b2 (keep_al _ (keep_al _ (keep_al _ HH.out))))); have hz2 := b2.size; (try simp only [World.size_alloc, size_drew4] at hz2); have hb2 := Lib.hid b2; have hX2 := Lib.hid (heap_tr b2 (heap_dr (by first | exact hX1.out | exact heap_al _ hX1.out | exact heap_al _ (heap_al _ hX1.out) | exact heap_al _ (heap_al _ (heap_al _ hX1.out))))); clear b2 H4 HH e0 e1 e2 e3 f0 f1 f2 f3 p1 p2 p3 p4 p5 p6; have HH := Lib.hid hS2; obtain ⟨hB, c0, c1, c2, c3, e0, e1, e2, e3, f0, f1, f2, f3, hl⟩ := hS2; obtain ⟨p1, p2, p3, p4, p5, p6⟩ := apart4 (a := w.heap.size) (b := w2.heap.size) (by omega); clear hl hB; have H4 : w2.cell? ⟨w.heap.size, 0, none⟩ = some (.int .i64 d.W) ∧ w2.cell? ⟨w.heap.size, 1, none⟩ = some (.int .i64 d.H) ∧ w2.cell? ⟨w.heap.size, 2, none⟩ = some (.int .i64 d.T) ∧ w2.cell? ⟨w.heap.size, 3, none⟩ = some (.int .i64 d.R) := ⟨c0, c1, c2, c3⟩; clear c0 c1 c2 c3))
    all_goals
      go_wp2_with fail
      go_meet
      clear e0 e1 e2 e3 f0 f1 f2 f3
      refine cutE_mk (by with_reducible first | exact (box_sets hX2.out) | exact (heap_al _ (box_sets hX2.out)) | exact (heap_al _ (heap_al _ (box_sets hX2.out))) | exact (heap_al _ (heap_al _ (heap_al _ (box_sets hX2.out)))) | exact (heap_al _ (heap_al _ (heap_al _ (heap_al _ (box_sets hX2.out)))))) (by repeat (first | (with_reducible refine heap_newAt ?_; (simp only [World.size_alloc, size_set4, size_drew4]); done) | with_reducible refine heap_al _ ?_ | with_reducible refine heap_st _ ?_ (by simp only; omega) | with_reducible refine heap_tr hb2.out ?_ | with_reducible refine heap_dr ?_)) ?_ ?_ ?_ ?_ ?_ ?_
      · repeat (first
          | (with_reducible refine heap_newAt ?_; (simp only [World.size_alloc, size_set4, size_drew4]); done)
          | with_reducible refine heap_al _ ?_
          | with_reducible refine heap_st _ ?_ (by simp only; omega)
          | with_reducible refine heap_tr hb2.out ?_
          | with_reducible refine heap_dr ?_)
      · repeat (first
          | (with_reducible refine heap_newAt ?_; (simp only [World.size_alloc, size_set4, size_drew4]); done)
          | with_reducible refine heap_al _ ?_
          | with_reducible refine heap_st _ ?_ (by simp only; omega)
          | with_reducible refine heap_tr hb2.out ?_
          | with_reducible refine heap_dr ?_)
      · repeat (first
          | (with_reducible refine heap_newAt ?_; (simp only [World.size_alloc, size_set4, size_drew4]); done)
          | with_reducible refine heap_al _ ?_
          | with_reducible refine heap_st _ ?_ (by simp only; omega)
          | with_reducible refine heap_tr hb2.out ?_
          | with_reducible refine heap_dr ?_)
      all_goals first | omega | (with_reducible first | exact (post4 HH.out.1) | exact (below_new (post4 HH.out.1) _) | exact (below_new (below_new (post4 HH.out.1) _) _) | exact (below_new (below_new (below_new (post4 HH.out.1) _) _) _) | exact (below_new (below_new (below_new (below_new (post4 HH.out.1) _) _) _) _) | exact ((post4 HH.out.1)).drew | exact ((below_new (post4 HH.out.1) _)).drew | exact ((below_new (below_new (post4 HH.out.1) _) _)).drew | exact ((below_new (below_new (below_new (post4 HH.out.1) _) _) _)).drew | exact ((below_new (below_new (below_new (below_new (post4 HH.out.1) _) _) _) _)).drew)
  case rest =>
    clear e0 e1 e2 e3 f0 f1 f2 f3 p1 p2 p3 p4 p5 p6 H4
    obtain ⟨gm, gl, g0, g1, hx, ⟨k1, k2, k3, k4⟩, ⟨l1, l2, l3, l4⟩, ⟨n1, n2, n3, n4, n5, n6⟩, hbw⟩ := hcut
    have d0 := cell_heap hx (k := 0) rfl
    have d1 := cell_heap hx (k := 1) rfl
    have d2 := cell_heap hx (k := 2) rfl
    have d3 := cell_heap hx (k := 3) rfl
    have HP := Lib.hid (tile_nodes hbw ⟨l1, l2, l3, l4⟩ ⟨n1, n2, n3, n4, n5, n6⟩ k1 k2 k3 k4)
    clear hx k1 k2 k3 k4 hbw hmk hmk4
    go_wp2_with fail
    exact bodyPost_ret (v := .agg #[.slice (some ⟨gm, 0, none⟩) M M, .slice (some ⟨gl, 0, none⟩) 2 2, .int .i64 0, .int .i64 0]) (by simp [results, Try.results177, go_sem, d0, d1, d2, d3]) rfl HP.out
end Go.Proofs.Ytclmhnghpnfnkaa
