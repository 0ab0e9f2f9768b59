/- Boards in cells: blocks of twelve cells; results that lie in a cell. Boards that come in: the laws' copy of a board. -/
import Derived.Laws.Rows
import Derived.Test.YtclmhnghpnfnkaaBrd
import Derived.Test.YtclmhnghpnfnkaaDecW
import Derived.Test.YtclmhnghpnfnkaaEmpty
namespace Go.Proofs.Ytclmhnghpnfnkaa
set_option maxRecDepth 100000
open Go.RowKit

theorem cells12 {w : World} {g : Nat} {v0 v1 v2 v3 v4 v5 v6 v7 v8 v9 v10 v11 : Value} {t : TypeId} (h : w.heap[g]? = some (.cells #[v0, v1, v2, v3, v4, v5, v6, v7, v8, v9, v10, v11] t (0, 0))) : w.cell? ⟨g, 0, none⟩ = some v0 ∧ w.cell? ⟨g, 1, none⟩ = some v1 ∧ w.cell? ⟨g, 2, none⟩ = some v2 ∧ w.cell? ⟨g, 3, none⟩ = some v3 ∧ w.cell? ⟨g, 4, none⟩ = some v4 ∧ w.cell? ⟨g, 5, none⟩ = some v5 ∧ w.cell? ⟨g, 6, none⟩ = some v6 ∧ w.cell? ⟨g, 7, none⟩ = some v7 ∧ w.cell? ⟨g, 8, none⟩ = some v8 ∧ w.cell? ⟨g, 9, none⟩ = some v9 ∧ w.cell? ⟨g, 10, none⟩ = some v10 ∧ w.cell? ⟨g, 11, none⟩ = some v11 :=
  ⟨cell_heap h rfl, cell_heap h rfl, cell_heap h rfl, cell_heap h rfl, cell_heap h rfl, cell_heap h rfl, cell_heap h rfl, cell_heap h rfl, cell_heap h rfl, cell_heap h rfl, cell_heap h rfl, cell_heap h rfl⟩
theorem heap_setFar {w : World} {g : Nat} {o : Obj} (h : w.heap[g]? = some o) {p : Addr} (hp : g ≠ p.block) (v : Value) : (w.setCell p v).heap[g]? = some o := (Below.heap_setCell w p v g hp).trans h
theorem heap_setAt {w : World} {g k : Nat} {cs cs' : Array Value} {t : TypeId} (h : w.heap[g]? = some (.cells cs t (0, 0))) (v : Value) (e : cs.setIfInBounds k v = cs') : (w.setCell ⟨g, k, none⟩ v).heap[g]? = some (.cells cs' t (0, 0)) := by
  rw [← e]; exact Go.Joins.block_setCell h v
theorem Chg.set {lo hi g k : Nat} {w w' : World} (h : Chg lo hi w w') (h1 : lo ≤ g) (h2 : g < hi) (v : Value) : Chg lo hi w (w'.setCell ⟨g, k, none⟩ v) := by
  have b := (Below.refl g w').setCell (p := ⟨g, k, none⟩) (Nat.le_refl g) v
  exact ⟨b.os.trans h.os, b.tape.trans h.tape, b.output.trans h.output, Nat.le_trans h.size b.size, fun i hi' hn => (Below.heap_setCell w' ⟨g, k, none⟩ v i (by show i ≠ g; omega)).trans (h.block i hi' hn)⟩
/-- A board's box g0, the result's block g1, and the block g of the board that the call makes. -/
def Three (w : World) (g0 g1 g : Nat) (cs cs1 cs' : Array Value) : Prop := w.heap[g0]? = some (.cells cs 63 (0, 0)) ∧ w.heap[g1]? = some (.cells cs1 31 (0, 0)) ∧ w.heap[g]? = some (.cells cs' 31 (0, 0))
theorem Three.tr {w w' : World} {g0 g1 g : Nat} {cs cs1 cs' : Array Value} (h : Three w g0 g1 g cs cs1 cs') (hb : Below w.heap.size w w') : Three w' g0 g1 g cs cs1 cs' := ⟨heap_tr hb h.1, heap_tr hb h.2.1, heap_tr hb h.2.2⟩
theorem Three.set {w : World} {g0 g1 g k : Nat} {cs cs1 cs' cs2 : Array Value} (h : Three w g0 g1 g cs cs1 cs') (hn : g0 ≠ g) (hn1 : g1 ≠ g) (v : Value) (e : cs'.setIfInBounds k v = cs2) : Three (w.setCell ⟨g, k, none⟩ v) g0 g1 g cs cs1 cs2 := ⟨heap_setFar h.1 hn v, heap_setFar h.2.1 hn1 v, heap_setAt h.2.2 v e⟩
theorem results_cell1 {fn : Func} {p : Tmp} {ty t : TypeId} {tmps cs : Array Value} {P : Program} {w : World} {g : Nat} {fs : Array Field} (h : fn.results = #[.cell p ty]) (ht : tmps.getD p undef = .pointer (some ⟨g, 0, none⟩)) (hg : w.heap[g]? = some (.cells cs t (0, 0)))
    (hu : P.underlying ty = some (.struct fs)) (hi : (P.info? ty).map (·.size) = some cs.size) : (results fn tmps).run P w = .ok (.agg cs) w := by
  have hl : (loadVar ty ⟨g, 0, none⟩).run P w = .ok (.agg cs) w := run_loadVar_row w g t ty cs (0, 0) (.struct fs) hg hu rfl hi
  simp only [results, h]
  simp only [Array.getD_eq_getD_getElem?] at ht
  simp [ht, asAddr, hl]
theorem results_cell2 {fn : Func} {p u : Tmp} {ty t : TypeId} {tmps cs : Array Value} {P : Program} {w : World} {g : Nat} {fs : Array Field} (h : fn.results = #[.cell p ty, .tmp u]) (ht : tmps.getD p undef = .pointer (some ⟨g, 0, none⟩)) (hg : w.heap[g]? = some (.cells cs t (0, 0)))
    (hu : P.underlying ty = some (.struct fs)) (hi : (P.info? ty).map (·.size) = some cs.size) : (results fn tmps).run P w = .ok (.tuple #[.agg cs, tmps.getD u undef]) w := by
  have hl : (loadVar ty ⟨g, 0, none⟩).run P w = .ok (.agg cs) w := run_loadVar_row w g t ty cs (0, 0) (.struct fs) hg hu rfl hi
  simp only [results, h]
  simp only [Array.getD_eq_getD_getElem?] at ht
  simp [ht, asAddr, hl]
theorem boardAt_mk {lo hi l1 h1 l2 h2 l3 h3 : Nat} {w : World} {b : Bd} {s : Sl3} (k1 : Own2 l1 h1 w s.A1 s.n1 s.c1 b.frames) (k2 : Own l2 w s.A2 s.n2 s.c2 b.state) (l : Lies s.A2 l2 h2) (k3 : Own2 l3 h3 w s.A3 s.n3 s.c3 b.saved)
    (e0 : lo ≤ l1 ∧ l1 ≤ h1 ∧ h1 ≤ l2 ∧ l2 ≤ h2 ∧ h2 ≤ l3 ∧ l3 ≤ h3 ∧ h3 ≤ hi) : BoardAt lo hi w b s :=
  ⟨l1, h1, l2, h2, l3, h3, k1, k2, l, k3, .inl e0.2.2.1, .inl (by omega), .inl e0.2.2.2.2.1, ⟨e0.1, by omega⟩, ⟨by omega, by omega⟩, ⟨by omega, by omega⟩⟩
theorem set12 {w : World} {g : Nat} {v0 v1 v2 v3 v4 v5 v6 v7 v8 v9 v10 v11 u0 u1 u2 u3 u4 u5 u6 u7 u8 u9 u10 u11 : Value} {t : TypeId} (h : w.heap[g]? = some (.cells #[v0, v1, v2, v3, v4, v5, v6, v7, v8, v9, v10, v11] t (0, 0))) : ((((((((((((w.setCell ⟨g, 0, none⟩ u0).setCell ⟨g, 1, none⟩ u1).setCell ⟨g, 2, none⟩ u2).setCell ⟨g, 3, none⟩ u3).setCell ⟨g, 4, none⟩ u4).setCell ⟨g, 5, none⟩ u5).setCell ⟨g, 6, none⟩ u6).setCell ⟨g, 7, none⟩ u7).setCell ⟨g, 8, none⟩ u8).setCell ⟨g, 9, none⟩ u9).setCell ⟨g, 10, none⟩ u10).setCell ⟨g, 11, none⟩ u11).heap[g]? = some (.cells #[u0, u1, u2, u3, u4, u5, u6, u7, u8, u9, u10, u11] t (0, 0)) := by
  have h1 := heap_setAt (k := 0) (cs' := #[u0, v1, v2, v3, v4, v5, v6, v7, v8, v9, v10, v11]) h u0 rfl
  have h2 := heap_setAt (k := 1) (cs' := #[u0, u1, v2, v3, v4, v5, v6, v7, v8, v9, v10, v11]) h1 u1 rfl
  have h3 := heap_setAt (k := 2) (cs' := #[u0, u1, u2, v3, v4, v5, v6, v7, v8, v9, v10, v11]) h2 u2 rfl
  have h4 := heap_setAt (k := 3) (cs' := #[u0, u1, u2, u3, v4, v5, v6, v7, v8, v9, v10, v11]) h3 u3 rfl
  have h5 := heap_setAt (k := 4) (cs' := #[u0, u1, u2, u3, u4, v5, v6, v7, v8, v9, v10, v11]) h4 u4 rfl
  have h6 := heap_setAt (k := 5) (cs' := #[u0, u1, u2, u3, u4, u5, v6, v7, v8, v9, v10, v11]) h5 u5 rfl
  have h7 := heap_setAt (k := 6) (cs' := #[u0, u1, u2, u3, u4, u5, u6, v7, v8, v9, v10, v11]) h6 u6 rfl
  have h8 := heap_setAt (k := 7) (cs' := #[u0, u1, u2, u3, u4, u5, u6, u7, v8, v9, v10, v11]) h7 u7 rfl
  have h9 := heap_setAt (k := 8) (cs' := #[u0, u1, u2, u3, u4, u5, u6, u7, u8, v9, v10, v11]) h8 u8 rfl
  have h10 := heap_setAt (k := 9) (cs' := #[u0, u1, u2, u3, u4, u5, u6, u7, u8, u9, v10, v11]) h9 u9 rfl
  have h11 := heap_setAt (k := 10) (cs' := #[u0, u1, u2, u3, u4, u5, u6, u7, u8, u9, u10, v11]) h10 u10 rfl
  have h12 := heap_setAt (k := 11) (cs' := #[u0, u1, u2, u3, u4, u5, u6, u7, u8, u9, u10, u11]) h11 u11 rfl
  exact h12
end Go.Proofs.Ytclmhnghpnfnkaa

namespace Go.Proofs.Ytclmhnghpnfnkaa
set_option maxRecDepth 100000
open Go.RowKit

set_option maxHeartbeats 4000000 in
theorem toBoard_any (b : Bd) (s : Sl3) (w : World) (h : BoardRd w b s) (zf : size2 b.frames ≤ 16777216) (zs : s.n2 ≤ 16777216) (zv : size2 b.saved ≤ 16777216) :
    Calls Try.prog 45 #[.agg (bdArr b s)] w fun e w' => ∃ t, e = .returned (.agg (bdArr b t)) ∧ BoardAt w.heap.size w'.heap.size w' b t ∧ Below w.heap.size w w' := by
  obtain ⟨d, fs, st, ph, r, sv⟩ := b
  obtain ⟨A1, n1, c1, A2, n2, c2, A3, n3, c3⟩ := s
  have HI := Lib.hid h
  dsimp only at zf zs zv
  clear h
  go_enter Try.func45, Try.ntmps45
  go_wp2_with fail
  refine (toDevice_any d _).mono ?_
  rintro e w1 ⟨rfl, b1⟩
  have hs1 := b1.size
  simp only [World.size_alloc] at hs1
  have HB := Lib.hid (below_tr (below_new (below_new (below_new (Below.refl w.heap.size w) _) _) _) b1)
  have HT : Hid (Three w1 w.heap.size (w.heap.size + 1) (w.heap.size + 1 + 1) (bdArr ⟨d, fs, st, ph, r, sv⟩ ⟨A1, n1, c1, A2, n2, c2, A3, n3, c3⟩) #[.int .i64 0, .int .i64 0, .int .i64 0, .int .i64 0, .slice none 0 0, .slice none 0 0, .int .i64 0, .int .i64 0, .int .i64 0, .int .i64 0, .int .i64 0, .slice none 0 0] #[.int .i64 0, .int .i64 0, .int .i64 0, .int .i64 0, .slice none 0 0, .slice none 0 0, .int .i64 0, .int .i64 0, .int .i64 0, .int .i64 0, .int .i64 0, .slice none 0 0]) :=
    ⟨heap_tr b1 (heap_al _ (heap_al _ (heap_new _ _))), heap_tr b1 (heap_al _ (heap_newAt (by simp))), heap_tr b1 (heap_newAt (by simp))⟩
  have hg : w.heap.size ≠ w.heap.size + 1 + 1 := by omega
  have hg1 : w.heap.size + 1 ≠ w.heap.size + 1 + 1 := by omega
  obtain ⟨x0, x1, x2, x3, x4, x5, x6, x7, x8, x9, x10, x11⟩ := cells12 HT.out.1
  obtain ⟨z0, z1, z2, z3, z4, z5, z6, z7, z8, z9, z10, z11⟩ := cells12 HT.out.2.2
  obtain ⟨u0, u1, u2, u3, u4, u5, u6, u7, u8, u9, u10, u11⟩ := cells12 HT.out.2.1
  have y0 := fun k => frozen_heap HT.out.1 k
  have y1 := fun k => frozen_heap HT.out.2.1 k
  have y2 := fun k => frozen_heap HT.out.2.2 k
  clear b1
  go_wp2_with fail
  refine (toIntSS_any A1 n1 c1 fs _ (HI.out.frames.below (by repeat (first | with_reducible exact HB.out | with_reducible refine Below.setCell ?_ (by simp only; omega) _ | with_reducible refine below_new ?_ _ | with_reducible exact Below.refl _ _))) zf).mono ?_
  rintro e w2 ⟨B1, rfl, o1, b2⟩
  have hs2 := b2.size
  simp only [World.size_setCell] at hs2
  replace HB := Lib.hid (below_tr (a := w) (by repeat (first | with_reducible exact HB.out | with_reducible refine Below.setCell ?_ (by simp only; omega) _ | with_reducible refine below_new ?_ _ | with_reducible exact Below.refl _ _)) b2)
  replace HT : Hid (Three w2 w.heap.size (w.heap.size + 1) (w.heap.size + 1 + 1) (bdArr ⟨d, fs, st, ph, r, sv⟩ ⟨A1, n1, c1, A2, n2, c2, A3, n3, c3⟩) #[.int .i64 0, .int .i64 0, .int .i64 0, .int .i64 0, .slice none 0 0, .slice none 0 0, .int .i64 0, .int .i64 0, .int .i64 0, .int .i64 0, .int .i64 0, .slice none 0 0] #[.int .i64 d.W, .int .i64 d.H, .int .i64 d.T, .int .i64 d.R, .slice none 0 0, .slice none 0 0, .int .i64 0, .int .i64 0, .int .i64 0, .int .i64 0, .int .i64 0, .slice none 0 0]) := Three.tr ((((HT.out.set hg hg1 (.int .i64 d.W) rfl).set hg hg1 (.int .i64 d.H) rfl).set hg hg1 (.int .i64 d.T) rfl).set hg hg1 (.int .i64 d.R) rfl) b2
  have O2 := Lib.hid o1
  clear x0 z0 u0 x1 z1 u1 x2 z2 u2 x3 z3 u3 x4 z4 u4 x5 z5 u5 x6 z6 u6 x7 z7 u7 x8 z8 u8 x9 z9 u9 x10 z10 u10 x11 z11 u11 y0 y1 y2
  obtain ⟨x0, x1, x2, x3, x4, x5, x6, x7, x8, x9, x10, x11⟩ := cells12 HT.out.1
  obtain ⟨z0, z1, z2, z3, z4, z5, z6, z7, z8, z9, z10, z11⟩ := cells12 HT.out.2.2
  obtain ⟨u0, u1, u2, u3, u4, u5, u6, u7, u8, u9, u10, u11⟩ := cells12 HT.out.2.1
  have y0 := fun k => frozen_heap HT.out.1 k
  have y1 := fun k => frozen_heap HT.out.2.1 k
  have y2 := fun k => frozen_heap HT.out.2.2 k
  clear b2 o1
  go_wp2_with fail
  refine (toIntS_any A2 n2 c2 st _ (HI.out.state.below (by repeat (first | with_reducible exact HB.out | with_reducible refine Below.setCell ?_ (by simp only; omega) _ | with_reducible refine below_new ?_ _ | with_reducible exact Below.refl _ _))) zs).mono ?_
  rintro e w3 ⟨B2, rfl, o2, b3⟩
  have hs3 := b3.size
  simp only [World.size_setCell] at hs3
  replace HB := Lib.hid (below_tr (a := w) (by repeat (first | with_reducible exact HB.out | with_reducible refine Below.setCell ?_ (by simp only; omega) _ | with_reducible refine below_new ?_ _ | with_reducible exact Below.refl _ _)) b3)
  replace HT : Hid (Three w3 w.heap.size (w.heap.size + 1) (w.heap.size + 1 + 1) (bdArr ⟨d, fs, st, ph, r, sv⟩ ⟨A1, n1, c1, A2, n2, c2, A3, n3, c3⟩) #[.int .i64 0, .int .i64 0, .int .i64 0, .int .i64 0, .slice none 0 0, .slice none 0 0, .int .i64 0, .int .i64 0, .int .i64 0, .int .i64 0, .int .i64 0, .slice none 0 0] #[.int .i64 d.W, .int .i64 d.H, .int .i64 d.T, .int .i64 d.R, .slice B1 n1 n1, .slice none 0 0, .int .i64 0, .int .i64 0, .int .i64 0, .int .i64 0, .int .i64 0, .slice none 0 0]) := Three.tr (HT.out.set hg hg1 (.slice B1 n1 n1) rfl) b3
  replace O2 := Lib.hid ((O2.out.chg (lo' := w.heap.size + 2) (hi' := w.heap.size + 3) (by repeat (first | with_reducible exact Chg.refl _ _ _ | with_reducible refine Chg.set ?_ (by omega) (by omega) _)) (by simp only [World.size_setCell]; omega)).below b3)
  have lO3 := o2.lies
  have O3 := Lib.hid o2
  simp only [World.size_setCell] at lO3
  clear x0 z0 u0 x1 z1 u1 x2 z2 u2 x3 z3 u3 x4 z4 u4 x5 z5 u5 x6 z6 u6 x7 z7 u7 x8 z8 u8 x9 z9 u9 x10 z10 u10 x11 z11 u11 y0 y1 y2
  obtain ⟨x0, x1, x2, x3, x4, x5, x6, x7, x8, x9, x10, x11⟩ := cells12 HT.out.1
  obtain ⟨z0, z1, z2, z3, z4, z5, z6, z7, z8, z9, z10, z11⟩ := cells12 HT.out.2.2
  obtain ⟨u0, u1, u2, u3, u4, u5, u6, u7, u8, u9, u10, u11⟩ := cells12 HT.out.2.1
  have y0 := fun k => frozen_heap HT.out.1 k
  have y1 := fun k => frozen_heap HT.out.2.1 k
  have y2 := fun k => frozen_heap HT.out.2.2 k
  clear b3 o2
  go_wp2_with fail
  refine (toRegion_any r _).mono ?_
  rintro e w4 ⟨rfl, b4⟩
  have hs4 := b4.size
  simp only [World.size_setCell] at hs4
  replace HB := Lib.hid (below_tr (a := w) (by repeat (first | with_reducible exact HB.out | with_reducible refine Below.setCell ?_ (by simp only; omega) _ | with_reducible refine below_new ?_ _ | with_reducible exact Below.refl _ _)) b4)
  replace HT : Hid (Three w4 w.heap.size (w.heap.size + 1) (w.heap.size + 1 + 1) (bdArr ⟨d, fs, st, ph, r, sv⟩ ⟨A1, n1, c1, A2, n2, c2, A3, n3, c3⟩) #[.int .i64 0, .int .i64 0, .int .i64 0, .int .i64 0, .slice none 0 0, .slice none 0 0, .int .i64 0, .int .i64 0, .int .i64 0, .int .i64 0, .int .i64 0, .slice none 0 0] #[.int .i64 d.W, .int .i64 d.H, .int .i64 d.T, .int .i64 d.R, .slice B1 n1 n1, .slice B2 n2 n2, .int .i64 ph, .int .i64 0, .int .i64 0, .int .i64 0, .int .i64 0, .slice none 0 0]) := Three.tr ((HT.out.set hg hg1 (.slice B2 n2 n2) rfl).set hg hg1 (.int .i64 ph) rfl) b4
  replace O2 := Lib.hid ((O2.out.chg (lo' := w.heap.size + 2) (hi' := w.heap.size + 3) (by repeat (first | with_reducible exact Chg.refl _ _ _ | with_reducible refine Chg.set ?_ (by omega) (by omega) _)) (by simp only [World.size_setCell]; omega)).below b4)
  replace O3 := Lib.hid ((O3.out.chg (lo' := w.heap.size + 2) (hi' := w.heap.size + 3) (by repeat (first | with_reducible exact Chg.refl _ _ _ | with_reducible refine Chg.set ?_ (by omega) (by omega) _)) lO3 (by omega)).below b4)
  clear x0 z0 u0 x1 z1 u1 x2 z2 u2 x3 z3 u3 x4 z4 u4 x5 z5 u5 x6 z6 u6 x7 z7 u7 x8 z8 u8 x9 z9 u9 x10 z10 u10 x11 z11 u11 y0 y1 y2
  obtain ⟨x0, x1, x2, x3, x4, x5, x6, x7, x8, x9, x10, x11⟩ := cells12 HT.out.1
  obtain ⟨z0, z1, z2, z3, z4, z5, z6, z7, z8, z9, z10, z11⟩ := cells12 HT.out.2.2
  obtain ⟨u0, u1, u2, u3, u4, u5, u6, u7, u8, u9, u10, u11⟩ := cells12 HT.out.2.1
  have y0 := fun k => frozen_heap HT.out.1 k
  have y1 := fun k => frozen_heap HT.out.2.1 k
  have y2 := fun k => frozen_heap HT.out.2.2 k
  clear b4
  go_wp2_with fail
  refine (toIntSS_any A3 n3 c3 sv _ (HI.out.saved.below (by repeat (first | with_reducible exact HB.out | with_reducible refine Below.setCell ?_ (by simp only; omega) _ | with_reducible refine below_new ?_ _ | with_reducible exact Below.refl _ _))) zv).mono ?_
  rintro e w5 ⟨B3, rfl, o3, b5⟩
  have hs5 := b5.size
  simp only [World.size_setCell] at hs5
  replace HB := Lib.hid (below_tr (a := w) (by repeat (first | with_reducible exact HB.out | with_reducible refine Below.setCell ?_ (by simp only; omega) _ | with_reducible refine below_new ?_ _ | with_reducible exact Below.refl _ _)) b5)
  replace HT : Hid (Three w5 w.heap.size (w.heap.size + 1) (w.heap.size + 1 + 1) (bdArr ⟨d, fs, st, ph, r, sv⟩ ⟨A1, n1, c1, A2, n2, c2, A3, n3, c3⟩) #[.int .i64 0, .int .i64 0, .int .i64 0, .int .i64 0, .slice none 0 0, .slice none 0 0, .int .i64 0, .int .i64 0, .int .i64 0, .int .i64 0, .int .i64 0, .slice none 0 0] #[.int .i64 d.W, .int .i64 d.H, .int .i64 d.T, .int .i64 d.R, .slice B1 n1 n1, .slice B2 n2 n2, .int .i64 ph, .int .i64 r.X0, .int .i64 r.Y0, .int .i64 r.X1, .int .i64 r.Y1, .slice none 0 0]) := Three.tr ((((HT.out.set hg hg1 (.int .i64 r.X0) rfl).set hg hg1 (.int .i64 r.Y0) rfl).set hg hg1 (.int .i64 r.X1) rfl).set hg hg1 (.int .i64 r.Y1) rfl) b5
  replace O2 := Lib.hid ((O2.out.chg (lo' := w.heap.size + 2) (hi' := w.heap.size + 3) (by repeat (first | with_reducible exact Chg.refl _ _ _ | with_reducible refine Chg.set ?_ (by omega) (by omega) _)) (by simp only [World.size_setCell]; omega)).below b5)
  replace O3 := Lib.hid ((O3.out.chg (lo' := w.heap.size + 2) (hi' := w.heap.size + 3) (by repeat (first | with_reducible exact Chg.refl _ _ _ | with_reducible refine Chg.set ?_ (by omega) (by omega) _)) lO3 (by omega)).below b5)
  have O5 := Lib.hid o3
  clear x0 z0 u0 x1 z1 u1 x2 z2 u2 x3 z3 u3 x4 z4 u4 x5 z5 u5 x6 z6 u6 x7 z7 u7 x8 z8 u8 x9 z9 u9 x10 z10 u10 x11 z11 u11 y0 y1 y2
  obtain ⟨x0, x1, x2, x3, x4, x5, x6, x7, x8, x9, x10, x11⟩ := cells12 HT.out.1
  obtain ⟨z0, z1, z2, z3, z4, z5, z6, z7, z8, z9, z10, z11⟩ := cells12 HT.out.2.2
  obtain ⟨u0, u1, u2, u3, u4, u5, u6, u7, u8, u9, u10, u11⟩ := cells12 HT.out.2.1
  have y0 := fun k => frozen_heap HT.out.1 k
  have y1 := fun k => frozen_heap HT.out.2.1 k
  have y2 := fun k => frozen_heap HT.out.2.2 k
  clear b5 o3
  go_wp2_with fail
  generalize hWF : World.setCell _ _ _ = WF
  have hb : WF.heap[w.heap.size + 1]? = some (.cells (bdArr ⟨d, fs, st, ph, r, sv⟩ ⟨B1, n1, n1, B2, n2, n2, B3, n3, n3⟩) 31 (0, 0)) := by
    rw [← hWF]
    exact set12 (heap_setFar HT.out.2.1 hg1 _)
  have hsz : WF.heap.size = w5.heap.size := by rw [← hWF]; simp only [World.size_setCell]
  have hB : Below w.heap.size w WF := by rw [← hWF]; repeat (first | with_reducible exact HB.out | with_reducible refine Below.setCell ?_ (by simp only; omega) _ | with_reducible refine below_new ?_ _ | with_reducible exact Below.refl _ _)
  have hC : Chg (w.heap.size + 1) (w.heap.size + 3) w5 WF := by rw [← hWF]; repeat (first | with_reducible exact Chg.refl _ _ _ | with_reducible refine Chg.set ?_ (by omega) (by omega) _)
  clear hWF x0 x1 x2 x3 x4 x5 x6 x7 x8 x9 x10 x11 z0 z1 z2 z3 z4 z5 z6 z7 z8 z9 z10 z11 u0 u1 u2 u3 u4 u5 u6 u7 u8 u9 u10 u11 y0 y1 y2
  refine bodyPost_ret (v := .agg (bdArr ⟨d, fs, st, ph, r, sv⟩ ⟨B1, n1, n1, B2, n2, n2, B3, n3, n3⟩)) (results_cell1 Try.results45 rfl hb Try.underlying31 (by kernel_rfl)) rfl ⟨⟨B1, n1, n1, B2, n2, n2, B3, n3, n3⟩, rfl, ?_, hB⟩
  have K2 := O2.out.chg hC (by simp only [World.size_setCell]; omega)
  have K3 := O3.out.chg hC lO3 (by omega)
  have K5 := O5.out.chg hC (by simp only [World.size_setCell]; omega)
  simp only [World.size_setCell] at K2 K3 K5
  exact boardAt_mk K2 K3 lO3 K5 (by omega)
end Go.Proofs.Ytclmhnghpnfnkaa
