/- Boards in cells: blocks of twelve cells; results that lie in a cell. -/
import Derived.Laws.Rows
import Derived.Test.YtndfaaebflhggaaBrd
import Derived.Test.YtndfaaebflhggaaDecW
import Derived.Test.YtndfaaebflhggaaEmpty
namespace Go.Proofs.Ytndfaaebflhggaa
set_option maxRecDepth 100000
open Go.RowKit

theorem cells12 {w : World} {g : Nat} {v0 v1 v2 v3 v4 v5 v6 v7 v8 v9 v10 v11 : Value} {t : TypeId} (h : w.heap[g]? = some (.cells #[v0, v1, v2, v3, v4, v5, v6, v7, v8, v9, v10, v11] t (0, 0))) : w.cell? ⟨g, 0, none⟩ = some v0 ∧ w.cell? ⟨g, 1, none⟩ = some v1 ∧ w.cell? ⟨g, 2, none⟩ = some v2 ∧ w.cell? ⟨g, 3, none⟩ = some v3 ∧ w.cell? ⟨g, 4, none⟩ = some v4 ∧ w.cell? ⟨g, 5, none⟩ = some v5 ∧ w.cell? ⟨g, 6, none⟩ = some v6 ∧ w.cell? ⟨g, 7, none⟩ = some v7 ∧ w.cell? ⟨g, 8, none⟩ = some v8 ∧ w.cell? ⟨g, 9, none⟩ = some v9 ∧ w.cell? ⟨g, 10, none⟩ = some v10 ∧ w.cell? ⟨g, 11, none⟩ = some v11 :=
  ⟨cell_heap h rfl, cell_heap h rfl, cell_heap h rfl, cell_heap h rfl, cell_heap h rfl, cell_heap h rfl, cell_heap h rfl, cell_heap h rfl, cell_heap h rfl, cell_heap h rfl, cell_heap h rfl, cell_heap h rfl⟩
theorem heap_setFar {w : World} {g : Nat} {o : Obj} (h : w.heap[g]? = some o) {p : Addr} (hp : g ≠ p.block) (v : Value) : (w.setCell p v).heap[g]? = some o := (Below.heap_setCell w p v g hp).trans h
theorem heap_setAt {w : World} {g k : Nat} {cs cs' : Array Value} {t : TypeId} (h : w.heap[g]? = some (.cells cs t (0, 0))) (v : Value) (e : cs.setIfInBounds k v = cs') : (w.setCell ⟨g, k, none⟩ v).heap[g]? = some (.cells cs' t (0, 0)) := by
  rw [← e]; exact Go.Joins.block_setCell h v
theorem Chg.set {lo hi g k : Nat} {w w' : World} (h : Chg lo hi w w') (h1 : lo ≤ g) (h2 : g < hi) (v : Value) : Chg lo hi w (w'.setCell ⟨g, k, none⟩ v) := by
  have b := (Below.refl g w').setCell (p := ⟨g, k, none⟩) (Nat.le_refl g) v
  exact ⟨b.os.trans h.os, b.tape.trans h.tape, b.output.trans h.output, Nat.le_trans h.size b.size, fun i hi' hn => (Below.heap_setCell w' ⟨g, k, none⟩ v i (by show i ≠ g; omega)).trans (h.block i hi' hn)⟩
/-- A board's box g0, the result's block g1, and the block g of the board that the call makes. -/
def Three (w : World) (g0 g1 g : Nat) (cs cs1 cs' : Array Value) : Prop := w.heap[g0]? = some (.cells cs 56 (0, 0)) ∧ w.heap[g1]? = some (.cells cs1 60 (0, 0)) ∧ w.heap[g]? = some (.cells cs' 60 (0, 0))
theorem Three.tr {w w' : World} {g0 g1 g : Nat} {cs cs1 cs' : Array Value} (h : Three w g0 g1 g cs cs1 cs') (hb : Below w.heap.size w w') : Three w' g0 g1 g cs cs1 cs' := ⟨heap_tr hb h.1, heap_tr hb h.2.1, heap_tr hb h.2.2⟩
theorem Three.set {w : World} {g0 g1 g k : Nat} {cs cs1 cs' cs2 : Array Value} (h : Three w g0 g1 g cs cs1 cs') (hn : g0 ≠ g) (hn1 : g1 ≠ g) (v : Value) (e : cs'.setIfInBounds k v = cs2) : Three (w.setCell ⟨g, k, none⟩ v) g0 g1 g cs cs1 cs2 := ⟨heap_setFar h.1 hn v, heap_setFar h.2.1 hn1 v, heap_setAt h.2.2 v e⟩
theorem results_cell1 {fn : Func} {p : Tmp} {ty t : TypeId} {tmps cs : Array Value} {P : Program} {w : World} {g : Nat} {fs : Array Field} (h : fn.results = #[.cell p ty]) (ht : tmps.getD p undef = .pointer (some ⟨g, 0, none⟩)) (hg : w.heap[g]? = some (.cells cs t (0, 0)))
    (hu : P.underlying ty = some (.struct fs)) (hi : (P.info? ty).map (·.size) = some cs.size) : (results fn tmps).run P w = .ok (.agg cs) w := by
  have hl : (loadVar ty ⟨g, 0, none⟩).run P w = .ok (.agg cs) w := run_loadVar_row w g t ty cs (0, 0) (.struct fs) hg hu rfl hi
  simp only [results, h]
  simp only [Array.getD_eq_getD_getElem?] at ht
  simp [ht, asAddr, hl]
theorem results_cell2 {fn : Func} {p u : Tmp} {ty t : TypeId} {tmps cs : Array Value} {P : Program} {w : World} {g : Nat} {fs : Array Field} (h : fn.results = #[.cell p ty, .tmp u]) (ht : tmps.getD p undef = .pointer (some ⟨g, 0, none⟩)) (hg : w.heap[g]? = some (.cells cs t (0, 0)))
    (hu : P.underlying ty = some (.struct fs)) (hi : (P.info? ty).map (·.size) = some cs.size) : (results fn tmps).run P w = .ok (.tuple #[.agg cs, tmps.getD u undef]) w := by
  have hl : (loadVar ty ⟨g, 0, none⟩).run P w = .ok (.agg cs) w := run_loadVar_row w g t ty cs (0, 0) (.struct fs) hg hu rfl hi
  simp only [results, h]
  simp only [Array.getD_eq_getD_getElem?] at ht
  simp [ht, asAddr, hl]
theorem boardAt_mk {lo hi l1 h1 l2 h2 l3 h3 : Nat} {w : World} {b : Bd} {s : Sl3} (k1 : Own2 l1 h1 w s.A1 s.n1 s.c1 b.frames) (k2 : Own l2 w s.A2 s.n2 s.c2 b.state) (l : Lies s.A2 l2 h2) (k3 : Own2 l3 h3 w s.A3 s.n3 s.c3 b.saved)
    (e0 : lo ≤ l1 ∧ l1 ≤ h1 ∧ h1 ≤ l2 ∧ l2 ≤ h2 ∧ h2 ≤ l3 ∧ l3 ≤ h3 ∧ h3 ≤ hi) : BoardAt lo hi w b s :=
  ⟨l1, h1, l2, h2, l3, h3, k1, k2, l, k3, .inl e0.2.2.1, .inl (by omega), .inl e0.2.2.2.2.1, ⟨e0.1, by omega⟩, ⟨by omega, by omega⟩, ⟨by omega, by omega⟩⟩
theorem set12 {w : World} {g : Nat} {v0 v1 v2 v3 v4 v5 v6 v7 v8 v9 v10 v11 u0 u1 u2 u3 u4 u5 u6 u7 u8 u9 u10 u11 : Value} {t : TypeId} (h : w.heap[g]? = some (.cells #[v0, v1, v2, v3, v4, v5, v6, v7, v8, v9, v10, v11] t (0, 0))) : ((((((((((((w.setCell ⟨g, 0, none⟩ u0).setCell ⟨g, 1, none⟩ u1).setCell ⟨g, 2, none⟩ u2).setCell ⟨g, 3, none⟩ u3).setCell ⟨g, 4, none⟩ u4).setCell ⟨g, 5, none⟩ u5).setCell ⟨g, 6, none⟩ u6).setCell ⟨g, 7, none⟩ u7).setCell ⟨g, 8, none⟩ u8).setCell ⟨g, 9, none⟩ u9).setCell ⟨g, 10, none⟩ u10).setCell ⟨g, 11, none⟩ u11).heap[g]? = some (.cells #[u0, u1, u2, u3, u4, u5, u6, u7, u8, u9, u10, u11] t (0, 0)) := by
  have h1 := heap_setAt (k := 0) (cs' := #[u0, v1, v2, v3, v4, v5, v6, v7, v8, v9, v10, v11]) h u0 rfl
  have h2 := heap_setAt (k := 1) (cs' := #[u0, u1, v2, v3, v4, v5, v6, v7, v8, v9, v10, v11]) h1 u1 rfl
  have h3 := heap_setAt (k := 2) (cs' := #[u0, u1, u2, v3, v4, v5, v6, v7, v8, v9, v10, v11]) h2 u2 rfl
  have h4 := heap_setAt (k := 3) (cs' := #[u0, u1, u2, u3, v4, v5, v6, v7, v8, v9, v10, v11]) h3 u3 rfl
  have h5 := heap_setAt (k := 4) (cs' := #[u0, u1, u2, u3, u4, v5, v6, v7, v8, v9, v10, v11]) h4 u4 rfl
  have h6 := heap_setAt (k := 5) (cs' := #[u0, u1, u2, u3, u4, u5, v6, v7, v8, v9, v10, v11]) h5 u5 rfl
  have h7 := heap_setAt (k := 6) (cs' := #[u0, u1, u2, u3, u4, u5, u6, v7, v8, v9, v10, v11]) h6 u6 rfl
  have h8 := heap_setAt (k := 7) (cs' := #[u0, u1, u2, u3, u4, u5, u6, u7, v8, v9, v10, v11]) h7 u7 rfl
  have h9 := heap_setAt (k := 8) (cs' := #[u0, u1, u2, u3, u4, u5, u6, u7, u8, v9, v10, v11]) h8 u8 rfl
  have h10 := heap_setAt (k := 9) (cs' := #[u0, u1, u2, u3, u4, u5, u6, u7, u8, u9, v10, v11]) h9 u9 rfl
  have h11 := heap_setAt (k := 10) (cs' := #[u0, u1, u2, u3, u4, u5, u6, u7, u8, u9, u10, v11]) h10 u10 rfl
  have h12 := heap_setAt (k := 11) (cs' := #[u0, u1, u2, u3, u4, u5, u6, u7, u8, u9, u10, u11]) h11 u11 rfl
  exact h12
end Go.Proofs.Ytndfaaebflhggaa
