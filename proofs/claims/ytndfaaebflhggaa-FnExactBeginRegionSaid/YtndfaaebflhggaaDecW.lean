/- The blocks of a tile that is being decoded: what they hold and how they change. Plain lemmas. -/
import Derived.Test.YtndfaaebflhggaaEmpty
namespace Go.Proofs.Ytndfaaebflhggaa
set_option maxRecDepth 100000
open Go.RowKit

/-- The first k numbers read, zeros behind them. -/
def numTo (ws : List Int) (p b N k : Nat) : List Int := ((List.range k).map fun i => getW ws (p + b * i) b) ++ List.replicate (N - k) 0
theorem numTo_zero (ws : List Int) (p b N : Nat) : numTo ws p b N 0 = List.replicate N 0 := by simp [numTo]
theorem numTo_length {ws : List Int} {p b N k : Nat} (h : k ≤ N) : (numTo ws p b N k).length = N := by simp [numTo]; omega
theorem numTo_set {ws : List Int} {p b N k : Nat} (h : k < N) : (numTo ws p b N k).set k (getW ws (p + b * k) b) = numTo ws p b N (k + 1) := by
  have e : N - k = (N - (k + 1)) + 1 := by omega
  have hl : ((List.range k).map fun i => getW ws (p + b * i) b).length = k := by simp
  rw [numTo, List.set_append, if_neg (by omega), hl, Nat.sub_self, e, List.replicate_succ, List.set_cons_zero, numTo, List.range_succ, List.map_append, List.append_assoc]
  rfl
theorem numTo_full (ws : List Int) (p b N : Nat) : numTo ws p b N N = (List.range N).map fun i => getW ws (p + b * i) b := by simp [numTo]

abbrev tileArr (gm gl M : Nat) (pad ram : Int) : Array Value := #[.slice (some ⟨gm, 0, none⟩) M M, .slice (some ⟨gl, 0, none⟩) 2 2, .int .i64 pad, .int .i64 ram]
abbrev lesArr (g0 g1 : Nat) (a0 b0 c0 a1 b1 c1 : Int) : Array Value := #[.slice (some ⟨g0, 0, none⟩) 4 4, .int .i64 a0, .int .i64 b0, .int .i64 c0, .slice (some ⟨g1, 0, none⟩) 4 4, .int .i64 a1, .int .i64 b1, .int .i64 c1]
/-- The numbers of the blocks: reader, result, tile, its lists. -/
structure Bk where
  g : Nat
  gr : Nat
  gc : Nat
  gm : Nat
  gl : Nat
  g0 : Nat
  g1 : Nat
/-- What is being made: the lists and numbers so far. -/
structure Tl where
  mux : List Int
  s0 : List Int
  s1 : List Int
  a0 : Int
  b0 : Int
  c0 : Int
  a1 : Int
  b1 : Int
  c1 : Int
  pad : Int
  ram : Int
structure Sep (k : Bk) (lo : Nat) : Prop where
  le : lo ≤ k.g ∧ lo ≤ k.gr ∧ lo ≤ k.gc ∧ lo ≤ k.gm ∧ lo ≤ k.gl ∧ lo ≤ k.g0 ∧ lo ≤ k.g1
  n1 : k.g ≠ k.gr ∧ k.g ≠ k.gc ∧ k.g ≠ k.gm ∧ k.g ≠ k.gl ∧ k.g ≠ k.g0 ∧ k.g ≠ k.g1
  n2 : k.gr ≠ k.gc ∧ k.gr ≠ k.gm ∧ k.gr ≠ k.gl ∧ k.gr ≠ k.g0 ∧ k.gr ≠ k.g1
  n3 : k.gc ≠ k.gm ∧ k.gc ≠ k.gl ∧ k.gc ≠ k.g0 ∧ k.gc ≠ k.g1
  n4 : k.gm ≠ k.gl ∧ k.gm ≠ k.g0 ∧ k.gm ≠ k.g1
  n5 : k.gl ≠ k.g0 ∧ k.gl ≠ k.g1 ∧ k.g0 ≠ k.g1
structure DW (w : World) (k : Bk) (A : Option Addr) (n c p M : Nat) (t : Tl) : Prop where
  r : Rdr w k.g A n c p
  res : w.heap[k.gr]? = some (.cells #[.slice none 0 0, .slice none 0 0, .int .i64 0, .int .i64 0] 52 (0, 0))
  tile : w.heap[k.gc]? = some (.cells (tileArr k.gm k.gl M t.pad t.ram) 52 (0, 0))
  mux : w.heap[k.gm]? = some (.cells (arr t.mux) 3 (0, 0))
  les : w.heap[k.gl]? = some (.cells (lesArr k.g0 k.g1 t.a0 t.b0 t.c0 t.a1 t.b1 t.c1) 106 (0, 0))
  s0 : w.heap[k.g0]? = some (.cells (arr t.s0) 3 (0, 0))
  s1 : w.heap[k.g1]? = some (.cells (arr t.s1) 3 (0, 0))
theorem grown_heap {w w' : World} {g k : Nat} {o : Obj} (hg : w.grownBy w' (some g)) (h : w.heap[k]? = some o) (hne : g ≠ k) : w'.heap[k]? = some o :=
  (hg.block k (heap_lt0 h) (by simpa using fun e => hne e.symm)).trans h
theorem DW.got {w w' : World} {k : Bk} {lo : Nat} {A : Option Addr} {n c p q M : Nat} {t : Tl} (h : DW w k A n c p M t) (hs : Sep k lo) (hr : Rdr w' k.g A n c q) (hg : w.grownBy w' (some k.g)) : DW w' k A n c q M t := by
  obtain ⟨h1, h2, h3, h4, h5, h6⟩ := hs.n1
  exact ⟨hr, grown_heap hg h.res h1, grown_heap hg h.tile h2, grown_heap hg h.mux h3, grown_heap hg h.les h4, grown_heap hg h.s0 h5, grown_heap hg h.s1 h6⟩
theorem DW.drew {w : World} {k : Bk} {A : Option Addr} {n c p M : Nat} {t : Tl} (h : DW w k A n c p M t) : DW w.drew k A n c p M t := ⟨h.r, h.res, h.tile, h.mux, h.les, h.s0, h.s1⟩
theorem DW.setMux {w : World} {k : Bk} {lo : Nat} {A : Option Addr} {n c p M : Nat} {t : Tl} (h : DW w k A n c p M t) (hs : Sep k lo) (j : Nat) (x : Int) : DW (w.setCell ⟨k.gm, j, none⟩ (.int .i64 x)) k A n c p M { t with mux := t.mux.set j x } := by
  obtain ⟨a1, a2, a3, a4, a5, a6⟩ := hs.n1
  obtain ⟨b1, b2, b3, b4, b5⟩ := hs.n2
  obtain ⟨c1, c2, c3, c4⟩ := hs.n3
  obtain ⟨d1, d2, d3⟩ := hs.n4
  exact ⟨heap_st _ h.r a3, heap_st _ h.res b2, heap_st _ h.tile c1, by rw [heap_set h.mux j, arr_set], heap_st _ h.les d1.symm, heap_st _ h.s0 d2.symm, heap_st _ h.s1 d3.symm⟩
theorem DW.setS0 {w : World} {k : Bk} {lo : Nat} {A : Option Addr} {n c p M : Nat} {t : Tl} (h : DW w k A n c p M t) (hs : Sep k lo) (j : Nat) (x : Int) : DW (w.setCell ⟨k.g0, j, none⟩ (.int .i64 x)) k A n c p M { t with s0 := t.s0.set j x } := by
  obtain ⟨a1, a2, a3, a4, a5, a6⟩ := hs.n1
  obtain ⟨b1, b2, b3, b4, b5⟩ := hs.n2
  obtain ⟨c1, c2, c3, c4⟩ := hs.n3
  obtain ⟨d1, d2, d3⟩ := hs.n4
  obtain ⟨e1, e2, e3⟩ := hs.n5
  exact ⟨heap_st _ h.r a5, heap_st _ h.res b4, heap_st _ h.tile c3, heap_st _ h.mux d2, heap_st _ h.les e1, by rw [heap_set h.s0 j, arr_set], heap_st _ h.s1 e3.symm⟩
theorem DW.setS1 {w : World} {k : Bk} {lo : Nat} {A : Option Addr} {n c p M : Nat} {t : Tl} (h : DW w k A n c p M t) (hs : Sep k lo) (j : Nat) (x : Int) : DW (w.setCell ⟨k.g1, j, none⟩ (.int .i64 x)) k A n c p M { t with s1 := t.s1.set j x } := by
  obtain ⟨a1, a2, a3, a4, a5, a6⟩ := hs.n1
  obtain ⟨b1, b2, b3, b4, b5⟩ := hs.n2
  obtain ⟨c1, c2, c3, c4⟩ := hs.n3
  obtain ⟨d1, d2, d3⟩ := hs.n4
  obtain ⟨e1, e2, e3⟩ := hs.n5
  exact ⟨heap_st _ h.r a6, heap_st _ h.res b5, heap_st _ h.tile c4, heap_st _ h.mux d3, heap_st _ h.les e2, heap_st _ h.s0 e3, by rw [heap_set h.s1 j, arr_set]⟩
theorem DW.setA0 {w : World} {k : Bk} {lo : Nat} {A : Option Addr} {n c p M : Nat} {t : Tl} (h : DW w k A n c p M t) (hs : Sep k lo) (x : Int) : DW (w.setCell ⟨k.gl, 1, none⟩ (.int .i64 x)) k A n c p M { t with a0 := x } := by
  obtain ⟨a1, a2, a3, a4, a5, a6⟩ := hs.n1
  obtain ⟨b1, b2, b3, b4, b5⟩ := hs.n2
  obtain ⟨c1, c2, c3, c4⟩ := hs.n3
  obtain ⟨d1, d2, d3⟩ := hs.n4
  obtain ⟨e1, e2, e3⟩ := hs.n5
  exact ⟨heap_st _ h.r a4, heap_st _ h.res b3, heap_st _ h.tile c2, heap_st _ h.mux d1, (heap_set h.les 1 _).trans rfl, heap_st _ h.s0 e1.symm, heap_st _ h.s1 e2.symm⟩
theorem DW.setB0 {w : World} {k : Bk} {lo : Nat} {A : Option Addr} {n c p M : Nat} {t : Tl} (h : DW w k A n c p M t) (hs : Sep k lo) (x : Int) : DW (w.setCell ⟨k.gl, 2, none⟩ (.int .i64 x)) k A n c p M { t with b0 := x } := by
  obtain ⟨a1, a2, a3, a4, a5, a6⟩ := hs.n1
  obtain ⟨b1, b2, b3, b4, b5⟩ := hs.n2
  obtain ⟨c1, c2, c3, c4⟩ := hs.n3
  obtain ⟨d1, d2, d3⟩ := hs.n4
  obtain ⟨e1, e2, e3⟩ := hs.n5
  exact ⟨heap_st _ h.r a4, heap_st _ h.res b3, heap_st _ h.tile c2, heap_st _ h.mux d1, (heap_set h.les 2 _).trans rfl, heap_st _ h.s0 e1.symm, heap_st _ h.s1 e2.symm⟩
theorem DW.setC0 {w : World} {k : Bk} {lo : Nat} {A : Option Addr} {n c p M : Nat} {t : Tl} (h : DW w k A n c p M t) (hs : Sep k lo) (x : Int) : DW (w.setCell ⟨k.gl, 3, none⟩ (.int .i64 x)) k A n c p M { t with c0 := x } := by
  obtain ⟨a1, a2, a3, a4, a5, a6⟩ := hs.n1
  obtain ⟨b1, b2, b3, b4, b5⟩ := hs.n2
  obtain ⟨c1, c2, c3, c4⟩ := hs.n3
  obtain ⟨d1, d2, d3⟩ := hs.n4
  obtain ⟨e1, e2, e3⟩ := hs.n5
  exact ⟨heap_st _ h.r a4, heap_st _ h.res b3, heap_st _ h.tile c2, heap_st _ h.mux d1, (heap_set h.les 3 _).trans rfl, heap_st _ h.s0 e1.symm, heap_st _ h.s1 e2.symm⟩
theorem DW.setA1 {w : World} {k : Bk} {lo : Nat} {A : Option Addr} {n c p M : Nat} {t : Tl} (h : DW w k A n c p M t) (hs : Sep k lo) (x : Int) : DW (w.setCell ⟨k.gl, 5, none⟩ (.int .i64 x)) k A n c p M { t with a1 := x } := by
  obtain ⟨a1, a2, a3, a4, a5, a6⟩ := hs.n1
  obtain ⟨b1, b2, b3, b4, b5⟩ := hs.n2
  obtain ⟨c1, c2, c3, c4⟩ := hs.n3
  obtain ⟨d1, d2, d3⟩ := hs.n4
  obtain ⟨e1, e2, e3⟩ := hs.n5
  exact ⟨heap_st _ h.r a4, heap_st _ h.res b3, heap_st _ h.tile c2, heap_st _ h.mux d1, (heap_set h.les 5 _).trans rfl, heap_st _ h.s0 e1.symm, heap_st _ h.s1 e2.symm⟩
theorem DW.setB1 {w : World} {k : Bk} {lo : Nat} {A : Option Addr} {n c p M : Nat} {t : Tl} (h : DW w k A n c p M t) (hs : Sep k lo) (x : Int) : DW (w.setCell ⟨k.gl, 6, none⟩ (.int .i64 x)) k A n c p M { t with b1 := x } := by
  obtain ⟨a1, a2, a3, a4, a5, a6⟩ := hs.n1
  obtain ⟨b1, b2, b3, b4, b5⟩ := hs.n2
  obtain ⟨c1, c2, c3, c4⟩ := hs.n3
  obtain ⟨d1, d2, d3⟩ := hs.n4
  obtain ⟨e1, e2, e3⟩ := hs.n5
  exact ⟨heap_st _ h.r a4, heap_st _ h.res b3, heap_st _ h.tile c2, heap_st _ h.mux d1, (heap_set h.les 6 _).trans rfl, heap_st _ h.s0 e1.symm, heap_st _ h.s1 e2.symm⟩
theorem DW.setC1 {w : World} {k : Bk} {lo : Nat} {A : Option Addr} {n c p M : Nat} {t : Tl} (h : DW w k A n c p M t) (hs : Sep k lo) (x : Int) : DW (w.setCell ⟨k.gl, 7, none⟩ (.int .i64 x)) k A n c p M { t with c1 := x } := by
  obtain ⟨a1, a2, a3, a4, a5, a6⟩ := hs.n1
  obtain ⟨b1, b2, b3, b4, b5⟩ := hs.n2
  obtain ⟨c1, c2, c3, c4⟩ := hs.n3
  obtain ⟨d1, d2, d3⟩ := hs.n4
  obtain ⟨e1, e2, e3⟩ := hs.n5
  exact ⟨heap_st _ h.r a4, heap_st _ h.res b3, heap_st _ h.tile c2, heap_st _ h.mux d1, (heap_set h.les 7 _).trans rfl, heap_st _ h.s0 e1.symm, heap_st _ h.s1 e2.symm⟩
theorem DW.setPad {w : World} {k : Bk} {lo : Nat} {A : Option Addr} {n c p M : Nat} {t : Tl} (h : DW w k A n c p M t) (hs : Sep k lo) (x : Int) : DW (w.setCell ⟨k.gc, 2, none⟩ (.int .i64 x)) k A n c p M { t with pad := x } := by
  obtain ⟨a1, a2, a3, a4, a5, a6⟩ := hs.n1
  obtain ⟨b1, b2, b3, b4, b5⟩ := hs.n2
  obtain ⟨c1, c2, c3, c4⟩ := hs.n3
  exact ⟨heap_st _ h.r a2, heap_st _ h.res b1, (heap_set h.tile 2 _).trans rfl, heap_st _ h.mux c1.symm, heap_st _ h.les c2.symm, heap_st _ h.s0 c3.symm, heap_st _ h.s1 c4.symm⟩
theorem DW.setRam {w : World} {k : Bk} {lo : Nat} {A : Option Addr} {n c p M : Nat} {t : Tl} (h : DW w k A n c p M t) (hs : Sep k lo) (x : Int) : DW (w.setCell ⟨k.gc, 3, none⟩ (.int .i64 x)) k A n c p M { t with ram := x } := by
  obtain ⟨a1, a2, a3, a4, a5, a6⟩ := hs.n1
  obtain ⟨b1, b2, b3, b4, b5⟩ := hs.n2
  obtain ⟨c1, c2, c3, c4⟩ := hs.n3
  exact ⟨heap_st _ h.r a2, heap_st _ h.res b1, (heap_set h.tile 3 _).trans rfl, heap_st _ h.mux c1.symm, heap_st _ h.les c2.symm, heap_st _ h.s0 c3.symm, heap_st _ h.s1 c4.symm⟩
theorem frozen_heap {w : World} {g : Nat} {cs : Array Value} {t : TypeId} (h : w.heap[g]? = some (.cells cs t (0, 0))) (k : Nat) : w.frozen? ⟨g, k, none⟩ = false := by unfold World.frozen?; rw [h]; simp
theorem rdr_drew {w : World} {g : Nat} {A : Option Addr} {n c p : Nat} (h : Rdr w g A n c p) : Rdr w.drew g A n c p := h
structure DT (w : World) (k : Bk) (t : Tl) : Prop where
  mux : w.heap[k.gm]? = some (.cells (arr t.mux) 3 (0, 0))
  les : w.heap[k.gl]? = some (.cells (lesArr k.g0 k.g1 t.a0 t.b0 t.c0 t.a1 t.b1 t.c1) 106 (0, 0))
  s0 : w.heap[k.g0]? = some (.cells (arr t.s0) 3 (0, 0))
  s1 : w.heap[k.g1]? = some (.cells (arr t.s1) 3 (0, 0))
theorem DW.dt {w : World} {k : Bk} {A : Option Addr} {n c p M : Nat} {t : Tl} (h : DW w k A n c p M t) : DT w k t := ⟨h.mux, h.les, h.s0, h.s1⟩
theorem DT.setR {w : World} {k : Bk} {lo : Nat} {t : Tl} (h : DT w k t) (hs : Sep k lo) (j : Nat) (v : Value) : DT (w.setCell ⟨k.gr, j, none⟩ v) k t := by
  obtain ⟨b1, b2, b3, b4, b5⟩ := hs.n2
  exact ⟨heap_st _ h.mux b2.symm, heap_st _ h.les b3.symm, heap_st _ h.s0 b4.symm, heap_st _ h.s1 b5.symm⟩
/-- A finished tile: what the call owns. -/
theorem DT.done {w : World} {k : Bk} {lo M : Nat} {t : Tl} (h : DT w k t) (hs : Sep k lo) (hm : t.mux.length = M) (hM : M ≤ maxLen) (h0 : t.s0.length = 4) (h1 : t.s1.length = 4) :
    OwnsL lo w.heap.size w (Tile.cells ⟨t.mux, [⟨t.s0, t.a0, t.b0, t.c0⟩, ⟨t.s1, t.a1, t.b1, t.c1⟩], t.pad, t.ram⟩) (tileArr k.gm k.gl M t.pad t.ram).toList := by
  obtain ⟨l1, l2, l3, l4, l5, l6, l7⟩ := hs.le
  obtain ⟨d1, d2, d3⟩ := hs.n4
  obtain ⟨e1, e2, e3⟩ := hs.n5
  have om : OwnC w (celI t.mux) (.slice (some ⟨k.gm, 0, none⟩) M M) [k.gm] := ownC_ints.2 ⟨Own.arr h.mux (Nat.zero_le _) hM hm, rfl⟩
  have o0 : OwnC w (celI t.s0) (.slice (some ⟨k.g0, 0, none⟩) 4 4) [k.g0] := ownC_ints.2 ⟨Own.arr h.s0 (Nat.zero_le _) (by unfold maxLen; omega) h0, rfl⟩
  have o1 : OwnC w (celI t.s1) (.slice (some ⟨k.g1, 0, none⟩) 4 4) [k.g1] := ownC_ints.2 ⟨Own.arr h.s1 (Nat.zero_le _) (by unfold maxLen; omega) h1, rfl⟩
  have ci : ∀ x : Int, OwnC w (.int x) (.int .i64 x) [] := fun x => ownC_int.2 ⟨rfl, rfl⟩
  have ol : OwnC w (celE [⟨t.s0, t.a0, t.b0, t.c0⟩, ⟨t.s1, t.a1, t.b1, t.c1⟩]) (.slice (some ⟨k.gl, 0, none⟩) 2 2) [k.gl, k.g0, k.g1] := by
    unfold celE
    rw [ownC_row]
    refine ⟨_, 2, 2, (lesArr k.g0 k.g1 t.a0 t.b0 t.c0 t.a1 t.b1 t.c1).toList, [k.g0, k.g1], rfl, ⟨rfl, .inr ⟨k.gl, 2, _, rfl, Nat.zero_le _, h.les, Nat.le_refl _, by unfold maxLen; omega, rfl, rfl⟩⟩, rfl, ?_⟩
    show OwnL w [celI t.s0, .int t.a0, .int t.b0, .int t.c0, celI t.s1, .int t.a1, .int t.b1, .int t.c1] _ _
    simp only [ownL_cons, ownL_nil]
    exact ⟨_, _, [k.g0], [k.g1], rfl, rfl, o0, _, _, [], [k.g1], rfl, rfl, ci _, _, _, [], [k.g1], rfl, rfl, ci _, _, _, [], [k.g1], rfl, rfl, ci _, _, _, [k.g1], [], rfl, rfl, o1, _, _, [], [], rfl, rfl, ci _, _, _, [], [], rfl, rfl, ci _, _, _, [], [], rfl, rfl, ci _, rfl, rfl⟩
  refine ⟨[k.gm, k.gl, k.g0, k.g1], ?_, by simp [d1, d2, d3, e1, e2, e3], fun x hx => ?_⟩
  · show OwnL w [celI t.mux, celE _, .int t.pad, .int t.ram] _ _
    simp only [ownL_cons, ownL_nil]
    exact ⟨_, _, [k.gm], [k.gl, k.g0, k.g1], rfl, rfl, om, _, _, [k.gl, k.g0, k.g1], [], rfl, rfl, ol, _, _, [], [], rfl, rfl, ci _, _, _, [], [], rfl, rfl, ci _, rfl, rfl⟩
  · have q1 := heap_lt0 h.mux
    have q2 := heap_lt0 h.les
    have q3 := heap_lt0 h.s0
    have q4 := heap_lt0 h.s1
    simp only [List.mem_cons, List.not_mem_nil, or_false] at hx
    omega
end Go.Proofs.Ytndfaaebflhggaa
