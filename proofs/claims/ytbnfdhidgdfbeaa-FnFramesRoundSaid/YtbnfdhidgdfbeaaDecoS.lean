/- The empty configuration of a tile, of the reference. DecodeTile of the reference makes the configuration that valid words encode. -/
import Derived.Test.YtbnfdhidgdfbeaaDeco
import Derived.Test.YtbnfdhidgdfbeaaEmpty
namespace Go.Proofs.Ytbnfdhidgdfbeaa
set_option maxRecDepth 100000
open Go.RowKit
set_option maxHeartbeats 8000000 in
theorem semptyTile_any (d : Dev) (w : World) (hd : devOk d = true) :
    Calls Try.prog 138 #[.agg #[.int .i64 d.W, .int .i64 d.H, .int .i64 d.T, .int .i64 d.R]] w (EmptyPost w (muxN d)) := by
  obtain ⟨hm, hm1, hm2, _⟩ := muxN_bd hd
  have HD := Lib.hid hd
  obtain ⟨i0, hi, hz0, hz1, hz2⟩ := info_parts int_info
  have hmk := fun W => run_make_rowN (P := Try.prog) 44 3 i0 _ Try.underlying44 hi hz0 .i64 .i64 (muxN d) (muxN d) (Nat.le_refl _) (by rw [hz2]; omega) (by omega) W
  have hmk4 : ∀ W : World, (Instr.makeSlice 44 (.int .i64 4) (.int .i64 4)).run Try.prog W = .ok (.slice (some ⟨W.heap.size, 0, none⟩) 4 4) (W.alloc (.cells (madeCells (Value.int .i64 0).cells (4 * i0.size)) 3)) := fun W => run_make_rowN (P := Try.prog) 44 3 i0 _ Try.underlying44 hi hz0 .i64 .i64 4 4 (Nat.le_refl _) (by rw [hz2]; omega) (by omega) W
  rw [hz1, Nat.mul_one, show (Value.int .i64 0).cells = #[Value.int .i64 0] from rfl, arr_made] at hmk hmk4
  clear hi hz0 hz1 hz2
  generalize hMM : muxN d = M at *
  have HMM := Lib.hid hMM
  have hmc : ∀ w, Calls Try.prog 122 #[.agg #[.int .i64 d.W, .int .i64 d.H, .int .i64 d.T, .int .i64 d.R]] w fun e w' => e = .returned (.int .i64 (M : Int)) ∧ Below w.heap.size w w' := fun w => by rw [← HMM.out]; exact smuxCount_n d w HD.out
  have HMC := Lib.hid hmc
  clear hd hm hMM hmc
  go_enter Try.func138, Try.ntmps138
  go_wp2_with fail
  refine (sdeviceOk_any d _).mono ?_
  rintro e w1 ⟨rfl, b1⟩
  have hS := keep_init b1
  have hX1 := Lib.hid (box_init b1)
  rw [HD.out]
  go_wp2_with fail
  clear b1
  obtain ⟨hB, c0, c1, c2, c3, e0, e1, e2, e3, f0, f1, f2, f3, hl⟩ := hS
  obtain ⟨p1, p2, p3, p4, p5, p6⟩ := apart4 (a := w.heap.size) (b := w1.heap.size) (by omega)
  have hq1 : w.heap.size + 1 < w1.heap.size := p1
  have HH := Lib.hid (show Below w.heap.size w w1 ∧ w1.cell? ⟨w.heap.size, 0, none⟩ = some (.int .i64 d.W) ∧ w1.cell? ⟨w.heap.size, 1, none⟩ = some (.int .i64 d.H) ∧ w1.cell? ⟨w.heap.size, 2, none⟩ = some (.int .i64 d.T) ∧ w1.cell? ⟨w.heap.size, 3, none⟩ = some (.int .i64 d.R) ∧ w1.cell? ⟨w.heap.size + 1, 0, none⟩ = some (.slice none 0 0) ∧ w1.cell? ⟨w.heap.size + 1, 1, none⟩ = some (.slice none 0 0) ∧ w1.cell? ⟨w.heap.size + 1, 2, none⟩ = some (.int .i64 0) ∧ w1.cell? ⟨w.heap.size + 1, 3, none⟩ = some (.int .i64 0) ∧ w1.frozen? ⟨w.heap.size + 1, 0, none⟩ = false ∧ w1.frozen? ⟨w.heap.size + 1, 1, none⟩ = false ∧ w1.frozen? ⟨w.heap.size + 1, 2, none⟩ = false ∧ w1.frozen? ⟨w.heap.size + 1, 3, none⟩ = false ∧ w.heap.size + 1 < w1.heap.size from ⟨hB, c0, c1, c2, c3, e0, e1, e2, e3, f0, f1, f2, f3, hl⟩)
  clear hl hB hm1 hm2
  have H4 : w1.cell? ⟨w.heap.size, 0, none⟩ = some (.int .i64 d.W) ∧ w1.cell? ⟨w.heap.size, 1, none⟩ = some (.int .i64 d.H) ∧ w1.cell? ⟨w.heap.size, 2, none⟩ = some (.int .i64 d.T) ∧ w1.cell? ⟨w.heap.size, 3, none⟩ = some (.int .i64 d.R) := ⟨c0, c1, c2, c3⟩
  clear c0 c1 c2 c3
  go_cut [] (fun wx => CutE w.heap.size M w wx)
  case first =>
    go_region_held3 (fun w' => w'.cell? ⟨w.heap.size, 0, none⟩ = some (.int .i64 d.W) ∧ w'.cell? ⟨w.heap.size, 1, none⟩ = some (.int .i64 d.H) ∧ w'.cell? ⟨w.heap.size, 2, none⟩ = some (.int .i64 d.T) ∧ w'.cell? ⟨w.heap.size, 3, none⟩ = some (.int .i64 d.R))
      (first
        | with_reducible exact k4_drew H4
        | with_reducible exact k4_drew (k4_al _ H4)
        | with_reducible exact k4_drew (k4_al _ (k4_al _ H4))
        | with_reducible exact k4_drew (k4_al _ (k4_al _ (k4_al _ H4)))
        | with_reducible exact k4_drew (k4_al _ (k4_al _ (k4_al _ (k4_al _ H4))))
        | with_reducible exact (k4_sets H4)
        | with_reducible exact (k4_al _ (k4_sets H4))
        | with_reducible exact (k4_al _ (k4_al _ (k4_sets H4)))
        | with_reducible exact (k4_al _ (k4_al _ (k4_al _ (k4_sets H4))))
        | with_reducible exact (k4_al _ (k4_al _ (k4_al _ (k4_al _ (k4_sets H4)))))
        | with_reducible exact H4
        | with_reducible exact (k4_al _ H4)
        | with_reducible exact (k4_al _ (k4_al _ H4))
        | with_reducible exact (k4_al _ (k4_al _ (k4_al _ H4)))
        | with_reducible exact (k4_al _ (k4_al _ (k4_al _ (k4_al _ H4)))))
      (first
        | (go_at_call 122; (with_reducible refine (HMC.out _).mono ?_); rintro e w2 ⟨rfl, b2⟩; (first | (with_reducible have hS2 := keep_call b2 HH.out) | (with_reducible have hS2 := keep_call b2 (keep_al _ HH.out)) | (with_reducible have hS2 := keep_call b2 (keep_al _ (keep_al _ HH.out))) | (with_reducible have hS2 := keep_call b2 (keep_al _ (keep_al _ (keep_al _ HH.out))))); have hz2 := b2.size; (try simp only [World.size_alloc, size_drew4] at hz2); have hb2 := Lib.hid b2; have hX2 := Lib.hid (heap_tr b2 (heap_dr (by first | exact hX1.out | exact heap_al _ hX1.out | exact heap_al _ (heap_al _ hX1.out) | exact heap_al _ (heap_al _ (heap_al _ hX1.out))))); clear b2 H4 HH e0 e1 e2 e3 f0 f1 f2 f3 p1 p2 p3 p4 p5 p6; have HH := Lib.hid hS2; obtain ⟨hB, c0, c1, c2, c3, e0, e1, e2, e3, f0, f1, f2, f3, hl⟩ := hS2; obtain ⟨p1, p2, p3, p4, p5, p6⟩ := apart4 (a := w.heap.size) (b := w2.heap.size) (by omega); clear hl hB; have H4 : w2.cell? ⟨w.heap.size, 0, none⟩ = some (.int .i64 d.W) ∧ w2.cell? ⟨w.heap.size, 1, none⟩ = some (.int .i64 d.H) ∧ w2.cell? ⟨w.heap.size, 2, none⟩ = some (.int .i64 d.T) ∧ w2.cell? ⟨w.heap.size, 3, none⟩ = some (.int .i64 d.R) := ⟨c0, c1, c2, c3⟩; clear c0 c1 c2 c3))
    all_goals
      go_wp2_with fail
      go_meet
      clear e0 e1 e2 e3 f0 f1 f2 f3
      refine cutE_mk (by with_reducible first | exact (box_sets hX2.out) | exact (heap_al _ (box_sets hX2.out)) | exact (heap_al _ (heap_al _ (box_sets hX2.out))) | exact (heap_al _ (heap_al _ (heap_al _ (box_sets hX2.out)))) | exact (heap_al _ (heap_al _ (heap_al _ (heap_al _ (box_sets hX2.out)))))) (by repeat (first | (with_reducible refine heap_newAt ?_; (simp only [World.size_alloc, size_set4]); done) | with_reducible refine heap_al _ ?_ | with_reducible refine heap_st _ ?_ (by simp only; omega) | with_reducible refine heap_tr hb2.out ?_ | with_reducible refine heap_dr ?_)) ?_ ?_ ?_ ?_ ?_ ?_
      · repeat (first
          | (with_reducible refine heap_newAt ?_; (simp only [World.size_alloc, size_set4]); done)
          | with_reducible refine heap_al _ ?_
          | with_reducible refine heap_st _ ?_ (by simp only; omega)
          | with_reducible refine heap_tr hb2.out ?_
          | with_reducible refine heap_dr ?_)
      · repeat (first
          | (with_reducible refine heap_newAt ?_; (simp only [World.size_alloc, size_set4]); done)
          | with_reducible refine heap_al _ ?_
          | with_reducible refine heap_st _ ?_ (by simp only; omega)
          | with_reducible refine heap_tr hb2.out ?_
          | with_reducible refine heap_dr ?_)
      · repeat (first
          | (with_reducible refine heap_newAt ?_; (simp only [World.size_alloc, size_set4]); done)
          | with_reducible refine heap_al _ ?_
          | with_reducible refine heap_st _ ?_ (by simp only; omega)
          | with_reducible refine heap_tr hb2.out ?_
          | with_reducible refine heap_dr ?_)
      all_goals first | omega | (with_reducible first | exact (post4 HH.out.1) | exact (below_new (post4 HH.out.1) _) | exact (below_new (below_new (post4 HH.out.1) _) _) | exact (below_new (below_new (below_new (post4 HH.out.1) _) _) _) | exact (below_new (below_new (below_new (below_new (post4 HH.out.1) _) _) _) _) | exact ((post4 HH.out.1)).drew | exact ((below_new (post4 HH.out.1) _)).drew | exact ((below_new (below_new (post4 HH.out.1) _) _)).drew | exact ((below_new (below_new (below_new (post4 HH.out.1) _) _) _)).drew | exact ((below_new (below_new (below_new (below_new (post4 HH.out.1) _) _) _) _)).drew)
  case rest =>
    clear e0 e1 e2 e3 f0 f1 f2 f3 p1 p2 p3 p4 p5 p6 H4
    obtain ⟨gm, gl, g0, g1, hx, ⟨k1, k2, k3, k4⟩, ⟨l1, l2, l3, l4⟩, ⟨n1, n2, n3, n4, n5, n6⟩, hbw⟩ := hcut
    have d0 := cell_heap hx (k := 0) rfl
    have d1 := cell_heap hx (k := 1) rfl
    have d2 := cell_heap hx (k := 2) rfl
    have d3 := cell_heap hx (k := 3) rfl
    have HP := Lib.hid (tile_nodes hbw ⟨l1, l2, l3, l4⟩ ⟨n1, n2, n3, n4, n5, n6⟩ k1 k2 k3 k4)
    clear hx k1 k2 k3 k4 hbw hmk hmk4
    go_wp2_with fail
    exact bodyPost_ret (v := .agg #[.slice (some ⟨gm, 0, none⟩) M M, .slice (some ⟨gl, 0, none⟩) 2 2, .int .i64 0, .int .i64 0]) (by simp [results, Try.results138, go_sem, d0, d1, d2, d3]) rfl HP.out
end Go.Proofs.Ytbnfdhidgdfbeaa

namespace Go.Proofs.Ytbnfdhidgdfbeaa
set_option maxRecDepth 100000
open Go.RowKit

/-- The blocks below S0 that the reference's DecodeTile works on. -/
structure DS (w : World) (gr gc gm gl M : Nat) (mux : List Int) (lv : Array Value) (pad ram : Int) : Prop where
  res : w.heap[gr]? = some (.cells #[.slice none 0 0, .slice none 0 0, .int .i64 0, .int .i64 0] 52 (0, 0))
  tile : w.heap[gc]? = some (.cells (tileArr gm gl M pad ram) 52 (0, 0))
  mux : w.heap[gm]? = some (.cells (arr mux) 3 (0, 0))
  les : w.heap[gl]? = some (.cells lv 107 (0, 0))
structure Sep4 (lo S gr gc gm gl : Nat) : Prop where
  le : lo ≤ gr ∧ lo ≤ gc ∧ lo ≤ gm ∧ lo ≤ gl
  lt : gr < S ∧ gc < S ∧ gm < S ∧ gl < S
  ne : gr ≠ gc ∧ gr ≠ gm ∧ gr ≠ gl ∧ gc ≠ gm ∧ gc ≠ gl ∧ gm ≠ gl
theorem DS.keep {w w' : World} {lo S gr gc gm gl M : Nat} {mux : List Int} {lv : Array Value} {pad ram : Int} (h : DS w gr gc gm gl M mux lv pad ram) (hs : Sep4 lo S gr gc gm gl) (hk : ∀ k, k < S → w'.heap[k]? = w.heap[k]?) : DS w' gr gc gm gl M mux lv pad ram :=
  ⟨(hk _ hs.lt.1).trans h.res, (hk _ hs.lt.2.1).trans h.tile, (hk _ hs.lt.2.2.1).trans h.mux, (hk _ hs.lt.2.2.2).trans h.les⟩
theorem DS.far {w : World} {lo S gr gc gm gl M : Nat} {mux : List Int} {lv : Array Value} {pad ram : Int} (h : DS w gr gc gm gl M mux lv pad ram) (hs : Sep4 lo S gr gc gm gl) {p : Addr} (hp : S ≤ p.block) (v : Value) : DS (w.setCell p v) gr gc gm gl M mux lv pad ram :=
  h.keep hs fun k hk => Below.heap_setCell _ _ _ _ (by omega)
theorem DS.setMux {w : World} {lo S gr gc gm gl M : Nat} {mux : List Int} {lv : Array Value} {pad ram : Int} (h : DS w gr gc gm gl M mux lv pad ram) (hs : Sep4 lo S gr gc gm gl) (j : Nat) (x : Int) : DS (w.setCell ⟨gm, j, none⟩ (.int .i64 x)) gr gc gm gl M (mux.set j x) lv pad ram := by
  obtain ⟨n1, n2, n3, n4, n5, n6⟩ := hs.ne
  exact ⟨heap_st _ h.res n2, heap_st _ h.tile n4, by rw [heap_set h.mux j, arr_set], heap_st _ h.les n6.symm⟩
theorem DS.setLe {w : World} {lo S gr gc gm gl M : Nat} {mux : List Int} {lv : Array Value} {pad ram : Int} (h : DS w gr gc gm gl M mux lv pad ram) (hs : Sep4 lo S gr gc gm gl) (j : Nat) (v : Value) : DS (w.setCell ⟨gl, j, none⟩ v) gr gc gm gl M mux (lv.setIfInBounds j v) pad ram := by
  obtain ⟨n1, n2, n3, n4, n5, n6⟩ := hs.ne
  exact ⟨heap_st _ h.res n3, heap_st _ h.tile n5, heap_st _ h.mux n6, heap_set h.les j _⟩
theorem DS.setPad {w : World} {lo S gr gc gm gl M : Nat} {mux : List Int} {lv : Array Value} {pad ram : Int} (h : DS w gr gc gm gl M mux lv pad ram) (hs : Sep4 lo S gr gc gm gl) (x : Int) : DS (w.setCell ⟨gc, 2, none⟩ (.int .i64 x)) gr gc gm gl M mux lv x ram := by
  obtain ⟨n1, n2, n3, n4, n5, n6⟩ := hs.ne
  exact ⟨heap_st _ h.res n1, (heap_set h.tile 2 _).trans rfl, heap_st _ h.mux n4.symm, heap_st _ h.les n5.symm⟩
theorem DS.setRam {w : World} {lo S gr gc gm gl M : Nat} {mux : List Int} {lv : Array Value} {pad ram : Int} (h : DS w gr gc gm gl M mux lv pad ram) (hs : Sep4 lo S gr gc gm gl) (x : Int) : DS (w.setCell ⟨gc, 3, none⟩ (.int .i64 x)) gr gc gm gl M mux lv pad x := by
  obtain ⟨n1, n2, n3, n4, n5, n6⟩ := hs.ne
  exact ⟨heap_st _ h.res n1, (heap_set h.tile 3 _).trans rfl, heap_st _ h.mux n4.symm, heap_st _ h.les n5.symm⟩
/-- The array of logic elements after e of them, and the rows that they own. -/
def LesAt (ws : List Int) (M S : Nat) (w : World) (lv : Array Value) : Nat → Prop
  | 0 => ∃ g0 g1, lv = zles g0 g1
  | 1 => ∃ A0 c0 g1, lv = #[.slice A0 4 c0, .int .i64 (getW ws (5 * M + 12) 16), .int .i64 (getW ws (5 * M + 28) 1), .int .i64 (getW ws (5 * M + 29) 1), .slice (some ⟨g1, 0, none⟩) 4 4, .int .i64 0, .int .i64 0, .int .i64 0] ∧ Own S w A0 4 c0 (numTo ws (5 * M) 3 4 4)
  | _ => ∃ A0 c0 A1 c1 h, lv = #[.slice A0 4 c0, .int .i64 (getW ws (5 * M + 12) 16), .int .i64 (getW ws (5 * M + 28) 1), .int .i64 (getW ws (5 * M + 29) 1), .slice A1 4 c1, .int .i64 (getW ws (5 * M + 42) 16), .int .i64 (getW ws (5 * M + 58) 1), .int .i64 (getW ws (5 * M + 59) 1)] ∧ Own S w A0 4 c0 (numTo ws (5 * M) 3 4 4) ∧ (∀ a, A0 = some a → a.block < h) ∧ S ≤ h ∧ Own h w A1 4 c1 (numTo ws (5 * M + 30) 3 4 4)
theorem Own.far {base : Nat} {w : World} {A : Option Addr} {n c : Nat} {xs : List Int} (h : Own base w A n c xs) {p : Addr} (hp : p.block < base) (v : Value) : Own base (w.setCell p v) A n c xs :=
  ownsRow_block h fun a ha => Below.heap_setCell _ _ _ _ (by have := (h.lt a ha).1; omega)
theorem LesAt.far {ws : List Int} {M S : Nat} {w : World} {lv : Array Value} : ∀ {e : Nat}, LesAt ws M S w lv e → ∀ {p : Addr}, p.block < S → ∀ v : Value, LesAt ws M S (w.setCell p v) lv e
  | 0, h, p, hp, v => h
  | 1, ⟨A0, c0, g1, e, o⟩, p, hp, v => ⟨A0, c0, g1, e, o.far hp v⟩
  | _ + 2, ⟨A0, c0, A1, c1, h, e, o, hl, hS, o1⟩, p, hp, v => ⟨A0, c0, A1, c1, h, e, o.far hp v, hl, hS, o1.far (by omega) v⟩
theorem numTo_snoc (ws : List Int) (p b k : Nat) : ((List.range (k + 1)).map fun i => getW ws (p + b * i) b) = ((List.range k).map fun i => getW ws (p + b * i) b) ++ [getW ws (p + b * k) b] := by rw [List.range_succ, List.map_append]; rfl
def numsTo (ws : List Int) (p b k : Nat) : List Int := (List.range k).map fun i => getW ws (p + b * i) b
theorem numsTo_succ (ws : List Int) (p b k : Nat) : numsTo ws p b (k + 1) = numsTo ws p b k ++ [getW ws (p + b * k) b] := numTo_snoc ws p b k
def TilePost2 (w : World) (t : Tile) (e : Ending) (w' : World) : Prop := ∃ v, e = .returned (.tuple #[v, .bool true]) ∧ TileAt w.heap.size w'.heap.size w' t v ∧ Below w.heap.size w w'

theorem Own.off {base : Nat} {w : World} {A : Option Addr} {n c : Nat} {xs : List Int} (h : Own base w A n c xs) {p : Addr} (hp : ∀ a, A = some a → a.block ≠ p.block) (v : Value) : Own base (w.setCell p v) A n c xs :=
  ownsRow_block h fun a ha => Below.heap_setCell _ _ _ _ (hp a ha)
theorem numsTo_four (ws : List Int) (p b : Nat) : numsTo ws p b 4 = numTo ws p b 4 4 := by rw [numTo_full]; rfl
theorem DS.done {w : World} {lo S gr gc gm gl M : Nat} {mux : List Int} {lv : Array Value} {pad ram : Int} {ws : List Int} (hmux : w.heap[gm]? = some (.cells (arr mux) 3 (0, 0))) (hles : w.heap[gl]? = some (.cells lv 107 (0, 0))) (hs : Sep4 lo S gr gc gm gl) (hl : LesAt ws M S w lv 2) (_hlS : lo ≤ S) (hm : mux.length = M) (hM : M ≤ maxLen) :
    OwnsL lo w.heap.size w (Tile.cells ⟨mux, [⟨numTo ws (5 * M) 3 4 4, getW ws (5 * M + 12) 16, getW ws (5 * M + 28) 1, getW ws (5 * M + 29) 1⟩, ⟨numTo ws (5 * M + 30) 3 4 4, getW ws (5 * M + 42) 16, getW ws (5 * M + 58) 1, getW ws (5 * M + 59) 1⟩], pad, ram⟩) (tileArr gm gl M pad ram).toList := by
  obtain ⟨A0, c0, A1, c1, hh, rfl, o0, hb0, hS, o1⟩ := hl
  obtain ⟨g0, cur0, rfl, a1, a2, _⟩ := o0.block (by omega)
  obtain ⟨g1, cur1, rfl, a3, a4, _⟩ := o1.block (by omega)
  have a5 := hb0 _ rfl
  simp only at a5
  obtain ⟨l1, l2, l3, l4⟩ := hs.le
  obtain ⟨q1, q2, q3, q4⟩ := hs.lt
  obtain ⟨n1, n2, n3, n4, n5, n6⟩ := hs.ne
  have om : OwnC w (celI mux) (.slice (some ⟨gm, 0, none⟩) M M) [gm] := ownC_ints.2 ⟨Own.arr hmux (Nat.zero_le _) hM hm, rfl⟩
  have p0 : OwnC w (celI (numTo ws (5 * M) 3 4 4)) (.slice (some ⟨g0, 0, none⟩) 4 c0) [g0] := ownC_ints.2 ⟨o0.more (Nat.zero_le _), rfl⟩
  have p1 : OwnC w (celI (numTo ws (5 * M + 30) 3 4 4)) (.slice (some ⟨g1, 0, none⟩) 4 c1) [g1] := ownC_ints.2 ⟨o1.more (Nat.zero_le _), rfl⟩
  have ci : ∀ x : Int, OwnC w (.int x) (.int .i64 x) [] := fun x => ownC_int.2 ⟨rfl, rfl⟩
  have ol : OwnC w (celE [⟨numTo ws (5 * M) 3 4 4, getW ws (5 * M + 12) 16, getW ws (5 * M + 28) 1, getW ws (5 * M + 29) 1⟩, ⟨numTo ws (5 * M + 30) 3 4 4, getW ws (5 * M + 42) 16, getW ws (5 * M + 58) 1, getW ws (5 * M + 59) 1⟩]) (.slice (some ⟨gl, 0, none⟩) 2 2) [gl, g0, g1] := by
    unfold celE
    rw [ownC_row]
    refine ⟨_, 2, 2, _, [g0, g1], rfl, ⟨rfl, .inr ⟨gl, 2, _, rfl, Nat.zero_le _, hles, Nat.le_refl _, by unfold maxLen; omega, rfl, rfl⟩⟩, rfl, ?_⟩
    show OwnL w [celI (numTo ws (5 * M) 3 4 4), .int (getW ws (5 * M + 12) 16), .int (getW ws (5 * M + 28) 1), .int (getW ws (5 * M + 29) 1), celI (numTo ws (5 * M + 30) 3 4 4), .int (getW ws (5 * M + 42) 16), .int (getW ws (5 * M + 58) 1), .int (getW ws (5 * M + 59) 1)] _ _
    simp only [ownL_cons, ownL_nil]
    exact ⟨_, _, [g0], [g1], rfl, rfl, p0, _, _, [], [g1], rfl, rfl, ci _, _, _, [], [g1], rfl, rfl, ci _, _, _, [], [g1], rfl, rfl, ci _, _, _, [g1], [], rfl, rfl, p1, _, _, [], [], rfl, rfl, ci _, _, _, [], [], rfl, rfl, ci _, _, _, [], [], rfl, rfl, ci _, rfl, rfl⟩
  refine ⟨[gm, gl, g0, g1], ?_, ?_, fun x hx => ?_⟩
  · show OwnL w [celI mux, celE _, .int pad, .int ram] _ _
    simp only [ownL_cons, ownL_nil]
    exact ⟨_, _, [gm], [gl, g0, g1], rfl, rfl, om, _, _, [gl, g0, g1], [], rfl, rfl, ol, _, _, [], [], rfl, rfl, ci _, _, _, [], [], rfl, rfl, ci _, rfl, rfl⟩
  · have e1 : gm ≠ g0 := by omega
    have e2 : gm ≠ g1 := by omega
    have e3 : gl ≠ g0 := by omega
    have e4 : gl ≠ g1 := by omega
    have e5 : g0 ≠ g1 := by omega
    simp [n6, e1, e2, e3, e4, e5]
  · have q1 := heap_lt0 hmux
    have q2 := heap_lt0 hles
    simp only [List.mem_cons, List.not_mem_nil, or_false] at hx
    omega

end Go.Proofs.Ytbnfdhidgdfbeaa
