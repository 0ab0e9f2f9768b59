/- Reading tiles and logic elements out of memory. Plain lemmas. ReadFrames of the program; the initial state of a device. -/
import Derived.Test.YtbnfdhidgdfbeaaEmu
import Derived.Test.YtbnfdhidgdfbeaaRead
import Derived.Test.YtbnfdhidgdfbeaaTilePure
namespace Go.Proofs.Ytbnfdhidgdfbeaa
set_option maxRecDepth 100000
open Go.RowKit

theorem Le.cells_length (e : Le) : e.cells.length = 4 := rfl
theorem Tile.cells_length (t : Tile) : t.cells.length = 4 := rfl
theorem flat4_length {α : Type} {f : α → List Cel} (hf : ∀ x, (f x).length = 4) (xs : List α) : (xs.flatMap f).length = xs.length * 4 := by rw [flat_length hf, Nat.mul_comm]
theorem flat4_at {α : Type} {f : α → List Cel} (hf : ∀ x, (f x).length = 4) {xs : List α} {k j : Nat} {x : α} (h : xs[k]? = some x) (hj : j < 4) : (xs.flatMap f)[k * 4 + j]? = (f x)[j]? := by rw [Nat.mul_comm]; exact flat_get hf h hj
theorem getD_some {α : Type} {xs : List α} {k : Nat} (d : α) (h : k < xs.length) : xs[k]? = some (xs[k]?.getD d) := by rw [List.getElem?_eq_getElem h]; rfl
theorem rdC_slice {w : World} {B e s : Nat} {cs : List Cel} {v : Value} (h : RdC w B (.row e s cs) v) : ∃ A n c, v = .slice A n c := by
  rw [rdC_row] at h
  obtain ⟨A, n, cap, rfl, _⟩ := h
  exact ⟨A, n, cap, rfl⟩

theorem RdC.tile {w : World} {B n c k : Nat} {A : Option Addr} {ts : List Tile} (h : RdC w B (celT ts) (.slice A n c)) (hk : k < ts.length) :
    ∃ b o S m p L l q, A = some ⟨b, o, none⟩ ∧ b < B ∧ w.cell? ⟨b, o + k * 4, none⟩ = some (.slice S m p) ∧ w.cell? ⟨b, o + k * 4 + 1, none⟩ = some (.slice L l q) ∧ w.cell? ⟨b, o + k * 4 + 2, none⟩ = some (.int .i64 (ts[k]?.getD Tile.zero).pad) ∧ w.cell? ⟨b, o + k * 4 + 3, none⟩ = some (.int .i64 (ts[k]?.getD Tile.zero).ram) ∧
      RdC w B (celI (ts[k]?.getD Tile.zero).mux) (.slice S m p) ∧ RdC w B (celE (ts[k]?.getD Tile.zero).les) (.slice L l q) := by
  have hl := flat4_length Tile.cells_length ts
  obtain ⟨b, o, rfl, hb, hc⟩ := h.cell (by rw [hl]; omega)
  have hx := getD_some Tile.zero hk
  generalize ts[k]?.getD Tile.zero = t at *
  have g := fun (j : Nat) (hj : j < 4) => hc (k * 4 + j) (by rw [hl]; omega)
  obtain ⟨c0, v0, e0, m0, r0⟩ := g 0 (by omega)
  obtain ⟨c1, v1, e1, m1, r1⟩ := g 1 (by omega)
  obtain ⟨c2, v2, e2, m2, r2⟩ := g 2 (by omega)
  obtain ⟨c3, v3, e3, m3, r3⟩ := g 3 (by omega)
  rw [flat4_at Tile.cells_length hx (by omega)] at e0 e1 e2 e3
  simp only [Tile.cells, List.getElem?_cons_zero, List.getElem?_cons_succ, Option.some.injEq] at e0 e1 e2 e3
  subst e0 e1 e2 e3
  rw [rdC_int] at r2 r3
  subst r2 r3
  obtain ⟨S, m, p, rfl⟩ := rdC_slice (e := 3) (s := 1) r0
  obtain ⟨L, l, q, rfl⟩ := rdC_slice (e := 107) (s := 4) r1
  exact ⟨b, o, S, m, p, L, l, q, rfl, hb, m0, m1, m2, m3, r0, r1⟩
theorem RdC.le {w : World} {B n c k : Nat} {A : Option Addr} {es : List Le} (h : RdC w B (celE es) (.slice A n c)) (hk : k < es.length) :
    ∃ b o S m p, A = some ⟨b, o, none⟩ ∧ b < B ∧ w.cell? ⟨b, o + k * 4, none⟩ = some (.slice S m p) ∧ w.cell? ⟨b, o + k * 4 + 1, none⟩ = some (.int .i64 (es[k]?.getD Le.zero).mask) ∧ w.cell? ⟨b, o + k * 4 + 2, none⟩ = some (.int .i64 (es[k]?.getD Le.zero).flop) ∧ w.cell? ⟨b, o + k * 4 + 3, none⟩ = some (.int .i64 (es[k]?.getD Le.zero).init) ∧
      RdC w B (celI (es[k]?.getD Le.zero).sel) (.slice S m p) := by
  have hl := flat4_length Le.cells_length es
  obtain ⟨b, o, rfl, hb, hc⟩ := h.cell (by rw [hl]; omega)
  have hx := getD_some Le.zero hk
  generalize es[k]?.getD Le.zero = t at *
  have g := fun (j : Nat) (hj : j < 4) => hc (k * 4 + j) (by rw [hl]; omega)
  obtain ⟨c0, v0, e0, m0, r0⟩ := g 0 (by omega)
  obtain ⟨c1, v1, e1, m1, r1⟩ := g 1 (by omega)
  obtain ⟨c2, v2, e2, m2, r2⟩ := g 2 (by omega)
  obtain ⟨c3, v3, e3, m3, r3⟩ := g 3 (by omega)
  rw [flat4_at Le.cells_length hx (by omega)] at e0 e1 e2 e3
  simp only [Le.cells, List.getElem?_cons_zero, List.getElem?_cons_succ, Option.some.injEq] at e0 e1 e2 e3
  subst e0 e1 e2 e3
  rw [rdC_int] at r1 r2 r3
  subst r1 r2 r3
  obtain ⟨S, m, p, rfl⟩ := rdC_slice (e := 3) (s := 1) r0
  exact ⟨b, o, S, m, p, rfl, hb, m0, m1, m2, m3, r0⟩
theorem RdC.tlen {w : World} {B n c : Nat} {A : Option Addr} {ts : List Tile} (h : RdC w B (celT ts) (.slice A n c)) : ts.length = n := by
  have := RdC.len h
  rw [flat4_length Tile.cells_length] at this
  omega
theorem RdC.elen {w : World} {B n c : Nat} {A : Option Addr} {es : List Le} (h : RdC w B (celE es) (.slice A n c)) : es.length = n := by
  have := RdC.len h
  rw [flat4_length Le.cells_length] at this
  omega
theorem OwnT.sub {lo hi : Nat} {w : World} {e s n cap j : Nat} {A : Option Addr} {cs : List Cel} (h : OwnT lo hi w (.row e s cs) (.slice A n cap)) (hj : j < cs.length) :
    ∃ g c v, A = some ⟨g, 0, none⟩ ∧ lo ≤ g ∧ g < hi ∧ g < w.heap.size ∧ cs[j]? = some c ∧ w.cell? ⟨g, j, none⟩ = some v ∧ OwnT lo hi w c v := by
  obtain ⟨g, c, v, e1, h1, h2, h3, h4, h5, _, ⟨Fj, k1, k2, _, k3, _⟩, _⟩ := h.cell hj
  exact ⟨g, c, v, e1, h1, h2, h3, h4, h5, Fj, k1, k2, k3⟩
theorem ownT_int {lo hi : Nat} {w : World} {x : Int} {v : Value} (h : OwnT lo hi w (.int x) v) : v = .int .i64 x := by
  obtain ⟨F, h1, _⟩ := h
  rw [ownC_int] at h1
  exact h1.1
theorem ownT_slice {lo hi : Nat} {w : World} {e s : Nat} {cs : List Cel} {v : Value} (h : OwnT lo hi w (.row e s cs) v) : ∃ A n c, v = .slice A n c := by
  obtain ⟨F, h1, _⟩ := h
  rw [ownC_row] at h1
  obtain ⟨A, n, cap, vs, F', rfl, _⟩ := h1
  exact ⟨A, n, cap, rfl⟩
theorem OwnT.tile {lo hi : Nat} {w : World} {n c k : Nat} {A : Option Addr} {ts : List Tile} (h : OwnT lo hi w (celT ts) (.slice A n c)) (hk : k < ts.length) :
    ∃ g S m p L l q, A = some ⟨g, 0, none⟩ ∧ lo ≤ g ∧ g < hi ∧ g < w.heap.size ∧ w.cell? ⟨g, k * 4, none⟩ = some (.slice S m p) ∧ w.cell? ⟨g, k * 4 + 1, none⟩ = some (.slice L l q) ∧ w.cell? ⟨g, k * 4 + 2, none⟩ = some (.int .i64 (ts[k]?.getD Tile.zero).pad) ∧ w.cell? ⟨g, k * 4 + 3, none⟩ = some (.int .i64 (ts[k]?.getD Tile.zero).ram) ∧
      OwnT lo hi w (celI (ts[k]?.getD Tile.zero).mux) (.slice S m p) ∧ OwnT lo hi w (celE (ts[k]?.getD Tile.zero).les) (.slice L l q) := by
  have hl := flat4_length Tile.cells_length ts
  have hx := getD_some Tile.zero hk
  generalize ts[k]?.getD Tile.zero = t at *
  have g := fun (j : Nat) (hj : j < 4) => h.sub (j := k * 4 + j) (by rw [hl]; omega)
  obtain ⟨g0, c0, v0, a0, b1, b2, b3, e0, m0, r0⟩ := g 0 (by omega)
  obtain ⟨g1, c1, v1, a1, _, _, _, e1, m1, r1⟩ := g 1 (by omega)
  obtain ⟨g2, c2, v2, a2, _, _, _, e2, m2, r2⟩ := g 2 (by omega)
  obtain ⟨g3, c3, v3, a3, _, _, _, e3, m3, r3⟩ := g 3 (by omega)
  subst a0
  injection a1 with a1
  injection a2 with a2
  injection a3 with a3
  injection a1 with a1
  injection a2 with a2
  injection a3 with a3
  subst a1 a2 a3
  rw [flat4_at Tile.cells_length hx (by omega)] at e0 e1 e2 e3
  simp only [Tile.cells, List.getElem?_cons_zero, List.getElem?_cons_succ, Option.some.injEq] at e0 e1 e2 e3
  subst e0 e1 e2 e3
  obtain rfl := ownT_int r2
  obtain rfl := ownT_int r3
  obtain ⟨S, m, p, rfl⟩ := ownT_slice (e := 3) (s := 1) r0
  obtain ⟨L, l, q, rfl⟩ := ownT_slice (e := 107) (s := 4) r1
  exact ⟨g0, S, m, p, L, l, q, rfl, b1, b2, b3, m0, m1, m2, m3, r0, r1⟩
theorem OwnT.le {lo hi : Nat} {w : World} {n c k : Nat} {A : Option Addr} {es : List Le} (h : OwnT lo hi w (celE es) (.slice A n c)) (hk : k < es.length) :
    ∃ g S m p, A = some ⟨g, 0, none⟩ ∧ lo ≤ g ∧ g < hi ∧ g < w.heap.size ∧ w.cell? ⟨g, k * 4, none⟩ = some (.slice S m p) ∧ w.cell? ⟨g, k * 4 + 1, none⟩ = some (.int .i64 (es[k]?.getD Le.zero).mask) ∧ w.cell? ⟨g, k * 4 + 2, none⟩ = some (.int .i64 (es[k]?.getD Le.zero).flop) ∧ w.cell? ⟨g, k * 4 + 3, none⟩ = some (.int .i64 (es[k]?.getD Le.zero).init) ∧
      OwnT lo hi w (celI (es[k]?.getD Le.zero).sel) (.slice S m p) := by
  have hl := flat4_length Le.cells_length es
  have hx := getD_some Le.zero hk
  generalize es[k]?.getD Le.zero = t at *
  have g := fun (j : Nat) (hj : j < 4) => h.sub (j := k * 4 + j) (by rw [hl]; omega)
  obtain ⟨g0, c0, v0, a0, b1, b2, b3, e0, m0, r0⟩ := g 0 (by omega)
  obtain ⟨g1, c1, v1, a1, _, _, _, e1, m1, r1⟩ := g 1 (by omega)
  obtain ⟨g2, c2, v2, a2, _, _, _, e2, m2, r2⟩ := g 2 (by omega)
  obtain ⟨g3, c3, v3, a3, _, _, _, e3, m3, r3⟩ := g 3 (by omega)
  subst a0
  injection a1 with a1
  injection a2 with a2
  injection a3 with a3
  injection a1 with a1
  injection a2 with a2
  injection a3 with a3
  subst a1 a2 a3
  rw [flat4_at Le.cells_length hx (by omega)] at e0 e1 e2 e3
  simp only [Le.cells, List.getElem?_cons_zero, List.getElem?_cons_succ, Option.some.injEq] at e0 e1 e2 e3
  subst e0 e1 e2 e3
  obtain rfl := ownT_int r1
  obtain rfl := ownT_int r2
  obtain rfl := ownT_int r3
  obtain ⟨S, m, p, rfl⟩ := ownT_slice (e := 3) (s := 1) r0
  exact ⟨g0, S, m, p, rfl, b1, b2, b3, m0, m1, m2, m3, r0⟩
end Go.Proofs.Ytbnfdhidgdfbeaa

namespace Go.Proofs.Ytbnfdhidgdfbeaa
set_option maxRecDepth 100000
open Go.RowKit

set_option maxHeartbeats 1000000 in
theorem preadFrames_any (d : Dev) (A : Option Addr) (n c : Nat) (fs : List (List Int)) (w : World) (hA : Rows2 w A n fs) (hz : size2 fs ≤ 1099511627776) :
    Calls Try.prog 25 #[.agg #[.int .i64 d.W, .int .i64 d.H, .int .i64 d.T, .int .i64 d.R], .slice A n c] w fun e w' => ∃ A' n' c', e = .returned (.slice A' n' c') ∧ OwnT w.heap.size w'.heap.size w' (celT (readF d fs)) (.slice A' n' c') ∧ Below w.heap.size w w' := by
  have hB0 : Below w.heap.size w (w.alloc (.cells #[.int .i64 d.W, .int .i64 d.H, .int .i64 d.T, .int .i64 d.R] 29)) := below_new (Below.refl _ _) _
  have HI := Lib.hid hA
  clear hA
  go_enter Try.func25, Try.ntmps25
  go_wp2_with fail
  refine (framesOk_any d A n c fs _ (HI.out.below hB0) hz).mono ?_
  rintro e w1 ⟨rfl, b1⟩
  obtain ⟨hcc, hff⟩ := bcell b1
  have hs1 := b1.size
  simp only [World.size_alloc] at hs1
  have B1 := Lib.hid (below_tr hB0 b1)
  clear b1
  cases hf : framesOk d fs with
  | false =>
    have HF := Lib.hid hf
    clear hf
    go_wp2_with fail
    go_ret
    exact ⟨none, 0, 0, rfl, by rw [readF, HF.out]; exact ownT_nil _ _, B1.out⟩
  | true =>
    have HF := Lib.hid hf
    clear hf
    go_wp2_with fail
    refine (readFrames_any d A n c fs _ (HI.out.below B1.out) HF.out).mono ?_
    rintro e w2 ⟨A2, c2, rfl, o2, b2⟩
    have O2 := Lib.hid o2
    have B2 := Lib.hid (below_tr B1.out b2)
    clear o2 b2 hcc hff
    go_wp2_with fail
    go_ret
    exact ⟨A2, n, c2, rfl, by rw [readF, HF.out, if_pos rfl]; exact O2.out.widen (by omega) (Nat.le_refl _), B2.out⟩

def startOf (d : Dev) (k : Nat) (t : Tile) : List Int :=
  if kindOf d (k : Int) = 1 then [(t.les[0]?.getD Le.zero).init, (t.les[1]?.getD Le.zero).init] else if kindOf d (k : Int) = 2 then [t.ram, 0] else [0, 0]
def startTo (d : Dev) (ts : List Tile) : Nat → List Int
  | 0 => []
  | k + 1 => startTo d ts k ++ startOf d k (ts[k]?.getD Tile.zero)
theorem startOf_length (d : Dev) (k : Nat) (t : Tile) : (startOf d k t).length = 2 := by unfold startOf; split <;> (try split) <;> rfl
theorem startTo_length (d : Dev) (ts : List Tile) (k : Nat) : (startTo d ts k).length = 2 * k := by
  induction k with
  | zero => rfl
  | succ k ih => rw [startTo, List.length_append, ih, startOf_length]; omega
def startP (d : Dev) (ts : List Tile) (m k : Nat) : List Int := startTo d ts k ++ List.replicate (2 * (m - k)) 0
theorem startP_length {d : Dev} {ts : List Tile} {m k : Nat} (h : k ≤ m) : (startP d ts m k).length = 2 * m := by simp [startP, startTo_length]; omega
theorem startP_zero (d : Dev) (ts : List Tile) (m : Nat) : startP d ts m 0 = List.replicate (2 * m) 0 := by simp [startP, startTo]
theorem startP_full (d : Dev) (ts : List Tile) (m : Nat) : startP d ts m m = startTo d ts m := by simp [startP]
theorem startP_split {d : Dev} {ts : List Tile} {m k : Nat} (h : k < m) : startP d ts m k = startTo d ts k ++ 0 :: 0 :: List.replicate (2 * (m - (k + 1))) 0 := by
  rw [startP, show 2 * (m - k) = 2 * (m - (k + 1)) + 1 + 1 by omega]
  rfl
theorem startP_set {d : Dev} {ts : List Tile} {m k : Nat} (h : k < m) (a b : Int) (hs : startOf d k (ts[k]?.getD Tile.zero) = [a, b]) : ((startP d ts m k).set (2 * k) a).set (2 * k + 1) b = startP d ts m (k + 1) := by
  have hl := startTo_length d ts k
  rw [startP_split h, List.set_append, if_neg (by omega), hl, Nat.sub_self, List.set_cons_zero, List.set_append, if_neg (by omega), hl, show 2 * k + 1 - 2 * k = 0 + 1 by omega, List.set_cons_succ, List.set_cons_zero, startP, startTo, hs, List.append_assoc]
  rfl
theorem startP_set1 {d : Dev} {ts : List Tile} {m k : Nat} (h : k < m) (a : Int) (hs : startOf d k (ts[k]?.getD Tile.zero) = [a, 0]) : (startP d ts m k).set (2 * k) a = startP d ts m (k + 1) := by
  have hl := startTo_length d ts k
  rw [startP_split h, List.set_append, if_neg (by omega), hl, Nat.sub_self, List.set_cons_zero, startP, startTo, hs, List.append_assoc]
  rfl
theorem startP_same {d : Dev} {ts : List Tile} {m k : Nat} (h : k < m) (hs : startOf d k (ts[k]?.getD Tile.zero) = [0, 0]) : startP d ts m k = startP d ts m (k + 1) := by
  rw [startP_split h, startP, startTo, hs, List.append_assoc]
  rfl
def startF (d : Dev) (fs : List (List Int)) : List Int := startTo d (readF d fs) (readF d fs).length
def Les2 (ts : List Tile) : Prop := ∀ k, k < ts.length → (ts[k]?.getD Tile.zero).les.length = 2

set_option maxHeartbeats 2000000 in
theorem emuStart_any (d : Dev) (A : Option Addr) (m c : Nat) (ts : List Tile) (w : World) (hA : RdC w w.heap.size (celT ts) (.slice A m c)) (hd : devOk d = true) (hm : m ≤ 36) (hl : Les2 ts) :
    Calls Try.prog 80 #[.agg #[.int .i64 d.W, .int .i64 d.H, .int .i64 d.T, .int .i64 d.R], .slice A m c] w fun e w' => ∃ A', e = .returned (.slice A' (2 * m) (2 * m)) ∧ Own w.heap.size w' A' (2 * m) (2 * m) (startTo d ts m) ∧ Below w.heap.size w w' := by
  have hB0 : Below w.heap.size w (w.alloc (.cells #[.int .i64 d.W, .int .i64 d.H, .int .i64 d.T, .int .i64 d.R] 29)) := below_new (Below.refl _ _) _
  have HA := Lib.hid hA
  have HD := Lib.hid hd
  have HL := Lib.hid hl
  have HTL := Lib.hid hA.tlen
  obtain ⟨i0, hi, hz0, hz1, hz2⟩ := info_parts int_info
  have hmk := fun W => run_make_rowN (P := Try.prog) 44 3 i0 _ Try.underlying44 hi hz0 .i64 .i64 (2 * m) (2 * m) (Nat.le_refl _) (by rw [hz2]; omega) (by omega) W
  rw [hz1, Nat.mul_one, show (Value.int .i64 0).cells = #[Value.int .i64 0] from rfl, arr_made] at hmk
  have e2m : ((2 * m : Nat) : Int) = 2 * (m : Int) := by omega
  rw [e2m] at hmk
  clear hA hd hl hi hz0 hz1 hz2 e2m
  go_enter Try.func80, Try.ntmps80
  go_wp2_with fail
  clear hmk
  have HB0 := Lib.hid hB0
  have H0 : Hid (((w.alloc (.cells #[.int .i64 d.W, .int .i64 d.H, .int .i64 d.T, .int .i64 d.R] 29)).alloc (.cells (arr (List.replicate (2 * m) 0)) 3)).heap[w.heap.size + 1]? = some (.cells (arr (startP d ts m 0)) 3 (0, 0))) := by
    rw [startP_zero]
    exact heap_newAt (by simp)
  clear hB0
  go_loopw [14] (fun i wr => ∃ k : Nat, k ≤ m ∧ i = .int .i64 k ∧ wr.heap[w.heap.size + 1]? = some (.cells (arr (startP d ts m k)) 3 (0, 0)) ∧ Below (w.alloc (.cells #[.int .i64 d.W, .int .i64 d.H, .int .i64 d.T, .int .i64 d.R] 29)).heap.size (w.alloc (.cells #[.int .i64 d.W, .int .i64 d.H, .int .i64 d.T, .int .i64 d.R] 29)) wr) (fun i _ => m - (intOf i).toNat)
  case atStart => exact ⟨0, Nat.zero_le _, rfl, H0.out, below_new (Below.refl _ _) _⟩
  case round =>
    obtain ⟨k, hk, rfl, hg, hbx⟩ := hrel
    have HG := Lib.hid hg
    have HBX := Lib.hid hbx
    have hbe := below_tr HB0.out hbx
    have HE := Lib.hid hbe
    have hsx := hbx.size
    simp only [World.size_alloc] at hsx
    have hgl := heap_lt0 hg
    obtain ⟨hcc, hff⟩ := bcell hbx
    clear hg hbx
    by_cases hlt : k < m
    · obtain ⟨b, o, S, m3, p, L, l, q, rfl, hb, c0, c1, c2, c3, r0, r1⟩ := HA.out.tile (k := k) (by rw [HTL.out]; exact hlt)
      have hll := HL.out k (by rw [HTL.out]; exact hlt)
      have HLE := Lib.hid r1
      have HSO : Hid (startOf d k (ts[k]?.getD Tile.zero) = if kindOf d (k : Int) = 1 then [((ts[k]?.getD Tile.zero).les[0]?.getD Le.zero).init, ((ts[k]?.getD Tile.zero).les[1]?.getD Le.zero).init] else if kindOf d (k : Int) = 2 then [(ts[k]?.getD Tile.zero).ram, 0] else [0, 0]) := rfl
      have HSET := fun a b' => Lib.hid (startP_set (d := d) (ts := ts) hlt a b')
      have HONE := fun a => Lib.hid (startP_set1 (d := d) (ts := ts) hlt a)
      have HSAME := Lib.hid (startP_same (d := d) (ts := ts) hlt)
      have HPL := Lib.hid (startP_length (d := d) (ts := ts) (m := m) (k := k) hk)
      generalize ts[k]?.getD Tile.zero = t at *
      have HLL := Lib.hid hll
      have hww : w.heap.size < wr.heap.size := by omega
      have i0 : (0 : Int) ≤ (k : Int) := by omega
      have i1 : (k : Int) < (m : Int) := by omega
      clear r0 r1 hbe hll
      go_wp2_with fail
      refine (tileKind_any d k _ HD.out (by omega) (by omega)).mono ?_
      rintro e w2 ⟨rfl, b2⟩
      have hs2 := b2.size
      simp only [World.size_alloc] at hs2
      have G2 := Lib.hid (heap_tr b2 (heap_al _ HG.out))
      have T2 := Lib.hid (heap_tr b2 (heap_new _ _))
      have E2 := Lib.hid (below_tr (below_new HBX.out _) b2)
      have LE2 := Lib.hid (HLE.out.keep (w' := w2) (Nat.le_refl _) (below_tr HB0.out E2.out).block)
      clear b2 hcc hff
      have hk3 := kindOf_bd d (k : Int)
      generalize kindOf d (k : Int) = kd at *
      rcases hk3 with h | h | h
      · subst h
        have HS1 := Lib.hid (HSAME.out (by rw [HSO.out]; simp))
        go_wp2_with fail
        go_roundw
        case rel => exact ⟨k + 1, by omega, by go_num, by rw [← HS1.out]; exact G2.out, E2.out⟩
        case measure => simp [intOf]; omega
      · subst h
        obtain ⟨b3, o3, S3, m4, p3, rfl, hb3, _, _, _, d3, _⟩ := LE2.out.le (k := 0) (by rw [HLL.out]; omega)
        obtain ⟨b4, o4, S4, m5, p4, hbo, _, _, _, _, d4, _⟩ := LE2.out.le (k := 1) (by rw [HLL.out]; omega)
        injection hbo with hbo
        injection hbo with hb4 ho4
        subst hb4 ho4
        obtain rfl : 2 = l := by have hl2 := LE2.out.elen; rw [HLL.out] at hl2; exact hl2
        have hne3 : b3 ≠ w.heap.size + 1 := by omega
        have HS1 := HSET (((t.les)[0]?.getD Le.zero).init) (((t.les)[1]?.getD Le.zero).init)
        have HS2 := Lib.hid (HS1.out (by rw [HSO.out, if_pos rfl]))
        generalize ((t.les)[0]?.getD Le.zero).init = x at *
        generalize ((t.les)[1]?.getD Le.zero).init = y at *
        have d3' : w2.cell? ⟨b3, o3 + 3, none⟩ = some (.int .i64 x) := by have h := d3; rw [Nat.zero_mul, Nat.add_zero] at h; exact h
        have d4' : w2.cell? ⟨b3, o3 + 4 + 3, none⟩ = some (.int .i64 y) := by have h := d4; rw [Nat.one_mul] at h; exact h
        have t1 := cell_heap (k := 1) T2.out rfl
        have g1 := cell_heap (k := 2 * k) G2.out (arr_get (by rw [HPL.out]; omega))
        have f1 := frozen_heap G2.out (2 * k)
        have g2 := cell_heap (k := 2 * k + 1) G2.out (arr_get (by rw [HPL.out]; omega))
        have f2 := frozen_heap G2.out (2 * k + 1)
        clear d3 d4 HSET HSAME HS1
        go_wp2_with fail
        go_roundw
        case rel =>
          refine ⟨k + 1, by omega, by go_num, ?_, (E2.out.setCell (p := ⟨w.heap.size + 1, 2 * k, none⟩) (by simp) _).setCell (p := ⟨w.heap.size + 1, 2 * k + 1, none⟩) (by simp) _⟩
          rw [heap_set (heap_set G2.out (2 * k) _) (2 * k + 1), arr_set, arr_set, HS2.out]
        case measure => simp [intOf]; omega
      · subst h
        have HS1 := HONE t.ram
        have HS2 := Lib.hid (HS1.out (by rw [HSO.out, if_neg (by omega), if_pos rfl]))
        have t3 := cell_heap (k := 3) T2.out rfl
        have g1 := cell_heap (k := 2 * k) G2.out (arr_get (by rw [HPL.out]; omega))
        have f1 := frozen_heap G2.out (2 * k)
        clear HSET HSAME HS1 HONE
        go_wp2_with fail
        go_roundw
        case rel =>
          refine ⟨k + 1, by omega, by go_num, ?_, E2.out.setCell (p := ⟨w.heap.size + 1, 2 * k, none⟩) (by simp) _⟩
          rw [heap_set G2.out (2 * k), arr_set, HS2.out]
        case measure => simp [intOf]; omega
    · have hkm : m = k := by omega
      subst hkm
      go_wp2_with fail
      go_ret
      exact ⟨_, rfl, by rw [← startP_full]; exact Own.arr HG.out (by omega) (by unfold maxLen; omega) (startP_length (Nat.le_refl _)), HE.out⟩
theorem les2_tilesOf (d : Dev) (fs : List (List Int)) : Les2 (tilesOf d fs) := by
  intro k hk
  rw [tilesOf_length] at hk
  unfold tilesOf
  rw [List.getElem?_map, List.getElem?_eq_getElem hk]
  rfl
theorem keep4 {W W' : World} {g : Nat} {v0 v1 v2 v3 : Value} (hb : Below W.heap.size W W') (hg : g < W.heap.size)
    (h : W.cell? ⟨g, 0, none⟩ = some v0 ∧ W.cell? ⟨g, 1, none⟩ = some v1 ∧ W.cell? ⟨g, 2, none⟩ = some v2 ∧ W.cell? ⟨g, 3, none⟩ = some v3) :
    W'.cell? ⟨g, 0, none⟩ = some v0 ∧ W'.cell? ⟨g, 1, none⟩ = some v1 ∧ W'.cell? ⟨g, 2, none⟩ = some v2 ∧ W'.cell? ⟨g, 3, none⟩ = some v3 :=
  ⟨(hb.cell (p := ⟨g, 0, none⟩) hg).trans h.1, (hb.cell (p := ⟨g, 1, none⟩) hg).trans h.2.1, (hb.cell (p := ⟨g, 2, none⟩) hg).trans h.2.2.1, (hb.cell (p := ⟨g, 3, none⟩) hg).trans h.2.2.2⟩
theorem box4 (w : World) (d : Dev) : (w.alloc (.cells #[.int .i64 d.W, .int .i64 d.H, .int .i64 d.T, .int .i64 d.R] 29)).cell? ⟨w.heap.size, 0, none⟩ = some (.int .i64 d.W) ∧ (w.alloc (.cells #[.int .i64 d.W, .int .i64 d.H, .int .i64 d.T, .int .i64 d.R] 29)).cell? ⟨w.heap.size, 1, none⟩ = some (.int .i64 d.H) ∧ (w.alloc (.cells #[.int .i64 d.W, .int .i64 d.H, .int .i64 d.T, .int .i64 d.R] 29)).cell? ⟨w.heap.size, 2, none⟩ = some (.int .i64 d.T) ∧ (w.alloc (.cells #[.int .i64 d.W, .int .i64 d.H, .int .i64 d.T, .int .i64 d.R] 29)).cell? ⟨w.heap.size, 3, none⟩ = some (.int .i64 d.R) :=
  ⟨cell_heap (heap_new w _) rfl, cell_heap (heap_new w _) rfl, cell_heap (heap_new w _) rfl, cell_heap (heap_new w _) rfl⟩
theorem startF_bad {d : Dev} {fs : List (List Int)} (h : framesOk d fs = false) : startF d fs = [] := by unfold startF; rw [readF, h]; rfl
theorem startF_good {d : Dev} {fs : List (List Int)} (h : framesOk d fs = true) : startF d fs = startTo d (tilesOf d fs) fs.length := by unfold startF; rw [readF, h, if_pos rfl, tilesOf_length]
theorem startF_le (d : Dev) (fs : List (List Int)) : (startF d fs).length ≤ 72 := by
  cases h : framesOk d fs with
  | false => rw [startF_bad h]; simp
  | true =>
    rw [startF_good h, startTo_length]
    have := (frames_n h).2
    omega

set_option maxHeartbeats 1000000 in
theorem pemuStart_any (d : Dev) (A : Option Addr) (n c : Nat) (fs : List (List Int)) (w : World) (hA : Rows2 w A n fs) (hz : size2 fs ≤ 1099511627776) :
    Calls Try.prog 35 #[.agg #[.int .i64 d.W, .int .i64 d.H, .int .i64 d.T, .int .i64 d.R], .slice A n c] w fun e w' => ∃ A' n' c', e = .returned (.slice A' n' c') ∧ Own w.heap.size w' A' n' c' (startF d fs) ∧ Below w.heap.size w w' := by
  have hB0 : Below w.heap.size w (w.alloc (.cells #[.int .i64 d.W, .int .i64 d.H, .int .i64 d.T, .int .i64 d.R] 29)) := below_new (Below.refl _ _) _
  have HI := Lib.hid hA
  have HX := Lib.hid hA.1
  clear hA
  go_enter Try.func35, Try.ntmps35
  go_wp2_with fail
  refine (framesOk_any d A n c fs _ (HI.out.below hB0) hz).mono ?_
  rintro e w1 ⟨rfl, b1⟩
  have hs1 := b1.size
  simp only [World.size_alloc] at hs1
  have B1 := Lib.hid (below_tr hB0 b1)
  have HQ := Lib.hid (keep4 b1 (by simp) (box4 w d))
  clear b1
  cases hf : framesOk d fs with
  | false =>
    have HF := Lib.hid hf
    clear hf
    go_wp2_with fail
    go_ret
    exact ⟨none, 0, 0, rfl, by rw [startF_bad HF.out]; exact Own.nil, B1.out⟩
  | true =>
    have HF := Lib.hid hf
    have hn36 := (frames_n hf).2
    rw [HX.out] at hn36
    have HD := Lib.hid (framesOk_iff hf).1
    clear hf
    have hww : w.heap.size < w1.heap.size := by omega
    have hD := Below.refl w1.heap.size w1
    go_wp2_with fail
    go_region_held3 (fun w' => w'.cell? ⟨w.heap.size, 0, none⟩ = some (.int .i64 d.W) ∧ w'.cell? ⟨w.heap.size, 1, none⟩ = some (.int .i64 d.H) ∧ w'.cell? ⟨w.heap.size, 2, none⟩ = some (.int .i64 d.T) ∧ w'.cell? ⟨w.heap.size, 3, none⟩ = some (.int .i64 d.R))
      (first | exact keep4 hD hww HQ.out | exact keep4 hD.drew hww HQ.out)
      (first
        | (go_at_call 61; (with_reducible refine (readFrames_any d A n c fs _ (HI.out.below (below_tr B1.out hD.drew)) HF.out).mono ?_); rintro e w2 ⟨A2, c2, rfl, o2, b2⟩; have O2 := Lib.hid o2.rd; replace hD := below_tr hD.drew b2; clear b2 o2)
        | (go_at_call 80; (with_reducible refine (emuStart_any d A2 n c2 (tilesOf d fs) _ O2.out HD.out hn36 (les2_tilesOf d fs)).mono ?_); rintro e w3 ⟨A3, rfl, o3, b3⟩; have O3 := Lib.hid o3; have hs3 := hD.size; replace hD := below_tr hD b3; clear b3 o3))
    go_wp2_with fail
    go_ret
    exact ⟨A3, _, _, rfl, by rw [startF_good HF.out, HX.out]; exact O3.out.more (by omega), below_tr B1.out hD⟩
end Go.Proofs.Ytbnfdhidgdfbeaa
