/- The reference's draw of a device: what it answers is a device. -/
import Derived.Test.YtpmeocgmlchjaaaDrawC
import Derived.Test.YtpmeocgmlchjaaaDev
namespace Go.Proofs.Ytpmeocgmlchjaaa
open Go.RowKit

theorem grownBy_setNew {w w' : World} {r : Option Nat} (h : w.grownBy w' r) {b : Nat} (hb : w.heap.size ≤ b) (j : Nat) (v : Value) : w.grownBy (w'.setCell ⟨b, j, none⟩ v) r :=
  ⟨h.os, h.tape, h.output, by simpa [World.setCell] using h.size, fun k hk hne => (heap_set_ne (p := ⟨b, j, none⟩) (by simp only; omega) v).trans (h.block k hk hne)⟩
theorem Cur.setNew {w : World} {g B : Nat} {A : Option Addr} {n c : Nat} {bs : List Int} (h : Cur w g B A n c bs) {b : Nat} (hb : g < b) (j : Nat) (v : Value) : Cur (w.setCell ⟨b, j, none⟩ v) g B A n c bs := by
  have hB : B ≤ g := by obtain ⟨i, x, hi, hB, _⟩ := h; exact hB
  exact h.keep (heap_set_ne (p := ⟨b, j, none⟩) (by simp only; omega) v) fun k hk => heap_set_ne (p := ⟨b, j, none⟩) (by simp only; omega) v

set_option maxRecDepth 100000 in
set_option maxHeartbeats 2000000 in
theorem l26Device_any (g B : Nat) (A : Option Addr) (n c : Nat) (bs : List Int) (w : World) (h : Cur w g B A n c bs) (hn : n ≤ 1099511627776) :
    Calls Try.prog 61 #[.pointer (some ⟨g, 0, none⟩)] w fun e w' => ∃ d : Dev, e = .returned (.agg #[.int .i64 d.W, .int .i64 d.H, .int .i64 d.T, .int .i64 d.R]) ∧ devOk d = true ∧ d.W ≤ 5 ∧ d.H ≤ 5 ∧ Cur w' g B A n c bs ∧ w.grownBy w' (some g) := by
  have HC := Lib.hid h
  clear h
  go_enter Try.func61, Try.ntmps61
  go_wp2_with fail
  refine (l01Below_any g B A n c bs 3 _ (HC.out.below (below_new (Below.refl _ _) _)) hn (by omega) (by omega)).mono ?_
  rintro e w1 ⟨x1, rfl, hx1, hx1', k1, g1⟩
  have K1 := Lib.hid k1
  have G1 := Lib.hid g1
  clear k1 g1
  go_wp2_with fail
  refine (l01Below_any g B A n c bs 3 _ K1.out hn (by omega) (by omega)).mono ?_
  rintro e w2 ⟨x2, rfl, hx2, hx2', k2, g2⟩
  have K2 := Lib.hid k2
  have G2 := Lib.hid (grownBy_trans G1.out g2)
  clear k2 g2
  go_wp2_with fail
  refine (l01Below_any g B A n c bs 4 _ K2.out hn (by omega) (by omega)).mono ?_
  rintro e w3 ⟨x3, rfl, hx3, hx3', k3, g3⟩
  have K3 := Lib.hid k3
  have G3 := Lib.hid (grownBy_trans G2.out g3)
  clear k3 g3
  go_wp2_with fail
  have hgl := K3.out.lt
  refine (l01Once_any g B A n c bs 2 _ (K3.out.below (below_new (Below.refl _ _) _)) hn (by omega) (by omega)).mono ?_
  rintro e w4 ⟨y, rfl, k4, g4⟩
  have hs3 := G3.out.size
  have hs4 := g4.size
  simp only [World.size_alloc] at hs4
  have hgw : g < w.heap.size := HC.out.lt
  have hb3 : w4.heap[w3.heap.size]? = some (.cells #[.int .i64 (3 + x1), .int .i64 (3 + x2), .int .i64 (1 + x3), .int .i64 (-1)] 27 (0, 0)) :=
    by
    have := g4.block w3.heap.size (by simp) (by simp; omega)
    rw [this]
    exact heap_new _ _
  have gg := (grownBy_trans G3.out (grownBy_trans (grownBy_of_below (below_new (Below.refl w3.heap.size w3) _) (some g)) g4))
  have hb2 : w4.heap[w.heap.size]? = some (.cells #[.int .i64 0, .int .i64 0, .int .i64 0, .int .i64 0] 27 (0, 0)) := by
    have := gg.block w.heap.size (by simp) (by simp; omega)
    rw [this]
    exact heap_new _ _
  have G4 := Lib.hid (grownBy_trans (grownBy_of_below (below_new (Below.refl w.heap.size w) (.cells #[.int .i64 0, .int .i64 0, .int .i64 0, .int .i64 0] 27)) (some g)) gg)
  have K4 := Lib.hid k4
  simp only [World.size_alloc] at hs3
  have hne : w.heap.size ≠ w3.heap.size := by omega
  clear k4 g4 gg
  have c3 : ∀ j x, (#[.int .i64 (3 + x1), .int .i64 (3 + x2), .int .i64 (1 + x3), .int .i64 (-1)] : Array Value)[j]? = some x → w4.cell? ⟨w3.heap.size, j, none⟩ = some x := fun j x hx => by simp [World.cell?, hb3, hx]
  have c30 := c3 0 _ rfl
  have c31 := c3 1 _ rfl
  have c32 := c3 2 _ rfl
  have c33 := c3 3 _ rfl
  have f33 : w4.frozen? ⟨w3.heap.size, 3, none⟩ = false := by simp [World.frozen?, hb3]
  have f2 : ∀ j, w4.frozen? ⟨w.heap.size, j, none⟩ = false := fun j => by simp [World.frozen?, hb2]
  have f20 := f2 0
  have f21 := f2 1
  have f22 := f2 2
  have f23 := f2 3
  have c2 : ∀ j x, (#[.int .i64 0, .int .i64 0, .int .i64 0, .int .i64 0] : Array Value)[j]? = some x → w4.cell? ⟨w.heap.size, j, none⟩ = some x := fun j x hx => by simp [World.cell?, hb2, hx]
  have c20 := c2 0 _ rfl
  have c21 := c2 1 _ rfl
  have c22 := c2 2 _ rfl
  have c23 := c2 3 _ rfl
  have HB2 := Lib.hid hb2
  have HB3 := Lib.hid hb3
  clear c3 c2 f2 hb2 hb3
  cases y with
  | false =>
    go_wp2_with fail
    refine bodyPost_ret (v := .agg #[.int .i64 (3 + x1), .int .i64 (3 + x2), .int .i64 (1 + x3), .int .i64 (-1)]) (by simp [results, Try.results61, go_sem, c20, c21, c22, c23, f20, f21, f22, f23]) rfl ⟨⟨3 + x1, 3 + x2, 1 + x3, -1⟩, rfl, ?_, ?_, ?_, ?_, ?_⟩
    · simp [devOk, inR]; omega
    · simp only; omega
    · simp only; omega
    · exact (((K4.out.setNew hgw _ _).setNew hgw _ _).setNew hgw _ _).setNew hgw _ _
    · exact grownBy_setNew (grownBy_setNew (grownBy_setNew (grownBy_setNew G4.out (Nat.le_refl _) _ _) (Nat.le_refl _) _ _) (Nat.le_refl _) _ _) (Nat.le_refl _) _ _
  | true =>
    go_wp2_with fail
    refine (l01Below_any g B A n c bs (3 + x1 - 2) _ K4.out hn (by omega) (by omega)).mono ?_
    rintro e w5 ⟨z, rfl, hz, hz', k5, g5⟩
    have hs5 := g5.size
    have hb3 := (g5.block w3.heap.size (by omega) (by simp; omega)).trans HB3.out
    have hb2 := (g5.block w.heap.size (by omega) (by simp; omega)).trans HB2.out
    have K5 := Lib.hid k5
    have G5 := Lib.hid (grownBy_trans G4.out g5)
    clear k5 g5 c20 c21 c22 c23 c30 c31 c32 c33 f20 f21 f22 f23 f33
    have c3 : ∀ j x, (#[.int .i64 (3 + x1), .int .i64 (3 + x2), .int .i64 (1 + x3), .int .i64 (-1)] : Array Value)[j]? = some x → w5.cell? ⟨w3.heap.size, j, none⟩ = some x := fun j x hx => by simp [World.cell?, hb3, hx]
    have c30 := c3 0 _ rfl
    have c31 := c3 1 _ rfl
    have c32 := c3 2 _ rfl
    have c33 := c3 3 _ rfl
    have f33 : w5.frozen? ⟨w3.heap.size, 3, none⟩ = false := by simp [World.frozen?, hb3]
    have f2 : ∀ j, w5.frozen? ⟨w.heap.size, j, none⟩ = false := fun j => by simp [World.frozen?, hb2]
    have f20 := f2 0
    have f21 := f2 1
    have f22 := f2 2
    have f23 := f2 3
    have c2 : ∀ j x, (#[.int .i64 0, .int .i64 0, .int .i64 0, .int .i64 0] : Array Value)[j]? = some x → w5.cell? ⟨w.heap.size, j, none⟩ = some x := fun j x hx => by simp [World.cell?, hb2, hx]
    have c20 := c2 0 _ rfl
    have c21 := c2 1 _ rfl
    have c22 := c2 2 _ rfl
    have c23 := c2 3 _ rfl
    clear c3 c2 f2 hb2 hb3
    have hgw3 : g < w3.heap.size := hgl
    have hw3 : w.heap.size ≤ w3.heap.size := by omega
    go_wp2_with fail
    refine bodyPost_ret (v := .agg #[.int .i64 (3 + x1), .int .i64 (3 + x2), .int .i64 (1 + x3), .int .i64 (1 + z)]) (by simp [results, Try.results61, go_sem, c20, c21, c22, c23, f20, f21, f22, f23, hne, hne.symm]) rfl ⟨⟨3 + x1, 3 + x2, 1 + x3, 1 + z⟩, rfl, ?_, ?_, ?_, ?_, ?_⟩
    · simp [devOk, inR]; omega
    · simp only; omega
    · simp only; omega
    · exact ((((K5.out.setNew hgw3 _ _).setNew hgw _ _).setNew hgw _ _).setNew hgw _ _).setNew hgw _ _
    · exact grownBy_setNew (grownBy_setNew (grownBy_setNew (grownBy_setNew (grownBy_setNew G5.out hw3 _ _) (Nat.le_refl _) _ _) (Nat.le_refl _) _ _) (Nat.le_refl _) _ _) (Nat.le_refl _) _ _

set_option maxRecDepth 100000 in
set_option maxHeartbeats 2000000 in
theorem drawDevice_any (A : Option Addr) (n c : Nat) (bs : List Int) (w : World) (h : Bytes w w.heap.size A n bs) (hn : n ≤ 1099511627776) :
    Calls Try.prog 28 #[.slice A n c] w fun e w' => ∃ d : Dev, e = .returned (.agg #[.int .i64 d.W, .int .i64 d.H, .int .i64 d.T, .int .i64 d.R]) ∧ devOk d = true ∧ d.W ≤ 5 ∧ d.H ≤ 5 ∧ Below w.heap.size w w' := by
  have HB := Lib.hid h
  clear h
  go_enter Try.func28, Try.ntmps28
  go_wp2_with fail
  refine (l01New_any A n c bs _ ((HB.out.below (below_new (Below.refl _ _) _)).more (by simp)) hn).mono ?_
  rintro e w1 ⟨g, rfl, hg, k1, b1⟩
  simp only [World.size_alloc] at hg
  have hs1 := b1.size
  simp only [World.size_alloc] at hs1
  have hb1 : w1.heap[w.heap.size]? = some (.cells #[.int .i64 0, .int .i64 0, .int .i64 0, .int .i64 0] 27 (0, 0)) := by
    have := b1.block w.heap.size (by simp)
    rw [this]
    exact heap_new _ _
  have B1 := Lib.hid (below_tr (below_new (Below.refl w.heap.size w) _) b1)
  have K1 := Lib.hid k1
  clear b1 k1
  go_wp2_with fail
  refine (l26Device_any g _ A n c bs _ K1.out hn).mono ?_
  rintro e w2 ⟨d, rfl, hd, hW, hH, k2, g2⟩
  have hb2 := (g2.block w.heap.size (by omega) (by simp; omega)).trans hb1
  have B2 := Lib.hid (B1.out.grown g2 (by omega) (by rintro z ⟨⟩; omega) : Below w.heap.size w w2)
  have HD := Lib.hid hd
  have f2 : ∀ j, w2.frozen? ⟨w.heap.size, j, none⟩ = false := fun j => by simp [World.frozen?, hb2]
  have f20 := f2 0
  have f21 := f2 1
  have f22 := f2 2
  have f23 := f2 3
  have c2 : ∀ j x, (#[.int .i64 0, .int .i64 0, .int .i64 0, .int .i64 0] : Array Value)[j]? = some x → w2.cell? ⟨w.heap.size, j, none⟩ = some x := fun j x hx => by simp [World.cell?, hb2, hx]
  have c20 := c2 0 _ rfl
  have c21 := c2 1 _ rfl
  have c22 := c2 2 _ rfl
  have c23 := c2 3 _ rfl
  clear c2 f2 hb1 hb2 hd k2 g2
  go_wp2_with fail
  refine bodyPost_ret (v := .agg #[.int .i64 d.W, .int .i64 d.H, .int .i64 d.T, .int .i64 d.R]) (by simp [results, Try.results28, go_sem, c20, c21, c22, c23, f20, f21, f22, f23]) rfl ⟨d, rfl, HD.out, hW, hH, ?_⟩
  exact (((B2.out.setCell (p := ⟨w.heap.size, 0, none⟩) (Nat.le_refl _) _).setCell (p := ⟨w.heap.size, 1, none⟩) (Nat.le_refl _) _).setCell (p := ⟨w.heap.size, 2, none⟩) (Nat.le_refl _) _).setCell (p := ⟨w.heap.size, 3, none⟩) (Nat.le_refl _) _
end Go.Proofs.Ytpmeocgmlchjaaa
