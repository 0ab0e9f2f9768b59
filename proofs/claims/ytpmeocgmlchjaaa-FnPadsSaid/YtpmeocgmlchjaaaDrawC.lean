/- The reference's draws of numbers, of words for a checksum, and of a device. -/
import Derived.Test.YtpmeocgmlchjaaaDraw
namespace Go.Proofs.Ytpmeocgmlchjaaa
open Go.RowKit

set_option maxHeartbeats 1000000 in
theorem l01PickInt_any (g B : Nat) (A : Option Addr) (n c : Nat) (bs : List Int) (b o m d : Nat) (w : World) (h : Cur w g B A n c bs) (hn : n ≤ 1099511627776) (hm : 0 < m) (hm' : m ≤ 1099511627776) (hbg : b ≠ g) (hb : b < w.heap.size)
    (hc : ∀ j, j < m → ∃ y : Int, w.cell? ⟨b, o + j, none⟩ = some (.int .i64 y)) :
    Calls Try.prog 81 #[.pointer (some ⟨g, 0, none⟩), .slice (some ⟨b, o, none⟩) m d] w fun e w' => ∃ x : Int, e = .returned (.int .i64 x) ∧ Cur w' g B A n c bs ∧ w.grownBy w' (some g) := by
  have HC := Lib.hid h
  have HY := Lib.hid hc
  clear h hc
  go_enter Try.func81, Try.ntmps81
  go_wp2_with fail
  refine (l01Below_any g B A n c bs m _ HC.out hn (by omega) (by omega)).mono ?_
  rintro e w1 ⟨x, rfl, hx0, hx1, k1, g1⟩
  obtain ⟨y, hy⟩ := HY.out x.toNat (by omega)
  have hcx : w1.cell? ⟨b, o + x.toNat, none⟩ = some (.int .i64 y) := by
    rw [← hy]
    exact World.cell?_of_block (a := ⟨b, o + x.toNat, none⟩) (g1.block b hb (by simpa using hbg))
  have K1 := Lib.hid k1
  have G1 := Lib.hid g1
  clear k1 g1 hy
  go_wp2_with fail
  go_ret
  exact ⟨_, rfl, K1.out, G1.out⟩

theorem cell_of_list {w : World} {l : List Int} {m : Nat} (hm : l.length = m) (j : Nat) (hj : j < m) : ∃ y : Int, (w.alloc (.cells (l.map (Value.int .i64)).toArray 3)).cell? ⟨w.heap.size, 0 + j, none⟩ = some (.int .i64 y) := by
  refine ⟨l[j]?.getD 0, ?_⟩
  unfold World.cell?
  rw [heap_new]
  have : j < l.length := by omega
  simp [this]
set_option maxRecDepth 100000 in
set_option maxHeartbeats 2000000 in
theorem l01Number_any (g B : Nat) (A : Option Addr) (n c : Nat) (bs : List Int) (w : World) (h : Cur w g B A n c bs) (hn : n ≤ 1099511627776) :
    Calls Try.prog 60 #[.pointer (some ⟨g, 0, none⟩)] w fun e w' => ∃ x : Int, e = .returned (.int .i64 x) ∧ Cur w' g B A n c bs ∧ w.grownBy w' (some g) := by
  have HC := Lib.hid h
  clear h
  go_enter Try.func60, Try.ntmps60
  go_wp2_with fail
  refine (l01Below_any g B A n c bs 4 _ HC.out hn (by omega) (by omega)).mono ?_
  rintro e w1 ⟨x, rfl, hx0, hx1, k1, g1⟩
  have K1 := Lib.hid k1
  have G1 := Lib.hid g1
  clear k1 g1
  by_cases h0 : x = 0
  · subst h0
    have k1' := K1.out
    go_wp2_with fail
    refine (l01PickInt_any g B A n c bs w1.heap.size 0 10 10 _ (k1'.below (below_new (Below.refl _ _) _)) hn (by omega) (by omega) (by have := k1'.lt; omega) (by simp) (fun j hj => cell_of_list (l := [-1, 0, 127, 128, 16383, 16384, 1000000000, 1000000001, 9223372036854775807, -9223372036854775808]) rfl j hj)).mono ?_
    rintro e w2 ⟨y, rfl, k2, g2⟩
    have K2 := Lib.hid k2
    have G2 := Lib.hid (grownBy_trans G1.out (grownBy_trans (grownBy_of_below (below_new (Below.refl _ _) _) _) g2))
    clear k2 g2
    go_wp2_with fail
    go_ret
    exact ⟨_, rfl, K2.out, G2.out⟩
  · by_cases h1 : x = 1
    · subst h1
      go_wp2_with fail
      refine (l01Below_any g B A n c bs _ _ K1.out hn (by omega) (by omega)).mono ?_
      rintro e w2 ⟨y, rfl, hy0, hy1, k2, g2⟩
      have K2 := Lib.hid k2
      have G2 := Lib.hid (grownBy_trans G1.out g2)
      clear k2 g2
      go_wp2_with fail
      go_ret
      exact ⟨_, rfl, K2.out, G2.out⟩
    · have e0 : (x == 0) = false := by simpa using h0
      have e1 : (x == 1) = false := by simpa using h1
      go_wp2_with fail
      refine (l01Below_any g B A n c bs _ _ K1.out hn (by omega) (by omega)).mono ?_
      rintro e w2 ⟨y, rfl, hy0, hy1, k2, g2⟩
      have K2 := Lib.hid k2
      have G2 := Lib.hid (grownBy_trans G1.out g2)
      clear k2 g2
      go_wp2_with fail
      go_ret
      exact ⟨_, rfl, K2.out, G2.out⟩

/-! ### words for a checksum -/
set_option maxHeartbeats 2000000 in
theorem drawChecksum_any (A : Option Addr) (n c : Nat) (bs : List Int) (w : World) (h : Bytes w w.heap.size A n bs) (hn : n ≤ 1099511627776) :
    Calls Try.prog 26 #[.slice A n c] w fun e w' => ∃ A' m c' xs, e = .returned (.slice A' m c') ∧ m ≤ 1000 ∧ Own w.heap.size w' A' m c' xs ∧ Below w.heap.size w w' := by
  have HB := Lib.hid h
  clear h
  go_enter Try.func26, Try.ntmps26
  go_wp2_with fail
  refine (l01New_any A n c bs _ HB.out hn).mono ?_
  rintro e w1 ⟨g, rfl, hg, k1, b1⟩
  have K1 := Lib.hid k1
  have hs1 := b1.size
  have hgl := k1.lt
  have B1 := Lib.hid b1
  clear k1 b1
  go_wp2_with fail
  refine (l01Below_any g w.heap.size A n c bs 8 _ (K1.out.below (below_new (Below.refl _ _) _)) hn (by omega) (by omega)).mono ?_
  rintro e w2 ⟨x, rfl, hx0, hx1, k2, g2⟩
  have hs2 := g2.size
  simp only [World.size_alloc] at hs2
  have K2 := Lib.hid k2
  have o2 : Own w.heap.size w2 (some ⟨w1.heap.size, 0, none⟩) 0 0 [] :=
    (Own.new0 (w := w1) hs1).grown (A' := some ⟨g, 0, none⟩) (lo := w1.heap.size) (hi := w1.heap.size + 1) (lo' := g) (hi' := g + 1) g2 (by rintro a ⟨⟩; simp) (by rintro a ⟨⟩; simp) (by omega)
  have B2 := Lib.hid ((below_new B1.out _).grown g2 (by simp; omega) (by rintro k ⟨⟩; exact hg) : Below w.heap.size w w2)
  have O2 := Lib.hid o2
  clear k2 g2 o2
  obtain ⟨x, rfl⟩ := Int.eq_ofNat_of_zero_le hx0
  go_wp2_with fail
  clear B1 K1 HB hgl
  go_loopw [4, 5] (fun v i wr => ∃ (k m g' c' : Nat) (xs : List Int), m + k ≤ 8 ∧ i = .int .i64 k ∧ v = .slice (some ⟨g', 0, none⟩) m c' ∧ Own w.heap.size wr (some ⟨g', 0, none⟩) m c' xs ∧ Cur wr g w.heap.size A n c bs ∧ Below w.heap.size w wr) (fun _ i _ => (intOf i).toNat)
  case atStart => exact ⟨x, 0, w1.heap.size, 0, [], by omega, rfl, rfl, O2.out, K2.out, B2.out⟩
  case round =>
    obtain ⟨k, m, g', c', xs, hmk, rfl, rfl, ho, hcu, hbe⟩ := hrel
    have hne := hcu.own_ne ho
    have HO := Lib.hid ho
    have HC := Lib.hid hcu
    have HE := Lib.hid hbe
    clear ho hcu hbe O2 K2 B2
    by_cases hk : 0 < k
    · go_wp2_with fail
      refine (l01Below_any g w.heap.size A n c bs 65536 _ HC.out hn (by omega) (by omega)).mono ?_
      rintro e w3 ⟨y, rfl, hy0, hy1, k3, g3⟩
      have O3 := Lib.hid (HO.out.other g3 hne)
      have K3 := Lib.hid k3
      have B3 := Lib.hid (HE.out.grown g3 HE.out.size (by rintro z ⟨⟩; exact hg) : Below w.heap.size w w3)
      clear k3 g3
      go_wp2_with (at_builtin; refine wpList_push rfl _ _ rfl w.heap.size (some ⟨g', 0, none⟩) m c' xs y rfl O3.out rfl (by omega) B3.out.size B3.out ?_; rintro g4 cap w4 o4 b4 gr4 hat4)
      have hg' : w.heap.size ≤ g' := (HO.out.lt _ rfl).1
      go_roundw
      case rel => exact ⟨k - 1, m + 1, g4, cap, _, by omega, by go_num, rfl, o4, K3.out.pushed gr4 hne hg', b4⟩
      case measure => simp [intOf]; omega
    · have hk0 : k = 0 := by omega
      subst hk0
      go_wp2_with fail
      refine (l01Once_any g w.heap.size A n c bs 6 _ HC.out hn (by omega) (by omega)).mono ?_
      rintro e w3 ⟨y, rfl, k3, g3⟩
      have O3 := Lib.hid (HO.out.other g3 hne)
      have K3 := Lib.hid k3
      have B3 := Lib.hid (HE.out.grown g3 HE.out.size (by rintro z ⟨⟩; exact hg) : Below w.heap.size w w3)
      clear k3 g3
      cases y
      · go_wp2_with fail
        go_ret
        exact ⟨_, _, _, _, rfl, by omega, O3.out, B3.out⟩
      · go_wp2_with fail
        refine (l01Number_any g w.heap.size A n c bs _ K3.out hn).mono ?_
        rintro e w4 ⟨z, rfl, k4, g4⟩
        have O4 := Lib.hid (O3.out.other g4 hne)
        have B4 := Lib.hid (B3.out.grown g4 B3.out.size (by rintro z ⟨⟩; exact hg) : Below w.heap.size w w4)
        clear k4 g4
        go_wp2_with (at_builtin; refine wpList_push rfl _ _ rfl w.heap.size (some ⟨g', 0, none⟩) m c' xs z rfl O4.out rfl (by omega) B4.out.size B4.out ?_; rintro g5 cap w5 o5 b5 gr5 hat5)
        go_ret
        exact ⟨_, _, _, _, rfl, by omega, o5, b5⟩
end Go.Proofs.Ytpmeocgmlchjaaa
