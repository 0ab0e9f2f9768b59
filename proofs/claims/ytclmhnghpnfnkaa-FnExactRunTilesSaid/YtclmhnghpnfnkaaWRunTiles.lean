/- The walk of the law FnExactRunTiles (printed by gen.py). -/
import Derived.Test.YtclmhnghpnfnkaaRow2W
import Derived.Test.YtclmhnghpnfnkaaRunT
import Derived.Test.YtclmhnghpnfnkaaRunTS
namespace Go.Proofs.Ytclmhnghpnfnkaa
set_option maxRecDepth 100000
open Go.RowKit
set_option maxHeartbeats 400000 in
theorem law_runTiles (a0 : Dev) (A1 : Option Addr) (n1 c1 : Nat) (x1 : List (List Int)) (A2 : Option Addr) (n2 c2 : Nat) (x2 : List Int) (A3 : Option Addr) (n3 c3 : Nat) (x3 : List Int) (A4 : Option Addr) (n4 c4 : Nat) (x4 : List Int) (w : World) (_hw0 : a0.wf) (h1 : Rows2 w A1 n1 x1) (m1 : n1 ≤ maxLen) (_hw1 : ∀ ys ∈ x1, ys.length ≤ maxLen ∧ ∀ y ∈ ys, Wf y) (h2 : Ints w A2 n2 x2) (m2 : n2 ≤ maxLen) (_hw2 : ∀ y ∈ x2, Wf y) (h3 : Ints w A3 n3 x3) (m3 : n3 ≤ maxLen) (_hw3 : ∀ y ∈ x3, Wf y) (h4 : Ints w A4 n4 x4) (m4 : n4 ≤ maxLen) (_hw4 : ∀ y ∈ x4, Wf y) :
    Calls Try.prog 14 #[.agg #[.int .i64 a0.W, .int .i64 a0.H, .int .i64 a0.T, .int .i64 a0.R], .slice A1 n1 c1, .slice A2 n2 c2, .slice A3 n3 c3, .slice A4 n4 c4] w fun e w' => e = .returned (.bool true) ∧ Below w.heap.size w w' := by
  unfold maxLen at *
  by_cases g2 : n2 ≤ 1048576
  · have d2 : decide ((n2 : Int) > 1048576) = false := by simp; omega
    by_cases g3 : n3 ≤ 1048576
    · have d3 : decide ((n3 : Int) > 1048576) = false := by simp; omega
      by_cases g4 : n4 ≤ 1048576
      · have d4 : decide ((n4 : Int) > 1048576) = false := by simp; omega
        go_enter Try.func14, Try.ntmps14
        have hB : Below w.heap.size w (w.alloc (.cells #[.int .i64 a0.W, .int .i64 a0.H, .int .i64 a0.T, .int .i64 a0.R] 23)) := (below_new (Below.refl _ _) _)
        have hD : Below (w.alloc (.cells #[.int .i64 a0.W, .int .i64 a0.H, .int .i64 a0.T, .int .i64 a0.R] 23)).heap.size (w.alloc (.cells #[.int .i64 a0.W, .int .i64 a0.H, .int .i64 a0.T, .int .i64 a0.R] 23)) (w.alloc (.cells #[.int .i64 a0.W, .int .i64 a0.H, .int .i64 a0.T, .int .i64 a0.R] 23)) := Below.refl _ _
        have hs0 : w.heap.size ≤ (w.alloc (.cells #[.int .i64 a0.W, .int .i64 a0.H, .int .i64 a0.T, .int .i64 a0.R] 23)).heap.size := hB.size
        go_wp2_with fail
        obtain ⟨hcc, hff⟩ := bcell hD
        have hr1 := rows_len _hw1
        clear _hw1
        refine (szIntSS_any A1 n1 c1 x1 (1048576) _ (h1.below hB) (by omega) (by omega) (by omega) hr1).mono ?_
        rintro e w' ⟨rfl, rfl⟩
        by_cases g1 : (size2 x1 : Int) ≤ 1048576
        rotate_left
        · rw [leftOf_neg g1]
          go_wp2_with fail
          go_ret
          exact ⟨rfl, hB⟩
        rw [leftOf_pos g1]
        have bd1 : size2 x1 ≤ 16777216 := by omega
        have be1 : size2 x1 ≤ 1099511627776 := by omega
        have bn1 := (size2_bd h1.1 be1).1
        have bz1 : sizeTo x1 n1 ≤ 16777216 := by have q := bd1; unfold size2 at q; rw [h1.1] at q; omega
        go_wp2_with fail
        clear hcc hff
        refine (toDevice_any a0 _ ).mono ?_
        rintro e w1 ⟨rfl, b1⟩
        have s1 : (w.alloc (.cells #[.int .i64 a0.W, .int .i64 a0.H, .int .i64 a0.T, .int .i64 a0.R] 23)).heap.size ≤ w1.heap.size := b1.size
        replace hB := below_tr hB b1
        replace hD := below_tr hD b1
        obtain ⟨hcc, hff⟩ := bcell hD
        go_wp2_with fail
        clear hcc hff
        refine (toIntSS_any A1 n1 c1 x1 _ (h1.below hB) bd1).mono ?_
        rintro e w2 ⟨Bs1, rfl, os1, b2⟩
        have s2 : w1.heap.size ≤ w2.heap.size := b2.size
        replace hB := below_tr hB b2
        replace hD := below_tr hD b2
        replace os1 : Own2 w1.heap.size w2.heap.size w2 Bs1 _ _ _ := os1
        obtain ⟨hcc, hff⟩ := bcell hD
        go_wp2_with fail
        clear hcc hff
        refine (toIntS_any A2 n2 c2 x2 _ (h2.below hB) (by omega)).mono ?_
        rintro e w3 ⟨Bs2, rfl, os2, b3⟩
        have s3 : w2.heap.size ≤ w3.heap.size := b3.size
        replace os1 := os1.below b3
        replace hB := below_tr hB b3
        replace hD := below_tr hD b3
        have l_os2 : Lies Bs2 w2.heap.size w3.heap.size := os2.lies
        obtain ⟨hcc, hff⟩ := bcell hD
        go_wp2_with fail
        clear hcc hff
        refine (toIntS_any A3 n3 c3 x3 _ (h3.below hB) (by omega)).mono ?_
        rintro e w4 ⟨Bs3, rfl, os3, b4⟩
        have s4 : w3.heap.size ≤ w4.heap.size := b4.size
        replace os1 := os1.below b4
        replace os2 := os2.below b4
        replace hB := below_tr hB b4
        replace hD := below_tr hD b4
        have l_os3 : Lies Bs3 w3.heap.size w4.heap.size := os3.lies
        obtain ⟨hcc, hff⟩ := bcell hD
        go_wp2_with fail
        clear hcc hff
        refine (toIntS_any A4 n4 c4 x4 _ (h4.below hB) (by omega)).mono ?_
        rintro e w5 ⟨Bs4, rfl, os4, b5⟩
        have s5 : w4.heap.size ≤ w5.heap.size := b5.size
        replace os1 := os1.below b5
        replace os2 := os2.below b5
        replace os3 := os3.below b5
        replace hB := below_tr hB b5
        replace hD := below_tr hD b5
        have l_os4 : Lies Bs4 w4.heap.size w5.heap.size := os4.lies
        obtain ⟨hcc, hff⟩ := bcell hD
        go_wp2_with fail
        clear hcc hff
        refine (srunTiles_any a0 Bs1 n1 n1 x1 Bs2 n2 n2 x2 Bs3 n3 n3 x3 Bs4 n4 n4 x4 _ (os1.rd) (os2.rd) (os3.rd) (os4.rd) be1 (by omega) (by omega) (by omega)).mono ?_
        rintro e w6 ⟨Rs0, rns0, rcs0, rfl, rs0, b6⟩
        have s6 : w5.heap.size ≤ w6.heap.size := b6.size
        replace os1 := os1.below b6
        replace os2 := os2.below b6
        replace os3 := os3.below b6
        replace os4 := os4.below b6
        replace hB := below_tr hB b6
        replace hD := below_tr hD b6
        have l_rs0 : Lies Rs0 w5.heap.size w6.heap.size := rs0.lies
        obtain ⟨hcc, hff⟩ := bcell hD
        have le_s0 : rns0 ≤ 1099511627776 := by have h1 := rs0.len; have h2 := rtF_le a0 x1 x2 x3 x4; omega
        go_wp2_with fail
        clear hcc hff
        refine (toIntSS_any A1 n1 c1 x1 _ (h1.below hB) bd1).mono ?_
        rintro e w7 ⟨Bx1, rfl, ox1, b7⟩
        have s7 : w6.heap.size ≤ w7.heap.size := b7.size
        replace os1 := os1.below b7
        replace os2 := os2.below b7
        replace os3 := os3.below b7
        replace os4 := os4.below b7
        replace rs0 := rs0.below b7
        replace hB := below_tr hB b7
        replace hD := below_tr hD b7
        replace ox1 : Own2 w6.heap.size w7.heap.size w7 Bx1 _ _ _ := ox1
        obtain ⟨hcc, hff⟩ := bcell hD
        go_wp2_with fail
        clear hcc hff
        refine (toIntS_any A2 n2 c2 x2 _ (h2.below hB) (by omega)).mono ?_
        rintro e w8 ⟨Bx2, rfl, ox2, b8⟩
        have s8 : w7.heap.size ≤ w8.heap.size := b8.size
        replace os1 := os1.below b8
        replace os2 := os2.below b8
        replace os3 := os3.below b8
        replace os4 := os4.below b8
        replace rs0 := rs0.below b8
        replace ox1 := ox1.below b8
        replace hB := below_tr hB b8
        replace hD := below_tr hD b8
        have l_ox2 : Lies Bx2 w7.heap.size w8.heap.size := ox2.lies
        obtain ⟨hcc, hff⟩ := bcell hD
        go_wp2_with fail
        clear hcc hff
        refine (toIntS_any A3 n3 c3 x3 _ (h3.below hB) (by omega)).mono ?_
        rintro e w9 ⟨Bx3, rfl, ox3, b9⟩
        have s9 : w8.heap.size ≤ w9.heap.size := b9.size
        replace os1 := os1.below b9
        replace os2 := os2.below b9
        replace os3 := os3.below b9
        replace os4 := os4.below b9
        replace rs0 := rs0.below b9
        replace ox1 := ox1.below b9
        replace ox2 := ox2.below b9
        replace hB := below_tr hB b9
        replace hD := below_tr hD b9
        have l_ox3 : Lies Bx3 w8.heap.size w9.heap.size := ox3.lies
        obtain ⟨hcc, hff⟩ := bcell hD
        go_wp2_with fail
        clear hcc hff
        refine (toIntS_any A4 n4 c4 x4 _ (h4.below hB) (by omega)).mono ?_
        rintro e w10 ⟨Bx4, rfl, ox4, b10⟩
        have s10 : w9.heap.size ≤ w10.heap.size := b10.size
        replace os1 := os1.below b10
        replace os2 := os2.below b10
        replace os3 := os3.below b10
        replace os4 := os4.below b10
        replace rs0 := rs0.below b10
        replace ox1 := ox1.below b10
        replace ox2 := ox2.below b10
        replace ox3 := ox3.below b10
        replace hB := below_tr hB b10
        replace hD := below_tr hD b10
        have l_ox4 : Lies Bx4 w9.heap.size w10.heap.size := ox4.lies
        obtain ⟨hcc, hff⟩ := bcell hD
        go_wp2_with fail
        clear hcc hff
        refine (toDevice_any a0 _ ).mono ?_
        rintro e w11 ⟨rfl, b11⟩
        have s11 : w10.heap.size ≤ w11.heap.size := b11.size
        replace os1 := os1.below b11
        replace os2 := os2.below b11
        replace os3 := os3.below b11
        replace os4 := os4.below b11
        replace rs0 := rs0.below b11
        replace ox1 := ox1.below b11
        replace ox2 := ox2.below b11
        replace ox3 := ox3.below b11
        replace ox4 := ox4.below b11
        replace hB := below_tr hB b11
        replace hD := below_tr hD b11
        obtain ⟨hcc, hff⟩ := bcell hD
        go_wp2_with fail
        clear hcc hff
        refine (prunTiles_any a0 Bx1 n1 n1 x1 Bx2 n2 n2 x2 Bx3 n3 n3 x3 Bx4 n4 n4 x4 _ (ox1.rd) (ox2.rd) (ox3.rd) (ox4.rd) be1 (by omega) (by omega) (by omega)).mono ?_
        rintro e w12 ⟨Rg0, rng0, rcg0, rfl, rg0, b12⟩
        have s12 : w11.heap.size ≤ w12.heap.size := b12.size
        replace os1 := os1.below b12
        replace os2 := os2.below b12
        replace os3 := os3.below b12
        replace os4 := os4.below b12
        replace rs0 := rs0.below b12
        replace ox1 := ox1.below b12
        replace ox2 := ox2.below b12
        replace ox3 := ox3.below b12
        replace ox4 := ox4.below b12
        replace hB := below_tr hB b12
        replace hD := below_tr hD b12
        have l_rg0 : Lies Rg0 w11.heap.size w12.heap.size := rg0.lies
        obtain ⟨hcc, hff⟩ := bcell hD
        have le_g0 : rng0 ≤ 1099511627776 := by have h1 := rg0.len; have h2 := rtF_le a0 x1 x2 x3 x4; omega
        go_wp2_with fail
        clear hcc hff
        refine (eqIntS_same Rg0 Rs0 rng0 rns0 rcg0 rcs0 _ _ rg0.rd rs0.rd le_g0).mono ?_
        rintro e w13 ⟨rfl, b13⟩
        have s13 : w12.heap.size ≤ w13.heap.size := b13.size
        replace os1 := os1.below b13
        replace os2 := os2.below b13
        replace os3 := os3.below b13
        replace os4 := os4.below b13
        replace rs0 := rs0.below b13
        replace ox1 := ox1.below b13
        replace ox2 := ox2.below b13
        replace ox3 := ox3.below b13
        replace ox4 := ox4.below b13
        replace rg0 := rg0.below b13
        replace hB := below_tr hB b13
        replace hD := below_tr hD b13
        obtain ⟨hcc, hff⟩ := bcell hD
        go_wp2_with fail
        clear hcc hff
        refine (toIntSS_any A1 n1 c1 x1 _ (h1.below hB) bd1).mono ?_
        rintro e w14 ⟨By11, rfl, oy11, b14⟩
        have s14 : w13.heap.size ≤ w14.heap.size := b14.size
        replace os1 := os1.below b14
        replace os2 := os2.below b14
        replace os3 := os3.below b14
        replace os4 := os4.below b14
        replace rs0 := rs0.below b14
        replace ox1 := ox1.below b14
        replace ox2 := ox2.below b14
        replace ox3 := ox3.below b14
        replace ox4 := ox4.below b14
        replace rg0 := rg0.below b14
        replace hB := below_tr hB b14
        replace hD := below_tr hD b14
        replace oy11 : Own2 w13.heap.size w14.heap.size w14 By11 _ _ _ := oy11
        obtain ⟨hcc, hff⟩ := bcell hD
        go_wp2_with fail
        clear hcc hff
        refine (eqIntSS_same Bx1 By11 n1 n1 n1 n1 x1 _ ox1.rd oy11.rd be1).mono ?_
        rintro e w15 ⟨rfl, b15⟩
        have s15 : w14.heap.size ≤ w15.heap.size := b15.size
        replace os1 := os1.below b15
        replace os2 := os2.below b15
        replace os3 := os3.below b15
        replace os4 := os4.below b15
        replace rs0 := rs0.below b15
        replace ox1 := ox1.below b15
        replace ox2 := ox2.below b15
        replace ox3 := ox3.below b15
        replace ox4 := ox4.below b15
        replace rg0 := rg0.below b15
        replace oy11 := oy11.below b15
        replace hB := below_tr hB b15
        replace hD := below_tr hD b15
        obtain ⟨hcc, hff⟩ := bcell hD
        go_wp2_with fail
        clear hcc hff
        refine (toIntS_any A2 n2 c2 x2 _ (h2.below hB) (by omega)).mono ?_
        rintro e w16 ⟨By22, rfl, oy22, b16⟩
        have s16 : w15.heap.size ≤ w16.heap.size := b16.size
        replace os1 := os1.below b16
        replace os2 := os2.below b16
        replace os3 := os3.below b16
        replace os4 := os4.below b16
        replace rs0 := rs0.below b16
        replace ox1 := ox1.below b16
        replace ox2 := ox2.below b16
        replace ox3 := ox3.below b16
        replace ox4 := ox4.below b16
        replace rg0 := rg0.below b16
        replace oy11 := oy11.below b16
        replace hB := below_tr hB b16
        replace hD := below_tr hD b16
        have l_oy22 : Lies By22 w15.heap.size w16.heap.size := oy22.lies
        obtain ⟨hcc, hff⟩ := bcell hD
        go_wp2_with fail
        clear hcc hff
        refine (eqIntS_same Bx2 By22 n2 n2 n2 n2 x2 _ ox2.rd oy22.rd (by omega)).mono ?_
        rintro e w17 ⟨rfl, b17⟩
        have s17 : w16.heap.size ≤ w17.heap.size := b17.size
        replace os1 := os1.below b17
        replace os2 := os2.below b17
        replace os3 := os3.below b17
        replace os4 := os4.below b17
        replace rs0 := rs0.below b17
        replace ox1 := ox1.below b17
        replace ox2 := ox2.below b17
        replace ox3 := ox3.below b17
        replace ox4 := ox4.below b17
        replace rg0 := rg0.below b17
        replace oy11 := oy11.below b17
        replace oy22 := oy22.below b17
        replace hB := below_tr hB b17
        replace hD := below_tr hD b17
        obtain ⟨hcc, hff⟩ := bcell hD
        go_wp2_with fail
        clear hcc hff
        refine (toIntS_any A3 n3 c3 x3 _ (h3.below hB) (by omega)).mono ?_
        rintro e w18 ⟨By33, rfl, oy33, b18⟩
        have s18 : w17.heap.size ≤ w18.heap.size := b18.size
        replace os1 := os1.below b18
        replace os2 := os2.below b18
        replace os3 := os3.below b18
        replace os4 := os4.below b18
        replace rs0 := rs0.below b18
        replace ox1 := ox1.below b18
        replace ox2 := ox2.below b18
        replace ox3 := ox3.below b18
        replace ox4 := ox4.below b18
        replace rg0 := rg0.below b18
        replace oy11 := oy11.below b18
        replace oy22 := oy22.below b18
        replace hB := below_tr hB b18
        replace hD := below_tr hD b18
        have l_oy33 : Lies By33 w17.heap.size w18.heap.size := oy33.lies
        obtain ⟨hcc, hff⟩ := bcell hD
        go_wp2_with fail
        clear hcc hff
        refine (eqIntS_same Bx3 By33 n3 n3 n3 n3 x3 _ ox3.rd oy33.rd (by omega)).mono ?_
        rintro e w19 ⟨rfl, b19⟩
        have s19 : w18.heap.size ≤ w19.heap.size := b19.size
        replace os1 := os1.below b19
        replace os2 := os2.below b19
        replace os3 := os3.below b19
        replace os4 := os4.below b19
        replace rs0 := rs0.below b19
        replace ox1 := ox1.below b19
        replace ox2 := ox2.below b19
        replace ox3 := ox3.below b19
        replace ox4 := ox4.below b19
        replace rg0 := rg0.below b19
        replace oy11 := oy11.below b19
        replace oy22 := oy22.below b19
        replace oy33 := oy33.below b19
        replace hB := below_tr hB b19
        replace hD := below_tr hD b19
        obtain ⟨hcc, hff⟩ := bcell hD
        go_wp2_with fail
        clear hcc hff
        refine (toIntS_any A4 n4 c4 x4 _ (h4.below hB) (by omega)).mono ?_
        rintro e w20 ⟨By44, rfl, oy44, b20⟩
        have s20 : w19.heap.size ≤ w20.heap.size := b20.size
        replace os1 := os1.below b20
        replace os2 := os2.below b20
        replace os3 := os3.below b20
        replace os4 := os4.below b20
        replace rs0 := rs0.below b20
        replace ox1 := ox1.below b20
        replace ox2 := ox2.below b20
        replace ox3 := ox3.below b20
        replace ox4 := ox4.below b20
        replace rg0 := rg0.below b20
        replace oy11 := oy11.below b20
        replace oy22 := oy22.below b20
        replace oy33 := oy33.below b20
        replace hB := below_tr hB b20
        replace hD := below_tr hD b20
        have l_oy44 : Lies By44 w19.heap.size w20.heap.size := oy44.lies
        obtain ⟨hcc, hff⟩ := bcell hD
        go_wp2_with fail
        clear hcc hff
        refine (eqIntS_same Bx4 By44 n4 n4 n4 n4 x4 _ ox4.rd oy44.rd (by omega)).mono ?_
        rintro e w21 ⟨rfl, b21⟩
        have s21 : w20.heap.size ≤ w21.heap.size := b21.size
        replace os1 := os1.below b21
        replace os2 := os2.below b21
        replace os3 := os3.below b21
        replace os4 := os4.below b21
        replace rs0 := rs0.below b21
        replace ox1 := ox1.below b21
        replace ox2 := ox2.below b21
        replace ox3 := ox3.below b21
        replace ox4 := ox4.below b21
        replace rg0 := rg0.below b21
        replace oy11 := oy11.below b21
        replace oy22 := oy22.below b21
        replace oy33 := oy33.below b21
        replace oy44 := oy44.below b21
        replace hB := below_tr hB b21
        replace hD := below_tr hD b21
        obtain ⟨hcc, hff⟩ := bcell hD
        go_wp2_with fail
        clear hcc hff
        refine (markIntSS_chg _ _ Bx1 n1 n1 x1 1 _ ox1 (by omega) (by omega) be1).mono ?_
        rintro e w22 ⟨rfl, omox1, g22⟩
        have s22 : w21.heap.size ≤ w22.heap.size := g22.size
        replace os1 := os1.chg g22 (by omega)
        replace os2 := os2.chg g22 l_os2 (by omega)
        replace os3 := os3.chg g22 l_os3 (by omega)
        replace os4 := os4.chg g22 l_os4 (by omega)
        replace rs0 := rs0.chg g22 l_rs0 (by omega)
        replace ox2 := ox2.chg g22 l_ox2 (by omega)
        replace ox3 := ox3.chg g22 l_ox3 (by omega)
        replace ox4 := ox4.chg g22 l_ox4 (by omega)
        replace rg0 := rg0.chg g22 l_rg0 (by omega)
        replace oy11 := oy11.chg g22 (by omega)
        replace oy22 := oy22.chg g22 l_oy22 (by omega)
        replace oy33 := oy33.chg g22 l_oy33 (by omega)
        replace oy44 := oy44.chg g22 l_oy44 (by omega)
        clear ox1
        replace hB := below_chg hB g22 (by omega)
        replace hD := below_chg hD g22 (by omega)
        obtain ⟨hcc, hff⟩ := bcell hD
        go_wp2_with fail
        clear hcc hff
        refine (markIntS_chg _ _ _ Bx2 n2 n2 x2 _ _ ox2 l_ox2 (by omega) (by omega) (by omega)).mono ?_
        rintro e w23 ⟨rfl, omox2, g23⟩
        have s23 : w22.heap.size ≤ w23.heap.size := g23.size
        replace os1 := os1.chg g23 (by omega)
        replace os2 := os2.chg g23 l_os2 (by omega)
        replace os3 := os3.chg g23 l_os3 (by omega)
        replace os4 := os4.chg g23 l_os4 (by omega)
        replace rs0 := rs0.chg g23 l_rs0 (by omega)
        replace ox3 := ox3.chg g23 l_ox3 (by omega)
        replace ox4 := ox4.chg g23 l_ox4 (by omega)
        replace rg0 := rg0.chg g23 l_rg0 (by omega)
        replace oy11 := oy11.chg g23 (by omega)
        replace oy22 := oy22.chg g23 l_oy22 (by omega)
        replace oy33 := oy33.chg g23 l_oy33 (by omega)
        replace oy44 := oy44.chg g23 l_oy44 (by omega)
        replace omox1 := omox1.chg g23 (by omega)
        clear ox2
        replace hB := below_chg hB g23 (by omega)
        replace hD := below_chg hD g23 (by omega)
        obtain ⟨hcc, hff⟩ := bcell hD
        go_wp2_with fail
        clear hcc hff
        refine (markIntS_chg _ _ _ Bx3 n3 n3 x3 _ _ ox3 l_ox3 (by omega) (by omega) (by omega)).mono ?_
        rintro e w24 ⟨rfl, omox3, g24⟩
        have s24 : w23.heap.size ≤ w24.heap.size := g24.size
        replace os1 := os1.chg g24 (by omega)
        replace os2 := os2.chg g24 l_os2 (by omega)
        replace os3 := os3.chg g24 l_os3 (by omega)
        replace os4 := os4.chg g24 l_os4 (by omega)
        replace rs0 := rs0.chg g24 l_rs0 (by omega)
        replace ox4 := ox4.chg g24 l_ox4 (by omega)
        replace rg0 := rg0.chg g24 l_rg0 (by omega)
        replace oy11 := oy11.chg g24 (by omega)
        replace oy22 := oy22.chg g24 l_oy22 (by omega)
        replace oy33 := oy33.chg g24 l_oy33 (by omega)
        replace oy44 := oy44.chg g24 l_oy44 (by omega)
        replace omox1 := omox1.chg g24 (by omega)
        replace omox2 := omox2.chg g24 l_ox2 (by omega)
        clear ox3
        replace hB := below_chg hB g24 (by omega)
        replace hD := below_chg hD g24 (by omega)
        obtain ⟨hcc, hff⟩ := bcell hD
        go_wp2_with fail
        clear hcc hff
        refine (markIntS_chg _ _ _ Bx4 n4 n4 x4 _ _ ox4 l_ox4 (by omega) (by omega) (by omega)).mono ?_
        rintro e w25 ⟨rfl, omox4, g25⟩
        have s25 : w24.heap.size ≤ w25.heap.size := g25.size
        replace os1 := os1.chg g25 (by omega)
        replace os2 := os2.chg g25 l_os2 (by omega)
        replace os3 := os3.chg g25 l_os3 (by omega)
        replace os4 := os4.chg g25 l_os4 (by omega)
        replace rs0 := rs0.chg g25 l_rs0 (by omega)
        replace rg0 := rg0.chg g25 l_rg0 (by omega)
        replace oy11 := oy11.chg g25 (by omega)
        replace oy22 := oy22.chg g25 l_oy22 (by omega)
        replace oy33 := oy33.chg g25 l_oy33 (by omega)
        replace oy44 := oy44.chg g25 l_oy44 (by omega)
        replace omox1 := omox1.chg g25 (by omega)
        replace omox2 := omox2.chg g25 l_ox2 (by omega)
        replace omox3 := omox3.chg g25 l_ox3 (by omega)
        clear ox4
        replace hB := below_chg hB g25 (by omega)
        replace hD := below_chg hD g25 (by omega)
        obtain ⟨hcc, hff⟩ := bcell hD
        go_wp2_with fail
        clear hcc hff
        refine (eqIntS_same Rg0 Rs0 rng0 rns0 rcg0 rcs0 _ _ rg0.rd rs0.rd le_g0).mono ?_
        rintro e w26 ⟨rfl, b26⟩
        have s26 : w25.heap.size ≤ w26.heap.size := b26.size
        replace os1 := os1.below b26
        replace os2 := os2.below b26
        replace os3 := os3.below b26
        replace os4 := os4.below b26
        replace rs0 := rs0.below b26
        replace rg0 := rg0.below b26
        replace oy11 := oy11.below b26
        replace oy22 := oy22.below b26
        replace oy33 := oy33.below b26
        replace oy44 := oy44.below b26
        replace omox1 := omox1.below b26
        replace omox2 := omox2.below b26
        replace omox3 := omox3.below b26
        replace omox4 := omox4.below b26
        replace hB := below_tr hB b26
        replace hD := below_tr hD b26
        obtain ⟨hcc, hff⟩ := bcell hD
        go_wp2_with fail
        clear hcc hff
        refine (markIntS_chg _ _ _ Rg0 rng0 rcg0 _ 1 _ rg0 l_rg0 (by omega) (by omega) le_g0).mono ?_
        rintro e w27 ⟨rfl, omrg0, g27⟩
        have s27 : w26.heap.size ≤ w27.heap.size := g27.size
        replace os1 := os1.chg g27 (by omega)
        replace os2 := os2.chg g27 l_os2 (by omega)
        replace os3 := os3.chg g27 l_os3 (by omega)
        replace os4 := os4.chg g27 l_os4 (by omega)
        replace rs0 := rs0.chg g27 l_rs0 (by omega)
        replace oy11 := oy11.chg g27 (by omega)
        replace oy22 := oy22.chg g27 l_oy22 (by omega)
        replace oy33 := oy33.chg g27 l_oy33 (by omega)
        replace oy44 := oy44.chg g27 l_oy44 (by omega)
        replace omox1 := omox1.chg g27 (by omega)
        replace omox2 := omox2.chg g27 l_ox2 (by omega)
        replace omox3 := omox3.chg g27 l_ox3 (by omega)
        replace omox4 := omox4.chg g27 l_ox4 (by omega)
        clear rg0
        replace hB := below_chg hB g27 (by omega)
        replace hD := below_chg hD g27 (by omega)
        obtain ⟨hcc, hff⟩ := bcell hD
        go_wp2_with fail
        clear hcc hff
        refine (heldIntS_any Rg0 rng0 rcg0 _ 1 _ omrg0.rd rfl (by omega) (by omega) le_g0).mono ?_
        rintro e w28 ⟨rfl, b28⟩
        have s28 : w27.heap.size ≤ w28.heap.size := b28.size
        replace os1 := os1.below b28
        replace os2 := os2.below b28
        replace os3 := os3.below b28
        replace os4 := os4.below b28
        replace rs0 := rs0.below b28
        replace oy11 := oy11.below b28
        replace oy22 := oy22.below b28
        replace oy33 := oy33.below b28
        replace oy44 := oy44.below b28
        replace omox1 := omox1.below b28
        replace omox2 := omox2.below b28
        replace omox3 := omox3.below b28
        replace omox4 := omox4.below b28
        replace omrg0 := omrg0.below b28
        replace hB := below_tr hB b28
        replace hD := below_tr hD b28
        obtain ⟨hcc, hff⟩ := bcell hD
        go_wp2_with fail
        clear hcc hff
        refine (toDevice_any a0 _ ).mono ?_
        rintro e w29 ⟨rfl, b29⟩
        have s29 : w28.heap.size ≤ w29.heap.size := b29.size
        replace os1 := os1.below b29
        replace os2 := os2.below b29
        replace os3 := os3.below b29
        replace os4 := os4.below b29
        replace rs0 := rs0.below b29
        replace oy11 := oy11.below b29
        replace oy22 := oy22.below b29
        replace oy33 := oy33.below b29
        replace oy44 := oy44.below b29
        replace omox1 := omox1.below b29
        replace omox2 := omox2.below b29
        replace omox3 := omox3.below b29
        replace omox4 := omox4.below b29
        replace omrg0 := omrg0.below b29
        replace hB := below_tr hB b29
        replace hD := below_tr hD b29
        obtain ⟨hcc, hff⟩ := bcell hD
        go_wp2_with fail
        clear hcc hff
        refine (toIntSS_any A1 n1 c1 x1 _ (h1.below hB) bd1).mono ?_
        rintro e w30 ⟨Bh1, rfl, oh1, b30⟩
        have s30 : w29.heap.size ≤ w30.heap.size := b30.size
        replace os1 := os1.below b30
        replace os2 := os2.below b30
        replace os3 := os3.below b30
        replace os4 := os4.below b30
        replace rs0 := rs0.below b30
        replace oy11 := oy11.below b30
        replace oy22 := oy22.below b30
        replace oy33 := oy33.below b30
        replace oy44 := oy44.below b30
        replace omox1 := omox1.below b30
        replace omox2 := omox2.below b30
        replace omox3 := omox3.below b30
        replace omox4 := omox4.below b30
        replace omrg0 := omrg0.below b30
        replace hB := below_tr hB b30
        replace hD := below_tr hD b30
        replace oh1 : Own2 w29.heap.size w30.heap.size w30 Bh1 _ _ _ := oh1
        obtain ⟨hcc, hff⟩ := bcell hD
        go_wp2_with fail
        clear hcc hff
        refine (toIntS_any A2 n2 c2 x2 _ (h2.below hB) (by omega)).mono ?_
        rintro e w31 ⟨Bh2, rfl, oh2, b31⟩
        have s31 : w30.heap.size ≤ w31.heap.size := b31.size
        replace os1 := os1.below b31
        replace os2 := os2.below b31
        replace os3 := os3.below b31
        replace os4 := os4.below b31
        replace rs0 := rs0.below b31
        replace oy11 := oy11.below b31
        replace oy22 := oy22.below b31
        replace oy33 := oy33.below b31
        replace oy44 := oy44.below b31
        replace omox1 := omox1.below b31
        replace omox2 := omox2.below b31
        replace omox3 := omox3.below b31
        replace omox4 := omox4.below b31
        replace omrg0 := omrg0.below b31
        replace oh1 := oh1.below b31
        replace hB := below_tr hB b31
        replace hD := below_tr hD b31
        have l_oh2 : Lies Bh2 w30.heap.size w31.heap.size := oh2.lies
        obtain ⟨hcc, hff⟩ := bcell hD
        go_wp2_with fail
        clear hcc hff
        refine (toIntS_any A3 n3 c3 x3 _ (h3.below hB) (by omega)).mono ?_
        rintro e w32 ⟨Bh3, rfl, oh3, b32⟩
        have s32 : w31.heap.size ≤ w32.heap.size := b32.size
        replace os1 := os1.below b32
        replace os2 := os2.below b32
        replace os3 := os3.below b32
        replace os4 := os4.below b32
        replace rs0 := rs0.below b32
        replace oy11 := oy11.below b32
        replace oy22 := oy22.below b32
        replace oy33 := oy33.below b32
        replace oy44 := oy44.below b32
        replace omox1 := omox1.below b32
        replace omox2 := omox2.below b32
        replace omox3 := omox3.below b32
        replace omox4 := omox4.below b32
        replace omrg0 := omrg0.below b32
        replace oh1 := oh1.below b32
        replace oh2 := oh2.below b32
        replace hB := below_tr hB b32
        replace hD := below_tr hD b32
        have l_oh3 : Lies Bh3 w31.heap.size w32.heap.size := oh3.lies
        obtain ⟨hcc, hff⟩ := bcell hD
        go_wp2_with fail
        clear hcc hff
        refine (toIntS_any A4 n4 c4 x4 _ (h4.below hB) (by omega)).mono ?_
        rintro e w33 ⟨Bh4, rfl, oh4, b33⟩
        have s33 : w32.heap.size ≤ w33.heap.size := b33.size
        replace os1 := os1.below b33
        replace os2 := os2.below b33
        replace os3 := os3.below b33
        replace os4 := os4.below b33
        replace rs0 := rs0.below b33
        replace oy11 := oy11.below b33
        replace oy22 := oy22.below b33
        replace oy33 := oy33.below b33
        replace oy44 := oy44.below b33
        replace omox1 := omox1.below b33
        replace omox2 := omox2.below b33
        replace omox3 := omox3.below b33
        replace omox4 := omox4.below b33
        replace omrg0 := omrg0.below b33
        replace oh1 := oh1.below b33
        replace oh2 := oh2.below b33
        replace oh3 := oh3.below b33
        replace hB := below_tr hB b33
        replace hD := below_tr hD b33
        have l_oh4 : Lies Bh4 w32.heap.size w33.heap.size := oh4.lies
        obtain ⟨hcc, hff⟩ := bcell hD
        go_wp2_with fail
        clear hcc hff
        refine (prunTiles_any a0 Bh1 n1 n1 x1 Bh2 n2 n2 x2 Bh3 n3 n3 x3 Bh4 n4 n4 x4 _ (oh1.rd) (oh2.rd) (oh3.rd) (oh4.rd) be1 (by omega) (by omega) (by omega)).mono ?_
        rintro e w34 ⟨Rh0, rnh0, rch0, rfl, rh0, b34⟩
        have s34 : w33.heap.size ≤ w34.heap.size := b34.size
        replace os1 := os1.below b34
        replace os2 := os2.below b34
        replace os3 := os3.below b34
        replace os4 := os4.below b34
        replace rs0 := rs0.below b34
        replace oy11 := oy11.below b34
        replace oy22 := oy22.below b34
        replace oy33 := oy33.below b34
        replace oy44 := oy44.below b34
        replace omox1 := omox1.below b34
        replace omox2 := omox2.below b34
        replace omox3 := omox3.below b34
        replace omox4 := omox4.below b34
        replace omrg0 := omrg0.below b34
        replace oh1 := oh1.below b34
        replace oh2 := oh2.below b34
        replace oh3 := oh3.below b34
        replace oh4 := oh4.below b34
        replace hB := below_tr hB b34
        replace hD := below_tr hD b34
        have l_rh0 : Lies Rh0 w33.heap.size w34.heap.size := rh0.lies
        obtain ⟨hcc, hff⟩ := bcell hD
        have le_h0 : rnh0 ≤ 1099511627776 := by have h1 := rh0.len; have h2 := rtF_le a0 x1 x2 x3 x4; omega
        go_wp2_with fail
        clear hcc hff
        refine (eqIntS_same Rh0 Rs0 rnh0 rns0 rch0 rcs0 _ _ rh0.rd rs0.rd le_h0).mono ?_
        rintro e w35 ⟨rfl, b35⟩
        have s35 : w34.heap.size ≤ w35.heap.size := b35.size
        replace os1 := os1.below b35
        replace os2 := os2.below b35
        replace os3 := os3.below b35
        replace os4 := os4.below b35
        replace rs0 := rs0.below b35
        replace oy11 := oy11.below b35
        replace oy22 := oy22.below b35
        replace oy33 := oy33.below b35
        replace oy44 := oy44.below b35
        replace omox1 := omox1.below b35
        replace omox2 := omox2.below b35
        replace omox3 := omox3.below b35
        replace omox4 := omox4.below b35
        replace omrg0 := omrg0.below b35
        replace oh1 := oh1.below b35
        replace oh2 := oh2.below b35
        replace oh3 := oh3.below b35
        replace oh4 := oh4.below b35
        replace rh0 := rh0.below b35
        replace hB := below_tr hB b35
        replace hD := below_tr hD b35
        obtain ⟨hcc, hff⟩ := bcell hD
        go_wp2_with fail
        clear hcc hff
        refine (heldIntS_any Rg0 rng0 rcg0 _ 1 _ omrg0.rd rfl (by omega) (by omega) le_g0).mono ?_
        rintro e w36 ⟨rfl, b36⟩
        have s36 : w35.heap.size ≤ w36.heap.size := b36.size
        replace os1 := os1.below b36
        replace os2 := os2.below b36
        replace os3 := os3.below b36
        replace os4 := os4.below b36
        replace rs0 := rs0.below b36
        replace oy11 := oy11.below b36
        replace oy22 := oy22.below b36
        replace oy33 := oy33.below b36
        replace oy44 := oy44.below b36
        replace omox1 := omox1.below b36
        replace omox2 := omox2.below b36
        replace omox3 := omox3.below b36
        replace omox4 := omox4.below b36
        replace omrg0 := omrg0.below b36
        replace oh1 := oh1.below b36
        replace oh2 := oh2.below b36
        replace oh3 := oh3.below b36
        replace oh4 := oh4.below b36
        replace rh0 := rh0.below b36
        replace hB := below_tr hB b36
        replace hD := below_tr hD b36
        obtain ⟨hcc, hff⟩ := bcell hD
        go_wp2_with fail
        go_ret
        exact ⟨rfl, hB⟩
      · have d4 : decide ((n4 : Int) > 1048576) = true := by simp; omega
        go_enter Try.func14, Try.ntmps14
        go_wp2_with fail
        go_ret
        exact ⟨rfl, (below_new (Below.refl _ _) _)⟩
    · have d3 : decide ((n3 : Int) > 1048576) = true := by simp; omega
      go_enter Try.func14, Try.ntmps14
      go_wp2_with fail
      go_ret
      exact ⟨rfl, (below_new (Below.refl _ _) _)⟩
  · have d2 : decide ((n2 : Int) > 1048576) = true := by simp; omega
    go_enter Try.func14, Try.ntmps14
    go_wp2_with fail
    go_ret
    exact ⟨rfl, (below_new (Below.refl _ _) _)⟩
end Go.Proofs.Ytclmhnghpnfnkaa
