/- The walk of the law FnExactEmuRun (printed by gen.py). -/
import Derived.Test.YtclmhnghpnfnkaaRow2W
import Derived.Test.YtclmhnghpnfnkaaRunS
namespace Go.Proofs.Ytclmhnghpnfnkaa
set_option maxRecDepth 100000
open Go.RowKit
set_option maxHeartbeats 400000 in
theorem law_emuRun (a0 : Dev) (A1 : Option Addr) (n1 c1 : Nat) (x1 : List (List Int)) (A2 : Option Addr) (n2 c2 : Nat) (x2 : List (List Int)) (w : World) (_hw0 : a0.wf) (h1 : Rows2 w A1 n1 x1) (m1 : n1 ≤ maxLen) (_hw1 : ∀ ys ∈ x1, ys.length ≤ maxLen ∧ ∀ y ∈ ys, Wf y) (h2 : Rows2 w A2 n2 x2) (m2 : n2 ≤ maxLen) (_hw2 : ∀ ys ∈ x2, ys.length ≤ maxLen ∧ ∀ y ∈ ys, Wf y) :
    Calls Try.prog 13 #[.agg #[.int .i64 a0.W, .int .i64 a0.H, .int .i64 a0.T, .int .i64 a0.R], .slice A1 n1 c1, .slice A2 n2 c2] w fun e w' => e = .returned (.bool true) ∧ Below w.heap.size w w' := by
  unfold maxLen at *
  go_enter Try.func13, Try.ntmps13
  have hB : Below w.heap.size w (w.alloc (.cells #[.int .i64 a0.W, .int .i64 a0.H, .int .i64 a0.T, .int .i64 a0.R] 23)) := (below_new (Below.refl _ _) _)
  have hD : Below (w.alloc (.cells #[.int .i64 a0.W, .int .i64 a0.H, .int .i64 a0.T, .int .i64 a0.R] 23)).heap.size (w.alloc (.cells #[.int .i64 a0.W, .int .i64 a0.H, .int .i64 a0.T, .int .i64 a0.R] 23)) (w.alloc (.cells #[.int .i64 a0.W, .int .i64 a0.H, .int .i64 a0.T, .int .i64 a0.R] 23)) := Below.refl _ _
  have hs0 : w.heap.size ≤ (w.alloc (.cells #[.int .i64 a0.W, .int .i64 a0.H, .int .i64 a0.T, .int .i64 a0.R] 23)).heap.size := hB.size
  go_wp2_with fail
  obtain ⟨hcc, hff⟩ := bcell hD
  have hr1 := rows_len _hw1
  clear _hw1
  refine (szIntSS_any A1 n1 c1 x1 (1048576) _ (h1.below hB) (by omega) (by omega) (by omega) hr1).mono ?_
  rintro e w' ⟨rfl, rfl⟩
  by_cases g1 : (size2 x1 : Int) ≤ 1048576
  rotate_left
  · rw [leftOf_neg g1]
    go_wp2_with fail
    go_ret
    exact ⟨rfl, hB⟩
  rw [leftOf_pos g1]
  go_wp2_with fail
  have hr2 := rows_len _hw2
  clear _hw2
  refine (szIntSS_any A2 n2 c2 x2 (1048576 - (size2 x1 : Int)) _ (h2.below hB) (by omega) (by omega) (by omega) hr2).mono ?_
  rintro e w' ⟨rfl, rfl⟩
  by_cases g2 : (size2 x2 : Int) ≤ 1048576 - (size2 x1 : Int)
  rotate_left
  · rw [leftOf_neg g2]
    go_wp2_with fail
    go_ret
    exact ⟨rfl, hB⟩
  rw [leftOf_pos g2]
  have bd1 : size2 x1 ≤ 16777216 := by omega
  have be1 : size2 x1 ≤ 1099511627776 := by omega
  have bn1 := (size2_bd h1.1 be1).1
  have bz1 : sizeTo x1 n1 ≤ 16777216 := by have q := bd1; unfold size2 at q; rw [h1.1] at q; omega
  have bd2 : size2 x2 ≤ 16777216 := by omega
  have be2 : size2 x2 ≤ 1099511627776 := by omega
  have bn2 := (size2_bd h2.1 be2).1
  have bz2 : sizeTo x2 n2 ≤ 16777216 := by have q := bd2; unfold size2 at q; rw [h2.1] at q; omega
  go_wp2_with fail
  clear hcc hff
  refine (toDevice_any a0 _ ).mono ?_
  rintro e w1 ⟨rfl, b1⟩
  have s1 : (w.alloc (.cells #[.int .i64 a0.W, .int .i64 a0.H, .int .i64 a0.T, .int .i64 a0.R] 23)).heap.size ≤ w1.heap.size := b1.size
  replace hB := below_tr hB b1
  replace hD := below_tr hD b1
  obtain ⟨hcc, hff⟩ := bcell hD
  go_wp2_with fail
  clear hcc hff
  refine (toIntSS_any A1 n1 c1 x1 _ (h1.below hB) bd1).mono ?_
  rintro e w2 ⟨Bs1, rfl, os1, b2⟩
  have s2 : w1.heap.size ≤ w2.heap.size := b2.size
  replace hB := below_tr hB b2
  replace hD := below_tr hD b2
  replace os1 : Own2 w1.heap.size w2.heap.size w2 Bs1 _ _ _ := os1
  obtain ⟨hcc, hff⟩ := bcell hD
  go_wp2_with fail
  clear hcc hff
  refine (toIntSS_any A2 n2 c2 x2 _ (h2.below hB) bd2).mono ?_
  rintro e w3 ⟨Bs2, rfl, os2, b3⟩
  have s3 : w2.heap.size ≤ w3.heap.size := b3.size
  replace os1 := os1.below b3
  replace hB := below_tr hB b3
  replace hD := below_tr hD b3
  replace os2 : Own2 w2.heap.size w3.heap.size w3 Bs2 _ _ _ := os2
  obtain ⟨hcc, hff⟩ := bcell hD
  go_wp2_with fail
  clear hcc hff
  refine (semuRun_any a0 Bs1 n1 n1 x1 Bs2 n2 n2 x2 _ (os1.rd) (os2.rd) be1 be2).mono ?_
  rintro e w4 ⟨Rs0, rns0, rcs0, rfl, rs0, b4⟩
  have s4 : w3.heap.size ≤ w4.heap.size := b4.size
  replace os1 := os1.below b4
  replace os2 := os2.below b4
  replace hB := below_tr hB b4
  replace hD := below_tr hD b4
  replace rs0 : Own2 w3.heap.size w4.heap.size w4 Rs0 rns0 rcs0 _ := rs0
  obtain ⟨hcc, hff⟩ := bcell hD
  have le_s0 := runF_size a0 x1 x2
  have ln_s0 : rns0 ≤ 1099511627776 := (size2_bd rs0.len le_s0).1
  go_wp2_with fail
  clear hcc hff
  refine (toIntSS_any A1 n1 c1 x1 _ (h1.below hB) bd1).mono ?_
  rintro e w5 ⟨Bx1, rfl, ox1, b5⟩
  have s5 : w4.heap.size ≤ w5.heap.size := b5.size
  replace os1 := os1.below b5
  replace os2 := os2.below b5
  replace rs0 := rs0.below b5
  replace hB := below_tr hB b5
  replace hD := below_tr hD b5
  replace ox1 : Own2 w4.heap.size w5.heap.size w5 Bx1 _ _ _ := ox1
  obtain ⟨hcc, hff⟩ := bcell hD
  go_wp2_with fail
  clear hcc hff
  refine (toIntSS_any A2 n2 c2 x2 _ (h2.below hB) bd2).mono ?_
  rintro e w6 ⟨Bx2, rfl, ox2, b6⟩
  have s6 : w5.heap.size ≤ w6.heap.size := b6.size
  replace os1 := os1.below b6
  replace os2 := os2.below b6
  replace rs0 := rs0.below b6
  replace ox1 := ox1.below b6
  replace hB := below_tr hB b6
  replace hD := below_tr hD b6
  replace ox2 : Own2 w5.heap.size w6.heap.size w6 Bx2 _ _ _ := ox2
  obtain ⟨hcc, hff⟩ := bcell hD
  go_wp2_with fail
  clear hcc hff
  refine (toDevice_any a0 _ ).mono ?_
  rintro e w7 ⟨rfl, b7⟩
  have s7 : w6.heap.size ≤ w7.heap.size := b7.size
  replace os1 := os1.below b7
  replace os2 := os2.below b7
  replace rs0 := rs0.below b7
  replace ox1 := ox1.below b7
  replace ox2 := ox2.below b7
  replace hB := below_tr hB b7
  replace hD := below_tr hD b7
  obtain ⟨hcc, hff⟩ := bcell hD
  go_wp2_with fail
  clear hcc hff
  refine (pemuRun_any a0 Bx1 n1 n1 x1 Bx2 n2 n2 x2 _ (ox1.rd) (ox2.rd) be1 be2).mono ?_
  rintro e w8 ⟨Rg0, rng0, rcg0, rfl, rg0, b8⟩
  have s8 : w7.heap.size ≤ w8.heap.size := b8.size
  replace os1 := os1.below b8
  replace os2 := os2.below b8
  replace rs0 := rs0.below b8
  replace ox1 := ox1.below b8
  replace ox2 := ox2.below b8
  replace hB := below_tr hB b8
  replace hD := below_tr hD b8
  replace rg0 : Own2 w7.heap.size w8.heap.size w8 Rg0 rng0 rcg0 _ := rg0
  obtain ⟨hcc, hff⟩ := bcell hD
  have le_g0 := runF_size a0 x1 x2
  have ln_g0 : rng0 ≤ 1099511627776 := (size2_bd rg0.len le_g0).1
  go_wp2_with fail
  clear hcc hff
  refine (eqIntSS_same Rg0 Rs0 rng0 rns0 rcg0 rcs0 _ _ rg0.rd rs0.rd le_g0).mono ?_
  rintro e w9 ⟨rfl, b9⟩
  have s9 : w8.heap.size ≤ w9.heap.size := b9.size
  replace os1 := os1.below b9
  replace os2 := os2.below b9
  replace rs0 := rs0.below b9
  replace ox1 := ox1.below b9
  replace ox2 := ox2.below b9
  replace rg0 := rg0.below b9
  replace hB := below_tr hB b9
  replace hD := below_tr hD b9
  obtain ⟨hcc, hff⟩ := bcell hD
  go_wp2_with fail
  clear hcc hff
  refine (toIntSS_any A1 n1 c1 x1 _ (h1.below hB) bd1).mono ?_
  rintro e w10 ⟨By11, rfl, oy11, b10⟩
  have s10 : w9.heap.size ≤ w10.heap.size := b10.size
  replace os1 := os1.below b10
  replace os2 := os2.below b10
  replace rs0 := rs0.below b10
  replace ox1 := ox1.below b10
  replace ox2 := ox2.below b10
  replace rg0 := rg0.below b10
  replace hB := below_tr hB b10
  replace hD := below_tr hD b10
  replace oy11 : Own2 w9.heap.size w10.heap.size w10 By11 _ _ _ := oy11
  obtain ⟨hcc, hff⟩ := bcell hD
  go_wp2_with fail
  clear hcc hff
  refine (eqIntSS_same Bx1 By11 n1 n1 n1 n1 x1 _ ox1.rd oy11.rd be1).mono ?_
  rintro e w11 ⟨rfl, b11⟩
  have s11 : w10.heap.size ≤ w11.heap.size := b11.size
  replace os1 := os1.below b11
  replace os2 := os2.below b11
  replace rs0 := rs0.below b11
  replace ox1 := ox1.below b11
  replace ox2 := ox2.below b11
  replace rg0 := rg0.below b11
  replace oy11 := oy11.below b11
  replace hB := below_tr hB b11
  replace hD := below_tr hD b11
  obtain ⟨hcc, hff⟩ := bcell hD
  go_wp2_with fail
  clear hcc hff
  refine (toIntSS_any A2 n2 c2 x2 _ (h2.below hB) bd2).mono ?_
  rintro e w12 ⟨By22, rfl, oy22, b12⟩
  have s12 : w11.heap.size ≤ w12.heap.size := b12.size
  replace os1 := os1.below b12
  replace os2 := os2.below b12
  replace rs0 := rs0.below b12
  replace ox1 := ox1.below b12
  replace ox2 := ox2.below b12
  replace rg0 := rg0.below b12
  replace oy11 := oy11.below b12
  replace hB := below_tr hB b12
  replace hD := below_tr hD b12
  replace oy22 : Own2 w11.heap.size w12.heap.size w12 By22 _ _ _ := oy22
  obtain ⟨hcc, hff⟩ := bcell hD
  go_wp2_with fail
  clear hcc hff
  refine (eqIntSS_same Bx2 By22 n2 n2 n2 n2 x2 _ ox2.rd oy22.rd be2).mono ?_
  rintro e w13 ⟨rfl, b13⟩
  have s13 : w12.heap.size ≤ w13.heap.size := b13.size
  replace os1 := os1.below b13
  replace os2 := os2.below b13
  replace rs0 := rs0.below b13
  replace ox1 := ox1.below b13
  replace ox2 := ox2.below b13
  replace rg0 := rg0.below b13
  replace oy11 := oy11.below b13
  replace oy22 := oy22.below b13
  replace hB := below_tr hB b13
  replace hD := below_tr hD b13
  obtain ⟨hcc, hff⟩ := bcell hD
  go_wp2_with fail
  clear hcc hff
  refine (markIntSS_chg _ _ Bx1 n1 n1 x1 1 _ ox1 (by omega) (by omega) be1).mono ?_
  rintro e w14 ⟨rfl, omox1, g14⟩
  have s14 : w13.heap.size ≤ w14.heap.size := g14.size
  replace os1 := os1.chg g14 (by omega)
  replace os2 := os2.chg g14 (by omega)
  replace rs0 := rs0.chg g14 (by omega)
  replace ox2 := ox2.chg g14 (by omega)
  replace rg0 := rg0.chg g14 (by omega)
  replace oy11 := oy11.chg g14 (by omega)
  replace oy22 := oy22.chg g14 (by omega)
  clear ox1
  replace hB := below_chg hB g14 (by omega)
  replace hD := below_chg hD g14 (by omega)
  obtain ⟨hcc, hff⟩ := bcell hD
  go_wp2_with fail
  clear hcc hff
  refine (markIntSS_chg _ _ Bx2 n2 n2 x2 _ _ ox2 (by omega) (by omega) be2).mono ?_
  rintro e w15 ⟨rfl, omox2, g15⟩
  have s15 : w14.heap.size ≤ w15.heap.size := g15.size
  replace os1 := os1.chg g15 (by omega)
  replace os2 := os2.chg g15 (by omega)
  replace rs0 := rs0.chg g15 (by omega)
  replace rg0 := rg0.chg g15 (by omega)
  replace oy11 := oy11.chg g15 (by omega)
  replace oy22 := oy22.chg g15 (by omega)
  replace omox1 := omox1.chg g15 (by omega)
  clear ox2
  replace hB := below_chg hB g15 (by omega)
  replace hD := below_chg hD g15 (by omega)
  obtain ⟨hcc, hff⟩ := bcell hD
  go_wp2_with fail
  clear hcc hff
  refine (eqIntSS_same Rg0 Rs0 rng0 rns0 rcg0 rcs0 _ _ rg0.rd rs0.rd le_g0).mono ?_
  rintro e w16 ⟨rfl, b16⟩
  have s16 : w15.heap.size ≤ w16.heap.size := b16.size
  replace os1 := os1.below b16
  replace os2 := os2.below b16
  replace rs0 := rs0.below b16
  replace rg0 := rg0.below b16
  replace oy11 := oy11.below b16
  replace oy22 := oy22.below b16
  replace omox1 := omox1.below b16
  replace omox2 := omox2.below b16
  replace hB := below_tr hB b16
  replace hD := below_tr hD b16
  obtain ⟨hcc, hff⟩ := bcell hD
  go_wp2_with fail
  clear hcc hff
  refine (markIntSS_chg _ _ Rg0 rng0 rcg0 _ 1 _ rg0 (by omega) (by omega) le_g0).mono ?_
  rintro e w17 ⟨rfl, omrg0, g17⟩
  have s17 : w16.heap.size ≤ w17.heap.size := g17.size
  replace os1 := os1.chg g17 (by omega)
  replace os2 := os2.chg g17 (by omega)
  replace rs0 := rs0.chg g17 (by omega)
  replace oy11 := oy11.chg g17 (by omega)
  replace oy22 := oy22.chg g17 (by omega)
  replace omox1 := omox1.chg g17 (by omega)
  replace omox2 := omox2.chg g17 (by omega)
  clear rg0
  replace hB := below_chg hB g17 (by omega)
  replace hD := below_chg hD g17 (by omega)
  obtain ⟨hcc, hff⟩ := bcell hD
  go_wp2_with fail
  clear hcc hff
  refine (heldIntSS_any Rg0 rng0 rcg0 _ 1 _ omrg0.rd rfl (by omega) (by omega) le_g0).mono ?_
  rintro e w18 ⟨rfl, b18⟩
  have s18 : w17.heap.size ≤ w18.heap.size := b18.size
  replace os1 := os1.below b18
  replace os2 := os2.below b18
  replace rs0 := rs0.below b18
  replace oy11 := oy11.below b18
  replace oy22 := oy22.below b18
  replace omox1 := omox1.below b18
  replace omox2 := omox2.below b18
  replace omrg0 := omrg0.below b18
  replace hB := below_tr hB b18
  replace hD := below_tr hD b18
  obtain ⟨hcc, hff⟩ := bcell hD
  go_wp2_with fail
  clear hcc hff
  refine (toDevice_any a0 _ ).mono ?_
  rintro e w19 ⟨rfl, b19⟩
  have s19 : w18.heap.size ≤ w19.heap.size := b19.size
  replace os1 := os1.below b19
  replace os2 := os2.below b19
  replace rs0 := rs0.below b19
  replace oy11 := oy11.below b19
  replace oy22 := oy22.below b19
  replace omox1 := omox1.below b19
  replace omox2 := omox2.below b19
  replace omrg0 := omrg0.below b19
  replace hB := below_tr hB b19
  replace hD := below_tr hD b19
  obtain ⟨hcc, hff⟩ := bcell hD
  go_wp2_with fail
  clear hcc hff
  refine (toIntSS_any A1 n1 c1 x1 _ (h1.below hB) bd1).mono ?_
  rintro e w20 ⟨Bh1, rfl, oh1, b20⟩
  have s20 : w19.heap.size ≤ w20.heap.size := b20.size
  replace os1 := os1.below b20
  replace os2 := os2.below b20
  replace rs0 := rs0.below b20
  replace oy11 := oy11.below b20
  replace oy22 := oy22.below b20
  replace omox1 := omox1.below b20
  replace omox2 := omox2.below b20
  replace omrg0 := omrg0.below b20
  replace hB := below_tr hB b20
  replace hD := below_tr hD b20
  replace oh1 : Own2 w19.heap.size w20.heap.size w20 Bh1 _ _ _ := oh1
  obtain ⟨hcc, hff⟩ := bcell hD
  go_wp2_with fail
  clear hcc hff
  refine (toIntSS_any A2 n2 c2 x2 _ (h2.below hB) bd2).mono ?_
  rintro e w21 ⟨Bh2, rfl, oh2, b21⟩
  have s21 : w20.heap.size ≤ w21.heap.size := b21.size
  replace os1 := os1.below b21
  replace os2 := os2.below b21
  replace rs0 := rs0.below b21
  replace oy11 := oy11.below b21
  replace oy22 := oy22.below b21
  replace omox1 := omox1.below b21
  replace omox2 := omox2.below b21
  replace omrg0 := omrg0.below b21
  replace oh1 := oh1.below b21
  replace hB := below_tr hB b21
  replace hD := below_tr hD b21
  replace oh2 : Own2 w20.heap.size w21.heap.size w21 Bh2 _ _ _ := oh2
  obtain ⟨hcc, hff⟩ := bcell hD
  go_wp2_with fail
  clear hcc hff
  refine (pemuRun_any a0 Bh1 n1 n1 x1 Bh2 n2 n2 x2 _ (oh1.rd) (oh2.rd) be1 be2).mono ?_
  rintro e w22 ⟨Rh0, rnh0, rch0, rfl, rh0, b22⟩
  have s22 : w21.heap.size ≤ w22.heap.size := b22.size
  replace os1 := os1.below b22
  replace os2 := os2.below b22
  replace rs0 := rs0.below b22
  replace oy11 := oy11.below b22
  replace oy22 := oy22.below b22
  replace omox1 := omox1.below b22
  replace omox2 := omox2.below b22
  replace omrg0 := omrg0.below b22
  replace oh1 := oh1.below b22
  replace oh2 := oh2.below b22
  replace hB := below_tr hB b22
  replace hD := below_tr hD b22
  replace rh0 : Own2 w21.heap.size w22.heap.size w22 Rh0 rnh0 rch0 _ := rh0
  obtain ⟨hcc, hff⟩ := bcell hD
  have le_h0 := runF_size a0 x1 x2
  have ln_h0 : rnh0 ≤ 1099511627776 := (size2_bd rh0.len le_h0).1
  go_wp2_with fail
  clear hcc hff
  refine (eqIntSS_same Rh0 Rs0 rnh0 rns0 rch0 rcs0 _ _ rh0.rd rs0.rd le_h0).mono ?_
  rintro e w23 ⟨rfl, b23⟩
  have s23 : w22.heap.size ≤ w23.heap.size := b23.size
  replace os1 := os1.below b23
  replace os2 := os2.below b23
  replace rs0 := rs0.below b23
  replace oy11 := oy11.below b23
  replace oy22 := oy22.below b23
  replace omox1 := omox1.below b23
  replace omox2 := omox2.below b23
  replace omrg0 := omrg0.below b23
  replace oh1 := oh1.below b23
  replace oh2 := oh2.below b23
  replace rh0 := rh0.below b23
  replace hB := below_tr hB b23
  replace hD := below_tr hD b23
  obtain ⟨hcc, hff⟩ := bcell hD
  go_wp2_with fail
  clear hcc hff
  refine (heldIntSS_any Rg0 rng0 rcg0 _ 1 _ omrg0.rd rfl (by omega) (by omega) le_g0).mono ?_
  rintro e w24 ⟨rfl, b24⟩
  have s24 : w23.heap.size ≤ w24.heap.size := b24.size
  replace os1 := os1.below b24
  replace os2 := os2.below b24
  replace rs0 := rs0.below b24
  replace oy11 := oy11.below b24
  replace oy22 := oy22.below b24
  replace omox1 := omox1.below b24
  replace omox2 := omox2.below b24
  replace omrg0 := omrg0.below b24
  replace oh1 := oh1.below b24
  replace oh2 := oh2.below b24
  replace rh0 := rh0.below b24
  replace hB := below_tr hB b24
  replace hD := below_tr hD b24
  obtain ⟨hcc, hff⟩ := bcell hD
  go_wp2_with fail
  go_ret
  exact ⟨rfl, hB⟩
end Go.Proofs.Ytclmhnghpnfnkaa
