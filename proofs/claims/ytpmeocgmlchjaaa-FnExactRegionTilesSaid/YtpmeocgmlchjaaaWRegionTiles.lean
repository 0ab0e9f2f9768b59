/- The walk of the law FnExactRegionTiles (printed by gen.py). -/
import Derived.Test.YtpmeocgmlchjaaaReg
import Derived.Test.YtpmeocgmlchjaaaOpen
namespace Go.Proofs.Ytpmeocgmlchjaaa
open Go.RowKit
set_option maxHeartbeats 400000 in
theorem law_regionTiles (a0 : Dev) (a1 : Reg) (w : World) (_hw0 : a0.wf) (_hw1 : a1.wf) :
    Calls Try.prog 9 #[.agg #[.int .i64 a0.W, .int .i64 a0.H, .int .i64 a0.T, .int .i64 a0.R], .agg #[.int .i64 a1.X0, .int .i64 a1.Y0, .int .i64 a1.X1, .int .i64 a1.Y1]] w fun e w' => e = .returned (.bool true) ∧ Below w.heap.size w w' := by
  go_enter Try.func9, Try.ntmps9
  have hB : Below w.heap.size w ((w.alloc (.cells #[.int .i64 a0.W, .int .i64 a0.H, .int .i64 a0.T, .int .i64 a0.R] 23)).alloc (.cells #[.int .i64 a1.X0, .int .i64 a1.Y0, .int .i64 a1.X1, .int .i64 a1.Y1] 25)) := (below_new ((below_new (Below.refl _ _) _)) _)
  have hD : Below ((w.alloc (.cells #[.int .i64 a0.W, .int .i64 a0.H, .int .i64 a0.T, .int .i64 a0.R] 23)).alloc (.cells #[.int .i64 a1.X0, .int .i64 a1.Y0, .int .i64 a1.X1, .int .i64 a1.Y1] 25)).heap.size ((w.alloc (.cells #[.int .i64 a0.W, .int .i64 a0.H, .int .i64 a0.T, .int .i64 a0.R] 23)).alloc (.cells #[.int .i64 a1.X0, .int .i64 a1.Y0, .int .i64 a1.X1, .int .i64 a1.Y1] 25)) ((w.alloc (.cells #[.int .i64 a0.W, .int .i64 a0.H, .int .i64 a0.T, .int .i64 a0.R] 23)).alloc (.cells #[.int .i64 a1.X0, .int .i64 a1.Y0, .int .i64 a1.X1, .int .i64 a1.Y1] 25)) := Below.refl _ _
  have hs0 : w.heap.size ≤ ((w.alloc (.cells #[.int .i64 a0.W, .int .i64 a0.H, .int .i64 a0.T, .int .i64 a0.R] 23)).alloc (.cells #[.int .i64 a1.X0, .int .i64 a1.Y0, .int .i64 a1.X1, .int .i64 a1.Y1] 25)).heap.size := hB.size
  go_wp2_with fail
  replace hB := hB.drew
  replace hD := hD.drew
  go_region_held3 (fun w' => Below ((w.alloc (.cells #[.int .i64 a0.W, .int .i64 a0.H, .int .i64 a0.T, .int .i64 a0.R] 23)).alloc (.cells #[.int .i64 a1.X0, .int .i64 a1.Y0, .int .i64 a1.X1, .int .i64 a1.Y1] 25)).heap.size ((w.alloc (.cells #[.int .i64 a0.W, .int .i64 a0.H, .int .i64 a0.T, .int .i64 a0.R] 23)).alloc (.cells #[.int .i64 a1.X0, .int .i64 a1.Y0, .int .i64 a1.X1, .int .i64 a1.Y1] 25)) w' ∧ ∀ b o, b < ((w.alloc (.cells #[.int .i64 a0.W, .int .i64 a0.H, .int .i64 a0.T, .int .i64 a0.R] 23)).alloc (.cells #[.int .i64 a1.X0, .int .i64 a1.Y0, .int .i64 a1.X1, .int .i64 a1.Y1] 25)).heap.size → w'.cell? ⟨b, o, none⟩ = ((w.alloc (.cells #[.int .i64 a0.W, .int .i64 a0.H, .int .i64 a0.T, .int .i64 a0.R] 23)).alloc (.cells #[.int .i64 a1.X0, .int .i64 a1.Y0, .int .i64 a1.X1, .int .i64 a1.Y1] 25)).cell? ⟨b, o, none⟩)
    (first | exact ⟨hD, (bcell hD).1⟩)
    (first
      | (go_at_call 16; refine (toDevice_any a0 _ ).mono ?_; rintro e w1 ⟨rfl, b1⟩; have s1 : ((w.alloc (.cells #[.int .i64 a0.W, .int .i64 a0.H, .int .i64 a0.T, .int .i64 a0.R] 23)).alloc (.cells #[.int .i64 a1.X0, .int .i64 a1.Y0, .int .i64 a1.X1, .int .i64 a1.Y1] 25)).heap.size ≤ w1.heap.size := b1.size; replace hB := below_tr hB b1; replace hD := below_tr hD b1)
      | (go_at_call 17; refine (toRegion_any a1 _ ).mono ?_; rintro e w2 ⟨rfl, b2⟩; have s2 : w1.heap.size ≤ w2.heap.size := b2.size; replace hB := below_tr hB b2; replace hD := below_tr hD b2)
      | (go_at_call 33; refine (sregionTiles_any a0 a1 _ ).mono ?_; rintro e w3 ⟨Rs0, rns0, rcs0, rfl, rs0, b3⟩; have s3 : w2.heap.size ≤ w3.heap.size := b3.size; replace hB := below_tr hB b3; replace hD := below_tr hD b3; have l_rs0 : Lies Rs0 w2.heap.size w3.heap.size := rs0.lies))
  obtain ⟨hcc, hff⟩ := bcell hD
  have le_s0 : rns0 ≤ 1099511627776 := by have h1 := rs0.len; have h2 := regTiles_le a0 a1; omega
  go_wp2_with fail
  clear hcc hff
  replace hB := hB.drew
  replace hD := hD.drew
  replace rs0 := rs0.drewd
  go_region_held3 (fun w' => Below ((w.alloc (.cells #[.int .i64 a0.W, .int .i64 a0.H, .int .i64 a0.T, .int .i64 a0.R] 23)).alloc (.cells #[.int .i64 a1.X0, .int .i64 a1.Y0, .int .i64 a1.X1, .int .i64 a1.Y1] 25)).heap.size ((w.alloc (.cells #[.int .i64 a0.W, .int .i64 a0.H, .int .i64 a0.T, .int .i64 a0.R] 23)).alloc (.cells #[.int .i64 a1.X0, .int .i64 a1.Y0, .int .i64 a1.X1, .int .i64 a1.Y1] 25)) w' ∧ ∀ b o, b < ((w.alloc (.cells #[.int .i64 a0.W, .int .i64 a0.H, .int .i64 a0.T, .int .i64 a0.R] 23)).alloc (.cells #[.int .i64 a1.X0, .int .i64 a1.Y0, .int .i64 a1.X1, .int .i64 a1.Y1] 25)).heap.size → w'.cell? ⟨b, o, none⟩ = ((w.alloc (.cells #[.int .i64 a0.W, .int .i64 a0.H, .int .i64 a0.T, .int .i64 a0.R] 23)).alloc (.cells #[.int .i64 a1.X0, .int .i64 a1.Y0, .int .i64 a1.X1, .int .i64 a1.Y1] 25)).cell? ⟨b, o, none⟩)
    (first | exact ⟨hD, (bcell hD).1⟩)
    (first
      | (go_at_call 16; refine (toDevice_any a0 _ ).mono ?_; rintro e w4 ⟨rfl, b4⟩; have s4 : w3.heap.size ≤ w4.heap.size := b4.size; replace rs0 := rs0.below b4; replace hB := below_tr hB b4; replace hD := below_tr hD b4)
      | (go_at_call 17; refine (toRegion_any a1 _ ).mono ?_; rintro e w5 ⟨rfl, b5⟩; have s5 : w4.heap.size ≤ w5.heap.size := b5.size; replace rs0 := rs0.below b5; replace hB := below_tr hB b5; replace hD := below_tr hD b5)
      | (go_at_call 34; refine (regionTiles_any a0 a1 _ ).mono ?_; rintro e w6 ⟨Rg0, rng0, rcg0, rfl, rg0, b6⟩; have s6 : w5.heap.size ≤ w6.heap.size := b6.size; replace rs0 := rs0.below b6; replace hB := below_tr hB b6; replace hD := below_tr hD b6; have l_rg0 : Lies Rg0 w5.heap.size w6.heap.size := rg0.lies))
  obtain ⟨hcc, hff⟩ := bcell hD
  have le_g0 : rng0 ≤ 1099511627776 := by have h1 := rg0.len; have h2 := regTiles_le a0 a1; omega
  go_wp2_with fail
  clear hcc hff
  refine (eqIntS_same Rg0 Rs0 rng0 rns0 rcg0 rcs0 _ _ rg0.rd rs0.rd le_g0).mono ?_
  rintro e w7 ⟨rfl, b7⟩
  have s7 : w6.heap.size ≤ w7.heap.size := b7.size
  replace rs0 := rs0.below b7
  replace rg0 := rg0.below b7
  replace hB := below_tr hB b7
  replace hD := below_tr hD b7
  obtain ⟨hcc, hff⟩ := bcell hD
  go_wp2_with fail
  clear hcc hff
  refine (markIntS_any _ Rg0 rng0 rcg0 _ 1 _ rg0 (by omega) (by omega) le_g0).mono ?_
  rintro e w8 ⟨rfl, omrg0, g8⟩
  have s8 : w7.heap.size ≤ w8.heap.size := g8.size
  replace rs0 := rs0.grown g8 l_rs0 l_rg0 (by omega)
  clear rg0
  replace hB := below_grown hB g8 l_rg0 (by omega)
  replace hD := below_grown hD g8 l_rg0 (by omega)
  obtain ⟨hcc, hff⟩ := bcell hD
  go_wp2_with fail
  clear hcc hff
  refine (heldIntS_any Rg0 rng0 rcg0 _ 1 _ omrg0.rd rfl (by omega) (by omega) le_g0).mono ?_
  rintro e w9 ⟨rfl, b9⟩
  have s9 : w8.heap.size ≤ w9.heap.size := b9.size
  replace rs0 := rs0.below b9
  replace omrg0 := omrg0.below b9
  replace hB := below_tr hB b9
  replace hD := below_tr hD b9
  obtain ⟨hcc, hff⟩ := bcell hD
  go_wp2_with fail
  clear hcc hff
  replace hB := hB.drew
  replace hD := hD.drew
  replace rs0 := rs0.drewd
  replace omrg0 := omrg0.drewd
  go_region_held3 (fun w' => Below ((w.alloc (.cells #[.int .i64 a0.W, .int .i64 a0.H, .int .i64 a0.T, .int .i64 a0.R] 23)).alloc (.cells #[.int .i64 a1.X0, .int .i64 a1.Y0, .int .i64 a1.X1, .int .i64 a1.Y1] 25)).heap.size ((w.alloc (.cells #[.int .i64 a0.W, .int .i64 a0.H, .int .i64 a0.T, .int .i64 a0.R] 23)).alloc (.cells #[.int .i64 a1.X0, .int .i64 a1.Y0, .int .i64 a1.X1, .int .i64 a1.Y1] 25)) w' ∧ ∀ b o, b < ((w.alloc (.cells #[.int .i64 a0.W, .int .i64 a0.H, .int .i64 a0.T, .int .i64 a0.R] 23)).alloc (.cells #[.int .i64 a1.X0, .int .i64 a1.Y0, .int .i64 a1.X1, .int .i64 a1.Y1] 25)).heap.size → w'.cell? ⟨b, o, none⟩ = ((w.alloc (.cells #[.int .i64 a0.W, .int .i64 a0.H, .int .i64 a0.T, .int .i64 a0.R] 23)).alloc (.cells #[.int .i64 a1.X0, .int .i64 a1.Y0, .int .i64 a1.X1, .int .i64 a1.Y1] 25)).cell? ⟨b, o, none⟩)
    (first | exact ⟨hD, (bcell hD).1⟩)
    (first
      | (go_at_call 16; refine (toDevice_any a0 _ ).mono ?_; rintro e w10 ⟨rfl, b10⟩; have s10 : w9.heap.size ≤ w10.heap.size := b10.size; replace rs0 := rs0.below b10; replace omrg0 := omrg0.below b10; replace hB := below_tr hB b10; replace hD := below_tr hD b10)
      | (go_at_call 17; refine (toRegion_any a1 _ ).mono ?_; rintro e w11 ⟨rfl, b11⟩; have s11 : w10.heap.size ≤ w11.heap.size := b11.size; replace rs0 := rs0.below b11; replace omrg0 := omrg0.below b11; replace hB := below_tr hB b11; replace hD := below_tr hD b11)
      | (go_at_call 34; refine (regionTiles_any a0 a1 _ ).mono ?_; rintro e w12 ⟨Rh0, rnh0, rch0, rfl, rh0, b12⟩; have s12 : w11.heap.size ≤ w12.heap.size := b12.size; replace rs0 := rs0.below b12; replace omrg0 := omrg0.below b12; replace hB := below_tr hB b12; replace hD := below_tr hD b12; have l_rh0 : Lies Rh0 w11.heap.size w12.heap.size := rh0.lies))
  obtain ⟨hcc, hff⟩ := bcell hD
  have le_h0 : rnh0 ≤ 1099511627776 := by have h1 := rh0.len; have h2 := regTiles_le a0 a1; omega
  go_wp2_with fail
  clear hcc hff
  refine (eqIntS_same Rh0 Rs0 rnh0 rns0 rch0 rcs0 _ _ rh0.rd rs0.rd le_h0).mono ?_
  rintro e w13 ⟨rfl, b13⟩
  have s13 : w12.heap.size ≤ w13.heap.size := b13.size
  replace rs0 := rs0.below b13
  replace omrg0 := omrg0.below b13
  replace rh0 := rh0.below b13
  replace hB := below_tr hB b13
  replace hD := below_tr hD b13
  obtain ⟨hcc, hff⟩ := bcell hD
  go_wp2_with fail
  clear hcc hff
  refine (heldIntS_any Rg0 rng0 rcg0 _ 1 _ omrg0.rd rfl (by omega) (by omega) le_g0).mono ?_
  rintro e w14 ⟨rfl, b14⟩
  have s14 : w13.heap.size ≤ w14.heap.size := b14.size
  replace rs0 := rs0.below b14
  replace omrg0 := omrg0.below b14
  replace rh0 := rh0.below b14
  replace hB := below_tr hB b14
  replace hD := below_tr hD b14
  obtain ⟨hcc, hff⟩ := bcell hD
  go_wp2_with fail
  go_ret
  exact ⟨rfl, hB⟩
end Go.Proofs.Ytpmeocgmlchjaaa
