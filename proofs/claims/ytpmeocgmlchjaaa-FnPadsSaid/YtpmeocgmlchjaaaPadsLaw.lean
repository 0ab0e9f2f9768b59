/- FnPads, the walk. -/
import Derived.Test.YtpmeocgmlchjaaaLaw
import Derived.Test.YtpmeocgmlchjaaaDrawD
import Derived.Test.YtpmeocgmlchjaaaPadsPure
import Derived.Deep.DrawnRows
namespace Go.Proofs.Ytpmeocgmlchjaaa
open Go.RowKit Cw

set_option maxHeartbeats 2000000 in
theorem law_pads (A : Option Addr) (n c : Nat) (bs : List Int) (w : World) (h : Bytes w w.heap.size A n bs) (_hm : n ≤ maxLen) :
    Calls Try.prog 7 #[.slice A n c] w fun e w' => e = .returned (.bool true) ∧ Below w.heap.size w w' := by
  by_cases g : n ≤ 1048576
  · have d : decide ((n : Int) > 1048576) = false := by simp; omega
    have HB := Lib.hid h
    have HAT : Hid (∀ (i : Nat) (w' : World), i ≤ 1000 → Below w.heap.size w w' → Calls Try.prog 27 #[.slice A n c, .int .i64 i] w' fun e w'' => e = .returned (.int .i64 (atN bs i)) ∧ w' = w'') := fun i w' hi hb => @at_any A n c bs i _ w' (h.below hb) (by omega) (by omega)
    have HBD : Hid (∀ i, 0 ≤ atN bs i ∧ atN bs i ≤ 255) := fun i => atN_bd h i
    clear h
    go_enter Try.func7, Try.ntmps7
    go_wp2_with (go_at_call 25; refine (big_any _ _ _ _).mono ?_; rintro e w' ⟨rfl, rfl⟩)
    refine (drawDevice_any A n c bs _ HB.out (by omega)).mono ?_
    rintro e w1 ⟨dv, rfl, hd, hW, hH, b1⟩
    have hs1 := b1.size
    obtain ⟨hN, hN1, hN2⟩ := tiles_eq hd
    have HP := Lib.hid (pads_law hd)
    have HD := Lib.hid hd
    have B1 := Lib.hid b1
    clear hd b1
    go_wp2_with fail
    have hcw : ∀ j x, (#[.int .i64 dv.W, .int .i64 dv.H, .int .i64 dv.T, .int .i64 dv.R] : Array Value)[j]? = some x → (w1.alloc (.cells #[.int .i64 dv.W, .int .i64 dv.H, .int .i64 dv.T, .int .i64 dv.R] 27)).cell? ⟨w1.heap.size, j, none⟩ = some x := fun j x hx => by unfold World.cell?; rw [heap_new]; exact hx
    have B2 := Lib.hid (below_new B1.out (.cells #[.int .i64 dv.W, .int .i64 dv.H, .int .i64 dv.T, .int .i64 dv.R] 27))
    have hs2 : w1.heap.size < (w1.alloc (.cells #[.int .i64 dv.W, .int .i64 dv.H, .int .i64 dv.T, .int .i64 dv.R] 27)).heap.size := by simp
    have hs2' : (w1.alloc (.cells #[.int .i64 dv.W, .int .i64 dv.H, .int .i64 dv.T, .int .i64 dv.R] 27)).heap.size = w1.heap.size + 1 := by simp
    have O2 := Lib.hid (Own.newAt (w := w1.alloc (.cells #[.int .i64 dv.W, .int .i64 dv.H, .int .i64 dv.T, .int .i64 dv.R] 27)) hs2' (Nat.le_of_eq hs2'))
    clear hs2'
    have B3 := Lib.hid (below_new (Below.refl _ (w1.alloc (.cells #[.int .i64 dv.W, .int .i64 dv.H, .int .i64 dv.T, .int .i64 dv.R] 27))) (.cells #[] 3))
    generalize w1.alloc (.cells #[.int .i64 dv.W, .int .i64 dv.H, .int .i64 dv.T, .int .i64 dv.R] 27) = w2 at *
    have HCW := Lib.hid hcw
    clear hcw
    generalize hTT : tiles dv = N at *
    have HTT := Lib.hid hTT
    clear hTT
    generalize hpp : (fun k => decide (atN bs k % 2 = 0)) = p at *
    have HPP : Hid (∀ k, p k = decide (atN bs k % 2 = 0)) := by subst hpp; intro k; rfl
    clear hpp
    go_loopw [4, 5] (fun v i wr => ∃ (k m g' c' : Nat), k ≤ N ∧ i = .int .i64 k ∧ v = .slice (some ⟨g', 0, none⟩) m c' ∧ Own w2.heap.size wr (some ⟨g', 0, none⟩) m c' (evTo p k) ∧ Below w2.heap.size w2 wr) (fun _ i _ => N - (intOf i).toNat)
    case atStart => exact ⟨0, 0, _, 0, Nat.zero_le _, rfl, rfl, O2.out, B3.out⟩
    case round =>
      obtain ⟨k, m, g', c', hk, rfl, rfl, o, be⟩ := hrel
      have hmk : m ≤ k := by have := evTo_len p k; rw [o.len] at this; exact this
      obtain ⟨hcc, _⟩ := bcell be
      have c0 := (hcc _ 0 hs2).trans (HCW.out 0 _ rfl)
      have c1 := (hcc _ 1 hs2).trans (HCW.out 1 _ rfl)
      have c2 := (hcc _ 2 hs2).trans (HCW.out 2 _ rfl)
      have c3 := (hcc _ 3 hs2).trans (HCW.out 3 _ rfl)
      have O := Lib.hid o
      have BE := Lib.hid be
      have BA := Lib.hid (below_tr B2.out be)
      clear o be hcc O2 B3
      by_cases hlt : k < N
      · have hev := evTo.eq_2 p k
        have hp0 := HPP.out k
        have hbd := HBD.out k
        have hat := HAT.out k wr (by omega) BA.out
        generalize atN bs k = a at *
        have hmod : a.tmod 2 = a % 2 := Int.tmod_eq_emod_of_nonneg (by omega)
        cases hpk : p k with
        | true =>
          have ha : a % 2 = 0 := by rw [hp0] at hpk; simpa using hpk
          have HE : Hid (evTo p (k + 1) = evTo p k ++ [(k : Int)]) := by unfold Hid; rw [hev, if_pos hpk]
          clear hev hpk hp0
          go_wp2_with (first
            | (go_at_call 27; with_reducible refine hat.mono ?_; rintro e w' ⟨rfl, rfl⟩)
            | (at_builtin; refine wpList_push rfl _ _ rfl w2.heap.size (some ⟨g', 0, none⟩) m c' (evTo p k) k rfl O.out rfl (by omega) BE.out.size BE.out ?_; rintro g4 cap w4 o4 b4 gr4 hat4))
          go_roundw
          case rel => exact ⟨k + 1, m + 1, g4, cap, by omega, by go_num, rfl, by rw [HE.out]; exact o4, b4⟩
          case measure => simp [intOf]; omega
        | false =>
          have ha : a % 2 = 1 := by rw [hp0] at hpk; simp at hpk; omega
          have HE : Hid (evTo p (k + 1) = evTo p k) := by unfold Hid; rw [hev, if_neg (by simp [hpk])]
          clear hev hpk hp0
          go_wp2_with (first
            | (go_at_call 27; with_reducible refine hat.mono ?_; rintro e w' ⟨rfl, rfl⟩))
          go_roundw
          case rel => exact ⟨k + 1, m, g', c', by omega, by go_num, rfl, by rw [HE.out]; exact O.out, BE.out⟩
          case measure => simp [intOf]; omega
      · have hkn : k = N := by omega
        subst hkn
        have e0 := HAT.out 0 wr (by omega) BA.out
        have e1 := HAT.out 1 wr (by omega) BA.out
        have q0 := HBD.out 0
        have q1 := HBD.out 1
        simp only [Int.ofNat_eq_natCast, Int.natCast_zero, Int.natCast_one] at e0 e1
        generalize atN bs 0 = u at *
        generalize atN bs 1 = v at *
        obtain ⟨x, hx, hxe⟩ : ∃ x : Nat, x < 65536 ∧ u * 256 + v = (x : Int) := ⟨(u * 256 + v).toNat, by omega, by omega⟩
        have hp := HP.out p x hx
        have hln := O.out.len
        rw [hln] at hp
        obtain ⟨hp1, hp2⟩ := hp
        generalize hxs : evTo p k = xs at *
        clear hxs HP
        go_wp2_with (first
          | (go_at_call 27; with_reducible refine e0.mono ?_; rintro e w' ⟨rfl, rfl⟩)
          | (go_at_call 27; with_reducible refine e1.mono ?_; rintro e w' ⟨rfl, rfl⟩))
        refine (padsFor_any dv (some ⟨g', 0, none⟩) m c' xs x _ O.out.ints (by omega)).mono ?_
        rintro e w4 ⟨A4, m4, c4, rfl, o4, b4⟩
        have hl4 := o4.len
        rw [hp1] at hl4
        obtain rfl : m4 = k := hl4.symm
        have O4 := Lib.hid o4
        have B4 := Lib.hid b4
        obtain ⟨hcc, _⟩ := bcell b4
        have hlw := below_lt BE.out hs2
        have hlw4 := below_lt b4 hlw
        have c0' := (hcc _ 0 hlw).trans c0
        have c1' := (hcc _ 1 hlw).trans c1
        have hw1 : IntKind.i64.wrap ((2 : Int) ^ m) = 2 ^ m := wrap_powI (by omega)
        have hpw := pow_le63 (show m ≤ 62 by omega)
        have hpos : 0 < 2 ^ m := Nat.two_pow_pos m
        have hpe : (2 : Int) ^ m - 1 = ((2 ^ m - 1 : Nat) : Int) := by rw [int_pow_cast]; omega
        have hw2 : IntKind.i64.wrap ((2 : Int) ^ m - 1) = 2 ^ m - 1 := by rw [hpe]; exact IntWalk.i64_in _ (by omega)
        have hand : bits .and .i64 (x : Int) (2 ^ m - 1) = ((x % 2 ^ m : Nat) : Int) := by
          rw [hpe, i64_and_nat x _ (by omega) (by omega), Nat.and_two_pow_sub_one_eq_mod]
        have hmul : IntKind.i64.wrap (dv.W * dv.H) = (m4 : Int) := by rw [hN]; exact IntWalk.i64_in _ (by omega)
        have hmul' : IntKind.i64.wrap (m4 : Int) = (m4 : Int) := IntWalk.i64_in _ (by omega)
        have HW4 := Lib.hid (below_tr BA.out b4)
        have OT := Lib.hid (O.out.ints.below b4)
        have HP2 := Lib.hid hp2
        generalize ((x % 2 ^ m : Nat) : Int) = R at *
        clear o4 b4 hcc hpw hpos hpe c0 c1 c2 c3 hp2
        go_wp2_with fail
        have hb5 : Calls Try.prog 21 #[.slice A4 m4 c4, .slice (some ⟨g', 0, none⟩) m c'] w4.drew fun e w' => e = .returned (.int .i64 R) ∧ Below w4.heap.size w4.drew w' := by
          rw [← HP2.out]
          exact bitsAt_any A4 _ c4 _ (some ⟨g', 0, none⟩) m c' xs _ (O4.out.ints.drewd) (OT.out.drewd) (by omega) (by omega)
        have BD := Lib.hid (Below.refl w4.heap.size w4).drew
        have BD0 := Lib.hid (Below.refl w4.heap.size w4.drew)
        go_region_held3 (fun w' => w'.cell? ⟨w1.heap.size, 0, none⟩ = some (.int .i64 dv.W) ∧ w'.cell? ⟨w1.heap.size, 1, none⟩ = some (.int .i64 dv.H) ∧ Below w4.heap.size w4.drew w')
          (first | exact ⟨c0', c1', BD0.out⟩ | exact ⟨(b5.cell (p := ⟨w1.heap.size, 0, none⟩) hlw4).trans c0', (b5.cell (p := ⟨w1.heap.size, 1, none⟩) hlw4).trans c1', b5⟩)
          (first | (go_at_call 21; refine hb5.mono ?_; rintro e w5 ⟨rfl, b5⟩))
        rename_i hH
        obtain ⟨_, _, hE⟩ := hH
        go_wp2_with fail
        go_ret
        exact ⟨rfl, below_tr HW4.out.drew hE⟩
  · have d : decide ((n : Int) > 1048576) = true := by simp; omega
    go_enter Try.func7, Try.ntmps7
    go_wp2_with (go_at_call 25; refine (big_any _ _ _ _).mono ?_; rintro e w' ⟨rfl, rfl⟩)
    go_ret
    exact ⟨rfl, Below.refl _ _⟩
end Go.Proofs.Ytpmeocgmlchjaaa
