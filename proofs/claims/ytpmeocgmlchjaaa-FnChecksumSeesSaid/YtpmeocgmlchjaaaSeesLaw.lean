/- FnChecksumSees, the walk. -/
import Derived.Test.YtpmeocgmlchjaaaLaw
import Derived.Test.YtpmeocgmlchjaaaDrawC
import Derived.Test.YtpmeocgmlchjaaaCsumPure
import Derived.Test.YtpmeocgmlchjaaaCopies
import Derived.Deep.DrawnRows
namespace Go.Proofs.Ytpmeocgmlchjaaa
open Go.RowKit
attribute [local go_sem ↓] Go.wp_at_zero Go.wp_at_succ

theorem wrap_powI {k : Nat} (h : k ≤ 62) : IntKind.i64.wrap ((2 : Int) ^ k) = 2 ^ k := by
  have hp := pow_le63 h
  rw [int_pow_cast]
  generalize 2 ^ k = p at *
  exact IntWalk.i64_in _ (by omega)
set_option maxHeartbeats 2000000 in
theorem law_checksumSees (A : Option Addr) (n c : Nat) (bs : List Int) (w : World) (h : Bytes w w.heap.size A n bs) (_hm : n ≤ maxLen) :
    Calls Try.prog 6 #[.slice A n c] w fun e w' => e = .returned (.bool true) ∧ Below w.heap.size w w' := by
  by_cases g : n ≤ 1048576
  · have d : decide ((n : Int) > 1048576) = false := by simp; omega
    have q0 := atN_bd h 0
    have q1 := atN_bd h 1
    have q2 := atN_bd h 2
    have HB := Lib.hid h
    have e0 : ∀ w', Below w.heap.size w w' → Calls Try.prog 27 #[.slice A n c, .int .i64 0] w' fun e w'' => e = .returned (.int .i64 (atN bs 0)) ∧ w' = w'' := fun w' hb => @at_any A n c bs 0 _ w' (h.below hb) (by omega) (by omega)
    have e1 : ∀ w', Below w.heap.size w w' → Calls Try.prog 27 #[.slice A n c, .int .i64 1] w' fun e w'' => e = .returned (.int .i64 (atN bs 1)) ∧ w' = w'' := fun w' hb => @at_any A n c bs 1 _ w' (h.below hb) (by omega) (by omega)
    have e2 : ∀ w', Below w.heap.size w w' → Calls Try.prog 27 #[.slice A n c, .int .i64 2] w' fun e w'' => e = .returned (.int .i64 (atN bs 2)) ∧ w' = w'' := fun w' hb => @at_any A n c bs 2 _ w' (h.below hb) (by omega) (by omega)
    generalize atN bs 0 = u at *
    generalize atN bs 1 = v at *
    generalize atN bs 2 = q at *
    have E0 := Lib.hid e0
    have E1 := Lib.hid e1
    have E2 := Lib.hid e2
    clear e0 e1 e2 h
    go_enter Try.func6, Try.ntmps6
    go_wp2_with (go_at_call 25; refine (big_any _ _ _ _).mono ?_; rintro e w' ⟨rfl, rfl⟩)
    refine (drawChecksum_any A n c bs _ HB.out (by omega)).mono ?_
    rintro e w1 ⟨A1, m, c1, xs, rfl, hm, o1, b1⟩
    have hs1 := b1.size
    have O1 := Lib.hid o1
    have B1 := Lib.hid b1
    by_cases h0 : m = 0
    · subst h0
      have hx : xs = [] := List.eq_nil_of_length_eq_zero o1.len
      subst hx
      clear o1 b1
      go_wp2_with fail
      refine (checksum_any A1 0 c1 [] _ O1.out.ints (by omega)).mono ?_
      rintro e w2 ⟨rfl, b2⟩
      have B2 := Lib.hid (below_tr B1.out b2)
      clear b2
      go_wp2_with fail
      go_ret
      exact ⟨rfl, B2.out⟩
    · have hm0 : ((m : Int) == 0) = false := by simp; omega
      have hmz : ¬ (m : Int) = 0 := by omega
      have hln := o1.len
      have hkd : ∃ k : Nat, k < m ∧ u.tmod m = (k : Int) := by
        refine ⟨u.toNat % m, Nat.mod_lt _ (by omega), ?_⟩
        rw [show u = ((u.toNat : Nat) : Int) by omega]
        exact Int.ofNat_tmod _ _
      obtain ⟨k, hk, hke⟩ := hkd
      have hbd : ∃ b : Nat, b < 16 ∧ v.tmod 16 = (b : Int) := ⟨v.toNat % 16, by omega, by rw [show v = ((v.toNat : Nat) : Int) by omega]; exact Int.ofNat_tmod _ _⟩
      obtain ⟨b, hb, hbe⟩ := hbd
      have hdd : ∃ b : Nat, b < 16 ∧ q.tmod 16 = (b : Int) := ⟨q.toNat % 16, by omega, by rw [show q = ((q.toNat : Nat) : Int) by omega]; exact Int.ofNat_tmod _ _⟩
      obtain ⟨b', hb', hbe'⟩ := hdd
      obtain ⟨s, hsa, hsb, hse⟩ : ∃ s : Nat, 16 ≤ s ∧ s ≤ 31 ∧ (16 : Int) + (b' : Int) = (s : Int) := ⟨16 + b', by omega, by omega, by omega⟩
      have HN := Lib.hid (csum_near xs k b (by omega) hb)
      have HF := Lib.hid (csum_far xs k s (by omega) (by omega))
      have hw1 : IntKind.i64.wrap ((2 : Int) ^ b) = 2 ^ b := wrap_powI (by omega)
      have hw2 : IntKind.i64.wrap ((2 : Int) ^ s) = 2 ^ s := wrap_powI (by omega)
      have HL := Lib.hid hln
      have hws : IntKind.i64.wrap (s : Int) = (s : Int) := IntWalk.i64_in _ (by omega)
      clear o1 b1 hln
      go_wp2_with (first
        | (go_at_call 27; with_reducible refine (E0.out _ B1.out).mono ?_; rintro e w' ⟨rfl, rfl⟩)
        | (at_builtin; refine wpList_append_ints rfl _ _ rfl w1.heap.size (some ⟨w1.heap.size, 0, none⟩) 0 0 [] rfl (Own.newAt (w := w1) rfl (Nat.le_refl _)) A1 m c1 xs rfl (O1.out.ints.below (below_new (Below.refl _ _) _)) (by omega) (by simp) (below_new (Below.refl _ _) _) ?_; rintro A2 c2 w2 o2 b2 g2))
      rw [List.nil_append, Nat.zero_add] at o2
      obtain ⟨bi, cur, rfl, _⟩ := o2.block (by omega)
      obtain ⟨hci, hfi⟩ := o2.cellAt hk
      have hge := (o2.lt _ rfl).1
      have hs2 := b2.size
      simp only at hge
      have O2 := Lib.hid o2
      have B2 := Lib.hid b2
      clear o2 b2 g2
      generalize hx : xs[k]?.getD 0 = x at *
      have HX := Lib.hid hx
      clear hx
      go_region_with (go_at_call 27; with_reducible refine (E1.out _ (below_tr B1.out B2.out).drew).mono ?_; rintro e w' ⟨rfl, rfl⟩)
      all_goals
        generalize hy : bits .xor .i64 x (2 ^ b) = y at *
        have b3 : Below w1.heap.size w1 (w2.setCell ⟨bi, k, none⟩ (.int .i64 y)) := B2.out.setCell (p := ⟨bi, k, none⟩) (by simpa using hge) _
        have o3 := O2.out.stored hk y
        have hs3 : w2.heap.size ≤ (w2.setCell ⟨bi, k, none⟩ (.int .i64 y)).heap.size := by simp [World.setCell]
        generalize w2.setCell ⟨bi, k, none⟩ (.int .i64 y) = w3 at *
        have O3 := Lib.hid o3
        have B3 := Lib.hid b3
        clear o3 b3 hci hfi O2 B2 hy
        go_wp2_with (at_builtin; refine wpList_append_ints rfl _ _ rfl w3.heap.size (some ⟨w3.heap.size, 0, none⟩) 0 0 [] rfl (Own.newAt (w := w3.drew) rfl (Nat.le_refl _)) A1 m c1 xs rfl ((O1.out.ints.below B3.out).below (below_new (Below.refl _ _).drew _)) (by omega) (by simp) (below_new (Below.refl w3.heap.size w3).drew _) ?_; rintro A4 c4 w4 o4 b4 g4)
        rw [List.nil_append, Nat.zero_add] at o4
        obtain ⟨bj, cur', rfl, _⟩ := o4.block (by omega)
        obtain ⟨hci, hfi⟩ := o4.cellAt hk
        have hge' := (o4.lt _ rfl).1
        have hs4 := b4.size
        simp only at hge'
        have O4 := Lib.hid o4
        have B4 := Lib.hid b4
        clear o4 b4 g4
        rw [HX.out] at hci
        go_region_with (go_at_call 27; with_reducible refine (E2.out _ ((below_tr B1.out (below_tr B3.out B4.out)).drew)).mono ?_; rintro e w' ⟨rfl, rfl⟩)
        all_goals
          generalize hz : bits .xor .i64 x (2 ^ s) = z at *
          have b5 : Below w3.heap.size w3 (w4.setCell ⟨bj, k, none⟩ (.int .i64 z)) := B4.out.setCell (p := ⟨bj, k, none⟩) (by simpa using hge') _
          have o5 := O4.out.stored hk z
          generalize w4.setCell ⟨bj, k, none⟩ (.int .i64 z) = w5 at *
          have b5' := below_tr B3.out b5
          have O5 := Lib.hid o5.ints
          have O6 := Lib.hid (O3.out.ints.below b5)
          have O7 := Lib.hid (O1.out.ints.below b5')
          have B5 := Lib.hid (below_tr B1.out b5').drew
          clear b5 b5' o5 hci hfi O4 B4 O3 B3 O1 B1 hz HX HL
          have hn := HN.out
          have hf := HF.out
          clear HN HF
          go_wp2_with fail
          refine (checksum_any (some ⟨bi, 0, none⟩) m c2 (xs.set k y) _ O6.out.drewd (by omega)).mono ?_
          rintro e w6 ⟨rfl, b6⟩
          have B6 := Lib.hid (b6 : Below w5.heap.size w5.drew w6)
          clear b6
          go_wp2_with fail
          refine (checksum_any A1 m c1 xs _ (O7.out.drewd.below B6.out) (by omega)).mono ?_
          rintro e w7 ⟨rfl, b7⟩
          have B7 := Lib.hid (below_tr B6.out b7)
          have hne : (csum (xs.set k y) != csum xs) = true := by simpa using hn
          clear b7
          go_wp2_with fail
          refine (checksum_any (some ⟨bj, 0, none⟩) m c4 (xs.set k z) _ (O5.out.drewd.below B7.out) (by omega)).mono ?_
          rintro e w8 ⟨rfl, b8⟩
          have B8 := Lib.hid (below_tr B7.out b8)
          clear b8
          go_wp2_with fail
          refine (checksum_any A1 m c1 xs _ (O7.out.drewd.below B8.out) (by omega)).mono ?_
          rintro e w9 ⟨rfl, b9⟩
          have B9 := Lib.hid (below_tr B8.out b9)
          clear b9
          go_wp2_with fail
          go_ret
          exact ⟨rfl, below_tr B5.out B9.out⟩
  · have d : decide ((n : Int) > 1048576) = true := by simp; omega
    go_enter Try.func6, Try.ntmps6
    go_wp2_with (go_at_call 25; refine (big_any _ _ _ _).mono ?_; rintro e w' ⟨rfl, rfl⟩)
    go_ret
    exact ⟨rfl, Below.refl _ _⟩
end Go.Proofs.Ytpmeocgmlchjaaa
