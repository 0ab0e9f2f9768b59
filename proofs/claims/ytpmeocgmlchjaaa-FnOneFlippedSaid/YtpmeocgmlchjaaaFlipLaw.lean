/- FnOneFlipped, the walk: one flipped bit of a codeword is corrected. -/
import Derived.Test.YtpmeocgmlchjaaaLaw
import Derived.Test.YtpmeocgmlchjaaaCw2
import Derived.Test.YtpmeocgmlchjaaaCwFlip
import Derived.Test.YtpmeocgmlchjaaaFlip
namespace Go.Proofs.Ytpmeocgmlchjaaa
open Go.RowKit Cw

theorem DataBits_any (c : Nat) (w : World) (h : c < 4194304) :
    Calls Try.prog 42 #[.int .i64 c] w fun e w' => e = .returned (.int .i64 ((dataW c : Nat) : Int)) ∧ w = w' := by
  have hr := range_true h
  go_enter Try.func42, Try.ntmps42
  go_wp2_with (first
    | (go_at_call 56; refine (inRange_any _ _ _ _).mono ?_; rintro e w' ⟨rfl, rfl⟩)
    | (go_at_call 70; refine (dataBits_any _ _ h).mono ?_; rintro e w' ⟨rfl, rfl⟩))
  go_ret
  exact ⟨rfl, rfl⟩
theorem Syndrome_any (c : Nat) (w : World) (h : c < 4194304) :
    Calls Try.prog 43 #[.int .i64 c] w fun e w' => e = .returned (.int .i64 ((synW c : Nat) : Int)) ∧ w = w' := by
  have hr := range_true h
  go_enter Try.func43, Try.ntmps43
  go_wp2_with (first
    | (go_at_call 56; refine (inRange_any _ _ _ _).mono ?_; rintro e w' ⟨rfl, rfl⟩)
    | (go_at_call 68; refine (syndrome_any _ _ h).mono ?_; rintro e w' ⟨rfl, rfl⟩))
  go_ret
  exact ⟨rfl, rfl⟩

theorem BitDistance_any (a b : Nat) (w : World) (h : a < 4194304) (h' : b < 4194304) :
    Calls Try.prog 41 #[.int .i64 a, .int .i64 b] w fun e w' => e = .returned (.int .i64 ((onesW (a ^^^ b) : Nat) : Int)) ∧ w = w' := by
  have hr := range_true h
  have hr' := range_true h'
  have hx : bits .xor .i64 (a : Int) (b : Int) = ((a ^^^ b : Nat) : Int) := i64_xor_nat a b (by omega) (by omega)
  have hl : a ^^^ b < 4194304 := Nat.xor_lt_two_pow (n := 22) (by omega) (by omega)
  go_enter Try.func41, Try.ntmps41
  go_wp2_with (first
    | (go_at_call 56; refine (inRange_any _ _ _ _).mono ?_; rintro e w' ⟨rfl, rfl⟩)
    | (go_at_call 69; refine (bitCount_any _ _ hl).mono ?_; rintro e w' ⟨rfl, rfl⟩))
  go_ret
  exact ⟨rfl, rfl⟩

/-- What the law's calls answer, in plain numbers. -/
theorem one_flipped (x k : Nat) (hx : x < 65536) (hk : k < 22) :
    flipBit (encW x : Nat) (k : Nat) = ((encW x ^^^ 2 ^ k : Nat) : Int) ∧ decN (encW x) = (x, 0) ∧ decN (encW x ^^^ 2 ^ k) = (x, 1) ∧ onesW (encW x ^^^ (encW x ^^^ 2 ^ k)) = 1 := by
  have hc := encW_lt x
  have hc' := xor_pow_lt hc (show k ≤ 21 by omega)
  have hs := syn_enc x hx
  have ho := ones_enc x
  have hd := data_enc x hx
  have hp : 2 ^ k < 2 ^ 22 := Nat.pow_lt_pow_right (by omega) (by omega)
  refine ⟨?_, ?_, ?_, ?_⟩
  · unfold flipBit
    rw [range_true hc, show inR (k : Int) 0 21 = true from inR_iff.2 ⟨by omega, by omega⟩]
    simp only [Bool.and_self, if_true, Int.toNat_natCast]
    rw [int_pow_cast]
    exact i64_xor_nat _ _ (by omega) (by omega)
  · rw [decN, if_pos ho, if_pos hs, hd]
  · rw [decN, ones_flip _ _ hk, if_neg (by omega)]
    rcases (by omega : k < 21 ∨ k = 21) with h | rfl
    · rw [syn_flip _ _ h, hs, Nat.zero_xor, if_neg (by omega), if_pos (by omega), Nat.add_sub_cancel, Nat.xor_assoc, Nat.xor_self, Nat.xor_zero, hd]
    · rw [syn_flip21, hs, if_pos rfl]
      exact congrArg (fun t => (t, 1)) ((dataW_flip21 _).trans hd)
  · rw [← Nat.xor_assoc, Nat.xor_self, Nat.zero_xor, ones_pow k hk]

set_option maxHeartbeats 1000000 in
theorem law_oneFlipped (A : Option Addr) (n c : Nat) (bs : List Int) (w : World) (h : Bytes w w.heap.size A n bs) (_hm : n ≤ maxLen) :
    Calls Try.prog 11 #[.slice A n c] w fun e w' => e = .returned (.bool true) ∧ Below w.heap.size w w' := by
  by_cases g : n ≤ 1048576
  · have d : decide ((n : Int) > 1048576) = false := by simp; omega
    have b0 := atN_bd h 0
    have b1 := atN_bd h 1
    have b2 := atN_bd h 2
    have e0 : Calls Try.prog 27 #[.slice A n c, .int .i64 0] w fun e w' => e = .returned (.int .i64 (atN bs 0)) ∧ w = w' := @at_any A n c bs 0 _ w h (by omega) (by omega)
    have e1 : Calls Try.prog 27 #[.slice A n c, .int .i64 1] w fun e w' => e = .returned (.int .i64 (atN bs 1)) ∧ w = w' := @at_any A n c bs 1 _ w h (by omega) (by omega)
    have e2 : Calls Try.prog 27 #[.slice A n c, .int .i64 2] w fun e w' => e = .returned (.int .i64 (atN bs 2)) ∧ w = w' := @at_any A n c bs 2 _ w h (by omega) (by omega)
    generalize atN bs 0 = u at *
    generalize atN bs 1 = v at *
    generalize atN bs 2 = q at *
    have hxd : ∃ x : Nat, x < 65536 ∧ u * 256 + v = (x : Int) := ⟨(u * 256 + v).toNat, by omega, by omega⟩
    obtain ⟨x, hx, hxe⟩ := hxd
    have hkd : ∃ k : Nat, k < 22 ∧ q % 22 = (k : Int) := ⟨(q % 22).toNat, by omega, by omega⟩
    obtain ⟨k, hk, hke⟩ := hkd
    have hkt : q.tmod 22 = (k : Int) := by rw [Int.tmod_eq_emod_of_nonneg (by omega)]; exact hke
    obtain ⟨F, D0, D1, O⟩ := one_flipped x k hx hk
    have hc := encW_lt x
    have hc' := xor_pow_lt hc (show k ≤ 21 by omega)
    have HF := Lib.hid F
    have HO := Lib.hid O
    have HD0 : Hid (decW (encW x : Nat) = ((x : Int), 0)) := by unfold Hid; rw [decW_nat hc, D0]; rfl
    have HD1 : Hid (decW ((encW x ^^^ 2 ^ k : Nat) : Int) = ((x : Int), 1)) := by unfold Hid; rw [decW_nat hc', D1]; rfl
    have HR : Hid (repW ((encW x ^^^ 2 ^ k : Nat) : Int) = (((encW x : Nat) : Int), 1)) := by unfold Hid repW; rw [HD1.out]; simp
    have HDE := Lib.hid (data_enc x hx)
    have HSE := Lib.hid (syn_enc x hx)
    clear D0 D1
    have hen := @encodeWord_any x w hx
    have hfl := flipBit_any (encW x : Nat) (k : Int) w
    have hd1 := decodeWord_any ((encW x ^^^ 2 ^ k : Nat) : Int) w
    have hd0 := decodeWord_any ((encW x : Nat) : Int) w
    have hre := repairWord_any ((encW x ^^^ 2 ^ k : Nat) : Int) w
    rw [F] at hfl
    rw [HD1.out] at hd1
    rw [HD0.out] at hd0
    rw [HR.out] at hre
    clear HF HD0 HD1 HR F O
    generalize hek : encW x ^^^ 2 ^ k = ek at *
    generalize hex : encW x = ex at *
    try rw [hex] at HO HDE HSE
    try rw [hek] at HO
    clear hek hex
    go_enter Try.func11, Try.ntmps11
    go_wp2_with (first
      | (go_at_call 25; refine (big_any _ _ _ _).mono ?_; rintro e w' ⟨rfl, rfl⟩)
      | (go_at_call 27; with_reducible refine e0.mono ?_; rintro e w' ⟨rfl, rfl⟩)
      | (go_at_call 27; with_reducible refine e1.mono ?_; rintro e w' ⟨rfl, rfl⟩)
      | (go_at_call 27; with_reducible refine e2.mono ?_; rintro e w' ⟨rfl, rfl⟩))
    go_wp2_with (first
      | (go_at_call 37; with_reducible refine hen.mono ?_; rintro e w' ⟨rfl, rfl⟩)
      | (go_at_call 38; with_reducible refine hfl.mono ?_; rintro e w' ⟨rfl, rfl⟩)
      | (go_at_call 39; with_reducible refine hd1.mono ?_; rintro e w' ⟨rfl, rfl⟩)
      | (go_at_call 39; with_reducible refine hd0.mono ?_; rintro e w' ⟨rfl, rfl⟩))
    go_wp2_with (first
      | (go_at_call 40; with_reducible refine hre.mono ?_; rintro e w1 ⟨rfl, B1⟩; have hbd := BitDistance_any _ _ w1 hc hc'; have hdb := DataBits_any _ w1 hc; have hsy := Syndrome_any _ w1 hc; rw [HO.out] at hbd; rw [HDE.out] at hdb; rw [HSE.out] at hsy)
      | (go_at_call 41; with_reducible refine hbd.mono ?_; rintro e w' ⟨rfl, rfl⟩)
      | (go_at_call 42; with_reducible refine hdb.mono ?_; rintro e w' ⟨rfl, rfl⟩)
      | (go_at_call 43; with_reducible refine hsy.mono ?_; rintro e w' ⟨rfl, rfl⟩))
    go_ret
    exact ⟨rfl, B1⟩
  · have d : decide ((n : Int) > 1048576) = true := by simp; omega
    go_enter Try.func11, Try.ntmps11
    go_wp2_with (go_at_call 25; refine (big_any _ _ _ _).mono ?_; rintro e w' ⟨rfl, rfl⟩)
    go_ret
    exact ⟨rfl, Below.refl _ _⟩
end Go.Proofs.Ytpmeocgmlchjaaa
