/- Codewords: decoding, repairing, distances. -/
import Derived.Test.YtdnpdfjlmejpkaaCw
namespace Go.Proofs.Ytdnpdfjlmejpkaa
set_option maxRecDepth 100000
open Go.RowKit Cw

theorem range_true {c : Nat} (h : c < 4194304) : inR (c : Int) 0 4194303 = true := inR_iff.2 ⟨by omega, by omega⟩
theorem dataW_lt (c : Nat) : dataW c < 65536 := gatherTo_lt c 21

/-- What DecodeWord answers for a number in its range. -/
def decN (c : Nat) : Nat × Nat :=
  if onesW c % 2 = 0 then (if synW c = 0 then (dataW c, 0) else (0, 2))
  else if synW c = 0 then (dataW c, 1) else if synW c ≤ 21 then (dataW (c ^^^ 2 ^ (synW c - 1)), 1) else (0, 2)
def decW (code : Int) : Int × Int := if inR code 0 4194303 = true then (((decN code.toNat).1 : Int), ((decN code.toNat).2 : Int)) else (0, 2)
def repW (code : Int) : Int × Int := if (decW code).2 = 1 then ((encW (decW code).1.toNat : Nat), 1) else (code, (decW code).2)
theorem decW_bad {code : Int} (h : inR code 0 4194303 = false) : decW code = (0, 2) := by rw [decW, h]; rfl
theorem decW_nat {c : Nat} (h : c < 4194304) : decW (c : Int) = (((decN c).1 : Int), ((decN c).2 : Int)) := by rw [decW, range_true h]; simp

theorem xor_pow_lt {c k : Nat} (h : c < 4194304) (hk : k ≤ 21) : c ^^^ 2 ^ k < 4194304 := by
  have h1 : 2 ^ k < 2 ^ 22 := Nat.pow_lt_pow_right (by omega) (by omega)
  exact Nat.xor_lt_two_pow (n := 22) (by omega) h1

set_option maxHeartbeats 2000000 in
theorem decodeWord_any (code : Int) (w : World) :
    Calls Try.prog 125 #[.int .i64 code] w fun e w' => e = .returned (.tuple #[.int .i64 (decW code).1, .int .i64 (decW code).2]) ∧ w = w' := by
  cases hr : inR code 0 4194303 with
  | false =>
    have HD := Lib.hid (decW_bad hr)
    go_enter Try.func125, Try.ntmps125
    go_wp2_with (go_at_call 67; refine (inRange_any _ _ _ _).mono ?_; rintro e w' ⟨rfl, rfl⟩)
    go_ret2
    exact ⟨by rw [HD.out]; rfl, rfl⟩
  | true =>
    have hb := inR_iff.1 hr
    obtain ⟨c, rfl⟩ := Int.eq_ofNat_of_zero_le hb.1
    have hc : c < 4194304 := by omega
    have HD := Lib.hid (decW_nat hc)
    have HN : Hid (decN c = if onesW c % 2 = 0 then (if synW c = 0 then (dataW c, 0) else (0, 2))
      else if synW c = 0 then (dataW c, 1) else if synW c ≤ 21 then (dataW (c ^^^ 2 ^ (synW c - 1)), 1) else (0, 2)) := rfl
    have hs : synW c < 32 := synTo_lt c 21 (by omega)
    have ho : onesW c ≤ 22 := popTo_le c 22
    have hx21 : bits .xor .i64 (c : Int) 2097152 = ((c ^^^ 2097152 : Nat) : Int) := i64_xor_nat c 2097152 (by omega) (by omega)
    have hx21' : c ^^^ 2097152 < 4194304 := xor_pow_lt (k := 21) hc (by omega)
    generalize hsy : synW c = s at *
    have HSY := Lib.hid hsy
    clear hsy
    have HON : Hid (onesW c = onesW c) := rfl
    generalize hoy : onesW c = o at *
    have HOY := Lib.hid hoy
    clear hoy HON
    rcases (by omega : o % 2 = 0 ∨ o % 2 = 1) with ho2 | ho2
    · have hoi : (o : Int) % 2 = 0 := by omega
      have HO2 := Lib.hid ho2
      clear ho2
      rcases Nat.eq_zero_or_pos s with rfl | hs0
      · have HV : Hid (decN c = (dataW c, 0)) := by unfold Hid; rw [HN.out, if_pos HO2.out, if_pos rfl]
        clear HN
        go_enter Try.func125, Try.ntmps125
        go_wp2_with (first
          | (go_at_call 67; refine (inRange_any _ _ _ _).mono ?_; rintro e w' ⟨rfl, rfl⟩)
          | (go_at_call 162; refine (syndrome_any _ _ hc).mono ?_; rintro e w' ⟨rfl, rfl⟩; rw [HSY.out])
          | (go_at_call 163; refine (bitCount_any _ _ hc).mono ?_; rintro e w' ⟨rfl, rfl⟩; rw [HOY.out])
          | (go_at_call 68; refine (dataBits_any _ _ hc).mono ?_; rintro e w' ⟨rfl, rfl⟩))
        go_ret2
        exact ⟨by rw [HD.out, HV.out]; simp, rfl⟩
      · have HV : Hid (decN c = (0, 2)) := by unfold Hid; rw [HN.out, if_pos HO2.out, if_neg (by omega)]
        have hs1 : ((s : Int) == 0) = false := by simp; omega
        clear HN
        go_enter Try.func125, Try.ntmps125
        go_wp2_with (first
          | (go_at_call 67; refine (inRange_any _ _ _ _).mono ?_; rintro e w' ⟨rfl, rfl⟩)
          | (go_at_call 162; refine (syndrome_any _ _ hc).mono ?_; rintro e w' ⟨rfl, rfl⟩; rw [HSY.out])
          | (go_at_call 163; refine (bitCount_any _ _ hc).mono ?_; rintro e w' ⟨rfl, rfl⟩; rw [HOY.out]))
        go_ret2
        exact ⟨by rw [HD.out, HV.out]; simp, rfl⟩
    · have hoi : (o : Int) % 2 = 1 := by omega
      have HO2 := Lib.hid ho2
      clear ho2
      rcases Nat.eq_zero_or_pos s with rfl | hs0
      · have HV : Hid (decN c = (dataW c, 1)) := by unfold Hid; rw [HN.out, if_neg (by rw [HO2.out]; omega), if_pos rfl]
        clear HN
        go_enter Try.func125, Try.ntmps125
        go_wp2_with (first
          | (go_at_call 67; refine (inRange_any _ _ _ _).mono ?_; rintro e w' ⟨rfl, rfl⟩)
          | (go_at_call 162; refine (syndrome_any _ _ hc).mono ?_; rintro e w' ⟨rfl, rfl⟩; rw [HSY.out])
          | (go_at_call 163; refine (bitCount_any _ _ hc).mono ?_; rintro e w' ⟨rfl, rfl⟩; rw [HOY.out])
          | (go_at_call 68; refine (dataBits_any _ _ hx21').mono ?_; rintro e w' ⟨rfl, rfl⟩; rw [dataW_flip21]))
        go_ret2
        exact ⟨by rw [HD.out, HV.out]; simp, rfl⟩
      · rcases Nat.lt_or_ge 21 s with h21 | h21
        · have HV : Hid (decN c = (0, 2)) := by unfold Hid; rw [HN.out, if_neg (by rw [HO2.out]; omega), if_neg (by omega), if_neg (by omega)]
          have hs1 : ((s : Int) == 0) = false := by simp; omega
          clear HN
          go_enter Try.func125, Try.ntmps125
          go_wp2_with (first
            | (go_at_call 67; refine (inRange_any _ _ _ _).mono ?_; rintro e w' ⟨rfl, rfl⟩)
            | (go_at_call 162; refine (syndrome_any _ _ hc).mono ?_; rintro e w' ⟨rfl, rfl⟩; rw [HSY.out])
            | (go_at_call 163; refine (bitCount_any _ _ hc).mono ?_; rintro e w' ⟨rfl, rfl⟩; rw [HOY.out]))
          go_ret2
          exact ⟨by rw [HD.out, HV.out]; simp, rfl⟩
        · have HV : Hid (decN c = (dataW (c ^^^ 2 ^ (s - 1)), 1)) := by unfold Hid; rw [HN.out, if_neg (by rw [HO2.out]; omega), if_neg (by omega), if_pos h21]
          obtain ⟨k, rfl⟩ : ∃ k, s = k + 1 := ⟨s - 1, by omega⟩
          have hs1 : ((k : Int) + 1 == 0) = false := by simp; omega
          have hwp : wrap64 (2 ^ k) = 2 ^ k := wrap_pow (by omega)
          have hxk : bits .xor .i64 (c : Int) (2 ^ k) = ((c ^^^ 2 ^ k : Nat) : Int) := by
            rw [int_pow_cast]; exact i64_xor_nat c _ (by omega) (pow_le63 (by omega))
          have hxl : c ^^^ 2 ^ k < 4194304 := xor_pow_lt hc (by omega)
          clear HN
          go_enter Try.func125, Try.ntmps125
          go_wp2_with (first
            | (go_at_call 67; refine (inRange_any _ _ _ _).mono ?_; rintro e w' ⟨rfl, rfl⟩)
            | (go_at_call 162; refine (syndrome_any _ _ hc).mono ?_; rintro e w' ⟨rfl, rfl⟩; rw [HSY.out])
            | (go_at_call 163; refine (bitCount_any _ _ hc).mono ?_; rintro e w' ⟨rfl, rfl⟩; rw [HOY.out])
            | (go_at_call 68; refine (dataBits_any _ _ hxl).mono ?_; rintro e w' ⟨rfl, rfl⟩))
          go_ret2
          exact ⟨by rw [HD.out, HV.out]; simp, rfl⟩
set_option maxHeartbeats 2000000 in
theorem sdecodeWord_any (code : Int) (w : World) :
    Calls Try.prog 123 #[.int .i64 code] w fun e w' => e = .returned (.tuple #[.int .i64 (decW code).1, .int .i64 (decW code).2]) ∧ w = w' := by
  cases hr : inR code 0 4194303 with
  | false =>
    have HD := Lib.hid (decW_bad hr)
    go_enter Try.func123, Try.ntmps123
    go_wp2_with (go_at_call 118; refine (l01In_any _ _ _ _).mono ?_; rintro e w' ⟨rfl, rfl⟩)
    go_ret2
    exact ⟨by rw [HD.out]; rfl, rfl⟩
  | true =>
    have hb := inR_iff.1 hr
    obtain ⟨c, rfl⟩ := Int.eq_ofNat_of_zero_le hb.1
    have hc : c < 4194304 := by omega
    have HD := Lib.hid (decW_nat hc)
    have HN : Hid (decN c = if onesW c % 2 = 0 then (if synW c = 0 then (dataW c, 0) else (0, 2))
      else if synW c = 0 then (dataW c, 1) else if synW c ≤ 21 then (dataW (c ^^^ 2 ^ (synW c - 1)), 1) else (0, 2)) := rfl
    have hs : synW c < 32 := synTo_lt c 21 (by omega)
    have ho : onesW c ≤ 22 := popTo_le c 22
    have hx21 : bits .xor .i64 (c : Int) 2097152 = ((c ^^^ 2097152 : Nat) : Int) := i64_xor_nat c 2097152 (by omega) (by omega)
    have hx21' : c ^^^ 2097152 < 4194304 := xor_pow_lt (k := 21) hc (by omega)
    generalize hsy : synW c = s at *
    have HSY := Lib.hid hsy
    clear hsy
    have HON : Hid (onesW c = onesW c) := rfl
    generalize hoy : onesW c = o at *
    have HOY := Lib.hid hoy
    clear hoy HON
    rcases (by omega : o % 2 = 0 ∨ o % 2 = 1) with ho2 | ho2
    · have hoi : (o : Int) % 2 = 0 := by omega
      have HO2 := Lib.hid ho2
      clear ho2
      rcases Nat.eq_zero_or_pos s with rfl | hs0
      · have HV : Hid (decN c = (dataW c, 0)) := by unfold Hid; rw [HN.out, if_pos HO2.out, if_pos rfl]
        clear HN
        go_enter Try.func123, Try.ntmps123
        go_wp2_with (first
          | (go_at_call 118; refine (l01In_any _ _ _ _).mono ?_; rintro e w' ⟨rfl, rfl⟩)
          | (go_at_call 134; refine (ssyndrome_any _ _ hc).mono ?_; rintro e w' ⟨rfl, rfl⟩; rw [HSY.out])
          | (go_at_call 135; refine (sOnes_any _ _ hc).mono ?_; rintro e w' ⟨rfl, rfl⟩; rw [HOY.out])
          | (go_at_call 119; refine (sdataBits_any _ _ hc).mono ?_; rintro e w' ⟨rfl, rfl⟩))
        go_ret2
        exact ⟨by rw [HD.out, HV.out]; simp, rfl⟩
      · have HV : Hid (decN c = (0, 2)) := by unfold Hid; rw [HN.out, if_pos HO2.out, if_neg (by omega)]
        have hs1 : ((s : Int) == 0) = false := by simp; omega
        clear HN
        go_enter Try.func123, Try.ntmps123
        go_wp2_with (first
          | (go_at_call 118; refine (l01In_any _ _ _ _).mono ?_; rintro e w' ⟨rfl, rfl⟩)
          | (go_at_call 134; refine (ssyndrome_any _ _ hc).mono ?_; rintro e w' ⟨rfl, rfl⟩; rw [HSY.out])
          | (go_at_call 135; refine (sOnes_any _ _ hc).mono ?_; rintro e w' ⟨rfl, rfl⟩; rw [HOY.out]))
        go_ret2
        exact ⟨by rw [HD.out, HV.out]; simp, rfl⟩
    · have hoi : (o : Int) % 2 = 1 := by omega
      have HO2 := Lib.hid ho2
      clear ho2
      rcases Nat.eq_zero_or_pos s with rfl | hs0
      · have HV : Hid (decN c = (dataW c, 1)) := by unfold Hid; rw [HN.out, if_neg (by rw [HO2.out]; omega), if_pos rfl]
        clear HN
        go_enter Try.func123, Try.ntmps123
        go_wp2_with (first
          | (go_at_call 118; refine (l01In_any _ _ _ _).mono ?_; rintro e w' ⟨rfl, rfl⟩)
          | (go_at_call 134; refine (ssyndrome_any _ _ hc).mono ?_; rintro e w' ⟨rfl, rfl⟩; rw [HSY.out])
          | (go_at_call 135; refine (sOnes_any _ _ hc).mono ?_; rintro e w' ⟨rfl, rfl⟩; rw [HOY.out])
          | (go_at_call 119; refine (sdataBits_any _ _ hc).mono ?_; rintro e w' ⟨rfl, rfl⟩))
        go_ret2
        exact ⟨by rw [HD.out, HV.out]; simp, rfl⟩
      · rcases Nat.lt_or_ge 21 s with h21 | h21
        · have HV : Hid (decN c = (0, 2)) := by unfold Hid; rw [HN.out, if_neg (by rw [HO2.out]; omega), if_neg (by omega), if_neg (by omega)]
          have hs1 : ((s : Int) == 0) = false := by simp; omega
          clear HN
          go_enter Try.func123, Try.ntmps123
          go_wp2_with (first
            | (go_at_call 118; refine (l01In_any _ _ _ _).mono ?_; rintro e w' ⟨rfl, rfl⟩)
            | (go_at_call 134; refine (ssyndrome_any _ _ hc).mono ?_; rintro e w' ⟨rfl, rfl⟩; rw [HSY.out])
            | (go_at_call 135; refine (sOnes_any _ _ hc).mono ?_; rintro e w' ⟨rfl, rfl⟩; rw [HOY.out]))
          go_ret2
          exact ⟨by rw [HD.out, HV.out]; simp, rfl⟩
        · have HV : Hid (decN c = (dataW (c ^^^ 2 ^ (s - 1)), 1)) := by unfold Hid; rw [HN.out, if_neg (by rw [HO2.out]; omega), if_neg (by omega), if_pos h21]
          obtain ⟨k, rfl⟩ : ∃ k, s = k + 1 := ⟨s - 1, by omega⟩
          have hs1 : ((k : Int) + 1 == 0) = false := by simp; omega
          have hwp : wrap64 (2 ^ k) = 2 ^ k := wrap_pow (by omega)
          have hxk : bits .xor .i64 (c : Int) (2 ^ k) = ((c ^^^ 2 ^ k : Nat) : Int) := by
            rw [int_pow_cast]; exact i64_xor_nat c _ (by omega) (pow_le63 (by omega))
          have hxl : c ^^^ 2 ^ k < 4194304 := xor_pow_lt hc (by omega)
          clear HN
          go_enter Try.func123, Try.ntmps123
          go_wp2_with (first
            | (go_at_call 118; refine (l01In_any _ _ _ _).mono ?_; rintro e w' ⟨rfl, rfl⟩)
            | (go_at_call 134; refine (ssyndrome_any _ _ hc).mono ?_; rintro e w' ⟨rfl, rfl⟩; rw [HSY.out])
            | (go_at_call 135; refine (sOnes_any _ _ hc).mono ?_; rintro e w' ⟨rfl, rfl⟩; rw [HOY.out])
            | (go_at_call 119; refine (sdataBits_any _ _ hxl).mono ?_; rintro e w' ⟨rfl, rfl⟩))
          go_ret2
          exact ⟨by rw [HD.out, HV.out]; simp, rfl⟩

/-! ### repairing -/
theorem decN_data (c : Nat) : (decN c).1 < 65536 := by
  unfold decN
  split
  · split
    · exact dataW_lt c
    · simp
  · split
    · exact dataW_lt c
    · split
      · exact dataW_lt _
      · simp
theorem decW_data (code : Int) : 0 ≤ (decW code).1 ∧ (decW code).1 < 65536 := by
  unfold decW
  split
  · have := decN_data code.toNat
    simp only; omega
  · simp
set_option maxHeartbeats 1000000 in
theorem repairWord_any (code : Int) (w : World) :
    Calls Try.prog 76 #[.int .i64 code] w fun e w' => e = .returned (.tuple #[.int .i64 (repW code).1, .int .i64 (repW code).2]) ∧ Below w.heap.size w w' := by
  have hd := decW_data code
  have HR : Hid (repW code = if (decW code).2 = 1 then (((encW (decW code).1.toNat : Nat) : Int), 1) else (code, (decW code).2)) := rfl
  generalize hx : decW code = dw at *
  have HX := Lib.hid hx
  clear hx
  obtain ⟨x, st⟩ := dw
  simp only at hd
  by_cases h1 : st = 1
  · subst h1
    obtain ⟨x, rfl⟩ := Int.eq_ofNat_of_zero_le hd.1
    go_enter Try.func76, Try.ntmps76
    go_wp2_with (first
      | (go_at_call 125; refine (decodeWord_any _ _).mono ?_; rintro e w' ⟨rfl, rfl⟩; rw [HX.out])
      | (go_at_call 126; refine (encodeWord_any x _ (by omega)).mono ?_; rintro e w1 ⟨rfl, b1⟩; have B1 := Lib.hid ((by subst b1; exact Below.refl _ _ : Below w.heap.size w w1)); clear b1))
    go_ret2
    exact ⟨by rw [HR.out]; simp, B1.out⟩
  · have hs : (st == 1) = false := by simpa using h1
    go_enter Try.func76, Try.ntmps76
    go_wp2_with (first
      | (go_at_call 125; refine (decodeWord_any _ _).mono ?_; rintro e w' ⟨rfl, rfl⟩; rw [HX.out]))
    go_ret2
    exact ⟨by rw [HR.out, if_neg h1]; simp, Below.refl _ _⟩
set_option maxHeartbeats 1000000 in
theorem srepairWord_any (code : Int) (w : World) :
    Calls Try.prog 73 #[.int .i64 code] w fun e w' => e = .returned (.tuple #[.int .i64 (repW code).1, .int .i64 (repW code).2]) ∧ Below w.heap.size w w' := by
  have hd := decW_data code
  have HR : Hid (repW code = if (decW code).2 = 1 then (((encW (decW code).1.toNat : Nat) : Int), 1) else (code, (decW code).2)) := rfl
  generalize hx : decW code = dw at *
  have HX := Lib.hid hx
  clear hx
  obtain ⟨x, st⟩ := dw
  simp only at hd
  by_cases h1 : st = 1
  · subst h1
    obtain ⟨x, rfl⟩ := Int.eq_ofNat_of_zero_le hd.1
    go_enter Try.func73, Try.ntmps73
    go_wp2_with (first
      | (go_at_call 123; refine (sdecodeWord_any _ _).mono ?_; rintro e w' ⟨rfl, rfl⟩; rw [HX.out])
      | (go_at_call 87; refine (sencodeWord_any x _ (by omega)).mono ?_; rintro e w1 ⟨rfl, b1⟩; have B1 := Lib.hid (b1); clear b1))
    go_ret2
    exact ⟨by rw [HR.out]; simp, B1.out⟩
  · have hs : (st == 1) = false := by simpa using h1
    go_enter Try.func73, Try.ntmps73
    go_wp2_with (first
      | (go_at_call 123; refine (sdecodeWord_any _ _).mono ?_; rintro e w' ⟨rfl, rfl⟩; rw [HX.out]))
    go_ret2
    exact ⟨by rw [HR.out, if_neg h1]; simp, Below.refl _ _⟩
end Go.Proofs.Ytdnpdfjlmejpkaa
