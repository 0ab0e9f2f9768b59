/- Codewords: decoding, repairing, distances. Checksum: the program's and the reference's compute one number. The data of frames and their checksum: the program's and the reference's answers are one. -/
import Derived.Test.YtbnfdhidgdfbeaaBit
import Derived.Test.YtbnfdhidgdfbeaaCopies
import Derived.Test.YtbnfdhidgdfbeaaCw
import Derived.Test.YtbnfdhidgdfbeaaHar
import Derived.Test.YtbnfdhidgdfbeaaTilePure
namespace Go.Proofs.Ytbnfdhidgdfbeaa
set_option maxRecDepth 100000
open Go.RowKit Cw

theorem range_true {c : Nat} (h : c < 4194304) : inR (c : Int) 0 4194303 = true := inR_iff.2 ⟨by omega, by omega⟩
theorem dataW_lt (c : Nat) : dataW c < 65536 := gatherTo_lt c 21

/-- What DecodeWord answers for a number in its range. -/
def decN (c : Nat) : Nat × Nat :=
  if onesW c % 2 = 0 then (if synW c = 0 then (dataW c, 0) else (0, 2))
  else if synW c = 0 then (dataW c, 1) else if synW c ≤ 21 then (dataW (c ^^^ 2 ^ (synW c - 1)), 1) else (0, 2)
def decW (code : Int) : Int × Int := if inR code 0 4194303 = true then (((decN code.toNat).1 : Int), ((decN code.toNat).2 : Int)) else (0, 2)
def repW (code : Int) : Int × Int := if (decW code).2 = 1 then ((encW (decW code).1.toNat : Nat), 1) else (code, (decW code).2)
theorem decW_bad {code : Int} (h : inR code 0 4194303 = false) : decW code = (0, 2) := by rw [decW, h]; rfl
theorem decW_nat {c : Nat} (h : c < 4194304) : decW (c : Int) = (((decN c).1 : Int), ((decN c).2 : Int)) := by rw [decW, range_true h]; simp

theorem xor_pow_lt {c k : Nat} (h : c < 4194304) (hk : k ≤ 21) : c ^^^ 2 ^ k < 4194304 := by
  have h1 : 2 ^ k < 2 ^ 22 := Nat.pow_lt_pow_right (by omega) (by omega)
  exact Nat.xor_lt_two_pow (n := 22) (by omega) h1

set_option maxHeartbeats 2000000 in
theorem decodeWord_any (code : Int) (w : World) :
    Calls Try.prog 102 #[.int .i64 code] w fun e w' => e = .returned (.tuple #[.int .i64 (decW code).1, .int .i64 (decW code).2]) ∧ w = w' := by
  cases hr : inR code 0 4194303 with
  | false =>
    have HD := Lib.hid (decW_bad hr)
    go_enter Try.func102, Try.ntmps102
    go_wp2_with (go_at_call 57; refine (inRange_any _ _ _ _).mono ?_; rintro e w' ⟨rfl, rfl⟩)
    go_ret2
    exact ⟨by rw [HD.out]; rfl, rfl⟩
  | true =>
    have hb := inR_iff.1 hr
    obtain ⟨c, rfl⟩ := Int.eq_ofNat_of_zero_le hb.1
    have hc : c < 4194304 := by omega
    have HD := Lib.hid (decW_nat hc)
    have HN : Hid (decN c = if onesW c % 2 = 0 then (if synW c = 0 then (dataW c, 0) else (0, 2))
      else if synW c = 0 then (dataW c, 1) else if synW c ≤ 21 then (dataW (c ^^^ 2 ^ (synW c - 1)), 1) else (0, 2)) := rfl
    have hs : synW c < 32 := synTo_lt c 21 (by omega)
    have ho : onesW c ≤ 22 := popTo_le c 22
    have hx21 : bits .xor .i64 (c : Int) 2097152 = ((c ^^^ 2097152 : Nat) : Int) := i64_xor_nat c 2097152 (by omega) (by omega)
    have hx21' : c ^^^ 2097152 < 4194304 := xor_pow_lt (k := 21) hc (by omega)
    generalize hsy : synW c = s at *
    have HSY := Lib.hid hsy
    clear hsy
    have HON : Hid (onesW c = onesW c) := rfl
    generalize hoy : onesW c = o at *
    have HOY := Lib.hid hoy
    clear hoy HON
    rcases (by omega : o % 2 = 0 ∨ o % 2 = 1) with ho2 | ho2
    · have hoi : (o : Int) % 2 = 0 := by omega
      have HO2 := Lib.hid ho2
      clear ho2
      rcases Nat.eq_zero_or_pos s with rfl | hs0
      · have HV : Hid (decN c = (dataW c, 0)) := by unfold Hid; rw [HN.out, if_pos HO2.out, if_pos rfl]
        clear HN
        go_enter Try.func102, Try.ntmps102
        go_wp2_with (first
          | (go_at_call 57; refine (inRange_any _ _ _ _).mono ?_; rintro e w' ⟨rfl, rfl⟩)
          | (go_at_call 126; refine (syndrome_any _ _ hc).mono ?_; rintro e w' ⟨rfl, rfl⟩; rw [HSY.out])
          | (go_at_call 127; refine (bitCount_any _ _ hc).mono ?_; rintro e w' ⟨rfl, rfl⟩; rw [HOY.out])
          | (go_at_call 103; refine (dataBits_any _ _ hc).mono ?_; rintro e w' ⟨rfl, rfl⟩))
        go_ret2
        exact ⟨by rw [HD.out, HV.out]; simp, rfl⟩
      · have HV : Hid (decN c = (0, 2)) := by unfold Hid; rw [HN.out, if_pos HO2.out, if_neg (by omega)]
        have hs1 : ((s : Int) == 0) = false := by simp; omega
        clear HN
        go_enter Try.func102, Try.ntmps102
        go_wp2_with (first
          | (go_at_call 57; refine (inRange_any _ _ _ _).mono ?_; rintro e w' ⟨rfl, rfl⟩)
          | (go_at_call 126; refine (syndrome_any _ _ hc).mono ?_; rintro e w' ⟨rfl, rfl⟩; rw [HSY.out])
          | (go_at_call 127; refine (bitCount_any _ _ hc).mono ?_; rintro e w' ⟨rfl, rfl⟩; rw [HOY.out]))
        go_ret2
        exact ⟨by rw [HD.out, HV.out]; simp, rfl⟩
    · have hoi : (o : Int) % 2 = 1 := by omega
      have HO2 := Lib.hid ho2
      clear ho2
      rcases Nat.eq_zero_or_pos s with rfl | hs0
      · have HV : Hid (decN c = (dataW c, 1)) := by unfold Hid; rw [HN.out, if_neg (by rw [HO2.out]; omega), if_pos rfl]
        clear HN
        go_enter Try.func102, Try.ntmps102
        go_wp2_with (first
          | (go_at_call 57; refine (inRange_any _ _ _ _).mono ?_; rintro e w' ⟨rfl, rfl⟩)
          | (go_at_call 126; refine (syndrome_any _ _ hc).mono ?_; rintro e w' ⟨rfl, rfl⟩; rw [HSY.out])
          | (go_at_call 127; refine (bitCount_any _ _ hc).mono ?_; rintro e w' ⟨rfl, rfl⟩; rw [HOY.out])
          | (go_at_call 103; refine (dataBits_any _ _ hx21').mono ?_; rintro e w' ⟨rfl, rfl⟩; rw [dataW_flip21]))
        go_ret2
        exact ⟨by rw [HD.out, HV.out]; simp, rfl⟩
      · rcases Nat.lt_or_ge 21 s with h21 | h21
        · have HV : Hid (decN c = (0, 2)) := by unfold Hid; rw [HN.out, if_neg (by rw [HO2.out]; omega), if_neg (by omega), if_neg (by omega)]
          have hs1 : ((s : Int) == 0) = false := by simp; omega
          clear HN
          go_enter Try.func102, Try.ntmps102
          go_wp2_with (first
            | (go_at_call 57; refine (inRange_any _ _ _ _).mono ?_; rintro e w' ⟨rfl, rfl⟩)
            | (go_at_call 126; refine (syndrome_any _ _ hc).mono ?_; rintro e w' ⟨rfl, rfl⟩; rw [HSY.out])
            | (go_at_call 127; refine (bitCount_any _ _ hc).mono ?_; rintro e w' ⟨rfl, rfl⟩; rw [HOY.out]))
          go_ret2
          exact ⟨by rw [HD.out, HV.out]; simp, rfl⟩
        · have HV : Hid (decN c = (dataW (c ^^^ 2 ^ (s - 1)), 1)) := by unfold Hid; rw [HN.out, if_neg (by rw [HO2.out]; omega), if_neg (by omega), if_pos h21]
          obtain ⟨k, rfl⟩ : ∃ k, s = k + 1 := ⟨s - 1, by omega⟩
          have hs1 : ((k : Int) + 1 == 0) = false := by simp; omega
          have hwp : wrap64 (2 ^ k) = 2 ^ k := wrap_pow (by omega)
          have hxk : bits .xor .i64 (c : Int) (2 ^ k) = ((c ^^^ 2 ^ k : Nat) : Int) := by
            rw [int_pow_cast]; exact i64_xor_nat c _ (by omega) (pow_le63 (by omega))
          have hxl : c ^^^ 2 ^ k < 4194304 := xor_pow_lt hc (by omega)
          clear HN
          go_enter Try.func102, Try.ntmps102
          go_wp2_with (first
            | (go_at_call 57; refine (inRange_any _ _ _ _).mono ?_; rintro e w' ⟨rfl, rfl⟩)
            | (go_at_call 126; refine (syndrome_any _ _ hc).mono ?_; rintro e w' ⟨rfl, rfl⟩; rw [HSY.out])
            | (go_at_call 127; refine (bitCount_any _ _ hc).mono ?_; rintro e w' ⟨rfl, rfl⟩; rw [HOY.out])
            | (go_at_call 103; refine (dataBits_any _ _ hxl).mono ?_; rintro e w' ⟨rfl, rfl⟩))
          go_ret2
          exact ⟨by rw [HD.out, HV.out]; simp, rfl⟩
/-! ### repairing -/
theorem decN_data (c : Nat) : (decN c).1 < 65536 := by
  unfold decN
  split
  · split
    · exact dataW_lt c
    · simp
  · split
    · exact dataW_lt c
    · split
      · exact dataW_lt _
      · simp
theorem decW_data (code : Int) : 0 ≤ (decW code).1 ∧ (decW code).1 < 65536 := by
  unfold decW
  split
  · have := decN_data code.toNat
    simp only; omega
  · simp
set_option maxHeartbeats 1000000 in
theorem repairWord_any (code : Int) (w : World) :
    Calls Try.prog 60 #[.int .i64 code] w fun e w' => e = .returned (.tuple #[.int .i64 (repW code).1, .int .i64 (repW code).2]) ∧ Below w.heap.size w w' := by
  have hd := decW_data code
  have HR : Hid (repW code = if (decW code).2 = 1 then (((encW (decW code).1.toNat : Nat) : Int), 1) else (code, (decW code).2)) := rfl
  generalize hx : decW code = dw at *
  have HX := Lib.hid hx
  clear hx
  obtain ⟨x, st⟩ := dw
  simp only at hd
  by_cases h1 : st = 1
  · subst h1
    obtain ⟨x, rfl⟩ := Int.eq_ofNat_of_zero_le hd.1
    go_enter Try.func60, Try.ntmps60
    go_wp2_with (first
      | (go_at_call 102; refine (decodeWord_any _ _).mono ?_; rintro e w' ⟨rfl, rfl⟩; rw [HX.out])
      | (go_at_call 96; refine (encodeWord_any x _ (by omega)).mono ?_; rintro e w1 ⟨rfl, b1⟩; have B1 := Lib.hid ((by subst b1; exact Below.refl _ _ : Below w.heap.size w w1)); clear b1))
    go_ret2
    exact ⟨by rw [HR.out]; simp, B1.out⟩
  · have hs : (st == 1) = false := by simpa using h1
    go_enter Try.func60, Try.ntmps60
    go_wp2_with (first
      | (go_at_call 102; refine (decodeWord_any _ _).mono ?_; rintro e w' ⟨rfl, rfl⟩; rw [HX.out]))
    go_ret2
    exact ⟨by rw [HR.out, if_neg h1]; simp, Below.refl _ _⟩
end Go.Proofs.Ytbnfdhidgdfbeaa

namespace Go.Proofs.Ytbnfdhidgdfbeaa
set_option maxRecDepth 100000
open Go.RowKit

def csBit (c : Int) : Int := if bits .and .i64 c 1 == 1 then bits .xor .i64 (c / 2) 33800 else c / 2
def csIter : Nat → Int → Int
  | 0, c => c
  | k + 1, c => csBit (csIter k c)
def csWord (c x : Int) : Int := csIter 16 (bits .xor .i64 c (bits .and .i64 x 65535))
def csumTo (xs : List Int) (k : Nat) : Int := (xs.take k).foldl csWord 65535
def csum (xs : List Int) : Int := xs.foldl csWord 65535

end Go.Proofs.Ytbnfdhidgdfbeaa

namespace Go.Proofs.Ytbnfdhidgdfbeaa
set_option maxRecDepth 100000
open Go.RowKit

theorem dataOf_take {f : List Int} {k : Nat} (h : k < f.length) : dataOf (f.take (k + 1)) = dataOf (f.take k) ++ [dataI (f[k]?.getD 0)] := by
  unfold dataOf
  rw [List.take_succ_eq_append_getElem h, List.map_append, List.getElem?_eq_getElem h]
  rfl
theorem dataOf_length (f : List Int) : (dataOf f).length = f.length := by simp [dataOf]
theorem dataI_nat {c : Int} {x : Nat} (h : c = (x : Int)) : dataI c = ((Cw.dataW x : Nat) : Int) := by rw [dataI, h, Int.toNat_natCast]
def InCode (f : List Int) : Prop := ∀ j, j < f.length → 0 ≤ f[j]?.getD 0 ∧ f[j]?.getD 0 ≤ 4194303
theorem wordsOk_in {f : List Int} {count : Int} (h : wordsOk f count 4194303 = true) : InCode f ∧ (f.length : Int) = count := by
  simp only [wordsOk, Bool.and_eq_true, decide_eq_true_eq] at h
  exact ⟨fun j hj => allIn_get h.2 hj, h.1⟩
theorem frames_in {d : Dev} {fs : List (List Int)} (h : framesOk d fs = true) {j : Nat} (hj : j < fs.length) : InCode (fs[j]?.getD []) ∧ ((fs[j]?.getD []).length : Int) = fwI d := wordsOk_in ((framesOk_iff h).2.2 j hj)


theorem wordsTo_le {d : Dev} {fs : List (List Int)} {ts : List Int} (h : framesOk d fs = true) (k : Nat) : (wordsTo fs ts k).length ≤ 11 * k := by
  induction k with
  | zero => simp [wordsTo]
  | succ k ih =>
    rw [wordsTo, List.length_append, dataOf_length]
    have : (fs[(ts[k]?.getD 0).toNat]?.getD []).length ≤ 11 := by
      rcases Nat.lt_or_ge (ts[k]?.getD 0).toNat fs.length with hj | hj
      · have := (frames_in h hj).2
        have := fwI_bd (framesOk_iff h).1
        omega
      · rw [List.getElem?_eq_none hj]; simp
    omega
def tilesIn (fs : List (List Int)) (ts : List Int) : Bool := (List.range ts.length).all fun j => inR (ts[j]?.getD 0) 0 ((fs.length : Int) - 1)
theorem tilesIn_bad {fs : List (List Int)} {ts : List Int} {k : Nat} (hk : k < ts.length) (h : inR (ts[k]?.getD 0) 0 ((fs.length : Int) - 1) = false) : tilesIn fs ts = false := by
  cases hs : tilesIn fs ts with
  | false => rfl
  | true =>
    simp only [tilesIn, List.all_eq_true, List.mem_range] at hs
    rw [hs k hk] at h
    cases h
theorem tilesIn_good {fs : List (List Int)} {ts : List Int} (h : ∀ j, j < ts.length → inR (ts[j]?.getD 0) 0 ((fs.length : Int) - 1) = true) : tilesIn fs ts = true := by
  simp only [tilesIn, List.all_eq_true, List.mem_range]
  exact h
def fcsum (d : Dev) (fs : List (List Int)) (ts : List Int) : Int := if (framesOk d fs && tilesIn fs ts) = true then csum (wordsTo fs ts ts.length) else -1

end Go.Proofs.Ytbnfdhidgdfbeaa
