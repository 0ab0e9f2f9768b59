/- Checksum: the program's and the reference's compute one number. -/
import Derived.Test.YtdnpdfjlmejpkaaHar
import Derived.Test.YtdnpdfjlmejpkaaBit
namespace Go.Proofs.Ytdnpdfjlmejpkaa
set_option maxRecDepth 100000
open Go.RowKit

def csBit (c : Int) : Int := if bits .and .i64 c 1 == 1 then bits .xor .i64 (c / 2) 33800 else c / 2
def csIter : Nat → Int → Int
  | 0, c => c
  | k + 1, c => csBit (csIter k c)
def csWord (c x : Int) : Int := csIter 16 (bits .xor .i64 c (bits .and .i64 x 65535))
def csumTo (xs : List Int) (k : Nat) : Int := (xs.take k).foldl csWord 65535
def csum (xs : List Int) : Int := xs.foldl csWord 65535

set_option maxHeartbeats 400000 in
theorem checksum_any (A : Option Addr) (n c : Nat) (xs : List Int) (w : World) (hA : Ints w A n xs) (hn : n ≤ 1099511627776) :
    Calls Try.prog 69 #[.slice A n c] w fun e w' => e = .returned (.int .i64 (csum xs)) ∧ Below w.heap.size w w' := by
  obtain ⟨hx, hA⟩ := hA
  have HX := Lib.hid hx
  clear hx
  go_enter Try.func69, Try.ntmps69
  go_wp2_with fail
  go_loop [3, 10] (fun v i => ∃ k : Nat, k ≤ n ∧ i = .int .i64 k ∧ v = .int .i64 (csumTo xs k)) (fun _ i => n - (intOf i).toNat)
  case atStart => exact ⟨0, Nat.zero_le _, rfl, rfl⟩
  case round =>
    obtain ⟨k, hk, rfl, rfl⟩ := hrel
    by_cases hlt : k < n
    · obtain ⟨b, o, rfl, hb, hc⟩ := hA (by omega)
      have hck := hc k hlt
      clear hc
      have hs : csumTo xs (k + 1) = csWord (csumTo xs k) (xs[k]?.getD 0) := by
        have : k < xs.length := by rw [HX.out]; exact hlt
        rw [csumTo, List.take_succ_eq_append_getElem this, List.foldl_append, List.getElem?_eq_getElem this]
        rfl
      have HS := Lib.hid hs
      clear hs
      generalize xs[k]?.getD 0 = x at *
      generalize csumTo xs k = c0 at *
      go_wp2_with fail
      go_loop [3, 6] (fun v i => ∃ j : Nat, j ≤ 16 ∧ i = .int .i64 j ∧ v = .int .i64 (csIter j (bits .xor .i64 c0 (bits .and .i64 x 65535)))) (fun _ i => 16 - (intOf i).toNat)
      case atStart => exact ⟨0, Nat.zero_le _, rfl, rfl⟩
      case round =>
        obtain ⟨j, hj, rfl, rfl⟩ := hrel
        by_cases hlj : j < 16
        · have hi := csIter.eq_2 (bits .xor .i64 c0 (bits .and .i64 x 65535)) j
          have HI := Lib.hid hi
          clear hi
          generalize csIter j (bits .xor .i64 c0 (bits .and .i64 x 65535)) = c2 at *
          by_cases ho : (bits .and .i64 c2 1 == 1) = true
          · go_wp2
            go_round
            case rel => exact ⟨j + 1, by omega, by go_num, by rw [HI.out, csBit, if_pos ho]⟩
            case measure => simp [intOf]; omega
          · go_wp2
            go_round
            case rel => exact ⟨j + 1, by omega, by go_num, by rw [HI.out, csBit, if_neg ho]⟩
            case measure => simp [intOf]; omega
        · obtain rfl : j = 16 := by omega
          go_wp2
          go_round
          case rel => exact ⟨k + 1, by omega, by go_num, by rw [HS.out]; rfl⟩
          case measure => simp [intOf]; omega
    · have hkn : k = n := by omega
      subst hkn
      go_wp2
      go_ret
      exact ⟨ret_int (by rw [csumTo, List.take_of_length_le (by rw [HX.out]; exact Nat.le_refl _)]; rfl), Below.refl _ _⟩

set_option maxHeartbeats 400000 in
theorem schecksum_any (A : Option Addr) (n c : Nat) (xs : List Int) (w : World) (hA : Ints w A n xs) (hn : n ≤ 1099511627776) :
    Calls Try.prog 66 #[.slice A n c] w fun e w' => e = .returned (.int .i64 (csum xs)) ∧ Below w.heap.size w w' := by
  obtain ⟨hx, hA⟩ := hA
  have HX := Lib.hid hx
  clear hx
  go_enter Try.func66, Try.ntmps66
  go_wp2_with fail
  go_loop [3, 4] (fun v i => ∃ k : Nat, k ≤ n ∧ i = .int .i64 k ∧ v = .int .i64 (csumTo xs k)) (fun _ i => n - (intOf i).toNat)
  case atStart => exact ⟨0, Nat.zero_le _, rfl, rfl⟩
  case round =>
    obtain ⟨k, hk, rfl, rfl⟩ := hrel
    by_cases hlt : k < n
    · obtain ⟨b, o, rfl, hb, hc⟩ := hA (by omega)
      have hck := hc k hlt
      clear hc
      have hs : csumTo xs (k + 1) = csWord (csumTo xs k) (xs[k]?.getD 0) := by
        have : k < xs.length := by rw [HX.out]; exact hlt
        rw [csumTo, List.take_succ_eq_append_getElem this, List.foldl_append, List.getElem?_eq_getElem this]
        rfl
      have HS := Lib.hid hs
      clear hs
      generalize xs[k]?.getD 0 = x at *
      generalize csumTo xs k = c0 at *
      go_wp2_with fail
      go_loop [3, 5] (fun v i => ∃ j : Nat, j ≤ 16 ∧ i = .int .i64 j ∧ v = .int .i64 (csIter j (bits .xor .i64 c0 (bits .and .i64 x 65535)))) (fun _ i => 16 - (intOf i).toNat)
      case atStart => exact ⟨0, Nat.zero_le _, rfl, rfl⟩
      case round =>
        obtain ⟨j, hj, rfl, rfl⟩ := hrel
        by_cases hlj : j < 16
        · have hi := csIter.eq_2 (bits .xor .i64 c0 (bits .and .i64 x 65535)) j
          have HI := Lib.hid hi
          clear hi
          generalize csIter j (bits .xor .i64 c0 (bits .and .i64 x 65535)) = c2 at *
          by_cases ho : (bits .and .i64 c2 1 == 1) = true
          · go_wp2
            go_round
            case rel => exact ⟨j + 1, by omega, by go_num, by rw [HI.out, csBit, if_pos ho]⟩
            case measure => simp [intOf]; omega
          · go_wp2
            go_round
            case rel => exact ⟨j + 1, by omega, by go_num, by rw [HI.out, csBit, if_neg ho]⟩
            case measure => simp [intOf]; omega
        · obtain rfl : j = 16 := by omega
          go_wp2
          go_round
          case rel => exact ⟨k + 1, by omega, by go_num, by rw [HS.out]; rfl⟩
          case measure => simp [intOf]; omega
    · have hkn : k = n := by omega
      subst hkn
      go_wp2
      go_ret
      exact ⟨ret_int (by rw [csumTo, List.take_of_length_le (by rw [HX.out]; exact Nat.le_refl _)]; rfl), Below.refl _ _⟩
end Go.Proofs.Ytdnpdfjlmejpkaa
