/- Words become codewords, by the program. -/
import Derived.Test.YtbnfdhidgdfbeaaData
namespace Go.Proofs.Ytbnfdhidgdfbeaa
set_option maxRecDepth 100000
open Go.RowKit Cw

def encL (ws : List Int) : List Int := ws.map fun x => ((encW x.toNat : Nat) : Int)
theorem encL_take {ws : List Int} {k : Nat} (h : k < ws.length) : encL (ws.take (k + 1)) = encL (ws.take k) ++ [((Cw.encW (ws[k]?.getD 0).toNat : Nat) : Int)] := by
  unfold encL
  rw [List.take_add_one, List.getElem?_eq_getElem h, List.map_append]
  rfl
theorem encL_full {ws : List Int} {k : Nat} (h : ws.length = k) : encL (ws.take k) = encL ws := by rw [List.take_of_length_le (by omega)]
set_option maxHeartbeats 1000000 in
theorem encodeWords_any (A : Option Addr) (n c : Nat) (ws : List Int) (w : World) (h : Ints w A n ws) (hin : ∀ j, j < ws.length → 0 ≤ ws[j]?.getD 0 ∧ ws[j]?.getD 0 ≤ 65535) (hn : n ≤ 16777216) :
    Calls Try.prog 48 #[.slice A n c] w fun e w' => ∃ A' c', e = .returned (.slice A' n c') ∧ Own w.heap.size w' A' n c' (encL ws) ∧ Below w.heap.size w w' := by
  obtain ⟨hx, hA⟩ := h
  have HX := Lib.hid hx
  have HIN := Lib.hid hin
  clear hx hin
  go_enter Try.func48, Try.ntmps48
  go_wp2_with fail
  go_loopw [3, 8] (fun v i wr => ∃ (k : Nat) (A' : Option Addr) (c' : Nat), k ≤ n ∧ i = .int .i64 k ∧ v = .slice A' k c' ∧ Own w.heap.size wr A' k c' (encL (ws.take k)) ∧ Below w.heap.size w wr) (fun _ i _ => n - (intOf i).toNat)
  case atStart => exact ⟨0, _, 0, Nat.zero_le _, rfl, rfl, by simpa [encL] using Own.nil, Below.refl _ _⟩
  case round =>
    obtain ⟨k, A', c', hk, rfl, rfl, ho, hbe⟩ := hrel
    have HO := Lib.hid ho
    have HE := Lib.hid hbe
    clear ho
    by_cases hlt : k < n
    · obtain ⟨b, o, rfl, hb, hc⟩ := hA (by omega)
      have hck := hc k hlt
      rw [← hbe.cell (p := ⟨b, o + k, none⟩) hb] at hck
      have hs := hbe.size
      have hx := HIN.out k (by rw [HX.out]; exact hlt)
      have HT := Lib.hid (encL_take (ws := ws) (k := k) (by rw [HX.out]; exact hlt))
      clear hc hbe
      generalize ws[k]?.getD 0 = x at *
      obtain ⟨x, rfl⟩ := Int.eq_ofNat_of_zero_le hx.1
      have HT2 := HT.out
      rw [Int.toNat_natCast] at HT2
      replace HT := Lib.hid HT2
      clear HT2
      go_wp2_with (first
        | ((with_reducible refine (encodeWord_any x _ (by omega)).mono ?_); rintro e w' ⟨rfl, rfl⟩)
        | (at_builtin; refine wpList_push rfl _ _ rfl w.heap.size A' k c' (encL (ws.take k)) _ rfl HO.out rfl (by omega) hs HE.out ?_; rintro g4 cap w4 o4 b4 gr4 hat4))
      go_roundw
      case rel => exact ⟨k + 1, _, _, by omega, by go_num, rfl, by rw [HT.out]; exact o4, b4⟩
      case measure => simp [intOf]; omega
    · have hkn : k = n := by omega
      subst hkn
      go_wp2_with fail
      go_ret
      exact ⟨_, _, rfl, by have := HO.out; rwa [List.take_of_length_le (by rw [HX.out]; exact Nat.le_refl _)] at this, HE.out⟩
end Go.Proofs.Ytbnfdhidgdfbeaa
