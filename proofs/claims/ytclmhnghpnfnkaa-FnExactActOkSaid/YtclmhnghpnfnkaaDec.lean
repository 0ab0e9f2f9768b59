/- Checksum: the program's and the reference's compute one number. The data of frames and their checksum: the program's and the reference's answers are one. Reading numbers out of words of bits: the program's reader and the reference's. -/
import Derived.Test.YtclmhnghpnfnkaaBit
import Derived.Test.YtclmhnghpnfnkaaCopies
import Derived.Test.YtclmhnghpnfnkaaCw2
import Derived.Test.YtclmhnghpnfnkaaHar
import Derived.Test.YtclmhnghpnfnkaaTilePure
namespace Go.Proofs.Ytclmhnghpnfnkaa
set_option maxRecDepth 100000
open Go.RowKit

def csBit (c : Int) : Int := if bits .and .i64 c 1 == 1 then bits .xor .i64 (c / 2) 33800 else c / 2
def csIter : Nat → Int → Int
  | 0, c => c
  | k + 1, c => csBit (csIter k c)
def csWord (c x : Int) : Int := csIter 16 (bits .xor .i64 c (bits .and .i64 x 65535))
def csumTo (xs : List Int) (k : Nat) : Int := (xs.take k).foldl csWord 65535
def csum (xs : List Int) : Int := xs.foldl csWord 65535

end Go.Proofs.Ytclmhnghpnfnkaa

namespace Go.Proofs.Ytclmhnghpnfnkaa
set_option maxRecDepth 100000
open Go.RowKit

theorem dataOf_take {f : List Int} {k : Nat} (h : k < f.length) : dataOf (f.take (k + 1)) = dataOf (f.take k) ++ [dataI (f[k]?.getD 0)] := by
  unfold dataOf
  rw [List.take_succ_eq_append_getElem h, List.map_append, List.getElem?_eq_getElem h]
  rfl
theorem dataOf_length (f : List Int) : (dataOf f).length = f.length := by simp [dataOf]
theorem dataI_nat {c : Int} {x : Nat} (h : c = (x : Int)) : dataI c = ((Cw.dataW x : Nat) : Int) := by rw [dataI, h, Int.toNat_natCast]
def InCode (f : List Int) : Prop := ∀ j, j < f.length → 0 ≤ f[j]?.getD 0 ∧ f[j]?.getD 0 ≤ 4194303
theorem wordsOk_in {f : List Int} {count : Int} (h : wordsOk f count 4194303 = true) : InCode f ∧ (f.length : Int) = count := by
  simp only [wordsOk, Bool.and_eq_true, decide_eq_true_eq] at h
  exact ⟨fun j hj => allIn_get h.2 hj, h.1⟩
theorem frames_in {d : Dev} {fs : List (List Int)} (h : framesOk d fs = true) {j : Nat} (hj : j < fs.length) : InCode (fs[j]?.getD []) ∧ ((fs[j]?.getD []).length : Int) = fwI d := wordsOk_in ((framesOk_iff h).2.2 j hj)

set_option maxHeartbeats 1000000 in
theorem l40Data_any (A : Option Addr) (n c : Nat) (f : List Int) (w : World) (h : Ints w A n f) (hin : InCode f) (hn : n ≤ 16777216) :
    Calls Try.prog 141 #[.slice A n c] w fun e w' => ∃ A' c', e = .returned (.slice A' n c') ∧ Own w.heap.size w' A' n c' (dataOf f) ∧ Below w.heap.size w w' := by
  obtain ⟨hx, hA⟩ := h
  have HX := Lib.hid hx
  have HIN := Lib.hid hin
  clear hx hin
  go_enter Try.func141, Try.ntmps141
  go_wp2_with fail
  go_loopw [3, 4] (fun v i wr => ∃ (k : Nat) (A' : Option Addr) (c' : Nat), k ≤ n ∧ i = .int .i64 k ∧ v = .slice A' k c' ∧ Own w.heap.size wr A' k c' (dataOf (f.take k)) ∧ Below w.heap.size w wr) (fun _ i _ => n - (intOf i).toNat)
  case atStart => exact ⟨0, _, 0, Nat.zero_le _, rfl, rfl, by simpa [dataOf] using Own.new0 (Nat.le_refl _), below_new (Below.refl _ _) _⟩
  case round =>
    obtain ⟨k, A', c', hk, rfl, rfl, ho, hbe⟩ := hrel
    have HO := Lib.hid ho
    have HE := Lib.hid hbe
    clear ho
    by_cases hlt : k < n
    · obtain ⟨b, o, rfl, hb, hc⟩ := hA (by omega)
      have hck := hc k hlt
      rw [← hbe.cell (p := ⟨b, o + k, none⟩) hb] at hck
      have hs := hbe.size
      have hx := HIN.out k (by rw [HX.out]; exact hlt)
      have HT := Lib.hid (dataOf_take (f := f) (k := k) (by rw [HX.out]; exact hlt))
      clear hc hbe
      generalize f[k]?.getD 0 = x at *
      obtain ⟨x, rfl⟩ := Int.eq_ofNat_of_zero_le hx.1
      have HD := Lib.hid (dataI_nat (c := (x : Int)) rfl)
      go_wp2_with (first
        | ((with_reducible refine (sdataBits_any x _ (by omega)).mono ?_); rintro e w' ⟨rfl, rfl⟩)
        | (at_builtin; refine wpList_push rfl _ _ rfl w.heap.size A' k c' (dataOf (f.take k)) _ rfl HO.out rfl (by omega) hs HE.out ?_; rintro g4 cap w4 o4 b4 gr4 hat4))
      go_roundw
      case rel => exact ⟨k + 1, _, _, by omega, by go_num, rfl, by rw [HT.out, HD.out]; exact o4, b4⟩
      case measure => simp [intOf]; omega
    · have hkn : k = n := by omega
      subst hkn
      go_wp2_with fail
      go_ret
      exact ⟨_, _, rfl, by have := HO.out; rwa [List.take_of_length_le (by rw [HX.out]; exact Nat.le_refl _)] at this, HE.out⟩

theorem wordsTo_le {d : Dev} {fs : List (List Int)} {ts : List Int} (h : framesOk d fs = true) (k : Nat) : (wordsTo fs ts k).length ≤ 11 * k := by
  induction k with
  | zero => simp [wordsTo]
  | succ k ih =>
    rw [wordsTo, List.length_append, dataOf_length]
    have : (fs[(ts[k]?.getD 0).toNat]?.getD []).length ≤ 11 := by
      rcases Nat.lt_or_ge (ts[k]?.getD 0).toNat fs.length with hj | hj
      · have := (frames_in h hj).2
        have := fwI_bd (framesOk_iff h).1
        omega
      · rw [List.getElem?_eq_none hj]; simp
    omega
def tilesIn (fs : List (List Int)) (ts : List Int) : Bool := (List.range ts.length).all fun j => inR (ts[j]?.getD 0) 0 ((fs.length : Int) - 1)
theorem tilesIn_bad {fs : List (List Int)} {ts : List Int} {k : Nat} (hk : k < ts.length) (h : inR (ts[k]?.getD 0) 0 ((fs.length : Int) - 1) = false) : tilesIn fs ts = false := by
  cases hs : tilesIn fs ts with
  | false => rfl
  | true =>
    simp only [tilesIn, List.all_eq_true, List.mem_range] at hs
    rw [hs k hk] at h
    cases h
theorem tilesIn_good {fs : List (List Int)} {ts : List Int} (h : ∀ j, j < ts.length → inR (ts[j]?.getD 0) 0 ((fs.length : Int) - 1) = true) : tilesIn fs ts = true := by
  simp only [tilesIn, List.all_eq_true, List.mem_range]
  exact h
def fcsum (d : Dev) (fs : List (List Int)) (ts : List Int) : Int := if (framesOk d fs && tilesIn fs ts) = true then csum (wordsTo fs ts ts.length) else -1

end Go.Proofs.Ytclmhnghpnfnkaa

namespace Go.Proofs.Ytclmhnghpnfnkaa
set_option maxRecDepth 100000
open Go.RowKit Cw

def In16 (ws : List Int) : Prop := ∀ j, j < ws.length → 0 ≤ ws[j]?.getD 0 ∧ ws[j]?.getD 0 ≤ 65535
/-- A reader at block g, over the words ws, at bit p. -/
def Rdr (w : World) (g : Nat) (A : Option Addr) (n c : Nat) (p : Nat) : Prop := w.heap[g]? = some (.cells #[.slice A n c, .int .i64 p] 177 (0, 0))

set_option maxHeartbeats 1000000 in
theorem get_any (g : Nat) (A : Option Addr) (n c : Nat) (ws : List Int) (p b : Nat) (w : World) (h : Rdr w g A n c p) (hA : Ints w A n ws) (hne : ∀ a, A = some a → a.block ≠ g) (hin : In16 ws) (hp : p + b ≤ 16 * n) (hb : b ≤ 16) (hn : n ≤ 1000) :
    Calls Try.prog 184 #[.pointer (some ⟨g, 0, none⟩), .int .i64 b] w fun e w' => e = .returned (.int .i64 (getW ws p b)) ∧ Rdr w' g A n c (p + b) ∧ w.grownBy w' (some g) := by
  have HIN := Lib.hid hin
  have HI := Lib.hid hA
  have HH := Lib.hid h
  have HNE := Lib.hid hne
  clear hin hA h hne
  go_enter Try.func184, Try.ntmps184
  go_wp2_with fail
  go_loopw [5, 6] (fun v i wr => ∃ k : Nat, k ≤ b ∧ i = .int .i64 k ∧ v = .int .i64 ((getTo ws p k : Nat) : Int) ∧ Rdr wr g A n c (p + k) ∧ w.grownBy wr (some g)) (fun _ i _ => b - (intOf i).toNat)
  case atStart => exact ⟨0, Nat.zero_le _, rfl, rfl, HH.out, grownBy_refl _ _⟩
  case round =>
    obtain ⟨k, hk, rfl, rfl, hr, hg⟩ := hrel
    have HR := Lib.hid hr
    have HG := Lib.hid hg
    have c0 : wr.cell? ⟨g, 0, none⟩ = some (.slice A n c) := by unfold Rdr at hr; simp [World.cell?, hr]
    have c1 : wr.cell? ⟨g, 1, none⟩ = some (.int .i64 ((p + k : Nat) : Int)) := by unfold Rdr at hr; simp [World.cell?, hr]
    have f1 : wr.frozen? ⟨g, 1, none⟩ = false := by unfold Rdr at hr; simp [World.frozen?, hr]
    by_cases hlt : k < b
    · have hq : (p + k) / 16 < n := by omega
      obtain ⟨bb, o, rfl, hbb, hc⟩ := HI.out.2 (by omega)
      have hck := hc ((p + k) / 16) hq
      have hbg : bb ≠ g := HNE.out _ rfl
      rw [← World.cell?_of_block (a := ⟨bb, o + (p + k) / 16, none⟩) (hg.block bb hbb (by simpa using hbg))] at hck
      have hx := HIN.out ((p + k) / 16) (by rw [HI.out.1]; exact hq)
      have HW := Lib.hid (getTo.eq_2 ws p k)
      have hlt2 := getTo_lt ws p k
      have hbw : bitW ws (p + k) = bit (ws[(p + k) / 16]?.getD 0).toNat ((p + k) % 16) := rfl
      clear hc hr hg
      generalize getTo ws p k = acc at *
      generalize ws[(p + k) / 16]?.getD 0 = x at *
      obtain ⟨x, rfl⟩ := Int.eq_ofNat_of_zero_le hx.1
      have HB := Lib.hid hbw
      have HL := Lib.hid hlt2
      clear hbw hlt2
      generalize ha : p + k = a at *
      have HA := Lib.hid ha
      have e1 : (a : Int).tmod 16 = ((a % 16 : Nat) : Int) := by rw [Int.tmod_eq_emod_of_nonneg (by omega)]; omega
      have e2 : IntKind.i64.wrap ((a : Int).tdiv 16) = ((a / 16 : Nat) : Int) := by rw [IntWalk.i64_quo _ _ ⟨by omega, by omega, by omega⟩]; omega
      have q0 : (0 : Int) ≤ ((a / 16 : Nat) : Int) := by omega
      have q1 : ((a / 16 : Nat) : Int) < (n : Int) := by omega
      have r0 : (0 : Int) ≤ ((a % 16 : Nat) : Int) := by omega
      have r1 : ((a % 16 : Nat) : Int) < 16 := by omega
      clear ha
      go_wp2_with fail
      go_quiet (fail)
      go_wp2_with fail
      go_roundw
      case rel =>
        refine ⟨k + 1, by omega, by go_num, ?_, ?_, grownBy_store (grownBy_drewN HG.out _) _ _⟩
        · rw [shr_bit x (a % 16) (by omega), or_bit HL.out (bit_le _ _) (by omega), HW.out, HB.out, Int.toNat_natCast]
        · unfold Rdr
          have h2 := heap_set (w := wr.drewN nq) HR.out 1 (.int .i64 ((a : Int) + 1))
          rw [show p + (k + 1) = a + 1 by have := HA.out; omega]
          exact h2.trans (by simp)
      case measure => simp [intOf]; omega
    · have hkb : k = b := by omega
      subst hkb
      go_wp2_with fail
      go_ret
      exact ⟨rfl, HR.out, HG.out⟩
set_option maxHeartbeats 1000000 in
theorem sget_any (A : Option Addr) (n c : Nat) (ws : List Int) (p b : Nat) (w : World) (hA : Ints w A n ws) (hin : In16 ws) (hp : p + b ≤ 16 * n) (hb : b ≤ 16) (hn : n ≤ 1000) :
    Calls Try.prog 178 #[.slice A n c, .int .i64 p, .int .i64 b] w fun e w' => e = .returned (.tuple #[.int .i64 (getW ws p b), .int .i64 ((p + b : Nat) : Int)]) ∧ w = w' := by
  have HIN := Lib.hid hin
  have HI := Lib.hid hA
  clear hin hA
  go_enter Try.func178, Try.ntmps178
  go_wp2_with fail
  go_loop [8, 9] (fun v i => ∃ k : Nat, k ≤ b ∧ i = .int .i64 k ∧ v = .int .i64 ((getTo ws p k : Nat) : Int)) (fun _ i => b - (intOf i).toNat)
  case atStart => exact ⟨0, Nat.zero_le _, rfl, rfl⟩
  case round =>
    obtain ⟨k, hk, rfl, rfl⟩ := hrel
    by_cases hlt : k < b
    · have hq : (p + k) / 16 < n := by omega
      obtain ⟨bb, o, rfl, hbb, hc⟩ := HI.out.2 (by omega)
      have hck := hc ((p + k) / 16) hq
      have hx := HIN.out ((p + k) / 16) (by rw [HI.out.1]; exact hq)
      have HW := Lib.hid (getTo.eq_2 ws p k)
      have hlt2 := getTo_lt ws p k
      have hbw : bitW ws (p + k) = bit (ws[(p + k) / 16]?.getD 0).toNat ((p + k) % 16) := rfl
      clear hc
      generalize getTo ws p k = acc at *
      generalize ws[(p + k) / 16]?.getD 0 = x at *
      obtain ⟨x, rfl⟩ := Int.eq_ofNat_of_zero_le hx.1
      have HB := Lib.hid hbw
      have HL := Lib.hid hlt2
      clear hbw hlt2
      have q0 : (0 : Int) ≤ ((p : Int) + k) / 16 := by omega
      have q1 : ((p : Int) + k) / 16 < (n : Int) := by omega
      have r0 : (0 : Int) ≤ ((p : Int) + k) % 16 := by omega
      have r1 : ((p : Int) + k) % 16 < 16 := by omega
      go_wp2_with fail
      go_round
      case rel => exact ⟨k + 1, by omega, by go_num, by rw [shr_bit x ((p + k) % 16) (by omega), add_bit HL.out (bit_le _ _) (by omega), HW.out, HB.out, Int.toNat_natCast]⟩
      case measure => simp [intOf]; omega
    · have hkb : k = b := by omega
      subst hkb
      go_wp2_with fail
      go_ret2
      exact ⟨rfl, rfl⟩
end Go.Proofs.Ytclmhnghpnfnkaa
