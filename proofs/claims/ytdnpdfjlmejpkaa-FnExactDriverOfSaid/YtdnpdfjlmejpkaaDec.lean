/- Reading numbers out of words of bits: the program's reader and the reference's. -/
import Derived.Test.YtdnpdfjlmejpkaaData
namespace Go.Proofs.Ytdnpdfjlmejpkaa
set_option maxRecDepth 100000
open Go.RowKit Cw

def In16 (ws : List Int) : Prop := ∀ j, j < ws.length → 0 ≤ ws[j]?.getD 0 ∧ ws[j]?.getD 0 ≤ 65535
/-- A reader at block g, over the words ws, at bit p. -/
def Rdr (w : World) (g : Nat) (A : Option Addr) (n c : Nat) (p : Nat) : Prop := w.heap[g]? = some (.cells #[.slice A n c, .int .i64 p] 152 (0, 0))

set_option maxHeartbeats 1000000 in
theorem get_any (g : Nat) (A : Option Addr) (n c : Nat) (ws : List Int) (p b : Nat) (w : World) (h : Rdr w g A n c p) (hA : Ints w A n ws) (hne : ∀ a, A = some a → a.block ≠ g) (hin : In16 ws) (hp : p + b ≤ 16 * n) (hb : b ≤ 16) (hn : n ≤ 1000) :
    Calls Try.prog 161 #[.pointer (some ⟨g, 0, none⟩), .int .i64 b] w fun e w' => e = .returned (.int .i64 (getW ws p b)) ∧ Rdr w' g A n c (p + b) ∧ w.grownBy w' (some g) := by
  have HIN := Lib.hid hin
  have HI := Lib.hid hA
  have HH := Lib.hid h
  have HNE := Lib.hid hne
  clear hin hA h hne
  go_enter Try.func161, Try.ntmps161
  go_wp2_with fail
  go_loopw [5, 6] (fun v i wr => ∃ k : Nat, k ≤ b ∧ i = .int .i64 k ∧ v = .int .i64 ((getTo ws p k : Nat) : Int) ∧ Rdr wr g A n c (p + k) ∧ w.grownBy wr (some g)) (fun _ i _ => b - (intOf i).toNat)
  case atStart => exact ⟨0, Nat.zero_le _, rfl, rfl, HH.out, grownBy_refl _ _⟩
  case round =>
    obtain ⟨k, hk, rfl, rfl, hr, hg⟩ := hrel
    have HR := Lib.hid hr
    have HG := Lib.hid hg
    have c0 : wr.cell? ⟨g, 0, none⟩ = some (.slice A n c) := by unfold Rdr at hr; simp [World.cell?, hr]
    have c1 : wr.cell? ⟨g, 1, none⟩ = some (.int .i64 ((p + k : Nat) : Int)) := by unfold Rdr at hr; simp [World.cell?, hr]
    have f1 : wr.frozen? ⟨g, 1, none⟩ = false := by unfold Rdr at hr; simp [World.frozen?, hr]
    by_cases hlt : k < b
    · have hq : (p + k) / 16 < n := by omega
      obtain ⟨bb, o, rfl, hbb, hc⟩ := HI.out.2 (by omega)
      have hck := hc ((p + k) / 16) hq
      have hbg : bb ≠ g := HNE.out _ rfl
      rw [← World.cell?_of_block (a := ⟨bb, o + (p + k) / 16, none⟩) (hg.block bb hbb (by simpa using hbg))] at hck
      have hx := HIN.out ((p + k) / 16) (by rw [HI.out.1]; exact hq)
      have HW := Lib.hid (getTo.eq_2 ws p k)
      have hlt2 := getTo_lt ws p k
      have hbw : bitW ws (p + k) = bit (ws[(p + k) / 16]?.getD 0).toNat ((p + k) % 16) := rfl
      clear hc hr hg
      generalize getTo ws p k = acc at *
      generalize ws[(p + k) / 16]?.getD 0 = x at *
      obtain ⟨x, rfl⟩ := Int.eq_ofNat_of_zero_le hx.1
      have HB := Lib.hid hbw
      have HL := Lib.hid hlt2
      clear hbw hlt2
      generalize ha : p + k = a at *
      have HA := Lib.hid ha
      have e1 : (a : Int).tmod 16 = ((a % 16 : Nat) : Int) := by rw [Int.tmod_eq_emod_of_nonneg (by omega)]; omega
      have e2 : IntKind.i64.wrap ((a : Int).tdiv 16) = ((a / 16 : Nat) : Int) := by rw [IntWalk.i64_quo _ _ ⟨by omega, by omega, by omega⟩]; omega
      have q0 : (0 : Int) ≤ ((a / 16 : Nat) : Int) := by omega
      have q1 : ((a / 16 : Nat) : Int) < (n : Int) := by omega
      have r0 : (0 : Int) ≤ ((a % 16 : Nat) : Int) := by omega
      have r1 : ((a % 16 : Nat) : Int) < 16 := by omega
      clear ha
      go_wp2_with fail
      go_quiet (fail)
      go_wp2_with fail
      go_roundw
      case rel =>
        refine ⟨k + 1, by omega, by go_num, ?_, ?_, grownBy_store (grownBy_drewN HG.out _) _ _⟩
        · rw [shr_bit x (a % 16) (by omega), or_bit HL.out (bit_le _ _) (by omega), HW.out, HB.out, Int.toNat_natCast]
        · unfold Rdr
          have h2 := heap_set (w := wr.drewN nq) HR.out 1 (.int .i64 ((a : Int) + 1))
          rw [show p + (k + 1) = a + 1 by have := HA.out; omega]
          exact h2.trans (by simp)
      case measure => simp [intOf]; omega
    · have hkb : k = b := by omega
      subst hkb
      go_wp2_with fail
      go_ret
      exact ⟨rfl, HR.out, HG.out⟩
set_option maxHeartbeats 1000000 in
theorem sget_any (A : Option Addr) (n c : Nat) (ws : List Int) (p b : Nat) (w : World) (hA : Ints w A n ws) (hin : In16 ws) (hp : p + b ≤ 16 * n) (hb : b ≤ 16) (hn : n ≤ 1000) :
    Calls Try.prog 128 #[.slice A n c, .int .i64 p, .int .i64 b] w fun e w' => e = .returned (.tuple #[.int .i64 (getW ws p b), .int .i64 ((p + b : Nat) : Int)]) ∧ w = w' := by
  have HIN := Lib.hid hin
  have HI := Lib.hid hA
  clear hin hA
  go_enter Try.func128, Try.ntmps128
  go_wp2_with fail
  go_loop [8, 9] (fun v i => ∃ k : Nat, k ≤ b ∧ i = .int .i64 k ∧ v = .int .i64 ((getTo ws p k : Nat) : Int)) (fun _ i => b - (intOf i).toNat)
  case atStart => exact ⟨0, Nat.zero_le _, rfl, rfl⟩
  case round =>
    obtain ⟨k, hk, rfl, rfl⟩ := hrel
    by_cases hlt : k < b
    · have hq : (p + k) / 16 < n := by omega
      obtain ⟨bb, o, rfl, hbb, hc⟩ := HI.out.2 (by omega)
      have hck := hc ((p + k) / 16) hq
      have hx := HIN.out ((p + k) / 16) (by rw [HI.out.1]; exact hq)
      have HW := Lib.hid (getTo.eq_2 ws p k)
      have hlt2 := getTo_lt ws p k
      have hbw : bitW ws (p + k) = bit (ws[(p + k) / 16]?.getD 0).toNat ((p + k) % 16) := rfl
      clear hc
      generalize getTo ws p k = acc at *
      generalize ws[(p + k) / 16]?.getD 0 = x at *
      obtain ⟨x, rfl⟩ := Int.eq_ofNat_of_zero_le hx.1
      have HB := Lib.hid hbw
      have HL := Lib.hid hlt2
      clear hbw hlt2
      have q0 : (0 : Int) ≤ ((p : Int) + k) / 16 := by omega
      have q1 : ((p : Int) + k) / 16 < (n : Int) := by omega
      have r0 : (0 : Int) ≤ ((p : Int) + k) % 16 := by omega
      have r1 : ((p : Int) + k) % 16 < 16 := by omega
      go_wp2_with fail
      go_round
      case rel => exact ⟨k + 1, by omega, by go_num, by rw [shr_bit x ((p + k) % 16) (by omega), add_bit HL.out (bit_le _ _) (by omega), HW.out, HB.out, Int.toNat_natCast]⟩
      case measure => simp [intOf]; omega
    · have hkb : k = b := by omega
      subst hkb
      go_wp2_with fail
      go_ret2
      exact ⟨rfl, rfl⟩
end Go.Proofs.Ytdnpdfjlmejpkaa
