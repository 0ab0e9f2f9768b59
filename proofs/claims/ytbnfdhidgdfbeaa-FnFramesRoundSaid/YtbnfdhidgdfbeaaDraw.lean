/- The reference's draws: a cursor over bytes; what a draw answers lies in its range. -/
import Derived.Test.YtbnfdhidgdfbeaaBit
import Derived.Test.YtbnfdhidgdfbeaaHar
namespace Go.Proofs.Ytbnfdhidgdfbeaa
set_option maxRecDepth 100000
open Go.RowKit

/-- The slice (A, n) reads as the bytes bs, and lies below block B. -/
def Bytes (w : World) (B : Nat) (A : Option Addr) (n : Nat) (bs : List Int) : Prop :=
  bs.length = n ∧ (∀ j : Nat, 0 ≤ bs[j]?.getD 0 ∧ bs[j]?.getD 0 ≤ 255) ∧ (0 < n → ∃ b o, A = some ⟨b, o, none⟩ ∧ b < B ∧ ∀ j, j < n → w.cell? ⟨b, o + j, none⟩ = some (.int .u8 (bs[j]?.getD 0)))
theorem Bytes.keep {w w' : World} {B : Nat} {A : Option Addr} {n : Nat} {bs : List Int} (h : Bytes w B A n bs) (hk : ∀ k, k < B → w'.heap[k]? = w.heap[k]?) : Bytes w' B A n bs := by
  refine ⟨h.1, h.2.1, fun hn => ?_⟩
  obtain ⟨b, o, e, hlt, hc⟩ := h.2.2 hn
  exact ⟨b, o, e, hlt, fun j hj => (World.cell?_of_block (a := ⟨b, o + j, none⟩) (hk b hlt)).trans (hc j hj)⟩
theorem Bytes.below {w w' : World} {B : Nat} {A : Option Addr} {n : Nat} {bs : List Int} (h : Bytes w B A n bs) (hb : Below B w w') : Bytes w' B A n bs := h.keep hb.block
theorem Bytes.more {w : World} {B B' : Nat} {A : Option Addr} {n : Nat} {bs : List Int} (h : Bytes w B A n bs) (hB : B ≤ B') : Bytes w B' A n bs := by
  refine ⟨h.1, h.2.1, fun hn => ?_⟩
  obtain ⟨b, o, e, hlt, hc⟩ := h.2.2 hn
  exact ⟨b, o, e, Nat.lt_of_lt_of_le hlt hB, hc⟩

def Cur (w : World) (g B : Nat) (A : Option Addr) (n c : Nat) (bs : List Int) : Prop :=
  ∃ (i : Nat) (h : Int), i ≤ n ∧ B ≤ g ∧ w.heap[g]? = some (.cells #[.slice A n c, .int .i64 i, .int .i64 h] 118 (0, 0)) ∧ Bytes w B A n bs

theorem heap_lt {w : World} {g : Nat} {o : Obj} (h : w.heap[g]? = some o) : g < w.heap.size := by
  rcases Nat.lt_or_ge g w.heap.size with hlt | hge
  · exact hlt
  · rw [Array.getElem?_eq_none hge] at h; cases h
theorem Cur.lt {w : World} {g B : Nat} {A : Option Addr} {n c : Nat} {bs : List Int} (h : Cur w g B A n c bs) : g < w.heap.size := by
  obtain ⟨i, x, _, _, hh, _⟩ := h
  exact heap_lt hh
theorem Cur.below {w w' : World} {g B : Nat} {A : Option Addr} {n c : Nat} {bs : List Int} (h : Cur w g B A n c bs) (hb : Below w.heap.size w w') : Cur w' g B A n c bs := by
  have hl := h.lt
  obtain ⟨i, x, hi, hB, hh, hbs⟩ := h
  exact ⟨i, x, hi, hB, (hb.block g hl).trans hh, hbs.below (hb.mono (Nat.le_trans hB (Nat.le_of_lt hl)))⟩
theorem Cur.keep {w w' : World} {g B : Nat} {A : Option Addr} {n c : Nat} {bs : List Int} (h : Cur w g B A n c bs) (hg : w'.heap[g]? = w.heap[g]?) (hk : ∀ k, k < B → w'.heap[k]? = w.heap[k]?) : Cur w' g B A n c bs := by
  obtain ⟨i, x, hi, hB, hh, hbs⟩ := h
  exact ⟨i, x, hi, hB, hg.trans hh, hbs.keep hk⟩
theorem Cur.own_ne {w : World} {g B g' base m c' : Nat} {A : Option Addr} {n c : Nat} {bs xs : List Int} (h : Cur w g B A n c bs) (k : Own base w (some ⟨g', 0, none⟩) m c' xs) : g' ≠ g := by
  rintro rfl
  obtain ⟨i, x, hi, hB, hh, hbs⟩ := h
  rcases k.2 with ⟨hv, _⟩ | ⟨g, cap, cur, hv, hb, hk, _⟩
  · cases hv
  · injection hv with hA
    injection hA with hA
    injection hA with hA
    subst hA
    rw [hh] at hk
    injection hk with hk
    injection hk with _ ht
    exact absurd ht (by decide)
theorem Cur.pushed {w w' : World} {g B : Nat} {A : Option Addr} {n c : Nat} {bs : List Int} {o : Obj} {g' : Nat} (h : Cur w g B A n c bs) (gr : (w.alloc o).grownBy w' (some g')) (hne : g' ≠ g) (hr : B ≤ g') : Cur w' g B A n c bs := by
  have hl := h.lt
  refine h.keep ((gr.block g (by simp; omega) (by simpa using fun e => hne e.symm)).trans (Below.heap_alloc _ _ _ hl)) fun k hk => ?_
  obtain ⟨i, x, hi, hB, _⟩ := h
  exact (gr.block k (by simp; omega) (by simp; omega)).trans (Below.heap_alloc _ _ _ (by omega))
theorem Own.other {w w' : World} {base g' m c' : Nat} {xs : List Int} {r : Nat} (k : Own base w (some ⟨g', 0, none⟩) m c' xs) (h : w.grownBy w' (some r)) (hne : g' ≠ r) : Own base w' (some ⟨g', 0, none⟩) m c' xs :=
  ownsRow_block k fun a ha => h.block _ (k.lt a ha).2 (by injection ha with ha; subst ha; simpa using hne)

theorem bv_and255 (x : BitVec 64) : (x &&& 255#64).toNat ≤ 255 := by
  rw [BitVec.toNat_and]
  exact Nat.le_trans Nat.and_le_right (by decide)
theorem and255_bd (a : Int) : 0 ≤ bits .and .i64 a 255 ∧ bits .and .i64 a 255 ≤ 255 := by
  have h : bits .and .i64 a 255 = IntKind.i64.wrap ((BitVec.ofInt 64 a &&& 255#64).toNat : Int) := rfl
  have hb := bv_and255 (BitVec.ofInt 64 a)
  rw [h, IntWalk.i64_in _ (by omega)]
  omega

set_option maxHeartbeats 1000000 in
theorem l01Byte_any (g B : Nat) (A : Option Addr) (n c : Nat) (bs : List Int) (w : World) (h : Cur w g B A n c bs) (hn : n ≤ 1099511627776) :
    Calls Try.prog 133 #[.pointer (some ⟨g, 0, none⟩)] w fun e w' => ∃ x : Int, e = .returned (.int .i64 x) ∧ 0 ≤ x ∧ x ≤ 255 ∧ Cur w' g B A n c bs ∧ w.grownBy w' (some g) := by
  obtain ⟨i, x, hi, hBg, hh, hlen, hbd, hA⟩ := h
  have c0 : w.cell? ⟨g, 0, none⟩ = some (.slice A n c) := by simp [World.cell?, hh]
  have c1 : w.cell? ⟨g, 1, none⟩ = some (.int .i64 i) := by simp [World.cell?, hh]
  have c2 : w.cell? ⟨g, 2, none⟩ = some (.int .i64 x) := by simp [World.cell?, hh]
  have f1 : w.frozen? ⟨g, 1, none⟩ = false := by simp [World.frozen?, hh]
  have f2 : w.frozen? ⟨g, 2, none⟩ = false := by simp [World.frozen?, hh]
  have HH := Lib.hid hh
  have HL := Lib.hid hlen
  have HB := Lib.hid hbd
  clear hh hlen hbd
  by_cases hin : i < n
  · obtain ⟨b, o, rfl, hbg, hc⟩ := hA (by omega)
    have hci := hc i hin
    have hne : b ≠ g := by omega
    have HC := Lib.hid hc
    clear hc
    have hi0 : (0 : Int) ≤ (i : Int) := by omega
    have hi1 : (i : Int) < (n : Int) := by omega
    go_enter Try.func133, Try.ntmps133
    go_wp2_with fail
    generalize wrap64 (wrap64 (x * 6364136223846793005) + 1442695040888963407) = x' at *
    go_quiet (fail)
    have hy := and255_bd (bits .xor .i64 (x' / 8589934592) (x' / 35184372088832))
    generalize bits .and .i64 (bits .xor .i64 (x' / 8589934592) (x' / 35184372088832)) 255 = y at *
    go_wp2_with fail
    go_quiet (fail)
    go_wp2_with fail
    go_quiet (fail)
    have hz := and255_bd (y + bs[i]?.getD 0)
    go_wp2_with fail
    go_ret
    refine ⟨_, rfl, ?_, ?_, ⟨i + 1, x', by omega, hBg, ?_, HL.out, HB.out, fun _ => ⟨b, o, rfl, hbg, fun j hj => ?_⟩⟩, ?_⟩
    · exact (and255_bd _).1
    · exact (and255_bd _).2
    · exact (heap_set (w := (w.setCell ⟨g, 2, none⟩ (.int .i64 x')).drewN _) (heap_set HH.out 2 (.int .i64 x')) 1 _).trans (by simp)
    · exact ((World.cell?_of_block (a := ⟨b, o + j, none⟩) ((heap_set_ne (w := (w.setCell ⟨g, 2, none⟩ (.int .i64 x')).drewN _) (p := ⟨g, 1, none⟩) hne _).trans (heap_set_ne (p := ⟨g, 2, none⟩) hne _)))).trans (HC.out j hj)
    · exact grownBy_store (grownBy_drewN (grownBy_store (grownBy_refl _ _) _ _) _) _ _
  · have hle : decide ((i : Int) < (n : Int)) = false := by simp; omega
    go_enter Try.func133, Try.ntmps133
    go_wp2_with fail
    generalize wrap64 (wrap64 (x * 6364136223846793005) + 1442695040888963407) = x' at *
    go_quiet (fail)
    have hy := and255_bd (bits .xor .i64 (x' / 8589934592) (x' / 35184372088832))
    generalize bits .and .i64 (bits .xor .i64 (x' / 8589934592) (x' / 35184372088832)) 255 = y at *
    go_wp2_with fail
    go_quiet (fail)
    go_wp2_with fail
    go_ret
    refine ⟨_, rfl, ?_, ?_, ⟨i, x', by omega, hBg, ?_, HL.out, HB.out, fun _ => ?_⟩, ?_⟩
    · exact hy.1
    · exact hy.2
    · exact (heap_set HH.out 2 (.int .i64 x')).trans (by simp)
    · obtain ⟨b, o, rfl, hbg, hc⟩ := hA (by omega)
      exact ⟨b, o, rfl, hbg, fun j hj => (World.cell?_of_block (a := ⟨b, o + j, none⟩) (heap_set_ne (p := ⟨g, 2, none⟩) (by simp only; omega) _)).trans (hc j hj)⟩
    · exact grownBy_drewN (grownBy_drewN (grownBy_store (grownBy_refl _ _) _ _) _) _

theorem tmod_bd {x n : Int} (hx : 0 ≤ x) (hn : 0 < n) : 0 ≤ x % n ∧ x % n < n := ⟨Int.emod_nonneg _ (by omega), Int.emod_lt_of_pos _ hn⟩

set_option maxHeartbeats 1000000 in
theorem l01Below_any (g B : Nat) (A : Option Addr) (n c : Nat) (bs : List Int) (m : Int) (w : World) (h : Cur w g B A n c bs) (hn : n ≤ 1099511627776) (hm : 0 < m) (hm' : m ≤ 1099511627776) :
    Calls Try.prog 106 #[.pointer (some ⟨g, 0, none⟩), .int .i64 m] w fun e w' => ∃ x : Int, e = .returned (.int .i64 x) ∧ 0 ≤ x ∧ x < m ∧ Cur w' g B A n c bs ∧ w.grownBy w' (some g) := by
  have h0 : decide (m ≤ 0) = false := by simp; omega
  have HC := Lib.hid h
  clear h
  by_cases h256 : m ≤ 256
  · have h1 : decide (m ≤ 256) = true := by simpa using h256
    go_enter Try.func106, Try.ntmps106
    go_wp2_with fail
    refine (l01Byte_any g B A n c bs _ HC.out hn).mono ?_
    rintro e w1 ⟨x, rfl, hx0, hx1, k1, g1⟩
    have K1 := Lib.hid k1
    have G1 := Lib.hid g1
    clear k1 g1
    go_wp2_with fail
    go_ret
    exact ⟨_, rfl, (tmod_bd hx0 hm).1, (tmod_bd hx0 hm).2, K1.out, G1.out⟩
  · have h1 : decide (m ≤ 256) = false := by simpa using h256
    go_enter Try.func106, Try.ntmps106
    go_wp2_with fail
    refine (l01Byte_any g B A n c bs _ HC.out hn).mono ?_
    rintro e w1 ⟨x, rfl, hx0, hx1, k1, g1⟩
    have K1 := Lib.hid k1
    have G1 := Lib.hid g1
    clear k1 g1
    go_wp2_with fail
    refine (l01Byte_any g B A n c bs _ K1.out hn).mono ?_
    rintro e w2 ⟨y, rfl, hy0, hy1, k2, g2⟩
    have K2 := Lib.hid k2
    have G2 := Lib.hid (grownBy_trans G1.out g2)
    clear k2 g2
    go_wp2_with fail
    refine (l01Byte_any g B A n c bs _ K2.out hn).mono ?_
    rintro e w3 ⟨z, rfl, hz0, hz1, k3, g3⟩
    have K3 := Lib.hid k3
    have G3 := Lib.hid (grownBy_trans G2.out g3)
    clear k3 g3
    go_wp2_with fail
    refine (l01Byte_any g B A n c bs _ K3.out hn).mono ?_
    rintro e w4 ⟨v, rfl, hv0, hv1, k4, g4⟩
    have K4 := Lib.hid k4
    have G4 := Lib.hid (grownBy_trans G3.out g4)
    clear k4 g4
    have hs : 0 ≤ x * 16777216 + y * 65536 + z * 256 + v := by omega
    go_wp2_with fail
    go_ret
    exact ⟨_, rfl, (tmod_bd hs hm).1, (tmod_bd hs hm).2, K4.out, G4.out⟩

set_option maxHeartbeats 1000000 in
theorem l01Once_any (g B : Nat) (A : Option Addr) (n c : Nat) (bs : List Int) (m : Int) (w : World) (h : Cur w g B A n c bs) (hn : n ≤ 1099511627776) (hm : 0 < m) (hm' : m ≤ 1099511627776) :
    Calls Try.prog 129 #[.pointer (some ⟨g, 0, none⟩), .int .i64 m] w fun e w' => ∃ x : Bool, e = .returned (.bool x) ∧ Cur w' g B A n c bs ∧ w.grownBy w' (some g) := by
  have HC := Lib.hid h
  clear h
  go_enter Try.func129, Try.ntmps129
  go_wp2_with fail
  refine (l01Below_any g B A n c bs m _ HC.out hn hm hm').mono ?_
  rintro e w1 ⟨x, rfl, hx0, hx1, k1, g1⟩
  have K1 := Lib.hid k1
  have G1 := Lib.hid g1
  clear k1 g1
  go_wp2_with fail
  go_ret
  exact ⟨_, rfl, K1.out, G1.out⟩

/-! ### a new cursor -/
set_option maxRecDepth 100000 in
set_option maxHeartbeats 1000000 in
theorem l01New_any (A : Option Addr) (n c : Nat) (bs : List Int) (w : World) (h : Bytes w w.heap.size A n bs) (hn : n ≤ 1099511627776) :
    Calls Try.prog 55 #[.slice A n c] w fun e w' => ∃ g : Nat, e = .returned (.pointer (some ⟨g, 0, none⟩)) ∧ w.heap.size ≤ g ∧ Cur w' g w.heap.size A n c bs ∧ Below w.heap.size w w' := by
  have HB := Lib.hid h
  obtain ⟨hlen, hbd, hA⟩ := h
  have HX := Lib.hid hlen
  have HD := Lib.hid hbd
  clear hlen hbd
  go_enter Try.func55, Try.ntmps55
  go_wp2_with fail
  go_loopw [3, 4] (fun v i wr => ∃ (k nq : Nat) (x : Int), k ≤ n ∧ i = .int .i64 k ∧ v = .int .i64 x ∧ wr = w.drewN nq) (fun _ i _ => n - (intOf i).toNat)
  case atStart => exact ⟨0, 0, _, Nat.zero_le _, rfl, rfl, rfl⟩
  case round =>
    obtain ⟨k, nq, x, hk, rfl, rfl, rfl⟩ := hrel
    by_cases hlt : k < n ∧ k < 4000
    · obtain ⟨hlt, h4⟩ := hlt
      obtain ⟨b, o, rfl, hbg, hc⟩ := hA (by omega)
      have hck := hc k hlt
      clear hc
      have hi0 : (0 : Int) ≤ (k : Int) := by omega
      have hi1 : (k : Int) < (n : Int) := by omega
      go_wp2_with fail
      go_roundw
      case rel => exact ⟨k + 1, _, _, by omega, by go_num, rfl, rfl⟩
      case measure => simp [intOf]; omega
    · by_cases hlt' : k < n
      · have hd : decide ((k : Int) < 4000) = false := by simp; omega
        go_wp2_with fail
        go_ret
        exact ⟨_, rfl, Nat.le_refl _, ⟨0, x, Nat.zero_le _, Nat.le_refl _, heap_new _ _, HB.out.keep fun j hj => Below.heap_alloc (w.drewN nq) _ _ hj⟩, below_new (below_drewN (Below.refl _ _) _) _⟩
      · have hd : decide ((k : Int) < (n : Int)) = false := by simp; omega
        go_wp2_with fail
        go_ret
        exact ⟨_, rfl, Nat.le_refl _, ⟨0, x, Nat.zero_le _, Nat.le_refl _, heap_new _ _, HB.out.keep fun j hj => Below.heap_alloc (w.drewN nq) _ _ hj⟩, below_new (below_drewN (Below.refl _ _) _) _⟩
end Go.Proofs.Ytbnfdhidgdfbeaa
