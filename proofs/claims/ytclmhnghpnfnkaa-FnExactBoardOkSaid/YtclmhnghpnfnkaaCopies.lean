/- copyLists, l19Copy, FlipBit, FlipFrame: the program's and the reference's answers are one. -/
import Derived.Test.YtclmhnghpnfnkaaCopy
import Derived.Test.YtclmhnghpnfnkaaFramesOk
namespace Go.Proofs.Ytclmhnghpnfnkaa
set_option maxRecDepth 100000
open Go.RowKit

set_option maxHeartbeats 400000 in
theorem copyInts_any (B : Option Addr) (m d : Nat) (ys : List Int) (w : World) (h : Ints w B m ys) (hm : m ≤ 1099511627776) :
    Calls Try.prog 126 #[.slice B m d] w fun e w' => ∃ A c, e = .returned (.slice A m c) ∧ Own w.heap.size w' A m c ys ∧ Below w.heap.size w w' := by
  have HI := Lib.hid h
  clear h
  go_enter Try.func126, Try.ntmps126
  go_wp2_with (at_builtin; refine wpList_append_ints rfl _ _ rfl w.heap.size (some ⟨w.heap.size, 0, none⟩) 0 0 [] rfl (Own.newAt (w := w) rfl (Nat.le_refl _)) B m d ys rfl (HI.out.below (below_new (Below.refl _ _) _)) (by omega) (by simp) (below_new (Below.refl _ _) _) ?_; rintro A' c' w1 o1 b1 g1)
  have e0 : 0 + m = m := Nat.zero_add _
  go_ret
  exact ⟨A', c', by simp, by simpa using o1, b1⟩

set_option maxHeartbeats 1000000 in
theorem copyLists_any (A : Option Addr) (n c : Nat) (xss : List (List Int)) (w : World) (h : Rows2 w A n xss) (hz : size2 xss ≤ 1099511627776) :
    Calls Try.prog 71 #[.slice A n c] w fun e w' => ∃ A' c', e = .returned (.slice A' n c') ∧ Own2 w.heap.size w'.heap.size w' A' n c' xss ∧ Below w.heap.size w w' := by
  obtain ⟨hn, hrow⟩ := size2_bd h.1 hz
  obtain ⟨hx, hA⟩ := h
  have HX := Lib.hid hx
  have HR := Lib.hid hrow
  clear hx hrow
  go_enter Try.func71, Try.ntmps71
  go_wp2_with fail
  go_loopw [3, 8] (fun v i wr => ∃ (k : Nat) (A' : Option Addr) (c' : Nat), k ≤ n ∧ i = .int .i64 k ∧ v = .slice A' k c' ∧ Own2 w.heap.size wr.heap.size wr A' k c' (xss.take k) ∧ Below w.heap.size w wr) (fun _ i _ => n - (intOf i).toNat)
  case atStart => exact ⟨0, none, 0, Nat.zero_le _, rfl, rfl, by simpa using Own2.nil, Below.refl _ _⟩
  case round =>
    obtain ⟨k, A', c', hk, rfl, rfl, ho, hbe⟩ := hrel
    have HO := Lib.hid ho
    have HE := Lib.hid hbe
    clear ho
    by_cases hlt : k < n
    · obtain ⟨b, o, rfl, hb, hc⟩ := hA (by omega)
      obtain ⟨A1, m1, c1, hck, hI1⟩ := hc k hlt
      rw [← hbe.cell (p := ⟨b, o + k, none⟩) hb] at hck
      have J1 := Lib.hid (hI1.below hbe)
      have hm1 : m1 ≤ 1099511627776 := by have := HR.out k; have := hI1.1; omega
      have hsw := hbe.size
      clear hc hI1 hbe
      go_wp2_with fail
      refine (copyInts_any A1 m1 c1 _ _ J1.out hm1).mono ?_
      rintro e w2 ⟨A2, c2, rfl, o2, b2⟩
      have hs2 := b2.size
      have O2 := Lib.hid o2
      have B2 := Lib.hid b2
      clear o2 b2
      go_wp2_with (at_builtin; refine wpList_push2 rfl _ _ rfl w.heap.size wr.heap.size A' k c' (xss.take k) wr.heap.size A2 m1 c2 _ rfl (HO.out.below B2.out) O2.out rfl (by omega) (Nat.le_refl _) (by omega) (by omega) (by omega) (below_tr HE.out B2.out) ?_; rintro g cap w3 o3 b3)
      go_roundw
      case rel => exact ⟨k + 1, _, _, by omega, by go_num, rfl, by rw [take_snoc_row (by rw [HX.out]; exact hlt)]; exact o3, b3⟩
      case measure => simp [intOf]; omega
    · have hkn : k = n := by omega
      subst hkn
      go_wp2_with fail
      go_ret
      exact ⟨_, _, rfl, by have := HO.out; rwa [List.take_of_length_le (by rw [HX.out]; exact Nat.le_refl _)] at this, HE.out⟩

theorem Own2.widen {lo hi lo' hi' : Nat} {w : World} {A : Option Addr} {n c : Nat} {xss : List (List Int)} (h : Own2 lo hi w A n c xss) (h1 : lo' ≤ lo) (h2 : hi ≤ hi') : Own2 lo' hi' w A n c xss := by
  obtain ⟨vs, k1, k2, k3⟩ := h
  refine ⟨vs, ⟨k1.1, ?_⟩, fun a ha => Nat.lt_of_lt_of_le (k2 a ha) h2, (k3.widen h2).lower h1⟩
  rcases k1.2 with h0 | ⟨g, cap, cur, hv, hg, r⟩
  · exact .inl h0
  · exact .inr ⟨g, cap, cur, hv, Nat.le_trans h1 hg, r⟩
theorem Own2.new0 {w : World} {g : Nat} (hg : w.heap.size = g) : Own2 g (w.alloc (.cells #[] 27)).heap.size (w.alloc (.cells #[] 27)) (some ⟨g, 0, none⟩) 0 0 [] := by
  subst hg
  exact ⟨[], ⟨rfl, .inr ⟨w.heap.size, 0, #[], rfl, Nat.le_refl _, heap_new _ _, Nat.le_refl _, Nat.zero_le _, rfl, rfl⟩⟩, by rintro a ⟨⟩; simp, Inner.nil⟩

set_option maxHeartbeats 1000000 in
theorem l19Copy_any (A : Option Addr) (n c : Nat) (xss : List (List Int)) (w : World) (h : Rows2 w A n xss) (hz : size2 xss ≤ 1099511627776) :
    Calls Try.prog 68 #[.slice A n c] w fun e w' => ∃ A' c', e = .returned (.slice A' n c') ∧ Own2 w.heap.size w'.heap.size w' A' n c' xss ∧ Below w.heap.size w w' := by
  obtain ⟨hn, hrow⟩ := size2_bd h.1 hz
  obtain ⟨hx, hA⟩ := h
  have HX := Lib.hid hx
  have HR := Lib.hid hrow
  clear hx hrow
  go_enter Try.func68, Try.ntmps68
  go_wp2_with fail
  go_loopw [3, 4] (fun v i wr => ∃ (k : Nat) (A' : Option Addr) (c' : Nat), k ≤ n ∧ i = .int .i64 k ∧ v = .slice A' k c' ∧ Own2 w.heap.size wr.heap.size wr A' k c' (xss.take k) ∧ Below w.heap.size w wr) (fun _ i _ => n - (intOf i).toNat)
  case atStart => exact ⟨0, _, 0, Nat.zero_le _, rfl, rfl, by simpa using Own2.new0 rfl, below_new (Below.refl _ _) _⟩
  case round =>
    obtain ⟨k, A', c', hk, rfl, rfl, ho, hbe⟩ := hrel
    have HO := Lib.hid ho
    have HE := Lib.hid hbe
    clear ho
    by_cases hlt : k < n
    · obtain ⟨b, o, rfl, hb, hc⟩ := hA (by omega)
      obtain ⟨A1, m1, c1, hck, hI1⟩ := hc k hlt
      rw [← hbe.cell (p := ⟨b, o + k, none⟩) hb] at hck
      have J1 := Lib.hid (hI1.below hbe)
      have hm1 : m1 ≤ 1099511627776 := by have := HR.out k; have := hI1.1; omega
      have hsw := hbe.size
      have hbw : b < wr.heap.size := by omega
      clear hc hI1 hbe
      go_wp2_with (first
        | (at_builtin; refine wpList_append_ints rfl (.tmp 13) (.tmp 17) rfl wr.heap.size (some ⟨wr.heap.size, 0, none⟩) 0 0 [] rfl (Own.newAt (w := wr) rfl (Nat.le_refl _)) A1 m1 c1 _ rfl (J1.out.below (below_new (Below.refl _ _) _)) (by omega) (by simp) (below_new (Below.refl _ _) _) ?_; rintro A2 c2 w2 o2 b2 g2; have hs2 := b2.size; simp only [Nat.zero_add, List.nil_append] at o2)
        | (at_builtin; refine wpList_push2 rfl _ _ rfl w.heap.size wr.heap.size A' k c' (xss.take k) wr.heap.size A2 m1 c2 _ rfl (HO.out.below b2) o2 rfl (by omega) (Nat.le_refl _) (by omega) (by omega) (by omega) (below_tr HE.out b2) ?_; rintro g cap w3 o3 b3))
      go_roundw
      case rel => exact ⟨k + 1, _, _, by omega, by go_num, rfl, by rw [take_snoc_row (by rw [HX.out]; exact hlt)]; exact o3, b3⟩
      case measure => simp [intOf]; omega
    · have hkn : k = n := by omega
      subst hkn
      go_wp2_with fail
      go_ret
      exact ⟨_, _, rfl, by have := HO.out; rwa [List.take_of_length_le (by rw [HX.out]; exact Nat.le_refl _)] at this, HE.out⟩
end Go.Proofs.Ytclmhnghpnfnkaa
