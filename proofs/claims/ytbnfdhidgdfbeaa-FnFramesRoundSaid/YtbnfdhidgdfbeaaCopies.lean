/- FramesOk of the program and of the reference: one answer. copyLists, l19Copy, FlipBit, FlipFrame: the program's and the reference's answers are one. -/
import Derived.Test.YtbnfdhidgdfbeaaCopy
import Derived.Test.YtbnfdhidgdfbeaaFrame
namespace Go.Proofs.Ytbnfdhidgdfbeaa
set_option maxRecDepth 100000
open Go.RowKit

set_option maxHeartbeats 1000000 in
theorem framesOk_any (d : Dev) (A : Option Addr) (n c : Nat) (fs : List (List Int)) (w : World) (hA : Rows2 w A n fs) (hz : size2 fs ≤ 1099511627776) :
    Calls Try.prog 26 #[.agg #[.int .i64 d.W, .int .i64 d.H, .int .i64 d.T, .int .i64 d.R], .slice A n c] w fun e w' => e = .returned (.bool (framesOk d fs)) ∧ Below w.heap.size w w' := by
  have hB0 : Below w.heap.size w (w.alloc (.cells #[.int .i64 d.W, .int .i64 d.H, .int .i64 d.T, .int .i64 d.R] 29)) := below_new (Below.refl _ _) _
  have HI := Lib.hid hA
  have hX := hA.1
  obtain ⟨hn, hrow⟩ := size2_bd hX hz
  have HX := Lib.hid hX
  have HR := Lib.hid hrow
  clear hA hX hrow
  go_enter Try.func26, Try.ntmps26
  go_wp2_with fail
  refine (deviceOk_any d _).mono ?_
  rintro e w1 ⟨rfl, b1⟩
  have hs1 := b1.size
  simp only [World.size_alloc] at hs1
  obtain ⟨hcc, hff⟩ := bcell b1
  have B1 := Lib.hid b1
  clear b1
  cases hd : devOk d with
  | false =>
    have HD := Lib.hid hd
    clear hd
    go_wp2_with fail
    go_ret
    exact ⟨ret_bool (by simp [framesOk, HD.out]), below_tr hB0 B1.out⟩
  | true =>
    obtain ⟨hN, hN1, hN2⟩ := tiles_eq hd
    obtain ⟨hw1, hw2, hh1, hh2, ht1, ht2, _⟩ := devOk_bd hd
    have HD := Lib.hid hd
    clear hd
    by_cases hlen : n = tiles d
    · subst hlen
      obtain ⟨hx1, hA⟩ := HI.out.below (below_tr hB0 B1.out)
      clear hx1 HI
      generalize hT : tiles d = N at *
      have HT := Lib.hid hT
      have HN := Lib.hid hN
      clear hT
      go_wp2_with fail
      clear hN
      go_loopw [22] (fun i wr => ∃ k : Nat, k ≤ N ∧ i = .int .i64 k ∧ Below w1.heap.size w1 wr ∧ ∀ j, j < k → wordsOk (fs[j]?.getD []) (fwI d) 4194303 = true) (fun i _ => N - (intOf i).toNat)
      case atStart => exact ⟨0, Nat.zero_le _, rfl, Below.refl _ _, by intro j hj; omega⟩
      case round =>
        obtain ⟨k, hk, rfl, hbe, hall⟩ := hrel
        clear hcc hff
        obtain ⟨hcc, hff⟩ := bcell (below_tr B1.out hbe)
        have HE := Lib.hid hbe
        have HALL := Lib.hid hall
        clear hall
        by_cases hlt : k < N
        · obtain ⟨b, o, rfl, hb, hc⟩ := hA (by omega)
          obtain ⟨A1, m1, c1, hck, hI1⟩ := hc k hlt
          rw [← hbe.cell (p := ⟨b, o + k, none⟩) hb] at hck
          have J1 := Lib.hid (hI1.below hbe)
          have hm1 : m1 ≤ 1099511627776 := by have := HR.out k; have := hI1.1; omega
          have HBD : Hid (wordsOk (fs[k]?.getD []) (fwI d) 4194303 = false → framesOk d fs = false) := fun h => framesOk_bad (by rw [HX.out]; exact hlt) h
          have HG : Hid (wordsOk (fs[k]?.getD []) (fwI d) 4194303 = true → ∀ j, j < k + 1 → wordsOk (fs[j]?.getD []) (fwI d) 4194303 = true) := fun h => all_succ HALL.out h
          clear hc hI1 hbe
          generalize fs[k]?.getD [] = f at *
          go_wp2_with fail
          refine (frameWords_any d _ ht1 ht2).mono ?_
          rintro e w2 ⟨rfl, b2⟩
          have J2 := Lib.hid (J1.out.below b2)
          have E2 := Lib.hid (below_tr HE.out b2)
          clear b2
          go_wp2_with fail
          refine (wordsOk_any A1 m1 c1 f _ _ _ J2.out hm1).mono ?_
          rintro e w3 ⟨rfl, b3⟩
          have E3 := Lib.hid (below_tr E2.out b3)
          clear b3 hck hcc hff
          obtain ⟨hcc, hff⟩ := bcell (below_tr B1.out E3.out)
          cases hin : wordsOk f (fwI d) 4194303 with
          | true =>
            have HG' := Lib.hid (HG.out hin)
            clear HG HBD hin
            go_wp2_with fail
            go_roundw
            case rel => exact ⟨k + 1, by omega, by go_num, E3.out, HG'.out⟩
            case measure => simp [intOf]; omega
          | false =>
            have HB' := Lib.hid (HBD.out hin)
            clear HG HBD hin
            go_wp2_with fail
            go_ret
            exact ⟨ret_bool (by rw [HB'.out]), below_tr hB0 (below_tr B1.out E3.out)⟩
        · have hkn : k = N := by omega
          subst hkn
          go_wp2
          go_ret
          exact ⟨ret_bool (by rw [framesOk_good HD.out (by rw [HX.out, HT.out]) (by rw [HX.out]; exact HALL.out)]), below_tr hB0 (below_tr B1.out HE.out)⟩
    · have hd1 : ((n : Int) != (tiles d : Int)) = true := by simp; omega
      go_wp2_with fail
      go_ret
      exact ⟨ret_bool (by have := HX.out; simp [framesOk, HD.out]; omega), below_tr hB0 B1.out⟩

end Go.Proofs.Ytbnfdhidgdfbeaa

namespace Go.Proofs.Ytbnfdhidgdfbeaa
set_option maxRecDepth 100000
open Go.RowKit

set_option maxHeartbeats 400000 in
theorem copyInts_any (B : Option Addr) (m d : Nat) (ys : List Int) (w : World) (h : Ints w B m ys) (hm : m ≤ 1099511627776) :
    Calls Try.prog 100 #[.slice B m d] w fun e w' => ∃ A c, e = .returned (.slice A m c) ∧ Own w.heap.size w' A m c ys ∧ Below w.heap.size w w' := by
  have HI := Lib.hid h
  clear h
  go_enter Try.func100, Try.ntmps100
  go_wp2_with (at_builtin; refine wpList_append_ints rfl _ _ rfl w.heap.size (some ⟨w.heap.size, 0, none⟩) 0 0 [] rfl (Own.newAt (w := w) rfl (Nat.le_refl _)) B m d ys rfl (HI.out.below (below_new (Below.refl _ _) _)) (by omega) (by simp) (below_new (Below.refl _ _) _) ?_; rintro A' c' w1 o1 b1 g1)
  have e0 : 0 + m = m := Nat.zero_add _
  go_ret
  exact ⟨A', c', by simp, by simpa using o1, b1⟩

set_option maxHeartbeats 1000000 in
theorem copyLists_any (A : Option Addr) (n c : Nat) (xss : List (List Int)) (w : World) (h : Rows2 w A n xss) (hz : size2 xss ≤ 1099511627776) :
    Calls Try.prog 56 #[.slice A n c] w fun e w' => ∃ A' c', e = .returned (.slice A' n c') ∧ Own2 w.heap.size w'.heap.size w' A' n c' xss ∧ Below w.heap.size w w' := by
  obtain ⟨hn, hrow⟩ := size2_bd h.1 hz
  obtain ⟨hx, hA⟩ := h
  have HX := Lib.hid hx
  have HR := Lib.hid hrow
  clear hx hrow
  go_enter Try.func56, Try.ntmps56
  go_wp2_with fail
  go_loopw [3, 8] (fun v i wr => ∃ (k : Nat) (A' : Option Addr) (c' : Nat), k ≤ n ∧ i = .int .i64 k ∧ v = .slice A' k c' ∧ Own2 w.heap.size wr.heap.size wr A' k c' (xss.take k) ∧ Below w.heap.size w wr) (fun _ i _ => n - (intOf i).toNat)
  case atStart => exact ⟨0, none, 0, Nat.zero_le _, rfl, rfl, by simpa using Own2.nil, Below.refl _ _⟩
  case round =>
    obtain ⟨k, A', c', hk, rfl, rfl, ho, hbe⟩ := hrel
    have HO := Lib.hid ho
    have HE := Lib.hid hbe
    clear ho
    by_cases hlt : k < n
    · obtain ⟨b, o, rfl, hb, hc⟩ := hA (by omega)
      obtain ⟨A1, m1, c1, hck, hI1⟩ := hc k hlt
      rw [← hbe.cell (p := ⟨b, o + k, none⟩) hb] at hck
      have J1 := Lib.hid (hI1.below hbe)
      have hm1 : m1 ≤ 1099511627776 := by have := HR.out k; have := hI1.1; omega
      have hsw := hbe.size
      clear hc hI1 hbe
      go_wp2_with fail
      refine (copyInts_any A1 m1 c1 _ _ J1.out hm1).mono ?_
      rintro e w2 ⟨A2, c2, rfl, o2, b2⟩
      have hs2 := b2.size
      have O2 := Lib.hid o2
      have B2 := Lib.hid b2
      clear o2 b2
      go_wp2_with (at_builtin; refine wpList_push2 rfl _ _ rfl w.heap.size wr.heap.size A' k c' (xss.take k) wr.heap.size A2 m1 c2 _ rfl (HO.out.below B2.out) O2.out rfl (by omega) (Nat.le_refl _) (by omega) (by omega) (by omega) (below_tr HE.out B2.out) ?_; rintro g cap w3 o3 b3)
      go_roundw
      case rel => exact ⟨k + 1, _, _, by omega, by go_num, rfl, by rw [take_snoc_row (by rw [HX.out]; exact hlt)]; exact o3, b3⟩
      case measure => simp [intOf]; omega
    · have hkn : k = n := by omega
      subst hkn
      go_wp2_with fail
      go_ret
      exact ⟨_, _, rfl, by have := HO.out; rwa [List.take_of_length_le (by rw [HX.out]; exact Nat.le_refl _)] at this, HE.out⟩

theorem Own2.widen {lo hi lo' hi' : Nat} {w : World} {A : Option Addr} {n c : Nat} {xss : List (List Int)} (h : Own2 lo hi w A n c xss) (h1 : lo' ≤ lo) (h2 : hi ≤ hi') : Own2 lo' hi' w A n c xss := by
  obtain ⟨vs, k1, k2, k3⟩ := h
  refine ⟨vs, ⟨k1.1, ?_⟩, fun a ha => Nat.lt_of_lt_of_le (k2 a ha) h2, (k3.widen h2).lower h1⟩
  rcases k1.2 with h0 | ⟨g, cap, cur, hv, hg, r⟩
  · exact .inl h0
  · exact .inr ⟨g, cap, cur, hv, Nat.le_trans h1 hg, r⟩
theorem Own2.new0 {w : World} {g : Nat} (hg : w.heap.size = g) : Own2 g (w.alloc (.cells #[] 44)).heap.size (w.alloc (.cells #[] 44)) (some ⟨g, 0, none⟩) 0 0 [] := by
  subst hg
  exact ⟨[], ⟨rfl, .inr ⟨w.heap.size, 0, #[], rfl, Nat.le_refl _, heap_new _ _, Nat.le_refl _, Nat.zero_le _, rfl, rfl⟩⟩, by rintro a ⟨⟩; simp, Inner.nil⟩

end Go.Proofs.Ytbnfdhidgdfbeaa
