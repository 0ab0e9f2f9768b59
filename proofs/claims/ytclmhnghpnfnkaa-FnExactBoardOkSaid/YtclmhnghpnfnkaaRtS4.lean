/- The sources of a routing node: the reference's function. -/
import Derived.Test.YtclmhnghpnfnkaaRtS2
import Derived.Test.YtclmhnghpnfnkaaRtS3
namespace Go.Proofs.Ytclmhnghpnfnkaa
set_option maxRecDepth 100000
open Go.RowKit

theorem candK_none {d : Dev} {t pin r k : Int} {s : Nat} (h : ∀ s, useOf d pin r k s = false) : candK d t pin r k s = [] := by
  unfold candK
  rw [List.flatMap_eq_nil_iff]
  intro j _
  unfold candS
  rw [h]
  rfl
theorem candS_true {d : Dev} {t pin r k s : Int} (h : useOf d pin r k s = true) : candS d t pin r k s = oneOf (cand d t r k s) := by unfold candS; rw [if_pos h]
theorem candS_false {d : Dev} {t pin r k s : Int} (h : useOf d pin r k s = false) : candS d t pin r k s = [] := by unfold candS; rw [h]; rfl
theorem useOf_wire {d : Dev} {pin : Int} (h7 : 7 ≤ pin) (r k s : Int) : useOf d pin r k s = (decide (r ≠ ((pin - 7) / d.T + 2) % 4) && ((decide (k = (pin - 7) % d.T) || decide (k = ((pin - 7) % d.T + 1) % d.T)) && decide (s = wlen k))) := by unfold useOf wireUse; rw [if_pos h7]
theorem useOf_pin {d : Dev} {pin : Int} (h7 : pin < 7) (r k s : Int) : useOf d pin r k s = !(decide (d.T > 1) && decide ((k + pin) % 2 = 1)) := by unfold useOf pinUse; rw [if_neg (by omega)]
set_option maxHeartbeats 4000000 in
theorem ssources_pin (d : Dev) (n : Int) (w : World) (hno : nodeOk d n = true) (h5 : n % perT d < 5) :
    Calls Try.prog 176 #[.agg #[.int .i64 d.W, .int .i64 d.H, .int .i64 d.T, .int .i64 d.R], .int .i64 n] w fun e w' => ∃ A m c, e = .returned (.slice A m c) ∧ Own w.heap.size w' A m c (srcs d n) ∧ Below w.heap.size w w' := by
  have HB0 := Lib.hid (below_new (Below.refl w.heap.size w) (.cells #[.int .i64 d.W, .int .i64 d.H, .int .i64 d.T, .int .i64 d.R] 26))
  have hni : nodeIn d n = true := by unfold nodeOk at hno; rw [Bool.and_eq_true] at hno; exact hno.1
  have HTI := Lib.hid (node_tile hni)
  obtain ⟨hd, n0, n1, hq0, hq1, hr0, hr1⟩ := node_tk hni
  have hT := devOk_bd hd
  have hp := perT_bd hd
  have hWH := dev_WH hd
  have HD := Lib.hid hd
  have HSORT := Lib.hid (fun l hp hs => sorted_srcs (l := l) hno (by omega) hp hs)
  have HNO : Hid (∀ w, Calls Try.prog 38 #[.agg #[.int .i64 d.W, .int .i64 d.H, .int .i64 d.T, .int .i64 d.R], .int .i64 n] w fun e w' => e = .returned (.bool true) ∧ Below w.heap.size w w') := fun w => by have h := srouteNodeOk_any d n w; rwa [hno] at h
  have e0 : ¬ perT d = 0 := by omega
  have e1 : n.tmod (perT d) = n % perT d := Int.tmod_eq_emod_of_nonneg n0
  have e2 : IntKind.i64.wrap (n.tdiv (perT d)) = n / perT d := IntWalk.i64_quo _ _ ⟨n0, by omega, by omega⟩
  have HUSE0 := Lib.hid (fun r k s => useOf_pin (d := d) (pin := n % perT d) (by omega) r k s)
  clear hno hni hd
  go_enter Try.func176, Try.ntmps176
  go_wp2_with fail
  refine (HNO.out _).mono ?_
  rintro e w1 ⟨rfl, b1⟩
  have N1 := Lib.hid ((Own.newAt (w := (w.alloc (.cells #[.int .i64 d.W, .int .i64 d.H, .int .i64 d.T, .int .i64 d.R] 26))) (base := (w.alloc (.cells #[.int .i64 d.W, .int .i64 d.H, .int .i64 d.T, .int .i64 d.R] 26)).heap.size) (g := w.heap.size + 1) (by simp) (by simp)).below b1)
  have HB1 := Lib.hid (below_tr (below_new (Below.refl _ _) _) b1 : Below (w.alloc (.cells #[.int .i64 d.W, .int .i64 d.H, .int .i64 d.T, .int .i64 d.R] 26)).heap.size (w.alloc (.cells #[.int .i64 d.W, .int .i64 d.H, .int .i64 d.T, .int .i64 d.R] 26)) w1)
  have hs1 := b1.size
  simp only [World.size_alloc] at hs1
  clear b1
  obtain ⟨hcc, hff⟩ := bcell HB1.out
  go_wp2_with fail
  refine (l27Per_any d _ (by omega) (by omega)).mono ?_
  rintro e w2 ⟨rfl, b2⟩
  have HB2 := Lib.hid (below_tr HB1.out b2)
  have N2 := Lib.hid (N1.out.below b2)
  have hs2 := b2.size
  clear b2 hcc hff
  obtain ⟨hcc, hff⟩ := bcell HB2.out
  go_wp2_with fail
  refine (l27Per_any d _ (by omega) (by omega)).mono ?_
  rintro e w3 ⟨rfl, b3⟩
  have HB3 := Lib.hid (below_tr HB2.out b3)
  have N3 := Lib.hid (N2.out.below b3)
  have hs3 := b3.size
  clear b3 hcc hff
  obtain ⟨hcc, hff⟩ := bcell HB3.out
  generalize n % perT d = pin at *
  generalize n / perT d = t at *
  clear HNO
  have hdp : decide (pin ≥ 7) = false := by simp; omega
  have hdp2 : decide (pin < 7) = true := by simp; omega
  have hp5 : (pin == 5) = false := by simp; omega
  have hp6 : (pin == 6) = false := by simp; omega
  have NS := N3
  have HBS := HB3
  clear hcc hff
  go_wp2_with fail
  go_loopw [5, 10] (fun v i wr => ∃ (r : Nat) (A : Option Addr) (m c : Nat), r ≤ 4 ∧ i = .int .i64 r ∧ v = .slice A m c ∧ m ≤ 2 + 8 * r ∧ Own (w.alloc (.cells #[.int .i64 d.W, .int .i64 d.H, .int .i64 d.T, .int .i64 d.R] 26)).heap.size wr A m c (candA d t pin r) ∧ Below (w.alloc (.cells #[.int .i64 d.W, .int .i64 d.H, .int .i64 d.T, .int .i64 d.R] 26)).heap.size (w.alloc (.cells #[.int .i64 d.W, .int .i64 d.H, .int .i64 d.T, .int .i64 d.R] 26)) wr) (fun _ i _ => 4 - (intOf i).toNat)
  case atStart => exact ⟨0, _, _, _, by omega, rfl, rfl, by omega, by simpa [candA] using NS.out, HBS.out⟩
  case round =>
    obtain ⟨r, A, m, c, hr, rfl, rfl, hn, ho, hb⟩ := hrel
    have HO := Lib.hid ho
    have HB := Lib.hid hb
    have hs := hb.size
    simp only [World.size_alloc] at hs
    obtain ⟨hcc, hff⟩ := bcell hb
    clear ho hb
    by_cases hlt : r < 4
    · have hdr : decide ((r : Int) < 4) = true := by simp; omega
      have HAR := Lib.hid (candA_succ d t pin r)
      clear hcc hff
      go_wp2_with fail
      go_loopw [5, 11] (fun v i wr => ∃ (k : Nat) (A : Option Addr) (m c : Nat), (k : Int) ≤ d.T ∧ i = .int .i64 k ∧ v = .slice A m c ∧ m ≤ 2 + 8 * r + 2 * k ∧ Own (w.alloc (.cells #[.int .i64 d.W, .int .i64 d.H, .int .i64 d.T, .int .i64 d.R] 26)).heap.size wr A m c (candA d t pin r ++ candR d t pin (r : Int) k) ∧ Below (w.alloc (.cells #[.int .i64 d.W, .int .i64 d.H, .int .i64 d.T, .int .i64 d.R] 26)).heap.size (w.alloc (.cells #[.int .i64 d.W, .int .i64 d.H, .int .i64 d.T, .int .i64 d.R] 26)) wr) (fun _ i _ => d.T.toNat - (intOf i).toNat)
      case atStart => exact ⟨0, A, m, c, by omega, rfl, rfl, by omega, by simpa [candR] using HO.out, HB.out⟩
      case round =>
        obtain ⟨k, A, m, c, hk, rfl, rfl, hn, ho, hb⟩ := hrel
        have HO := Lib.hid ho
        have HB := Lib.hid hb
        have hs := hb.size
        simp only [World.size_alloc] at hs
        obtain ⟨hcc, hff⟩ := bcell hb
        have HCR := Lib.hid (candR_succ d t pin (r : Int) k)
        clear ho hb
        by_cases hlk : (k : Int) < d.T
        · have hdk : decide ((k : Int) < d.T) = true := by simpa using hlk
          have hL : wlen (k : Int) = 1 + (k : Int) % 2 := rfl
          have hL2 : 1 ≤ wlen (k : Int) ∧ wlen (k : Int) ≤ 2 := by rw [hL]; omega
          have HL := Lib.hid hL.symm
          have HKS := fun s => Lib.hid (candK_succ d t pin (r : Int) (k : Int) s)
          clear hL
          have HUSE := HUSE0.out (r : Int) (k : Int)
          have HUSE := Lib.hid HUSE
          have hz0 : 0 ≤ ((k : Int) + pin) % 2 ∧ ((k : Int) + pin) % 2 ≤ 1 := by omega
          have e1 : ((k : Int) + pin).tmod 2 = ((k : Int) + pin) % 2 := Int.tmod_eq_emod_of_nonneg (by omega)
          generalize ((k : Int) + pin) % 2 = z at *
          by_cases hskip : d.T > 1 ∧ z = 1
          · have HOFF := Lib.hid (candK_none (d := d) (t := t) (pin := pin) (r := (r : Int)) (k := (k : Int)) (s := (wlen (k : Int)).toNat) (fun s => by rw [HUSE.out, decide_eq_true hskip.1, decide_eq_true hskip.2]; rfl))
            obtain ⟨hs1, rfl⟩ := hskip
            have hdT : decide (d.T > 1) = true := by simpa using hs1
            go_wp2_with fail
            go_roundw
            case rel => exact ⟨k + 1, A, m, c, by omega, by go_num, rfl, by omega, by rw [HCR.out, HOFF.out, List.append_nil]; exact HO.out, HB.out⟩
            case measure => simp [intOf]; omega
          · have hcs : (d.T > 1 ∧ z = 0) ∨ ¬ d.T > 1 := by omega
            have HSO : Hid (∀ s, useOf d pin (r : Int) (k : Int) s = true) := by
              intro s
              rw [HUSE.out]
              simp
              omega
            clear HUSE
            rcases hcs with ⟨hs1, rfl⟩ | hs1
            all_goals
              go_wp2_with fail
              go_loopw [5, 12] (fun v i wr => ∃ (s : Nat) (A : Option Addr) (m c : Nat), (s : Int) ≤ wlen (k : Int) ∧ i = .int .i64 ((s : Int) + 1) ∧ v = .slice A m c ∧ m ≤ 2 + 8 * r + 2 * k + s ∧ Own (w.alloc (.cells #[.int .i64 d.W, .int .i64 d.H, .int .i64 d.T, .int .i64 d.R] 26)).heap.size wr A m c (candA d t pin r ++ candR d t pin (r : Int) k ++ candK d t pin (r : Int) (k : Int) s) ∧ Below (w.alloc (.cells #[.int .i64 d.W, .int .i64 d.H, .int .i64 d.T, .int .i64 d.R] 26)).heap.size (w.alloc (.cells #[.int .i64 d.W, .int .i64 d.H, .int .i64 d.T, .int .i64 d.R] 26)) wr) (fun _ i _ => 4 - (intOf i).toNat)
              case atStart => exact ⟨0, A, m, c, by omega, rfl, rfl, by omega, by simpa [candK] using HO.out, HB.out⟩
              case round =>
                obtain ⟨s, A, m, c, hsw, rfl, rfl, hn, ho, hb⟩ := hrel
                have HO := Lib.hid ho
                have HB := Lib.hid hb
                have hs := hb.size
                simp only [World.size_alloc] at hs
                clear hcc hff
                obtain ⟨hcc, hff⟩ := bcell hb
                clear ho hb
                have hZ : 1 + (k : Int) % 2 = wlen (k : Int) := HL.out
                by_cases hls : (s : Int) + 1 ≤ wlen (k : Int)
                · have hlsW := hls
                  rw [← hZ] at hls
                  have hdl : decide ((s : Int) + 1 ≤ 1 + (k : Int) % 2) = true := by simpa using hls
                  clear hZ
                  have HSN := Lib.hid (candS_true (t := t) (HSO.out ((s : Int) + 1)))
                  generalize hP : stepOf d t (((r : Int) + 2) % 4) ((s : Int) + 1) = P at *
                  have HP := Lib.hid hP
                  have hPr := step_range (d := d) (t := t) (r := ((r : Int) + 2) % 4) (s := (s : Int) + 1) HD.out
                  rw [hP] at hPr
                  clear hP
                  generalize hC : cand d t (r : Int) (k : Int) ((s : Int) + 1) = C at *
                  have HC : Hid (∀ w, Calls Try.prog 190 #[.agg #[.int .i64 d.W, .int .i64 d.H, .int .i64 d.T, .int .i64 d.R], .int .i64 P, .int .i64 (r : Int), .int .i64 (k : Int)] w fun e w' => e = .returned (.int .i64 C) ∧ Below w.heap.size w w') := fun w => by
                    have h := swireNode_any d P (r : Int) (k : Int) w HD.out (by omega) (by omega) (by omega) (by omega) (by omega)
                    rwa [show wireNode d P (r : Int) (k : Int) = C from by rw [← hC, cand, HP.out]] at h
                  have HSC : Hid (∀ w, Calls Try.prog 99 #[.agg #[.int .i64 d.W, .int .i64 d.H, .int .i64 d.T, .int .i64 d.R], .int .i64 t, .int .i64 (((r : Int) + 2) % 4), .int .i64 ((s : Int) + 1)] w fun e w' => e = .returned (.int .i64 P) ∧ Below w.heap.size w w') := fun w => by
                    have h := stileStep_any d t (((r : Int) + 2) % 4) ((s : Int) + 1) w HTI.out (by omega) (by omega) (by omega) (by omega)
                    rwa [HP.out] at h
                  have HCC := Lib.hid hC
                  clear hC
                  have e3 : ((r : Int) + 2).tmod 4 = ((r : Int) + 2) % 4 := Int.tmod_eq_emod_of_nonneg (by omega)
                  have e4 : IntKind.i64.wrap ((r : Int) + 2) = (r : Int) + 2 := IntWalk.i64_in _ (by omega)
                  have hwW : w.heap.size < wr.heap.size := by omega
                  go_wp2_with fail
                  have hsub := sub_ne wr
                  have hsc := sub_cell wr
                  refine wp_region_below wr (by kernel_rfl) (by kernel_rfl) (Below.refl _ _) ?_
                  repeat (go_big_quiet_step ((first
                    | (go_at_call 99; with_reducible exact calls_sub (HSC.out _))
                    | (go_at_call 190; with_reducible exact calls_sub (HC.out _)))))
                  refine wpQuiet_nil ?_
                  rintro _ ⟨⟨w2, hD⟩, rfl⟩
                  clear hsub hsc hcc hff e3 e4
                  have HB2 := Lib.hid (below_tr HB.out hD)
                  have HO2 := Lib.hid (HO.out.below hD)
                  have hs2 := hD.size
                  clear hD
                  by_cases hC0 : C ≥ 0
                  · have HC1 := Lib.hid (oneOf_pos (x := C) (by omega))
                    go_wp2_with (at_builtin; refine wpList_push rfl _ _ rfl (w.alloc (.cells #[.int .i64 d.W, .int .i64 d.H, .int .i64 d.T, .int .i64 d.R] 26)).heap.size A m c _ C rfl HO2.out rfl (by omega) (by simp; omega) HB2.out ?_; rintro g4 c4 w4 o4 b4 - -)
                    go_roundw
                    case rel => exact ⟨s + 1, _, m + 1, c4, by omega, by go_num, rfl, by omega, by rw [(HKS s).out, HSN.out, HC1.out, ← List.append_assoc]; exact o4, b4⟩
                    case measure => simp [intOf]; omega
                  · have HC1 := Lib.hid (oneOf_neg (x := C) (by omega))
                    go_wp2_with fail
                    go_roundw
                    case rel => exact ⟨s + 1, A, m, c, by omega, by go_num, rfl, by omega, by rw [(HKS s).out, HSN.out, HC1.out, List.append_nil]; exact HO2.out, HB2.out⟩
                    case measure => simp [intOf]; omega
                · have hLS : (wlen (k : Int)).toNat = s := by omega
                  have HLS := Lib.hid hLS
                  rw [← hZ] at hls
                  have hdl : decide ((s : Int) + 1 ≤ 1 + (k : Int) % 2) = false := by simp; omega
                  clear hLS hZ
                  go_wp2_with fail
                  go_roundw
                  case rel => exact ⟨k + 1, A, m, c, by omega, by go_num, rfl, by omega, by rw [HCR.out, HLS.out, ← List.append_assoc]; exact HO.out, HB.out⟩
                  case measure => simp [intOf]; omega
        · have hkT : d.T = (k : Int) := by omega
          have HKT := Lib.hid hkT
          have hdk : decide ((k : Int) < d.T) = false := by simp; omega
          clear hkT
          go_wp2_with fail
          go_roundw
          case rel => exact ⟨r + 1, A, m, c, by omega, by go_num, rfl, by omega, by rw [HAR.out, show d.T.toNat = k by have := HKT.out; omega]; exact HO.out, HB.out⟩
          case measure => simp [intOf]; omega
    · have hr4 : r = 4 := by omega
      have HR4 := Lib.hid hr4
      have hdr : decide ((r : Int) < 4) = false := by simp; omega
      have HLEN := Lib.hid HO.out.len
      clear hr4 hcc hff
      go_wp2_with fail
      refine (l27Sort_any A m c _ _ HO.out.ints (by omega)).mono ?_
      rintro e w9 ⟨A9, c9, rfl, ⟨ys, oy, py, sy⟩, b9⟩
      have HY := Lib.hid oy
      have HB9 := Lib.hid (below_tr HB0.out (below_tr HB.out b9))
      have HE := Lib.hid (HSORT.out ys (by rw [HR4.out] at py; unfold itemsOf; rw [if_neg (by omega), List.nil_append]; exact py) sy)
      clear oy py sy b9
      go_wp2_with fail
      go_ret
      exact ⟨A9, m, c9, rfl, by rw [← HE.out]; exact HY.out.more (by omega), HB9.out⟩
end Go.Proofs.Ytclmhnghpnfnkaa
