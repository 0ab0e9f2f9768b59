/- FnScrubbed, the walk. -/
import Derived.Test.YtbnfdhidgdfbeaaDrwF
import Derived.Test.YtbnfdhidgdfbeaaFrLen
import Derived.Test.YtbnfdhidgdfbeaaLaw
import Derived.Test.YtbnfdhidgdfbeaaSam
import Derived.Test.YtbnfdhidgdfbeaaScrPure
namespace Go.Proofs.Ytbnfdhidgdfbeaa
set_option maxRecDepth 100000
open Go.RowKit
attribute [local go_sem ↓] Go.wp_at_zero Go.wp_at_succ

set_option maxHeartbeats 4000000 in
theorem law_scrubbed (A : Option Addr) (n c : Nat) (bs : List Int) (w : World) (h : Bytes w w.heap.size A n bs) (_hm : n ≤ maxLen) :
    Calls Try.prog 4 #[.slice A n c] w fun e w' => e = .returned (.bool true) ∧ Below w.heap.size w w' := by
  by_cases g : n ≤ 1048576
  · have d : decide ((n : Int) > 1048576) = false := by simp; omega
    have HB := Lib.hid h
    have HQ := Lib.hid (fun i => atN_bd h i)
    have HE := at_hid A n c bs w h (by omega)
    clear h
    go_enter Try.func4, Try.ntmps4
    go_wp2_with (go_at_call 19; refine (big_any _ _ _ _).mono ?_; rintro e w' ⟨rfl, rfl⟩)
    refine (drawFrames_any A n c bs _ HB.out (by omega)).mono ?_
    rintro e w1 ⟨d, ts, A1, c1, rfl, hd, htl, hto, o1, b1⟩
    have hb2 : Below w1.heap.size w1 (w1.alloc (.cells #[.int .i64 d.W, .int .i64 d.H, .int .i64 d.T, .int .i64 d.R] 29)) := below_new (Below.refl _ _) _
    have HX := Lib.hid (heap_new w1 (.cells #[.int .i64 d.W, .int .i64 d.H, .int .i64 d.T, .int .i64 d.R] 29))
    have HW := Lib.hid (below_tr b1 hb2)
    have HR := Lib.hid (o1.rd.below hb2)
    have HD := Lib.hid hd
    have hfo := buildF_ok hd htl
    have hM := (tiles_eq hd).2
    have hfw := fwI_bd hd
    have HLN : Hid ((buildF d ts).length = tiles d) := by show _ = _; rw [buildF, List.length_map, htl]
    have HFO := Lib.hid hfo
    have HSZ : Hid (size2 (buildF d ts) ≤ 1099511627776) := by
      refine Nat.le_trans (rows_le (fun j _ => frame_len hfo j) (frames_n hfo).2) (by omega)
    have HCR := Lib.hid (fun j : Nat => codeRow_build (d := d) (ts := ts) j)
    clear o1 b1 hb2 hd htl hto hfo
    go_wp2_with fail
    generalize hW2 : (w1.alloc (.cells #[.int .i64 d.W, .int .i64 d.H, .int .i64 d.T, .int .i64 d.R] 29)) = w2 at *
    generalize hgd : w1.heap.size = gd at *
    generalize buildF d ts = fs at *
    generalize tiles d = M at *
    have HFW : Hid (((fwI d).toNat : Int) = fwI d) := by show _ = _; omega
    have HFL : Hid (FlOk d fs (fun j => (atN bs (j + 1) % fwI d).toNat) (fun j => (atN bs (j + 2) % 22).toNat)) := by
      refine ⟨HFO.out, HCR.out, fun j => ?_, fun j => ?_⟩
      · have h1 := Int.emod_nonneg (atN bs (j + 1)) (show fwI d ≠ 0 by omega)
        have h2 := Int.emod_lt_of_pos (atN bs (j + 1)) (show 0 < fwI d by omega)
        omega
      · have h1 := Int.emod_nonneg (atN bs (j + 2)) (show (22 : Int) ≠ 0 by omega)
        have h2 := Int.emod_lt_of_pos (atN bs (j + 2)) (show (0 : Int) < 22 by omega)
        omega
    have HKK : Hid (∀ j : Nat, (atN bs (j + 1)).tmod (fwI d) = (((atN bs (j + 1) % fwI d).toNat : Nat) : Int)) := fun j => by
      have h1 := Int.emod_nonneg (atN bs (j + 1)) (show fwI d ≠ 0 by omega)
      rw [Int.tmod_eq_emod_of_nonneg (HQ.out _).1]
      omega
    have HBB : Hid (∀ j : Nat, (atN bs (j + 2)).tmod 22 = (((atN bs (j + 2) % 22).toNat : Nat) : Int)) := fun j => by
      have h1 := Int.emod_nonneg (atN bs (j + 2)) (show (22 : Int) ≠ 0 by omega)
      rw [Int.tmod_eq_emod_of_nonneg (HQ.out _).1]
      omega
    generalize hkk : (fun j => (atN bs (j + 1) % fwI d).toNat) = kk at HFL
    generalize hbb : (fun j => (atN bs (j + 2) % 22).toNat) = bb at HFL
    have HKE : Hid (∀ j : Nat, (atN bs (j + 1)).tmod (fwI d) = ((kk j : Nat) : Int)) := fun j => by rw [HKK.out j, ← hkk]
    have HBE : Hid (∀ j : Nat, (atN bs (j + 2)).tmod 22 = ((bb j : Nat) : Int)) := fun j => by rw [HBB.out j, ← hbb]
    obtain ⟨cc, hcc⟩ : ∃ cc : Nat → Bool, ∀ j, cc j = decide ((atN bs j).tmod 3 = 0) := ⟨_, fun _ => rfl⟩
    have HCC := Lib.hid hcc
    have HSB : Hid (∀ k, size2 (flT fs cc kk bb k) ≤ 1099511627776) := fun k => by
      have ho := flT_ok (c := cc) HFL.out k
      exact Nat.le_trans (rows_le (fun j _ => frame_len ho j) (frames_n ho).2) (by omega)
    have HR0 : Hid (Rows2 w2 A1 M (flT fs cc kk bb 0)) := by rw [flT_zero]; exact HR.out
    clear hkk hbb hcc HKK HBB hW2 hgd HCR
    go_loopw [5, 6, 7, 8] (fun bad ok cnt i wr => ∃ (k : Nat) (A2 : Option Addr) (c2 : Nat), k ≤ M ∧ i = .int .i64 k ∧ bad = .slice A2 M c2 ∧ ok = .bool true ∧ cnt = .int .i64 ((flN cc k : Nat) : Int) ∧ Rows2 wr A2 M (flT fs cc kk bb k) ∧ Below w2.heap.size w2 wr) (fun _ _ _ i _ => M - (intOf i).toNat)
    case atStart => exact ⟨0, A1, c1, Nat.zero_le _, rfl, rfl, rfl, rfl, HR0.out, Below.refl _ _⟩
    case round =>
      obtain ⟨k, A2, c2, hk, rfl, rfl, rfl, rfl, hrr, hbe⟩ := hrel
      have HRR := Lib.hid hrr
      have HBE2 := Lib.hid hbe
      have HWR := Lib.hid (below_tr HW.out hbe)
      have HXR := Lib.hid (heap_tr hbe HX.out)
      have HFR := Lib.hid (HR.out.below hbe)
      clear hrr hbe
      by_cases hlt : k < M
      · have hdk : decide ((k : Int) < (M : Int)) = true := by simp; omega
        have i0 : (0 : Int) ≤ (k : Int) := by omega
        have i1 : (k : Int) < (M : Int) := by omega
        have hnl := flN_le cc k
        have HNS : Hid (flN cc (k + 1) = flN cc k + if cc k = true then 1 else 0) := rfl
        have hck := HCC.out k
        cases hc : cc k with
        | true =>
          have hm3 : (atN bs k).tmod 3 = 0 := by rw [hc] at hck; exact of_decide_eq_true hck.symm
          obtain ⟨hok, hfl⟩ := flT_step HFL.out (c := cc) (by rw [HLN.out]; exact hlt) hc
          have HFC : Hid (∀ w' : World, Rows2 w' A2 M (flT fs cc kk bb k) → Calls Try.prog 22 #[.agg #[.int .i64 d.W, .int .i64 d.H, .int .i64 d.T, .int .i64 d.R], .slice A2 M c2, .int .i64 (k : Int), .int .i64 ((kk k : Nat) : Int), .int .i64 ((bb k : Nat) : Int)] w' fun e w'' => ∃ A' c', e = .returned (.tuple #[.slice A' M c', .bool true]) ∧ Rows2 w'' A' M (flT fs cc kk bb (k + 1)) ∧ Below w'.heap.size w' w'') := fun w' hr => by
            refine (flipFrame_any d A2 M c2 (flT fs cc kk bb k) (k : Int) ((kk k : Nat) : Int) ((bb k : Nat) : Int) w' hr (HSB.out k)).mono ?_
            rintro e w'' ⟨A', n', c', rfl, o, b⟩
            rw [hfl] at o
            have hl := o.len
            rw [flT_length, HLN.out] at hl
            subst hl
            exact ⟨A', c', by rw [hok], o.rd, b⟩
          have HNY : Hid (((flN cc (k + 1) : Nat) : Int) = ((flN cc k : Nat) : Int) + 1) := by show _ = _; rw [HNS.out, if_pos hc]; omega
          obtain ⟨br, orr, hA1, hbr, hrw⟩ := HFR.out.2 (by omega)
          obtain ⟨A3, m3, c3, hrow, hi3⟩ := hrw k hlt
          have hm3' : (m3 : Int) = fwI d := by
            have h1 := (framesOk_iff HFO.out).2.2 k (by rw [HLN.out]; exact hlt)
            unfold wordsOk at h1
            rw [Bool.and_eq_true, decide_eq_true_eq] at h1
            rw [← hi3.1]; exact h1.1
          subst hA1
          have hke := HKE.out k
          have hbe := HBE.out k
          rw [← hm3'] at hke
          have hm0 : ¬ (m3 : Int) = 0 := by omega
          have hm00 : ¬ m3 = 0 := by omega
          have HM3 := Lib.hid hm3'
          clear hm3'
          have HA0 := Lib.hid (fun w' hb => HE.out k (k : Int) w' rfl (by omega) (below_tr HWR.out hb))
          have HA1 := Lib.hid (fun w' hb => HE.out (k + 1) ((k : Int) + 1) w' (by omega) (by omega) (below_tr HWR.out hb))
          have HA2 := Lib.hid (fun w' hb => HE.out (k + 2) ((k : Int) + 2) w' (by omega) (by omega) (below_tr HWR.out hb))
          generalize atN bs k = u0 at *
          generalize atN bs (k + 1) = u1 at *
          generalize atN bs (k + 2) = u2 at *
          have hkb := HFL.out.word k
          have hbb := HFL.out.bit k
          clear hok hfl hrw hck HNS
          generalize kk k = kx at *
          generalize bb k = bx at *
          generalize flN cc k = N0 at *
          obtain ⟨z0, z1, z2, z3⟩ := cell4 HXR.out
          have lX := heap_lt0 HXR.out
          go_wp2_with fail
          refine (HA0.out _ (Below.refl _ _)).mono ?_
          rintro e w' ⟨rfl, rfl⟩
          have hq3 : (u0.tmod 3 == 0) = true := by rw [hm3]; rfl
          have a1 : IntKind.i64.wrap ((k : Int) + 1) = (k : Int) + 1 := IntWalk.i64_in _ (by omega)
          have a2 : IntKind.i64.wrap ((k : Int) + 2) = (k : Int) + 2 := IntWalk.i64_in _ (by omega)
          have hD := (Below.refl wr.heap.size wr).drew
          go_wp2_with fail
          go_region_held3 (fun w' => Below wr.heap.size wr w' ∧ ∀ b o, b < wr.heap.size → w'.cell? ⟨b, o, none⟩ = wr.cell? ⟨b, o, none⟩)
            (first | exact ⟨hD, (bcell hD).1⟩)
            (first
              | (go_at_call 21; (first | (with_reducible refine (HA1.out _ hD).mono ?_) | (with_reducible refine (HA2.out _ hD).mono ?_)); rintro e w' ⟨rfl, rfl⟩)
              | (go_at_call 22; (with_reducible refine (HFC.out _ (HRR.out.below hD)).mono ?_); rintro e w5 ⟨A5, c5, rfl, r5, b5⟩; have R5 := Lib.hid r5; replace hD := below_tr hD b5; clear b5 r5))
          have HD5 := Lib.hid (below_tr HBE2.out hD)
          clear hD z0 z1 z2 z3 lX hrow a1 a2
          go_wp2_with fail
          go_roundw
          case rel => exact ⟨k + 1, A5, c5, by omega, by go_num, rfl, rfl, by rw [HNY.out], R5.out, HD5.out⟩
          case measure => simp [intOf]; omega
        | false =>
          have hm3 : ¬ (atN bs k).tmod 3 = 0 := by rw [hc] at hck; exact of_decide_eq_false hck.symm
          have hno := flT_no (fs := fs) (kk := kk) (bb := bb) (c := cc) (by rw [HLN.out]; exact hlt) hc
          have RN : Hid (Rows2 wr A2 M (flT fs cc kk bb (k + 1))) := by show Rows2 _ _ _ _; rw [← hno]; exact HRR.out
          have HNN : Hid (flN cc (k + 1) = flN cc k) := by show _ = _; rw [HNS.out, hc]; simp
          have HA0 := Lib.hid (fun w' hb => HE.out k (k : Int) w' rfl (by omega) (below_tr HWR.out hb))
          have hq3 : ((atN bs k).tmod 3 == 0) = false := by simpa using hm3
          generalize atN bs k = u0 at *
          clear hno hck HNS hm3
          go_wp2_with fail
          refine (HA0.out _ (Below.refl _ _)).mono ?_
          rintro e w' ⟨rfl, rfl⟩
          go_wp2_with fail
          go_roundw
          case rel => exact ⟨k + 1, A2, c2, by omega, by go_num, rfl, rfl, by rw [HNN.out], RN.out, HBE2.out⟩
          case measure => simp [intOf]; omega
      · have hkm : k = M := by omega
        subst hkm
        have hdk : decide ((k : Int) < (k : Int)) = false := by simp
        have HSC : Hid (∀ w' : World, Rows2 w' A2 k (flT fs cc kk bb k) → Calls Try.prog 23 #[.agg #[.int .i64 d.W, .int .i64 d.H, .int .i64 d.T, .int .i64 d.R], .slice A2 k c2] w' fun e w'' => ∃ A' c', e = .returned (.tuple #[.slice A' k c', .int .i64 ((flN cc k : Nat) : Int), .int .i64 0]) ∧ Rows2 w'' A' k fs ∧ Below w'.heap.size w' w'') := fun w' hr => by
          refine (scrubFrames_any d A2 k c2 (flT fs cc kk bb k) w' hr (HSB.out k)).mono ?_
          rintro e w'' ⟨A', n', c', rfl, o, b⟩
          have hl := o.len
          rw [flT_scrub HFL.out] at o hl
          rw [HLN.out] at hl
          subst hl
          have q1 := flT_cnt (c := cc) HFL.out (s := 1) (by omega) k (by rw [HLN.out]; exact Nat.le_refl _)
          have q2 := flT_cnt (c := cc) HFL.out (s := 2) (by omega) k (by rw [HLN.out]; exact Nat.le_refl _)
          rw [HLN.out] at q1 q2
          refine ⟨A', c', ?_, o.rd, b⟩
          unfold scrubN
          rw [if_pos (flT_ok HFL.out k), if_pos (flT_ok HFL.out k), flT_length, HLN.out, q1, q2]
          rfl
        have HSA : Hid (decide (flT fs cc kk bb k = fs) = decide (flN cc k = 0)) := by
          have h1 := flT_same (c := cc) HFL.out
          rw [HLN.out] at h1
          exact decide_eq_decide.2 h1
        have hnl := flN_le cc k
        have HSK := Lib.hid (HSB.out k)
        generalize flT fs cc kk bb k = gs at *
        generalize flN cc k = N0 at *
        obtain ⟨z0, z1, z2, z3⟩ := cell4 HXR.out
        have lX := heap_lt0 HXR.out
        clear hlt hk
        go_wp2_with fail
        refine (HSC.out _ HRR.out).mono ?_
        rintro e w5 ⟨A5, c5, rfl, r5, b5⟩
        have R5 := Lib.hid r5
        have RF := Lib.hid (HFR.out.below b5)
        have RB := Lib.hid (HRR.out.below b5)
        have HW5 := Lib.hid (below_tr HWR.out b5)
        clear r5 b5 z0 z1 z2 z3 lX
        go_wp2_with fail
        refine (sameRows_any A5 A1 k k c5 c1 fs fs _ R5.out RF.out HSZ.out).mono ?_
        rintro e w6 ⟨rfl, b6⟩
        have hdd : decide (fs = fs) = true := by simp
        replace RF := Lib.hid (RF.out.below b6)
        replace RB := Lib.hid (RB.out.below b6)
        replace HW5 := Lib.hid (below_tr HW5.out b6)
        clear b6
        have hn0 : ((N0 : Int) == (N0 : Int)) = true := by simp
        go_wp2_with fail
        refine (sameRows_any A2 A1 k k c2 c1 gs fs _ RB.out RF.out HSK.out).mono ?_
        rw [HSA.out]
        rintro e w7 ⟨rfl, b7⟩
        replace HW5 := Lib.hid (below_tr HW5.out b7)
        clear b7
        by_cases h0 : N0 = 0
        · have q0 : decide (N0 = 0) = true := by simpa using h0
          have q1 : ((N0 : Int) == 0) = true := by simp; omega
          go_wp2_with fail
          go_ret
          exact ⟨rfl, HW5.out⟩
        · have q0 : decide (N0 = 0) = false := by simpa using h0
          have q1 : ((N0 : Int) == 0) = false := by simp; omega
          go_wp2_with fail
          go_ret
          exact ⟨rfl, HW5.out⟩
  · have d : decide ((n : Int) > 1048576) = true := by simp; omega
    go_enter Try.func4, Try.ntmps4
    go_wp2_with (go_at_call 19; refine (big_any _ _ _ _).mono ?_; rintro e w' ⟨rfl, rfl⟩)
    go_ret
    exact ⟨rfl, Below.refl _ _⟩
end Go.Proofs.Ytbnfdhidgdfbeaa
