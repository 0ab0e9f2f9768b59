/- FnSignalsFollow, the walk. -/
import Derived.Deep.DeepCutAuto
import Derived.Deep.DrawnRows
import Derived.Test.YtbnfdhidgdfbeaaDrvS
import Derived.Test.YtbnfdhidgdfbeaaEv
import Derived.Test.YtbnfdhidgdfbeaaLawR
import Derived.Test.YtbnfdhidgdfbeaaRt3
import Derived.Test.YtbnfdhidgdfbeaaSigPure
import Derived.Test.YtbnfdhidgdfbeaaStart
namespace Go.Proofs.Ytbnfdhidgdfbeaa
set_option maxRecDepth 100000
open Go.RowKit
attribute [local go_sem ↓] Go.wp_at_zero Go.wp_at_succ

set_option maxHeartbeats 4000000 in
theorem law_signalsFollow (A : Option Addr) (n c : Nat) (bs : List Int) (w : World) (h : Bytes w w.heap.size A n bs) (_hm : n ≤ maxLen) :
    Calls Try.prog 6 #[.slice A n c] w fun e w' => e = .returned (.bool true) ∧ Below w.heap.size w w' := by
  by_cases g : n ≤ 1048576
  · have d : decide ((n : Int) > 1048576) = false := by simp; omega
    have HB := Lib.hid h
    have HQ := Lib.hid (fun i => atN_bd h i)
    have HE := at_hid A n c bs w h (by omega)
    clear h
    go_enter Try.func6, Try.ntmps6
    go_wp2_with (go_at_call 19; refine (big_any _ _ _ _).mono ?_; rintro e w' ⟨rfl, rfl⟩)
    refine (drawRunning_any A n c bs _ HB.out (by omega)).mono ?_
    rintro e w1 ⟨d, ts, st, ps, A1, c1, A2, c2, A3, c3, rfl, hd, htl, hto, hst, hps, r1, r2, r3, b1⟩
    have hb2 : Below w1.heap.size w1 (w1.alloc (.cells #[.int .i64 d.W, .int .i64 d.H, .int .i64 d.T, .int .i64 d.R] 29)) := below_new (Below.refl _ _) _
    have HX := Lib.hid (heap_new w1 (.cells #[.int .i64 d.W, .int .i64 d.H, .int .i64 d.T, .int .i64 d.R] 29))
    have HW := Lib.hid (below_tr b1 hb2)
    have HR := Lib.hid (r1.below hb2)
    have HS := Lib.hid (r2.below hb2)
    have HP := Lib.hid (r3.below hb2)
    obtain ⟨hfo, hso, hpo, hsz⟩ := run_facts hd htl hst hps
    have HD := Lib.hid hd
    have HFO := Lib.hid hfo
    have HSO := Lib.hid hso
    have HPO := Lib.hid hpo
    have HSZ := Lib.hid hsz
    have HLN : Hid ((buildF d ts).length = tiles d) := by show _ = _; rw [buildF, List.length_map, htl]
    have HHP := Lib.hid hps
    have HHS := Lib.hid hst
    have hM := (tiles_eq hd).2
    have HWH := Lib.hid (tiles_eq hd).1
    have hbd := devOk_bd hd
    have HAL : Hid (allOk d (buildF d ts) st ps = true) := by show _ = _; unfold allOk; rw [hfo, hso, hpo]; rfl
    clear r1 r2 r3 b1 hb2 hd htl hto hst hps hfo hso hpo hsz
    obtain ⟨z0, z1, z2, z3⟩ := cell4 HX.out
    go_wp2_with fail
    generalize hW2 : (w1.alloc (.cells #[.int .i64 d.W, .int .i64 d.H, .int .i64 d.T, .int .i64 d.R] 29)) = w2 at *
    generalize hgd : w1.heap.size = gd at *
    generalize buildF d ts = fs at *
    clear hW2 hgd z0 z1 z2 z3
    refine (pemuValues_any d A1 (tiles d) c1 fs A2 (2 * tiles d) c2 st A3 (tiles d) c3 ps _ HR.out HS.out HP.out HSZ.out (by omega) (by omega)).mono ?_
    rintro e w3 ⟨A4, n4, c4, rfl, o4, b4⟩
    rw [evF_good HAL.out] at o4
    have hl4 := o4.len
    rw [valsF_length] at hl4
    have hnb := nodesOf_bd HD.out
    obtain ⟨N, hN⟩ : ∃ N : Nat, nodesOf d = (N : Int) := ⟨(nodesOf d).toNat, by omega⟩
    have hNN : (nodesOf d).toNat = N := by omega
    rw [hNN] at hl4
    have hl4' : N = n4 := hl4
    subst hl4'
    have HV := Lib.hid o4.ints
    have HXV := Lib.hid (heap_tr b4 HX.out)
    replace HW := Lib.hid (below_tr HW.out b4)
    replace HR := Lib.hid (HR.out.below b4)
    replace HS := Lib.hid (HS.out.below b4)
    replace HP := Lib.hid (HP.out.below b4)
    have HRN : Hid (rnOf d = (N : Int)) := by show _ = _; rw [rn_pos HD.out, hN]
    have HSP := Lib.hid (stPads_ok (ts := tilesOf d fs) HSO.out HPO.out)
    have HNN := Lib.hid hNN
    rw [hN] at hnb
    clear o4 b4 hl4 hNN HX hN

    have HNO : Hid (∀ k : Nat, k < N → nodeOk d (k : Int) = false → (valsF d (tilesOf d fs) st ps)[k]?.getD 0 = -1) := fun k hk h => vals_none d (tilesOf d fs) st ps (by rw [HNN.out]; exact hk) h
    have HVF : Hid (∀ k : Nat, k < N → nodeOk d (k : Int) = true → ¬ ((k : Int) % perT d = 5 ∨ (k : Int) % perT d = 6) → ((drvF d fs (k : Int) = -1 ∧ (valsF d (tilesOf d fs) st ps)[k]?.getD 0 = 0) ∨ ∃ s : Nat, s < N ∧ drvF d fs (k : Int) = (s : Int) ∧ (valsF d (tilesOf d fs) st ps)[k]?.getD 0 = (valsF d (tilesOf d fs) st ps)[s]?.getD 0)) := by
      intro k hk h h5
      have h1 := vals_follow HSP.out (by rw [HNN.out]; exact hk) h h5
      rw [nv_nat] at h1
      rw [drvF_cfg _ HFO.out]
      unfold drvV at h1
      by_cases h0 : 0 ≤ drvOf d (tilesOf d fs) (k : Int)
      · rw [if_pos h0] at h1
        have h2 := (nodeIn_rnP.1 (drv_node (cfg_of_frames HFO.out) h0).1).2
        obtain ⟨s, hs⟩ := Int.eq_ofNat_of_zero_le h0
        rw [hs] at h1 h2 ⊢
        have := HNN.out
        exact .inr ⟨s, by omega, rfl, h1⟩
      · rw [if_neg h0] at h1
        have := drv_ge (d := d) (ts := tilesOf d fs) (n := (k : Int))
        exact .inl ⟨by omega, h1⟩
    generalize valsF d (tilesOf d fs) st ps = vs at *
    obtain ⟨z0, z1, z2, z3⟩ := cell4 HXV.out
    go_wp2_with fail
    refine (sRouteNodes_any d _).mono ?_
    rw [HRN.out]
    rintro e w4 ⟨rfl, b4⟩
    have HXW := Lib.hid (heap_tr b4 HXV.out)
    replace HW := Lib.hid (below_tr HW.out b4)
    replace HR := Lib.hid (HR.out.below b4)
    replace HS := Lib.hid (HS.out.below b4)
    replace HV := Lib.hid (HV.out.below b4)
    clear b4 z0 z1 z2 z3 HXV HP
    have hnn : ((N : Int) != (N : Int)) = false := by simp
    go_wp2_with fail
    go_loopw [9] (fun i wr => ∃ k : Nat, k ≤ N ∧ i = .int .i64 k ∧ Below w4.heap.size w4 wr) (fun i _ => N - (intOf i).toNat)
    case atStart => exact ⟨0, Nat.zero_le _, rfl, Below.refl _ _⟩
    case round =>
      obtain ⟨k, hk, rfl, hbe⟩ := hrel
      have HBE := Lib.hid hbe
      have HXR := Lib.hid (heap_tr hbe HXW.out)
      have HWR := Lib.hid (below_tr HW.out hbe)
      have HRR := Lib.hid (HR.out.below hbe)
      have HVR := Lib.hid (HV.out.below hbe)
      have HSR := Lib.hid (HS.out.below hbe)
      clear hbe
      by_cases hlt : k < N
      · have hdk : decide ((k : Int) < (N : Int)) = true := by simp; omega
        have i0 : (0 : Int) ≤ (k : Int) := by omega
        have i1 : (k : Int) < (N : Int) := by omega
        obtain ⟨z0, z1, z2, z3⟩ := cell4 HXR.out
        go_wp2_with fail
        refine (srouteNodeOk_any d (k : Int) _).mono ?_
        rintro e w5 ⟨rfl, b5⟩
        replace HXR := Lib.hid (heap_tr b5 HXR.out)
        replace HBE := Lib.hid (below_tr HBE.out b5)
        replace HWR := Lib.hid (below_tr HWR.out b5)
        replace HRR := Lib.hid (HRR.out.below b5)
        replace HVR := Lib.hid (HVR.out.below b5)
        replace HSR := Lib.hid (HSR.out.below b5)
        clear b5 z0 z1 z2 z3
        cases hno : nodeOk d (k : Int) with
        | false =>
          have hvk := HNO.out k hlt hno
          obtain ⟨bv, ov, rfl, hbv, hcv⟩ := HVR.out.2 (by omega)
          have hck := hcv k hlt
          rw [hvk] at hck
          clear hcv hvk hno
          go_wp2_with fail
          go_roundw
          case rel => exact ⟨k + 1, by omega, by go_num, HBE.out⟩
          case measure => simp [intOf]; omega
        | true =>
          have hpb := perT_bd HD.out
          have e0 : ¬ 7 + 4 * d.T = 0 := by omega
          have e1 : (k : Int).tmod (7 + 4 * d.T) = (k : Int) % perT d := Int.tmod_eq_emod_of_nonneg i0
          by_cases h5 : (k : Int) % perT d = 5 ∨ (k : Int) % perT d = 6
          · clear hno
            generalize (k : Int) % perT d = pin at *
            rcases h5 with h5 | h5
            · have q5 : (pin == 5) = true := by simpa using h5
              clear h5
              go_wp2_with fail
              go_roundw
              case rel => exact ⟨k + 1, by omega, by go_num, HBE.out⟩
              case measure => simp [intOf]; omega
            · have q5 : (pin == 5) = false := by simp; omega
              have q6 : (pin == 6) = true := by simpa using h5
              clear h5
              go_wp2_with fail
              go_roundw
              case rel => exact ⟨k + 1, by omega, by go_num, HBE.out⟩
              case measure => simp [intOf]; omega
          · have hvf := HVF.out k hlt hno h5
            have q5 : ((k : Int) % perT d == 5) = false := by simp; omega
            have q6 : ((k : Int) % perT d == 6) = false := by simp; omega
            have HDC := Lib.hid (fun (w' : World) (hr : Rows2 w' A1 (tiles d) fs) => pdriverOf_any d A1 (tiles d) c1 fs (k : Int) w' hr HSZ.out)
            clear hno h5
            generalize (k : Int) % perT d = pin at *
            generalize drvF d fs (k : Int) = dv at *
            have HVK := Lib.hid hvf
            clear hvf
            obtain ⟨z0, z1, z2, z3⟩ := cell4 HXR.out
            go_wp2_with fail
            refine (HDC.out _ HRR.out).mono ?_
            rintro e wr ⟨rfl, b6⟩
            replace HXR := Lib.hid (heap_tr b6 HXR.out)
            replace HBE := Lib.hid (below_tr HBE.out b6)
            replace HWR := Lib.hid (below_tr HWR.out b6)
            replace HRR := Lib.hid (HRR.out.below b6)
            replace HVR := Lib.hid (HVR.out.below b6)
            replace HSR := Lib.hid (HSR.out.below b6)
            clear b6 z0 z1 z2 z3 q5 q6
            obtain ⟨bv, ov, hA4, hbv, hcv⟩ := HVR.out.2 (by omega)
            have hck := hcv k hlt
            have hu0 := HQ.out 0
            have HA0 := Lib.hid (fun w' hb => HE.out 0 0 w' rfl (by omega) (below_tr HWR.out hb))
            generalize atN bs 0 = u0 at *
            have hut : 0 ≤ u0 % 20 ∧ u0 % 20 < 20 := by omega
            clear hcv
            rcases HVK.out with ⟨rfl, hv0⟩ | ⟨s, hs, rfl, hv0⟩
            · rw [hv0] at hck
              subst hA4
              clear hv0
              go_wp2_with fail
              have hsub := sub_ne wr
              have hsc := sub_cell wr
              refine wp_region_below wr (by kernel_rfl) (by kernel_rfl) (Below.refl _ _) ?_
              repeat (go_big_quiet_step (fail))
              refine wpQuiet_nil ?_
              rintro _ ⟨⟨w2x, hD⟩, rfl⟩
              (try dsimp only)
              clear hsub hsc
              have HBD := Lib.hid (below_tr HBE.out hD)
              have HWD := Lib.hid (below_tr HWR.out hD)
              have HSD := Lib.hid (HSR.out.below hD)
              have HXD := Lib.hid (heap_tr hD HXR.out)
              have HA1 := Lib.hid (HA0.out _ hD)
              clear hD hck
              go_wp2_with fail
              refine HA1.out.mono ?_
              rintro e w' ⟨rfl, rfl⟩
              by_cases hbr : (k : Int) > 40 + u0 % 20
              · have hdb : decide ((k : Int) > 40 + u0 % 20) = true := by simpa using hbr
                clear hbr
                obtain ⟨z0, z1, z2, z3⟩ := cell4 HXD.out
                go_wp2_with fail
                refine (emuStateOk_any d A2 (2 * tiles d) c2 st _ HSD.out (by omega)).mono ?_
                rintro e w9 ⟨rfl, b9⟩
                rw [HSO.out]
                have HW9 := Lib.hid (below_tr HWD.out b9)
                clear b9 z0 z1 z2 z3
                go_wp2_with fail
                go_ret
                exact ⟨rfl, HW9.out⟩
              · have hdb : decide ((k : Int) > 40 + u0 % 20) = false := by simp; omega
                clear hbr
                go_wp2_with fail
                go_roundw
                case rel => exact ⟨k + 1, by omega, by go_num, HBD.out⟩
                case measure => simp [intOf]; omega
            · have hcs := HVR.out.2 (by omega)
              obtain ⟨bv2, ov2, hA5, hbv2, hcv2⟩ := hcs
              rw [hA4] at hA5
              injection hA5 with hA5
              injection hA5 with hq1 hq2
              subst hq1 hq2 hA4
              rw [hv0] at hck
              have HGT := Lib.hid (fun (w' : World) (hi : Ints w' (some ⟨bv, ov, none⟩) N vs) => get_in (some ⟨bv, ov, none⟩) N c4 vs s w' hi hs (by omega))
              have hs0 : decide ((s : Int) < 0) = false := decide_eq_false (by omega)
              have hs1 : decide ((s : Int) ≥ 0) = true := decide_eq_true (by omega)
              clear hv0 hcv2
              generalize vs[s]?.getD 0 = xv at *
              have hxx : (xv != xv) = false := by simp
              go_wp2_with fail
              have hsub := sub_ne wr
              have hsc := sub_cell wr
              refine wp_region_below wr (by kernel_rfl) (by kernel_rfl) (Below.refl _ _) ?_
              repeat (go_big_quiet_step ((go_at_call 33; with_reducible exact calls_sub_same (HGT.out _ (HVR.out.below (by first | exact Below.refl _ _ | exact Sub.h _))))))
              refine wpQuiet_nil ?_
              rintro _ ⟨⟨w2x, hD⟩, rfl⟩
              (try dsimp only)
              clear hsub hsc
              have HBD := Lib.hid (below_tr HBE.out hD)
              have HWD := Lib.hid (below_tr HWR.out hD)
              have HSD := Lib.hid (HSR.out.below hD)
              have HXD := Lib.hid (heap_tr hD HXR.out)
              have HA1 := Lib.hid (HA0.out _ hD)
              clear hD hck
              go_wp2_with fail
              refine HA1.out.mono ?_
              rintro e w' ⟨rfl, rfl⟩
              by_cases hbr : (k : Int) > 40 + u0 % 20
              · have hdb : decide ((k : Int) > 40 + u0 % 20) = true := by simpa using hbr
                clear hbr
                obtain ⟨z0, z1, z2, z3⟩ := cell4 HXD.out
                go_wp2_with fail
                refine (emuStateOk_any d A2 (2 * tiles d) c2 st _ HSD.out (by omega)).mono ?_
                rintro e w9 ⟨rfl, b9⟩
                rw [HSO.out]
                have HW9 := Lib.hid (below_tr HWD.out b9)
                clear b9 z0 z1 z2 z3
                go_wp2_with fail
                go_ret
                exact ⟨rfl, HW9.out⟩
              · have hdb : decide ((k : Int) > 40 + u0 % 20) = false := by simp; omega
                clear hbr
                go_wp2_with fail
                go_roundw
                case rel => exact ⟨k + 1, by omega, by go_num, HBD.out⟩
                case measure => simp [intOf]; omega
      · have hkn : k = N := by omega
        subst hkn
        have hdk : decide ((k : Int) < (k : Int)) = false := by simp
        clear hlt hk
        obtain ⟨z0, z1, z2, z3⟩ := cell4 HXR.out
        go_wp2_with fail
        refine (emuStateOk_any d A2 (2 * tiles d) c2 st _ HSR.out (by omega)).mono ?_
        rintro e w9 ⟨rfl, b9⟩
        rw [HSO.out]
        have HW9 := Lib.hid (below_tr HWR.out b9)
        clear b9 z0 z1 z2 z3
        go_wp2_with fail
        go_ret
        exact ⟨rfl, HW9.out⟩
  · have d : decide ((n : Int) > 1048576) = true := by simp; omega
    go_enter Try.func6, Try.ntmps6
    go_wp2_with (go_at_call 19; refine (big_any _ _ _ _).mono ?_; rintro e w' ⟨rfl, rfl⟩)
    go_ret
    exact ⟨rfl, Below.refl _ _⟩
end Go.Proofs.Ytbnfdhidgdfbeaa
