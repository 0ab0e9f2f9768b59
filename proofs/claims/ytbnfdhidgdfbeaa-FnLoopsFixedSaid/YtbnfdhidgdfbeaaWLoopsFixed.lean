/- FnLoopsFixed, the walk. -/
import Derived.Deep.DeepCutAuto
import Derived.Deep.DrawnRows
import Derived.Test.YtbnfdhidgdfbeaaEv
import Derived.Test.YtbnfdhidgdfbeaaLawR
import Derived.Test.YtbnfdhidgdfbeaaRtS2
import Derived.Test.YtbnfdhidgdfbeaaStart
import Derived.Test.YtbnfdhidgdfbeaaVals
namespace Go.Proofs.Ytbnfdhidgdfbeaa
set_option maxRecDepth 100000
open Go.RowKit
attribute [local go_sem ↓] Go.wp_at_zero Go.wp_at_succ

set_option maxHeartbeats 4000000 in
theorem law_loopsFixed (A : Option Addr) (n c : Nat) (bs : List Int) (w : World) (h : Bytes w w.heap.size A n bs) (_hm : n ≤ maxLen) :
    Calls Try.prog 7 #[.slice A n c] w fun e w' => e = .returned (.bool true) ∧ Below w.heap.size w w' := by
  by_cases g : n ≤ 1048576
  · have d : decide ((n : Int) > 1048576) = false := by simp; omega
    have HB := Lib.hid h
    clear h
    go_enter Try.func7, Try.ntmps7
    go_wp2_with (go_at_call 19; refine (big_any _ _ _ _).mono ?_; rintro e w' ⟨rfl, rfl⟩)
    refine (drawRunning_any A n c bs _ HB.out (by omega)).mono ?_
    rintro e w1 ⟨d, ts, st, ps, A1, c1, A2, c2, A3, c3, rfl, hd, htl, hto, hst, hps, r1, r2, r3, b1⟩
    have hb2 : Below w1.heap.size w1 (w1.alloc (.cells #[.int .i64 d.W, .int .i64 d.H, .int .i64 d.T, .int .i64 d.R] 29)) := below_new (Below.refl _ _) _
    have HX := Lib.hid (heap_new w1 (.cells #[.int .i64 d.W, .int .i64 d.H, .int .i64 d.T, .int .i64 d.R] 29))
    have HW := Lib.hid (below_tr b1 hb2)
    have HR := Lib.hid (r1.below hb2)
    have HS := Lib.hid (r2.below hb2)
    have HP := Lib.hid (r3.below hb2)
    obtain ⟨hfo, hso, hpo, hsz⟩ := run_facts hd htl hst hps
    have HD := Lib.hid hd
    have HFO := Lib.hid hfo
    have HSO := Lib.hid hso
    have HPO := Lib.hid hpo
    have HSZ := Lib.hid hsz
    have HLN : Hid ((buildF d ts).length = tiles d) := by show _ = _; rw [buildF, List.length_map, htl]
    have HHP := Lib.hid hps
    have HHS := Lib.hid hst
    have hM := (tiles_eq hd).2
    have HWH := Lib.hid (tiles_eq hd).1
    have hbd := devOk_bd hd
    have HAL : Hid (allOk d (buildF d ts) st ps = true) := by show _ = _; unfold allOk; rw [hfo, hso, hpo]; rfl
    clear r1 r2 r3 b1 hb2 hd htl hto hst hps hfo hso hpo hsz
    obtain ⟨z0, z1, z2, z3⟩ := cell4 HX.out
    have HS2 := Lib.hid (World.size_alloc w1 (.cells #[.int .i64 d.W, .int .i64 d.H, .int .i64 d.T, .int .i64 d.R] 29))
    go_wp2_with fail
    generalize hW2 : (w1.alloc (.cells #[.int .i64 d.W, .int .i64 d.H, .int .i64 d.T, .int .i64 d.R] 29)) = w2 at *
    generalize hgd : w1.heap.size = gd at *
    generalize buildF d ts = fs at *
    clear hW2 hgd z0 z1 z2 z3
    refine (pemuValues_any d A1 (tiles d) c1 fs A2 (2 * tiles d) c2 st A3 (tiles d) c3 ps _ HR.out HS.out HP.out HSZ.out (by omega) (by omega)).mono ?_
    rintro e w3 ⟨A4, n4, c4, rfl, o4, b4⟩
    rw [evF_good HAL.out] at o4
    have hl4 := o4.len
    rw [valsF_length] at hl4
    have hnb := nodesOf_bd HD.out
    obtain ⟨N, hN⟩ : ∃ N : Nat, nodesOf d = (N : Int) := ⟨(nodesOf d).toNat, by omega⟩
    have hNN : (nodesOf d).toNat = N := by omega
    rw [hNN] at hl4
    have hl4' : N = n4 := hl4
    subst hl4'
    have HV := Lib.hid o4.ints
    replace HX := Lib.hid (heap_tr b4 HX.out)
    replace HW := Lib.hid (below_tr HW.out b4)
    replace HR := Lib.hid (HR.out.below b4)
    replace HS := Lib.hid (HS.out.below b4)
    replace HP := Lib.hid (HP.out.below b4)
    have HRN : Hid (rnOf d = (N : Int)) := by show _ = _; rw [rn_pos HD.out, hN]
    have HSP := Lib.hid (stPads_ok (ts := tilesOf d fs) HSO.out HPO.out)
    have HNN := Lib.hid hNN
    rw [hN] at hnb
    clear o4 b4 hl4 hNN hN

    have e1 : d.W * d.H = (tiles d : Int) := HWH.out
    have a3 : IntKind.i64.wrap (tiles d : Int) = (tiles d : Int) := IntWalk.i64_in _ (by omega)
    obtain ⟨i0, hi, hz0, hz1, hz2⟩ := info_parts int_info
    have hmk := fun W => run_make_rowN (P := Try.prog) 44 3 i0 _ Try.underlying44 hi hz0 .i64 .i64 (tiles d) (tiles d) (Nat.le_refl _) (by rw [hz2]; omega) (by omega) W
    rw [hz1, Nat.mul_one, show (Value.int .i64 0).cells = #[Value.int .i64 0] from rfl, arr_made] at hmk
    clear hi hz0 hz1 hz2

    have HSAME : Hid (Same (valsF d (tilesOf d fs) st ps) (valsF d (tilesOf d fs) (startF d fs) (List.replicate (tiles d) 0))) := same_vals HSP.out (stPads_start HFO.out _)
    have HUN : Hid (undF d fs = ((undTo d (valsF d (tilesOf d fs) st ps) N : Nat) : Int)) := by
      show _ = _
      unfold undF
      rw [if_pos HFO.out, HNN.out]
      exact congrArg (fun (k : Nat) => (k : Int)) (undTo_same (same_vals (stPads_zeros _ _ _ _) HSP.out) N)
    have HA2 : Hid (allOk d fs (startF d fs) (List.replicate (tiles d) 0) = true) := by
      show _ = _
      have hp : padsOk d (List.replicate (tiles d) 0) = true := by
        unfold padsOk wordsOk
        rw [upto_all (upto_rep (by omega) _), decide_eq_true (by rw [List.length_replicate, HWH.out])]
        rfl
      unfold allOk
      rw [HFO.out, stOk_start HFO.out, hp]
      rfl
    have HUL : Hid ((valsF d (tilesOf d fs) (startF d fs) (List.replicate (tiles d) 0)).length = N) := by show _ = _; rw [valsF_length, HNN.out]
    have HES := Lib.hid (fun (w' : World) (hr : Rows2 w' A1 (tiles d) fs) => pemuStart_any d A1 (tiles d) c1 fs w' hr HSZ.out)
    have hsl := startF_le d fs
    have HEV := Lib.hid (fun (SA : Option Addr) (sn sc g : Nat) (w' : World) (hr : Rows2 w' A1 (tiles d) fs) (hs : Ints w' SA sn (startF d fs)) (hp : Ints w' (some ⟨g, 0, none⟩) (tiles d) (List.replicate (tiles d) 0)) =>
      pemuValues_any d A1 (tiles d) c1 fs SA sn sc (startF d fs) (some ⟨g, 0, none⟩) (tiles d) (tiles d) (List.replicate (tiles d) 0) w' hr hs hp HSZ.out (by have := hs.1; omega) (by omega))
    rw [evF_good HA2.out] at HEV
    generalize valsF d (tilesOf d fs) (startF d fs) (List.replicate (tiles d) 0) = us at *
    generalize valsF d (tilesOf d fs) st ps = vs at *
    have hD := (Below.refl w3.heap.size w3)
    have hgl := heap_lt0 HX.out
    have HQ := Lib.hid (cell4 HX.out)
    go_upto_region 5 with fail
    go_cut [8] (fun s8 wx => ∃ A' c', s8 = .slice A' N c' ∧ Ints wx A' N us ∧ Below w3.heap.size w3 wx)
    case first =>
      go_region_held3 (fun w' => w'.cell? ⟨gd, 0, none⟩ = some (.int .i64 d.W) ∧ w'.cell? ⟨gd, 1, none⟩ = some (.int .i64 d.H) ∧ w'.cell? ⟨gd, 2, none⟩ = some (.int .i64 d.T) ∧ w'.cell? ⟨gd, 3, none⟩ = some (.int .i64 d.R))
        (first | with_reducible exact keep4 hD hgl HQ.out | with_reducible exact keep4 hD.drew hgl HQ.out | with_reducible exact keep4 (below_new hD _) hgl HQ.out | with_reducible exact keep4 (below_new hD.drew _) hgl HQ.out | with_reducible exact keep4 (below_new hD _).drew hgl HQ.out)
        (first
          | (go_at_call 35; (first | (with_reducible refine (HES.out _ (HR.out.below hD)).mono ?_) | (with_reducible refine (HES.out _ (HR.out.below hD.drew)).mono ?_) | (with_reducible refine (HES.out _ (HR.out.below (below_new hD.drew _))).mono ?_) | (with_reducible refine (HES.out _ (HR.out.below (below_new hD _))).mono ?_) | (with_reducible refine (HES.out _ (HR.out.below (below_new hD _).drew)).mono ?_)); rintro e w5 ⟨A5, n5, c5, rfl, o5, b5⟩; have O5 := Lib.hid o5.ints; have HB5 := Lib.hid b5; (first | (with_reducible have hD2 := below_tr hD b5) | (with_reducible have hD2 := below_tr hD.drew b5) | (with_reducible have hD2 := below_tr (below_new hD.drew _) b5) | (with_reducible have hD2 := below_tr (below_new hD _) b5) | (with_reducible have hD2 := below_tr (below_new hD _).drew b5)); clear b5 o5; replace hD := hD2)
          | (go_at_call 29; (first
              | (with_reducible refine (HEV.out _ _ _ _ _ (HR.out.below hD) O5.out (ints_made (heap_tr HB5.out (heap_dr (heap_new _ _))) (by omega))).mono ?_)
              | (with_reducible refine (HEV.out _ _ _ _ _ (HR.out.below hD) O5.out (ints_made (heap_tr HB5.out (heap_new _ _)) (by omega))).mono ?_)
              | (with_reducible refine (HEV.out _ _ _ _ _ (HR.out.below (below_new hD _)) (O5.out.below (below_new (Below.refl _ _) _)) (ints_made (heap_new _ _) (by omega))).mono ?_)
              | (with_reducible refine (HEV.out _ _ _ _ _ (HR.out.below (below_new hD _).drew) (O5.out.below (below_new (Below.refl _ _) _).drew) (ints_made (heap_dr (heap_new _ _)) (by omega))).mono ?_)); rintro e w6 ⟨A6, n6, c6, rfl, o6, b6⟩; have O6 := Lib.hid o6.ints; (first | (with_reducible have hD2 := below_tr hD b6) | (with_reducible have hD2 := below_tr (below_new hD _) b6) | (with_reducible have hD2 := below_tr (below_new hD _).drew b6)); clear b6 o6; replace hD := hD2))
      all_goals
        go_wp2_with fail
        go_meet
        have hl6 := O6.out.1
        rw [HUL.out] at hl6
        subst hl6
        exact ⟨_, _, rfl, O6.out, hD⟩
    case rest =>
      obtain ⟨A6, c6, rfl, o6, hD6⟩ := hcut
      have HU := Lib.hid o6
      replace HX := Lib.hid (heap_tr hD6 HX.out)
      replace HW := Lib.hid (below_tr HW.out hD6)
      replace HR := Lib.hid (HR.out.below hD6)
      replace HV := Lib.hid (HV.out.below hD6)
      clear o6 hD6 hmk HQ hD hgl e1 a3
      obtain ⟨z0, z1, z2, z3⟩ := cell4 HX.out
      go_wp2_with fail
      refine (sRouteNodes_any d _).mono ?_
      rw [HRN.out]
      rintro e w4 ⟨rfl, b4⟩
      replace HX := Lib.hid (heap_tr b4 HX.out)
      replace HW := Lib.hid (below_tr HW.out b4)
      replace HR := Lib.hid (HR.out.below b4)
      replace HV := Lib.hid (HV.out.below b4)
      replace HU := Lib.hid (HU.out.below b4)
      clear b4 z0 z1 z2 z3
      have hnn : ((N : Int) != (N : Int)) = false := by simp
      go_wp2_with fail
      go_loopw [9, 10] (fun cnt i wr => ∃ k : Nat, k ≤ N ∧ i = .int .i64 k ∧ cnt = .int .i64 ((undTo d vs k : Nat) : Int) ∧ Below w4.heap.size w4 wr) (fun _ i _ => N - (intOf i).toNat)
      case atStart => exact ⟨0, Nat.zero_le _, rfl, rfl, Below.refl _ _⟩
      case round =>
        obtain ⟨k, hk, rfl, rfl, hbe⟩ := hrel
        have HBE := Lib.hid hbe
        have HXR := Lib.hid (heap_tr hbe HX.out)
        have HVR := Lib.hid (HV.out.below hbe)
        have HUR := Lib.hid (HU.out.below hbe)
        have HWR := Lib.hid (below_tr HW.out hbe)
        have HRR := Lib.hid (HR.out.below hbe)
        clear hbe
        by_cases hlt : k < N
        · have hdk : decide ((k : Int) < (N : Int)) = true := by simp; omega
          have i0 : (0 : Int) ≤ (k : Int) := by omega
          have i1 : (k : Int) < (N : Int) := by omega
          have hul := undTo_le d vs k
          obtain ⟨bv, ov, rfl, hbv, hcv⟩ := HVR.out.2 (by omega)
          obtain ⟨bu, ou, rfl, hbu, hcu⟩ := HUR.out.2 (by omega)
          have hck := hcv k hlt
          replace hcu := hcu k hlt
          have hxy := HSAME.out.2 (k : Int)
          rw [nv_nat, nv_nat] at hxy
          have HY : Hid (nodeOk d (k : Int) = true → vs[k]?.getD 0 < 0 → undTo d vs (k + 1) = undTo d vs k + 1) := fun h h0 => undTo_yes h (by rw [nv_nat]; exact h0)
          have HZ : Hid (nodeOk d (k : Int) = false ∨ ¬ vs[k]?.getD 0 < 0 → undTo d vs (k + 1) = undTo d vs k) := fun h => undTo_no (h.imp_right fun h0 => by rw [nv_nat]; exact h0)
          clear hcv
          generalize vs[k]?.getD 0 = x at *
          generalize us[k]?.getD 0 = y at *
          generalize undTo d vs k = U at *
          by_cases hx : x < 0
          · have dx : decide (x < 0) = true := decide_eq_true hx
            have dy : decide (y < 0) = true := decide_eq_true (hxy.1 hx)
            have HX0 := Lib.hid hx
            clear hxy hx
            go_wp2_with fail
            go_quiet (fail)
            obtain ⟨z0, z1, z2, z3⟩ := cell4 HXR.out
            go_wp2_with fail
            refine (srouteNodeOk_any d (k : Int) _).mono ?_
            rintro e w5 ⟨rfl, b5⟩
            have HB5 := Lib.hid (below_tr (below_drewN HBE.out _) b5 : Below w4.heap.size w4 w5)
            clear b5 z0 z1 z2 z3
            cases hno : nodeOk d (k : Int) with
            | true =>
              have HK := Lib.hid (HY.out hno HX0.out)
              clear hno HY HZ
              go_wp2_with fail
              refine (btoi_any true _).mono ?_
              rintro e w' ⟨rfl, rfl⟩
              go_wp2_with fail
              go_roundw
              case rel => exact ⟨k + 1, by omega, by go_num, by rw [HK.out]; go_num, HB5.out⟩
              case measure => simp [intOf]; omega
            | false =>
              have HK := Lib.hid (HZ.out (.inl hno))
              clear hno HY HZ
              go_wp2_with fail
              refine (btoi_any false _).mono ?_
              rintro e w' ⟨rfl, rfl⟩
              go_wp2_with fail
              go_roundw
              case rel => exact ⟨k + 1, by omega, by go_num, by rw [HK.out], HB5.out⟩
              case measure => simp [intOf]; omega
          · have dx : decide (x < 0) = false := decide_eq_false hx
            have dy : decide (y < 0) = false := decide_eq_false (fun h => hx (hxy.2 h))
            have HK := Lib.hid (HZ.out (.inr hx))
            clear hxy hx HY HZ
            go_wp2_with fail
            go_quiet (fail)
            obtain ⟨z0, z1, z2, z3⟩ := cell4 HXR.out
            go_wp2_with fail
            refine (btoi_any false _).mono ?_
            rintro e w' ⟨rfl, rfl⟩
            go_wp2_with fail
            go_roundw
            case rel => exact ⟨k + 1, by omega, by go_num, by rw [HK.out], below_drewN HBE.out _⟩
            case measure => simp [intOf]; omega
        · have hkn : k = N := by omega
          subst hkn
          have hdk : decide ((k : Int) < (k : Int)) = false := by simp
          obtain ⟨z0, z1, z2, z3⟩ := cell4 HXR.out
          clear hlt hk
          go_wp2_with fail
          refine (undetermined_any d A1 (tiles d) c1 fs _ HRR.out HSZ.out).mono ?_
          rw [HUN.out]
          rintro e w9 ⟨rfl, b9⟩
          have HW9 := Lib.hid (below_tr HWR.out b9)
          have hqq : (((undTo d vs k : Nat) : Int) == ((undTo d vs k : Nat) : Int)) = true := by simp
          clear b9
          go_wp2_with fail
          go_ret
          exact ⟨rfl, HW9.out⟩
  · have d : decide ((n : Int) > 1048576) = true := by simp; omega
    go_enter Try.func7, Try.ntmps7
    go_wp2_with (go_at_call 19; refine (big_any _ _ _ _).mono ?_; rintro e w' ⟨rfl, rfl⟩)
    go_ret
    exact ⟨rfl, Below.refl _ _⟩
end Go.Proofs.Ytbnfdhidgdfbeaa
