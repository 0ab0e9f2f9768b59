/- FnEmuSteps, the walk. -/
import Derived.Deep.DeepCutAuto
import Derived.Deep.DrawnRows
import Derived.Test.YtbnfdhidgdfbeaaEs
import Derived.Test.YtbnfdhidgdfbeaaLawR
import Derived.Test.YtbnfdhidgdfbeaaRun
import Derived.Test.YtbnfdhidgdfbeaaStart
import Derived.Test.YtbnfdhidgdfbeaaVals
namespace Go.Proofs.Ytbnfdhidgdfbeaa
set_option maxRecDepth 100000
open Go.RowKit
attribute [local go_sem ↓] Go.wp_at_zero Go.wp_at_succ

theorem runO_get (d : Dev) (fs pads : List (List Int)) {t m : Nat} (h : t < m) : (runO d fs pads m)[t]?.getD [] = outF d (tilesOf d fs) (stK d fs pads t) (pads[t]?.getD []) := by
  induction m with
  | zero => omega
  | succ m ih =>
    have hl := runO_length d fs pads m
    rw [runO]
    rcases Nat.lt_or_ge t m with h1 | h1
    · rw [List.getElem?_append_left (by omega)]
      exact ih h1
    · obtain rfl : t = m := by omega
      rw [List.getElem?_append_right (by omega), hl, Nat.sub_self]
      rfl
theorem three_get {P : List Int → Prop} {a b : List Int} (ha : P a) (hb : P b) (j : Nat) (hj : j < 3) : P (([a, b, a] : List (List Int))[j]?.getD []) := by
  have h : j = 0 ∨ j = 1 ∨ j = 2 := by omega
  rcases h with rfl | rfl | rfl
  · exact ha
  · exact hb
  · exact ha
set_option maxHeartbeats 4000000 in
theorem law_emuSteps (A : Option Addr) (n c : Nat) (bs : List Int) (w : World) (h : Bytes w w.heap.size A n bs) (_hm : n ≤ maxLen) :
    Calls Try.prog 8 #[.slice A n c] w fun e w' => e = .returned (.bool true) ∧ Below w.heap.size w w' := by
  by_cases g : n ≤ 1048576
  · have d : decide ((n : Int) > 1048576) = false := by simp; omega
    have HB := Lib.hid h
    clear h
    go_enter Try.func8, Try.ntmps8
    go_wp2_with (go_at_call 19; refine (big_any _ _ _ _).mono ?_; rintro e w' ⟨rfl, rfl⟩)
    refine (drawRunning_any A n c bs _ HB.out (by omega)).mono ?_
    rintro e w1 ⟨d, ts, st, ps, A1, c1, A2, c2, A3, c3, rfl, hd, htl, hto, hst, hps, r1, r2, r3, b1⟩
    have hb2 : Below w1.heap.size w1 (w1.alloc (.cells #[.int .i64 d.W, .int .i64 d.H, .int .i64 d.T, .int .i64 d.R] 29)) := below_new (Below.refl _ _) _
    have HX := Lib.hid (heap_new w1 (.cells #[.int .i64 d.W, .int .i64 d.H, .int .i64 d.T, .int .i64 d.R] 29))
    have HW := Lib.hid (below_tr b1 hb2)
    have HR := Lib.hid (r1.below hb2)
    have HS := Lib.hid (r2.below hb2)
    have HP := Lib.hid (r3.below hb2)
    obtain ⟨hfo, hso, hpo, hsz⟩ := run_facts hd htl hst hps
    have HD := Lib.hid hd
    have HFO := Lib.hid hfo
    have HSO := Lib.hid hso
    have HPO := Lib.hid hpo
    have HSZ := Lib.hid hsz
    have HLN : Hid ((buildF d ts).length = tiles d) := by show _ = _; rw [buildF, List.length_map, htl]
    have HHP := Lib.hid hps
    have HHS := Lib.hid hst
    have hM := (tiles_eq hd).2
    have HWH := Lib.hid (tiles_eq hd).1
    have hbd := devOk_bd hd
    have HAL : Hid (allOk d (buildF d ts) st ps = true) := by show _ = _; unfold allOk; rw [hfo, hso, hpo]; rfl
    clear r1 r2 r3 b1 hb2 hd htl hto hst hps hfo hso hpo hsz
    obtain ⟨z0, z1, z2, z3⟩ := cell4 HX.out
    have HS2 := Lib.hid (World.size_alloc w1 (.cells #[.int .i64 d.W, .int .i64 d.H, .int .i64 d.T, .int .i64 d.R] 29))
    have e1 : d.W * d.H = (tiles d : Int) := HWH.out
    have a3 : IntKind.i64.wrap (tiles d : Int) = (tiles d : Int) := IntWalk.i64_in _ (by omega)
    obtain ⟨i0, hi, hz0, hz1, hz2⟩ := info_parts int_info
    have hmk := fun W => run_make_rowN (P := Try.prog) 44 3 i0 _ Try.underlying44 hi hz0 .i64 .i64 (tiles d) (tiles d) (Nat.le_refl _) (by rw [hz2]; omega) (by omega) W
    rw [hz1, Nat.mul_one, show (Value.int .i64 0).cells = #[Value.int .i64 0] from rfl, arr_made] at hmk
    clear hi hz0 hz1 hz2
    go_wp2_with fail
    generalize hW2 : (w1.alloc (.cells #[.int .i64 d.W, .int .i64 d.H, .int .i64 d.T, .int .i64 d.R] 29)) = w2 at *
    generalize hgd : w1.heap.size = gd at *
    generalize buildF d ts = fs at *
    clear hW2 hgd z0 z1 z2 z3
    have HPZ : Hid (padsOk d (List.replicate (tiles d) 0) = true) := by
      show _ = _
      unfold padsOk wordsOk
      rw [upto_all (upto_rep (by omega) _), decide_eq_true (by rw [List.length_replicate, HWH.out])]
      rfl
    clear e1
    have hb4 : Below w2.heap.size w2 ((w2.alloc (.cells (arr (List.replicate (tiles d) 0)) 3)).alloc (.cells #[.slice A3 (tiles d) c3, .slice (some ⟨gd + 1, 0, none⟩) (tiles d) (tiles d), .slice A3 (tiles d) c3] 44)) := below_new (below_new (Below.refl _ _) _) _
    have HZI : Hid (Ints ((w2.alloc (.cells (arr (List.replicate (tiles d) 0)) 3)).alloc (.cells #[.slice A3 (tiles d) c3, .slice (some ⟨gd + 1, 0, none⟩) (tiles d) (tiles d), .slice A3 (tiles d) c3] 44)) (some ⟨gd + 1, 0, none⟩) (tiles d) (List.replicate (tiles d) 0)) := ints_made (heap_al _ (heap_newAt HS2.out)) (by omega)
    have HLI : Hid (((w2.alloc (.cells (arr (List.replicate (tiles d) 0)) 3)).alloc (.cells #[.slice A3 (tiles d) c3, .slice (some ⟨gd + 1, 0, none⟩) (tiles d) (tiles d), .slice A3 (tiles d) c3] 44)).heap[gd + 1 + 1]? = some (.cells #[.slice A3 (tiles d) c3, .slice (some ⟨gd + 1, 0, none⟩) (tiles d) (tiles d), .slice A3 (tiles d) c3] 44 (0, 0))) := heap_newAt (by rw [World.size_alloc, HS2.out])
    replace HX := Lib.hid (heap_tr hb4 HX.out)
    replace HW := Lib.hid (below_tr HW.out hb4)
    replace HR := Lib.hid (HR.out.below hb4)
    replace HP := Lib.hid (HP.out.below hb4)
    generalize hWL : ((w2.alloc (.cells (arr (List.replicate (tiles d) 0)) 3)).alloc (.cells #[.slice A3 (tiles d) c3, .slice (some ⟨gd + 1, 0, none⟩) (tiles d) (tiles d), .slice A3 (tiles d) c3] 44)) = w3 at *
    generalize hgz : gd + 1 = gz at *
    generalize hgl : gz + 1 = gl at *
    clear hb4 hWL hgz hgl hmk HS2
    have HRP : Hid (Rows2 w3 (some ⟨gl, 0, none⟩) 3 [ps, List.replicate (tiles d) 0, ps]) := by
      refine ⟨rfl, fun _ => ⟨gl, 0, rfl, heap_lt0 HLI.out, fun j hj => ?_⟩⟩
      have h : j = 0 ∨ j = 1 ∨ j = 2 := by omega
      rcases h with rfl | rfl | rfl
      · exact ⟨A3, tiles d, c3, cell_heap HLI.out rfl, HP.out⟩
      · exact ⟨_, _, _, cell_heap HLI.out rfl, HZI.out⟩
      · exact ⟨A3, tiles d, c3, cell_heap HLI.out rfl, HP.out⟩
    have HPJ : Hid (∀ j : Nat, j < 3 → padsOk d (([ps, List.replicate (tiles d) 0, ps] : List (List Int))[j]?.getD []) = true) := fun j hj => three_get (P := fun x => padsOk d x = true) HPO.out HPZ.out j hj
    have hzl : size2 [ps, List.replicate (tiles d) 0, ps] ≤ 1099511627776 := by
      have h1 := HHP.out.1
      simp [size2, sizeTo]
      omega
    generalize hPP : ([ps, List.replicate (tiles d) 0, ps] : List (List Int)) = P at *
    have HPL : Hid (P.length = 3) := by show _ = _; rw [← hPP]; rfl
    have HRO : Hid (runF d fs P = runO d fs P 3) := by
      show _ = _
      rw [runF_good (runOk_good HFO.out (by rw [HPL.out]; omega) (fun j hj => HPJ.out j (by rw [HPL.out] at hj; exact hj))), HPL.out]
    have HOG := Lib.hid (fun (t : Nat) (ht : t < 3) => runO_get d fs P ht)
    have HSK := Lib.hid (fun (t : Nat) (ht : t ≤ 3) => stK_ok (pads := P) HFO.out (k := t) (fun j hj => HPJ.out j (by omega)))
    have HOL := Lib.hid (runO_length d fs P 3)
    have HOZ : Hid (size2 (runO d fs P 3) ≤ 1099511627776) := Nat.le_trans (runO_size (pads := P) HFO.out 3) (by omega)
    have HSTL := Lib.hid (fun (t : Nat) (ht : t ≤ 3) => stOk_len (HSK.out t ht))
    have HES : Hid (startF d fs = stK d fs P 0) := rfl
    clear hPP a3 HLI HZI HPZ HPO
    obtain ⟨z0, z1, z2, z3⟩ := cell4 HX.out
    go_wp2_with fail
    with_reducible refine (pemuRun_any d A1 (tiles d) c1 fs (some ⟨gl, 0, none⟩) 3 3 P _ HR.out HRP.out HSZ.out hzl).mono ?_
    rw [HRO.out]
    rintro e w4 ⟨A4, n4, c4, rfl, o4, b4⟩
    have hl4 := o4.len
    rw [HOL.out] at hl4
    subst hl4
    have HU := Lib.hid o4.rd
    replace HX := Lib.hid (heap_tr b4 HX.out)
    replace HW := Lib.hid (below_tr HW.out b4)
    replace HR := Lib.hid (HR.out.below b4)
    replace HRP := Lib.hid (HRP.out.below b4)
    clear o4 b4 z0 z1 z2 z3
    generalize runO d fs P 3 = O at *
    obtain ⟨z0, z1, z2, z3⟩ := cell4 HX.out
    go_wp2_with fail
    refine (pemuStart_any d A1 (tiles d) c1 fs _ HR.out HSZ.out).mono ?_
    rw [HES.out]
    rintro e w5 ⟨A5, n5, c5, rfl, o5, b5⟩
    have hl5 := o5.len
    rw [HSTL.out 0 (by omega)] at hl5
    subst hl5
    have HS0 := Lib.hid o5.ints
    replace HX := Lib.hid (heap_tr b5 HX.out)
    replace HW := Lib.hid (below_tr HW.out b5)
    replace HR := Lib.hid (HR.out.below b5)
    replace HRP := Lib.hid (HRP.out.below b5)
    replace HU := Lib.hid (HU.out.below b5)
    clear o5 b5 z0 z1 z2 z3 hzl
    go_wp2_with fail
    go_loopw [9, 10] (fun sv i wr => ∃ (k : Nat) (SA : Option Addr) (sc : Nat), k ≤ 3 ∧ i = .int .i64 k ∧ sv = .slice SA (2 * tiles d) sc ∧ Ints wr SA (2 * tiles d) (stK d fs P k) ∧ Below w5.heap.size w5 wr) (fun _ i _ => 3 - (intOf i).toNat)
    case atStart => exact ⟨0, A5, c5, by omega, rfl, rfl, HS0.out, Below.refl _ _⟩
    case round =>
      obtain ⟨k, SA, sc, hk, rfl, rfl, hso, hbe⟩ := hrel
      have HSI := Lib.hid hso
      have HBE := Lib.hid hbe
      have HXR := Lib.hid (heap_tr hbe HX.out)
      have HWR := Lib.hid (below_tr HW.out hbe)
      have HRR := Lib.hid (HR.out.below hbe)
      have HRPR := Lib.hid (HRP.out.below hbe)
      have HUR := Lib.hid (HU.out.below hbe)
      clear hso hbe
      by_cases hlt : k < 3
      · have hdk : decide ((k : Int) < 3) = true := decide_eq_true (by omega)
        have i0 : (0 : Int) ≤ (k : Int) := by omega
        have i1 : (k : Int) < 3 := by omega
        have hok := HSK.out k (by omega)
        obtain ⟨z0, z1, z2, z3⟩ := cell4 HXR.out
        go_wp2_with fail
        refine (emuStateOk_any d SA (2 * tiles d) sc (stK d fs P k) _ HSI.out (by omega)).mono ?_
        rw [hok]
        rintro e w6 ⟨rfl, b6⟩
        replace HXR := Lib.hid (heap_tr b6 HXR.out)
        replace HBE := Lib.hid (below_tr HBE.out b6)
        replace HWR := Lib.hid (below_tr HWR.out b6)
        replace HRR := Lib.hid (HRR.out.below b6)
        replace HRPR := Lib.hid (HRPR.out.below b6)
        replace HUR := Lib.hid (HUR.out.below b6)
        replace HSI := Lib.hid (HSI.out.below b6)
        clear b6 z0 z1 z2 z3
        obtain ⟨bl, ol, hgl, hbl, hcl⟩ := HRPR.out.2 (by omega)
        obtain ⟨A7, n7, c7, hck, hi7⟩ := hcl k hlt
        injection hgl with hgl
        injection hgl with q1 q2
        subst q1 q2
        rw [Nat.zero_add] at hck
        have HP7 := Lib.hid hi7
        have hpk := HPJ.out k hlt
        have HAK : Hid (allOk d fs (stK d fs P k) (P[k]?.getD []) = true) := by show _ = _; unfold allOk; rw [HFO.out, hok, hpk]; rfl
        have hpl := (padsOk_len hpk).1
        have hn7 : n7 ≤ 16777216 := by have := hi7.1; have := HWH.out; omega
        have HEP := Lib.hid (fun (w' : World) (hr : Rows2 w' A1 (tiles d) fs) (hs : Ints w' SA (2 * tiles d) (stK d fs P k)) (hp : Ints w' A7 n7 (P[k]?.getD [])) => pemuStep_any d A1 (tiles d) c1 fs SA (2 * tiles d) sc (stK d fs P k) A7 n7 c7 (P[k]?.getD []) w' hr hs hp HSZ.out (by omega) hn7)
        rw [esN_good HAK.out, esO_good HAK.out] at HEP
        have HNX : Hid (nextF d (tilesOf d fs) (stK d fs P k) (P[k]?.getD []) = stK d fs P (k + 1)) := rfl
        have HOX := Lib.hid (HOG.out k hlt)
        have HOLN : Hid ((outF d (tilesOf d fs) (stK d fs P k) (P[k]?.getD [])).length = tiles d) := by show _ = _; rw [outF, outTo_length, tilesOf_length, HLN.out]
        have HNL := Lib.hid (HSTL.out (k + 1) (by omega))
        rw [HNX.out] at HEP
        clear hok hpk hpl hi7 hcl
        generalize outF d (tilesOf d fs) (stK d fs P k) (P[k]?.getD []) = ou at *
        obtain ⟨z0, z1, z2, z3⟩ := cell4 HXR.out
        have lX := heap_lt0 HXR.out
        have hD := (Below.refl w6.heap.size w6).drew
        go_wp2_with fail
        go_region_held3 (fun w' => Below w6.heap.size w6 w' ∧ ∀ b o, b < w6.heap.size → w'.cell? ⟨b, o, none⟩ = w6.cell? ⟨b, o, none⟩)
          (first | exact ⟨hD, (bcell hD).1⟩)
          (first
            | (go_at_call 39; (with_reducible refine (HEP.out _ (HRR.out.below hD) (HSI.out.below hD) (HP7.out.below hD)).mono ?_); rintro e w8 ⟨A8, n8, c8, A9, n9, c9, rfl, o8, o9, -, b8⟩; have O8 := Lib.hid o8.ints; have O9 := Lib.hid o9.ints; replace hD := below_tr hD b8; clear o8 o9 b8))
        have hl8 := O8.out.1
        have hl9 := O9.out.1
        rw [HNL.out] at hl8
        rw [HOLN.out] at hl9
        subst hl8 hl9
        replace HXR := Lib.hid (heap_tr hD HXR.out)
        replace HBE := Lib.hid (below_tr HBE.out hD)
        replace HWR := Lib.hid (below_tr HWR.out hD)
        replace HUR := Lib.hid (HUR.out.below hD)
        clear hD z0 z1 z2 z3 lX hck
        obtain ⟨bu, ou2, hA4, hbu, hcu⟩ := HUR.out.2 (by omega)
        obtain ⟨A6, n6, c6, hcu, hi6⟩ := hcu k (by omega)
        subst hA4
        rw [HOX.out] at hi6
        have HI6 := Lib.hid hi6
        have hl6 := hi6.1
        rw [HOLN.out] at hl6
        subst hl6
        have e1 : d.W * d.H = (tiles d : Int) := HWH.out
        have a3 : IntKind.i64.wrap (tiles d : Int) = (tiles d : Int) := IntWalk.i64_in _ (by omega)
        have htt : ((tiles d : Int) != (tiles d : Int)) = false := by simp
        have i2 : (k : Int) < ((O.length : Nat) : Int) := by rw [HOL.out]; omega
        clear hi6
        go_wp2_with fail
        refine (sameInts_any A9 A6 (tiles d) (tiles d) c9 c6 ou ou _ O9.out HI6.out (by omega)).mono ?_
        rw [show decide (ou = ou) = true from decide_eq_true rfl]
        rintro e wx ⟨rfl, bx⟩
        replace HXR := Lib.hid (heap_tr bx HXR.out)
        replace HBE := Lib.hid (below_tr HBE.out bx)
        replace O8 := Lib.hid (O8.out.below bx)
        clear bx hcu
        obtain ⟨z0, z1, z2, z3⟩ := cell4 HXR.out
        go_wp2_with fail
        go_roundw
        case rel => exact ⟨k + 1, A8, c8, by omega, by go_num, rfl, O8.out, HBE.out⟩
        case measure => simp [intOf]; omega
      · have hk3 : k = 3 := by omega
        subst hk3
        have hdk : decide (((3 : Nat) : Int) < 3) = false := by decide
        go_wp2_with fail
        go_ret
        exact ⟨rfl, HWR.out⟩
  · have d : decide ((n : Int) > 1048576) = true := by simp; omega
    go_enter Try.func8, Try.ntmps8
    go_wp2_with (go_at_call 19; refine (big_any _ _ _ _).mono ?_; rintro e w' ⟨rfl, rfl⟩)
    go_ret
    exact ⟨rfl, Below.refl _ _⟩
end Go.Proofs.Ytbnfdhidgdfbeaa
