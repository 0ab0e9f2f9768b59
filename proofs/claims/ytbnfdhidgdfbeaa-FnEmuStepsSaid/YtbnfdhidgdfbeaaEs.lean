/- EmuStep: a cycle: the program. -/
import Derived.Test.YtbnfdhidgdfbeaaEsPure
import Derived.Test.YtbnfdhidgdfbeaaStp
namespace Go.Proofs.Ytbnfdhidgdfbeaa
set_option maxRecDepth 100000
open Go.RowKit

set_option maxHeartbeats 4000000 in
theorem pemuStep_any (d : Dev) (A : Option Addr) (m c : Nat) (fs : List (List Int)) (SA : Option Addr) (sn sc : Nat) (st : List Int) (PA : Option Addr) (pn pc : Nat) (ps : List Int) (w : World)
    (hA : Rows2 w A m fs) (hS : Ints w SA sn st) (hP : Ints w PA pn ps) (hz : size2 fs ≤ 1099511627776) (hs : sn ≤ 16777216) (hp : pn ≤ 16777216) :
    Calls Try.prog 39 #[.agg #[.int .i64 d.W, .int .i64 d.H, .int .i64 d.T, .int .i64 d.R], .slice A m c, .slice SA sn sc, .slice PA pn pc] w fun e w' => ∃ A1 n1 c1 A2 n2 c2, e = .returned (.tuple #[.slice A1 n1 c1, .slice A2 n2 c2]) ∧ Own w.heap.size w' A1 n1 c1 (esN d fs st ps) ∧ Own w.heap.size w' A2 n2 c2 (esO d fs st ps) ∧ Apart w.heap.size w'.heap.size A1 A2 ∧ Below w.heap.size w w' := by
  have HB0 := Lib.hid (below_new (Below.refl w.heap.size w) (.cells #[.int .i64 d.W, .int .i64 d.H, .int .i64 d.T, .int .i64 d.R] 29))
  have HI := Lib.hid hA
  have HS := Lib.hid hS
  have HP := Lib.hid hP
  clear hA hS hP
  go_enter Try.func39, Try.ntmps39
  go_wp2_with fail
  refine (framesOk_any d A m c fs _ (HI.out.below HB0.out) hz).mono ?_
  rintro e w1 ⟨rfl, b1⟩
  have hs1 := b1.size
  simp only [World.size_alloc] at hs1
  have D1 := Lib.hid b1
  obtain ⟨hcc, hff⟩ := bcell b1
  clear b1
  cases hf : framesOk d fs with
  | false =>
    have HF : Hid (allOk d fs st ps = false) := (by unfold allOk; rw [hf]; rfl)
    clear hf
    go_wp2_with fail
    go_ret2
    exact ⟨none, 0, 0, none, 0, 0, rfl, by rw [esN_bad HF.out]; exact Own.nil, by rw [esO_bad HF.out]; exact Own.nil, Apart.nil (below_tr HB0.out D1.out).size, below_tr HB0.out D1.out⟩
  | true =>
    have HFO := Lib.hid hf
    clear hf
    go_wp2_with fail
    refine (emuStateOk_any d SA sn sc st _ (HS.out.below (below_tr HB0.out D1.out)) hs).mono ?_
    rintro e w2 ⟨rfl, b2⟩
    have D2 := Lib.hid (below_tr D1.out b2)
    have hs2 := b2.size
    clear b2 hcc hff
    obtain ⟨hcc, hff⟩ := bcell D2.out
    cases hst : stOk d st with
    | false =>
      have HF : Hid (allOk d fs st ps = false) := (by unfold allOk; rw [hst, HFO.out]; rfl)
      clear hst
      go_wp2_with fail
      go_ret2
      exact ⟨none, 0, 0, none, 0, 0, rfl, by rw [esN_bad HF.out]; exact Own.nil, by rw [esO_bad HF.out]; exact Own.nil, Apart.nil (below_tr HB0.out D2.out).size, below_tr HB0.out D2.out⟩
    | true =>
      have HST := Lib.hid hst
      clear hst
      go_wp2_with fail
      refine (padsOk_any d PA pn pc ps _ (HP.out.below (below_tr HB0.out D2.out)) (by omega) (framesOk_iff HFO.out).1).mono ?_
      rintro e w3 ⟨rfl, b3⟩
      have D3 := Lib.hid (below_tr D2.out b3)
      have hs3 := b3.size
      clear b3 hcc hff
      obtain ⟨hcc, hff⟩ := bcell D3.out
      cases hpo : padsOk d ps with
      | false =>
        have HF : Hid (allOk d fs st ps = false) := (by unfold allOk; rw [HST.out, HFO.out, hpo]; rfl)
        clear hpo
        go_wp2_with fail
        go_ret2
        exact ⟨none, 0, 0, none, 0, 0, rfl, by rw [esN_bad HF.out]; exact Own.nil, by rw [esO_bad HF.out]; exact Own.nil, Apart.nil (below_tr HB0.out D3.out).size, below_tr HB0.out D3.out⟩
      | true =>
        have HF : Hid (allOk d fs st ps = true) := (by unfold allOk; rw [HST.out, HFO.out, hpo]; rfl)
        have HSP := Lib.hid (stPads_ok (ts := tilesOf d fs) HST.out hpo)
        have HPL := Lib.hid (padsOk_len hpo).1
        have HSL := Lib.hid (stOk_len HST.out)
        clear hpo
        go_wp2_with fail
        refine (emulatorOf_any d A m c fs _ (HI.out.below (below_tr HB0.out D3.out)) HFO.out).mono ?_
        rintro e w4 ⟨g, TA, tc, EA, DA, rfl, hem, b4⟩
        have D4 := Lib.hid (below_tr D3.out b4)
        have HEM := Lib.hid hem
        have HV := Lib.hid (step_any g d (tilesOf d fs) TA m tc EA DA (nodesOf d).toNat SA sn sc st PA pn pc ps w4 HEM.out (by have := nodesOf_bd (framesOk_iff HFO.out).1; omega) (HS.out.below (below_tr HB0.out D4.out)) (HP.out.below (below_tr HB0.out D4.out)) (by have := HS.out.1; have := HSL.out; have := (tiles_eq (framesOk_iff HFO.out).1).1; omega) (by have := HP.out.1; have := HPL.out; omega) HSP.out (cfg_of_frames HFO.out))
        clear b4 hem hcc hff
        go_wp2_with fail
        refine HV.out.mono ?_
        rintro e w5 ⟨A5, c5, B5, mid, rfl, o5, p5, hap, b5⟩
        have O5 := Lib.hid o5
        have P5 := Lib.hid p5
        have D5 := Lib.hid (below_tr D4.out b5)
        have B5 := Lib.hid (below_tr HB0.out D4.out)
        have HAP := Lib.hid (Apart.more (lo' := w.heap.size) ⟨mid, hap⟩ (below_tr HB0.out D4.out).size (Nat.le_refl _))
        clear o5 p5 b5 hap
        go_wp2_with fail
        go_ret2
        exact ⟨_, _, _, _, _, _, rfl, by rw [esN_good HF.out]; exact O5.out.more B5.out.size, by rw [esO_good HF.out]; exact P5.out.more B5.out.size, HAP.out, below_tr HB0.out D5.out⟩
end Go.Proofs.Ytbnfdhidgdfbeaa
