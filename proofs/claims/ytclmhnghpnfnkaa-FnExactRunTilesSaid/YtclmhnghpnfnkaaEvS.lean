/- EmuValues: the values of all nodes: the reference. -/
import Derived.Test.YtclmhnghpnfnkaaVals
namespace Go.Proofs.Ytclmhnghpnfnkaa
set_option maxRecDepth 100000
open Go.RowKit

set_option maxHeartbeats 2000000 in
theorem sl41Valid_any (d : Dev) (A : Option Addr) (m c : Nat) (fs : List (List Int)) (SA : Option Addr) (sn sc : Nat) (st : List Int) (PA : Option Addr) (pn pc : Nat) (ps : List Int) (w : World)
    (hA : Rows2 w A m fs) (hS : Ints w SA sn st) (hP : Ints w PA pn ps) (hz : size2 fs ≤ 1099511627776) (hs : sn ≤ 16777216) (hp : pn ≤ 16777216) :
    Calls Try.prog 113 #[.agg #[.int .i64 d.W, .int .i64 d.H, .int .i64 d.T, .int .i64 d.R], .slice A m c, .slice SA sn sc, .slice PA pn pc] w fun e w' => e = .returned (.bool (allOk d fs st ps)) ∧ Below w.heap.size w w' := by
  have HB0 := Lib.hid (below_new (Below.refl w.heap.size w) (.cells #[.int .i64 d.W, .int .i64 d.H, .int .i64 d.T, .int .i64 d.R] 26))
  have HI := Lib.hid hA
  have HS := Lib.hid hS
  have HP := Lib.hid hP
  clear hA hS hP
  go_enter Try.func113, Try.ntmps113
  go_wp2_with fail
  refine (sframesOk_any d A m c fs _ (HI.out.below HB0.out) hz).mono ?_
  rintro e w1 ⟨rfl, b1⟩
  have hs1 := b1.size
  simp only [World.size_alloc] at hs1
  have D1 := Lib.hid b1
  obtain ⟨hcc, hff⟩ := bcell b1
  clear b1
  cases hf : framesOk d fs with
  | false =>
    have HF : Hid (allOk d fs st ps = false) := by show _ = _; unfold allOk; rw [hf]; rfl
    clear hf
    go_wp2_with fail
    go_ret
    exact ⟨ret_bool HF.out.symm, below_tr HB0.out D1.out⟩
  | true =>
    have HFO := Lib.hid hf
    clear hf
    go_wp2_with fail
    refine (semuStateOk_any d SA sn sc st _ (HS.out.below (below_tr HB0.out D1.out)) hs).mono ?_
    rintro e w2 ⟨rfl, b2⟩
    have D2 := Lib.hid (below_tr D1.out b2)
    have hs2 := b2.size
    clear b2 hcc hff
    obtain ⟨hcc, hff⟩ := bcell D2.out
    cases hst : stOk d st with
    | false =>
      have HF : Hid (allOk d fs st ps = false) := by show _ = _; unfold allOk; rw [hst, HFO.out]; rfl
      clear hst
      go_wp2_with fail
      go_ret
      exact ⟨ret_bool HF.out.symm, below_tr HB0.out D2.out⟩
    | true =>
      have HF : Hid (allOk d fs st ps = padsOk d ps) := by show _ = _; unfold allOk; rw [hst, HFO.out]; rfl
      clear hst
      go_wp2_with fail
      refine (sl41Pads_any d PA pn pc ps _ (HP.out.below (below_tr HB0.out D2.out)) (by omega) (framesOk_iff HFO.out).1).mono ?_
      rintro e w3 ⟨rfl, b3⟩
      have D3 := Lib.hid (below_tr D2.out b3)
      clear b3 hcc hff
      go_wp2_with fail
      go_ret
      exact ⟨ret_bool HF.out.symm, below_tr HB0.out D3.out⟩
set_option maxHeartbeats 4000000 in
theorem semuValues_any (d : Dev) (A : Option Addr) (m c : Nat) (fs : List (List Int)) (SA : Option Addr) (sn sc : Nat) (st : List Int) (PA : Option Addr) (pn pc : Nat) (ps : List Int) (w : World)
    (hA : Rows2 w A m fs) (hS : Ints w SA sn st) (hP : Ints w PA pn ps) (hz : size2 fs ≤ 1099511627776) (hs : sn ≤ 16777216) (hp : pn ≤ 16777216) :
    Calls Try.prog 49 #[.agg #[.int .i64 d.W, .int .i64 d.H, .int .i64 d.T, .int .i64 d.R], .slice A m c, .slice SA sn sc, .slice PA pn pc] w fun e w' => ∃ A' n' c', e = .returned (.slice A' n' c') ∧ Own w.heap.size w' A' n' c' (evF d fs st ps) ∧ Below w.heap.size w w' := by
  have HB0 := Lib.hid (below_new (Below.refl w.heap.size w) (.cells #[.int .i64 d.W, .int .i64 d.H, .int .i64 d.T, .int .i64 d.R] 26))
  have HI := Lib.hid hA
  have HS := Lib.hid hS
  have HP := Lib.hid hP
  clear hA hS hP
  go_enter Try.func49, Try.ntmps49
  go_wp2_with fail
  refine (sl41Valid_any d A m c fs SA sn sc st PA pn pc ps _ (HI.out.below HB0.out) (HS.out.below HB0.out) (HP.out.below HB0.out) hz hs hp).mono ?_
  rintro e w1 ⟨rfl, b1⟩
  have hs1 := b1.size
  simp only [World.size_alloc] at hs1
  have D1 := Lib.hid b1
  obtain ⟨hcc, hff⟩ := bcell b1
  clear b1
  cases hok : allOk d fs st ps with
  | false =>
    have HF : Hid (evF d fs st ps = []) := evF_bad hok
    clear hok
    go_wp2_with fail
    go_ret
    exact ⟨_, 0, 0, rfl, by rw [HF.out]; exact Own.made (xs := []) (heap_new w1 (.cells #[] 3)) (below_tr HB0.out D1.out).size (by decide) rfl rfl, below_new (below_tr HB0.out D1.out) _⟩
  | true =>
    have HF : Hid (evF d fs st ps = valsF d (tilesOf d fs) st ps) := evF_good hok
    obtain ⟨hf, hst, hpo⟩ : framesOk d fs = true ∧ stOk d st = true ∧ padsOk d ps = true := by simpa [allOk] using hok
    have HFO := Lib.hid hf
    have HRF : Hid (readF d fs = tilesOf d fs) := by show _ = _; rw [readF, if_pos hf]
    have HSP := Lib.hid (stPads_ok (ts := tilesOf d fs) hst hpo)
    have HPL := Lib.hid (padsOk_len hpo).1
    have HSL := Lib.hid (stOk_len hst)
    have hww : w.heap.size < w1.heap.size := by omega
    have HQ := Lib.hid (keep4 D1.out (by simp) (box4 w d))
    clear hok hf hst hpo hcc hff
    have HN := Lib.hid (nodesOf_bd (framesOk_iff HFO.out).1)
    have hD := Below.refl w1.heap.size w1
    have HV : Hid (∀ (TA : Option Addr) (m3 c3 : Nat) (w' : World), Below w1.heap.size w1 w' → RdC w' w'.heap.size (celT (readF d fs)) (.slice TA m3 c3) →
        Calls Try.prog 84 #[.agg #[.int .i64 d.W, .int .i64 d.H, .int .i64 d.T, .int .i64 d.R], .slice TA m3 c3, .slice SA sn sc, .slice PA pn pc] w' fun e' w'' => ∃ A' c', e' = .returned (.slice A' (nodesOf d).toNat c') ∧ Own w'.heap.size w'' A' (nodesOf d).toNat c' (valsF d (tilesOf d fs) st ps) ∧ Below w'.heap.size w' w'') := by
      intro TA m3 c3 w' hb hr
      exact sl41Values_any d (tilesOf d fs) TA m3 c3 SA sn sc st PA pn pc ps w' (by rw [← HRF.out]; exact hr) (HS.out.below (below_tr HB0.out (below_tr D1.out hb))) (HP.out.below (below_tr HB0.out (below_tr D1.out hb))) (by have := HS.out.1; have := HSL.out; have := (tiles_eq (framesOk_iff HFO.out).1).1; omega) (by have := HP.out.1; have := HPL.out; omega) HSP.out (cfg_of_frames HFO.out)
    go_wp2_with fail
    go_region_held3 (fun w' => w'.cell? ⟨w.heap.size, 0, none⟩ = some (.int .i64 d.W) ∧ w'.cell? ⟨w.heap.size, 1, none⟩ = some (.int .i64 d.H) ∧ w'.cell? ⟨w.heap.size, 2, none⟩ = some (.int .i64 d.T) ∧ w'.cell? ⟨w.heap.size, 3, none⟩ = some (.int .i64 d.R))
      (first | with_reducible exact keep4 hD hww HQ.out | with_reducible exact keep4 hD.drew hww HQ.out)
      (first
        | (go_at_call 85; (with_reducible refine (sreadFrames_any d A m c fs _ (HI.out.below (below_tr HB0.out (below_tr D1.out (by first | with_reducible exact hD | with_reducible exact hD.drew)))) hz).mono ?_); rintro e w3 ⟨A3, m3, c3, rfl, o3, b3⟩; have R3 := Lib.hid o3.rd; have hD2 := below_tr (a := w1) (by first | with_reducible exact hD | with_reducible exact hD.drew) b3; clear b3 o3; replace hD := hD2)
        | (go_at_call 84; (with_reducible refine (HV.out _ _ _ _ (by first | with_reducible exact hD | with_reducible exact hD.drew) (by first | with_reducible exact R3.out | with_reducible exact rdC_dr R3.out)).mono ?_); rintro e w5 ⟨A5, c5, rfl, o5, b5⟩; have O5 := Lib.hid (own_low (a := w1) (by first | with_reducible exact hD | with_reducible exact hD.drew) o5); have hD2 := below_tr (a := w1) (by first | with_reducible exact hD | with_reducible exact hD.drew) b5; clear b5 o5; replace hD := hD2))
    all_goals
      go_wp2_with fail
      go_ret
      exact ⟨_, _, _, rfl, by rw [HF.out]; exact O5.out.more (below_tr HB0.out D1.out).size, below_tr HB0.out (below_tr D1.out hD)⟩
end Go.Proofs.Ytclmhnghpnfnkaa
