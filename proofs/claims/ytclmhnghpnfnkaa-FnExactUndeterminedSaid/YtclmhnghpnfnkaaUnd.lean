/- Undetermined: how many nodes have no value: the program. -/
import Derived.Deep.CutBlock
import Derived.Deep.CutRange
import Derived.Deep.DeepCutAuto
import Derived.Test.YtclmhnghpnfnkaaVal2
namespace Go.Proofs.Ytclmhnghpnfnkaa
set_option maxRecDepth 100000
open Go.RowKit

def undTo (d : Dev) (vs : List Int) : Nat → Nat
  | 0 => 0
  | k + 1 => undTo d vs k + (if (nodeOk d (k : Int) && decide (nv vs (k : Int) < 0)) = true then 1 else 0)
theorem undTo_le (d : Dev) (vs : List Int) (k : Nat) : undTo d vs k ≤ k := by
  induction k with
  | zero => exact Nat.le_refl _
  | succ k ih => rw [undTo]; split <;> omega
theorem undTo_yes {d : Dev} {vs : List Int} {k : Nat} (h : nodeOk d (k : Int) = true) (h0 : nv vs (k : Int) < 0) : undTo d vs (k + 1) = undTo d vs k + 1 := by rw [undTo, h, decide_eq_true h0]; rfl
theorem undTo_no {d : Dev} {vs : List Int} {k : Nat} (h : nodeOk d (k : Int) = false ∨ ¬ nv vs (k : Int) < 0) : undTo d vs (k + 1) = undTo d vs k := by
  rw [undTo]
  rcases h with h | h
  · rw [h]; rfl
  · rw [decide_eq_false h, Bool.and_false]; rfl
theorem undTo_same {d : Dev} {vs us : List Int} (h : Same vs us) (k : Nat) : undTo d vs k = undTo d us k := by
  induction k with
  | zero => rfl
  | succ k ih => rw [undTo, undTo, ih, decide_eq_decide.2 (h.2 (k : Int))]
def undF (d : Dev) (fs : List (List Int)) : Int := if framesOk d fs = true then ((undTo d (valsF d (tilesOf d fs) (List.replicate (2 * tiles d) 0) (List.replicate (tiles d) 0)) (nodesOf d).toNat : Nat) : Int) else -1
theorem nv_zeros (n : Nat) (i : Int) : nv (List.replicate n 0) i = 0 := by
  unfold nv
  rw [List.getElem?_replicate]
  split <;> rfl
theorem stPads_zeros (d : Dev) (ts : List Tile) (a b : Nat) : StPads d ts (List.replicate a 0) (List.replicate b 0) :=
  ⟨fun _ _ _ => by rw [nv_zeros]; omega, fun _ _ _ _ _ _ => by rw [nv_zeros]; omega, fun _ _ _ => by rw [nv_zeros]; omega⟩
theorem ints_made {w : World} {g n : Nat} (h : w.heap[g]? = some (.cells (arr (List.replicate n 0)) 3 (0, 0))) (hn : n ≤ 1000) : Ints w (some ⟨g, 0, none⟩) n (List.replicate n 0) :=
  (Own.made (base := 0) h (Nat.zero_le _) (Nat.le_trans hn (by decide)) (by simp [arr]) (by simp)).ints

set_option maxHeartbeats 4000000 in
theorem undetermined_any (d : Dev) (A : Option Addr) (m c : Nat) (fs : List (List Int)) (w : World) (hA : Rows2 w A m fs) (hz : size2 fs ≤ 1099511627776) :
    Calls Try.prog 33 #[.agg #[.int .i64 d.W, .int .i64 d.H, .int .i64 d.T, .int .i64 d.R], .slice A m c] w fun e w' => e = .returned (.int .i64 (undF d fs)) ∧ Below w.heap.size w w' := by
  have HB0 := Lib.hid (below_new (Below.refl w.heap.size w) (.cells #[.int .i64 d.W, .int .i64 d.H, .int .i64 d.T, .int .i64 d.R] 26))
  have HI := Lib.hid hA
  clear hA
  go_enter Try.func33, Try.ntmps33
  go_wp2_with fail
  refine (framesOk_any d A m c fs _ (HI.out.below HB0.out) hz).mono ?_
  rintro e w1 ⟨rfl, b1⟩
  have hs1 := b1.size
  simp only [World.size_alloc] at hs1
  have D1 := Lib.hid b1
  obtain ⟨hcc, hff⟩ := bcell b1
  clear b1
  cases hf : framesOk d fs with
  | false =>
    have HF : Hid (undF d fs = -1) := by show _ = _; unfold undF; rw [hf]; rfl
    clear hf
    go_wp2_with fail
    go_ret
    exact ⟨ret_int HF.out.symm, below_tr HB0.out D1.out⟩
  | true =>
    have HFO := Lib.hid hf
    have hdv := (framesOk_iff hf).1
    have HD := Lib.hid hdv
    have hnb := nodesOf_bd hdv
    have hWH := dev_WH hdv
    have hT := devOk_bd hdv
    have HM := Lib.hid (tiles_eq hdv)
    have HCF := Lib.hid (cfg_of_frames hf)
    have HF : Hid (undF d fs = ((undTo d (valsF d (tilesOf d fs) (List.replicate (2 * tiles d) 0) (List.replicate (tiles d) 0)) (nodesOf d).toNat : Nat) : Int)) := by show _ = _; unfold undF; rw [if_pos hf]
    clear hf hdv
    go_wp2_with fail
    refine (emulatorOf_any d A m c fs _ (HI.out.below (below_tr HB0.out D1.out)) HFO.out).mono ?_
    rintro e w3 ⟨g, TA, tc, EA, DA, rfl, hem, b3⟩
    have D3 := Lib.hid (below_tr D1.out b3)
    have hs3 := b3.size
    have HX5 := Lib.hid (cell_heap (k := 5) hem.box rfl)
    have HEM := Lib.hid hem
    have hgl := heap_lt0 hem.box
    clear b3 hem hcc hff
    obtain ⟨hcc, hff⟩ := bcell D3.out
    obtain ⟨N, hN⟩ : ∃ N : Nat, nodesOf d = (N : Int) := ⟨(nodesOf d).toNat, by omega⟩
    have hNN : (nodesOf d).toNat = N := by omega
    have HN := Lib.hid hN
    rw [hNN] at HX5 HEM HF
    rw [hN] at hnb
    clear hN hNN
    have hmb := HM.out
    generalize hMM : tiles d = M at *
    have HMM := Lib.hid hMM
    have hM36 : (M : Int) ≤ 36 := by omega
    have e1 : d.W * d.H = (M : Int) := hmb.1
    have e2 : 2 * d.W * d.H = 2 * (M : Int) := by rw [Int.mul_assoc, e1]
    obtain ⟨i0, hi, hz0, hz1, hz2⟩ := info_parts int_info
    have hmk2 := fun W => run_make_rowN (P := Try.prog) 27 3 i0 _ Try.underlying27 hi hz0 .i64 .i64 (2 * M) (2 * M) (Nat.le_refl _) (by rw [hz2]; omega) (by omega) W
    have hmk1 := fun W => run_make_rowN (P := Try.prog) 27 3 i0 _ Try.underlying27 hi hz0 .i64 .i64 M M (Nat.le_refl _) (by rw [hz2]; omega) (by omega) W
    rw [hz1, Nat.mul_one, show (Value.int .i64 0).cells = #[Value.int .i64 0] from rfl, arr_made] at hmk1 hmk2
    have e2m : ((2 * M : Nat) : Int) = 2 * (M : Int) := by omega
    rw [e2m] at hmk2
    have HV := Lib.hid (fun (SA PA : Option Addr) (w' : World) (hb : Below w3.heap.size w3 w') (hs : Ints w' SA (2 * M) (List.replicate (2 * M) 0)) (hp : Ints w' PA M (List.replicate M 0)) =>
      values_any g d (tilesOf d fs) TA m tc EA DA N SA (2 * M) (2 * M) (List.replicate (2 * M) 0) PA M M (List.replicate M 0) w' (HEM.out.below hb) HN.out.symm hs hp (by have := HM.out.1; omega) (by have := HM.out.1; omega) (stPads_zeros _ _ _ _) HCF.out)
    clear hi hz0 hz1 hz2 e2m hMM hmb
    have a1 : IntKind.i64.wrap (2 * d.W) = 2 * d.W := IntWalk.i64_in _ (by omega)
    have a2 : IntKind.i64.wrap (2 * (M : Int)) = 2 * (M : Int) := IntWalk.i64_in _ (by omega)
    have a3 : IntKind.i64.wrap (M : Int) = (M : Int) := IntWalk.i64_in _ (by omega)
    have hww : w.heap.size < w3.heap.size := by omega
    obtain ⟨q0, q1, q2, q3⟩ := keep4 D3.out (by simp) (box4 w d)
    clear hcc hff
    have HQ := Lib.hid (And.intro q0 (And.intro q1 (And.intro q2 q3)))
    clear q0 q1 q2 q3
    have hD := Below.refl w3.heap.size w3
    go_upto_region 5 with fail
    go_cut [30, 31, 32] (fun s30 s31 s32 wx => ∃ A', s30 = .slice A' N N ∧ s31 = .int .i64 (N : Int) ∧ s32 = .int .i64 0 ∧ Own w3.heap.size wx A' N N (valsF d (tilesOf d fs) (List.replicate (2 * M) 0) (List.replicate M 0)) ∧ Below w3.heap.size w3 wx)
    case first =>
      go_region_held3 (fun w' => w'.cell? ⟨w.heap.size, 0, none⟩ = some (.int .i64 d.W) ∧ w'.cell? ⟨w.heap.size, 1, none⟩ = some (.int .i64 d.H) ∧ w'.cell? ⟨w.heap.size, 2, none⟩ = some (.int .i64 d.T) ∧ w'.cell? ⟨w.heap.size, 3, none⟩ = some (.int .i64 d.R))
        (first | with_reducible exact keep4 hD hww HQ.out | with_reducible exact keep4 hD.drew hww HQ.out | with_reducible exact keep4 (below_new hD _) hww HQ.out | with_reducible exact keep4 (below_new hD.drew _) hww HQ.out | with_reducible exact keep4 (below_new (below_new hD _) _) hww HQ.out | with_reducible exact keep4 (below_new (below_new hD.drew _) _) hww HQ.out | with_reducible exact keep4 (below_new (below_new hD _) _).drew hww HQ.out)
        ((go_at_call 88; (with_reducible refine (HV.out _ _ _ (by repeat (first | exact Below.refl _ _ | refine below_new ?_ _ | refine Below.drew ?_)) (by refine ints_made ?_ (by omega); repeat (first | (refine heap_newAt ?_; simp; done) | refine heap_al _ ?_ | refine heap_dr ?_)) (by refine ints_made ?_ (by omega); repeat (first | (refine heap_newAt ?_; simp; done) | refine heap_al _ ?_ | refine heap_dr ?_))).mono ?_); rintro e w4 ⟨A', rfl, ho, hb⟩; have hD2 := below_tr (a := w3) (by repeat (first | exact Below.refl _ _ | refine below_new ?_ _ | refine Below.drew ?_)) hb; replace hD := hD2))
      all_goals
        go_wp2_with fail
        go_meet
        exact ⟨_, rfl, rfl, rfl, ho.more (by simp; omega), hD⟩
    obtain ⟨A', rfl, rfl, rfl, ho, hb⟩ := hcut
    have HO := Lib.hid ho
    have HB4 := Lib.hid hb
    have hs4 := hb.size
    clear ho hb hmk1 hmk2 e1 e2
    have HUS := Lib.hid (fun k => undTo_le d (valsF d (tilesOf d fs) (List.replicate (2 * M) 0) (List.replicate M 0)) k)
    obtain ⟨be, oe, rfl, hbe, hce⟩ := HEM.out.exist.2 (by omega)
    obtain ⟨gv, cur, rfl, hgb, hgl4, -⟩ := HO.out.block (by omega)
    have HCE := Lib.hid hce
    clear hce
    generalize valsF d (tilesOf d fs) (List.replicate (2 * M) 0) (List.replicate M 0) = vs at *
    go_wp2_with fail
    go_loopw [6, 32] (fun cv iv wr => ∃ k : Nat, k ≤ N ∧ iv = .int .i64 k ∧ cv = .int .i64 ((undTo d vs k : Nat) : Int) ∧ Below wc.heap.size wc wr) (fun _ iv _ => N - (intOf iv).toNat)
    case atStart => exact ⟨0, by omega, rfl, rfl, Below.refl _ _⟩
    case round =>
      obtain ⟨k, hk, rfl, rfl, hb⟩ := hrel
      have HB := Lib.hid hb
      have hs := hb.size
      have hul := HUS.out k
      by_cases hlt : k < N
      · have hdk : decide ((k : Int) < (N : Int)) = true := by simp; omega
        obtain ⟨zu, yu⟩ := (HO.out.below hb).cellAt hlt
        have HVN : Hid (vs[k]?.getD 0 = nv vs (k : Int)) := by show _ = _; unfold nv; rw [Int.toNat_natCast]
        rw [HVN.out] at zu
        have x5 := ((below_tr HB4.out hb).cell (p := ⟨g, 5, none⟩) hgl).trans HX5.out
        have ce := ((below_tr HB4.out hb).cell (p := ⟨be, oe + k, none⟩) hbe).trans (HCE.out k hlt)
        rw [exTo_get hlt] at ce
        have i0 : (0 : Int) ≤ (k : Int) := by omega
        have i1 : (k : Int) < (N : Int) := by omega
        have HY := Lib.hid (fun h h' => undTo_yes (d := d) (vs := vs) (k := k) h h')
        have HNO := Lib.hid (fun h => undTo_no (d := d) (vs := vs) (k := k) h)
        generalize undTo d vs k = c0 at *
        generalize nv vs (k : Int) = u at *
        generalize nodeOk d (k : Int) = bo at *
        clear hb yu
        cases bo with
        | false =>
          have HE := Lib.hid (HNO.out (.inl rfl))
          go_wp2_with fail
          go_roundw
          case rel => exact ⟨k + 1, by omega, by go_num, by rw [HE.out], HB.out⟩
          case measure => simp [intOf]; omega
        | true =>
          by_cases hu : u < 0
          · have hdu : decide (u < 0) = true := by simpa using hu
            have HE := Lib.hid (HY.out rfl hu)
            go_wp2_with fail
            go_roundw
            case rel => exact ⟨k + 1, by omega, by go_num, by rw [HE.out]; go_num, HB.out⟩
            case measure => simp [intOf]; omega
          · have hdu : decide (u < 0) = false := by simp; omega
            have HE := Lib.hid (HNO.out (.inr hu))
            go_wp2_with fail
            go_roundw
            case rel => exact ⟨k + 1, by omega, by go_num, by rw [HE.out], HB.out⟩
            case measure => simp [intOf]; omega
      · have hkN : k = N := by omega
        have HKN := Lib.hid hkN
        have hdk : decide ((k : Int) < (N : Int)) = false := by simp; omega
        clear hkN
        go_wp2_with fail
        go_ret
        exact ⟨ret_int (by rw [HF.out, ← HKN.out]), below_tr HB0.out (below_tr D3.out (below_tr HB4.out HB.out))⟩
end Go.Proofs.Ytclmhnghpnfnkaa
