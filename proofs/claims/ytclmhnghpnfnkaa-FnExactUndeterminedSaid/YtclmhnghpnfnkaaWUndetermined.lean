/- Undetermined: how many nodes have no value: the reference. The walk of the law FnExactUndetermined (printed by gen.py). -/
import Derived.Test.YtclmhnghpnfnkaaRow2
import Derived.Test.YtclmhnghpnfnkaaStartS
import Derived.Test.YtclmhnghpnfnkaaUnd
import Derived.Test.YtclmhnghpnfnkaaValS2
namespace Go.Proofs.Ytclmhnghpnfnkaa
set_option maxRecDepth 100000
open Go.RowKit

theorem startTo_get {d : Dev} {ts : List Tile} {m k : Nat} (h : k < m) {e : Nat} (he : e < 2) : (startTo d ts m)[2 * k + e]?.getD 0 = (startOf d k (ts[k]?.getD Tile.zero))[e]?.getD 0 := by
  induction m with
  | zero => omega
  | succ m ih =>
    rw [startTo]
    rcases Nat.lt_or_ge k m with hk | hk
    · rw [List.getElem?_append_left (by rw [startTo_length]; omega)]
      exact ih hk
    · have : k = m := by omega
      subst this
      rw [List.getElem?_append_right (by rw [startTo_length]; omega), startTo_length, show 2 * k + e - 2 * k = e by omega]
theorem stPads_start {d : Dev} {fs : List (List Int)} (hf : framesOk d fs = true) (b : Nat) : StPads d (tilesOf d fs) (startF d fs) (List.replicate b 0) := by
  have hc := cfg_of_frames hf
  have hr : readF d fs = tilesOf d fs := by rw [readF, if_pos hf]
  have key : ∀ t : Int, tileIn d t = true → ∃ k : Nat, t = (k : Int) ∧ k < (tilesOf d fs).length := fun t ht => by
    have h := (le_fit (e := 0) hc ht (by omega)).2.2.1
    have h0 := (tileIn_iff.1 ht).2.1
    exact ⟨t.toNat, by omega, h⟩
  refine ⟨fun _ _ _ => by rw [nv_zeros]; omega, fun t e ht hk h0 h1 => ?_, fun t ht hk => ?_⟩
  · obtain ⟨k, rfl, hlt⟩ := key t ht
    have l0 := (le_fit (e := 0) hc ht (by omega)).1.init
    have l1 := (le_fit (e := 1) hc ht (by omega)).1.init
    obtain ⟨n, rfl⟩ := Int.eq_ofNat_of_zero_le h0
    unfold nv startF
    rw [hr, show (2 * (k : Int) + (n : Int)).toNat = 2 * k + n by omega, startTo_get hlt (by omega)]
    unfold startOf
    rw [if_pos hk]
    have hn : n = 0 ∨ n = 1 := by omega
    rcases hn with rfl | rfl
    · exact l0
    · exact l1
  · obtain ⟨k, rfl, hlt⟩ := key (t := t) ht
    have lr := (le_fit (e := 0) hc ht (by omega)).2.2.2.ram
    unfold nv startF
    rw [hr, show (2 * (k : Int)).toNat = 2 * k + 0 by omega, startTo_get hlt (by omega)]
    unfold startOf
    rw [if_neg (by omega), if_pos hk]
    exact lr
theorem own_low {a b w : World} {A : Option Addr} {n c : Nat} {xs : List Int} (h : Below a.heap.size a b) (o : Own b.heap.size w A n c xs) : Own a.heap.size w A n c xs := o.more h.size

set_option maxHeartbeats 4000000 in
theorem sundetermined_any (d : Dev) (A : Option Addr) (m c : Nat) (fs : List (List Int)) (w : World) (hA : Rows2 w A m fs) (hz : size2 fs ≤ 1099511627776) :
    Calls Try.prog 32 #[.agg #[.int .i64 d.W, .int .i64 d.H, .int .i64 d.T, .int .i64 d.R], .slice A m c] w fun e w' => e = .returned (.int .i64 (undF d fs)) ∧ Below w.heap.size w w' := by
  have HB0 := Lib.hid (below_new (Below.refl w.heap.size w) (.cells #[.int .i64 d.W, .int .i64 d.H, .int .i64 d.T, .int .i64 d.R] 26))
  have HI := Lib.hid hA
  clear hA
  go_enter Try.func32, Try.ntmps32
  go_wp2_with fail
  refine (sframesOk_any d A m c fs _ (HI.out.below HB0.out) hz).mono ?_
  rintro e w1 ⟨rfl, b1⟩
  have hs1 := b1.size
  simp only [World.size_alloc] at hs1
  have D1 := Lib.hid b1
  obtain ⟨hcc, hff⟩ := bcell b1
  clear b1
  cases hf : framesOk d fs with
  | false =>
    have HF : Hid (undF d fs = -1) := by show _ = _; unfold undF; rw [hf]; rfl
    clear hf
    go_wp2_with fail
    go_ret
    exact ⟨ret_int HF.out.symm, below_tr HB0.out D1.out⟩
  | true =>
    have HFO := Lib.hid hf
    have hdv := (framesOk_iff hf).1
    have HD := Lib.hid hdv
    have hnb := nodesOf_bd hdv
    have hWH := dev_WH hdv
    have hT := devOk_bd hdv
    have HM := Lib.hid (tiles_eq hdv)
    obtain ⟨N, hN⟩ : ∃ N : Nat, nodesOf d = (N : Int) := ⟨(nodesOf d).toNat, by omega⟩
    have hNN : (nodesOf d).toNat = N := by omega
    have HRF : Hid (readF d fs = tilesOf d fs) := by show _ = _; rw [readF, if_pos hf]
    have hl2 : (startF d fs).length = 2 * tiles d := by unfold startF; rw [startTo_length, HRF.out, tilesOf_length, (frames_n hf).1]
    have HV : Hid (∀ (TA : Option Addr) (m3 c3 : Nat) (SA : Option Addr) (n4 c4 : Nat) (PA : Option Addr) (w' : World), RdC w' w'.heap.size (celT (readF d fs)) (.slice TA m3 c3) → Ints w' SA n4 (startF d fs) → Ints w' PA (tiles d) (List.replicate (tiles d) 0) →
        Calls Try.prog 84 #[.agg #[.int .i64 d.W, .int .i64 d.H, .int .i64 d.T, .int .i64 d.R], .slice TA m3 c3, .slice SA n4 c4, .slice PA (tiles d) (tiles d)] w' fun e' w'' => ∃ A' c', e' = .returned (.slice A' N c') ∧ Own w'.heap.size w'' A' N c' (valsF d (tilesOf d fs) (startF d fs) (List.replicate (tiles d) 0)) ∧ Below w'.heap.size w' w'') := by
      intro TA m3 c3 SA n4 c4 PA w' hr hs hp
      have h := sl41Values_any d (tilesOf d fs) TA m3 c3 SA n4 c4 (startF d fs) PA (tiles d) (tiles d) (List.replicate (tiles d) 0) w' (by rw [← HRF.out]; exact hr) hs hp (by have := hs.1; have := HM.out.1; omega) HM.out.1.symm (stPads_start hf _) (cfg_of_frames hf)
      rwa [hNN] at h
    have HF : Hid (undF d fs = ((undTo d (valsF d (tilesOf d fs) (startF d fs) (List.replicate (tiles d) 0)) N : Nat) : Int)) := by
      show _ = _
      unfold undF
      rw [if_pos hf, hNN, undTo_same (same_vals (stPads_zeros d (tilesOf d fs) (2 * tiles d) (tiles d)) (stPads_start hf (tiles d)))]
    have HN := Lib.hid hN
    rw [hN] at hnb
    clear hN hNN hl2 hf hdv
    have hmb := HM.out
    have e1 : d.W * d.H = (tiles d : Int) := hmb.1
    generalize tiles d = M at *
    have hM36 : (M : Int) ≤ 36 := by omega
    obtain ⟨i0, hi, hz0, hz1, hz2⟩ := info_parts int_info
    have hmk1 := fun W => run_make_rowN (P := Try.prog) 27 3 i0 _ Try.underlying27 hi hz0 .i64 .i64 M M (Nat.le_refl _) (by rw [hz2]; omega) (by omega) W
    rw [hz1, Nat.mul_one, show (Value.int .i64 0).cells = #[Value.int .i64 0] from rfl, arr_made] at hmk1
    clear hi hz0 hz1 hz2 hmb
    have a3 : IntKind.i64.wrap (M : Int) = (M : Int) := IntWalk.i64_in _ (by omega)
    have hww : w.heap.size < w1.heap.size := by omega
    have HQ := Lib.hid (keep4 D1.out (by simp) (box4 w d))
    clear hcc hff
    have hD := Below.refl w1.heap.size w1
    go_upto_region 3 with fail
    go_cut [5] (fun s5 wx => ∃ A' c', s5 = .slice A' N c' ∧ Own w1.heap.size wx A' N c' (valsF d (tilesOf d fs) (startF d fs) (List.replicate M 0)) ∧ Below w1.heap.size w1 wx)
    case first =>
      go_region_held3 (fun w' => w'.cell? ⟨w.heap.size, 0, none⟩ = some (.int .i64 d.W) ∧ w'.cell? ⟨w.heap.size, 1, none⟩ = some (.int .i64 d.H) ∧ w'.cell? ⟨w.heap.size, 2, none⟩ = some (.int .i64 d.T) ∧ w'.cell? ⟨w.heap.size, 3, none⟩ = some (.int .i64 d.R))
        (first | with_reducible exact keep4 hD hww HQ.out | with_reducible exact keep4 hD.drew hww HQ.out | with_reducible exact keep4 (below_new hD _) hww HQ.out | with_reducible exact keep4 (below_new hD.drew _) hww HQ.out | with_reducible exact keep4 (below_new hD _).drew hww HQ.out)
        (first
          | (go_at_call 85; (with_reducible refine (sreadFrames_any d A m c fs _ (HI.out.below (below_tr HB0.out (below_tr D1.out (by repeat (first | with_reducible exact hD | with_reducible refine below_new ?_ _ | with_reducible refine Below.drew ?_))))) hz).mono ?_); rintro e w3 ⟨A3, m3, c3, rfl, o3, b3⟩; have R3 := Lib.hid o3.rd; have hb3 := Lib.hid b3; have hD2 := below_tr (a := w1) (by repeat (first | with_reducible exact hD | with_reducible refine below_new ?_ _ | with_reducible refine Below.drew ?_)) b3; clear b3 o3; replace hD := hD2)
          | (go_at_call 69; (with_reducible refine (semuStart_any d A m c fs _ (HI.out.below (below_tr HB0.out (below_tr D1.out (by repeat (first | with_reducible exact hD | with_reducible refine below_new ?_ _ | with_reducible refine Below.drew ?_))))) hz).mono ?_); rintro e w4 ⟨A4, n4, c4, rfl, o4, b4⟩; have O4 := Lib.hid o4.ints; have hb4 := Lib.hid b4; have hD2 := below_tr (a := w1) (by repeat (first | with_reducible exact hD | with_reducible refine below_new ?_ _ | with_reducible refine Below.drew ?_)) b4; clear b4 o4; replace hD := hD2)
          | (go_at_call 84; (with_reducible refine (HV.out _ _ _ _ _ _ _ _ (R3.out.below (by repeat (first | with_reducible exact Below.refl _ _ | with_reducible refine below_new ?_ _ | with_reducible refine Below.drew ?_ | with_reducible refine below_tr ?_ hb4.out | with_reducible refine below_tr ?_ hb3.out))) (O4.out.below (by repeat (first | with_reducible exact Below.refl _ _ | with_reducible refine below_new ?_ _ | with_reducible refine Below.drew ?_ | with_reducible refine below_tr ?_ hb4.out | with_reducible refine below_tr ?_ hb3.out))) (by refine ints_made ?_ (by omega); repeat (first | (refine heap_newAt ?_; simp; done) | with_reducible refine heap_al _ ?_ | with_reducible refine heap_dr ?_ | with_reducible refine heap_tr hb4.out ?_ | with_reducible refine heap_tr hb3.out ?_))).mono ?_); rintro e w5 ⟨A5, c5, rfl, o5, b5⟩; have O6 := Lib.hid (own_low (a := w1) (by repeat (first | with_reducible exact hD | with_reducible refine below_new ?_ _ | with_reducible refine Below.drew ?_)) o5); have hD2 := below_tr (a := w1) (by repeat (first | with_reducible exact hD | with_reducible refine below_new ?_ _ | with_reducible refine Below.drew ?_)) b5; clear b5 o5; replace hD := hD2))
      all_goals
        go_wp2_with fail
        go_meet
        exact ⟨_, _, rfl, O6.out, hD⟩
    obtain ⟨A', c', rfl, ho, hb⟩ := hcut
    have HO := Lib.hid ho
    have HB4 := Lib.hid hb
    have hs4 := hb.size
    clear ho hb hmk1 e1 hD
    have HUS := Lib.hid (fun k => undTo_le d (valsF d (tilesOf d fs) (startF d fs) (List.replicate M 0)) k)
    obtain ⟨gv, cur, rfl, hgb, hgl4, -⟩ := HO.out.block (by omega)
    generalize valsF d (tilesOf d fs) (startF d fs) (List.replicate M 0) = vs at *
    go_wp2_with fail
    go_loopw [6, 7] (fun cv iv wr => ∃ k : Nat, k ≤ N ∧ iv = .int .i64 k ∧ cv = .int .i64 ((undTo d vs k : Nat) : Int) ∧ Below wc.heap.size wc wr) (fun _ iv _ => N - (intOf iv).toNat)
    case atStart => exact ⟨0, by omega, rfl, rfl, Below.refl _ _⟩
    case round =>
      obtain ⟨k, hk, rfl, rfl, hb⟩ := hrel
      have HB := Lib.hid hb
      have hs := hb.size
      have hul := HUS.out k
      by_cases hlt : k < N
      · have hdk : decide ((k : Int) < (N : Int)) = true := by simp; omega
        have HVN : Hid (vs[k]?.getD 0 = nv vs (k : Int)) := by show _ = _; unfold nv; rw [Int.toNat_natCast]
        have i0 : (0 : Int) ≤ (k : Int) := by omega
        have i1 : (k : Int) < (N : Int) := by omega
        have HY := Lib.hid (fun h h' => undTo_yes (d := d) (vs := vs) (k := k) h h')
        have HNO := Lib.hid (fun h => undTo_no (d := d) (vs := vs) (k := k) h)
        have HR := Lib.hid (fun w' => srouteNodeOk_any d (k : Int) w')
        generalize undTo d vs k = c0 at *
        generalize nodeOk d (k : Int) = bo at *
        clear hb
        obtain ⟨hcc, hff⟩ := bcell (below_tr D1.out (below_tr HB4.out HB.out))
        go_wp2_with fail
        refine (HR.out _).mono ?_
        rintro e w5 ⟨rfl, b5⟩
        have HB5 := Lib.hid (below_tr HB.out b5)
        have hs5 := b5.size
        clear b5 hcc hff
        obtain ⟨zu, yu⟩ := (HO.out.below HB5.out).cellAt hlt
        rw [HVN.out] at zu
        generalize nv vs (k : Int) = u at *
        clear yu
        cases bo with
        | false =>
          have HE := Lib.hid (HNO.out (.inl rfl))
          have HL7 := Lib.hid l07Bit_f
          go_wp2_with (go_at_call 86; refine (HL7.out _).mono ?_; rintro e' w' ⟨rfl, rfl⟩)
          go_roundw
          case rel => exact ⟨k + 1, by omega, by go_num, by rw [HE.out], HB5.out⟩
          case measure => simp [intOf]; omega
        | true =>
          by_cases hu : u < 0
          · have hdu : decide (u < 0) = true := by simpa using hu
            have HE := Lib.hid (HY.out rfl hu)
            have HL7 := Lib.hid l07Bit_t
            go_wp2_with (go_at_call 86; refine (HL7.out _).mono ?_; rintro e' w' ⟨rfl, rfl⟩)
            go_roundw
            case rel => exact ⟨k + 1, by omega, by go_num, by rw [HE.out]; go_num, HB5.out⟩
            case measure => simp [intOf]; omega
          · have hdu : decide (u < 0) = false := by simp; omega
            have HE := Lib.hid (HNO.out (.inr (by omega)))
            have HL7 := Lib.hid l07Bit_f
            go_wp2_with (go_at_call 86; refine (HL7.out _).mono ?_; rintro e' w' ⟨rfl, rfl⟩)
            go_roundw
            case rel => exact ⟨k + 1, by omega, by go_num, by rw [HE.out], HB5.out⟩
            case measure => simp [intOf]; omega
      · have hkN : k = N := by omega
        have HKN := Lib.hid hkN
        have hdk : decide ((k : Int) < (N : Int)) = false := by simp; omega
        clear hkN
        go_wp2_with fail
        go_ret
        exact ⟨ret_int (by rw [HF.out, ← HKN.out]), below_tr HB0.out (below_tr D1.out (below_tr HB4.out HB.out))⟩
end Go.Proofs.Ytclmhnghpnfnkaa

namespace Go.Proofs.Ytclmhnghpnfnkaa
set_option maxRecDepth 100000
open Go.RowKit
set_option maxHeartbeats 400000 in
theorem law_undetermined (a0 : Dev) (A1 : Option Addr) (n1 c1 : Nat) (x1 : List (List Int)) (w : World) (_hw0 : a0.wf) (h1 : Rows2 w A1 n1 x1) (m1 : n1 ≤ maxLen) (_hw1 : ∀ ys ∈ x1, ys.length ≤ maxLen ∧ ∀ y ∈ ys, Wf y) :
    Calls Try.prog 5 #[.agg #[.int .i64 a0.W, .int .i64 a0.H, .int .i64 a0.T, .int .i64 a0.R], .slice A1 n1 c1] w fun e w' => e = .returned (.bool true) ∧ Below w.heap.size w w' := by
  unfold maxLen at *
  go_enter Try.func5, Try.ntmps5
  have hB : Below w.heap.size w (w.alloc (.cells #[.int .i64 a0.W, .int .i64 a0.H, .int .i64 a0.T, .int .i64 a0.R] 23)) := (below_new (Below.refl _ _) _)
  have hD : Below (w.alloc (.cells #[.int .i64 a0.W, .int .i64 a0.H, .int .i64 a0.T, .int .i64 a0.R] 23)).heap.size (w.alloc (.cells #[.int .i64 a0.W, .int .i64 a0.H, .int .i64 a0.T, .int .i64 a0.R] 23)) (w.alloc (.cells #[.int .i64 a0.W, .int .i64 a0.H, .int .i64 a0.T, .int .i64 a0.R] 23)) := Below.refl _ _
  have hs0 : w.heap.size ≤ (w.alloc (.cells #[.int .i64 a0.W, .int .i64 a0.H, .int .i64 a0.T, .int .i64 a0.R] 23)).heap.size := hB.size
  go_wp2_with fail
  obtain ⟨hcc, hff⟩ := bcell hD
  have hr1 := rows_len _hw1
  clear _hw1
  refine (szIntSS_any A1 n1 c1 x1 (1048576) _ (h1.below hB) (by omega) (by omega) (by omega) hr1).mono ?_
  rintro e w' ⟨rfl, rfl⟩
  by_cases g1 : (size2 x1 : Int) ≤ 1048576
  rotate_left
  · rw [leftOf_neg g1]
    go_wp2_with fail
    go_ret
    exact ⟨rfl, hB⟩
  rw [leftOf_pos g1]
  have bd1 : size2 x1 ≤ 16777216 := by omega
  have be1 : size2 x1 ≤ 1099511627776 := by omega
  have bn1 := (size2_bd h1.1 be1).1
  go_wp2_with fail
  clear hcc hff
  refine (toDevice_any a0 _ ).mono ?_
  rintro e w1 ⟨rfl, b1⟩
  have s1 : (w.alloc (.cells #[.int .i64 a0.W, .int .i64 a0.H, .int .i64 a0.T, .int .i64 a0.R] 23)).heap.size ≤ w1.heap.size := b1.size
  replace hB := below_tr hB b1
  replace hD := below_tr hD b1
  obtain ⟨hcc, hff⟩ := bcell hD
  go_wp2_with fail
  clear hcc hff
  refine (toIntSS_any A1 n1 c1 x1 _ (h1.below hB) bd1).mono ?_
  rintro e w2 ⟨Bs1, rfl, os1, b2⟩
  have s2 : w1.heap.size ≤ w2.heap.size := b2.size
  replace hB := below_tr hB b2
  replace hD := below_tr hD b2
  replace os1 : Own2 w1.heap.size w2.heap.size w2 Bs1 _ _ _ := os1
  obtain ⟨hcc, hff⟩ := bcell hD
  go_wp2_with fail
  clear hcc hff
  refine (sundetermined_any a0 Bs1 n1 n1 x1 _ (os1.rd) be1).mono ?_
  rintro e w3 ⟨rfl, b3⟩
  have s3 : w2.heap.size ≤ w3.heap.size := b3.size
  replace os1 := os1.below b3
  replace hB := below_tr hB b3
  replace hD := below_tr hD b3
  obtain ⟨hcc, hff⟩ := bcell hD
  go_wp2_with fail
  clear hcc hff
  refine (toIntSS_any A1 n1 c1 x1 _ (h1.below hB) bd1).mono ?_
  rintro e w4 ⟨Bx1, rfl, ox1, b4⟩
  have s4 : w3.heap.size ≤ w4.heap.size := b4.size
  replace os1 := os1.below b4
  replace hB := below_tr hB b4
  replace hD := below_tr hD b4
  replace ox1 : Own2 w3.heap.size w4.heap.size w4 Bx1 _ _ _ := ox1
  obtain ⟨hcc, hff⟩ := bcell hD
  go_wp2_with fail
  clear hcc hff
  refine (toDevice_any a0 _ ).mono ?_
  rintro e w5 ⟨rfl, b5⟩
  have s5 : w4.heap.size ≤ w5.heap.size := b5.size
  replace os1 := os1.below b5
  replace ox1 := ox1.below b5
  replace hB := below_tr hB b5
  replace hD := below_tr hD b5
  obtain ⟨hcc, hff⟩ := bcell hD
  go_wp2_with fail
  clear hcc hff
  refine (undetermined_any a0 Bx1 n1 n1 x1 _ (ox1.rd) be1).mono ?_
  rintro e w6 ⟨rfl, b6⟩
  have s6 : w5.heap.size ≤ w6.heap.size := b6.size
  replace os1 := os1.below b6
  replace ox1 := ox1.below b6
  replace hB := below_tr hB b6
  replace hD := below_tr hD b6
  obtain ⟨hcc, hff⟩ := bcell hD
  go_wp2_with fail
  clear hcc hff
  refine (toIntSS_any A1 n1 c1 x1 _ (h1.below hB) bd1).mono ?_
  rintro e w7 ⟨By11, rfl, oy11, b7⟩
  have s7 : w6.heap.size ≤ w7.heap.size := b7.size
  replace os1 := os1.below b7
  replace ox1 := ox1.below b7
  replace hB := below_tr hB b7
  replace hD := below_tr hD b7
  replace oy11 : Own2 w6.heap.size w7.heap.size w7 By11 _ _ _ := oy11
  obtain ⟨hcc, hff⟩ := bcell hD
  go_wp2_with fail
  clear hcc hff
  refine (eqIntSS_same Bx1 By11 n1 n1 n1 n1 x1 _ ox1.rd oy11.rd be1).mono ?_
  rintro e w8 ⟨rfl, b8⟩
  have s8 : w7.heap.size ≤ w8.heap.size := b8.size
  replace os1 := os1.below b8
  replace ox1 := ox1.below b8
  replace oy11 := oy11.below b8
  replace hB := below_tr hB b8
  replace hD := below_tr hD b8
  obtain ⟨hcc, hff⟩ := bcell hD
  go_wp2_with fail
  go_ret
  exact ⟨rfl, hB⟩
end Go.Proofs.Ytclmhnghpnfnkaa
