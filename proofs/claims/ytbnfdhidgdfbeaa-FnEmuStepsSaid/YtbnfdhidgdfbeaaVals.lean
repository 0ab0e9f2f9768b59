/- Undetermined: how many nodes have no value: the program. Undetermined: how many nodes have no value: the reference. EmuValues: the values of all nodes: which arguments are valid; the pads' check of both. -/
import Derived.Deep.CutBlock
import Derived.Deep.CutRange
import Derived.Deep.DeepCutAuto
import Derived.Test.YtbnfdhidgdfbeaaStartS
import Derived.Test.YtbnfdhidgdfbeaaValS
import Derived.Test.YtbnfdhidgdfbeaaValS2
namespace Go.Proofs.Ytbnfdhidgdfbeaa
set_option maxRecDepth 100000
open Go.RowKit

def undTo (d : Dev) (vs : List Int) : Nat → Nat
  | 0 => 0
  | k + 1 => undTo d vs k + (if (nodeOk d (k : Int) && decide (nv vs (k : Int) < 0)) = true then 1 else 0)
theorem undTo_le (d : Dev) (vs : List Int) (k : Nat) : undTo d vs k ≤ k := by
  induction k with
  | zero => exact Nat.le_refl _
  | succ k ih => rw [undTo]; split <;> omega
theorem undTo_yes {d : Dev} {vs : List Int} {k : Nat} (h : nodeOk d (k : Int) = true) (h0 : nv vs (k : Int) < 0) : undTo d vs (k + 1) = undTo d vs k + 1 := by rw [undTo, h, decide_eq_true h0]; rfl
theorem undTo_no {d : Dev} {vs : List Int} {k : Nat} (h : nodeOk d (k : Int) = false ∨ ¬ nv vs (k : Int) < 0) : undTo d vs (k + 1) = undTo d vs k := by
  rw [undTo]
  rcases h with h | h
  · rw [h]; rfl
  · rw [decide_eq_false h, Bool.and_false]; rfl
theorem undTo_same {d : Dev} {vs us : List Int} (h : Same vs us) (k : Nat) : undTo d vs k = undTo d us k := by
  induction k with
  | zero => rfl
  | succ k ih => rw [undTo, undTo, ih, decide_eq_decide.2 (h.2 (k : Int))]
def undF (d : Dev) (fs : List (List Int)) : Int := if framesOk d fs = true then ((undTo d (valsF d (tilesOf d fs) (List.replicate (2 * tiles d) 0) (List.replicate (tiles d) 0)) (nodesOf d).toNat : Nat) : Int) else -1
theorem nv_zeros (n : Nat) (i : Int) : nv (List.replicate n 0) i = 0 := by
  unfold nv
  rw [List.getElem?_replicate]
  split <;> rfl
theorem stPads_zeros (d : Dev) (ts : List Tile) (a b : Nat) : StPads d ts (List.replicate a 0) (List.replicate b 0) :=
  ⟨fun _ _ _ => by rw [nv_zeros]; omega, fun _ _ _ _ _ _ => by rw [nv_zeros]; omega, fun _ _ _ => by rw [nv_zeros]; omega⟩
theorem ints_made {w : World} {g n : Nat} (h : w.heap[g]? = some (.cells (arr (List.replicate n 0)) 3 (0, 0))) (hn : n ≤ 1000) : Ints w (some ⟨g, 0, none⟩) n (List.replicate n 0) :=
  (Own.made (base := 0) h (Nat.zero_le _) (Nat.le_trans hn (by decide)) (by simp [arr]) (by simp)).ints

set_option maxHeartbeats 4000000 in
theorem undetermined_any (d : Dev) (A : Option Addr) (m c : Nat) (fs : List (List Int)) (w : World) (hA : Rows2 w A m fs) (hz : size2 fs ≤ 1099511627776) :
    Calls Try.prog 37 #[.agg #[.int .i64 d.W, .int .i64 d.H, .int .i64 d.T, .int .i64 d.R], .slice A m c] w fun e w' => e = .returned (.int .i64 (undF d fs)) ∧ Below w.heap.size w w' := by
  have HB0 := Lib.hid (below_new (Below.refl w.heap.size w) (.cells #[.int .i64 d.W, .int .i64 d.H, .int .i64 d.T, .int .i64 d.R] 29))
  have HI := Lib.hid hA
  clear hA
  go_enter Try.func37, Try.ntmps37
  go_wp2_with fail
  refine (framesOk_any d A m c fs _ (HI.out.below HB0.out) hz).mono ?_
  rintro e w1 ⟨rfl, b1⟩
  have hs1 := b1.size
  simp only [World.size_alloc] at hs1
  have D1 := Lib.hid b1
  obtain ⟨hcc, hff⟩ := bcell b1
  clear b1
  cases hf : framesOk d fs with
  | false =>
    have HF : Hid (undF d fs = -1) := by show _ = _; unfold undF; rw [hf]; rfl
    clear hf
    go_wp2_with fail
    go_ret
    exact ⟨ret_int HF.out.symm, below_tr HB0.out D1.out⟩
  | true =>
    have HFO := Lib.hid hf
    have hdv := (framesOk_iff hf).1
    have HD := Lib.hid hdv
    have hnb := nodesOf_bd hdv
    have hWH := dev_WH hdv
    have hT := devOk_bd hdv
    have HM := Lib.hid (tiles_eq hdv)
    have HCF := Lib.hid (cfg_of_frames hf)
    have HF : Hid (undF d fs = ((undTo d (valsF d (tilesOf d fs) (List.replicate (2 * tiles d) 0) (List.replicate (tiles d) 0)) (nodesOf d).toNat : Nat) : Int)) := by show _ = _; unfold undF; rw [if_pos hf]
    clear hf hdv
    go_wp2_with fail
    refine (emulatorOf_any d A m c fs _ (HI.out.below (below_tr HB0.out D1.out)) HFO.out).mono ?_
    rintro e w3 ⟨g, TA, tc, EA, DA, rfl, hem, b3⟩
    have D3 := Lib.hid (below_tr D1.out b3)
    have hs3 := b3.size
    have HX5 := Lib.hid (cell_heap (k := 5) hem.box rfl)
    have HEM := Lib.hid hem
    have hgl := heap_lt0 hem.box
    clear b3 hem hcc hff
    obtain ⟨hcc, hff⟩ := bcell D3.out
    obtain ⟨N, hN⟩ : ∃ N : Nat, nodesOf d = (N : Int) := ⟨(nodesOf d).toNat, by omega⟩
    have hNN : (nodesOf d).toNat = N := by omega
    have HN := Lib.hid hN
    rw [hNN] at HX5 HEM HF
    rw [hN] at hnb
    clear hN hNN
    have hmb := HM.out
    generalize hMM : tiles d = M at *
    have HMM := Lib.hid hMM
    have hM36 : (M : Int) ≤ 36 := by omega
    have e1 : d.W * d.H = (M : Int) := hmb.1
    have e2 : 2 * d.W * d.H = 2 * (M : Int) := by rw [Int.mul_assoc, e1]
    obtain ⟨i0, hi, hz0, hz1, hz2⟩ := info_parts int_info
    have hmk2 := fun W => run_make_rowN (P := Try.prog) 44 3 i0 _ Try.underlying44 hi hz0 .i64 .i64 (2 * M) (2 * M) (Nat.le_refl _) (by rw [hz2]; omega) (by omega) W
    have hmk1 := fun W => run_make_rowN (P := Try.prog) 44 3 i0 _ Try.underlying44 hi hz0 .i64 .i64 M M (Nat.le_refl _) (by rw [hz2]; omega) (by omega) W
    rw [hz1, Nat.mul_one, show (Value.int .i64 0).cells = #[Value.int .i64 0] from rfl, arr_made] at hmk1 hmk2
    have e2m : ((2 * M : Nat) : Int) = 2 * (M : Int) := by omega
    rw [e2m] at hmk2
    have HV := Lib.hid (fun (SA PA : Option Addr) (w' : World) (hb : Below w3.heap.size w3 w') (hs : Ints w' SA (2 * M) (List.replicate (2 * M) 0)) (hp : Ints w' PA M (List.replicate M 0)) =>
      values_any g d (tilesOf d fs) TA m tc EA DA N SA (2 * M) (2 * M) (List.replicate (2 * M) 0) PA M M (List.replicate M 0) w' (HEM.out.below hb) HN.out.symm hs hp (by have := HM.out.1; omega) (by have := HM.out.1; omega) (stPads_zeros _ _ _ _) HCF.out)
    clear hi hz0 hz1 hz2 e2m hMM hmb
    have a1 : IntKind.i64.wrap (2 * d.W) = 2 * d.W := IntWalk.i64_in _ (by omega)
    have a2 : IntKind.i64.wrap (2 * (M : Int)) = 2 * (M : Int) := IntWalk.i64_in _ (by omega)
    have a3 : IntKind.i64.wrap (M : Int) = (M : Int) := IntWalk.i64_in _ (by omega)
    have hww : w.heap.size < w3.heap.size := by omega
    obtain ⟨q0, q1, q2, q3⟩ := keep4 D3.out (by simp) (box4 w d)
    clear hcc hff
    have HQ := Lib.hid (And.intro q0 (And.intro q1 (And.intro q2 q3)))
    clear q0 q1 q2 q3
    have hD := Below.refl w3.heap.size w3
    go_upto_region 5 with fail
    go_cut [30, 31, 32] (fun s30 s31 s32 wx => ∃ A', s30 = .slice A' N N ∧ s31 = .int .i64 (N : Int) ∧ s32 = .int .i64 0 ∧ Own w3.heap.size wx A' N N (valsF d (tilesOf d fs) (List.replicate (2 * M) 0) (List.replicate M 0)) ∧ Below w3.heap.size w3 wx)
    case first =>
      go_region_held3 (fun w' => w'.cell? ⟨w.heap.size, 0, none⟩ = some (.int .i64 d.W) ∧ w'.cell? ⟨w.heap.size, 1, none⟩ = some (.int .i64 d.H) ∧ w'.cell? ⟨w.heap.size, 2, none⟩ = some (.int .i64 d.T) ∧ w'.cell? ⟨w.heap.size, 3, none⟩ = some (.int .i64 d.R))
        (first | with_reducible exact keep4 hD hww HQ.out | with_reducible exact keep4 hD.drew hww HQ.out | with_reducible exact keep4 (below_new hD _) hww HQ.out | with_reducible exact keep4 (below_new hD.drew _) hww HQ.out | with_reducible exact keep4 (below_new (below_new hD _) _) hww HQ.out | with_reducible exact keep4 (below_new (below_new hD.drew _) _) hww HQ.out | with_reducible exact keep4 (below_new (below_new hD _) _).drew hww HQ.out)
        ((go_at_call 68; (with_reducible refine (HV.out _ _ _ (by repeat (first | exact Below.refl _ _ | refine below_new ?_ _ | refine Below.drew ?_)) (by refine ints_made ?_ (by omega); repeat (first | (refine heap_newAt ?_; simp; done) | refine heap_al _ ?_ | refine heap_dr ?_)) (by refine ints_made ?_ (by omega); repeat (first | (refine heap_newAt ?_; simp; done) | refine heap_al _ ?_ | refine heap_dr ?_))).mono ?_); rintro e w4 ⟨A', rfl, ho, hb⟩; have hD2 := below_tr (a := w3) (by repeat (first | exact Below.refl _ _ | refine below_new ?_ _ | refine Below.drew ?_)) hb; replace hD := hD2))
      all_goals
        go_wp2_with fail
        go_meet
        exact ⟨_, rfl, rfl, rfl, ho.more (by simp; omega), hD⟩
    obtain ⟨A', rfl, rfl, rfl, ho, hb⟩ := hcut
    have HO := Lib.hid ho
    have HB4 := Lib.hid hb
    have hs4 := hb.size
    clear ho hb hmk1 hmk2 e1 e2
    have HUS := Lib.hid (fun k => undTo_le d (valsF d (tilesOf d fs) (List.replicate (2 * M) 0) (List.replicate M 0)) k)
    obtain ⟨be, oe, rfl, hbe, hce⟩ := HEM.out.exist.2 (by omega)
    obtain ⟨gv, cur, rfl, hgb, hgl4, -⟩ := HO.out.block (by omega)
    have HCE := Lib.hid hce
    clear hce
    generalize valsF d (tilesOf d fs) (List.replicate (2 * M) 0) (List.replicate M 0) = vs at *
    go_wp2_with fail
    go_loopw [6, 32] (fun cv iv wr => ∃ k : Nat, k ≤ N ∧ iv = .int .i64 k ∧ cv = .int .i64 ((undTo d vs k : Nat) : Int) ∧ Below wc.heap.size wc wr) (fun _ iv _ => N - (intOf iv).toNat)
    case atStart => exact ⟨0, by omega, rfl, rfl, Below.refl _ _⟩
    case round =>
      obtain ⟨k, hk, rfl, rfl, hb⟩ := hrel
      have HB := Lib.hid hb
      have hs := hb.size
      have hul := HUS.out k
      by_cases hlt : k < N
      · have hdk : decide ((k : Int) < (N : Int)) = true := by simp; omega
        obtain ⟨zu, yu⟩ := (HO.out.below hb).cellAt hlt
        have HVN : Hid (vs[k]?.getD 0 = nv vs (k : Int)) := by show _ = _; unfold nv; rw [Int.toNat_natCast]
        rw [HVN.out] at zu
        have x5 := ((below_tr HB4.out hb).cell (p := ⟨g, 5, none⟩) hgl).trans HX5.out
        have ce := ((below_tr HB4.out hb).cell (p := ⟨be, oe + k, none⟩) hbe).trans (HCE.out k hlt)
        rw [exTo_get hlt] at ce
        have i0 : (0 : Int) ≤ (k : Int) := by omega
        have i1 : (k : Int) < (N : Int) := by omega
        have HY := Lib.hid (fun h h' => undTo_yes (d := d) (vs := vs) (k := k) h h')
        have HNO := Lib.hid (fun h => undTo_no (d := d) (vs := vs) (k := k) h)
        generalize undTo d vs k = c0 at *
        generalize nv vs (k : Int) = u at *
        generalize nodeOk d (k : Int) = bo at *
        clear hb yu
        cases bo with
        | false =>
          have HE := Lib.hid (HNO.out (.inl rfl))
          go_wp2_with fail
          go_roundw
          case rel => exact ⟨k + 1, by omega, by go_num, by rw [HE.out], HB.out⟩
          case measure => simp [intOf]; omega
        | true =>
          by_cases hu : u < 0
          · have hdu : decide (u < 0) = true := by simpa using hu
            have HE := Lib.hid (HY.out rfl hu)
            go_wp2_with fail
            go_roundw
            case rel => exact ⟨k + 1, by omega, by go_num, by rw [HE.out]; go_num, HB.out⟩
            case measure => simp [intOf]; omega
          · have hdu : decide (u < 0) = false := by simp; omega
            have HE := Lib.hid (HNO.out (.inr hu))
            go_wp2_with fail
            go_roundw
            case rel => exact ⟨k + 1, by omega, by go_num, by rw [HE.out], HB.out⟩
            case measure => simp [intOf]; omega
      · have hkN : k = N := by omega
        have HKN := Lib.hid hkN
        have hdk : decide ((k : Int) < (N : Int)) = false := by simp; omega
        clear hkN
        go_wp2_with fail
        go_ret
        exact ⟨ret_int (by rw [HF.out, ← HKN.out]), below_tr HB0.out (below_tr D3.out (below_tr HB4.out HB.out))⟩
end Go.Proofs.Ytbnfdhidgdfbeaa

namespace Go.Proofs.Ytbnfdhidgdfbeaa
set_option maxRecDepth 100000
open Go.RowKit

theorem startTo_get {d : Dev} {ts : List Tile} {m k : Nat} (h : k < m) {e : Nat} (he : e < 2) : (startTo d ts m)[2 * k + e]?.getD 0 = (startOf d k (ts[k]?.getD Tile.zero))[e]?.getD 0 := by
  induction m with
  | zero => omega
  | succ m ih =>
    rw [startTo]
    rcases Nat.lt_or_ge k m with hk | hk
    · rw [List.getElem?_append_left (by rw [startTo_length]; omega)]
      exact ih hk
    · have : k = m := by omega
      subst this
      rw [List.getElem?_append_right (by rw [startTo_length]; omega), startTo_length, show 2 * k + e - 2 * k = e by omega]
theorem stPads_start {d : Dev} {fs : List (List Int)} (hf : framesOk d fs = true) (b : Nat) : StPads d (tilesOf d fs) (startF d fs) (List.replicate b 0) := by
  have hc := cfg_of_frames hf
  have hr : readF d fs = tilesOf d fs := by rw [readF, if_pos hf]
  have key : ∀ t : Int, tileIn d t = true → ∃ k : Nat, t = (k : Int) ∧ k < (tilesOf d fs).length := fun t ht => by
    have h := (le_fit (e := 0) hc ht (by omega)).2.2.1
    have h0 := (tileIn_iff.1 ht).2.1
    exact ⟨t.toNat, by omega, h⟩
  refine ⟨fun _ _ _ => by rw [nv_zeros]; omega, fun t e ht hk h0 h1 => ?_, fun t ht hk => ?_⟩
  · obtain ⟨k, rfl, hlt⟩ := key t ht
    have l0 := (le_fit (e := 0) hc ht (by omega)).1.init
    have l1 := (le_fit (e := 1) hc ht (by omega)).1.init
    obtain ⟨n, rfl⟩ := Int.eq_ofNat_of_zero_le h0
    unfold nv startF
    rw [hr, show (2 * (k : Int) + (n : Int)).toNat = 2 * k + n by omega, startTo_get hlt (by omega)]
    unfold startOf
    rw [if_pos hk]
    have hn : n = 0 ∨ n = 1 := by omega
    rcases hn with rfl | rfl
    · exact l0
    · exact l1
  · obtain ⟨k, rfl, hlt⟩ := key (t := t) ht
    have lr := (le_fit (e := 0) hc ht (by omega)).2.2.2.ram
    unfold nv startF
    rw [hr, show (2 * (k : Int)).toNat = 2 * k + 0 by omega, startTo_get hlt (by omega)]
    unfold startOf
    rw [if_neg (by omega), if_pos hk]
    exact lr
theorem own_low {a b w : World} {A : Option Addr} {n c : Nat} {xs : List Int} (h : Below a.heap.size a b) (o : Own b.heap.size w A n c xs) : Own a.heap.size w A n c xs := o.more h.size

end Go.Proofs.Ytbnfdhidgdfbeaa

namespace Go.Proofs.Ytbnfdhidgdfbeaa
set_option maxRecDepth 100000
open Go.RowKit

def padsOk (d : Dev) (ps : List Int) : Bool := wordsOk ps (d.W * d.H) 1
def allOk (d : Dev) (fs : List (List Int)) (st ps : List Int) : Bool := framesOk d fs && (stOk d st && padsOk d ps)
def evF (d : Dev) (fs : List (List Int)) (st ps : List Int) : List Int := if allOk d fs st ps = true then valsF d (tilesOf d fs) st ps else []
theorem allIn_any {ws : List Int} {most : Int} (h : allIn ws most = true) (hm : 0 ≤ most) (k : Nat) : 0 ≤ ws[k]?.getD 0 ∧ ws[k]?.getD 0 ≤ most := by
  rcases Nat.lt_or_ge k ws.length with hk | hk
  · exact allIn_get h hk
  · rw [List.getElem?_eq_none hk]; exact ⟨Int.le_refl _, hm⟩
theorem padsOk_len {d : Dev} {ps : List Int} (h : padsOk d ps = true) : (ps.length : Int) = d.W * d.H ∧ allIn ps 1 = true := by
  unfold padsOk wordsOk at h
  rw [Bool.and_eq_true, decide_eq_true_eq] at h
  exact h
theorem stOk_len {d : Dev} {st : List Int} (h : stOk d st = true) : st.length = 2 * tiles d := by
  simp only [stOk, Bool.and_eq_true, decide_eq_true_eq] at h
  exact h.2.1
theorem mostOf_pos (d : Dev) (i : Nat) : 0 ≤ mostOf d i := by unfold mostOf; split <;> (try split) <;> omega
theorem stOk_any {d : Dev} {st : List Int} (h : stOk d st = true) (i : Nat) : 0 ≤ st[i]?.getD 0 ∧ st[i]?.getD 0 ≤ mostOf d i := by
  rcases Nat.lt_or_ge i st.length with hk | hk
  · simp only [stOk, Bool.and_eq_true, List.all_eq_true, List.mem_range] at h
    exact inR_iff.1 (h.2.2 i hk)
  · rw [List.getElem?_eq_none hk]; exact ⟨Int.le_refl _, mostOf_pos d i⟩
theorem stPads_ok {d : Dev} {ts : List Tile} {st ps : List Int} (hs : stOk d st = true) (hp : padsOk d ps = true) : StPads d ts st ps := by
  refine ⟨fun t _ _ => allIn_any (padsOk_len hp).2 (by omega) _, fun t e ht hk h0 h1 => ?_, fun t ht hk => ?_⟩
  · have ht0 := (tileIn_iff.1 ht).2.1
    have h := stOk_any hs (2 * t + e).toNat
    unfold nv
    have hx : (((2 * t + e).toNat / 2 : Nat) : Int) = t := by omega
    rw [mostOf, hx, if_pos hk] at h
    exact h
  · have ht0 := (tileIn_iff.1 ht).2.1
    have h := stOk_any hs (2 * t).toNat
    unfold nv
    have hx : (((2 * t).toNat / 2 : Nat) : Int) = t := by omega
    rw [mostOf, hx, if_neg (by omega), if_pos ⟨hk, by omega⟩] at h
    exact h
theorem evF_good {d : Dev} {fs : List (List Int)} {st ps : List Int} (h : allOk d fs st ps = true) : evF d fs st ps = valsF d (tilesOf d fs) st ps := if_pos h
theorem evF_bad {d : Dev} {fs : List (List Int)} {st ps : List Int} (h : allOk d fs st ps = false) : evF d fs st ps = [] := if_neg (by rw [h]; decide)
theorem evF_le (d : Dev) (fs : List (List Int)) (st ps : List Int) : (evF d fs st ps).length ≤ 1000000 := by
  cases h : allOk d fs st ps with
  | false => rw [evF_bad h]; decide
  | true =>
    rw [evF_good h, valsF_length]
    simp only [allOk, Bool.and_eq_true] at h
    have := nodesOf_bd (framesOk_iff h.1).1
    omega

theorem rdC_dr {w : World} {c : Cel} {v : Value} (h : RdC w w.heap.size c v) : RdC w.drew w.drew.heap.size c v := RdC.keep (w := w) (w' := w.drew) (B := w.heap.size) (B' := w.heap.size) (Nat.le_refl _) (fun _ _ => rfl) h

set_option maxHeartbeats 1000000 in
theorem padsOk_any (d : Dev) (A : Option Addr) (n c : Nat) (ps : List Int) (w : World) (h : Ints w A n ps) (hn : n ≤ 1099511627776) (hd : devOk d = true) :
    Calls Try.prog 66 #[.agg #[.int .i64 d.W, .int .i64 d.H, .int .i64 d.T, .int .i64 d.R], .slice A n c] w fun e w' => e = .returned (.bool (padsOk d ps)) ∧ Below w.heap.size w w' := by
  have hB0 : Below w.heap.size w (w.alloc (.cells #[.int .i64 d.W, .int .i64 d.H, .int .i64 d.T, .int .i64 d.R] 29)) := below_new (Below.refl _ _) _
  have HI := Lib.hid h
  have HE : Hid (padsOk d ps = wordsOk ps (d.W * d.H) 1) := rfl
  have e1 := (tiles_eq hd).1
  have hWH := (tiles_eq hd).2
  rw [e1] at HE
  generalize tiles d = M at *
  have a3 : IntKind.i64.wrap (M : Int) = (M : Int) := IntWalk.i64_in _ (by omega)
  clear h hd
  go_enter Try.func66, Try.ntmps66
  go_wp2_with fail
  refine (wordsOk_any A n c ps _ _ _ (HI.out.below hB0) hn).mono ?_
  rintro e w1 ⟨rfl, b1⟩
  go_wp2_with fail
  go_ret
  exact ⟨ret_bool HE.out.symm, below_tr hB0 b1⟩
end Go.Proofs.Ytbnfdhidgdfbeaa
