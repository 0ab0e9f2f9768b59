/- The tiles of a region: the program's and the reference's are one list. RegionQuiet: whether nothing outside of a region is driven from it: the program's answer. -/
import Derived.Test.YtclmhnghpnfnkaaEm
import Derived.Test.YtclmhnghpnfnkaaPads
namespace Go.Proofs.Ytclmhnghpnfnkaa
set_option maxRecDepth 100000
open Go.RowKit

def inReg (d : Dev) (r : Reg) (t : Int) : Bool := inR (t % d.W) r.X0 r.X1 && inR (t / d.W) r.Y0 r.Y1

set_option maxHeartbeats 1000000 in
theorem inRegion_any (d : Dev) (r : Reg) (t : Int) (w : World) (hW : 3 ≤ d.W) (hW' : d.W ≤ 6) (ht : 0 ≤ t) (ht' : t ≤ 1099511627776) :
    Calls Try.prog 161 #[.agg #[.int .i64 d.W, .int .i64 d.H, .int .i64 d.T, .int .i64 d.R], .agg #[.int .i64 r.X0, .int .i64 r.Y0, .int .i64 r.X1, .int .i64 r.Y1], .int .i64 t] w fun e w' => e = .returned (.bool (inReg d r t)) ∧ Below w.heap.size w w' := by
  unfold inReg
  have e0 : ¬ d.W = 0 := by omega
  have e1 : t.tmod d.W = t % d.W := Int.tmod_eq_emod_of_nonneg ht
  have e2 : IntKind.i64.wrap (t.tdiv d.W) = t / d.W := IntWalk.i64_quo _ _ ⟨ht, by omega, by omega⟩
  cases h1 : inR (t % d.W) r.X0 r.X1 with
  | true =>
    go_enter Try.func161, Try.ntmps161
    go_wp2_with fail
    go_quiet ((go_at_call 106; exact Calls.quiet_of_same (inRange_q _ _ _ _)))
    go_wp2_with fail
    go_ret
    exact ⟨by simp, below_drewN (below_new (below_new (Below.refl _ _) _) _) _⟩
  | false =>
    have hc1 : ∀ w, Calls Try.prog 106 #[.int .i64 (t % d.W), .int .i64 r.X0, .int .i64 r.X1] w fun e w' => e = .returned (.bool false) ∧ w' = w := fun w => by
      have := inRange_q (t % d.W) r.X0 r.X1 w
      rwa [h1] at this
    have HC1 := Lib.hid hc1
    clear hc1 h1
    go_enter Try.func161, Try.ntmps161
    go_wp2_with fail
    go_quiet ((go_at_call 106; exact Calls.quiet_of_same (HC1.out _)))
    go_wp2_with fail
    go_ret
    exact ⟨by simp, below_drewN (below_new (below_new (Below.refl _ _) _) _) _⟩
set_option maxHeartbeats 1000000 in
theorem sinRegion_any (d : Dev) (r : Reg) (t : Int) (w : World) (hW : 3 ≤ d.W) (hW' : d.W ≤ 6) (ht : 0 ≤ t) (ht' : t ≤ 1099511627776) :
    Calls Try.prog 160 #[.agg #[.int .i64 d.W, .int .i64 d.H, .int .i64 d.T, .int .i64 d.R], .agg #[.int .i64 r.X0, .int .i64 r.Y0, .int .i64 r.X1, .int .i64 r.Y1], .int .i64 t] w fun e w' => e = .returned (.bool (inReg d r t)) ∧ Below w.heap.size w w' := by
  unfold inReg
  have e0 : ¬ d.W = 0 := by omega
  have e1 : t.tmod d.W = t % d.W := Int.tmod_eq_emod_of_nonneg ht
  have e2 : IntKind.i64.wrap (t.tdiv d.W) = t / d.W := IntWalk.i64_quo _ _ ⟨ht, by omega, by omega⟩
  cases h1 : inR (t % d.W) r.X0 r.X1 with
  | true =>
    go_enter Try.func160, Try.ntmps160
    go_wp2_with fail
    go_quiet ((go_at_call 114; exact Calls.quiet_of_same (l01In_q _ _ _ _)))
    go_wp2_with fail
    go_ret
    exact ⟨by simp, below_drewN (below_new (below_new (Below.refl _ _) _) _) _⟩
  | false =>
    have hc1 : ∀ w, Calls Try.prog 114 #[.int .i64 (t % d.W), .int .i64 r.X0, .int .i64 r.X1] w fun e w' => e = .returned (.bool false) ∧ w' = w := fun w => by
      have := l01In_q (t % d.W) r.X0 r.X1 w
      rwa [h1] at this
    have HC1 := Lib.hid hc1
    clear hc1 h1
    go_enter Try.func160, Try.ntmps160
    go_wp2_with fail
    go_quiet ((go_at_call 114; exact Calls.quiet_of_same (HC1.out _)))
    go_wp2_with fail
    go_ret
    exact ⟨by simp, below_drewN (below_new (below_new (Below.refl _ _) _) _) _⟩

def regTo (d : Dev) (r : Reg) : Nat → List Int
  | 0 => []
  | k + 1 => regTo d r k ++ if inReg d r (k : Int) then [(k : Int)] else []
def regTiles (d : Dev) (r : Reg) : List Int := if regOk d r then regTo d r (tiles d) else []
theorem regTo_le (d : Dev) (r : Reg) (k : Nat) : (regTo d r k).length ≤ k := by
  induction k with
  | zero => simp [regTo]
  | succ k ih => unfold regTo; split <;> simp <;> omega
theorem regOk_dev {d : Dev} {r : Reg} (h : regOk d r = true) : devOk d = true := by
  simp only [regOk, Bool.and_eq_true] at h; exact h.1
theorem regTiles_le (d : Dev) (r : Reg) : (regTiles d r).length ≤ 36 := by
  unfold regTiles
  split
  · rename_i h
    have := (tiles_eq (regOk_dev h)).2.2
    have := regTo_le d r (tiles d)
    omega
  · simp

end Go.Proofs.Ytclmhnghpnfnkaa

namespace Go.Proofs.Ytclmhnghpnfnkaa
set_option maxRecDepth 100000
open Go.RowKit

/-- Every source is a node, and none is its own. -/
theorem src_node {d : Dev} {n y : Int} (h : y ∈ srcs d n) : nodeIn d y = true ∧ y ≠ n := by
  unfold srcs at h
  split at h
  · rename_i hn
    have hno := hn.1
    unfold nodeOk at hno
    rw [Bool.and_eq_true] at hno
    have ht := node_tile hno.1
    obtain ⟨hd, n0, n1, hq0, hq1, hr0, hr1⟩ := node_tk hno.1
    have hT := devOk_bd hd
    have hp := perT_bd hd
    rw [mem_asc] at h
    unfold itemsOf at h
    have hin : ∀ {q k : Int}, y = q * perT d + k → 0 ≤ q → q < d.W * d.H → 0 ≤ k → k < perT d → nodeIn d y = true := by
      intro q k e q0 q1 k0 k1
      refine nodeIn_rnP.2 ⟨hd, ?_, ?_⟩
      · have := Int.mul_nonneg q0 (show 0 ≤ perT d by omega); omega
      · have h1 : (q + 1) * perT d ≤ d.W * d.H * perT d := Int.mul_le_mul_of_nonneg_right (by omega) (by omega)
        rw [Int.add_mul, Int.one_mul] at h1
        unfold nodesOf
        omega
    rcases List.mem_append.1 h with h | h
    · split at h
      · rename_i h7
        obtain ⟨p, hp2, rfl⟩ := mem_outsOf.1 h
        have hm := outPin_mod ht hp2.1 hp2.2
        have hop := outPins_bd d (n / perT d)
        refine ⟨hin (q := n / perT d) (k := 5 + p) (by rw [outPin_eq ht hp2.1 hp2.2]; omega) hq0 hq1 (by omega) (by omega), fun e => ?_⟩
        rw [e] at hm
        omega
      · simp at h
    · obtain ⟨r, k, s, hr, hk, hs, hu, e, h0⟩ := (mem_candA' hd).1 h
      have hc := cand_ge hd (t := n / perT d) (r := r) (k := k) (s := s) (by omega)
      have hm := cand_mod hd (t := n / perT d) (r := r) (k := k) (s := s) (by omega)
      have hti := tileIn_iff.1 hc.1
      have hk3 : 7 + r * d.T + k < perT d := by
        have := mul_bd hr.1 hr.2 (show 0 ≤ d.T by omega) (Int.le_refl d.T)
        unfold perT
        omega
      refine ⟨hin (q := stepOf d (n / perT d) ((r + 2) % 4) s) (k := 7 + r * d.T + k) (by rw [e, hc.2.2.2.2]) hti.2.1 hti.2.2 (by omega) hk3, fun e2 => ?_⟩
      rw [← e, e2] at hm
      have hst := step_tile hd hti.2.1
      rw [← hm.1] at hst
      obtain ⟨_, _, ex, ey⟩ := hst
      unfold stX at ex
      unfold stY at ey
      have : (r + 2) % 4 = 0 ∨ (r + 2) % 4 = 1 ∨ (r + 2) % 4 = 2 ∨ (r + 2) % 4 = 3 := by omega
      rcases this with h4 | h4 | h4 | h4 <;> rw [h4] at ex ey <;> simp at ex ey <;> omega
  · simp at h
theorem drv_node {d : Dev} {ts : List Tile} {n : Int} (hc : CfgOk d ts) (h : 0 ≤ drvOf d ts n) : nodeIn d (drvOf d ts n) = true ∧ drvOf d ts n ≠ n := by
  unfold drvOf at h ⊢
  split at h
  · rename_i hl
    rw [if_pos hl]
    unfold drvSel at h ⊢
    split at h
    · omega
    · rename_i hs
      rw [if_neg hs]
      refine src_node (n := n) ?_
      rcases Nat.lt_or_ge (selOf d ts n - 1).toNat (srcs d n).length with hlt | hge
      · rw [List.getElem?_eq_getElem hlt]
        exact List.getElem_mem hlt
      · exfalso
        have hni : nodeIn d n = true := by have := hl.1; unfold nodeOk at this; rw [Bool.and_eq_true] at this; exact this.1
        have := sel_bd hc hni hl.2
        omega
  · omega
theorem drv_ge {d : Dev} {ts : List Tile} {n : Int} : -1 ≤ drvOf d ts n := by
  rcases Int.lt_or_le (drvOf d ts n) 0 with h | h
  · unfold drvOf at h ⊢
    split
    · rename_i hl
      rw [if_pos hl] at h
      unfold drvSel at h ⊢
      split
      · omega
      · rename_i hs
        rw [if_neg hs] at h
        rcases Nat.lt_or_ge (selOf d ts n - 1).toNat (srcs d n).length with hlt | hge
        · have hmem := List.getElem_mem hlt
          rw [List.getElem?_eq_getElem hlt, Option.getD_some] at h ⊢
          have h2 := (node_tk (src_node hmem).1).2.1
          omega
        · rw [List.getElem?_eq_none hge]; simp
    · omega
  · omega

def rqOk (d : Dev) (ts : List Tile) (r : Reg) (k : Int) : Bool := decide (drvOf d ts k < 0) || (inReg d r (k / perT d) || !inReg d r (drvOf d ts k / perT d))
def rqF (d : Dev) (fs : List (List Int)) (r : Reg) : Bool := framesOk d fs && (regOk d r && (List.range (nodesOf d).toNat).all fun (k : Nat) => rqOk d (tilesOf d fs) r (k : Int))
theorem rq_bad {d : Dev} {fs : List (List Int)} {r : Reg} {k : Nat} (hk : k < (nodesOf d).toNat) (h : rqOk d (tilesOf d fs) r (k : Int) = false) : rqF d fs r = false := by
  cases hs : rqF d fs r with
  | false => rfl
  | true =>
    simp only [rqF, Bool.and_eq_true, List.all_eq_true, List.mem_range] at hs
    rw [hs.2.2 k hk] at h
    cases h
theorem rq_good {d : Dev} {fs : List (List Int)} {r : Reg} (hf : framesOk d fs = true) (hr : regOk d r = true) (h : ∀ k, k < (nodesOf d).toNat → rqOk d (tilesOf d fs) r ((k : Nat) : Int) = true) : rqF d fs r = true := by
  simp only [rqF, Bool.and_eq_true, List.all_eq_true, List.mem_range]
  exact ⟨hf, hr, h⟩
theorem inRegion_is {d : Dev} {r : Reg} {t : Int} {b : Bool} (h : inReg d r t = b) (hd : devOk d = true) (h0 : 0 ≤ t) (h1 : t ≤ 1099511627776) (w : World) :
    Calls Try.prog 161 #[.agg #[.int .i64 d.W, .int .i64 d.H, .int .i64 d.T, .int .i64 d.R], .agg #[.int .i64 r.X0, .int .i64 r.Y0, .int .i64 r.X1, .int .i64 r.Y1], .int .i64 t] w fun e w' => e = .returned (.bool b) ∧ Below w.heap.size w w' := by
  obtain ⟨a, b', _⟩ := devOk_bd hd
  have := inRegion_any d r t w a b' h0 h1
  rwa [h] at this
theorem drvTo_get {d : Dev} {ts : List Tile} {k N : Nat} (h : k < N) : (drvTo d ts N)[k]?.getD 0 = drvOf d ts (k : Int) := by
  unfold drvTo
  rw [List.getElem?_map, List.getElem?_range h]
  rfl

set_option maxHeartbeats 4000000 in
theorem regionQuiet_any (d : Dev) (A : Option Addr) (m c : Nat) (fs : List (List Int)) (r : Reg) (w : World) (hA : Rows2 w A m fs) (hz : size2 fs ≤ 1099511627776) :
    Calls Try.prog 111 #[.agg #[.int .i64 d.W, .int .i64 d.H, .int .i64 d.T, .int .i64 d.R], .slice A m c, .agg #[.int .i64 r.X0, .int .i64 r.Y0, .int .i64 r.X1, .int .i64 r.Y1]] w fun e w' => e = .returned (.bool (rqF d fs r)) ∧ Below w.heap.size w w' := by
  have HB0 := Lib.hid (below_new (below_new (Below.refl w.heap.size w) (.cells #[.int .i64 d.W, .int .i64 d.H, .int .i64 d.T, .int .i64 d.R] 26)) (.cells #[.int .i64 r.X0, .int .i64 r.Y0, .int .i64 r.X1, .int .i64 r.Y1] 29))
  have HI := Lib.hid hA
  clear hA
  go_enter Try.func111, Try.ntmps111
  go_wp2_with fail
  refine (framesOk_any d A m c fs _ (HI.out.below HB0.out) hz).mono ?_
  rintro e w1 ⟨rfl, b1⟩
  have hs1 := b1.size
  simp only [World.size_alloc] at hs1
  have D1 := Lib.hid b1
  obtain ⟨hcc, hff⟩ := bcell b1
  clear b1
  cases hf : framesOk d fs with
  | false =>
    have HF : Hid (rqF d fs r = false) := by show _ = _; unfold rqF; rw [hf]; rfl
    clear hf
    go_wp2_with fail
    go_ret
    exact ⟨ret_bool HF.out.symm, below_tr HB0.out D1.out⟩
  | true =>
    have HFO := Lib.hid hf
    have hdv := (framesOk_iff hf).1
    have HD := Lib.hid hdv
    have hnb := nodesOf_bd hdv
    have hWH := dev_WH hdv
    have hm36 := (frames_n hf).2
    clear hf
    go_wp2_with fail
    refine (regionOk_any d r _).mono ?_
    rintro e w2 ⟨rfl, b2⟩
    have D2 := Lib.hid (below_tr D1.out b2)
    have hs2 := b2.size
    clear b2 hcc hff
    obtain ⟨hcc, hff⟩ := bcell D2.out
    cases hr : regOk d r with
    | false =>
      have HF : Hid (rqF d fs r = false) := by show _ = _; unfold rqF; rw [hr]; simp
      clear hr hdv hcc hff
      go_wp2_with fail
      go_ret
      exact ⟨ret_bool HF.out.symm, below_tr HB0.out D2.out⟩
    | true =>
      have HR := Lib.hid hr
      clear hr hdv
      go_wp2_with fail
      refine (emulatorOf_any d A m c fs _ (HI.out.below (below_tr HB0.out D2.out)) HFO.out).mono ?_
      rintro e w3 ⟨g, TA, tc, EA, DA, rfl, hem, b3⟩
      have D3 := Lib.hid (below_tr D2.out b3)
      have hs3 := b3.size
      have x6 := cell_heap (k := 6) hem.box rfl
      have HDR := Lib.hid hem.drv
      have hgl := heap_lt0 hem.box
      clear b3 hem hcc hff
      obtain ⟨N, hN⟩ : ∃ N : Nat, nodesOf d = (N : Int) := ⟨(nodesOf d).toNat, by omega⟩
      have hNN : (nodesOf d).toNat = N := by omega
      have HN := Lib.hid hN
      have HBAD := Lib.hid (fun k hk h => rq_bad (d := d) (fs := fs) (r := r) (k := k) hk h)
      have HGOOD := Lib.hid (fun h => rq_good (d := d) (fs := fs) (r := r) HFO.out HR.out h)
      rw [hNN] at x6 HDR HBAD HGOOD
      rw [hN] at hnb
      clear hN hNN
      go_wp2_with fail
      go_loopw [30] (fun i wr => ∃ k : Nat, k ≤ N ∧ i = .int .i64 k ∧ Below w3.heap.size w3 wr ∧ ∀ j, j < k → rqOk d (tilesOf d fs) r ((j : Nat) : Int) = true) (fun i _ => N - (intOf i).toNat)
      case atStart => exact ⟨0, by omega, rfl, Below.refl _ _, by intro j hj; omega⟩
      case round =>
        obtain ⟨k, hk, rfl, hb, hall⟩ := hrel
        have HALL := Lib.hid hall
        have HB := Lib.hid hb
        have hs := hb.size
        clear hall
        by_cases hlt : k < N
        · have hdk : decide ((k : Int) < (N : Int)) = true := by simp; omega
          have hni : nodeIn d (k : Int) = true := nodeIn_rnP.2 ⟨HD.out, by omega, by rw [HN.out]; omega⟩
          have HNI := Lib.hid hni
          obtain ⟨_, n0, n1, hq0, hq1, hr0, hr1⟩ := node_tk hni
          obtain ⟨b, o, rfl, hbl, hc⟩ := HDR.out.2 (by omega)
          have hck := hc k hlt
          rw [drvTo_get hlt, ← hb.cell (p := ⟨b, o + k, none⟩) hbl] at hck
          have hbr : b < wr.heap.size := by omega
          have HROK : Hid (rqOk d (tilesOf d fs) r (k : Int) = (decide (drvOf d (tilesOf d fs) (k : Int) < 0) || (inReg d r ((k : Int) / perT d) || !inReg d r (drvOf d (tilesOf d fs) (k : Int) / perT d)))) := rfl
          have HDN := Lib.hid (fun h => (drv_node (n := (k : Int)) (cfg_of_frames HFO.out) h).1)
          have HBD := Lib.hid (HBAD.out k hlt)
          have HALS := Lib.hid (fun h => all_succ HALL.out h)
          have i0 : (0 : Int) ≤ (k : Int) := by omega
          have i1 : (k : Int) < (N : Int) := by omega
          generalize drvOf d (tilesOf d fs) (k : Int) = s at *
          clear hni hc hb
          obtain ⟨hcc, hff⟩ := bcell (below_tr D3.out HB.out)
          by_cases hs0 : s < 0
          · have hds : decide (s < 0) = true := by simpa using hs0
            have HE : Hid (rqOk d (tilesOf d fs) r (k : Int) = true) := by show _ = _; rw [HROK.out, hds]; rfl
            clear hcc hff
            go_wp2_with fail
            go_roundw
            case rel => exact ⟨k + 1, by omega, by go_num, HB.out, HALS.out HE.out⟩
            case measure => simp [intOf]; omega
          · have hds : decide (s < 0) = false := by simp; omega
            have hsi := HDN.out (by omega)
            have HSI := Lib.hid hsi
            obtain ⟨_, s0, s1, hqs0, hqs1, _⟩ := node_tk hsi
            rw [hds] at HROK
            clear hsi
            have hww : w.heap.size + 1 < wr.heap.size := by omega
            go_wp2_with fail
            refine (nodePlace_any d (k : Int) _ HNI.out).mono ?_
            rintro e w4 ⟨rfl, b4⟩
            have HB4 := Lib.hid (below_tr HB.out b4)
            have hs4 := b4.size
            clear b4 hcc hff hck
            obtain ⟨hcc, hff⟩ := bcell (below_tr D3.out HB4.out)
            go_wp2_with fail
            refine (nodePlace_any d s _ HSI.out).mono ?_
            rintro e w5 ⟨rfl, b5⟩
            have HB5 := Lib.hid (below_tr HB4.out b5)
            have hs5 := b5.size
            clear b5 hcc hff
            obtain ⟨hcc, hff⟩ := bcell (below_tr D3.out HB5.out)
            generalize (k : Int) / perT d = q at *
            generalize (k : Int) % perT d = qm at *
            generalize s / perT d = qs at *
            generalize s % perT d = qsm at *
            cases h1 : inReg d r q with
            | true =>
              have HC := Lib.hid (fun w => inRegion_is h1 HD.out hq0 (by omega) w)
              have HE : Hid (rqOk d (tilesOf d fs) r (k : Int) = true) := by show _ = _; rw [HROK.out, h1]; rfl
              clear h1
              go_wp2_with fail
              refine (HC.out _).mono ?_
              rintro e w6 ⟨rfl, b6⟩
              have HB6 := Lib.hid (below_tr HB5.out b6)
              clear b6 hcc hff
              go_wp2_with fail
              go_roundw
              case rel => exact ⟨k + 1, by omega, by go_num, HB6.out, HALS.out HE.out⟩
              case measure => simp [intOf]; omega
            | false =>
              have HC := Lib.hid (fun w => inRegion_is h1 HD.out hq0 (by omega) w)
              rw [h1] at HROK
              clear h1
              go_wp2_with fail
              refine (HC.out _).mono ?_
              rintro e w6 ⟨rfl, b6⟩
              have HB6 := Lib.hid (below_tr HB5.out b6)
              have hs6 := b6.size
              clear b6 hcc hff
              obtain ⟨hcc, hff⟩ := bcell (below_tr D3.out HB6.out)
              cases h2 : inReg d r qs with
              | true =>
                have HC2 := Lib.hid (fun w => inRegion_is h2 HD.out hqs0 (by omega) w)
                have HE := Lib.hid (HBD.out (by rw [HROK.out, h2]; rfl))
                clear h2
                go_wp2_with fail
                refine (HC2.out _).mono ?_
                rintro e w7 ⟨rfl, b7⟩
                have HB7 := Lib.hid (below_tr HB6.out b7)
                clear b7 hcc hff
                go_wp2_with fail
                go_ret
                exact ⟨ret_bool HE.out.symm, below_tr HB0.out (below_tr D3.out HB7.out)⟩
              | false =>
                have HC2 := Lib.hid (fun w => inRegion_is h2 HD.out hqs0 (by omega) w)
                have HE : Hid (rqOk d (tilesOf d fs) r (k : Int) = true) := by show _ = _; rw [HROK.out, h2]; rfl
                clear h2
                go_wp2_with fail
                refine (HC2.out _).mono ?_
                rintro e w7 ⟨rfl, b7⟩
                have HB7 := Lib.hid (below_tr HB6.out b7)
                clear b7 hcc hff
                go_wp2_with fail
                go_roundw
                case rel => exact ⟨k + 1, by omega, by go_num, HB7.out, HALS.out HE.out⟩
                case measure => simp [intOf]; omega
        · have hkN : k = N := by omega
          have HKN := Lib.hid hkN
          have hdk : decide ((k : Int) < (N : Int)) = false := by simp; omega
          clear hkN
          go_wp2_with fail
          go_ret
          exact ⟨ret_bool (HGOOD.out (by rw [← HKN.out]; exact HALL.out)).symm, below_tr HB0.out (below_tr D3.out HB.out)⟩
end Go.Proofs.Ytclmhnghpnfnkaa
