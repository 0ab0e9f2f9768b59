/- EmuRun of the program. -/
import Derived.Test.YtbnfdhidgdfbeaaRunPure
import Derived.Test.YtbnfdhidgdfbeaaStp
namespace Go.Proofs.Ytbnfdhidgdfbeaa
set_option maxRecDepth 100000
open Go.RowKit

/-- Appending a row to rows of the call's own: rows of integers that the call owns stay. -/
theorem wpList_push2k {ops : Array Oper} {rest : List Oper} {o : Oper} {a : Act} {Q : Exit → Act → World → Prop} {w W : World} (hgd : o.guard = none) (s x : Operand)
    (ho : o.op = .call { callee := .builtin .append, args := #[s, x], argTypes := #[26, 26] })
    (lo hi : Nat) (A : Option Addr) (n c : Nat) (xss : List (List Int)) (base : Nat) (A1 : Option Addr) (m1 c1 : Nat) (xs : List Int) (hs : a.eval s = .slice A n c) (hown : Own2 lo hi w A n c xss) (hrow : Own base w A1 m1 c1 xs) (hx : a.eval x = .slice (some ⟨w.heap.size, 0, none⟩) 1 1)
    (hn : n ≤ 1099511627776) (hhb : hi ≤ base) (hlb : lo ≤ base) (hhw : hi ≤ w.heap.size) (hlw : lo ≤ w.heap.size) (hB : Below lo W w)
    (h : ∀ g cap w', Own2 lo w'.heap.size w' (some ⟨g, 0, none⟩) (n + 1) cap (xss ++ [xs]) → Below lo W w' → (∀ base' A2 n2 c2 ys, Own base' w A2 n2 c2 ys → Own base' w' A2 n2 c2 ys) → (w.alloc (.cells #[.slice A1 m1 c1] 44)).grownBy w' (A.map (·.block)) → (A.map (·.block) = some g ∨ g = w.heap.size + 1) →
      wpList Try.prog ops Q rest (a.put o.dst (.slice (some ⟨g, 0, none⟩) (n + 1) cap)) w') : wpList Try.prog ops Q (o :: rest) a (w.alloc (.cells #[.slice A1 m1 c1] 44)) := by
  obtain ⟨i0, hi0, hz0, hz1, hz2⟩ := info_parts slc_info
  obtain ⟨vs, h1, h2, h3⟩ := hown
  have hl := ownsRow_lt h1
  refine wpList_append_lies (w.alloc (.cells #[.slice A1 m1 c1] 44)) hgd s x 26 ho lo 44 i0 (.slice none 0 0) 1 24 Try.underlying26 hi0 hz0 hz1 hz2 rfl (by omega) (.slice A n c) n (vs.map SV.val) hs
    (ownsRow_block h1 fun a ha => Below.heap_alloc _ _ _ (hl a ha).2) ⟨w.heap.size, 0, none⟩ 1 1 [.slice A1 m1 c1] hx rfl
    (fun j u hu => ?_) (fun u hu => ?_) (by omega) (by unfold maxLen; omega) (by omega) (by simp; omega) (w.heap.size + 1) (by simp) ?_
  · rcases j with _ | j
    · simp at hu
      subst hu
      rw [add_lit0']
      unfold World.cell?
      rw [heap_new]
      rfl
    · simp at hu
  · simp at hu; subst hu; rfl
  · intro g cap w' k1 k2 k3 k4
    rw [ownBlock_slice] at k2 k3
    have hkeep : ∀ k e cs f, k < w.heap.size → w.heap[k]? = some (.cells cs e f) → e = 3 → w'.heap[k]? = w.heap[k]? := by
      intro k e cs f hk hh he
      refine (k2.block k (by simp; omega) ?_).trans (Below.heap_alloc _ _ _ hk)
      cases hA : A with
      | none => simp
      | some a' =>
        simp only [Option.map_some, ne_eq, Option.some.injEq]
        rintro rfl
        rcases h1.2 with ⟨hv, _⟩ | ⟨g', cap', cur', hv, _, hh', _⟩
        · injection hv with hv _ _
          rw [hA] at hv
          cases hv
        · injection hv with hv _ _
          rw [hA] at hv
          injection hv with hv
          subst hv
          rw [hh] at hh'
          injection hh' with hh'
          injection hh' with _ hty
          rw [he] at hty
          exact absurd hty (by decide)
    have hin : Inner lo hi w' vs xss := h3.keep fun k e cs f hk _ _ hh he => hkeep k e cs f hk hh he
    have hall : ∀ base' A2 n2 c2 ys, Own base' w A2 n2 c2 ys → Own base' w' A2 n2 c2 ys := fun base' A2 n2 c2 ys hrw => ownsRow_block hrw fun a ha => by
      have hla := hrw.lt a ha
      rcases hrw.2 with ⟨hv, _⟩ | ⟨g', cap', cur', hv, _, hh', _⟩
      · injection hv with hv _ _
        rw [hv] at ha
        cases ha
      · injection hv with hv _ _
        rw [hv] at ha
        injection ha with ha
        subst ha
        exact hkeep g' _ _ _ hla.2 hh' rfl
    have hro := hall _ _ _ _ _ hrow
    have hsz : w.heap.size ≤ w'.heap.size := by have := k2.size; simp at this; omega
    have hsn := hin.snoc hro hhb hlb
    rw [Nat.max_eq_right (by omega)] at hsn
    refine h g cap w' ⟨vs ++ [(A1, m1, c1)], by simpa [SV.val] using k1, by rintro a ⟨⟩; exact k4, hsn⟩ ?_ ?_ k2 k3
    · exact own_grown_lo (base := lo) (hB.alloc hlw _) k2 (fun a ha => (hl a ha).1) (Nat.le_refl _) (by simp; omega)
    · exact hall
set_option maxHeartbeats 4000000 in
theorem emuRunI_any (d : Dev) (A : Option Addr) (m c : Nat) (fs : List (List Int)) (PA : Option Addr) (pn pc : Nat) (pads : List (List Int)) (w : World) (hA : Rows2 w A m fs) (hP : Rows2 w PA pn pads) (hf : framesOk d fs = true) (hpn : pn ≤ 16) (hpo : ∀ j, j < pn → padsOk d (pads[j]?.getD []) = true) :
    Calls Try.prog 81 #[.agg #[.int .i64 d.W, .int .i64 d.H, .int .i64 d.T, .int .i64 d.R], .slice A m c, .slice PA pn pc] w fun e w' => ∃ A' c', e = .returned (.slice A' pn c') ∧ Own2 w.heap.size w'.heap.size w' A' pn c' (runO d fs pads pn) ∧ Below w.heap.size w w' := by
  have HB0 := Lib.hid (below_new (Below.refl w.heap.size w) (.cells #[.int .i64 d.W, .int .i64 d.H, .int .i64 d.T, .int .i64 d.R] 29))
  have HI := Lib.hid hA
  have HP := Lib.hid hP
  have HF := Lib.hid hf
  have HPO := Lib.hid hpo
  clear hA hP hf hpo
  go_enter Try.func81, Try.ntmps81
  go_wp2_with fail
  refine (emulatorOf_any d A m c fs _ (HI.out.below HB0.out) HF.out).mono ?_
  rintro e w1 ⟨g, TA, tc, EA, DA, rfl, hem, b1⟩
  have D1 := Lib.hid b1
  have B1 := Lib.hid (below_tr HB0.out b1)
  have hs1 := b1.size
  simp only [World.size_alloc] at hs1
  have HEM := Lib.hid hem
  have hgl := heap_lt0 hem.box
  have hmt : m = tiles d := by rw [← (frames_n HF.out).1]; exact HI.out.1.symm
  have HMT := Lib.hid hmt
  have x4 : w1.cell? ⟨g, 4, none⟩ = some (.slice TA m tc) := cell_heap (k := 4) hem.box rfl
  obtain ⟨q0, q1, q2, q3⟩ := keep4 D1.out (by simp) (box4 w d)
  have hww : w.heap.size < w1.heap.size := by omega
  clear b1 hem hmt
  have HQ := Lib.hid (And.intro q0 (And.intro q1 (And.intro q2 (And.intro q3 x4))))
  have hD := Below.refl w1.heap.size w1
  clear q0 q1 q2 q3 x4
  go_wp2_with fail
  go_region_held3 (fun w' => w'.cell? ⟨w.heap.size, 0, none⟩ = some (.int .i64 d.W) ∧ w'.cell? ⟨w.heap.size, 1, none⟩ = some (.int .i64 d.H) ∧ w'.cell? ⟨w.heap.size, 2, none⟩ = some (.int .i64 d.T) ∧ w'.cell? ⟨w.heap.size, 3, none⟩ = some (.int .i64 d.R) ∧ w'.cell? ⟨g, 4, none⟩ = some (.slice TA m tc))
    (first | with_reducible exact keep5 hD hww hgl HQ.out | with_reducible exact keep5 hD.drew hww hgl HQ.out)
    ((go_at_call 80; (with_reducible refine (emuStart_any d TA m tc (tilesOf d fs) _ (HEM.out.tiles.below (by first | with_reducible exact hD | with_reducible exact hD.drew)) (framesOk_iff HF.out).1 (by have := HMT.out; have := tiles_eq (framesOk_iff HF.out).1; omega) (les2_tilesOf d fs)).mono ?_); rintro e w3 ⟨SA, rfl, o3, b3⟩; have O3 := Lib.hid (own_low (a := w1) (by first | with_reducible exact hD | with_reducible exact hD.drew) o3); have hD2 := below_tr (a := w1) (by first | with_reducible exact hD | with_reducible exact hD.drew) b3; clear b3 o3; replace hD := hD2))
  have D3 := Lib.hid hD
  have hs3 := hD.size
  have HS0 : Hid (Own w1.heap.size w3 SA (2 * m) (2 * m) (stK d fs pads 0)) := by
    show Own _ _ _ _ _ _
    have e : stK d fs pads 0 = startTo d (tilesOf d fs) m := by show startF d fs = _; rw [startF_good HF.out, HI.out.1]
    rw [e]; exact O3.out
  clear hD
  go_wp2_with fail
  go_loopw [8, 9, 25] (fun sv v i wr => ∃ (k : Nat) (SA : Option Addr) (sc : Nat) (A' : Option Addr) (c' : Nat), k ≤ pn ∧ i = .int .i64 k ∧ sv = .slice SA (2 * m) sc ∧ v = .slice A' k c' ∧ Own w.heap.size wr SA (2 * m) sc (stK d fs pads k) ∧ Own2 w3.heap.size wr.heap.size wr A' k c' (runO d fs pads k) ∧ Below w3.heap.size w3 wr) (fun _ _ i _ => pn - (intOf i).toNat)
  case atStart => exact ⟨0, SA, 2 * m, none, 0, Nat.zero_le _, rfl, rfl, rfl, HS0.out.more B1.out.size, Own2.nil, Below.refl _ _⟩
  case round =>
    obtain ⟨k, SA, sc, A', c', hk, rfl, rfl, rfl, hso, hoo, hb⟩ := hrel
    have HSO := Lib.hid hso
    have HOO := Lib.hid hoo
    have HB := Lib.hid hb
    have hsr := hb.size
    have HW := Lib.hid (below_tr B1.out (below_tr D3.out hb))
    clear hso hoo hb
    by_cases hlt : k < pn
    · obtain ⟨b, o, rfl, hb, hc⟩ := HP.out.2 (by omega)
      obtain ⟨A1, m1, c1, hck, hI1⟩ := hc k hlt
      rw [← HW.out.cell (p := ⟨b, o + k, none⟩) hb] at hck
      have J1 := Lib.hid (hI1.below HW.out)
      have hpk := HPO.out k hlt
      have hst := stK_ok (pads := pads) HF.out (k := k) (fun j hj => HPO.out j (by omega))
      have HSTP := Lib.hid (step_any g d (tilesOf d fs) TA m tc EA DA (nodesOf d).toNat SA (2 * m) sc (stK d fs pads k) A1 m1 c1 (pads[k]?.getD []) wr (HEM.out.below (below_tr D3.out HB.out)) (by have := nodesOf_bd (framesOk_iff HF.out).1; omega) HSO.out.ints J1.out (by have := HMT.out; have := (tiles_eq (framesOk_iff HF.out).1).1; omega) (by have h1 := J1.out.1; have h2 := (padsOk_len hpk).1; omega) (stPads_ok hst hpk) (cfg_of_frames HF.out))
      have HRO : Hid (runO d fs pads (k + 1) = runO d fs pads k ++ [outF d (tilesOf d fs) (stK d fs pads k) (pads[k]?.getD [])]) := rfl
      have HSK : Hid (stK d fs pads (k + 1) = nextF d (tilesOf d fs) (stK d fs pads k) (pads[k]?.getD [])) := rfl
      have hm36 : m ≤ 36 := by have := HMT.out; have := tiles_eq (framesOk_iff HF.out).1; omega
      clear hc hI1 hpk hst
      generalize pads[k]?.getD [] = ps at *
      go_wp2_with fail
      refine HSTP.out.mono ?_
      rintro e w5 ⟨N1, nc, N2, mid, rfl, o1, o2, -, b5⟩
      have O1 := Lib.hid o1
      have O2 := Lib.hid o2
      have B5 := Lib.hid b5
      have hs5 := b5.size
      clear o1 o2 b5
      go_wp2_with (at_builtin; refine wpList_push2k rfl _ _ rfl w3.heap.size wr.heap.size A' k c' (runO d fs pads k) wr.heap.size N2 m m _ rfl (HOO.out.below B5.out) O2.out rfl (by omega) (Nat.le_refl _) (by omega) (by omega) (by omega) (below_tr HB.out B5.out) ?_; rintro g6 cap w6 o6 b6 hall - -)
      go_roundw
      case rel => exact ⟨k + 1, N1, nc, _, _, by omega, by go_num, rfl, rfl, by rw [HSK.out]; exact (hall _ _ _ _ _ O1.out).more (by have := HW.out.size; omega), by rw [HRO.out]; exact o6, b6⟩
      case measure => simp [intOf]; omega
    · have hkn : pn = k := by omega
      subst hkn
      go_wp2_with fail
      go_ret
      exact ⟨_, _, rfl, HOO.out.widen (by have := (below_tr B1.out D3.out).size; omega) (Nat.le_refl _), HW.out⟩
set_option maxHeartbeats 4000000 in
theorem pemuRun_any (d : Dev) (A : Option Addr) (m c : Nat) (fs : List (List Int)) (PA : Option Addr) (pn pc : Nat) (pads : List (List Int)) (w : World) (hA : Rows2 w A m fs) (hP : Rows2 w PA pn pads) (hz : size2 fs ≤ 1099511627776) (hz2 : size2 pads ≤ 1099511627776) :
    Calls Try.prog 38 #[.agg #[.int .i64 d.W, .int .i64 d.H, .int .i64 d.T, .int .i64 d.R], .slice A m c, .slice PA pn pc] w fun e w' => ∃ A' n' c', e = .returned (.slice A' n' c') ∧ Own2 w.heap.size w'.heap.size w' A' n' c' (runF d fs pads) ∧ Below w.heap.size w w' := by
  have HB0 := Lib.hid (below_new (Below.refl w.heap.size w) (.cells #[.int .i64 d.W, .int .i64 d.H, .int .i64 d.T, .int .i64 d.R] 29))
  obtain ⟨hpl, hrow⟩ := size2_bd hP.1 hz2
  have HI := Lib.hid hA
  have HP := Lib.hid hP
  have HX := Lib.hid hP.1
  have HR := Lib.hid hrow
  clear hA hP hrow
  go_enter Try.func38, Try.ntmps38
  go_wp2_with fail
  refine (framesOk_any d A m c fs _ (HI.out.below HB0.out) hz).mono ?_
  rintro e w1 ⟨rfl, b1⟩
  have hs1 := b1.size
  simp only [World.size_alloc] at hs1
  have D1 := Lib.hid b1
  obtain ⟨hcc, hff⟩ := bcell b1
  clear b1
  cases hf : framesOk d fs with
  | false =>
    have HF : Hid (runF d fs pads = []) := runF_bad (by unfold runOk; rw [hf]; rfl)
    clear hf
    go_wp2_with fail
    go_ret
    exact ⟨none, 0, 0, rfl, by rw [HF.out]; exact Own2.nil, below_tr HB0.out D1.out⟩
  | true =>
    have HFO := Lib.hid hf
    clear hf
    by_cases hl : pn ≤ 16
    · have hd1 : decide ((pn : Int) > 16) = false := by simp; omega
      clear hcc hff
      have hww : w.heap.size < w1.heap.size := by omega
      go_wp2_with fail
      go_loopw [20] (fun i wr => ∃ k : Nat, k ≤ pn ∧ i = .int .i64 k ∧ (∀ j, j < k → padsOk d (pads[j]?.getD []) = true) ∧ Below w1.heap.size w1 wr) (fun i _ => pn - (intOf i).toNat)
      case atStart => exact ⟨0, Nat.zero_le _, rfl, by intro j hj; omega, Below.refl _ _⟩
      case round =>
        obtain ⟨k, hk, rfl, hall, hb⟩ := hrel
        have HALL := Lib.hid hall
        have HB := Lib.hid hb
        have hsr := hb.size
        have HW := Lib.hid (below_tr HB0.out (below_tr D1.out hb))
        obtain ⟨q0, q1, q2, q3⟩ := keep4 (below_tr D1.out hb) (by simp) (box4 w d)
        clear hall hb
        by_cases hlt : k < pn
        · obtain ⟨b, o, rfl, hb, hc⟩ := HP.out.2 (by omega)
          obtain ⟨A1, m1, c1, hck, hI1⟩ := hc k hlt
          rw [← HW.out.cell (p := ⟨b, o + k, none⟩) hb] at hck
          have J1 := Lib.hid (hI1.below HW.out)
          have hm1 : m1 ≤ 1099511627776 := by have := HR.out k; have := hI1.1; omega
          have HBAD := Lib.hid (fun h => runF_bad (runOk_bad (fs := fs) (d := d) (k := k) (pads := pads) (by rw [HX.out]; exact hlt) h))
          have HG : Hid (padsOk d (pads[k]?.getD []) = true → ∀ j, j < k + 1 → padsOk d (pads[j]?.getD []) = true) := fun h j hj => by
            rcases Nat.lt_or_ge j k with h1 | h1
            · exact HALL.out j h1
            · have : j = k := by omega
              subst this; exact h
          clear hc hI1
          generalize pads[k]?.getD [] = ps at *
          go_wp2_with fail
          refine (padsOk_any d A1 m1 c1 ps _ J1.out hm1 (framesOk_iff HFO.out).1).mono ?_
          rintro e w5 ⟨rfl, b5⟩
          have HB5 := Lib.hid (below_tr HB.out b5)
          clear b5 q0 q1 q2 q3
          cases hp : padsOk d ps with
          | true =>
            have HG' := Lib.hid (HG.out hp)
            clear hp HG HBAD
            go_wp2_with fail
            go_roundw
            case rel => exact ⟨k + 1, by omega, by go_num, HG'.out, HB5.out⟩
            case measure => simp [intOf]; omega
          | false =>
            have HF := Lib.hid (HBAD.out hp)
            clear hp HG HBAD
            go_wp2_with fail
            go_ret
            exact ⟨none, 0, 0, rfl, by rw [HF.out]; exact Own2.nil, below_tr HB0.out (below_tr D1.out HB5.out)⟩
        · have hkn : pn = k := by omega
          subst hkn
          have HF : Hid (runF d fs pads = runO d fs pads pn) := by
            have h := runF_good (runOk_good HFO.out (by rw [HX.out]; exact hl) (by rw [HX.out]; exact HALL.out))
            rw [HX.out] at h
            exact h
          have hw0 : w.heap.size < wr.heap.size := by omega
          go_wp2_with fail
          refine (emuRunI_any d A m c fs PA pn pc pads _ (HI.out.below HW.out) (HP.out.below HW.out) HFO.out hl HALL.out).mono ?_
          rintro e w6 ⟨A6, c6, rfl, o6, b6⟩
          have O6 := Lib.hid o6
          have B6 := Lib.hid (below_tr HW.out b6)
          clear b6 o6
          go_wp2_with fail
          go_ret
          exact ⟨_, _, _, rfl, by rw [HF.out]; exact O6.out.widen HW.out.size (Nat.le_refl _), B6.out⟩
    · have hd1 : decide ((pn : Int) > 16) = true := by simp; omega
      have HF : Hid (runF d fs pads = []) := runF_bad (by
        cases hr : runOk d fs pads with
        | false => rfl
        | true => have := (runOk_iff.1 hr).2.1; have := HX.out; omega)
      go_wp2_with fail
      go_ret
      exact ⟨none, 0, 0, rfl, by rw [HF.out]; exact Own2.nil, below_tr HB0.out D1.out⟩
end Go.Proofs.Ytbnfdhidgdfbeaa
