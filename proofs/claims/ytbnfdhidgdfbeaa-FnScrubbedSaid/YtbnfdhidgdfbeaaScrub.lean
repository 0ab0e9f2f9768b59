/- ScrubFrames: the program's and the reference's answers are one. -/
import Derived.Test.YtbnfdhidgdfbeaaData
import Derived.Test.YtbnfdhidgdfbeaaL07
namespace Go.Proofs.Ytbnfdhidgdfbeaa
set_option maxRecDepth 100000
open Go.RowKit

/-- A list, mapped up to a place. -/
def mapTo {α : Type} (g : α → α) (xs : List α) (k : Nat) : List α := (xs.take k).map g ++ xs.drop k
theorem mapTo_zero {α : Type} (g : α → α) (xs : List α) : mapTo g xs 0 = xs := by simp [mapTo]
theorem mapTo_full {α : Type} (g : α → α) {xs : List α} {k : Nat} (h : xs.length ≤ k) : mapTo g xs k = xs.map g := by simp [mapTo, List.take_of_length_le h, List.drop_of_length_le h]
theorem mapTo_length {α : Type} (g : α → α) (xs : List α) (k : Nat) : (mapTo g xs k).length = xs.length := by simp [mapTo]; omega
theorem mapTo_get {α : Type} (g : α → α) {xs : List α} {k : Nat} (h : k < xs.length) : (mapTo g xs k)[k]? = xs[k]? := by
  rw [mapTo, List.getElem?_append_right (by simp; omega)]
  simp [show min k xs.length = k by omega]
theorem mapTo_set {α : Type} (g : α → α) {xs : List α} {k : Nat} (d : α) (h : k < xs.length) : (mapTo g xs k).set k (g (xs[k]?.getD d)) = mapTo g xs (k + 1) := by
  have hl : ((xs.take k).map g).length = k := by simp; omega
  rw [mapTo, List.set_append, if_neg (by omega), hl, Nat.sub_self, List.drop_eq_getElem_cons h, List.set_cons_zero, mapTo, List.take_succ_eq_append_getElem h, List.getElem?_eq_getElem h]
  simp only [Option.getD_some, List.map_append, List.map_cons, List.map_nil, List.append_assoc, List.cons_append, List.nil_append]
theorem map_take_succ {α β : Type} (g : α → β) {xs : List α} {k : Nat} (d : α) (h : k < xs.length) : (xs.take (k + 1)).map g = (xs.take k).map g ++ [g (xs[k]?.getD d)] := by
  rw [List.take_succ_eq_append_getElem h, List.map_append, List.getElem?_eq_getElem h]
  rfl

def repC (c : Int) : Int := (repW c).1
def cntTo (s : Int) (f : List Int) : Nat → Nat
  | 0 => 0
  | k + 1 => cntTo s f k + if (repW (f[k]?.getD 0)).2 = s then 1 else 0
def cnt2To (s : Int) (fs : List (List Int)) : Nat → Nat
  | 0 => 0
  | k + 1 => cnt2To s fs k + cntTo s (fs[k]?.getD []) (fs[k]?.getD []).length
def scrubRow (f : List Int) : List Int := f.map repC
def scrubF (d : Dev) (fs : List (List Int)) : List (List Int) := if framesOk d fs = true then fs.map scrubRow else []
def scrubN (d : Dev) (fs : List (List Int)) (s : Int) : Int := if framesOk d fs = true then ((cnt2To s fs fs.length : Nat) : Int) else 0
theorem cntTo_le (s : Int) (f : List Int) (k : Nat) : cntTo s f k ≤ k := by
  induction k with
  | zero => simp [cntTo]
  | succ k ih => rw [cntTo]; split <;> omega
theorem cnt2To_le {d : Dev} {fs : List (List Int)} (h : framesOk d fs = true) (s : Int) (k : Nat) : cnt2To s fs k ≤ 11 * k := by
  induction k with
  | zero => simp [cnt2To]
  | succ k ih =>
    rw [cnt2To]
    have h1 := cntTo_le s (fs[k]?.getD []) (fs[k]?.getD []).length
    have : (fs[k]?.getD []).length ≤ 11 := by
      rcases Nat.lt_or_ge k fs.length with hj | hj
      · have := (frames_in h hj).2
        have := fwI_bd (framesOk_iff h).1
        omega
      · rw [List.getElem?_eq_none hj]; simp
    omega
theorem repW_st (c : Int) : (repW c).2 = 0 ∨ (repW c).2 = 1 ∨ (repW c).2 = 2 := by
  unfold repW
  split
  · simp
  · unfold decW decN
    repeat' split
    all_goals simp
theorem size2_map {fs : List (List Int)} (g : List Int → List Int) (hg : ∀ f, (g f).length = f.length) : size2 (fs.map g) = size2 fs := by
  unfold size2
  rw [List.length_map, sizeTo_congr (yss := fs)]
  intro j
  rw [List.getElem?_map]
  cases fs[j]? with
  | none =>
    have := hg []
    simp
  | some x => simp [hg]
theorem scrubF_le {d : Dev} {fs : List (List Int)} {M : Nat} (h : size2 fs ≤ M) : size2 (scrubF d fs) ≤ M := by
  unfold scrubF
  split
  · rw [size2_map _ fun f => by simp [scrubRow]]; exact h
  · simp [size2, sizeTo]
theorem sizeTo_take (fs : List (List Int)) (k : Nat) (h : k < fs.length) : (fs[k]?.getD []).length ≤ size2 fs := size2_row h

set_option maxHeartbeats 2000000 in
theorem scrubFrames_any (d : Dev) (A : Option Addr) (n c : Nat) (fs : List (List Int)) (w : World) (hA : Rows2 w A n fs) (hz : size2 fs ≤ 1099511627776) :
    Calls Try.prog 23 #[.agg #[.int .i64 d.W, .int .i64 d.H, .int .i64 d.T, .int .i64 d.R], .slice A n c] w fun e w' => ∃ A' n' c', e = .returned (.tuple #[.slice A' n' c', .int .i64 (scrubN d fs 1), .int .i64 (scrubN d fs 2)]) ∧ Own2 w.heap.size w'.heap.size w' A' n' c' (scrubF d fs) ∧ Below w.heap.size w w' := by
  have hB0 : Below w.heap.size w (w.alloc (.cells #[.int .i64 d.W, .int .i64 d.H, .int .i64 d.T, .int .i64 d.R] 29)) := below_new (Below.refl _ _) _
  have hX := hA.1
  obtain ⟨hn, hrow⟩ := size2_bd hX hz
  have HX := Lib.hid hX
  have HI := Lib.hid hA
  clear hA hX hrow
  go_enter Try.func23, Try.ntmps23
  go_wp2_with fail
  refine (framesOk_any d A n c fs _ (HI.out.below hB0) hz).mono ?_
  rintro e w1 ⟨rfl, b1⟩
  have hs1 := b1.size
  simp only [World.size_alloc] at hs1
  have B1 := Lib.hid (below_tr hB0 b1)
  clear b1
  cases hf : framesOk d fs with
  | false =>
    have HF := Lib.hid hf
    clear hf
    go_wp2_with fail
    go_ret3
    exact ⟨none, 0, 0, by rw [scrubN, scrubN, HF.out]; rfl, by rw [scrubF, HF.out]; exact Own2.nil, B1.out⟩
  | true =>
    have hfb := fwI_bd (framesOk_iff hf).1
    obtain ⟨F, hF⟩ : ∃ F : Nat, fwI d = (F : Int) := ⟨(fwI d).toNat, by omega⟩
    rw [hF] at hfb
    have HFW := Lib.hid hF
    have HF := Lib.hid hf
    clear hf hF
    go_wp2_with fail
    refine (copyLists_any A n c fs _ (HI.out.below B1.out) hz).mono ?_
    rintro e w2 ⟨A2, c2, rfl, o2, b2⟩
    have hs2 := b2.size
    have O2 := Lib.hid (o2.widen (lo' := w.heap.size) (hi' := w2.heap.size) (by omega) (Nat.le_refl _))
    have B2 := Lib.hid (below_tr B1.out b2)
    clear o2 b2
    go_wp2_with fail
    generalize hq : w2.heap.size = hi at *
    have HQ := Lib.hid hq
    clear hq
    go_loopw [8, 9, 24] (fun v1 v2 i wr => ∃ k : Nat, k ≤ n ∧ i = .int .i64 k ∧ v1 = .int .i64 ((cnt2To 1 fs k : Nat) : Int) ∧ v2 = .int .i64 ((cnt2To 2 fs k : Nat) : Int) ∧ Own2 w.heap.size hi wr A2 n c2 (mapTo scrubRow fs k) ∧ Below w.heap.size w wr ∧ hi ≤ wr.heap.size) (fun _ _ i _ => n - (intOf i).toNat)
    case atStart => exact ⟨0, Nat.zero_le _, rfl, rfl, rfl, by rw [mapTo_zero]; exact O2.out, B2.out, by rw [HQ.out]; exact Nat.le_refl _⟩
    case round =>
      obtain ⟨k, hk, rfl, rfl, rfl, ho, hbe, hhi⟩ := hrel
      have HE := Lib.hid hbe
      have hk1 := cnt2To_le HF.out 1 k
      have hk2 := cnt2To_le HF.out 2 k
      by_cases hlt : k < n
      · obtain ⟨b, A1, m1, c1, rfl, hck, hfz, o1, l1, hup, hne, hb1, hb2, hb3⟩ := ho.rowX hlt
        rw [mapTo_get _ (by rw [HX.out]; exact hlt)] at o1
        have hfr := frames_in HF.out (j := k) (by rw [HX.out]; exact hlt)
        have hm1 : m1 = F := by have := hfr.2; rw [o1.len, HFW.out] at this; omega
        subst hm1
        have HIN := Lib.hid hfr.1
        have HUP := Lib.hid hup
        have O1 := Lib.hid o1
        have L1 := Lib.hid l1
        have HNE := Lib.hid hne
        have HXF := Lib.hid o1.len
        have HC1 := Lib.hid (cnt2To.eq_2 1 fs k)
        have HC2 := Lib.hid (cnt2To.eq_2 2 fs k)
        have HMS := Lib.hid (mapTo_set scrubRow (xs := fs) (k := k) [] (by rw [HX.out]; exact hlt))
        have HCK := Lib.hid hck
        clear hfr hup o1 l1 hne ho hbe hfz
        generalize fs[k]?.getD [] = f at *
        go_wp2_with fail
        clear hck
        go_loopw [8, 9, 31] (fun v1 v2 i wq => ∃ j : Nat, j ≤ m1 ∧ i = .int .i64 j ∧ v1 = .int .i64 ((cnt2To 1 fs k + cntTo 1 f j : Nat) : Int) ∧ v2 = .int .i64 ((cnt2To 2 fs k + cntTo 2 f j : Nat) : Int) ∧ Own w.heap.size wq A1 m1 c1 (mapTo repC f j) ∧ wr.grownBy wq (A1.map (·.block))) (fun _ _ i _ => m1 - (intOf i).toNat)
        case atStart => exact ⟨0, Nat.zero_le _, rfl, rfl, rfl, by rw [mapTo_zero]; exact O1.out, grownBy_refl _ _⟩
        case round =>
          obtain ⟨j, hj, rfl, rfl, rfl, ho2, hg⟩ := hrel
          have HO2 := Lib.hid ho2
          have HG := Lib.hid hg
          have hj1 := cntTo_le 1 f j
          have hj2 := cntTo_le 2 f j
          by_cases hlj : j < m1
          · obtain ⟨g1, cur, rfl, hg1, hg2, _⟩ := ho2.block (by omega)
            obtain ⟨hcj, hfj⟩ := ho2.cellAt hlj
            have hne' : g1 ≠ b := HNE.out _ rfl
            have hckb : wr.cell? ⟨b, k, none⟩ = some (.slice (some ⟨g1, 0, none⟩) m1 c1) := (World.cell?_of_block (a := ⟨b, k, none⟩) (hg.block b hb3 (by simpa using fun e => hne' e.symm))).trans HCK.out
            rw [mapTo_get _ (by rw [HXF.out]; exact hlj)] at hcj
            have hsq := hg.size
            have HMS2 := Lib.hid (mapTo_set repC (xs := f) (k := j) 0 (by rw [HXF.out]; exact hlj))
            have HD1 := Lib.hid (cntTo.eq_2 1 f j)
            have HD2 := Lib.hid (cntTo.eq_2 2 f j)
            clear ho2 hg
            generalize f[j]?.getD 0 = x at *
            go_wp2_with fail
            refine (repairWord_any x _).mono ?_
            rintro e w3 ⟨rfl, b3⟩
            have O3 := Lib.hid (HO2.out.below b3)
            have G3 := Lib.hid (grownBy_trans HG.out (grownBy_of_below b3 _))
            obtain ⟨hcj3, hfj3⟩ := O3.out.cellAt hlj
            have hckb3 := (b3.cell (p := ⟨b, k, none⟩) (by simp only; omega)).trans hckb
            clear b3 hcj hfj hckb
            have hst := repW_st x
            have HRC : Hid (repC x = (repW x).1) := rfl
            generalize (repW x).1 = y at *
            generalize (repW x).2 = s at *
            rcases hst with h | h | h
            · subst h
              go_wp2_with fail
              go_roundw
              case rel => exact ⟨j + 1, by omega, by go_num, by rw [HD1.out]; simp, by rw [HD2.out]; simp, by rw [← HMS2.out, HRC.out]; exact O3.out.stored hlj y, grownBy_store G3.out _ _⟩
              case measure => simp [intOf]; omega
            · subst h
              go_wp2_with fail
              go_roundw
              case rel => exact ⟨j + 1, by omega, by go_num, by rw [HD1.out]; simp only [if_true]; go_num, by rw [HD2.out]; simp, by rw [← HMS2.out, HRC.out]; exact O3.out.stored hlj y, grownBy_store G3.out _ _⟩
              case measure => simp [intOf]; omega
            · subst h
              go_wp2_with fail
              go_roundw
              case rel => exact ⟨j + 1, by omega, by go_num, by rw [HD1.out]; simp, by rw [HD2.out]; simp only [if_true]; go_num, by rw [← HMS2.out, HRC.out]; exact O3.out.stored hlj y, grownBy_store G3.out _ _⟩
              case measure => simp [intOf]; omega
          · have hjn : j = m1 := by omega
            subst hjn
            go_wp2_with fail
            go_roundw
            case rel => exact ⟨k + 1, by omega, by go_num, by rw [HC1.out, HXF.out], by rw [HC2.out, HXF.out],
              by rw [← HMS.out]; have := HUP.out _ _ HG.out HO2.out; rw [mapTo_full repC (xs := f) (by rw [HXF.out]; exact Nat.le_refl _)] at this; exact this, HE.out.grown HG.out HE.out.size (fun q hq => by
                cases A1 with
                | none => cases hq
                | some a => injection hq with hq; subst hq; exact (L1.out a rfl).1), by have := HG.out.size; omega⟩
            case measure => simp [intOf]; omega
      · have hkn : k = n := by omega
        subst hkn
        go_wp2_with fail
        go_ret3
        have e1 : ∀ s, scrubN d fs s = ((cnt2To s fs k : Nat) : Int) := fun s => by rw [scrubN, HF.out, if_pos rfl, HX.out]
        refine ⟨A2, k, c2, by rw [e1, e1]; rfl, ?_, HE.out⟩
        · rw [scrubF, HF.out, if_pos rfl]
          have := ho.widen (Nat.le_refl _) hhi
          rwa [mapTo_full _ (by rw [HX.out]; exact Nat.le_refl _)] at this
end Go.Proofs.Ytbnfdhidgdfbeaa
