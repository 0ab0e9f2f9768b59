/- Every node that is driven has its driver's value; nodes that do not exist stay undetermined: plain lemmas. -/
import Derived.Test.YtbnfdhidgdfbeaaValPure
namespace Go.Proofs.Ytbnfdhidgdfbeaa
set_option maxRecDepth 100000
open Go.RowKit Cw

/-- The value that a node's driver has. -/
def drvV (d : Dev) (ts : List Tile) (vs : List Int) (n : Int) : Int := if 0 ≤ drvOf d ts n then nv vs (drvOf d ts n) else 0
def ConsV (d : Dev) (ts : List Tile) (vs : List Int) : Prop :=
  (∀ n, n.toNat < vs.length → nodeOk d n = true → ¬ (n % perT d = 5 ∨ n % perT d = 6) → 0 ≤ nv vs n → drvV d ts vs n = nv vs n) ∧ (∀ k : Nat, k < vs.length → nodeOk d (k : Int) = false → nv vs (k : Int) = -1)
theorem nv_lt {vs : List Int} {n : Int} (h : nv vs n < 0) : n.toNat < vs.length := by
  rcases Nat.lt_or_ge n.toNat vs.length with hl | hl
  · exact hl
  · unfold nv at h
    rw [List.getElem?_eq_none hl] at h
    simp at h
theorem nv_same {vs : List Int} {a b : Int} (h : a.toNat = b.toNat) : nv vs a = nv vs b := by unfold nv; rw [h]
theorem node_range {d : Dev} {n : Int} (h : nodeOk d n = true) : 0 ≤ n ∧ n < nodesOf d := by
  unfold nodeOk nodeIn at h
  simp only [Bool.and_eq_true, decide_eq_true_eq] at h
  exact h.1.2
theorem consV_step {d : Dev} {ts : List Tile} {st pads vs : List Int} (h : ConsV d ts vs) (m : Int) : ConsV d ts (stepV d ts st pads vs m) := by
  unfold stepV
  split
  · rename_i hc
    obtain ⟨hm, hn, hx⟩ := hc
    have hl := nv_lt hn
    have rm := node_range hm
    refine ⟨fun n hnl hno h5 h0 => ?_, fun k hk hno => ?_⟩
    · have rn := node_range hno
      rw [List.length_set] at hnl
      rw [nv_set hl] at h0 ⊢
      unfold drvV
      by_cases he : n.toNat = m.toNat
      · have hmn : n = m := by omega
        subst hmn
        rw [if_pos rfl] at h0 ⊢
        have hv : nodeV d ts st pads vs n = if 0 ≤ drvOf d ts n then nv vs (drvOf d ts n) else 0 := by unfold nodeV; rw [if_neg h5]
        rw [hv] at h0 ⊢
        split
        · rename_i hd
          rw [if_pos hd] at h0
          rw [nv_set hl, if_neg]
          intro h2
          rw [nv_same h2] at h0
          omega
        · rfl
      · rw [if_neg he] at h0 ⊢
        have h1 := h.1 n hnl hno h5 h0
        unfold drvV at h1
        split
        · rename_i hd
          rw [if_pos hd] at h1
          rw [nv_set hl, if_neg]
          · exact h1
          · intro h2
            rw [nv_same h2] at h1
            omega
        · rename_i hd
          rwa [if_neg hd] at h1
    · rw [List.length_set] at hk
      rw [nv_set hl]
      split
      · rename_i he
        have : (k : Int) = m := by omega
        rw [this, hm] at hno
        cases hno
      · exact h.2 k hk hno
  · exact h
theorem consV_sweep {d : Dev} {ts : List Tile} {st pads vs : List Int} (h : ConsV d ts vs) (k : Nat) : ConsV d ts (sweepTo d ts st pads vs k) := by
  induction k with
  | zero => exact h
  | succ k ih => exact consV_step ih _
theorem consV_it (d : Dev) (ts : List Tile) (st pads : List Int) (N j : Nat) : ConsV d ts (itV d ts st pads N j) := by
  induction j with
  | zero =>
    have e : ∀ n : Int, n.toNat < N → nv (itV d ts st pads N 0) n = -1 := fun n hn => by
      unfold itV nv
      rw [List.getElem?_replicate, if_pos hn]
      rfl
    refine ⟨fun n hn _ _ h0 => ?_, fun k hk _ => ?_⟩
    · rw [itV_length] at hn
      rw [e n hn] at h0
      omega
    · rw [itV_length] at hk
      exact e k (by omega)
  | succ j ih => exact consV_sweep ih _
theorem sweepTo_mono (d : Dev) (ts : List Tile) (st pads vs : List Int) {a b : Nat} (h : a ≤ b) : cntV (sweepTo d ts st pads vs a) ≤ cntV (sweepTo d ts st pads vs b) := by
  induction b with
  | zero => rw [show a = 0 by omega]; exact Nat.le_refl _
  | succ b ih =>
    rcases Nat.lt_or_ge a (b + 1) with h1 | h1
    · refine Nat.le_trans (ih (by omega)) ?_
      rw [sweepTo]
      rcases stepV_cnt d ts st pads (sweepTo d ts st pads vs b) (b : Int) with h2 | h2
      · rw [h2]; exact Nat.le_refl _
      · omega
    · rw [show a = b + 1 by omega]; exact Nat.le_refl _
/-- In the end no node can be determined any more. -/
theorem valsF_step (d : Dev) (ts : List Tile) (st pads : List Int) {k : Nat} (hk : k < (nodesOf d).toNat) : stepV d ts st pads (valsF d ts st pads) (k : Int) = valsF d ts st pads := by
  have hf := valsF_fix d ts st pads
  generalize valsF d ts st pads = vs at *
  have h1 : ∀ j, j ≤ (nodesOf d).toNat → sweepTo d ts st pads vs j = vs := by
    intro j hj
    have h2 := sweepTo_mono d ts st pads vs hj
    rw [hf] at h2
    have h3 := sweepTo_cnt d ts st pads vs j
    exact h3.2 (by omega)
  have h4 := h1 (k + 1) (by omega)
  rw [sweepTo, h1 k (by omega)] at h4
  exact h4
/-- A node that is not an output pin has its driver's value. -/
theorem vals_follow {d : Dev} {ts : List Tile} {st pads : List Int} (hp : StPads d ts st pads) {k : Nat} (hk : k < (nodesOf d).toNat) (hno : nodeOk d (k : Int) = true) (h5 : ¬ ((k : Int) % perT d = 5 ∨ (k : Int) % perT d = 6)) :
    nv (valsF d ts st pads) (k : Int) = drvV d ts (valsF d ts st pads) (k : Int) := by
  have hc : ConsV d ts (valsF d ts st pads) := consV_it _ _ _ _ _ _
  have hs := valsF_step d ts st pads hk
  have h3 : In3 (valsF d ts st pads) := itV_in hp _ _
  have hl := valsF_length d ts st pads
  generalize valsF d ts st pads = vs at *
  rcases Int.lt_or_le (nv vs (k : Int)) 0 with h0 | h0
  · have hv : nodeV d ts st pads vs (k : Int) = drvV d ts vs (k : Int) := by unfold nodeV drvV; rw [if_neg h5]
    have hneg : drvV d ts vs (k : Int) < 0 := by
      rcases Int.lt_or_le (drvV d ts vs (k : Int)) 0 with h | h
      · exact h
      · exfalso
        unfold stepV at hs
        rw [if_pos ⟨hno, h0, by rw [hv]; exact h⟩] at hs
        have h9 := congrArg (fun l => nv l (k : Int)) hs
        rw [nv_set (nv_lt h0), if_pos rfl, hv] at h9
        omega
    have b1 := in3_nv h3 (k : Int)
    unfold drvV at hneg ⊢
    split
    · rename_i hd
      rw [if_pos hd] at hneg
      have b2 := in3_nv h3 (drvOf d ts (k : Int))
      omega
    · rename_i hd
      rw [if_neg hd] at hneg
      omega
  · exact (hc.1 _ (by rw [hl]; omega) hno h5 h0).symm
theorem vals_none (d : Dev) (ts : List Tile) (st pads : List Int) {k : Nat} (hk : k < (nodesOf d).toNat) (hno : nodeOk d (k : Int) = false) : nv (valsF d ts st pads) (k : Int) = -1 :=
  (consV_it d ts st pads _ _).2 k (by rw [itV_length]; exact hk) hno
end Go.Proofs.Ytbnfdhidgdfbeaa
