/- EmuRun: the outputs of all cycles as lists; states stay valid. -/
import Derived.Test.YtbnfdhidgdfbeaaEsPure
namespace Go.Proofs.Ytbnfdhidgdfbeaa
set_option maxRecDepth 100000
open Go.RowKit

theorem stOk_mk {d : Dev} {st : List Int} (hd : devOk d = true) (hl : st.length = 2 * tiles d) (h : ∀ i : Nat, 0 ≤ st[i]?.getD 0 ∧ st[i]?.getD 0 ≤ mostOf d i) : stOk d st = true := stOk_good hd hl fun j _ => inR_iff.2 (h j)
theorem lut01 (d : Dev) (vs : List Int) (t : Int) (e : Le) : 0 ≤ mx (lutF d vs t e) ∧ mx (lutF d vs t e) ≤ 1 := by
  have := lutF_in d vs t e
  unfold mx; split <;> omega
theorem getD_set {l : List Int} {i j : Nat} {v : Int} : (l.set i v)[j]?.getD 0 = if i = j ∧ i < l.length then v else l[j]?.getD 0 := by
  by_cases h : i = j
  · subst h
    by_cases h2 : i < l.length
    · rw [if_pos ⟨rfl, h2⟩]; simp [h2]
    · rw [if_neg (fun h => h2 h.2), List.set_eq_of_length_le (by omega)]
  · rw [if_neg (fun h2 => h h2.1), List.getElem?_set_ne h]
def InSt (d : Dev) (l : List Int) : Prop := ∀ i : Nat, 0 ≤ l[i]?.getD 0 ∧ l[i]?.getD 0 ≤ mostOf d i
theorem inSt_set {d : Dev} {l : List Int} {i : Nat} {v : Int} (h : InSt d l) (hv : 0 ≤ v ∧ v ≤ mostOf d i) : InSt d (l.set i v) := fun j => by
  rw [getD_set]
  split
  · rename_i hj; rw [← hj.1]; exact hv
  · exact h j
theorem inSt_flop {d : Dev} {ts : List Tile} {vs l : List Int} {k e : Nat} (h : InSt d l) (hk : kindOf d (k : Int) = 1) (he : e < 2) : InSt d (flopSet d ts vs k l e) := by
  unfold flopSet
  split
  · refine inSt_set h ?_
    have := lut01 d vs (k : Int) (leAt ts (k : Int) (e : Int))
    unfold mostOf
    rw [show ((2 * k + e) / 2 : Nat) = k by omega, if_pos hk]
    exact this
  · exact h
theorem inSt_next {d : Dev} {ts : List Tile} {st vs : List Int} (hs : InSt d st) (h3 : In3 vs) (k : Nat) : InSt d (nextTo d ts st vs k) := by
  induction k with
  | zero => exact hs
  | succ k ih =>
    rw [nextTo, nx1]
    split
    · rename_i h1
      exact inSt_flop (e := 1) (inSt_flop (e := 0) ih h1 (by decide)) h1 (by decide)
    · split
      · rename_i h1 h2
        refine inSt_set ih ?_
        have hm : mostOf d (2 * k) = 31 := by unfold mostOf; rw [show (2 * k / 2 : Nat) = k by omega, if_neg (by omega), if_pos ⟨h2, by omega⟩]
        have h := hs (2 * k)
        rw [hm] at h ⊢
        have hl := inTo_lt (d := d) h3 (k : Int) 4
        have := ramNext_le (st[2 * k]?.getD 0).toNat (inTo d vs (k : Int) 4) (by omega) (by omega)
        omega
      · exact ih
theorem stOk_next {d : Dev} {ts : List Tile} {st ps : List Int} (hd : devOk d = true) (hs : stOk d st = true) (hp : padsOk d ps = true) : stOk d (nextF d ts st ps) = true := by
  refine stOk_mk hd ?_ ?_
  · rw [nextF, nextTo_length, stOk_len hs]
  · exact inSt_next (stOk_any hs) (valsF_in3 (stPads_ok hs hp)) _
theorem stOk_start {d : Dev} {fs : List (List Int)} (hf : framesOk d fs = true) : stOk d (startF d fs) = true := by
  have hd := (framesOk_iff hf).1
  have hr : readF d fs = tilesOf d fs := by rw [readF, if_pos hf]
  have hl : (startF d fs).length = 2 * tiles d := by unfold startF; rw [startTo_length, hr, tilesOf_length, (frames_n hf).1]
  have hc := cfg_of_frames hf
  refine stOk_good hd hl fun i hi => inR_iff.2 ?_
  have hk : i / 2 < (tilesOf d fs).length := by rw [tilesOf_length, (frames_n hf).1]; omega
  have ht : tileIn d ((i / 2 : Nat) : Int) = true := tileIn_iff.2 ⟨hd, by omega, by rw [(tiles_eq hd).1]; omega⟩
  have l0 := (le_fit (e := 0) hc ht (by omega)).1.init
  have l1 := (le_fit (e := 1) hc ht (by omega)).1.init
  have lr := (le_fit (e := 0) hc ht (by omega)).2.2.2.ram
  have hg := startTo_get (d := d) (ts := tilesOf d fs) (m := (tilesOf d fs).length) hk (e := i % 2) (by omega)
  rw [show 2 * (i / 2) + i % 2 = i by omega] at hg
  unfold startF
  rw [hr, hg]
  unfold startOf mostOf
  have hm : i % 2 = 0 ∨ i % 2 = 1 := by omega
  by_cases h1 : kindOf d ((i / 2 : Nat) : Int) = 1
  · rw [if_pos h1, if_pos h1]
    rcases hm with h | h <;> rw [h]
    · exact l0
    · exact l1
  · rw [if_neg h1, if_neg h1]
    by_cases h2 : kindOf d ((i / 2 : Nat) : Int) = 2
    · rw [if_pos h2]
      rcases hm with h | h <;> rw [h]
      · rw [if_pos ⟨h2, rfl⟩]; exact lr
      · rw [if_neg (by omega)]; exact ⟨Int.le_refl _, Int.le_refl _⟩
    · rw [if_neg h2, if_neg (by omega)]
      rcases hm with h | h <;> rw [h] <;> exact ⟨Int.le_refl _, Int.le_refl _⟩
/-- The state ahead of cycle k. -/
def stK (d : Dev) (fs : List (List Int)) (pads : List (List Int)) : Nat → List Int
  | 0 => startF d fs
  | k + 1 => nextF d (tilesOf d fs) (stK d fs pads k) (pads[k]?.getD [])
def runO (d : Dev) (fs : List (List Int)) (pads : List (List Int)) : Nat → List (List Int)
  | 0 => []
  | k + 1 => runO d fs pads k ++ [outF d (tilesOf d fs) (stK d fs pads k) (pads[k]?.getD [])]
theorem stK_ok {d : Dev} {fs pads : List (List Int)} (hf : framesOk d fs = true) {k : Nat} (h : ∀ j, j < k → padsOk d (pads[j]?.getD []) = true) : stOk d (stK d fs pads k) = true := by
  induction k with
  | zero => exact stOk_start hf
  | succ k ih => exact stOk_next (framesOk_iff hf).1 (ih fun j hj => h j (by omega)) (h k (by omega))
theorem runO_length (d : Dev) (fs pads : List (List Int)) (k : Nat) : (runO d fs pads k).length = k := by
  induction k with
  | zero => rfl
  | succ k ih => rw [runO, List.length_append, ih]; rfl
def runOk (d : Dev) (fs pads : List (List Int)) : Bool := framesOk d fs && (decide (pads.length ≤ 16) && pads.all (padsOk d))
def runF (d : Dev) (fs pads : List (List Int)) : List (List Int) := if runOk d fs pads = true then runO d fs pads pads.length else []
theorem runF_good {d : Dev} {fs pads : List (List Int)} (h : runOk d fs pads = true) : runF d fs pads = runO d fs pads pads.length := if_pos h
theorem runF_bad {d : Dev} {fs pads : List (List Int)} (h : runOk d fs pads = false) : runF d fs pads = [] := if_neg (by rw [h]; decide)
theorem runOk_iff {d : Dev} {fs pads : List (List Int)} : runOk d fs pads = true ↔ framesOk d fs = true ∧ pads.length ≤ 16 ∧ ∀ p ∈ pads, padsOk d p = true := by simp [runOk]
theorem runOk_bad {d : Dev} {fs pads : List (List Int)} {k : Nat} (hk : k < pads.length) (h : padsOk d (pads[k]?.getD []) = false) : runOk d fs pads = false := by
  cases hr : runOk d fs pads with
  | false => rfl
  | true =>
    have := (runOk_iff.1 hr).2.2 (pads[k]?.getD []) (by rw [List.getElem?_eq_getElem hk]; exact List.getElem_mem hk)
    rw [this] at h; cases h
theorem runOk_good {d : Dev} {fs pads : List (List Int)} (hf : framesOk d fs = true) (hl : pads.length ≤ 16) (h : ∀ j, j < pads.length → padsOk d (pads[j]?.getD []) = true) : runOk d fs pads = true := by
  refine runOk_iff.2 ⟨hf, hl, fun p hp => ?_⟩
  obtain ⟨j, hj, rfl⟩ := List.getElem_of_mem hp
  have := h j hj
  rwa [List.getElem?_eq_getElem hj] at this
theorem size2_snoc (xss : List (List Int)) (xs : List Int) : size2 (xss ++ [xs]) = size2 xss + 1 + xs.length := by
  have hs : sizeTo (xss ++ [xs]) xss.length = sizeTo xss xss.length := by
    have : ∀ k, k ≤ xss.length → sizeTo (xss ++ [xs]) k = sizeTo xss k := by
      intro k hk
      induction k with
      | zero => rfl
      | succ k ih => rw [sizeTo, sizeTo, ih (by omega), List.getElem?_append_left (by omega)]
    exact this _ (Nat.le_refl _)
  unfold size2
  rw [List.length_append, List.length_singleton, sizeTo, hs, List.getElem?_append_right (Nat.le_refl _), Nat.sub_self]
  simp
  omega
theorem runO_size {d : Dev} {fs pads : List (List Int)} (hf : framesOk d fs = true) (k : Nat) : size2 (runO d fs pads k) ≤ 37 * k := by
  induction k with
  | zero => exact Nat.le_refl _
  | succ k ih =>
    rw [runO, size2_snoc, outF, outTo_length, tilesOf_length]
    have := (frames_n hf).2
    omega
theorem runF_size (d : Dev) (fs pads : List (List Int)) : size2 (runF d fs pads) ≤ 1099511627776 := by
  cases h : runOk d fs pads with
  | false => rw [runF_bad h]; decide
  | true =>
    have h' := runOk_iff.1 h
    rw [runF_good h]
    have := runO_size (pads := pads) h'.1 pads.length
    have := h'.2.1
    omega
end Go.Proofs.Ytbnfdhidgdfbeaa
