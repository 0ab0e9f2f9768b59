/- The values of all nodes: the reference's sweeps. -/
import Derived.Deep.CutBlock
import Derived.Deep.CutRange
import Derived.Deep.DeepCutAuto
import Derived.Test.YtbnfdhidgdfbeaaL07
import Derived.Test.YtbnfdhidgdfbeaaValS
namespace Go.Proofs.Ytbnfdhidgdfbeaa
set_option maxRecDepth 100000
open Go.RowKit Cw

def cntW (w : World) (g N : Nat) : Nat := ((List.range N).filter fun j => match w.cell? ⟨g, j, none⟩ with | some v => decide (0 ≤ intOf v) | none => false).length
theorem cntW_ints {w : World} {g N : Nat} {us : List Int} (h : Ints w (some ⟨g, 0, none⟩) N us) : cntW w g N = cntV us := by
  have hus : us = (List.range N).map fun j => us[j]?.getD 0 := by
    apply List.ext_getElem?
    intro i
    rw [List.getElem?_map]
    rcases Nat.lt_or_ge i N with hi | hi
    · rw [List.getElem?_range hi, Option.map_some, List.getElem?_eq_getElem (show i < us.length by rw [h.1]; exact hi), Option.getD_some]
    · rw [List.getElem?_eq_none (show us.length ≤ i by rw [h.1]; exact hi), List.getElem?_eq_none (show (List.range N).length ≤ i by simpa using hi)]; rfl
  unfold cntW cntV
  have e : (List.range N).filter (fun j => match w.cell? ⟨g, j, none⟩ with | some v => decide (0 ≤ intOf v) | none => false) = (List.range N).filter ((fun x => decide (0 ≤ x)) ∘ fun j => us[j]?.getD 0) := by
    apply List.filter_congr
    intro j hj
    have hj' := List.mem_range.1 hj
    obtain ⟨b, o, eA, _, hc⟩ := h.2 (by omega)
    injection eA with eA
    injection eA with e1 e2
    subst e1 e2
    have := hc j hj'
    rw [Nat.zero_add] at this
    rw [this]
    rfl
  rw [e]
  conv => rhs; rw [hus]
  rw [List.filter_map, List.length_map]
def measC (c : Value) (w : World) (g N : Nat) : Nat := match c with
  | .bool true => N + 1 - cntW w g N
  | _ => 0
theorem stepV_set {d : Dev} {ts : List Tile} {st pads us : List Int} {n : Int} (h3 : In3 us) (hno : nodeOk d n = true) (hn : nv us n < 0) (hv : -1 ≤ nodeV d ts st pads us n) : stepV d ts st pads us n = us.set n.toNat (nodeV d ts st pads us n) := by
  by_cases h : 0 ≤ nodeV d ts st pads us n
  · exact stepV_new ⟨hno, hn, h⟩
  · rw [stepV_same (fun h2 => h h2.2.2)]
    have e1 : nodeV d ts st pads us n = -1 := by omega
    have e2 : nv us n = -1 := by have := in3_nv h3 n; omega
    rw [e1]
    symm
    apply set_same
    unfold nv at e2
    rcases Nat.lt_or_ge n.toNat us.length with hlt | hge
    · rw [List.getElem?_eq_getElem hlt] at e2 ⊢
      simpa using e2
    · rw [List.getElem?_eq_none hge] at e2
      simp at e2
theorem flag_next {d : Dev} {ts : List Tile} {st pads vs us : List Int} {n : Int} {cb : Bool} (hcb : cb = decide (cntV vs < cntV us)) (hcm : cntV vs ≤ cntV us) (hlt : n.toNat < us.length) (hno : nodeOk d n = true) (hn : nv us n < 0) : (cb || decide (nodeV d ts st pads us n ≥ 0)) = decide (cntV vs < cntV (stepV d ts st pads us n)) := by
  by_cases h : 0 ≤ nodeV d ts st pads us n
  · rw [stepV_new ⟨hno, hn, h⟩, cntV_set hlt hn h, decide_eq_true h, Bool.or_true, decide_eq_true (by omega)]
  · rw [stepV_same (fun h2 => h h2.2.2), decide_eq_false h, Bool.or_false, hcb]

end Go.Proofs.Ytbnfdhidgdfbeaa
