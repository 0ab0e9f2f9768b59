/- The tiles of a region: the program's and the reference's are one list. RegionQuiet: whether nothing outside of a region is driven from it: the program's answer. The values of a device's nodes in plain terms: sweeps over the nodes until nothing changes. Plain lemmas. -/
import Derived.Test.YtbnfdhidgdfbeaaEm
import Derived.Test.YtbnfdhidgdfbeaaPads
namespace Go.Proofs.Ytbnfdhidgdfbeaa
set_option maxRecDepth 100000
open Go.RowKit

def inReg (d : Dev) (r : Reg) (t : Int) : Bool := inR (t % d.W) r.X0 r.X1 && inR (t / d.W) r.Y0 r.Y1

def regTo (d : Dev) (r : Reg) : Nat → List Int
  | 0 => []
  | k + 1 => regTo d r k ++ if inReg d r (k : Int) then [(k : Int)] else []
def regTiles (d : Dev) (r : Reg) : List Int := if regOk d r then regTo d r (tiles d) else []
theorem regTo_le (d : Dev) (r : Reg) (k : Nat) : (regTo d r k).length ≤ k := by
  induction k with
  | zero => simp [regTo]
  | succ k ih => unfold regTo; split <;> simp <;> omega
theorem regOk_dev {d : Dev} {r : Reg} (h : regOk d r = true) : devOk d = true := by
  simp only [regOk, Bool.and_eq_true] at h; exact h.1
theorem regTiles_le (d : Dev) (r : Reg) : (regTiles d r).length ≤ 36 := by
  unfold regTiles
  split
  · rename_i h
    have := (tiles_eq (regOk_dev h)).2.2
    have := regTo_le d r (tiles d)
    omega
  · simp

end Go.Proofs.Ytbnfdhidgdfbeaa

namespace Go.Proofs.Ytbnfdhidgdfbeaa
set_option maxRecDepth 100000
open Go.RowKit

/-- Every source is a node, and none is its own. -/
theorem src_node {d : Dev} {n y : Int} (h : y ∈ srcs d n) : nodeIn d y = true ∧ y ≠ n := by
  unfold srcs at h
  split at h
  · rename_i hn
    have hno := hn.1
    unfold nodeOk at hno
    rw [Bool.and_eq_true] at hno
    have ht := node_tile hno.1
    obtain ⟨hd, n0, n1, hq0, hq1, hr0, hr1⟩ := node_tk hno.1
    have hT := devOk_bd hd
    have hp := perT_bd hd
    rw [mem_asc] at h
    unfold itemsOf at h
    have hin : ∀ {q k : Int}, y = q * perT d + k → 0 ≤ q → q < d.W * d.H → 0 ≤ k → k < perT d → nodeIn d y = true := by
      intro q k e q0 q1 k0 k1
      refine nodeIn_rnP.2 ⟨hd, ?_, ?_⟩
      · have := Int.mul_nonneg q0 (show 0 ≤ perT d by omega); omega
      · have h1 : (q + 1) * perT d ≤ d.W * d.H * perT d := Int.mul_le_mul_of_nonneg_right (by omega) (by omega)
        rw [Int.add_mul, Int.one_mul] at h1
        unfold nodesOf
        omega
    rcases List.mem_append.1 h with h | h
    · split at h
      · rename_i h7
        obtain ⟨p, hp2, rfl⟩ := mem_outsOf.1 h
        have hm := outPin_mod ht hp2.1 hp2.2
        have hop := outPins_bd d (n / perT d)
        refine ⟨hin (q := n / perT d) (k := 5 + p) (by rw [outPin_eq ht hp2.1 hp2.2]; omega) hq0 hq1 (by omega) (by omega), fun e => ?_⟩
        rw [e] at hm
        omega
      · simp at h
    · obtain ⟨r, k, s, hr, hk, hs, hu, e, h0⟩ := (mem_candA' hd).1 h
      have hc := cand_ge hd (t := n / perT d) (r := r) (k := k) (s := s) (by omega)
      have hm := cand_mod hd (t := n / perT d) (r := r) (k := k) (s := s) (by omega)
      have hti := tileIn_iff.1 hc.1
      have hk3 : 7 + r * d.T + k < perT d := by
        have := mul_bd hr.1 hr.2 (show 0 ≤ d.T by omega) (Int.le_refl d.T)
        unfold perT
        omega
      refine ⟨hin (q := stepOf d (n / perT d) ((r + 2) % 4) s) (k := 7 + r * d.T + k) (by rw [e, hc.2.2.2.2]) hti.2.1 hti.2.2 (by omega) hk3, fun e2 => ?_⟩
      rw [← e, e2] at hm
      have hst := step_tile hd hti.2.1
      rw [← hm.1] at hst
      obtain ⟨_, _, ex, ey⟩ := hst
      unfold stX at ex
      unfold stY at ey
      have : (r + 2) % 4 = 0 ∨ (r + 2) % 4 = 1 ∨ (r + 2) % 4 = 2 ∨ (r + 2) % 4 = 3 := by omega
      rcases this with h4 | h4 | h4 | h4 <;> rw [h4] at ex ey <;> simp at ex ey <;> omega
  · simp at h
theorem drv_node {d : Dev} {ts : List Tile} {n : Int} (hc : CfgOk d ts) (h : 0 ≤ drvOf d ts n) : nodeIn d (drvOf d ts n) = true ∧ drvOf d ts n ≠ n := by
  unfold drvOf at h ⊢
  split at h
  · rename_i hl
    rw [if_pos hl]
    unfold drvSel at h ⊢
    split at h
    · omega
    · rename_i hs
      rw [if_neg hs]
      refine src_node (n := n) ?_
      rcases Nat.lt_or_ge (selOf d ts n - 1).toNat (srcs d n).length with hlt | hge
      · rw [List.getElem?_eq_getElem hlt]
        exact List.getElem_mem hlt
      · exfalso
        have hni : nodeIn d n = true := by have := hl.1; unfold nodeOk at this; rw [Bool.and_eq_true] at this; exact this.1
        have := sel_bd hc hni hl.2
        omega
  · omega
theorem drv_ge {d : Dev} {ts : List Tile} {n : Int} : -1 ≤ drvOf d ts n := by
  rcases Int.lt_or_le (drvOf d ts n) 0 with h | h
  · unfold drvOf at h ⊢
    split
    · rename_i hl
      rw [if_pos hl] at h
      unfold drvSel at h ⊢
      split
      · omega
      · rename_i hs
        rw [if_neg hs] at h
        rcases Nat.lt_or_ge (selOf d ts n - 1).toNat (srcs d n).length with hlt | hge
        · have hmem := List.getElem_mem hlt
          rw [List.getElem?_eq_getElem hlt, Option.getD_some] at h ⊢
          have h2 := (node_tk (src_node hmem).1).2.1
          omega
        · rw [List.getElem?_eq_none hge]; simp
    · omega
  · omega

def rqOk (d : Dev) (ts : List Tile) (r : Reg) (k : Int) : Bool := decide (drvOf d ts k < 0) || (inReg d r (k / perT d) || !inReg d r (drvOf d ts k / perT d))
def rqF (d : Dev) (fs : List (List Int)) (r : Reg) : Bool := framesOk d fs && (regOk d r && (List.range (nodesOf d).toNat).all fun (k : Nat) => rqOk d (tilesOf d fs) r (k : Int))
theorem rq_bad {d : Dev} {fs : List (List Int)} {r : Reg} {k : Nat} (hk : k < (nodesOf d).toNat) (h : rqOk d (tilesOf d fs) r (k : Int) = false) : rqF d fs r = false := by
  cases hs : rqF d fs r with
  | false => rfl
  | true =>
    simp only [rqF, Bool.and_eq_true, List.all_eq_true, List.mem_range] at hs
    rw [hs.2.2 k hk] at h
    cases h
theorem rq_good {d : Dev} {fs : List (List Int)} {r : Reg} (hf : framesOk d fs = true) (hr : regOk d r = true) (h : ∀ k, k < (nodesOf d).toNat → rqOk d (tilesOf d fs) r ((k : Nat) : Int) = true) : rqF d fs r = true := by
  simp only [rqF, Bool.and_eq_true, List.all_eq_true, List.mem_range]
  exact ⟨hf, hr, h⟩
theorem drvTo_get {d : Dev} {ts : List Tile} {k N : Nat} (h : k < N) : (drvTo d ts N)[k]?.getD 0 = drvOf d ts (k : Int) := by
  unfold drvTo
  rw [List.getElem?_map, List.getElem?_range h]
  rfl

end Go.Proofs.Ytbnfdhidgdfbeaa

namespace Go.Proofs.Ytbnfdhidgdfbeaa
set_option maxRecDepth 100000
open Go.RowKit Cw

def nv (vs : List Int) (i : Int) : Int := vs[i.toNat]?.getD 0
def selV (d : Dev) (vs : List Int) (t s : Int) : Int := if s > 0 then nv vs (t * perT d + s - 1) else 0
def negTo (d : Dev) (vs : List Int) (t : Int) (sel : List Int) : Nat → Bool
  | 0 => false
  | j + 1 => negTo d vs t sel j || decide (selV d vs t (sel[j]?.getD 0) < 0)
def idxTo (d : Dev) (vs : List Int) (t : Int) (sel : List Int) : Nat → Nat
  | 0 => 0
  | j + 1 => idxTo d vs t sel j + (selV d vs t (sel[j]?.getD 0)).toNat * 2 ^ j
def lutF (d : Dev) (vs : List Int) (t : Int) (e : Le) : Int := if negTo d vs t e.sel 4 = true then -1 else ((bit e.mask.toNat (idxTo d vs t e.sel 4) : Nat) : Int)
def leAt (ts : List Tile) (t e : Int) : Le := (tileAt ts t).les[e.toNat]?.getD Le.zero
def pinF (d : Dev) (ts : List Tile) (st pads vs : List Int) (t e : Int) : Int :=
  if kindOf d t = 0 then (if (tileAt ts t).pad = 1 then nv pads t else 0) else if kindOf d t = 2 then nv st (2 * t) % 2 else if (leAt ts t e).flop = 1 then nv st (2 * t + e) else lutF d vs t (leAt ts t e)
def nodeV (d : Dev) (ts : List Tile) (st pads vs : List Int) (n : Int) : Int :=
  if n % perT d = 5 ∨ n % perT d = 6 then pinF d ts st pads vs (n / perT d) (n % perT d - 5) else if 0 ≤ drvOf d ts n then nv vs (drvOf d ts n) else 0
def stepV (d : Dev) (ts : List Tile) (st pads vs : List Int) (n : Int) : List Int :=
  if nodeOk d n = true ∧ nv vs n < 0 ∧ 0 ≤ nodeV d ts st pads vs n then vs.set n.toNat (nodeV d ts st pads vs n) else vs
def sweepTo (d : Dev) (ts : List Tile) (st pads vs : List Int) : Nat → List Int
  | 0 => vs
  | k + 1 => stepV d ts st pads (sweepTo d ts st pads vs k) (k : Int)
def itV (d : Dev) (ts : List Tile) (st pads : List Int) (N : Nat) : Nat → List Int
  | 0 => List.replicate N (-1)
  | j + 1 => sweepTo d ts st pads (itV d ts st pads N j) N
def valsF (d : Dev) (ts : List Tile) (st pads : List Int) : List Int := itV d ts st pads (nodesOf d).toNat ((nodesOf d).toNat + 1)
def cntV (vs : List Int) : Nat := (vs.filter fun x => decide (0 ≤ x)).length
/-- Undetermined, 0 or 1. -/
def In3 (vs : List Int) : Prop := ∀ x ∈ vs, -1 ≤ x ∧ x ≤ 1
theorem in3_nv {vs : List Int} (h : In3 vs) (i : Int) : -1 ≤ nv vs i ∧ nv vs i ≤ 1 := by
  unfold nv
  rcases Nat.lt_or_ge i.toNat vs.length with hlt | hge
  · rw [List.getElem?_eq_getElem hlt]; exact h _ (List.getElem_mem hlt)
  · rw [List.getElem?_eq_none hge]; simp
theorem in3_set {vs : List Int} (h : In3 vs) (k : Nat) {x : Int} (hx : -1 ≤ x ∧ x ≤ 1) : In3 (vs.set k x) := by
  intro y hy
  rcases List.mem_or_eq_of_mem_set hy with hy | rfl
  · exact h y hy
  · exact hx
theorem in3_rep (N : Nat) : In3 (List.replicate N (-1)) := by intro x hx; rw [List.mem_replicate] at hx; omega
theorem selV_in {d : Dev} {vs : List Int} (h : In3 vs) (t s : Int) : -1 ≤ selV d vs t s ∧ selV d vs t s ≤ 1 := by
  unfold selV
  split
  · exact in3_nv h _
  · omega
theorem idxTo_lt {d : Dev} {vs : List Int} (h : In3 vs) (t : Int) (sel : List Int) (j : Nat) : idxTo d vs t sel j < 2 ^ j := by
  induction j with
  | zero => simp [idxTo]
  | succ j ih =>
    have := selV_in (d := d) h t (sel[j]?.getD 0)
    rw [idxTo, Nat.pow_succ]
    have h2 : (selV d vs t (sel[j]?.getD 0)).toNat ≤ 1 := by omega
    have := Nat.mul_le_mul_right (2 ^ j) h2
    omega
theorem negTo_mono {d : Dev} {vs : List Int} {t : Int} {sel : List Int} {j k : Nat} (hjk : j ≤ k) (h : negTo d vs t sel j = true) : negTo d vs t sel k = true := by
  induction k with
  | zero => obtain rfl : j = 0 := by omega
            exact h
  | succ k ih =>
    rcases Nat.lt_or_ge k j with hlt | hge
    · obtain rfl : j = k + 1 := by omega
      exact h
    · rw [negTo, ih hge]; rfl
theorem lutF_in (d : Dev) (vs : List Int) (t : Int) (e : Le) : -1 ≤ lutF d vs t e ∧ lutF d vs t e ≤ 1 := by
  unfold lutF
  split
  · omega
  · have := bit_le e.mask.toNat (idxTo d vs t e.sel 4); omega
/-- States and pads that fit: what the output pins read is 0 or 1. -/
structure StPads (d : Dev) (ts : List Tile) (st pads : List Int) : Prop where
  pad : ∀ t, tileIn d t = true → kindOf d t = 0 → 0 ≤ nv pads t ∧ nv pads t ≤ 1
  sta : ∀ t e, tileIn d t = true → kindOf d t = 1 → 0 ≤ e → e ≤ 1 → 0 ≤ nv st (2 * t + e) ∧ nv st (2 * t + e) ≤ 1
  ram : ∀ t, tileIn d t = true → kindOf d t = 2 → 0 ≤ nv st (2 * t) ∧ nv st (2 * t) ≤ 31
theorem pinF_in {d : Dev} {ts : List Tile} {st pads vs : List Int} (h : StPads d ts st pads) {t e : Int} (ht : tileIn d t = true) (he : 0 ≤ e ∧ e ≤ 1) : -1 ≤ pinF d ts st pads vs t e ∧ pinF d ts st pads vs t e ≤ 1 := by
  unfold pinF
  rcases kindOf_bd d t with hk | hk | hk
  · rw [if_pos hk]; split
    · have := h.pad t ht hk; omega
    · omega
  · rw [if_neg (by omega), if_neg (by omega)]; split
    · have := h.sta t e ht hk he.1 he.2; omega
    · exact lutF_in _ _ _ _
  · rw [if_neg (by omega), if_pos hk]; omega
theorem nodeV_in {d : Dev} {ts : List Tile} {st pads vs : List Int} (h : StPads d ts st pads) (hv : In3 vs) {n : Int} (hn : nodeIn d n = true) : -1 ≤ nodeV d ts st pads vs n ∧ nodeV d ts st pads vs n ≤ 1 := by
  unfold nodeV
  split
  · exact pinF_in h (node_tile hn) (by omega)
  · split
    · exact in3_nv hv _
    · omega
theorem stepV_length (d : Dev) (ts : List Tile) (st pads vs : List Int) (n : Int) : (stepV d ts st pads vs n).length = vs.length := by unfold stepV; split <;> simp
theorem sweepTo_length (d : Dev) (ts : List Tile) (st pads vs : List Int) (k : Nat) : (sweepTo d ts st pads vs k).length = vs.length := by
  induction k with
  | zero => rfl
  | succ k ih => rw [sweepTo, stepV_length, ih]
theorem itV_length (d : Dev) (ts : List Tile) (st pads : List Int) (N j : Nat) : (itV d ts st pads N j).length = N := by
  induction j with
  | zero => simp [itV]
  | succ j ih => rw [itV, sweepTo_length, ih]
theorem stepV_in {d : Dev} {ts : List Tile} {st pads vs : List Int} (h : StPads d ts st pads) (hv : In3 vs) (n : Int) : In3 (stepV d ts st pads vs n) := by
  unfold stepV
  split
  · rename_i hc
    have hni : nodeIn d n = true := by have := hc.1; unfold nodeOk at this; rw [Bool.and_eq_true] at this; exact this.1
    exact in3_set hv _ (nodeV_in h hv hni)
  · exact hv
theorem sweepTo_in {d : Dev} {ts : List Tile} {st pads vs : List Int} (h : StPads d ts st pads) (hv : In3 vs) (k : Nat) : In3 (sweepTo d ts st pads vs k) := by
  induction k with
  | zero => exact hv
  | succ k ih => exact stepV_in h ih _
theorem itV_in {d : Dev} {ts : List Tile} {st pads : List Int} (h : StPads d ts st pads) (N j : Nat) : In3 (itV d ts st pads N j) := by
  induction j with
  | zero => exact in3_rep N
  | succ j ih => exact sweepTo_in h ih _
theorem cntV_set {vs : List Int} {k : Nat} (hk : k < vs.length) (h : vs[k]?.getD 0 < 0) {x : Int} (hx : 0 ≤ x) : cntV (vs.set k x) = cntV vs + 1 := by
  induction vs generalizing k with
  | nil => simp at hk
  | cons y vs ih =>
    cases k with
    | zero =>
      simp only [List.getElem?_cons_zero, Option.getD_some] at h
      unfold cntV
      rw [List.set_cons_zero, List.filter_cons_of_pos (by simpa using hx), List.filter_cons_of_neg (by simp; omega)]
      simp
    | succ k =>
      have := ih (k := k) (by simpa using hk) (by simpa using h)
      unfold cntV at *
      rw [List.set_cons_succ, List.filter_cons, List.filter_cons]
      split <;> simp [this]
theorem cntV_le (vs : List Int) : cntV vs ≤ vs.length := List.length_filter_le _ _
/-- A step changes nothing, or determines one node more. -/
theorem stepV_cnt (d : Dev) (ts : List Tile) (st pads vs : List Int) (n : Int) : (stepV d ts st pads vs n = vs) ∨ cntV (stepV d ts st pads vs n) = cntV vs + 1 := by
  unfold stepV
  split
  · rename_i hc
    rcases Nat.lt_or_ge n.toNat vs.length with hlt | hge
    · exact .inr (cntV_set hlt hc.2.1 hc.2.2)
    · have := hc.2.1
      unfold nv at this
      rw [List.getElem?_eq_none hge] at this
      simp at this
  · exact .inl rfl
theorem sweepTo_cnt (d : Dev) (ts : List Tile) (st pads vs : List Int) (k : Nat) : cntV vs ≤ cntV (sweepTo d ts st pads vs k) ∧ (cntV (sweepTo d ts st pads vs k) = cntV vs → sweepTo d ts st pads vs k = vs) := by
  induction k with
  | zero => exact ⟨Nat.le_refl _, fun _ => rfl⟩
  | succ k ih =>
    rw [sweepTo]
    rcases stepV_cnt d ts st pads (sweepTo d ts st pads vs k) (k : Int) with h | h
    · rw [h]; exact ih
    · rw [h]; exact ⟨by omega, fun h2 => by omega⟩
theorem itV_fix {d : Dev} {ts : List Tile} {st pads : List Int} {N j : Nat} (h : sweepTo d ts st pads (itV d ts st pads N j) N = itV d ts st pads N j) : ∀ i, itV d ts st pads N (j + i) = itV d ts st pads N j
  | 0 => rfl
  | i + 1 => by rw [← Nat.add_assoc, itV, itV_fix h i, h]
theorem valsF_of {d : Dev} {ts : List Tile} {st pads : List Int} {j : Nat} (hj : j ≤ (nodesOf d).toNat) (h : sweepTo d ts st pads (itV d ts st pads (nodesOf d).toNat j) (nodesOf d).toNat = itV d ts st pads (nodesOf d).toNat j) : valsF d ts st pads = itV d ts st pads (nodesOf d).toNat j := by
  have := itV_fix h ((nodesOf d).toNat + 1 - j)
  rw [show j + ((nodesOf d).toNat + 1 - j) = (nodesOf d).toNat + 1 by omega] at this
  exact this
theorem valsF_length (d : Dev) (ts : List Tile) (st pads : List Int) : (valsF d ts st pads).length = (nodesOf d).toNat := itV_length _ _ _ _ _ _
/-- After as many sweeps as there are nodes nothing changes. -/
theorem valsF_fix (d : Dev) (ts : List Tile) (st pads : List Int) : sweepTo d ts st pads (valsF d ts st pads) (nodesOf d).toNat = valsF d ts st pads := by
  unfold valsF
  generalize (nodesOf d).toNat = N
  have key : ∀ j, (sweepTo d ts st pads (itV d ts st pads N j) N = itV d ts st pads N j) ∨ j + 1 ≤ cntV (itV d ts st pads N (j + 1)) := by
    intro j
    induction j with
    | zero =>
      have := sweepTo_cnt d ts st pads (itV d ts st pads N 0) N
      change cntV (itV d ts st pads N 0) ≤ cntV (itV d ts st pads N (0 + 1)) ∧ (cntV (itV d ts st pads N (0 + 1)) = cntV (itV d ts st pads N 0) → _) at this
      rcases Nat.lt_or_ge (cntV (itV d ts st pads N 0)) (cntV (itV d ts st pads N (0 + 1))) with hlt | hge
      · exact .inr (by omega)
      · exact .inl (this.2 (by omega))
    | succ j ih =>
      rcases ih with h | h
      · left
        have := itV_fix h 1
        rw [this]; exact h
      · have := sweepTo_cnt d ts st pads (itV d ts st pads N (j + 1)) N
        change cntV (itV d ts st pads N (j + 1)) ≤ cntV (itV d ts st pads N (j + 1 + 1)) ∧ (cntV (itV d ts st pads N (j + 1 + 1)) = cntV (itV d ts st pads N (j + 1)) → _) at this
        rcases Nat.lt_or_ge (cntV (itV d ts st pads N (j + 1))) (cntV (itV d ts st pads N (j + 1 + 1))) with hlt | hge
        · exact .inr (by omega)
        · exact .inl (this.2 (by omega))
  rcases key (N + 1) with h | h
  · exact h
  · have := cntV_le (itV d ts st pads N (N + 1 + 1))
    rw [itV_length] at this
    omega

/-! ### which nodes are determined does not depend on the state or the pads -/
def Same (vs us : List Int) : Prop := vs.length = us.length ∧ ∀ i, nv vs i < 0 ↔ nv us i < 0
theorem same_sel {d : Dev} {vs us : List Int} (h : Same vs us) (t s : Int) : selV d vs t s < 0 ↔ selV d us t s < 0 := by
  unfold selV
  split
  · exact h.2 _
  · exact Iff.rfl
theorem same_neg {d : Dev} {vs us : List Int} (h : Same vs us) (t : Int) (sel : List Int) (j : Nat) : negTo d vs t sel j = negTo d us t sel j := by
  induction j with
  | zero => rfl
  | succ j ih =>
    rw [negTo, negTo, ih]
    congr 1
    exact decide_eq_decide.2 (same_sel h t _)
theorem lutF_neg {d : Dev} {vs : List Int} {t : Int} {e : Le} : lutF d vs t e < 0 ↔ negTo d vs t e.sel 4 = true := by
  unfold lutF
  split
  · rename_i h; simp [h]
  · rename_i h
    constructor
    · intro h2; omega
    · intro h2; exact absurd h2 h
theorem same_pin {d : Dev} {ts : List Tile} {st pads st' pads' vs us : List Int} (h : StPads d ts st pads) (h' : StPads d ts st' pads') (hs : Same vs us) {t e : Int} (ht : tileIn d t = true) (he : 0 ≤ e ∧ e ≤ 1) : pinF d ts st pads vs t e < 0 ↔ pinF d ts st' pads' us t e < 0 := by
  unfold pinF
  rcases kindOf_bd d t with hk | hk | hk
  · rw [if_pos hk, if_pos hk]
    split
    · have := h.pad t ht hk
      have := h'.pad t ht hk
      omega
    · exact Iff.rfl
  · simp only [hk, show ¬ (1 : Int) = 0 by omega, show ¬ (1 : Int) = 2 by omega, if_false]
    by_cases hf : (leAt ts t e).flop = 1
    · rw [if_pos hf, if_pos hf]
      have := h.sta t e ht hk he.1 he.2
      have := h'.sta t e ht hk he.1 he.2
      omega
    · rw [if_neg hf, if_neg hf, lutF_neg, lutF_neg, same_neg hs]
  · rw [if_neg (by omega), if_pos hk, if_neg (by omega), if_pos hk]; omega
theorem same_node {d : Dev} {ts : List Tile} {st pads st' pads' vs us : List Int} (h : StPads d ts st pads) (h' : StPads d ts st' pads') (hs : Same vs us) {n : Int} (hn : nodeIn d n = true) : nodeV d ts st pads vs n < 0 ↔ nodeV d ts st' pads' us n < 0 := by
  unfold nodeV
  split
  · exact same_pin h h' hs (node_tile hn) (by omega)
  · split
    · exact hs.2 _
    · exact Iff.rfl
theorem nv_set {vs : List Int} {k : Nat} (hk : k < vs.length) (x i : Int) : nv (vs.set k x) i = if i.toNat = k then x else nv vs i := by
  unfold nv
  rw [List.getElem?_set]
  split
  · rename_i h
    subst h
    simp
  · rename_i h
    rw [if_neg (fun e => h e.symm)]
theorem same_step {d : Dev} {ts : List Tile} {st pads st' pads' vs us : List Int} (h : StPads d ts st pads) (h' : StPads d ts st' pads') (hs : Same vs us) (n : Int) : Same (stepV d ts st pads vs n) (stepV d ts st' pads' us n) := by
  refine ⟨by rw [stepV_length, stepV_length]; exact hs.1, fun i => ?_⟩
  unfold stepV
  cases hno : nodeOk d n with
  | false => simp only [Bool.false_eq_true, false_and, if_false]; exact hs.2 i
  | true =>
    have hni : nodeIn d n = true := by unfold nodeOk at hno; rw [Bool.and_eq_true] at hno; exact hno.1
    have hnode := same_node h h' hs hni
    have hn := hs.2 n
    by_cases hc : nv vs n < 0 ∧ 0 ≤ nodeV d ts st pads vs n
    · have hl : n.toNat < vs.length := by
        rcases Nat.lt_or_ge n.toNat vs.length with hlt | hge
        · exact hlt
        · have := hc.1; unfold nv at this; rw [List.getElem?_eq_none hge] at this; simp at this
      rw [if_pos ⟨rfl, hc⟩, if_pos ⟨rfl, by omega, by omega⟩, nv_set hl, nv_set (by rw [← hs.1]; exact hl)]
      split
      · omega
      · exact hs.2 i
    · rw [if_neg (by rintro ⟨_, h1⟩; exact hc h1), if_neg (by rintro ⟨_, h1, h2⟩; exact hc ⟨by omega, by omega⟩)]
      exact hs.2 i
theorem same_sweep {d : Dev} {ts : List Tile} {st pads st' pads' vs us : List Int} (h : StPads d ts st pads) (h' : StPads d ts st' pads') (hs : Same vs us) (k : Nat) : Same (sweepTo d ts st pads vs k) (sweepTo d ts st' pads' us k) := by
  induction k with
  | zero => exact hs
  | succ k ih => exact same_step h h' ih _
theorem same_it {d : Dev} {ts : List Tile} {st pads st' pads' : List Int} (h : StPads d ts st pads) (h' : StPads d ts st' pads') (N j : Nat) : Same (itV d ts st pads N j) (itV d ts st' pads' N j) := by
  induction j with
  | zero => exact ⟨rfl, fun _ => Iff.rfl⟩
  | succ j ih => exact same_sweep h h' ih _
theorem same_vals {d : Dev} {ts : List Tile} {st pads st' pads' : List Int} (h : StPads d ts st pads) (h' : StPads d ts st' pads') : Same (valsF d ts st pads) (valsF d ts st' pads') := same_it h h' _ _
end Go.Proofs.Ytbnfdhidgdfbeaa
