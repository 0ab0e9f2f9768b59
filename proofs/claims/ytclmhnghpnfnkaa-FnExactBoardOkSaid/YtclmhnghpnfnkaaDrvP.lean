/- Drivers of all nodes in plain terms. -/
import Derived.Test.YtclmhnghpnfnkaaDrv
namespace Go.Proofs.Ytclmhnghpnfnkaa
set_option maxRecDepth 100000
open Go.RowKit

theorem nodeIn_rnP {d : Dev} {n : Int} : nodeIn d n = true ↔ devOk d = true ∧ 0 ≤ n ∧ n < nodesOf d := by
  unfold nodeIn
  simp only [Bool.and_eq_true, decide_eq_true_eq]
theorem mux_cell {w : World} {d : Dev} {A : Option Addr} {m c : Nat} {ts : List Tile} {n : Int} (hA : RdC w w.heap.size (celT ts) (.slice A m c)) (hc : CfgOk d ts) (hn : nodeIn d n = true) (h5 : ¬ (n % perT d = 5 ∨ n % perT d = 6)) :
    ∃ b o bm om m3 p, A = some ⟨b, o, none⟩ ∧ b < w.heap.size ∧ w.cell? ⟨b, o + (n / perT d).toNat * 4, none⟩ = some (.slice (some ⟨bm, om, none⟩) m3 p) ∧ bm < w.heap.size ∧ w.cell? ⟨bm, om + (selK d n).toNat, none⟩ = some (.int .i64 (selOf d ts n)) ∧ (n / perT d).toNat < m ∧ (selK d n).toNat < m3 := by
  obtain ⟨hlt, hf⟩ := cfg_tile hc hn
  have hsi := sel_in hn h5
  obtain ⟨b, o, S, m3, p, L, l, q, rfl, hb, c0, c1, c2, c3, r0, r1⟩ := hA.tile hlt
  have hI := RdC.ints r0
  have hIL := hI.1
  change (tileAt ts (n / perT d)).mux.length = m3 at hIL
  rw [hf.mux] at hIL
  have htl := hA.tlen
  obtain ⟨bm, om, rfl, hbm, hcm⟩ := hI.2 (by omega)
  have hcx := hcm (selK d n).toNat (by omega)
  exact ⟨b, o, bm, om, m3, p, rfl, hb, c0, hbm, hcx, by omega, by omega⟩

def drvTo (d : Dev) (ts : List Tile) (k : Nat) : List Int := (List.range k).map fun (j : Nat) => drvOf d ts (j : Int)
theorem drvTo_succ (d : Dev) (ts : List Tile) (k : Nat) : drvTo d ts (k + 1) = drvTo d ts k ++ [drvOf d ts (k : Int)] := by simp [drvTo, List.range_succ]
theorem drvTo_length (d : Dev) (ts : List Tile) (k : Nat) : (drvTo d ts k).length = k := by simp [drvTo]
theorem drvOf_live {d : Dev} {ts : List Tile} {n : Int} (h : nodeOk d n = true) (h5 : ¬ (n % perT d = 5 ∨ n % perT d = 6)) : drvOf d ts n = drvSel (selOf d ts n) (srcs d n) := by unfold drvOf; rw [if_pos ⟨h, h5⟩]
theorem drvOf_dead {d : Dev} {ts : List Tile} {n : Int} (h : ¬ (nodeOk d n = true ∧ ¬ (n % perT d = 5 ∨ n % perT d = 6))) : drvOf d ts n = -1 ∧ srcs d n = [] := by
  unfold drvOf srcs
  rw [if_neg h, if_neg h]
  exact ⟨rfl, rfl⟩
theorem drvSel_out {s : Int} {src : List Int} (h : s < 1 ∨ s > (src.length : Int)) (h0 : 0 ≤ s) : drvSel s src = -1 := by unfold drvSel; rw [if_pos (by omega)]
theorem drvSel_in {s : Int} {src : List Int} (h : 1 ≤ s) (h1 : s ≤ (src.length : Int)) : drvSel s src = src[s.toNat - 1]?.getD 0 := by unfold drvSel; rw [if_neg (by omega), show (s - 1).toNat = s.toNat - 1 by omega]

end Go.Proofs.Ytclmhnghpnfnkaa
