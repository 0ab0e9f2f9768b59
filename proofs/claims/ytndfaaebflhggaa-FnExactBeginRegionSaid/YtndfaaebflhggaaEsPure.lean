/- Undetermined: how many nodes have no value: the program. Undetermined: how many nodes have no value: the reference. EmuValues: the values of all nodes: which arguments are valid; the pads' check of both. SeqNext of a memory, both: one answer. A step of the emulator: the next state and the outputs as lists. EmuStep: the next state and the outputs, or nothing. -/
import Derived.Deep.CutBlock
import Derived.Deep.CutRange
import Derived.Deep.DeepCutAuto
import Derived.Test.YtndfaaebflhggaaHar
import Derived.Test.YtndfaaebflhggaaStartS
import Derived.Test.YtndfaaebflhggaaValS
import Derived.Test.YtndfaaebflhggaaValS2
namespace Go.Proofs.Ytndfaaebflhggaa
set_option maxRecDepth 100000
open Go.RowKit

def undTo (d : Dev) (vs : List Int) : Nat → Nat
  | 0 => 0
  | k + 1 => undTo d vs k + (if (nodeOk d (k : Int) && decide (nv vs (k : Int) < 0)) = true then 1 else 0)
theorem undTo_le (d : Dev) (vs : List Int) (k : Nat) : undTo d vs k ≤ k := by
  induction k with
  | zero => exact Nat.le_refl _
  | succ k ih => rw [undTo]; split <;> omega
theorem undTo_yes {d : Dev} {vs : List Int} {k : Nat} (h : nodeOk d (k : Int) = true) (h0 : nv vs (k : Int) < 0) : undTo d vs (k + 1) = undTo d vs k + 1 := by rw [undTo, h, decide_eq_true h0]; rfl
theorem undTo_no {d : Dev} {vs : List Int} {k : Nat} (h : nodeOk d (k : Int) = false ∨ ¬ nv vs (k : Int) < 0) : undTo d vs (k + 1) = undTo d vs k := by
  rw [undTo]
  rcases h with h | h
  · rw [h]; rfl
  · rw [decide_eq_false h, Bool.and_false]; rfl
theorem undTo_same {d : Dev} {vs us : List Int} (h : Same vs us) (k : Nat) : undTo d vs k = undTo d us k := by
  induction k with
  | zero => rfl
  | succ k ih => rw [undTo, undTo, ih, decide_eq_decide.2 (h.2 (k : Int))]
def undF (d : Dev) (fs : List (List Int)) : Int := if framesOk d fs = true then ((undTo d (valsF d (tilesOf d fs) (List.replicate (2 * tiles d) 0) (List.replicate (tiles d) 0)) (nodesOf d).toNat : Nat) : Int) else -1
theorem nv_zeros (n : Nat) (i : Int) : nv (List.replicate n 0) i = 0 := by
  unfold nv
  rw [List.getElem?_replicate]
  split <;> rfl
theorem stPads_zeros (d : Dev) (ts : List Tile) (a b : Nat) : StPads d ts (List.replicate a 0) (List.replicate b 0) :=
  ⟨fun _ _ _ => by rw [nv_zeros]; omega, fun _ _ _ _ _ _ => by rw [nv_zeros]; omega, fun _ _ _ => by rw [nv_zeros]; omega⟩
theorem ints_made {w : World} {g n : Nat} (h : w.heap[g]? = some (.cells (arr (List.replicate n 0)) 3 (0, 0))) (hn : n ≤ 1000) : Ints w (some ⟨g, 0, none⟩) n (List.replicate n 0) :=
  (Own.made (base := 0) h (Nat.zero_le _) (Nat.le_trans hn (by decide)) (by simp [arr]) (by simp)).ints

end Go.Proofs.Ytndfaaebflhggaa

namespace Go.Proofs.Ytndfaaebflhggaa
set_option maxRecDepth 100000
open Go.RowKit

theorem startTo_get {d : Dev} {ts : List Tile} {m k : Nat} (h : k < m) {e : Nat} (he : e < 2) : (startTo d ts m)[2 * k + e]?.getD 0 = (startOf d k (ts[k]?.getD Tile.zero))[e]?.getD 0 := by
  induction m with
  | zero => omega
  | succ m ih =>
    rw [startTo]
    rcases Nat.lt_or_ge k m with hk | hk
    · rw [List.getElem?_append_left (by rw [startTo_length]; omega)]
      exact ih hk
    · have : k = m := by omega
      subst this
      rw [List.getElem?_append_right (by rw [startTo_length]; omega), startTo_length, show 2 * k + e - 2 * k = e by omega]
theorem stPads_start {d : Dev} {fs : List (List Int)} (hf : framesOk d fs = true) (b : Nat) : StPads d (tilesOf d fs) (startF d fs) (List.replicate b 0) := by
  have hc := cfg_of_frames hf
  have hr : readF d fs = tilesOf d fs := by rw [readF, if_pos hf]
  have key : ∀ t : Int, tileIn d t = true → ∃ k : Nat, t = (k : Int) ∧ k < (tilesOf d fs).length := fun t ht => by
    have h := (le_fit (e := 0) hc ht (by omega)).2.2.1
    have h0 := (tileIn_iff.1 ht).2.1
    exact ⟨t.toNat, by omega, h⟩
  refine ⟨fun _ _ _ => by rw [nv_zeros]; omega, fun t e ht hk h0 h1 => ?_, fun t ht hk => ?_⟩
  · obtain ⟨k, rfl, hlt⟩ := key t ht
    have l0 := (le_fit (e := 0) hc ht (by omega)).1.init
    have l1 := (le_fit (e := 1) hc ht (by omega)).1.init
    obtain ⟨n, rfl⟩ := Int.eq_ofNat_of_zero_le h0
    unfold nv startF
    rw [hr, show (2 * (k : Int) + (n : Int)).toNat = 2 * k + n by omega, startTo_get hlt (by omega)]
    unfold startOf
    rw [if_pos hk]
    have hn : n = 0 ∨ n = 1 := by omega
    rcases hn with rfl | rfl
    · exact l0
    · exact l1
  · obtain ⟨k, rfl, hlt⟩ := key (t := t) ht
    have lr := (le_fit (e := 0) hc ht (by omega)).2.2.2.ram
    unfold nv startF
    rw [hr, show (2 * (k : Int)).toNat = 2 * k + 0 by omega, startTo_get hlt (by omega)]
    unfold startOf
    rw [if_neg (by omega), if_pos hk]
    exact lr
theorem own_low {a b w : World} {A : Option Addr} {n c : Nat} {xs : List Int} (h : Below a.heap.size a b) (o : Own b.heap.size w A n c xs) : Own a.heap.size w A n c xs := o.more h.size

end Go.Proofs.Ytndfaaebflhggaa

namespace Go.Proofs.Ytndfaaebflhggaa
set_option maxRecDepth 100000
open Go.RowKit

def padsOk (d : Dev) (ps : List Int) : Bool := wordsOk ps (d.W * d.H) 1
def allOk (d : Dev) (fs : List (List Int)) (st ps : List Int) : Bool := framesOk d fs && (stOk d st && padsOk d ps)
def evF (d : Dev) (fs : List (List Int)) (st ps : List Int) : List Int := if allOk d fs st ps = true then valsF d (tilesOf d fs) st ps else []
theorem allIn_any {ws : List Int} {most : Int} (h : allIn ws most = true) (hm : 0 ≤ most) (k : Nat) : 0 ≤ ws[k]?.getD 0 ∧ ws[k]?.getD 0 ≤ most := by
  rcases Nat.lt_or_ge k ws.length with hk | hk
  · exact allIn_get h hk
  · rw [List.getElem?_eq_none hk]; exact ⟨Int.le_refl _, hm⟩
theorem padsOk_len {d : Dev} {ps : List Int} (h : padsOk d ps = true) : (ps.length : Int) = d.W * d.H ∧ allIn ps 1 = true := by
  unfold padsOk wordsOk at h
  rw [Bool.and_eq_true, decide_eq_true_eq] at h
  exact h
theorem stOk_len {d : Dev} {st : List Int} (h : stOk d st = true) : st.length = 2 * tiles d := by
  simp only [stOk, Bool.and_eq_true, decide_eq_true_eq] at h
  exact h.2.1
theorem mostOf_pos (d : Dev) (i : Nat) : 0 ≤ mostOf d i := by unfold mostOf; split <;> (try split) <;> omega
theorem stOk_any {d : Dev} {st : List Int} (h : stOk d st = true) (i : Nat) : 0 ≤ st[i]?.getD 0 ∧ st[i]?.getD 0 ≤ mostOf d i := by
  rcases Nat.lt_or_ge i st.length with hk | hk
  · simp only [stOk, Bool.and_eq_true, List.all_eq_true, List.mem_range] at h
    exact inR_iff.1 (h.2.2 i hk)
  · rw [List.getElem?_eq_none hk]; exact ⟨Int.le_refl _, mostOf_pos d i⟩
theorem stPads_ok {d : Dev} {ts : List Tile} {st ps : List Int} (hs : stOk d st = true) (hp : padsOk d ps = true) : StPads d ts st ps := by
  refine ⟨fun t _ _ => allIn_any (padsOk_len hp).2 (by omega) _, fun t e ht hk h0 h1 => ?_, fun t ht hk => ?_⟩
  · have ht0 := (tileIn_iff.1 ht).2.1
    have h := stOk_any hs (2 * t + e).toNat
    unfold nv
    have hx : (((2 * t + e).toNat / 2 : Nat) : Int) = t := by omega
    rw [mostOf, hx, if_pos hk] at h
    exact h
  · have ht0 := (tileIn_iff.1 ht).2.1
    have h := stOk_any hs (2 * t).toNat
    unfold nv
    have hx : (((2 * t).toNat / 2 : Nat) : Int) = t := by omega
    rw [mostOf, hx, if_neg (by omega), if_pos ⟨hk, by omega⟩] at h
    exact h
theorem evF_good {d : Dev} {fs : List (List Int)} {st ps : List Int} (h : allOk d fs st ps = true) : evF d fs st ps = valsF d (tilesOf d fs) st ps := if_pos h
theorem evF_bad {d : Dev} {fs : List (List Int)} {st ps : List Int} (h : allOk d fs st ps = false) : evF d fs st ps = [] := if_neg (by rw [h]; decide)
theorem evF_le (d : Dev) (fs : List (List Int)) (st ps : List Int) : (evF d fs st ps).length ≤ 1000000 := by
  cases h : allOk d fs st ps with
  | false => rw [evF_bad h]; decide
  | true =>
    rw [evF_good h, valsF_length]
    simp only [allOk, Bool.and_eq_true] at h
    have := nodesOf_bd (framesOk_iff h.1).1
    omega

theorem rdC_dr {w : World} {c : Cel} {v : Value} (h : RdC w w.heap.size c v) : RdC w.drew w.drew.heap.size c v := RdC.keep (w := w) (w' := w.drew) (B := w.heap.size) (B' := w.heap.size) (Nat.le_refl _) (fun _ _ => rfl) h

end Go.Proofs.Ytndfaaebflhggaa

namespace Go.Proofs.Ytndfaaebflhggaa
set_option maxRecDepth 100000
open Go.RowKit

/-- The next state of a memory of four bits and an output bit. -/
def ramOut (v a : Nat) : Nat := v / 2 * 2 + v / 2 ^ a % 2
def ramNext (v i : Nat) : Nat := if i / 8 % 2 = 1 then ramOut v (i % 4 + 1) - ramOut v (i % 4 + 1) / 2 ^ (i % 4 + 1) % 2 * 2 ^ (i % 4 + 1) + i / 4 % 2 * 2 ^ (i % 4 + 1) else ramOut v (i % 4 + 1)
theorem ramNext_le (v i : Nat) (hv : v ≤ 31) (hi : i ≤ 15) : ramNext v i ≤ 31 := by
  have h : ∀ v : Fin 32, ∀ i : Fin 16, ramNext v.val i.val ≤ 31 := by decide +kernel
  exact h ⟨v, by omega⟩ ⟨i, by omega⟩
end Go.Proofs.Ytndfaaebflhggaa

namespace Go.Proofs.Ytndfaaebflhggaa
set_option maxRecDepth 100000
open Go.RowKit

def mx (x : Int) : Int := if 0 < x then x else 0
def inTo (d : Dev) (vs : List Int) (t : Int) : Nat → Nat
  | 0 => 0
  | k + 1 => inTo d vs t k + (mx (nv vs (t * perT d + (k : Int)))).toNat * 2 ^ k
theorem mx_in {vs : List Int} (h : In3 vs) (i : Int) : 0 ≤ mx (nv vs i) ∧ mx (nv vs i) ≤ 1 := by
  have := in3_nv h i
  unfold mx; split <;> omega
theorem inTo_lt {d : Dev} {vs : List Int} (h : In3 vs) (t : Int) (k : Nat) : inTo d vs t k < 2 ^ k := by
  induction k with
  | zero => simp [inTo]
  | succ k ih =>
    have hm := mx_in h (t * perT d + (k : Int))
    rw [inTo, Nat.pow_succ]
    have h2 : (mx (nv vs (t * perT d + (k : Int)))).toNat * 2 ^ k ≤ 1 * 2 ^ k := Nat.mul_le_mul_right _ (by omega)
    omega
def flopSet (d : Dev) (ts : List Tile) (vs : List Int) (k : Nat) (l : List Int) (e : Nat) : List Int :=
  if (leAt ts (k : Int) (e : Int)).flop = 1 then l.set (2 * k + e) (mx (lutF d vs (k : Int) (leAt ts (k : Int) (e : Int)))) else l
def flopTo (d : Dev) (ts : List Tile) (vs : List Int) (k : Nat) (l : List Int) : Nat → List Int
  | 0 => l
  | e + 1 => flopSet d ts vs k (flopTo d ts vs k l e) e
def nx1 (d : Dev) (ts : List Tile) (st vs : List Int) (k : Nat) (l : List Int) : List Int :=
  if kindOf d (k : Int) = 1 then flopTo d ts vs k l 2
  else if kindOf d (k : Int) = 2 then l.set (2 * k) ((ramNext (st[2 * k]?.getD 0).toNat (inTo d vs (k : Int) 4) : Nat) : Int) else l
def nextTo (d : Dev) (ts : List Tile) (st vs : List Int) : Nat → List Int
  | 0 => st
  | k + 1 => nx1 d ts st vs k (nextTo d ts st vs k)
def ou1 (d : Dev) (ts : List Tile) (vs : List Int) (k : Nat) (l : List Int) : List Int :=
  if kindOf d (k : Int) = 0 ∧ (ts[k]?.getD Tile.zero).pad = 2 then l.set k (mx (nv vs ((k : Int) * perT d))) else l
def outTo (d : Dev) (ts : List Tile) (vs : List Int) (m : Nat) : Nat → List Int
  | 0 => List.replicate m 0
  | k + 1 => ou1 d ts vs k (outTo d ts vs m k)
theorem flopSet_length (d : Dev) (ts : List Tile) (vs : List Int) (k : Nat) (l : List Int) (e : Nat) : (flopSet d ts vs k l e).length = l.length := by unfold flopSet; split <;> simp
theorem flopTo_length (d : Dev) (ts : List Tile) (vs : List Int) (k : Nat) (l : List Int) (e : Nat) : (flopTo d ts vs k l e).length = l.length := by
  induction e with
  | zero => rfl
  | succ e ih => rw [flopTo, flopSet_length, ih]
theorem nextTo_length (d : Dev) (ts : List Tile) (st vs : List Int) (k : Nat) : (nextTo d ts st vs k).length = st.length := by
  induction k with
  | zero => rfl
  | succ k ih => rw [nextTo, nx1]; split <;> (try split) <;> simp [flopTo_length, ih]
theorem outTo_length (d : Dev) (ts : List Tile) (vs : List Int) (m k : Nat) : (outTo d ts vs m k).length = m := by
  induction k with
  | zero => simp [outTo]
  | succ k ih => rw [outTo, ou1]; split <;> simp [ih]
def nextF (d : Dev) (ts : List Tile) (st ps : List Int) : List Int := nextTo d ts st (valsF d ts st ps) ts.length
def outF (d : Dev) (ts : List Tile) (st ps : List Int) : List Int := outTo d ts (valsF d ts st ps) ts.length ts.length
theorem valsF_in3 {d : Dev} {ts : List Tile} {st ps : List Int} (h : StPads d ts st ps) : In3 (valsF d ts st ps) := itV_in h _ _
end Go.Proofs.Ytndfaaebflhggaa

namespace Go.Proofs.Ytndfaaebflhggaa
set_option maxRecDepth 100000
open Go.RowKit

def esN (d : Dev) (fs : List (List Int)) (st ps : List Int) : List Int := if allOk d fs st ps = true then nextF d (tilesOf d fs) st ps else []
def esO (d : Dev) (fs : List (List Int)) (st ps : List Int) : List Int := if allOk d fs st ps = true then outF d (tilesOf d fs) st ps else []
theorem esN_good {d : Dev} {fs : List (List Int)} {st ps : List Int} (h : allOk d fs st ps = true) : esN d fs st ps = nextF d (tilesOf d fs) st ps := if_pos h
theorem esN_bad {d : Dev} {fs : List (List Int)} {st ps : List Int} (h : allOk d fs st ps = false) : esN d fs st ps = [] := if_neg (by rw [h]; decide)
theorem esO_good {d : Dev} {fs : List (List Int)} {st ps : List Int} (h : allOk d fs st ps = true) : esO d fs st ps = outF d (tilesOf d fs) st ps := if_pos h
theorem esO_bad {d : Dev} {fs : List (List Int)} {st ps : List Int} (h : allOk d fs st ps = false) : esO d fs st ps = [] := if_neg (by rw [h]; decide)
theorem allOk_parts {d : Dev} {fs : List (List Int)} {st ps : List Int} (h : allOk d fs st ps = true) : framesOk d fs = true ∧ stOk d st = true ∧ padsOk d ps = true := by simpa [allOk] using h
theorem esN_le (d : Dev) (fs : List (List Int)) (st ps : List Int) : (esN d fs st ps).length ≤ 1000000 := by
  cases h : allOk d fs st ps with
  | false => rw [esN_bad h]; decide
  | true =>
    obtain ⟨h1, h2, h3⟩ := allOk_parts h
    rw [esN_good h, nextF, nextTo_length, stOk_len h2]
    have := tiles_eq (framesOk_iff h1).1
    omega
theorem esO_le (d : Dev) (fs : List (List Int)) (st ps : List Int) : (esO d fs st ps).length ≤ 1000000 := by
  cases h : allOk d fs st ps with
  | false => rw [esO_bad h]; decide
  | true =>
    obtain ⟨h1, h2, h3⟩ := allOk_parts h
    rw [esO_good h, outF, outTo_length, tilesOf_length]
    have := (frames_n h1).2
    omega
/-- Two rows of the call's own that lie apart. -/
def Apart (lo hi : Nat) (A1 A2 : Option Addr) : Prop := ∃ mid, lo ≤ mid ∧ mid ≤ hi ∧ Lies A1 lo mid ∧ Lies A2 mid hi
theorem Apart.nil {lo hi : Nat} (h : lo ≤ hi) : Apart lo hi none none := ⟨lo, Nat.le_refl _, h, by rintro a ⟨⟩, by rintro a ⟨⟩⟩
theorem Apart.more {lo lo' hi hi' : Nat} {A1 A2 : Option Addr} (h : Apart lo hi A1 A2) (h1 : lo' ≤ lo) (h2 : hi ≤ hi') : Apart lo' hi' A1 A2 := by
  obtain ⟨mid, a, b, c, e⟩ := h
  exact ⟨mid, by omega, by omega, fun x hx => ⟨by have := (c x hx).1; omega, (c x hx).2⟩, fun x hx => ⟨(e x hx).1, by have := (e x hx).2; omega⟩⟩
end Go.Proofs.Ytndfaaebflhggaa
