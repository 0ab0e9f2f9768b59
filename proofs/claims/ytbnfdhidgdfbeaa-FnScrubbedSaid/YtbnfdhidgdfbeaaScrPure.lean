/- FlipBit and FlipFrame: the program's and the reference's answers are one. Changing what the call owns: a cell, or what lies behind a cell. Plain lemmas. Codewords of one flipped bit are repaired; frames with such codewords are scrubbed back: plain lemmas. -/
import Derived.Deep.DrawnRows
import Derived.Test.YtbnfdhidgdfbeaaBldS
import Derived.Test.YtbnfdhidgdfbeaaCopies
import Derived.Test.YtbnfdhidgdfbeaaScrub
import Derived.Test.YtbnfdhidgdfbeaaStart
namespace Go.Proofs.Ytbnfdhidgdfbeaa
set_option maxRecDepth 100000
open Go.RowKit

def flipBit (code bit : Int) : Int := if (inR code 0 4194303 && inR bit 0 21) = true then bits .xor .i64 code (2 ^ bit.toNat) else code

set_option maxHeartbeats 400000 in
theorem flipBit_any (code bit : Int) (w : World) :
    Calls Try.prog 59 #[.int .i64 code, .int .i64 bit] w fun e w' => e = .returned (.int .i64 (flipBit code bit)) ∧ w = w' := by
  have HF : Hid (flipBit code bit = if (inR code 0 4194303 && inR bit 0 21) = true then bits .xor .i64 code (2 ^ bit.toNat) else code) := rfl
  cases h1 : inR code 0 4194303 with
  | false =>
    go_enter Try.func59, Try.ntmps59
    go_wp2_with (go_at_call 57; refine (inRange_any _ _ _ _).mono ?_; rintro e w' ⟨rfl, rfl⟩)
    go_ret
    exact ⟨ret_int (by rw [HF.out, h1]; simp), rfl⟩
  | true =>
    cases h2 : inR bit 0 21 with
    | false =>
      go_enter Try.func59, Try.ntmps59
      go_wp2_with (go_at_call 57; refine (inRange_any _ _ _ _).mono ?_; rintro e w' ⟨rfl, rfl⟩)
      go_ret
      exact ⟨ret_int (by rw [HF.out, h2]; simp), rfl⟩
    | true =>
      have hb := inR_iff.1 h2
      have HW := Lib.hid (wrap_pow (k := bit.toNat) (by omega))
      rw [h1, h2] at HF
      obtain ⟨b, rfl⟩ := Int.eq_ofNat_of_zero_le hb.1
      go_enter Try.func59, Try.ntmps59
      go_wp2_with (go_at_call 57; refine (inRange_any _ _ _ _).mono ?_; rintro e w' ⟨rfl, rfl⟩)
      go_ret
      have e1 := HW.out
      simp only [Int.toNat_natCast] at e1
      exact ⟨ret_int (by rw [HF.out, e1]; simp), rfl⟩

attribute [local go_sem ↓] Go.wp_at_zero Go.wp_at_succ
def flipOk (d : Dev) (fs : List (List Int)) (t k b : Int) : Bool := framesOk d fs && (inR t 0 ((fs.length : Int) - 1) && (inR k 0 (fwI d - 1) && inR b 0 21))
def flipFrame (d : Dev) (fs : List (List Int)) (t k b : Int) : List (List Int) :=
  if flipOk d fs t k b = true then fs.set t.toNat ((fs[t.toNat]?.getD []).set k.toNat (flipBit ((fs[t.toNat]?.getD [])[k.toNat]?.getD 0) b)) else fs

theorem size2_set {fs : List (List Int)} {t : Nat} {f : List Int} (h : t < fs.length → f.length = (fs[t]?.getD []).length) : size2 (fs.set t f) = size2 fs := by
  unfold size2
  rw [List.length_set, sizeTo_congr (yss := fs)]
  intro j
  rw [List.getElem?_set]
  by_cases hj : t = j
  · subst hj
    by_cases hl : t < fs.length
    · simp [hl, h hl]
    · simp [hl]
  · simp [hj]
theorem flipFrame_le {d : Dev} {fs : List (List Int)} {t k b : Int} {M : Nat} (h : size2 fs ≤ M) : size2 (flipFrame d fs t k b) ≤ M := by
  unfold flipFrame
  split
  · rw [size2_set (by intro hl; simp)]; exact h
  · exact h

set_option maxHeartbeats 2000000 in
theorem flipFrame_any (d : Dev) (A : Option Addr) (n c : Nat) (fs : List (List Int)) (t k b : Int) (w : World) (hA : Rows2 w A n fs) (hz : size2 fs ≤ 1099511627776) :
    Calls Try.prog 22 #[.agg #[.int .i64 d.W, .int .i64 d.H, .int .i64 d.T, .int .i64 d.R], .slice A n c, .int .i64 t, .int .i64 k, .int .i64 b] w fun e w' => ∃ A' n' c', e = .returned (.tuple #[.slice A' n' c', .bool (flipOk d fs t k b)]) ∧ Own2 w.heap.size w'.heap.size w' A' n' c' (flipFrame d fs t k b) ∧ Below w.heap.size w w' := by
  have hX := hA.1
  have hn := (size2_bd hX hz).1
  have HX := Lib.hid hX
  have HI := Lib.hid hA
  clear hA hX
  go_enter Try.func22, Try.ntmps22
  go_wp2_with fail
  refine (copyLists_any A n c fs _ (HI.out.below (below_new (Below.refl _ _) _)) hz).mono ?_
  rintro e w1 ⟨A1, c1, rfl, o1, b1⟩
  have hs1 := b1.size
  simp only [World.size_alloc] at hs1
  obtain ⟨hcc, hff⟩ := bcell b1
  have O1 := Lib.hid o1
  have B1 := Lib.hid (below_tr (below_new (Below.refl _ _) _) b1)
  have D1 := Lib.hid b1
  clear o1 b1
  go_wp2_with fail
  refine (framesOk_any d A n c fs _ (HI.out.below B1.out) hz).mono ?_
  rintro e w2 ⟨rfl, b2⟩
  have hs2 := b2.size
  have O2 := Lib.hid (O1.out.below b2)
  have B2 := Lib.hid (below_tr B1.out b2)
  have D2 := Lib.hid (below_tr D1.out b2)
  clear b2 hcc hff
  obtain ⟨hcc, hff⟩ := bcell D2.out
  have hbad : ∀ (w3 : World), flipOk d fs t k b = false → Below w2.heap.size w2 w3 → Own2 w.heap.size w3.heap.size w3 A1 n c1 (flipFrame d fs t k b) ∧ Below w.heap.size w w3 := by
    intro w3 h0 h3
    have h3s := h3.size
    rw [flipFrame, h0, if_neg (by simp)]
    exact ⟨(O2.out.below h3).widen (by simp) (by omega), below_tr B2.out h3⟩
  have HB := Lib.hid hbad
  clear hbad
  cases hf : framesOk d fs with
  | false =>
    have HFO : Hid (flipOk d fs t k b = false) := by unfold Hid flipOk; rw [hf]; rfl
    clear hf
    go_wp2_with fail
    go_ret2
    exact ⟨A1, n, c1, by simp [HFO.out], HB.out _ HFO.out (Below.refl _ _)⟩
  | true =>
    have hdv := (framesOk_iff hf).1
    have hfb := fwI_bd hdv
    obtain ⟨_, _, _, _, ht1, ht2, _⟩ := devOk_bd hdv
    have HF := Lib.hid hf
    clear hf
    cases h1 : inR t 0 ((n : Int) - 1) with
    | false =>
      have HFO : Hid (flipOk d fs t k b = false) := by unfold Hid flipOk; rw [HX.out, h1]; simp
      go_wp2_with (go_at_call 57; refine (inRange_any _ _ _ _).mono ?_; rintro e w' ⟨rfl, rfl⟩)
      go_ret2
      exact ⟨A1, n, c1, by simp [HFO.out], HB.out _ HFO.out (Below.refl _ _)⟩
    | true =>
      have h1b := inR_iff.1 h1
      cases h2 : inR k 0 (fwI d - 1) with
      | false =>
        have HFO : Hid (flipOk d fs t k b = false) := by unfold Hid flipOk; rw [h2]; simp
        go_wp2_with (first
          | (go_at_call 57; refine (inRange_any _ _ _ _).mono ?_; rintro e w' ⟨rfl, rfl⟩)
          | (go_at_call 58; refine (frameWords_any d _ ht1 ht2).mono ?_; rintro e w3 ⟨rfl, b3⟩; have B3 := Lib.hid b3; clear b3))
        go_ret2
        exact ⟨A1, n, c1, by simp [HFO.out], HB.out _ HFO.out B3.out⟩
      | true =>
        have h2b := inR_iff.1 h2
        cases h3 : inR b 0 21 with
        | false =>
          have HFO : Hid (flipOk d fs t k b = false) := by unfold Hid flipOk; rw [h3]; simp
          go_wp2_with (first
            | (go_at_call 57; refine (inRange_any _ _ _ _).mono ?_; rintro e w' ⟨rfl, rfl⟩)
            | (go_at_call 58; refine (frameWords_any d _ ht1 ht2).mono ?_; rintro e w3 ⟨rfl, b3⟩; have B3 := Lib.hid b3; clear b3))
          go_ret2
          exact ⟨A1, n, c1, by simp [HFO.out], HB.out _ HFO.out B3.out⟩
        | true =>
          have HFO : Hid (flipOk d fs t k b = true) := by unfold Hid flipOk; rw [HF.out, HX.out, h1, h2, h3]; rfl
          go_wp2_with (first
            | (go_at_call 57; refine (inRange_any _ _ _ _).mono ?_; rintro e w' ⟨rfl, rfl⟩)
            | (go_at_call 58; refine (frameWords_any d _ ht1 ht2).mono ?_; rintro e w3 ⟨rfl, b3⟩; have B3 := Lib.hid b3; clear b3))
          clear HB hcc hff
          have o3 := (O2.out.below B3.out)
          obtain ⟨bb, A2, m2, c2, rfl, hck, _, o4, l4, hup⟩ := o3.row (k := t.toNat) (by omega)
          have hrl : m2 = fwI d := by
            have hw := (framesOk_iff HF.out).2.2 t.toNat (by rw [HX.out]; omega)
            simp only [wordsOk, Bool.and_eq_true, decide_eq_true_eq] at hw
            rw [o4.len] at hw
            exact hw.1
          have hk : k.toNat < m2 := by omega
          obtain ⟨bi, cur, rfl, _⟩ := o4.block (by omega)
          obtain ⟨hci, hfi⟩ := o4.cellAt hk
          have HUP := Lib.hid hup
          have O4 := Lib.hid o4
          have hs3 := B3.out.size
          have hk0 : (0 : Int) ≤ k := by omega
          have hk1 : k < (m2 : Int) := by omega
          clear o3 o4 l4 hup hrl
          have hFF : Hid (flipFrame d fs t k b = fs.set t.toNat ((fs[t.toNat]?.getD []).set k.toNat (flipBit ((fs[t.toNat]?.getD [])[k.toNat]?.getD 0) b))) := by unfold Hid flipFrame; rw [HFO.out]; rfl
          generalize fs[t.toNat]?.getD [] = f at *
          generalize f[k.toNat]?.getD 0 = code at *
          go_wp2_with fail
          go_region_with (go_at_call 59; refine (flipBit_any _ _ _).mono ?_; rintro e w' ⟨rfl, rfl⟩)
          all_goals
            go_wp2_with fail
            go_ret2
            refine ⟨some ⟨bb, 0, none⟩, n, c1, by simp [HFO.out], ?_, ?_⟩
            · rw [hFF.out]
              have hst := HUP.out (w3.setCell ⟨bi, k.toNat, none⟩ (.int .i64 (flipBit code b))) _ (grownBy_store (grownBy_refl _ _) _ _) (O4.out.stored hk (flipBit code b))
              exact Own2.widen (w := w3.setCell ⟨bi, k.toNat, none⟩ (.int .i64 (flipBit code b))) hst (by simp) (by simp [World.setCell]; omega)
            · exact ((below_tr B2.out B3.out).setCell (p := ⟨bi, k.toNat, none⟩) (by have := (O4.out.lt _ rfl).1; simp at this; simp only; omega) _).drew
end Go.Proofs.Ytbnfdhidgdfbeaa

namespace Go.Proofs.Ytbnfdhidgdfbeaa
set_option maxRecDepth 100000
open Go.RowKit

/-- Only the blocks F may have changed. -/
structure Only (F : List Nat) (w w' : World) : Prop where
  os : w'.os = w.os
  tape : w'.tape = w.tape
  output : w'.output = w.output
  size : w.heap.size ≤ w'.heap.size
  block : ∀ k, k < w.heap.size → k ∉ F → w'.heap[k]? = w.heap[k]?
theorem Only.refl (F : List Nat) (w : World) : Only F w w := ⟨rfl, rfl, rfl, Nat.le_refl _, fun _ _ _ => rfl⟩
theorem Only.trans {F : List Nat} {a b c : World} (h : Only F a b) (k : Only F b c) : Only F a c :=
  ⟨k.os.trans h.os, k.tape.trans h.tape, k.output.trans h.output, Nat.le_trans h.size k.size, fun i hi hn => (k.block i (Nat.lt_of_lt_of_le hi h.size) hn).trans (h.block i hi hn)⟩
theorem Only.more {F G : List Nat} {a b : World} (h : Only F a b) (hs : ∀ k ∈ F, k ∈ G) : Only G a b := ⟨h.os, h.tape, h.output, h.size, fun i hi hn => h.block i hi fun hf => hn (hs i hf)⟩
theorem only_below {F : List Nat} {a b : World} (h : Below a.heap.size a b) : Only F a b := ⟨h.os, h.tape, h.output, h.size, fun i hi _ => h.block i hi⟩
theorem only_grown {A : Option Addr} {a b : World} (h : a.grownBy b (A.map (·.block))) : Only (blk A) a b := ⟨h.os, h.tape, h.output, h.size, fun i hi hn => h.block i hi (by
  cases A with
  | none => simp
  | some ad =>
    simp only [Option.map_some, ne_eq, Option.some.injEq]
    rintro rfl
    exact hn (by simp [blk]))⟩
theorem only_set {F : List Nat} {w : World} {p : Addr} (hp : p.block ∈ F) (v : Value) : Only F w (w.setCell p v) :=
  ⟨rfl, rfl, rfl, by simp [World.setCell], fun k _ hn => Below.heap_setCell _ _ _ _ (by rintro rfl; exact hn hp)⟩
theorem Only.chg {F : List Nat} {lo hi : Nat} {a b : World} (h : Only F a b) (hf : ∀ k ∈ F, lo ≤ k ∧ k < hi) : Chg lo hi a b :=
  ⟨h.os, h.tape, h.output, h.size, fun k hk hne => h.block k hk fun hm => by have := hf k hm; omega⟩

theorem OwnC.child {w : World} {e s n cap j : Nat} {A : Option Addr} {cs : List Cel} {F : List Nat} {c : Cel} (h : OwnC w (.row e s cs) (.slice A n cap) F) (hF : F.Nodup) (hc : cs[j]? = some c) :
    ∃ g v Fj, A = some ⟨g, 0, none⟩ ∧ g ∈ F ∧ w.cell? ⟨g, j, none⟩ = some v ∧ OwnC w c v Fj ∧ Fj.Nodup ∧ g ∉ Fj ∧ (∀ k ∈ Fj, k ∈ F) ∧
      ∀ (w' : World) (c' : Cel), OwnC w' c' v Fj → Only Fj w w' → OwnC w' (.row e s (cs.set j c')) (.slice A n cap) F := by
  have hj := (List.getElem?_eq_some_iff.1 hc).1
  have hlt := h.lt
  obtain ⟨g, c0, v, F1, Fj, F2, rfl, e1, hcell, _, rfl, h4, h5, _⟩ := h.cell hj
  rw [hc] at e1
  injection e1 with e1
  subst e1
  rw [List.nodup_cons] at hF
  obtain ⟨hgn, hnd⟩ := hF
  simp only [List.mem_append, not_or] at hgn
  rw [List.nodup_append, List.nodup_append] at hnd
  obtain ⟨n1, ⟨n2, n3, n4⟩, n5⟩ := hnd
  refine ⟨g, v, Fj, rfl, by simp, hcell, h4, n2, hgn.2.1, fun k hk => by simp [hk], fun w' c' hc' ho => ?_⟩
  refine h5 w' c' hc' (ho.block g (hlt g (by simp)) hgn.2.1) (fun k hk => ho.block k (hlt k (by simp [hk])) fun hj' => ?_) (fun k hk => ho.block k (hlt k (by simp [hk])) fun hj' => ?_)
  · exact n5 k hk k (by simp [hj']) rfl
  · exact n4 k hj' k hk rfl
theorem OwnC.num {w : World} {e s n cap j : Nat} {A : Option Addr} {cs : List Cel} {F : List Nat} {x : Int} (h : OwnC w (.row e s cs) (.slice A n cap) F) (hF : F.Nodup) (hc : cs[j]? = some (.int x)) :
    ∃ g, A = some ⟨g, 0, none⟩ ∧ g ∈ F ∧ w.cell? ⟨g, j, none⟩ = some (.int .i64 x) ∧ w.frozen? ⟨g, j, none⟩ = false ∧
      ∀ y : Int, OwnC (w.setCell ⟨g, j, none⟩ (.int .i64 y)) (.row e s (cs.set j (.int y))) (.slice A n cap) F := by
  have hj := (List.getElem?_eq_some_iff.1 hc).1
  obtain ⟨g, c0, v, F1, Fj, F2, rfl, e1, hcell, hfz, rfl, h4, _, h6⟩ := h.cell hj
  rw [hc] at e1
  injection e1 with e1
  subst e1
  rw [ownC_int] at h4
  obtain ⟨rfl, rfl⟩ := h4
  rw [List.nodup_cons] at hF
  obtain ⟨hgn, _⟩ := hF
  simp only [List.nil_append, List.mem_append, not_or] at hgn
  exact ⟨g, rfl, by simp, hcell, hfz, fun y => h6 (.int y) (.int .i64 y) [] (ownC_int.2 ⟨rfl, rfl⟩) hgn.1 (by simp) hgn.2⟩

theorem flat4_set {α : Type} {f : α → List Cel} (hf : ∀ x, (f x).length = 4) : ∀ {xs : List α} {k j : Nat} {x y : α} {c : Cel}, xs[k]? = some x → j < 4 → f y = (f x).set j c → (xs.flatMap f).set (k * 4 + j) c = (xs.set k y).flatMap f
  | [], k, j, x, y, c, h, hj, hy => by simp at h
  | a :: l, 0, j, x, y, c, h, hj, hy => by
    simp at h
    subst h
    rw [List.flatMap_cons, Nat.zero_mul, Nat.zero_add, List.set_append, if_pos (by rw [hf]; exact hj), List.set_cons_zero, List.flatMap_cons, hy]
  | a :: l, k + 1, j, x, y, c, h, hj, hy => by
    rw [List.flatMap_cons, List.set_append, if_neg (by rw [hf]; omega), hf, show (k + 1) * 4 + j - 4 = k * 4 + j by omega, flat4_set hf (by simpa using h) hj hy, List.set_cons_succ, List.flatMap_cons]

/-! ### marking tiles -/
def leCnt (e : Le) : Nat := e.sel.length + 3
def lesN (es : List Le) : Nat → Nat
  | 0 => 0
  | k + 1 => lesN es k + leCnt (es[k]?.getD Le.zero)
def mkLe (k : Int) (e : Le) : Le := ⟨iota k e.sel.length, k + e.sel.length, k + e.sel.length + 1, k + e.sel.length + 2⟩
def mkLesP (k : Int) (es : List Le) (j : Nat) : List Le := (List.range es.length).map fun i => if i < j then mkLe (k + lesN es i) (es[i]?.getD Le.zero) else es[i]?.getD Le.zero
def mkLes (k : Int) (es : List Le) : List Le := mkLesP k es es.length
def tCnt (t : Tile) : Nat := t.mux.length + lesN t.les t.les.length + 2
def tsN (ts : List Tile) : Nat → Nat
  | 0 => 0
  | k + 1 => tsN ts k + tCnt (ts[k]?.getD Tile.zero)
def mkT (k : Int) (t : Tile) : Tile := ⟨iota k t.mux.length, mkLes (k + t.mux.length) t.les, k + t.mux.length + lesN t.les t.les.length, k + t.mux.length + lesN t.les t.les.length + 1⟩
def mkTsP (k : Int) (ts : List Tile) (j : Nat) : List Tile := (List.range ts.length).map fun i => if i < j then mkT (k + tsN ts i) (ts[i]?.getD Tile.zero) else ts[i]?.getD Tile.zero
def mkTs (k : Int) (ts : List Tile) : List Tile := mkTsP k ts ts.length
theorem mapP_zero {α : Type} {d : α} {g : Nat → α} (xs : List α) : ((List.range xs.length).map fun i => if i < 0 then g i else xs[i]?.getD d) = xs := by
  apply List.ext_getElem?
  intro i
  simp only [Nat.not_lt_zero, if_false, List.getElem?_map]
  rcases Nat.lt_or_ge i xs.length with h | h
  · simp [h]
  · simp [h]
theorem mapP_get {α : Type} {d : α} {g : Nat → α} {xs : List α} {j i : Nat} (h : i < xs.length) : ((List.range xs.length).map fun i => if i < j then g i else xs[i]?.getD d)[i]? = some (if i < j then g i else xs[i]?.getD d) := by simp [h]
theorem mapP_set {α : Type} {d : α} {g : Nat → α} {xs : List α} {j : Nat} (h : j < xs.length) : ((List.range xs.length).map fun i => if i < j then g i else xs[i]?.getD d).set j (g j) = ((List.range xs.length).map fun i => if i < j + 1 then g i else xs[i]?.getD d) := by
  apply List.ext_getElem?
  intro i
  by_cases hi : i = j
  · subst hi
    rw [List.getElem?_set_self (by simpa using h)]
    simp [h]
  · rw [List.getElem?_set_ne (by omega)]
    simp only [List.getElem?_map]
    rcases Nat.lt_or_ge i xs.length with h1 | h1
    · have e : (i < j + 1) = (i < j) := propext (by omega)
      simp [h1, e]
    · simp [h1]
theorem lesN_le (es : List Le) {j k : Nat} (h : j ≤ k) : lesN es j ≤ lesN es k := by
  induction k with
  | zero => obtain rfl : j = 0 := by omega
            exact Nat.le_refl _
  | succ k ih =>
    rcases Nat.lt_or_ge k j with h1 | h1
    · obtain rfl : j = k + 1 := by omega
      exact Nat.le_refl _
    · have := ih h1
      rw [lesN]
      omega
theorem tsN_le (ts : List Tile) {j k : Nat} (h : j ≤ k) : tsN ts j ≤ tsN ts k := by
  induction k with
  | zero => obtain rfl : j = 0 := by omega
            exact Nat.le_refl _
  | succ k ih =>
    rcases Nat.lt_or_ge k j with h1 | h1
    · obtain rfl : j = k + 1 := by omega
      exact Nat.le_refl _
    · have := ih h1
      rw [tsN]
      omega
end Go.Proofs.Ytbnfdhidgdfbeaa

namespace Go.Proofs.Ytbnfdhidgdfbeaa
set_option maxRecDepth 100000
open Go.RowKit Cw

theorem flip_one (x k : Nat) (hx : x < 65536) (hk : k < 22) :
    flipBit (encW x : Nat) (k : Nat) = ((encW x ^^^ 2 ^ k : Nat) : Int) ∧ decN (encW x) = (x, 0) ∧ decN (encW x ^^^ 2 ^ k) = (x, 1) := by
  have hc := encW_lt x
  have hc' := xor_pow_lt hc (show k ≤ 21 by omega)
  have hs := syn_enc x hx
  have ho := ones_enc x
  have hd := data_enc x hx
  have hp : 2 ^ k < 2 ^ 22 := Nat.pow_lt_pow_right (by omega) (by omega)
  refine ⟨?_, ?_, ?_⟩
  · unfold flipBit
    rw [range_true hc, show inR (k : Int) 0 21 = true from inR_iff.2 ⟨by omega, by omega⟩]
    simp only [Bool.and_self, if_true, Int.toNat_natCast]
    rw [int_pow_cast]
    exact i64_xor_nat _ _ (by omega) (by omega)
  · rw [decN, if_pos ho, if_pos hs, hd]
  · rw [decN, ones_flip _ _ hk, if_neg (by omega)]
    rcases (by omega : k < 21 ∨ k = 21) with h | rfl
    · rw [syn_flip _ _ h, hs, Nat.zero_xor, if_neg (by omega), if_pos (by omega), Nat.add_sub_cancel, Nat.xor_assoc, Nat.xor_self, Nat.xor_zero, hd]
    · rw [syn_flip21, hs, if_pos rfl]
      exact congrArg (fun t => (t, 1)) ((dataW_flip21 _).trans hd)
theorem rep_enc {x : Nat} (hx : x < 65536) : repW ((encW x : Nat) : Int) = (((encW x : Nat) : Int), 0) := by
  have h := (flip_one x 0 hx (by omega)).2.1
  unfold repW
  rw [decW_nat (encW_lt x), h]
  simp
theorem rep_flip {x k : Nat} (hx : x < 65536) (hk : k < 22) : repW (flipBit ((encW x : Nat) : Int) (k : Nat)) = (((encW x : Nat) : Int), 1) := by
  obtain ⟨h1, _, h3⟩ := flip_one x k hx hk
  rw [h1]
  unfold repW
  rw [decW_nat (xor_pow_lt (encW_lt x) (by omega)), h3]
  simp
theorem flip_ne {x k : Nat} (hx : x < 65536) (hk : k < 22) : flipBit ((encW x : Nat) : Int) (k : Nat) ≠ ((encW x : Nat) : Int) := by
  intro h
  have h1 := rep_flip hx hk
  rw [h, rep_enc hx] at h1
  injection h1 with _ h2
  cases h2
theorem flip_bd {x k : Nat} (hx : x < 65536) (hk : k < 22) : 0 ≤ flipBit ((encW x : Nat) : Int) (k : Nat) ∧ flipBit ((encW x : Nat) : Int) (k : Nat) ≤ 4194303 := by
  rw [(flip_one x k hx hk).1]
  have := xor_pow_lt (encW_lt x) (show k ≤ 21 by omega)
  omega

/-- Every number of a row is a codeword. -/
def CodeRow (f : List Int) : Prop := ∀ j, j < f.length → ∃ x : Nat, x < 65536 ∧ f[j]?.getD 0 = ((encW x : Nat) : Int)
theorem codeRow_of (d : Dev) (t : Tile) : CodeRow (rowOf d t) := by
  intro j hj
  rw [rowOf_length] at hj
  have hb := encT_bd d t j
  refine ⟨((encT d t)[j]?.getD 0).toNat, by omega, ?_⟩
  rw [rowOf, List.getElem?_map, getD_some 0 (by rw [encT_length]; exact hj)]
  rfl
theorem codeRow_build {d : Dev} {ts : List Tile} (j : Nat) : CodeRow ((buildF d ts)[j]?.getD []) := by
  rw [buildF, List.getElem?_map]
  cases ts[j]? with
  | none => intro i hi; simp at hi
  | some t => exact codeRow_of d t
theorem repC_of {c a s : Int} (h : repW c = (a, s)) : repC c = a := by unfold repC; rw [h]
theorem repC_enc {x : Nat} (hx : x < 65536) : repC ((encW x : Nat) : Int) = ((encW x : Nat) : Int) := repC_of (rep_enc hx)
theorem repC_flip {x k : Nat} (hx : x < 65536) (hk : k < 22) : repC (flipBit ((encW x : Nat) : Int) (k : Nat)) = ((encW x : Nat) : Int) := repC_of (rep_flip hx hk)
theorem CodeRow.get {f : List Int} (h : CodeRow f) {j : Nat} (hj : j < f.length) : ∃ x : Nat, x < 65536 ∧ f[j]? = some ((encW x : Nat) : Int) := by
  obtain ⟨x, hx, e⟩ := h j hj
  rw [List.getElem?_eq_getElem hj] at e ⊢
  exact ⟨x, hx, congrArg some e⟩
theorem scrubRow_code {f : List Int} (h : CodeRow f) : scrubRow f = f := by
  apply List.ext_getElem?
  intro i
  rw [scrubRow, List.getElem?_map]
  rcases Nat.lt_or_ge i f.length with hi | hi
  · obtain ⟨x, hx, e⟩ := h.get hi
    rw [e, Option.map_some, repC_enc hx]
  · rw [List.getElem?_eq_none hi]; rfl
theorem cntTo_code {f : List Int} (h : CodeRow f) {s : Int} (hs : s ≠ 0) (k : Nat) (hk : k ≤ f.length) : cntTo s f k = 0 := by
  induction k with
  | zero => rfl
  | succ k ih =>
    obtain ⟨x, hx, e⟩ := h k (by omega)
    rw [cntTo, ih (by omega), e, rep_enc hx, if_neg (fun h => hs h.symm)]
theorem scrubRow_flip {f : List Int} (h : CodeRow f) {k b : Nat} (hk : k < f.length) (hb : b < 22) : scrubRow (f.set k (flipBit (f[k]?.getD 0) (b : Nat))) = f := by
  obtain ⟨x, hx, e⟩ := h.get hk
  have h2 := scrubRow_code h
  unfold scrubRow at h2 ⊢
  rw [List.map_set, h2, e, Option.getD_some, repC_flip hx hb]
  exact set_same e
theorem cntTo_flip {f : List Int} (h : CodeRow f) {k b : Nat} (hk : k < f.length) (hb : b < 22) {s : Int} (hs : s ≠ 0) (m : Nat) (hm : m ≤ f.length) : cntTo s (f.set k (flipBit (f[k]?.getD 0) (b : Nat))) m = if k < m ∧ s = 1 then 1 else 0 := by
  induction m with
  | zero => rw [if_neg (by omega)]; rfl
  | succ m ih =>
    rw [cntTo, ih (by omega), List.getElem?_set]
    by_cases he : k = m
    · subst he
      obtain ⟨x, hx, e⟩ := h k hk
      rw [if_pos rfl, if_pos hk, Option.getD_some, e, rep_flip hx hb, if_neg (by omega)]
      by_cases h1 : s = 1
      · subst h1; simp
      · rw [if_neg (fun h => h1 h.symm), if_neg (by omega)]
    · obtain ⟨x, hx, e⟩ := h m (by omega)
      rw [if_neg he, e, rep_enc hx, if_neg (show ¬ (0 : Int) = s from fun h => hs h.symm), Nat.add_zero]
      by_cases h1 : k < m ∧ s = 1
      · rw [if_pos h1, if_pos (by omega)]
      · rw [if_neg h1, if_neg (by omega)]
theorem flipRow_ne {f : List Int} (h : CodeRow f) {k b : Nat} (hk : k < f.length) (hb : b < 22) : f.set k (flipBit (f[k]?.getD 0) (b : Nat)) ≠ f := by
  intro he
  obtain ⟨x, hx, e⟩ := h k hk
  have h2 := congrArg (fun l => l[k]?.getD 0) he
  simp only [List.getElem?_set, if_true, if_pos hk, Option.getD_some] at h2
  rw [e] at h2
  exact flip_ne hx hb h2

/-! ### several rows, each flipped at most once -/
/-- Row i with the bit b i of its word k i flipped, if c i. -/
def flG (fs : List (List Int)) (c : Nat → Bool) (kk bb : Nat → Nat) (i : Nat) : List Int := if c i = true then (fs[i]?.getD []).set (kk i) (flipBit ((fs[i]?.getD [])[kk i]?.getD 0) (bb i : Nat)) else fs[i]?.getD []
def flT (fs : List (List Int)) (c : Nat → Bool) (kk bb : Nat → Nat) (j : Nat) : List (List Int) := (List.range fs.length).map fun i => if i < j then flG fs c kk bb i else fs[i]?.getD []
def flN (c : Nat → Bool) : Nat → Nat
  | 0 => 0
  | k + 1 => flN c k + if c k = true then 1 else 0
theorem flN_le (c : Nat → Bool) (k : Nat) : flN c k ≤ k := by
  induction k with
  | zero => exact Nat.le_refl _
  | succ k ih => rw [flN]; split <;> omega
structure FlOk (d : Dev) (fs : List (List Int)) (kk bb : Nat → Nat) : Prop where
  ok : framesOk d fs = true
  code : ∀ j : Nat, CodeRow (fs[j]?.getD [])
  word : ∀ j, kk j < (fwI d).toNat
  bit : ∀ j, bb j < 22
section
variable {d : Dev} {fs : List (List Int)} {c : Nat → Bool} {kk bb : Nat → Nat}
theorem FlOk.len (h : FlOk d fs kk bb) {j : Nat} (hj : j < fs.length) : (fs[j]?.getD []).length = (fwI d).toNat := by
  have h1 := (framesOk_iff h.ok).2.2 j hj
  unfold wordsOk at h1
  rw [Bool.and_eq_true, decide_eq_true_eq] at h1
  omega
theorem flT_length (j : Nat) : (flT fs c kk bb j).length = fs.length := by simp [flT]
theorem flT_zero : flT fs c kk bb 0 = fs := mapP_zero (d := []) (g := flG fs c kk bb) fs
theorem flT_get {j i : Nat} (hi : i < fs.length) : (flT fs c kk bb j)[i]?.getD [] = if i < j then flG fs c kk bb i else fs[i]?.getD [] := by rw [flT, mapP_get hi]; rfl
theorem flT_yes {j : Nat} (hj : j < fs.length) (hc : c j = true) : (flT fs c kk bb j).set j ((fs[j]?.getD []).set (kk j) (flipBit ((fs[j]?.getD [])[kk j]?.getD 0) (bb j : Nat))) = flT fs c kk bb (j + 1) := by
  have h := mapP_set (d := []) (g := flG fs c kk bb) hj
  have e : flG fs c kk bb j = (fs[j]?.getD []).set (kk j) (flipBit ((fs[j]?.getD [])[kk j]?.getD 0) (bb j : Nat)) := by rw [flG, if_pos hc]
  rw [e] at h
  exact h
theorem flT_no {j : Nat} (hj : j < fs.length) (hc : c j = false) : flT fs c kk bb j = flT fs c kk bb (j + 1) := by
  have h := mapP_set (d := []) (g := flG fs c kk bb) hj
  have e : flG fs c kk bb j = fs[j]?.getD [] := by rw [flG, hc]; rfl
  rw [e] at h
  refine Eq.trans ?_ h
  refine (set_same ?_).symm
  unfold flT
  rw [mapP_get hj, if_neg (Nat.lt_irrefl j)]
theorem flG_words (h : FlOk d fs kk bb) {j : Nat} (hj : j < fs.length) : wordsOk (flG fs c kk bb j) (fwI d) 4194303 = true := by
  have h1 := (framesOk_iff h.ok).2.2 j hj
  unfold flG
  split
  · have hl := h.len hj
    unfold wordsOk at h1 ⊢
    rw [Bool.and_eq_true, decide_eq_true_eq] at h1 ⊢
    refine ⟨by rw [List.length_set]; exact h1.1, allIn_good fun i hi => inR_iff.2 ?_⟩
    rw [List.length_set] at hi
    rw [List.getElem?_set]
    split
    · rename_i he
      obtain ⟨x, hx, e⟩ := h.code j (kk j) (by have := h.word j; omega)
      rw [if_pos (by have := h.word j; omega), Option.getD_some, e]
      exact flip_bd hx (h.bit j)
    · exact allIn_get h1.2 hi
  · exact h1
theorem flT_ok (h : FlOk d fs kk bb) (j : Nat) : framesOk d (flT fs c kk bb j) = true := by
  obtain ⟨h1, h2, h3⟩ := framesOk_iff h.ok
  refine framesOk_good h1 (by rw [flT_length]; exact h2) fun i hi => ?_
  rw [flT_length] at hi
  rw [flT_get hi]
  split
  · exact flG_words h hi
  · exact h3 i hi
theorem flT_step (h : FlOk d fs kk bb) {j : Nat} (hj : j < fs.length) (hc : c j = true) : flipOk d (flT fs c kk bb j) j (kk j : Nat) (bb j : Nat) = true ∧ flipFrame d (flT fs c kk bb j) j (kk j : Nat) (bb j : Nat) = flT fs c kk bb (j + 1) := by
  have hw := h.word j
  have hb := h.bit j
  have hok : flipOk d (flT fs c kk bb j) j (kk j : Nat) (bb j : Nat) = true := by
    unfold flipOk
    rw [flT_ok h, inR_iff.2 (by rw [flT_length]; omega), inR_iff.2 (by omega), inR_iff.2 (by omega)]
    rfl
  refine ⟨hok, ?_⟩
  unfold flipFrame
  rw [if_pos hok, Int.toNat_natCast, Int.toNat_natCast, flT_get hj, if_neg (Nat.lt_irrefl j)]
  exact flT_yes hj hc
theorem flT_scrub (h : FlOk d fs kk bb) (j : Nat) : scrubF d (flT fs c kk bb j) = fs := by
  unfold scrubF
  rw [if_pos (flT_ok h j)]
  apply List.ext_getElem?
  intro i
  rw [List.getElem?_map]
  rcases Nat.lt_or_ge i fs.length with hi | hi
  · rw [flT, mapP_get hi, List.getElem?_eq_getElem hi]
    have hg : fs[i]?.getD [] = fs[i] := by rw [List.getElem?_eq_getElem hi]; rfl
    simp only [Option.map_some, Option.some.injEq]
    rw [← hg]
    split
    · unfold flG
      split
      · exact scrubRow_flip (h.code i) (by rw [h.len hi]; exact h.word i) (h.bit i)
      · exact scrubRow_code (h.code i)
    · exact scrubRow_code (h.code i)
  · rw [List.getElem?_eq_none (by rw [flT_length]; exact hi), List.getElem?_eq_none hi]; rfl
theorem flT_cnt (h : FlOk d fs kk bb) {s : Int} (hs : s ≠ 0) (k : Nat) (hk : k ≤ fs.length) : cnt2To s (flT fs c kk bb fs.length) k = if s = 1 then flN c k else 0 := by
  induction k with
  | zero => simp [cnt2To, flN]
  | succ k ih =>
    rw [cnt2To, ih (by omega), flT_get (show k < fs.length by omega), if_pos (show k < fs.length by omega), flN]
    have hl := h.len (j := k) (by omega)
    have hw := h.word k
    rcases Bool.eq_false_or_eq_true (c k) with hc | hc
    · have e : flG fs c kk bb k = (fs[k]?.getD []).set (kk k) (flipBit ((fs[k]?.getD [])[kk k]?.getD 0) (bb k : Nat)) := by unfold flG; rw [if_pos hc]
      rw [e, if_pos hc, List.length_set, cntTo_flip (h.code k) (by omega) (h.bit k) hs _ (Nat.le_refl _)]
      by_cases h1 : s = 1
      · rw [if_pos h1, if_pos h1, if_pos ⟨by omega, h1⟩]
      · rw [if_neg h1, if_neg h1, if_neg (by omega)]
    · have e : flG fs c kk bb k = fs[k]?.getD [] := by unfold flG; rw [hc]; rfl
      rw [e, cntTo_code (h.code k) hs _ (Nat.le_refl _), if_neg (show ¬ c k = true by rw [hc]; simp)]
      rfl
theorem flT_same (h : FlOk d fs kk bb) : (flT fs c kk bb fs.length = fs) ↔ flN c fs.length = 0 := by
  constructor
  · intro he
    have h1 := flT_cnt (c := c) h (s := 1) (by omega) fs.length (Nat.le_refl _)
    rw [if_pos rfl] at h1
    rw [← h1, he]
    have : ∀ k, k ≤ fs.length → cnt2To 1 fs k = 0 := by
      intro k hk
      induction k with
      | zero => rfl
      | succ k ih => rw [cnt2To, ih (by omega), cntTo_code (h.code k) (by omega) _ (Nat.le_refl _)]
    exact this _ (Nat.le_refl _)
  · intro h0
    have hn : ∀ k, k ≤ fs.length → flT fs c kk bb k = fs := by
      intro k hk
      induction k with
      | zero => exact flT_zero
      | succ k ih =>
        have hc : c k = false := by
          have mono : ∀ a b, a ≤ b → flN c a ≤ flN c b := by
            intro a b hab
            induction b with
            | zero => rw [show a = 0 by omega]; exact Nat.le_refl _
            | succ b ih =>
              rcases Nat.lt_or_ge a (b + 1) with h1 | h1
              · have := ih (by omega); rw [flN]; omega
              · rw [show a = b + 1 by omega]; exact Nat.le_refl _
          have h1 := mono (k + 1) fs.length hk
          rw [flN] at h1
          cases hck : c k with
          | false => rfl
          | true => rw [hck, if_pos rfl] at h1; omega
        rw [← flT_no (by omega) hc]
        exact ih (by omega)
    exact hn _ (Nat.le_refl _)
end
end Go.Proofs.Ytbnfdhidgdfbeaa
