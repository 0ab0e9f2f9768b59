/- EmuRun: the outputs of all cycles as lists; states stay valid. EmuRun of the program. EmuRun of the reference. -/
import Derived.Test.YtclmhnghpnfnkaaEsPure
import Derived.Test.YtclmhnghpnfnkaaEvS
import Derived.Test.YtclmhnghpnfnkaaStp
import Derived.Test.YtclmhnghpnfnkaaStpS
namespace Go.Proofs.Ytclmhnghpnfnkaa
set_option maxRecDepth 100000
open Go.RowKit

theorem stOk_mk {d : Dev} {st : List Int} (hd : devOk d = true) (hl : st.length = 2 * tiles d) (h : ∀ i : Nat, 0 ≤ st[i]?.getD 0 ∧ st[i]?.getD 0 ≤ mostOf d i) : stOk d st = true := stOk_good hd hl fun j _ => inR_iff.2 (h j)
theorem lut01 (d : Dev) (vs : List Int) (t : Int) (e : Le) : 0 ≤ mx (lutF d vs t e) ∧ mx (lutF d vs t e) ≤ 1 := by
  have := lutF_in d vs t e
  unfold mx; split <;> omega
theorem getD_set {l : List Int} {i j : Nat} {v : Int} : (l.set i v)[j]?.getD 0 = if i = j ∧ i < l.length then v else l[j]?.getD 0 := by
  by_cases h : i = j
  · subst h
    by_cases h2 : i < l.length
    · rw [if_pos ⟨rfl, h2⟩]; simp [h2]
    · rw [if_neg (fun h => h2 h.2), List.set_eq_of_length_le (by omega)]
  · rw [if_neg (fun h2 => h h2.1), List.getElem?_set_ne h]
def InSt (d : Dev) (l : List Int) : Prop := ∀ i : Nat, 0 ≤ l[i]?.getD 0 ∧ l[i]?.getD 0 ≤ mostOf d i
theorem inSt_set {d : Dev} {l : List Int} {i : Nat} {v : Int} (h : InSt d l) (hv : 0 ≤ v ∧ v ≤ mostOf d i) : InSt d (l.set i v) := fun j => by
  rw [getD_set]
  split
  · rename_i hj; rw [← hj.1]; exact hv
  · exact h j
theorem inSt_flop {d : Dev} {ts : List Tile} {vs l : List Int} {k e : Nat} (h : InSt d l) (hk : kindOf d (k : Int) = 1) (he : e < 2) : InSt d (flopSet d ts vs k l e) := by
  unfold flopSet
  split
  · refine inSt_set h ?_
    have := lut01 d vs (k : Int) (leAt ts (k : Int) (e : Int))
    unfold mostOf
    rw [show ((2 * k + e) / 2 : Nat) = k by omega, if_pos hk]
    exact this
  · exact h
theorem inSt_next {d : Dev} {ts : List Tile} {st vs : List Int} (hs : InSt d st) (h3 : In3 vs) (k : Nat) : InSt d (nextTo d ts st vs k) := by
  induction k with
  | zero => exact hs
  | succ k ih =>
    rw [nextTo, nx1]
    split
    · rename_i h1
      exact inSt_flop (e := 1) (inSt_flop (e := 0) ih h1 (by decide)) h1 (by decide)
    · split
      · rename_i h1 h2
        refine inSt_set ih ?_
        have hm : mostOf d (2 * k) = 31 := by unfold mostOf; rw [show (2 * k / 2 : Nat) = k by omega, if_neg (by omega), if_pos ⟨h2, by omega⟩]
        have h := hs (2 * k)
        rw [hm] at h ⊢
        have hl := inTo_lt (d := d) h3 (k : Int) 4
        have := ramNext_le (st[2 * k]?.getD 0).toNat (inTo d vs (k : Int) 4) (by omega) (by omega)
        omega
      · exact ih
theorem stOk_next {d : Dev} {ts : List Tile} {st ps : List Int} (hd : devOk d = true) (hs : stOk d st = true) (hp : padsOk d ps = true) : stOk d (nextF d ts st ps) = true := by
  refine stOk_mk hd ?_ ?_
  · rw [nextF, nextTo_length, stOk_len hs]
  · exact inSt_next (stOk_any hs) (valsF_in3 (stPads_ok hs hp)) _
theorem stOk_start {d : Dev} {fs : List (List Int)} (hf : framesOk d fs = true) : stOk d (startF d fs) = true := by
  have hd := (framesOk_iff hf).1
  have hr : readF d fs = tilesOf d fs := by rw [readF, if_pos hf]
  have hl : (startF d fs).length = 2 * tiles d := by unfold startF; rw [startTo_length, hr, tilesOf_length, (frames_n hf).1]
  have hc := cfg_of_frames hf
  refine stOk_good hd hl fun i hi => inR_iff.2 ?_
  have hk : i / 2 < (tilesOf d fs).length := by rw [tilesOf_length, (frames_n hf).1]; omega
  have ht : tileIn d ((i / 2 : Nat) : Int) = true := tileIn_iff.2 ⟨hd, by omega, by rw [(tiles_eq hd).1]; omega⟩
  have l0 := (le_fit (e := 0) hc ht (by omega)).1.init
  have l1 := (le_fit (e := 1) hc ht (by omega)).1.init
  have lr := (le_fit (e := 0) hc ht (by omega)).2.2.2.ram
  have hg := startTo_get (d := d) (ts := tilesOf d fs) (m := (tilesOf d fs).length) hk (e := i % 2) (by omega)
  rw [show 2 * (i / 2) + i % 2 = i by omega] at hg
  unfold startF
  rw [hr, hg]
  unfold startOf mostOf
  have hm : i % 2 = 0 ∨ i % 2 = 1 := by omega
  by_cases h1 : kindOf d ((i / 2 : Nat) : Int) = 1
  · rw [if_pos h1, if_pos h1]
    rcases hm with h | h <;> rw [h]
    · exact l0
    · exact l1
  · rw [if_neg h1, if_neg h1]
    by_cases h2 : kindOf d ((i / 2 : Nat) : Int) = 2
    · rw [if_pos h2]
      rcases hm with h | h <;> rw [h]
      · rw [if_pos ⟨h2, rfl⟩]; exact lr
      · rw [if_neg (by omega)]; exact ⟨Int.le_refl _, Int.le_refl _⟩
    · rw [if_neg h2, if_neg (by omega)]
      rcases hm with h | h <;> rw [h] <;> exact ⟨Int.le_refl _, Int.le_refl _⟩
/-- The state ahead of cycle k. -/
def stK (d : Dev) (fs : List (List Int)) (pads : List (List Int)) : Nat → List Int
  | 0 => startF d fs
  | k + 1 => nextF d (tilesOf d fs) (stK d fs pads k) (pads[k]?.getD [])
def runO (d : Dev) (fs : List (List Int)) (pads : List (List Int)) : Nat → List (List Int)
  | 0 => []
  | k + 1 => runO d fs pads k ++ [outF d (tilesOf d fs) (stK d fs pads k) (pads[k]?.getD [])]
theorem stK_ok {d : Dev} {fs pads : List (List Int)} (hf : framesOk d fs = true) {k : Nat} (h : ∀ j, j < k → padsOk d (pads[j]?.getD []) = true) : stOk d (stK d fs pads k) = true := by
  induction k with
  | zero => exact stOk_start hf
  | succ k ih => exact stOk_next (framesOk_iff hf).1 (ih fun j hj => h j (by omega)) (h k (by omega))
theorem runO_length (d : Dev) (fs pads : List (List Int)) (k : Nat) : (runO d fs pads k).length = k := by
  induction k with
  | zero => rfl
  | succ k ih => rw [runO, List.length_append, ih]; rfl
def runOk (d : Dev) (fs pads : List (List Int)) : Bool := framesOk d fs && (decide (pads.length ≤ 16) && pads.all (padsOk d))
def runF (d : Dev) (fs pads : List (List Int)) : List (List Int) := if runOk d fs pads = true then runO d fs pads pads.length else []
theorem runF_good {d : Dev} {fs pads : List (List Int)} (h : runOk d fs pads = true) : runF d fs pads = runO d fs pads pads.length := if_pos h
theorem runF_bad {d : Dev} {fs pads : List (List Int)} (h : runOk d fs pads = false) : runF d fs pads = [] := if_neg (by rw [h]; decide)
theorem runOk_iff {d : Dev} {fs pads : List (List Int)} : runOk d fs pads = true ↔ framesOk d fs = true ∧ pads.length ≤ 16 ∧ ∀ p ∈ pads, padsOk d p = true := by simp [runOk]
theorem runOk_bad {d : Dev} {fs pads : List (List Int)} {k : Nat} (hk : k < pads.length) (h : padsOk d (pads[k]?.getD []) = false) : runOk d fs pads = false := by
  cases hr : runOk d fs pads with
  | false => rfl
  | true =>
    have := (runOk_iff.1 hr).2.2 (pads[k]?.getD []) (by rw [List.getElem?_eq_getElem hk]; exact List.getElem_mem hk)
    rw [this] at h; cases h
theorem runOk_good {d : Dev} {fs pads : List (List Int)} (hf : framesOk d fs = true) (hl : pads.length ≤ 16) (h : ∀ j, j < pads.length → padsOk d (pads[j]?.getD []) = true) : runOk d fs pads = true := by
  refine runOk_iff.2 ⟨hf, hl, fun p hp => ?_⟩
  obtain ⟨j, hj, rfl⟩ := List.getElem_of_mem hp
  have := h j hj
  rwa [List.getElem?_eq_getElem hj] at this
theorem size2_snoc (xss : List (List Int)) (xs : List Int) : size2 (xss ++ [xs]) = size2 xss + 1 + xs.length := by
  have hs : sizeTo (xss ++ [xs]) xss.length = sizeTo xss xss.length := by
    have : ∀ k, k ≤ xss.length → sizeTo (xss ++ [xs]) k = sizeTo xss k := by
      intro k hk
      induction k with
      | zero => rfl
      | succ k ih => rw [sizeTo, sizeTo, ih (by omega), List.getElem?_append_left (by omega)]
    exact this _ (Nat.le_refl _)
  unfold size2
  rw [List.length_append, List.length_singleton, sizeTo, hs, List.getElem?_append_right (Nat.le_refl _), Nat.sub_self]
  simp
  omega
theorem runO_size {d : Dev} {fs pads : List (List Int)} (hf : framesOk d fs = true) (k : Nat) : size2 (runO d fs pads k) ≤ 37 * k := by
  induction k with
  | zero => exact Nat.le_refl _
  | succ k ih =>
    rw [runO, size2_snoc, outF, outTo_length, tilesOf_length]
    have := (frames_n hf).2
    omega
theorem runF_size (d : Dev) (fs pads : List (List Int)) : size2 (runF d fs pads) ≤ 1099511627776 := by
  cases h : runOk d fs pads with
  | false => rw [runF_bad h]; decide
  | true =>
    have h' := runOk_iff.1 h
    rw [runF_good h]
    have := runO_size (pads := pads) h'.1 pads.length
    have := h'.2.1
    omega
end Go.Proofs.Ytclmhnghpnfnkaa

namespace Go.Proofs.Ytclmhnghpnfnkaa
set_option maxRecDepth 100000
open Go.RowKit

/-- Appending a row to rows of the call's own: rows of integers that the call owns stay. -/
theorem wpList_push2k {ops : Array Oper} {rest : List Oper} {o : Oper} {a : Act} {Q : Exit → Act → World → Prop} {w W : World} (hgd : o.guard = none) (s x : Operand)
    (ho : o.op = .call { callee := .builtin .append, args := #[s, x], argTypes := #[24, 24] })
    (lo hi : Nat) (A : Option Addr) (n c : Nat) (xss : List (List Int)) (base : Nat) (A1 : Option Addr) (m1 c1 : Nat) (xs : List Int) (hs : a.eval s = .slice A n c) (hown : Own2 lo hi w A n c xss) (hrow : Own base w A1 m1 c1 xs) (hx : a.eval x = .slice (some ⟨w.heap.size, 0, none⟩) 1 1)
    (hn : n ≤ 1099511627776) (hhb : hi ≤ base) (hlb : lo ≤ base) (hhw : hi ≤ w.heap.size) (hlw : lo ≤ w.heap.size) (hB : Below lo W w)
    (h : ∀ g cap w', Own2 lo w'.heap.size w' (some ⟨g, 0, none⟩) (n + 1) cap (xss ++ [xs]) → Below lo W w' → (∀ base' A2 n2 c2 ys, Own base' w A2 n2 c2 ys → Own base' w' A2 n2 c2 ys) → (w.alloc (.cells #[.slice A1 m1 c1] 27)).grownBy w' (A.map (·.block)) → (A.map (·.block) = some g ∨ g = w.heap.size + 1) →
      wpList Try.prog ops Q rest (a.put o.dst (.slice (some ⟨g, 0, none⟩) (n + 1) cap)) w') : wpList Try.prog ops Q (o :: rest) a (w.alloc (.cells #[.slice A1 m1 c1] 27)) := by
  obtain ⟨i0, hi0, hz0, hz1, hz2⟩ := info_parts slc_info
  obtain ⟨vs, h1, h2, h3⟩ := hown
  have hl := ownsRow_lt h1
  refine wpList_append_lies (w.alloc (.cells #[.slice A1 m1 c1] 27)) hgd s x 24 ho lo 27 i0 (.slice none 0 0) 1 24 Try.underlying24 hi0 hz0 hz1 hz2 rfl (by omega) (.slice A n c) n (vs.map SV.val) hs
    (ownsRow_block h1 fun a ha => Below.heap_alloc _ _ _ (hl a ha).2) ⟨w.heap.size, 0, none⟩ 1 1 [.slice A1 m1 c1] hx rfl
    (fun j u hu => ?_) (fun u hu => ?_) (by omega) (by unfold maxLen; omega) (by omega) (by simp; omega) (w.heap.size + 1) (by simp) ?_
  · rcases j with _ | j
    · simp at hu
      subst hu
      rw [add_lit0']
      unfold World.cell?
      rw [heap_new]
      rfl
    · simp at hu
  · simp at hu; subst hu; rfl
  · intro g cap w' k1 k2 k3 k4
    rw [ownBlock_slice] at k2 k3
    have hkeep : ∀ k e cs f, k < w.heap.size → w.heap[k]? = some (.cells cs e f) → e = 3 → w'.heap[k]? = w.heap[k]? := by
      intro k e cs f hk hh he
      refine (k2.block k (by simp; omega) ?_).trans (Below.heap_alloc _ _ _ hk)
      cases hA : A with
      | none => simp
      | some a' =>
        simp only [Option.map_some, ne_eq, Option.some.injEq]
        rintro rfl
        rcases h1.2 with ⟨hv, _⟩ | ⟨g', cap', cur', hv, _, hh', _⟩
        · injection hv with hv _ _
          rw [hA] at hv
          cases hv
        · injection hv with hv _ _
          rw [hA] at hv
          injection hv with hv
          subst hv
          rw [hh] at hh'
          injection hh' with hh'
          injection hh' with _ hty
          rw [he] at hty
          exact absurd hty (by decide)
    have hin : Inner lo hi w' vs xss := h3.keep fun k e cs f hk _ _ hh he => hkeep k e cs f hk hh he
    have hall : ∀ base' A2 n2 c2 ys, Own base' w A2 n2 c2 ys → Own base' w' A2 n2 c2 ys := fun base' A2 n2 c2 ys hrw => ownsRow_block hrw fun a ha => by
      have hla := hrw.lt a ha
      rcases hrw.2 with ⟨hv, _⟩ | ⟨g', cap', cur', hv, _, hh', _⟩
      · injection hv with hv _ _
        rw [hv] at ha
        cases ha
      · injection hv with hv _ _
        rw [hv] at ha
        injection ha with ha
        subst ha
        exact hkeep g' _ _ _ hla.2 hh' rfl
    have hro := hall _ _ _ _ _ hrow
    have hsz : w.heap.size ≤ w'.heap.size := by have := k2.size; simp at this; omega
    have hsn := hin.snoc hro hhb hlb
    rw [Nat.max_eq_right (by omega)] at hsn
    refine h g cap w' ⟨vs ++ [(A1, m1, c1)], by simpa [SV.val] using k1, by rintro a ⟨⟩; exact k4, hsn⟩ ?_ ?_ k2 k3
    · exact own_grown_lo (base := lo) (hB.alloc hlw _) k2 (fun a ha => (hl a ha).1) (Nat.le_refl _) (by simp; omega)
    · exact hall
set_option maxHeartbeats 4000000 in
theorem emuRunI_any (d : Dev) (A : Option Addr) (m c : Nat) (fs : List (List Int)) (PA : Option Addr) (pn pc : Nat) (pads : List (List Int)) (w : World) (hA : Rows2 w A m fs) (hP : Rows2 w PA pn pads) (hf : framesOk d fs = true) (hpn : pn ≤ 16) (hpo : ∀ j, j < pn → padsOk d (pads[j]?.getD []) = true) :
    Calls Try.prog 115 #[.agg #[.int .i64 d.W, .int .i64 d.H, .int .i64 d.T, .int .i64 d.R], .slice A m c, .slice PA pn pc] w fun e w' => ∃ A' c', e = .returned (.slice A' pn c') ∧ Own2 w.heap.size w'.heap.size w' A' pn c' (runO d fs pads pn) ∧ Below w.heap.size w w' := by
  have HB0 := Lib.hid (below_new (Below.refl w.heap.size w) (.cells #[.int .i64 d.W, .int .i64 d.H, .int .i64 d.T, .int .i64 d.R] 26))
  have HI := Lib.hid hA
  have HP := Lib.hid hP
  have HF := Lib.hid hf
  have HPO := Lib.hid hpo
  clear hA hP hf hpo
  go_enter Try.func115, Try.ntmps115
  go_wp2_with fail
  refine (emulatorOf_any d A m c fs _ (HI.out.below HB0.out) HF.out).mono ?_
  rintro e w1 ⟨g, TA, tc, EA, DA, rfl, hem, b1⟩
  have D1 := Lib.hid b1
  have B1 := Lib.hid (below_tr HB0.out b1)
  have hs1 := b1.size
  simp only [World.size_alloc] at hs1
  have HEM := Lib.hid hem
  have hgl := heap_lt0 hem.box
  have hmt : m = tiles d := by rw [← (frames_n HF.out).1]; exact HI.out.1.symm
  have HMT := Lib.hid hmt
  have x4 : w1.cell? ⟨g, 4, none⟩ = some (.slice TA m tc) := cell_heap (k := 4) hem.box rfl
  obtain ⟨q0, q1, q2, q3⟩ := keep4 D1.out (by simp) (box4 w d)
  have hww : w.heap.size < w1.heap.size := by omega
  clear b1 hem hmt
  have HQ := Lib.hid (And.intro q0 (And.intro q1 (And.intro q2 (And.intro q3 x4))))
  have hD := Below.refl w1.heap.size w1
  clear q0 q1 q2 q3 x4
  go_wp2_with fail
  go_region_held3 (fun w' => w'.cell? ⟨w.heap.size, 0, none⟩ = some (.int .i64 d.W) ∧ w'.cell? ⟨w.heap.size, 1, none⟩ = some (.int .i64 d.H) ∧ w'.cell? ⟨w.heap.size, 2, none⟩ = some (.int .i64 d.T) ∧ w'.cell? ⟨w.heap.size, 3, none⟩ = some (.int .i64 d.R) ∧ w'.cell? ⟨g, 4, none⟩ = some (.slice TA m tc))
    (first | with_reducible exact keep5 hD hww hgl HQ.out | with_reducible exact keep5 hD.drew hww hgl HQ.out)
    ((go_at_call 112; (with_reducible refine (emuStart_any d TA m tc (tilesOf d fs) _ (HEM.out.tiles.below (by first | with_reducible exact hD | with_reducible exact hD.drew)) (framesOk_iff HF.out).1 (by have := HMT.out; have := tiles_eq (framesOk_iff HF.out).1; omega) (les2_tilesOf d fs)).mono ?_); rintro e w3 ⟨SA, rfl, o3, b3⟩; have O3 := Lib.hid (own_low (a := w1) (by first | with_reducible exact hD | with_reducible exact hD.drew) o3); have hD2 := below_tr (a := w1) (by first | with_reducible exact hD | with_reducible exact hD.drew) b3; clear b3 o3; replace hD := hD2))
  have D3 := Lib.hid hD
  have hs3 := hD.size
  have HS0 : Hid (Own w1.heap.size w3 SA (2 * m) (2 * m) (stK d fs pads 0)) := by
    show Own _ _ _ _ _ _
    have e : stK d fs pads 0 = startTo d (tilesOf d fs) m := by show startF d fs = _; rw [startF_good HF.out, HI.out.1]
    rw [e]; exact O3.out
  clear hD
  go_wp2_with fail
  go_loopw [8, 9, 25] (fun sv v i wr => ∃ (k : Nat) (SA : Option Addr) (sc : Nat) (A' : Option Addr) (c' : Nat), k ≤ pn ∧ i = .int .i64 k ∧ sv = .slice SA (2 * m) sc ∧ v = .slice A' k c' ∧ Own w.heap.size wr SA (2 * m) sc (stK d fs pads k) ∧ Own2 w3.heap.size wr.heap.size wr A' k c' (runO d fs pads k) ∧ Below w3.heap.size w3 wr) (fun _ _ i _ => pn - (intOf i).toNat)
  case atStart => exact ⟨0, SA, 2 * m, none, 0, Nat.zero_le _, rfl, rfl, rfl, HS0.out.more B1.out.size, Own2.nil, Below.refl _ _⟩
  case round =>
    obtain ⟨k, SA, sc, A', c', hk, rfl, rfl, rfl, hso, hoo, hb⟩ := hrel
    have HSO := Lib.hid hso
    have HOO := Lib.hid hoo
    have HB := Lib.hid hb
    have hsr := hb.size
    have HW := Lib.hid (below_tr B1.out (below_tr D3.out hb))
    clear hso hoo hb
    by_cases hlt : k < pn
    · obtain ⟨b, o, rfl, hb, hc⟩ := HP.out.2 (by omega)
      obtain ⟨A1, m1, c1, hck, hI1⟩ := hc k hlt
      rw [← HW.out.cell (p := ⟨b, o + k, none⟩) hb] at hck
      have J1 := Lib.hid (hI1.below HW.out)
      have hpk := HPO.out k hlt
      have hst := stK_ok (pads := pads) HF.out (k := k) (fun j hj => HPO.out j (by omega))
      have HSTP := Lib.hid (step_any g d (tilesOf d fs) TA m tc EA DA (nodesOf d).toNat SA (2 * m) sc (stK d fs pads k) A1 m1 c1 (pads[k]?.getD []) wr (HEM.out.below (below_tr D3.out HB.out)) (by have := nodesOf_bd (framesOk_iff HF.out).1; omega) HSO.out.ints J1.out (by have := HMT.out; have := (tiles_eq (framesOk_iff HF.out).1).1; omega) (by have h1 := J1.out.1; have h2 := (padsOk_len hpk).1; omega) (stPads_ok hst hpk) (cfg_of_frames HF.out))
      have HRO : Hid (runO d fs pads (k + 1) = runO d fs pads k ++ [outF d (tilesOf d fs) (stK d fs pads k) (pads[k]?.getD [])]) := rfl
      have HSK : Hid (stK d fs pads (k + 1) = nextF d (tilesOf d fs) (stK d fs pads k) (pads[k]?.getD [])) := rfl
      have hm36 : m ≤ 36 := by have := HMT.out; have := tiles_eq (framesOk_iff HF.out).1; omega
      clear hc hI1 hpk hst
      generalize pads[k]?.getD [] = ps at *
      go_wp2_with fail
      refine HSTP.out.mono ?_
      rintro e w5 ⟨N1, nc, N2, mid, rfl, o1, o2, -, b5⟩
      have O1 := Lib.hid o1
      have O2 := Lib.hid o2
      have B5 := Lib.hid b5
      have hs5 := b5.size
      clear o1 o2 b5
      go_wp2_with (at_builtin; refine wpList_push2k rfl _ _ rfl w3.heap.size wr.heap.size A' k c' (runO d fs pads k) wr.heap.size N2 m m _ rfl (HOO.out.below B5.out) O2.out rfl (by omega) (Nat.le_refl _) (by omega) (by omega) (by omega) (below_tr HB.out B5.out) ?_; rintro g6 cap w6 o6 b6 hall - -)
      go_roundw
      case rel => exact ⟨k + 1, N1, nc, _, _, by omega, by go_num, rfl, rfl, by rw [HSK.out]; exact (hall _ _ _ _ _ O1.out).more (by have := HW.out.size; omega), by rw [HRO.out]; exact o6, b6⟩
      case measure => simp [intOf]; omega
    · have hkn : pn = k := by omega
      subst hkn
      go_wp2_with fail
      go_ret
      exact ⟨_, _, rfl, HOO.out.widen (by have := (below_tr B1.out D3.out).size; omega) (Nat.le_refl _), HW.out⟩
set_option maxHeartbeats 4000000 in
theorem pemuRun_any (d : Dev) (A : Option Addr) (m c : Nat) (fs : List (List Int)) (PA : Option Addr) (pn pc : Nat) (pads : List (List Int)) (w : World) (hA : Rows2 w A m fs) (hP : Rows2 w PA pn pads) (hz : size2 fs ≤ 1099511627776) (hz2 : size2 pads ≤ 1099511627776) :
    Calls Try.prog 59 #[.agg #[.int .i64 d.W, .int .i64 d.H, .int .i64 d.T, .int .i64 d.R], .slice A m c, .slice PA pn pc] w fun e w' => ∃ A' n' c', e = .returned (.slice A' n' c') ∧ Own2 w.heap.size w'.heap.size w' A' n' c' (runF d fs pads) ∧ Below w.heap.size w w' := by
  have HB0 := Lib.hid (below_new (Below.refl w.heap.size w) (.cells #[.int .i64 d.W, .int .i64 d.H, .int .i64 d.T, .int .i64 d.R] 26))
  obtain ⟨hpl, hrow⟩ := size2_bd hP.1 hz2
  have HI := Lib.hid hA
  have HP := Lib.hid hP
  have HX := Lib.hid hP.1
  have HR := Lib.hid hrow
  clear hA hP hrow
  go_enter Try.func59, Try.ntmps59
  go_wp2_with fail
  refine (framesOk_any d A m c fs _ (HI.out.below HB0.out) hz).mono ?_
  rintro e w1 ⟨rfl, b1⟩
  have hs1 := b1.size
  simp only [World.size_alloc] at hs1
  have D1 := Lib.hid b1
  obtain ⟨hcc, hff⟩ := bcell b1
  clear b1
  cases hf : framesOk d fs with
  | false =>
    have HF : Hid (runF d fs pads = []) := runF_bad (by unfold runOk; rw [hf]; rfl)
    clear hf
    go_wp2_with fail
    go_ret
    exact ⟨none, 0, 0, rfl, by rw [HF.out]; exact Own2.nil, below_tr HB0.out D1.out⟩
  | true =>
    have HFO := Lib.hid hf
    clear hf
    by_cases hl : pn ≤ 16
    · have hd1 : decide ((pn : Int) > 16) = false := by simp; omega
      clear hcc hff
      have hww : w.heap.size < w1.heap.size := by omega
      go_wp2_with fail
      go_loopw [20] (fun i wr => ∃ k : Nat, k ≤ pn ∧ i = .int .i64 k ∧ (∀ j, j < k → padsOk d (pads[j]?.getD []) = true) ∧ Below w1.heap.size w1 wr) (fun i _ => pn - (intOf i).toNat)
      case atStart => exact ⟨0, Nat.zero_le _, rfl, by intro j hj; omega, Below.refl _ _⟩
      case round =>
        obtain ⟨k, hk, rfl, hall, hb⟩ := hrel
        have HALL := Lib.hid hall
        have HB := Lib.hid hb
        have hsr := hb.size
        have HW := Lib.hid (below_tr HB0.out (below_tr D1.out hb))
        obtain ⟨q0, q1, q2, q3⟩ := keep4 (below_tr D1.out hb) (by simp) (box4 w d)
        clear hall hb
        by_cases hlt : k < pn
        · obtain ⟨b, o, rfl, hb, hc⟩ := HP.out.2 (by omega)
          obtain ⟨A1, m1, c1, hck, hI1⟩ := hc k hlt
          rw [← HW.out.cell (p := ⟨b, o + k, none⟩) hb] at hck
          have J1 := Lib.hid (hI1.below HW.out)
          have hm1 : m1 ≤ 1099511627776 := by have := HR.out k; have := hI1.1; omega
          have HBAD := Lib.hid (fun h => runF_bad (runOk_bad (fs := fs) (d := d) (k := k) (pads := pads) (by rw [HX.out]; exact hlt) h))
          have HG : Hid (padsOk d (pads[k]?.getD []) = true → ∀ j, j < k + 1 → padsOk d (pads[j]?.getD []) = true) := fun h j hj => by
            rcases Nat.lt_or_ge j k with h1 | h1
            · exact HALL.out j h1
            · have : j = k := by omega
              subst this; exact h
          clear hc hI1
          generalize pads[k]?.getD [] = ps at *
          go_wp2_with fail
          refine (padsOk_any d A1 m1 c1 ps _ J1.out hm1 (framesOk_iff HFO.out).1).mono ?_
          rintro e w5 ⟨rfl, b5⟩
          have HB5 := Lib.hid (below_tr HB.out b5)
          clear b5 q0 q1 q2 q3
          cases hp : padsOk d ps with
          | true =>
            have HG' := Lib.hid (HG.out hp)
            clear hp HG HBAD
            go_wp2_with fail
            go_roundw
            case rel => exact ⟨k + 1, by omega, by go_num, HG'.out, HB5.out⟩
            case measure => simp [intOf]; omega
          | false =>
            have HF := Lib.hid (HBAD.out hp)
            clear hp HG HBAD
            go_wp2_with fail
            go_ret
            exact ⟨none, 0, 0, rfl, by rw [HF.out]; exact Own2.nil, below_tr HB0.out (below_tr D1.out HB5.out)⟩
        · have hkn : pn = k := by omega
          subst hkn
          have HF : Hid (runF d fs pads = runO d fs pads pn) := by
            have h := runF_good (runOk_good HFO.out (by rw [HX.out]; exact hl) (by rw [HX.out]; exact HALL.out))
            rw [HX.out] at h
            exact h
          have hw0 : w.heap.size < wr.heap.size := by omega
          go_wp2_with fail
          refine (emuRunI_any d A m c fs PA pn pc pads _ (HI.out.below HW.out) (HP.out.below HW.out) HFO.out hl HALL.out).mono ?_
          rintro e w6 ⟨A6, c6, rfl, o6, b6⟩
          have O6 := Lib.hid o6
          have B6 := Lib.hid (below_tr HW.out b6)
          clear b6 o6
          go_wp2_with fail
          go_ret
          exact ⟨_, _, _, rfl, by rw [HF.out]; exact O6.out.widen HW.out.size (Nat.le_refl _), B6.out⟩
    · have hd1 : decide ((pn : Int) > 16) = true := by simp; omega
      have HF : Hid (runF d fs pads = []) := runF_bad (by
        cases hr : runOk d fs pads with
        | false => rfl
        | true => have := (runOk_iff.1 hr).2.1; have := HX.out; omega)
      go_wp2_with fail
      go_ret
      exact ⟨none, 0, 0, rfl, by rw [HF.out]; exact Own2.nil, below_tr HB0.out D1.out⟩
end Go.Proofs.Ytclmhnghpnfnkaa

namespace Go.Proofs.Ytclmhnghpnfnkaa
set_option maxRecDepth 100000
open Go.RowKit

theorem below_tr2 {B : Nat} {a b c : World} (h : Below B a b) (k : Below b.heap.size b c) (hB : B ≤ b.heap.size := by omega) : Below B a c := ⟨k.os.trans h.os, k.tape.trans h.tape, k.output.trans h.output, Nat.le_trans h.size k.size, fun i hi => (k.block i (Nat.lt_of_lt_of_le hi hB)).trans (h.block i hi)⟩
set_option maxHeartbeats 4000000 in
theorem semuRun_any (d : Dev) (A : Option Addr) (m c : Nat) (fs : List (List Int)) (PA : Option Addr) (pn pc : Nat) (pads : List (List Int)) (w : World) (hA : Rows2 w A m fs) (hP : Rows2 w PA pn pads) (hz : size2 fs ≤ 1099511627776) (hz2 : size2 pads ≤ 1099511627776) :
    Calls Try.prog 63 #[.agg #[.int .i64 d.W, .int .i64 d.H, .int .i64 d.T, .int .i64 d.R], .slice A m c, .slice PA pn pc] w fun e w' => ∃ A' n' c', e = .returned (.slice A' n' c') ∧ Own2 w.heap.size w'.heap.size w' A' n' c' (runF d fs pads) ∧ Below w.heap.size w w' := by
  have HB0 := Lib.hid (below_new (below_new (Below.refl w.heap.size w) (.cells #[.int .i64 d.W, .int .i64 d.H, .int .i64 d.T, .int .i64 d.R] 26)) (.cells #[] 27))
  obtain ⟨hpl, hrow⟩ := size2_bd hP.1 hz2
  have HI := Lib.hid hA
  have HP := Lib.hid hP
  have HX := Lib.hid hP.1
  have HR := Lib.hid hrow
  clear hA hP hrow
  go_enter Try.func63, Try.ntmps63
  go_wp2_with fail
  refine (sframesOk_any d A m c fs _ (HI.out.below HB0.out) hz).mono ?_
  rintro e w1 ⟨rfl, b1⟩
  have hs1 := b1.size
  simp only [World.size_alloc] at hs1
  have D1 := Lib.hid b1
  obtain ⟨q0, q1, q2, q3⟩ := keep4 D1.out (by simp; omega) (keep4 (below_new (Below.refl _ _) _) (by simp) (box4 w d))
  have HNIL : Hid (Own2 (w.heap.size + 1) w1.heap.size w1 (some ⟨w.heap.size + 1, 0, none⟩) 0 0 []) := by
    have h := (Own2.new0 (w := w.alloc (.cells #[.int .i64 d.W, .int .i64 d.H, .int .i64 d.T, .int .i64 d.R] 26)) (g := w.heap.size + 1) (by simp)).below b1
    exact h.widen (Nat.le_refl _) b1.size
  have B1 := Lib.hid (below_tr HB0.out b1)
  clear b1
  cases hf : framesOk d fs with
  | false =>
    have HF : Hid (runF d fs pads = []) := runF_bad (by unfold runOk; rw [hf]; rfl)
    clear hf
    go_wp2_with fail
    go_ret
    exact ⟨_, 0, 0, rfl, by rw [HF.out]; exact HNIL.out.widen (by omega) (Nat.le_refl _), B1.out⟩
  | true =>
    have HFO := Lib.hid hf
    clear hf
    by_cases hl : pn ≤ 16
    · have hd1 : decide ((pn : Int) > 16) = false := by simp; omega
      have hww : w.heap.size + 1 < w1.heap.size := by omega
      go_wp2_with fail
      clear q0 q1 q2 q3
      go_loopw [8] (fun i wr => ∃ k : Nat, k ≤ pn ∧ i = .int .i64 k ∧ (∀ j, j < k → padsOk d (pads[j]?.getD []) = true) ∧ Below w1.heap.size w1 wr) (fun i _ => pn - (intOf i).toNat)
      case atStart => exact ⟨0, Nat.zero_le _, rfl, by intro j hj; omega, Below.refl _ _⟩
      case round =>
        obtain ⟨k, hk, rfl, hall, hb⟩ := hrel
        have HALL := Lib.hid hall
        have HB := Lib.hid hb
        have hsr := hb.size
        have HW := Lib.hid (below_tr B1.out hb)
        have HQ := Lib.hid (keep4 hb (by omega) (keep4 D1.out (by simp; omega) (keep4 (below_new (Below.refl _ _) _) (by simp) (box4 w d))))
        have hwr : w.heap.size < wr.heap.size := by omega
        clear hall hb
        by_cases hlt : k < pn
        · have hdk : decide ((k : Int) < (pn : Int)) = true := by simp; omega
          obtain ⟨b, o, rfl, hb, hc⟩ := HP.out.2 (by omega)
          obtain ⟨A1, m1, c1, hck, hI1⟩ := hc k hlt
          rw [← HW.out.cell (p := ⟨b, o + k, none⟩) hb] at hck
          have J1 := Lib.hid (hI1.below HW.out)
          have hm1 : m1 ≤ 1099511627776 := by have := HR.out k; have := hI1.1; omega
          have HBAD := Lib.hid (fun h => runF_bad (runOk_bad (fs := fs) (d := d) (k := k) (pads := pads) (by rw [HX.out]; exact hlt) h))
          have HG : Hid (padsOk d (pads[k]?.getD []) = true → ∀ j, j < k + 1 → padsOk d (pads[j]?.getD []) = true) := fun h j hj => by
            rcases Nat.lt_or_ge j k with h1 | h1
            · exact HALL.out j h1
            · have : j = k := by omega
              subst this; exact h
          have HQ5 := Lib.hid (And.intro HQ.out.1 (And.intro HQ.out.2.1 (And.intro HQ.out.2.2.1 (And.intro HQ.out.2.2.2 hck))))
          have hbw : b < wr.heap.size := by have := HW.out.size; omega
          have i0 : (0 : Int) ≤ (k : Int) := by omega
          have i1 : (k : Int) < (pn : Int) := by omega
          have hD := Below.refl wr.heap.size wr
          clear hc hI1 hck
          generalize pads[k]?.getD [] = ps at *
          go_wp2_with fail
          go_region_held3 (fun w' => w'.cell? ⟨w.heap.size, 0, none⟩ = some (.int .i64 d.W) ∧ w'.cell? ⟨w.heap.size, 1, none⟩ = some (.int .i64 d.H) ∧ w'.cell? ⟨w.heap.size, 2, none⟩ = some (.int .i64 d.T) ∧ w'.cell? ⟨w.heap.size, 3, none⟩ = some (.int .i64 d.R) ∧ w'.cell? ⟨b, o + k, none⟩ = some (.slice A1 m1 c1))
            (first | with_reducible exact keep5 hD hwr hbw HQ5.out | with_reducible exact keep5 hD.drew hwr hbw HQ5.out)
            ((go_at_call 118; (with_reducible refine (sl41Pads_any d A1 m1 c1 ps _ (J1.out.below (by first | with_reducible exact hD | with_reducible exact hD.drew)) hm1 (framesOk_iff HFO.out).1).mono ?_); rintro e w5 ⟨rfl, b5⟩; have hD2 := below_tr (a := wr) (by first | with_reducible exact hD | with_reducible exact hD.drew) b5; clear b5; replace hD := hD2))
          have HB5 := Lib.hid (below_tr HB.out hD)
          cases hp : padsOk d ps with
          | true =>
            have HG' := Lib.hid (HG.out hp)
            clear hp HG HBAD hD
            go_wp2_with fail
            go_roundw
            case rel => exact ⟨k + 1, by omega, by go_num, HG'.out, HB5.out⟩
            case measure => simp [intOf]; omega
          | false =>
            have HF := Lib.hid (HBAD.out hp)
            clear hp HG HBAD hD
            go_wp2_with fail
            go_ret
            exact ⟨_, 0, 0, rfl, by rw [HF.out]; exact (HNIL.out.below HB5.out).widen (by omega) HB5.out.size, below_tr B1.out HB5.out⟩
        · have hkn : pn = k := by omega
          subst hkn
          have hdk : decide ((pn : Int) < (pn : Int)) = false := by simp
          have HF : Hid (runF d fs pads = runO d fs pads pn) := by
            have h := runF_good (runOk_good HFO.out (by rw [HX.out]; exact hl) (by rw [HX.out]; exact HALL.out))
            rw [HX.out] at h
            exact h
          have HAL := HALL
          obtain ⟨q0, q1, q2, q3⟩ := HQ.out
          have HNI := Lib.hid (HNIL.out.below HB.out)
          clear hlt hk
          go_wp2_with fail
          refine (sreadFrames_any d A m c fs _ (HI.out.below HW.out) hz).mono ?_
          rintro e w3 ⟨TA, tn, tc, rfl, o3, b3⟩
          have T3 := Lib.hid o3
          have HW3 := Lib.hid (below_tr HW.out b3)
          have D3 := Lib.hid b3
          have hs3 := b3.size
          have HTN := Lib.hid o3.rd.tlen
          obtain ⟨q0, q1, q2, q3⟩ := keep4 b3 hwr HQ.out
          clear o3 b3
          go_wp2_with fail
          refine (semuStart_any d A m c fs _ (HI.out.below HW3.out) hz).mono ?_
          rintro e w4 ⟨SA, sn, sc, rfl, o4, b4⟩
          have O4 := Lib.hid o4
          have HW4 := Lib.hid (below_tr HW3.out b4)
          have D4 := Lib.hid (below_tr D3.out b4)
          have T4 := Lib.hid (T3.out.keep (w' := w4) (fun k _ _ h3 => b4.block k h3))
          have hs4 := b4.size
          have HSN := Lib.hid o4.len
          have HQ4 := Lib.hid (keep4 D4.out hwr HQ.out)
          clear o4 b4 q0 q1 q2 q3
          go_wp2_with fail
          have hm36 := (frames_n HFO.out).2
          have hml : fs.length = m := HI.out.1
          have hrf : readF d fs = tilesOf d fs := by rw [readF, if_pos HFO.out]
          have htn : tn = m := by rw [← HTN.out, hrf, tilesOf_length, hml]
          have hmt : m = tiles d := by rw [← (frames_n HFO.out).1, hml]
          have HMT := Lib.hid hmt
          have hsn : sn = 2 * m := by rw [← HSN.out, stOk_len (stOk_start HFO.out), hmt]
          have HSNM := Lib.hid hsn
          have HRF := Lib.hid hrf
          subst htn
          have HST0 : Hid (Own w.heap.size w4 SA sn sc (stK d fs pads 0)) := O4.out.more (by have := HW3.out.size; omega)
          have hbw4 : Below (w.heap.size + 1) (w.alloc (.cells #[.int .i64 d.W, .int .i64 d.H, .int .i64 d.T, .int .i64 d.R] 26)) w4 := by
            have h := below_tr (below_tr (below_new (Below.refl (w.alloc (.cells #[.int .i64 d.W, .int .i64 d.H, .int .i64 d.T, .int .i64 d.R] 26)).heap.size (w.alloc (.cells #[.int .i64 d.W, .int .i64 d.H, .int .i64 d.T, .int .i64 d.R] 26))) (.cells #[] 27)) (below_tr D1.out HB.out)) D4.out
            rwa [World.size_alloc] at h
          have HBW4 := Lib.hid hbw4
          have HNI4 := Lib.hid ((HNI.out.below D4.out).widen (Nat.le_refl _) (show w1.heap.size ≤ w4.heap.size by have := D4.out.size; omega))
          have hw24 : w.heap.size + 2 ≤ wr.heap.size := by omega
          clear hrf hmt hsn hbw4 hml
          go_loopw [7, 10, 11] (fun v sv i wx => ∃ (k : Nat) (SA : Option Addr) (sc : Nat) (A' : Option Addr) (c' : Nat), k ≤ pn ∧ i = .int .i64 k ∧ sv = .slice SA sn sc ∧ v = .slice A' k c' ∧ Own w.heap.size wx SA sn sc (stK d fs pads k) ∧ Own2 (w.heap.size + 1) wx.heap.size wx A' k c' (runO d fs pads k) ∧ Below (w.heap.size + 1) (w.alloc (.cells #[.int .i64 d.W, .int .i64 d.H, .int .i64 d.T, .int .i64 d.R] 26)) wx ∧ KeptIn w4 wx (w.heap.size + 2) A') (fun _ _ i _ => pn - (intOf i).toNat)
          case atStart => exact ⟨0, SA, sc, _, 0, Nat.zero_le _, rfl, rfl, rfl, HST0.out, HNI4.out, HBW4.out, fun _ _ _ => rfl, Nat.le_refl _, by rintro a h; injection h with h; subst h; exact .inl (Nat.lt_succ_self _)⟩
          case round =>
            obtain ⟨k, SA, sc, A', c', hk, rfl, rfl, rfl, hso, hoo, hb, hkp⟩ := hrel
            have hbx : Below (w.alloc (.cells #[.int .i64 d.W, .int .i64 d.H, .int .i64 d.T, .int .i64 d.R] 26)).heap.size (w.alloc (.cells #[.int .i64 d.W, .int .i64 d.H, .int .i64 d.T, .int .i64 d.R] 26)) wr := by rw [World.size_alloc]; exact hb
            have HBX := Lib.hid hbx
            have HB2 := Lib.hid hb
            have HSO := Lib.hid hso
            have HOO := Lib.hid hoo
            have HKP := Lib.hid hkp
            have HW2 := Lib.hid (below_tr (below_new (Below.refl w.heap.size w) _) hbx)
            have hsz := hkp.2.1
            have TR := Lib.hid (T4.out.keep (w' := wr) (fun k h1 h2 h3 => hkp.1 k (by omega) h3)).rd
            have hwr2 : w.heap.size < wr.heap.size := by omega
            clear hbx hb hso hoo hkp
            by_cases hlt : k < pn
            · have hdk2 : decide ((k : Int) < (pn : Int)) = true := by simp; omega
              obtain ⟨b, o, rfl, hb, hc⟩ := HP.out.2 (by omega)
              obtain ⟨A1, m1, c1, hck, hI1⟩ := hc k hlt
              rw [← HW2.out.cell (p := ⟨b, o + k, none⟩) hb] at hck
              have J1 := Lib.hid (hI1.below HW2.out)
              have hpk := HAL.out k hlt
              have hst := stK_ok (pads := pads) HFO.out (k := k) (fun j hj => HAL.out j (by omega))
              have HSTP := Lib.hid (fun (w' : World) (hb' : Below wr.heap.size wr w') => sl41Step_any d (tilesOf d fs) TA tn tc SA sn sc (stK d fs pads k) A1 m1 c1 (pads[k]?.getD []) w' (by rw [← HRF.out]; exact TR.out.below hb') (HSO.out.ints.below hb') (J1.out.below hb') (by have := HMT.out; have := HSNM.out; have := (tiles_eq (framesOk_iff HFO.out).1).1; omega) (by have h1 := J1.out.1; have h2 := (padsOk_len hpk).1; omega) (stPads_ok hst hpk) (cfg_of_frames HFO.out))
              have HRO : Hid (runO d fs pads (k + 1) = runO d fs pads k ++ [outF d (tilesOf d fs) (stK d fs pads k) (pads[k]?.getD [])]) := rfl
              have HSK : Hid (stK d fs pads (k + 1) = nextF d (tilesOf d fs) (stK d fs pads k) (pads[k]?.getD [])) := rfl
              have HQ2 := keep4 HBX.out (by simp) (box4 w d)
              have HQ5 := Lib.hid (And.intro HQ2.1 (And.intro HQ2.2.1 (And.intro HQ2.2.2.1 (And.intro HQ2.2.2.2 hck))))
              have hbw : b < wr.heap.size := by have := HW2.out.size; omega
              have i0 : (0 : Int) ≤ (k : Int) := by omega
              have i1 : (k : Int) < (pn : Int) := by omega
              have htn36 : tn ≤ 36 := by have := HMT.out; have := tiles_eq (framesOk_iff HFO.out).1; omega
              have hD := Below.refl wr.heap.size wr
              clear hc hI1 hpk hst HQ2 hck
              generalize pads[k]?.getD [] = ps at *
              go_wp2_with fail
              go_region_held3 (fun w' => w'.cell? ⟨w.heap.size, 0, none⟩ = some (.int .i64 d.W) ∧ w'.cell? ⟨w.heap.size, 1, none⟩ = some (.int .i64 d.H) ∧ w'.cell? ⟨w.heap.size, 2, none⟩ = some (.int .i64 d.T) ∧ w'.cell? ⟨w.heap.size, 3, none⟩ = some (.int .i64 d.R) ∧ w'.cell? ⟨b, o + k, none⟩ = some (.slice A1 m1 c1))
                (first | with_reducible exact keep5 hD hwr2 hbw HQ5.out | with_reducible exact keep5 hD.drew hwr2 hbw HQ5.out)
                ((go_at_call 117; (with_reducible refine (HSTP.out _ (by first | with_reducible exact hD | with_reducible exact hD.drew)).mono ?_); rintro e w5 ⟨N1, nc, N2, mid, rfl, o1, o2, -, b5⟩; have O1 := Lib.hid (own_low (a := wr) (by first | with_reducible exact hD | with_reducible exact hD.drew) o1); have O2 := Lib.hid (own_low (a := wr) (by first | with_reducible exact hD | with_reducible exact hD.drew) o2); have hD2 := below_tr (a := wr) (by first | with_reducible exact hD | with_reducible exact hD.drew) b5; clear b5 o1 o2; replace hD := hD2))
              have B5 := Lib.hid hD
              have hs5 := hD.size
              have KP5 := Lib.hid (HKP.out.below hD)
              have HBW5 := Lib.hid (below_tr2 HB2.out hD)
              clear hD
              go_wp2_with (at_builtin; refine wpList_push2k rfl _ _ rfl (w.heap.size + 1) wr.heap.size A' k c' (runO d fs pads k) wr.heap.size N2 tn tn _ rfl (HOO.out.below B5.out) O2.out rfl (by omega) (Nat.le_refl _) (by omega) (by omega) (by omega) HBW5.out ?_; rintro g6 cap w6 o6 b6 hall hgr hat)
              go_roundw
              case rel => exact ⟨k + 1, N1, nc, _, _, by omega, by go_num, rfl, rfl, by rw [HSK.out]; exact (hall _ _ _ _ _ O1.out).more (by omega), by rw [HRO.out]; exact o6, b6, KP5.out.pushed hgr hat trivial⟩
              case measure => simp [intOf]; omega
            · have hkn : pn = k := by omega
              subst hkn
              have hdk2 : decide ((pn : Int) < (pn : Int)) = false := by simp
              go_wp2_with fail
              go_ret
              exact ⟨_, _, _, rfl, by rw [HF.out]; exact HOO.out.widen (by omega) (Nat.le_refl _), HW2.out⟩
    · have hd1 : decide ((pn : Int) > 16) = true := by simp; omega
      have HF : Hid (runF d fs pads = []) := runF_bad (by
        cases hr : runOk d fs pads with
        | false => rfl
        | true => have := (runOk_iff.1 hr).2.1; have := HX.out; omega)
      go_wp2_with fail
      go_ret
      exact ⟨_, 0, 0, rfl, by rw [HF.out]; exact HNIL.out.widen (by omega) (Nat.le_refl _), B1.out⟩
end Go.Proofs.Ytclmhnghpnfnkaa
