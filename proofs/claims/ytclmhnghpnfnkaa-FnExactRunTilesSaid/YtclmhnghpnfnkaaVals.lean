/- EmuValues: the values of all nodes: which arguments are valid; the pads' check of both. -/
import Derived.Test.YtclmhnghpnfnkaaUndS
namespace Go.Proofs.Ytclmhnghpnfnkaa
set_option maxRecDepth 100000
open Go.RowKit

def padsOk (d : Dev) (ps : List Int) : Bool := wordsOk ps (d.W * d.H) 1
def allOk (d : Dev) (fs : List (List Int)) (st ps : List Int) : Bool := framesOk d fs && (stOk d st && padsOk d ps)
def evF (d : Dev) (fs : List (List Int)) (st ps : List Int) : List Int := if allOk d fs st ps = true then valsF d (tilesOf d fs) st ps else []
theorem allIn_any {ws : List Int} {most : Int} (h : allIn ws most = true) (hm : 0 ≤ most) (k : Nat) : 0 ≤ ws[k]?.getD 0 ∧ ws[k]?.getD 0 ≤ most := by
  rcases Nat.lt_or_ge k ws.length with hk | hk
  · exact allIn_get h hk
  · rw [List.getElem?_eq_none hk]; exact ⟨Int.le_refl _, hm⟩
theorem padsOk_len {d : Dev} {ps : List Int} (h : padsOk d ps = true) : (ps.length : Int) = d.W * d.H ∧ allIn ps 1 = true := by
  unfold padsOk wordsOk at h
  rw [Bool.and_eq_true, decide_eq_true_eq] at h
  exact h
theorem stOk_len {d : Dev} {st : List Int} (h : stOk d st = true) : st.length = 2 * tiles d := by
  simp only [stOk, Bool.and_eq_true, decide_eq_true_eq] at h
  exact h.2.1
theorem mostOf_pos (d : Dev) (i : Nat) : 0 ≤ mostOf d i := by unfold mostOf; split <;> (try split) <;> omega
theorem stOk_any {d : Dev} {st : List Int} (h : stOk d st = true) (i : Nat) : 0 ≤ st[i]?.getD 0 ∧ st[i]?.getD 0 ≤ mostOf d i := by
  rcases Nat.lt_or_ge i st.length with hk | hk
  · simp only [stOk, Bool.and_eq_true, List.all_eq_true, List.mem_range] at h
    exact inR_iff.1 (h.2.2 i hk)
  · rw [List.getElem?_eq_none hk]; exact ⟨Int.le_refl _, mostOf_pos d i⟩
theorem stPads_ok {d : Dev} {ts : List Tile} {st ps : List Int} (hs : stOk d st = true) (hp : padsOk d ps = true) : StPads d ts st ps := by
  refine ⟨fun t _ _ => allIn_any (padsOk_len hp).2 (by omega) _, fun t e ht hk h0 h1 => ?_, fun t ht hk => ?_⟩
  · have ht0 := (tileIn_iff.1 ht).2.1
    have h := stOk_any hs (2 * t + e).toNat
    unfold nv
    have hx : (((2 * t + e).toNat / 2 : Nat) : Int) = t := by omega
    rw [mostOf, hx, if_pos hk] at h
    exact h
  · have ht0 := (tileIn_iff.1 ht).2.1
    have h := stOk_any hs (2 * t).toNat
    unfold nv
    have hx : (((2 * t).toNat / 2 : Nat) : Int) = t := by omega
    rw [mostOf, hx, if_neg (by omega), if_pos ⟨hk, by omega⟩] at h
    exact h
theorem evF_good {d : Dev} {fs : List (List Int)} {st ps : List Int} (h : allOk d fs st ps = true) : evF d fs st ps = valsF d (tilesOf d fs) st ps := if_pos h
theorem evF_bad {d : Dev} {fs : List (List Int)} {st ps : List Int} (h : allOk d fs st ps = false) : evF d fs st ps = [] := if_neg (by rw [h]; decide)
theorem evF_le (d : Dev) (fs : List (List Int)) (st ps : List Int) : (evF d fs st ps).length ≤ 1000000 := by
  cases h : allOk d fs st ps with
  | false => rw [evF_bad h]; decide
  | true =>
    rw [evF_good h, valsF_length]
    simp only [allOk, Bool.and_eq_true] at h
    have := nodesOf_bd (framesOk_iff h.1).1
    omega

theorem rdC_dr {w : World} {c : Cel} {v : Value} (h : RdC w w.heap.size c v) : RdC w.drew w.drew.heap.size c v := RdC.keep (w := w) (w' := w.drew) (B := w.heap.size) (B' := w.heap.size) (Nat.le_refl _) (fun _ _ => rfl) h

set_option maxHeartbeats 1000000 in
theorem padsOk_any (d : Dev) (A : Option Addr) (n c : Nat) (ps : List Int) (w : World) (h : Ints w A n ps) (hn : n ≤ 1099511627776) (hd : devOk d = true) :
    Calls Try.prog 93 #[.agg #[.int .i64 d.W, .int .i64 d.H, .int .i64 d.T, .int .i64 d.R], .slice A n c] w fun e w' => e = .returned (.bool (padsOk d ps)) ∧ Below w.heap.size w w' := by
  have hB0 : Below w.heap.size w (w.alloc (.cells #[.int .i64 d.W, .int .i64 d.H, .int .i64 d.T, .int .i64 d.R] 26)) := below_new (Below.refl _ _) _
  have HI := Lib.hid h
  have HE : Hid (padsOk d ps = wordsOk ps (d.W * d.H) 1) := rfl
  have e1 := (tiles_eq hd).1
  have hWH := (tiles_eq hd).2
  rw [e1] at HE
  generalize tiles d = M at *
  have a3 : IntKind.i64.wrap (M : Int) = (M : Int) := IntWalk.i64_in _ (by omega)
  clear h hd
  go_enter Try.func93, Try.ntmps93
  go_wp2_with fail
  refine (wordsOk_any A n c ps _ _ _ (HI.out.below hB0) hn).mono ?_
  rintro e w1 ⟨rfl, b1⟩
  go_wp2_with fail
  go_ret
  exact ⟨ret_bool HE.out.symm, below_tr hB0 b1⟩
set_option maxHeartbeats 1000000 in
theorem l37List_any (A : Option Addr) (n c : Nat) (ws : List Int) (count most : Int) (w : World) (h : Ints w A n ws) (hn : n ≤ 1099511627776) (hlen : (n : Int) = count) :
    Calls Try.prog 166 #[.slice A n c, .int .i64 count, .int .i64 most] w fun e w' => e = .returned (.bool (allIn ws most)) ∧ Below w.heap.size w w' := by
  obtain ⟨hx, hA⟩ := h
  have HX := Lib.hid hx
  have hd : ((n : Int) == count) = true := by simp [hlen]
  have HN := Lib.hid hlen
  clear hx hlen
  go_enter Try.func166, Try.ntmps166
  go_wp2_with fail
  go_loop [7] (fun i => ∃ k : Nat, k ≤ n ∧ i = .int .i64 k ∧ ∀ j, j < k → inR (ws[j]?.getD 0) 0 most = true) (fun i => n - (intOf i).toNat)
  case atStart => exact ⟨0, Nat.zero_le _, rfl, by intro j hj; omega⟩
  case round =>
    obtain ⟨k, hk, rfl, hall⟩ := hrel
    have HALL := Lib.hid hall
    clear hall
    by_cases hlt : k < n
    · obtain ⟨b, o, rfl, hb, hc⟩ := hA (by omega)
      have hck := hc k hlt
      clear hc
      have HB : Hid (inR (ws[k]?.getD 0) 0 most = false → allIn ws most = false) := fun h => allIn_bad (by rw [HX.out]; exact hlt) h
      have HG : Hid (inR (ws[k]?.getD 0) 0 most = true → ∀ j, j < k + 1 → inR (ws[j]?.getD 0) 0 most = true) := fun h => all_succ HALL.out h
      generalize ws[k]?.getD 0 = x at *
      cases hin : inR x 0 most with
      | true =>
        have HG' := Lib.hid (HG.out hin)
        clear HG HB
        go_wp2_with (go_at_call 114; refine (l01In_any _ _ _ _).mono ?_; rintro e w' ⟨rfl, rfl⟩)
        go_round
        case rel => exact ⟨k + 1, by omega, by go_num, HG'.out⟩
        case measure => simp [intOf]; omega
      | false =>
        have HB' := Lib.hid (HB.out hin)
        clear HG HB
        go_wp2_with (go_at_call 114; refine (l01In_any _ _ _ _).mono ?_; rintro e w' ⟨rfl, rfl⟩)
        go_ret
        exact ⟨ret_bool (by rw [HB'.out]), Below.refl _ _⟩
    · have hkn : k = n := by omega
      subst hkn
      go_wp2
      go_ret
      exact ⟨ret_bool (by rw [allIn_good (by rw [HX.out]; exact HALL.out)]), Below.refl _ _⟩
set_option maxHeartbeats 1000000 in
theorem sl41Pads_any (d : Dev) (A : Option Addr) (n c : Nat) (ps : List Int) (w : World) (h : Ints w A n ps) (hn : n ≤ 1099511627776) (hd : devOk d = true) :
    Calls Try.prog 118 #[.agg #[.int .i64 d.W, .int .i64 d.H, .int .i64 d.T, .int .i64 d.R], .slice A n c] w fun e w' => e = .returned (.bool (padsOk d ps)) ∧ Below w.heap.size w w' := by
  have hB0 : Below w.heap.size w (w.alloc (.cells #[.int .i64 d.W, .int .i64 d.H, .int .i64 d.T, .int .i64 d.R] 26)) := below_new (Below.refl _ _) _
  have HI := Lib.hid h
  have HX := Lib.hid h.1
  have HE : Hid (padsOk d ps = wordsOk ps (d.W * d.H) 1) := rfl
  have e1 := (tiles_eq hd).1
  have hWH := (tiles_eq hd).2
  rw [e1] at HE
  generalize tiles d = M at *
  have a3 : IntKind.i64.wrap (M : Int) = (M : Int) := IntWalk.i64_in _ (by omega)
  clear h hd
  by_cases hl : (n : Int) = (M : Int)
  · have hd1 : ((n : Int) == (M : Int)) = true := by simp [hl]
    have HL := Lib.hid hl
    have HE2 : Hid (padsOk d ps = allIn ps 1) := by show _ = _; rw [HE.out, wordsOk, HX.out, decide_eq_true hl]; rfl
    clear hl
    go_enter Try.func118, Try.ntmps118
    go_wp2_with fail
    refine (l37List_any A n c ps _ _ _ (HI.out.below hB0) hn HL.out).mono ?_
    rintro e w1 ⟨rfl, b1⟩
    go_wp2_with fail
    go_ret
    exact ⟨ret_bool HE2.out.symm, below_tr hB0 b1⟩
  · have hd1 : ((n : Int) == (M : Int)) = false := by simp [hl]
    have HE2 : Hid (padsOk d ps = false) := by show _ = _; rw [HE.out, wordsOk, HX.out, decide_eq_false hl]; rfl
    clear hl
    go_enter Try.func118, Try.ntmps118
    go_wp2_with fail
    go_ret
    exact ⟨ret_bool HE2.out.symm, hB0⟩
end Go.Proofs.Ytclmhnghpnfnkaa
