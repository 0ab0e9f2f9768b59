/- EmuStep: the next state and the outputs, or nothing. -/
import Derived.Test.YtbnfdhidgdfbeaaStpPure
namespace Go.Proofs.Ytbnfdhidgdfbeaa
set_option maxRecDepth 100000
open Go.RowKit

def esN (d : Dev) (fs : List (List Int)) (st ps : List Int) : List Int := if allOk d fs st ps = true then nextF d (tilesOf d fs) st ps else []
def esO (d : Dev) (fs : List (List Int)) (st ps : List Int) : List Int := if allOk d fs st ps = true then outF d (tilesOf d fs) st ps else []
theorem esN_good {d : Dev} {fs : List (List Int)} {st ps : List Int} (h : allOk d fs st ps = true) : esN d fs st ps = nextF d (tilesOf d fs) st ps := if_pos h
theorem esN_bad {d : Dev} {fs : List (List Int)} {st ps : List Int} (h : allOk d fs st ps = false) : esN d fs st ps = [] := if_neg (by rw [h]; decide)
theorem esO_good {d : Dev} {fs : List (List Int)} {st ps : List Int} (h : allOk d fs st ps = true) : esO d fs st ps = outF d (tilesOf d fs) st ps := if_pos h
theorem esO_bad {d : Dev} {fs : List (List Int)} {st ps : List Int} (h : allOk d fs st ps = false) : esO d fs st ps = [] := if_neg (by rw [h]; decide)
theorem allOk_parts {d : Dev} {fs : List (List Int)} {st ps : List Int} (h : allOk d fs st ps = true) : framesOk d fs = true ∧ stOk d st = true ∧ padsOk d ps = true := by simpa [allOk] using h
theorem esN_le (d : Dev) (fs : List (List Int)) (st ps : List Int) : (esN d fs st ps).length ≤ 1000000 := by
  cases h : allOk d fs st ps with
  | false => rw [esN_bad h]; decide
  | true =>
    obtain ⟨h1, h2, h3⟩ := allOk_parts h
    rw [esN_good h, nextF, nextTo_length, stOk_len h2]
    have := tiles_eq (framesOk_iff h1).1
    omega
theorem esO_le (d : Dev) (fs : List (List Int)) (st ps : List Int) : (esO d fs st ps).length ≤ 1000000 := by
  cases h : allOk d fs st ps with
  | false => rw [esO_bad h]; decide
  | true =>
    obtain ⟨h1, h2, h3⟩ := allOk_parts h
    rw [esO_good h, outF, outTo_length, tilesOf_length]
    have := (frames_n h1).2
    omega
/-- Two rows of the call's own that lie apart. -/
def Apart (lo hi : Nat) (A1 A2 : Option Addr) : Prop := ∃ mid, lo ≤ mid ∧ mid ≤ hi ∧ Lies A1 lo mid ∧ Lies A2 mid hi
theorem Apart.nil {lo hi : Nat} (h : lo ≤ hi) : Apart lo hi none none := ⟨lo, Nat.le_refl _, h, by rintro a ⟨⟩, by rintro a ⟨⟩⟩
theorem Apart.more {lo lo' hi hi' : Nat} {A1 A2 : Option Addr} (h : Apart lo hi A1 A2) (h1 : lo' ≤ lo) (h2 : hi ≤ hi') : Apart lo' hi' A1 A2 := by
  obtain ⟨mid, a, b, c, e⟩ := h
  exact ⟨mid, by omega, by omega, fun x hx => ⟨by have := (c x hx).1; omega, (c x hx).2⟩, fun x hx => ⟨(e x hx).1, by have := (e x hx).2; omega⟩⟩
end Go.Proofs.Ytbnfdhidgdfbeaa
