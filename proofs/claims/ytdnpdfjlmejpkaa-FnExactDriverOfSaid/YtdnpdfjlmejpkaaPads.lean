/- PadsFor: the program's and the reference's make one list. -/
import Derived.Test.YtdnpdfjlmejpkaaDev
import Derived.Test.YtdnpdfjlmejpkaaBit
namespace Go.Proofs.Ytdnpdfjlmejpkaa
set_option maxRecDepth 100000
open Go.RowKit

def padsTo (N : Nat) (ts : List Int) (b : Int) : Nat → List Int
  | 0 => List.replicate N 0
  | k + 1 => (padsTo N ts b k).set (ts[k]?.getD 0).toNat (bits .and .i64 (b / 2 ^ k) 1)
def tiles (d : Dev) : Nat := (d.W * d.H).toNat
def padsFor (d : Dev) (ts : List Int) (b : Int) : List Int :=
  if devOk d = true ∧ ts.length ≤ 40 ∧ ∀ j, j < ts.length → inR (ts[j]?.getD 0) 0 ((tiles d : Int) - 1) = true then padsTo (tiles d) ts b ts.length else []
theorem padsTo_length (N : Nat) (ts : List Int) (b : Int) (k : Nat) : (padsTo N ts b k).length = N := by
  induction k with
  | zero => simp [padsTo]
  | succ k ih => simp [padsTo, ih]
theorem padsFor_le (d : Dev) (ts : List Int) (b : Int) : (padsFor d ts b).length ≤ 36 := by
  unfold padsFor
  split
  · rename_i h
    rw [padsTo_length]
    have h1 := devOk_bd h.1
    have h2 := Int.mul_le_mul h1.2.1 h1.2.2.2.1 (by omega) (by omega)
    unfold tiles
    omega
  · simp
theorem tiles_eq {d : Dev} (h : devOk d = true) : d.W * d.H = (tiles d : Int) ∧ 9 ≤ tiles d ∧ tiles d ≤ 36 := by
  obtain ⟨h1, h2, h3, h4, _⟩ := devOk_bd h
  have a : 9 ≤ d.W * d.H := by
    have := Int.mul_le_mul h1 h3 (by omega) (by omega)
    omega
  have b : d.W * d.H ≤ 36 := by
    have := Int.mul_le_mul h2 h4 (by omega) (by omega)
    omega
  unfold tiles
  omega

end Go.Proofs.Ytdnpdfjlmejpkaa
