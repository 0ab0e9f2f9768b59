/- SeqNext of a memory, both: one answer. A step of the emulator: the next state and the outputs as lists. -/
import Derived.Test.YtbnfdhidgdfbeaaHar
import Derived.Test.YtbnfdhidgdfbeaaVals
namespace Go.Proofs.Ytbnfdhidgdfbeaa
set_option maxRecDepth 100000
open Go.RowKit

/-- The next state of a memory of four bits and an output bit. -/
def ramOut (v a : Nat) : Nat := v / 2 * 2 + v / 2 ^ a % 2
def ramNext (v i : Nat) : Nat := if i / 8 % 2 = 1 then ramOut v (i % 4 + 1) - ramOut v (i % 4 + 1) / 2 ^ (i % 4 + 1) % 2 * 2 ^ (i % 4 + 1) + i / 4 % 2 * 2 ^ (i % 4 + 1) else ramOut v (i % 4 + 1)
theorem ramNext_le (v i : Nat) (hv : v ≤ 31) (hi : i ≤ 15) : ramNext v i ≤ 31 := by
  have h : ∀ v : Fin 32, ∀ i : Fin 16, ramNext v.val i.val ≤ 31 := by decide +kernel
  exact h ⟨v, by omega⟩ ⟨i, by omega⟩
set_option maxHeartbeats 1000000 in
theorem seqMost_ram (w : World) : Calls Try.prog 137 #[.int .i64 1] w fun e w' => e = .returned (.int .i64 31) ∧ w' = w := by
  go_enter Try.func137, Try.ntmps137
  go_wp2_with fail
  go_ret
  exact ⟨rfl, rfl⟩
set_option maxHeartbeats 1000000 in
theorem seqNext_ram (v i : Nat) (hv : v ≤ 31) (hi : i ≤ 15) (w : World) :
    Calls Try.prog 119 #[.int .i64 1, .int .i64 (v : Int), .int .i64 (i : Int)] w fun e w' => e = .returned (.int .i64 (ramNext v i : Nat)) ∧ w' = w := by
  have hin : inR (v : Int) 0 31 = true := inR_iff.2 ⟨by omega, by omega⟩
  go_enter Try.func119, Try.ntmps119
  go_wp2_with (first | (go_at_call 137; refine (seqMost_ram _).mono ?_; rintro e w' ⟨rfl, rfl⟩) | (go_at_call 57; refine (inRange_any _ _ _ _).mono ?_; rintro e w' ⟨rfl, rfl⟩; rw [hin]))
  all_goals
    rename_i hc
    clear hin
    go_ret
    refine ⟨ret_int ?_, rfl⟩
    obtain ⟨v, rfl⟩ : ∃ x : Fin 32, v = x.val := ⟨⟨v, by omega⟩, rfl⟩
    obtain ⟨i, rfl⟩ : ∃ x : Fin 16, i = x.val := ⟨⟨i, by omega⟩, rfl⟩
    clear hv hi
    revert i v
    decide +kernel
end Go.Proofs.Ytbnfdhidgdfbeaa

namespace Go.Proofs.Ytbnfdhidgdfbeaa
set_option maxRecDepth 100000
open Go.RowKit

def mx (x : Int) : Int := if 0 < x then x else 0
def inTo (d : Dev) (vs : List Int) (t : Int) : Nat → Nat
  | 0 => 0
  | k + 1 => inTo d vs t k + (mx (nv vs (t * perT d + (k : Int)))).toNat * 2 ^ k
theorem mx_in {vs : List Int} (h : In3 vs) (i : Int) : 0 ≤ mx (nv vs i) ∧ mx (nv vs i) ≤ 1 := by
  have := in3_nv h i
  unfold mx; split <;> omega
theorem inTo_lt {d : Dev} {vs : List Int} (h : In3 vs) (t : Int) (k : Nat) : inTo d vs t k < 2 ^ k := by
  induction k with
  | zero => simp [inTo]
  | succ k ih =>
    have hm := mx_in h (t * perT d + (k : Int))
    rw [inTo, Nat.pow_succ]
    have h2 : (mx (nv vs (t * perT d + (k : Int)))).toNat * 2 ^ k ≤ 1 * 2 ^ k := Nat.mul_le_mul_right _ (by omega)
    omega
def flopSet (d : Dev) (ts : List Tile) (vs : List Int) (k : Nat) (l : List Int) (e : Nat) : List Int :=
  if (leAt ts (k : Int) (e : Int)).flop = 1 then l.set (2 * k + e) (mx (lutF d vs (k : Int) (leAt ts (k : Int) (e : Int)))) else l
def flopTo (d : Dev) (ts : List Tile) (vs : List Int) (k : Nat) (l : List Int) : Nat → List Int
  | 0 => l
  | e + 1 => flopSet d ts vs k (flopTo d ts vs k l e) e
def nx1 (d : Dev) (ts : List Tile) (st vs : List Int) (k : Nat) (l : List Int) : List Int :=
  if kindOf d (k : Int) = 1 then flopTo d ts vs k l 2
  else if kindOf d (k : Int) = 2 then l.set (2 * k) ((ramNext (st[2 * k]?.getD 0).toNat (inTo d vs (k : Int) 4) : Nat) : Int) else l
def nextTo (d : Dev) (ts : List Tile) (st vs : List Int) : Nat → List Int
  | 0 => st
  | k + 1 => nx1 d ts st vs k (nextTo d ts st vs k)
def ou1 (d : Dev) (ts : List Tile) (vs : List Int) (k : Nat) (l : List Int) : List Int :=
  if kindOf d (k : Int) = 0 ∧ (ts[k]?.getD Tile.zero).pad = 2 then l.set k (mx (nv vs ((k : Int) * perT d))) else l
def outTo (d : Dev) (ts : List Tile) (vs : List Int) (m : Nat) : Nat → List Int
  | 0 => List.replicate m 0
  | k + 1 => ou1 d ts vs k (outTo d ts vs m k)
theorem flopSet_length (d : Dev) (ts : List Tile) (vs : List Int) (k : Nat) (l : List Int) (e : Nat) : (flopSet d ts vs k l e).length = l.length := by unfold flopSet; split <;> simp
theorem flopTo_length (d : Dev) (ts : List Tile) (vs : List Int) (k : Nat) (l : List Int) (e : Nat) : (flopTo d ts vs k l e).length = l.length := by
  induction e with
  | zero => rfl
  | succ e ih => rw [flopTo, flopSet_length, ih]
theorem nextTo_length (d : Dev) (ts : List Tile) (st vs : List Int) (k : Nat) : (nextTo d ts st vs k).length = st.length := by
  induction k with
  | zero => rfl
  | succ k ih => rw [nextTo, nx1]; split <;> (try split) <;> simp [flopTo_length, ih]
theorem outTo_length (d : Dev) (ts : List Tile) (vs : List Int) (m k : Nat) : (outTo d ts vs m k).length = m := by
  induction k with
  | zero => simp [outTo]
  | succ k ih => rw [outTo, ou1]; split <;> simp [ih]
def nextF (d : Dev) (ts : List Tile) (st ps : List Int) : List Int := nextTo d ts st (valsF d ts st ps) ts.length
def outF (d : Dev) (ts : List Tile) (st ps : List Int) : List Int := outTo d ts (valsF d ts st ps) ts.length ts.length
theorem valsF_in3 {d : Dev} {ts : List Tile} {st ps : List Int} (h : StPads d ts st ps) : In3 (valsF d ts st ps) := itV_in h _ _
end Go.Proofs.Ytbnfdhidgdfbeaa
