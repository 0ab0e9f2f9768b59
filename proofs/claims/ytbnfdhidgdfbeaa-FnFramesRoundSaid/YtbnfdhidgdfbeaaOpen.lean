/- How the laws' arguments read: structs of integers, slices of integers, bytes, slices of slices. -/
import Derived.ChangeOld
import Derived.Deep.Matrix
import Derived.Lib.SmallJoins
import Derived.OpenShut
import Derived.ProofKit
import Derived.ShutString
import Derived.Test.YtbnfdhidgdfbeaaBase
namespace Go.Proofs.Ytbnfdhidgdfbeaa
set_option maxRecDepth 100000
open Go.RowKit Go.ChangeShapes Go.WideShapes Go.ChangeAt

theorem Try.own : ownKnob Try.prog.godebug = none := by kernel_rfl
theorem Try.laidOut : laidOutB Try.prog = true := by kernel_rfl

def Wf (a : Int) : Prop := -9223372036854775808 ≤ a ∧ a ≤ 9223372036854775807
theorem wf_of {a : Int} (h : (Lit.int .i64 a).wf = true) : Wf a := by
  simp [Lit.wf, IntKind.min, IntKind.max, IntKind.signed, IntKind.bits] at h
  exact h
def Dev.wf (d : Dev) : Prop := Wf d.W ∧ Wf d.H ∧ Wf d.T ∧ Wf d.R
def Reg.wf (d : Reg) : Prop := Wf d.X0 ∧ Wf d.Y0 ∧ Wf d.X1 ∧ Wf d.Y1

section
variable {H : Type} {enc : TypeId × Value → H} {W : World} {b0 base : Nat} {spare : Nat → Bool} {held : Bool}
theorem open_int1 {v : Value} {d : DataW H} {p : List MemPlace} (hv : Value.okWide Try.prog W .any b0 3 v) (h : DataW.Trod enc Try.prog W base spare held 3 v d p) :
    ∃ a : Int, v = .int .i64 a ∧ Wf a := by
  obtain ⟨a, rfl, _, _, w⟩ := open_int Try.underlying3 hv h
  exact ⟨a, rfl, wf_of w⟩

theorem open_dev {v : Value} {d : DataW H} {p : List MemPlace} (hv : Value.okWide Try.prog W .any b0 23 v) (h : DataW.Trod enc Try.prog W base spare held 23 v d p) :
    ∃ a : Dev, v = .agg #[.int .i64 a.W, .int .i64 a.H, .int .i64 a.T, .int .i64 a.R] ∧ a.wf := by
  obtain ⟨v0, v1, v2, v3, y0, y1, y2, y3, n, rfl, _, _, h0, h1, h2, h3⟩ := Joins.open_agg4 Try.underlying23 (by kernel_rfl) (by kernel_rfl) hv h
  obtain ⟨a0, e0, _, w0⟩ := DataW.trod_int Try.underlying3 h0
  obtain ⟨a1, e1, _, w1⟩ := DataW.trod_int Try.underlying3 h1
  obtain ⟨a2, e2, _, w2⟩ := DataW.trod_int Try.underlying3 h2
  obtain ⟨a3, e3, _, w3⟩ := DataW.trod_int Try.underlying3 h3
  simp only [List.cons.injEq, and_true] at e0 e1 e2 e3
  subst e0 e1 e2 e3
  exact ⟨⟨a0, a1, a2, a3⟩, rfl, wf_of w0, wf_of w1, wf_of w2, wf_of w3⟩


theorem cell_lt {w : World} {a : Addr} {v : Value} (h : w.cell? a = some v) : a.block < w.heap.size := by
  rcases Nat.lt_or_ge a.block w.heap.size with hlt | hge
  · exact hlt
  · unfold World.cell? at h
    rw [Array.getElem?_eq_none hge] at h
    cases h
theorem add_lit0 (a : Addr) : a.add 0 = a := by simp [Addr.add]

theorem ints_of {a : Addr} {n cap : Nat} {zs : List Int} (hl : n ≤ cap) (hz : zs.length = cap) (hc : ∀ i, i < zs.length → W.cell? (a.add i) = some (.int .i64 (zs.getD i 0))) : Ints W (some a) n (zs.take n) := by
  refine ⟨by simp; omega, fun hn => ?_⟩
  have h0 := hc 0 (by omega)
  rw [add_lit0] at h0
  obtain ⟨b, o, s⟩ := a
  have hs : s = none := World.cell?_spot h0
  subst hs
  refine ⟨b, o, rfl, cell_lt h0, fun j hj => ?_⟩
  have := hc j (by omega)
  rw [Addr.add_lit] at this
  rw [this, List.getElem?_take, if_pos hj]
  rfl

theorem open_intS {v : Value} {d : DataW H} {p : List MemPlace} (hv : Value.okWide Try.prog W .any b0 44 v) (h : DataW.Trod enc Try.prog W base (fun _ => true) held 44 v d p) :
    ∃ (A : Option Addr) (n c : Nat) (xs : List Int), v = .slice A n c ∧ Ints W A n xs ∧ n ≤ maxLen ∧ ∀ x ∈ xs, Wf x := by
  obtain ⟨A, n, c, rfl⟩ := okWide_slice Try.underlying44 hv
  obtain ⟨fuel, hf⟩ := h
  rcases open_ints Try.underlying44 Try.underlying3 (by kernel_rfl) hf with ⟨hcs, _⟩ | ⟨x, l, c', zs, hcs, _, hl, hm, hz, _, hcell, hwz⟩
  · simp [Value.cells] at hcs
    obtain ⟨rfl, rfl, rfl⟩ := hcs
    exact ⟨none, 0, 0, [], rfl, ⟨rfl, fun h => absurd h (by omega)⟩, Nat.zero_le _, by simp⟩
  · simp [Value.cells] at hcs
    obtain ⟨rfl, rfl, rfl⟩ := hcs
    exact ⟨_, _, _, _, rfl, ints_of hl (by simpa using hz) hcell, Nat.le_trans hl hm, fun y hy => wf_of (hwz y (List.mem_of_mem_take hy))⟩
end
end Go.Proofs.Ytbnfdhidgdfbeaa
