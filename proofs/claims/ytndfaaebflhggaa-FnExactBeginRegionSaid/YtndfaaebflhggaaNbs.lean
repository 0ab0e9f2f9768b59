/- NewBoard of both: the program's and the reference's answers are one. NewBoard: how much a new board holds. -/
import Derived.Laws.CopyOwn
import Derived.Laws.Tables
import Derived.Lib.SmallJoins
import Derived.Test.YtndfaaebflhggaaBx
import Derived.Test.YtndfaaebflhggaaData
import Derived.Test.YtndfaaebflhggaaStartS
namespace Go.Proofs.Ytndfaaebflhggaa
set_option maxRecDepth 100000
open Go.RowKit

def zBd : Bd := ⟨⟨0, 0, 0, 0⟩, [], [], 0, ⟨0, 0, 0, 0⟩, []⟩
def newB (d : Dev) (fs : List (List Int)) : Bd := if framesOk d fs = true then ⟨d, fs, startF d fs, 0, ⟨0, 0, 0, 0⟩, []⟩ else zBd
theorem newB_bad {d : Dev} {fs : List (List Int)} (h : framesOk d fs = false) : newB d fs = zBd := by unfold newB; rw [h]; rfl
theorem newB_good {d : Dev} {fs : List (List Int)} (h : framesOk d fs = true) : newB d fs = ⟨d, fs, startF d fs, 0, ⟨0, 0, 0, 0⟩, []⟩ := by unfold newB; rw [h]; rfl
theorem zBd_at (lo hi : Nat) (w : World) (h : lo ≤ hi) : BoardAt lo hi w zBd ⟨none, 0, 0, none, 0, 0, none, 0, 0⟩ :=
  ⟨lo, lo, lo, lo, lo, lo, Own2.nil, Own.nil, by rintro a ⟨⟩, Own2.nil, .inl (Nat.le_refl _), .inl (Nat.le_refl _), .inl (Nat.le_refl _), ⟨Nat.le_refl _, h⟩, ⟨Nat.le_refl _, h⟩, ⟨Nat.le_refl _, h⟩⟩
theorem keep4s {w : World} {g : Nat} {p : Addr} {v v0 v1 v2 v3 : Value} (hne : g ≠ p.block) (h : w.cell? ⟨g, 0, none⟩ = some v0 ∧ w.cell? ⟨g, 1, none⟩ = some v1 ∧ w.cell? ⟨g, 2, none⟩ = some v2 ∧ w.cell? ⟨g, 3, none⟩ = some v3) : (w.setCell p v).cell? ⟨g, 0, none⟩ = some v0 ∧ (w.setCell p v).cell? ⟨g, 1, none⟩ = some v1 ∧ (w.setCell p v).cell? ⟨g, 2, none⟩ = some v2 ∧ (w.setCell p v).cell? ⟨g, 3, none⟩ = some v3 :=
  ⟨(World.cell?_of_block (a := ⟨g, 0, none⟩) (Below.heap_setCell w p v g hne)).trans h.1, (World.cell?_of_block (a := ⟨g, 1, none⟩) (Below.heap_setCell w p v g hne)).trans h.2.1, (World.cell?_of_block (a := ⟨g, 2, none⟩) (Below.heap_setCell w p v g hne)).trans h.2.2.1, (World.cell?_of_block (a := ⟨g, 3, none⟩) (Below.heap_setCell w p v g hne)).trans h.2.2.2⟩
theorem keep4s12 {w : World} {g gw : Nat} {v0 v1 v2 v3 u0 u1 u2 u3 u4 u5 u6 u7 u8 u9 u10 u11 : Value} (hne : g ≠ gw) (h : w.cell? ⟨g, 0, none⟩ = some v0 ∧ w.cell? ⟨g, 1, none⟩ = some v1 ∧ w.cell? ⟨g, 2, none⟩ = some v2 ∧ w.cell? ⟨g, 3, none⟩ = some v3) : ((((((((((((w.setCell ⟨gw, 0, none⟩ u0).setCell ⟨gw, 1, none⟩ u1).setCell ⟨gw, 2, none⟩ u2).setCell ⟨gw, 3, none⟩ u3).setCell ⟨gw, 4, none⟩ u4).setCell ⟨gw, 5, none⟩ u5).setCell ⟨gw, 6, none⟩ u6).setCell ⟨gw, 7, none⟩ u7).setCell ⟨gw, 8, none⟩ u8).setCell ⟨gw, 9, none⟩ u9).setCell ⟨gw, 10, none⟩ u10).setCell ⟨gw, 11, none⟩ u11).cell? ⟨g, 0, none⟩ = some v0 ∧ ((((((((((((w.setCell ⟨gw, 0, none⟩ u0).setCell ⟨gw, 1, none⟩ u1).setCell ⟨gw, 2, none⟩ u2).setCell ⟨gw, 3, none⟩ u3).setCell ⟨gw, 4, none⟩ u4).setCell ⟨gw, 5, none⟩ u5).setCell ⟨gw, 6, none⟩ u6).setCell ⟨gw, 7, none⟩ u7).setCell ⟨gw, 8, none⟩ u8).setCell ⟨gw, 9, none⟩ u9).setCell ⟨gw, 10, none⟩ u10).setCell ⟨gw, 11, none⟩ u11).cell? ⟨g, 1, none⟩ = some v1 ∧ ((((((((((((w.setCell ⟨gw, 0, none⟩ u0).setCell ⟨gw, 1, none⟩ u1).setCell ⟨gw, 2, none⟩ u2).setCell ⟨gw, 3, none⟩ u3).setCell ⟨gw, 4, none⟩ u4).setCell ⟨gw, 5, none⟩ u5).setCell ⟨gw, 6, none⟩ u6).setCell ⟨gw, 7, none⟩ u7).setCell ⟨gw, 8, none⟩ u8).setCell ⟨gw, 9, none⟩ u9).setCell ⟨gw, 10, none⟩ u10).setCell ⟨gw, 11, none⟩ u11).cell? ⟨g, 2, none⟩ = some v2 ∧ ((((((((((((w.setCell ⟨gw, 0, none⟩ u0).setCell ⟨gw, 1, none⟩ u1).setCell ⟨gw, 2, none⟩ u2).setCell ⟨gw, 3, none⟩ u3).setCell ⟨gw, 4, none⟩ u4).setCell ⟨gw, 5, none⟩ u5).setCell ⟨gw, 6, none⟩ u6).setCell ⟨gw, 7, none⟩ u7).setCell ⟨gw, 8, none⟩ u8).setCell ⟨gw, 9, none⟩ u9).setCell ⟨gw, 10, none⟩ u10).setCell ⟨gw, 11, none⟩ u11).cell? ⟨g, 3, none⟩ = some v3 :=
  keep4s hne (keep4s hne (keep4s hne (keep4s hne (keep4s hne (keep4s hne (keep4s hne (keep4s hne (keep4s hne (keep4s hne (keep4s hne (keep4s hne h)))))))))))
theorem keepB4 {B : Nat} {W W' : World} {g : Nat} {v0 v1 v2 v3 : Value} (hb : Below B W W') (hg : g < B)
    (h : W.cell? ⟨g, 0, none⟩ = some v0 ∧ W.cell? ⟨g, 1, none⟩ = some v1 ∧ W.cell? ⟨g, 2, none⟩ = some v2 ∧ W.cell? ⟨g, 3, none⟩ = some v3) :
    W'.cell? ⟨g, 0, none⟩ = some v0 ∧ W'.cell? ⟨g, 1, none⟩ = some v1 ∧ W'.cell? ⟨g, 2, none⟩ = some v2 ∧ W'.cell? ⟨g, 3, none⟩ = some v3 :=
  ⟨(hb.cell (p := ⟨g, 0, none⟩) hg).trans h.1, (hb.cell (p := ⟨g, 1, none⟩) hg).trans h.2.1, (hb.cell (p := ⟨g, 2, none⟩) hg).trans h.2.2.1, (hb.cell (p := ⟨g, 3, none⟩) hg).trans h.2.2.2⟩
end Go.Proofs.Ytndfaaebflhggaa

namespace Go.Proofs.Ytndfaaebflhggaa
set_option maxRecDepth 100000
open Go.RowKit

theorem cells4 {w : World} {g : Nat} {v0 v1 v2 v3 : Value} {t : TypeId} (h : w.heap[g]? = some (.cells #[v0, v1, v2, v3] t (0, 0))) : w.cell? ⟨g, 0, none⟩ = some v0 ∧ w.cell? ⟨g, 1, none⟩ = some v1 ∧ w.cell? ⟨g, 2, none⟩ = some v2 ∧ w.cell? ⟨g, 3, none⟩ = some v3 := ⟨cell_heap h rfl, cell_heap h rfl, cell_heap h rfl, cell_heap h rfl⟩
theorem size2_le_of {xss : List (List Int)} {M : Nat} (h : ∀ j, j < xss.length → (xss[j]?.getD []).length ≤ M) : size2 xss ≤ xss.length * (M + 1) ∧ sizeTo xss xss.length ≤ xss.length * M := by
  have key : ∀ k, k ≤ xss.length → sizeTo xss k ≤ k * M := by
    intro k hk
    induction k with
    | zero => exact Nat.zero_le _
    | succ k ih =>
      have hl := h k (by omega)
      rw [sizeTo, Nat.succ_mul]
      have := ih (by omega)
      omega
  have := key xss.length (Nat.le_refl _)
  refine ⟨?_, this⟩
  unfold size2
  rw [Nat.mul_succ]
  omega
theorem frames_size {d : Dev} {fs : List (List Int)} (hf : framesOk d fs = true) : size2 fs ≤ 432 ∧ sizeTo fs fs.length ≤ 396 := by
  have h := size2_le_of (xss := fs) (M := 11) (fun j hj => by
    have h1 := (frames_in hf hj).2
    have h2 := fwI_bd (framesOk_iff hf).1
    omega)
  have := (frames_n hf).2
  have h3 : fs.length * (11 + 1) ≤ 36 * 12 := Nat.mul_le_mul_right _ this
  have h4 : fs.length * 11 ≤ 36 * 11 := Nat.mul_le_mul_right _ this
  omega
theorem newB_ok (d : Dev) (fs : List (List Int)) : BdOk (newB d fs) := by
  cases hf : framesOk d fs with
  | false => rw [newB_bad hf]; exact ⟨by decide, by decide, by decide⟩
  | true =>
    rw [newB_good hf]
    have h1 := (frames_size hf).1
    have h2 := startF_le d fs
    refine ⟨?_, ?_, show size2 ([] : List (List Int)) ≤ _ by decide⟩
    · show size2 fs ≤ _; omega
    · show (startF d fs).length ≤ _; omega
theorem newB_n (d : Dev) (fs : List (List Int)) : bdN (newB d fs) ≤ 1000000 := by
  cases hf : framesOk d fs with
  | false => rw [newB_bad hf]; decide
  | true =>
    rw [newB_good hf]
    have h1 := (frames_size hf).2
    have h2 := startF_le d fs
    show sizeTo fs fs.length + (startF d fs).length + 0 ≤ _
    omega
end Go.Proofs.Ytndfaaebflhggaa
