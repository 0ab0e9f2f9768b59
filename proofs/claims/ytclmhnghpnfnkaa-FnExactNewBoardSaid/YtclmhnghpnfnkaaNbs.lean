/- NewBoard: how much a new board holds. -/
import Derived.Test.YtclmhnghpnfnkaaDec
import Derived.Test.YtclmhnghpnfnkaaNbd
namespace Go.Proofs.Ytclmhnghpnfnkaa
set_option maxRecDepth 100000
open Go.RowKit

theorem cells4 {w : World} {g : Nat} {v0 v1 v2 v3 : Value} {t : TypeId} (h : w.heap[g]? = some (.cells #[v0, v1, v2, v3] t (0, 0))) : w.cell? ⟨g, 0, none⟩ = some v0 ∧ w.cell? ⟨g, 1, none⟩ = some v1 ∧ w.cell? ⟨g, 2, none⟩ = some v2 ∧ w.cell? ⟨g, 3, none⟩ = some v3 := ⟨cell_heap h rfl, cell_heap h rfl, cell_heap h rfl, cell_heap h rfl⟩
theorem size2_le_of {xss : List (List Int)} {M : Nat} (h : ∀ j, j < xss.length → (xss[j]?.getD []).length ≤ M) : size2 xss ≤ xss.length * (M + 1) ∧ sizeTo xss xss.length ≤ xss.length * M := by
  have key : ∀ k, k ≤ xss.length → sizeTo xss k ≤ k * M := by
    intro k hk
    induction k with
    | zero => exact Nat.zero_le _
    | succ k ih =>
      have hl := h k (by omega)
      rw [sizeTo, Nat.succ_mul]
      have := ih (by omega)
      omega
  have := key xss.length (Nat.le_refl _)
  refine ⟨?_, this⟩
  unfold size2
  rw [Nat.mul_succ]
  omega
theorem frames_size {d : Dev} {fs : List (List Int)} (hf : framesOk d fs = true) : size2 fs ≤ 432 ∧ sizeTo fs fs.length ≤ 396 := by
  have h := size2_le_of (xss := fs) (M := 11) (fun j hj => by
    have h1 := (frames_in hf hj).2
    have h2 := fwI_bd (framesOk_iff hf).1
    omega)
  have := (frames_n hf).2
  have h3 : fs.length * (11 + 1) ≤ 36 * 12 := Nat.mul_le_mul_right _ this
  have h4 : fs.length * 11 ≤ 36 * 11 := Nat.mul_le_mul_right _ this
  omega
theorem newB_ok (d : Dev) (fs : List (List Int)) : BdOk (newB d fs) := by
  cases hf : framesOk d fs with
  | false => rw [newB_bad hf]; exact ⟨by decide, by decide, by decide⟩
  | true =>
    rw [newB_good hf]
    have h1 := (frames_size hf).1
    have h2 := startF_le d fs
    refine ⟨?_, ?_, show size2 ([] : List (List Int)) ≤ _ by decide⟩
    · show size2 fs ≤ _; omega
    · show (startF d fs).length ≤ _; omega
theorem newB_n (d : Dev) (fs : List (List Int)) : bdN (newB d fs) ≤ 1000000 := by
  cases hf : framesOk d fs with
  | false => rw [newB_bad hf]; decide
  | true =>
    rw [newB_good hf]
    have h1 := (frames_size hf).2
    have h2 := startF_le d fs
    show sizeTo fs fs.length + (startF d fs).length + 0 ≤ _
    omega
end Go.Proofs.Ytclmhnghpnfnkaa
