/- append of one element of several cells to a row that the call owns. -/
import Derived.Test.YtclmhnghpnfnkaaCopy
import Derived.Test.YtclmhnghpnfnkaaTree
namespace Go.Proofs.Ytclmhnghpnfnkaa
set_option maxRecDepth 100000
open Go.RowKit

theorem wpList_pushC {ops : Array Oper} {rest : List Oper} {o : Oper} {a : Act} {Q : Exit → Act → World → Prop} {w W : World} (hgd : o.guard = none) (s x : Operand) (t e : TypeId)
    (ho : o.op = .call { callee := .builtin .append, args := #[s, x], argTypes := #[t, t] }) (i : TypeInfo) (z : Value) (size bytes : Nat) (ht : Try.prog.underlying t = some (.slice e)) (hi0 : Try.prog.info? e = some i) (hz0 : i.zero = some z)
    (hz1 : i.size = size) (hz2 : i.bytes = bytes) (hzc : z.cells.size = size) (hsz : 0 < size) (hby : bytes ≤ 64)
    (lo hi : Nat) (A : Option Addr) (n c : Nat) (cs : List Cel) (base : Nat) (nc : List Cel) (nv : Array Value) (hs : a.eval s = .slice A n c) (hown : OwnT lo hi w (.row e size cs) (.slice A n c)) (hnew : OwnsL base w.heap.size w nc nv.toList) (hnl : nv.size = size) (hx : a.eval x = .slice (some ⟨w.heap.size, 0, none⟩) 1 1)
    (hn : n ≤ 1099511627776) (hhb : hi ≤ base) (hlb : lo ≤ base) (hhw : hi ≤ w.heap.size) (hlw : lo ≤ w.heap.size) (hB : Below lo W w)
    (h : ∀ g cap w', OwnT lo w'.heap.size w' (.row e size (cs ++ nc)) (.slice (some ⟨g, 0, none⟩) (n + 1) cap) → Below lo W w' → Below hi w w' ∨ True → w.heap.size ≤ w'.heap.size →
      wpList Try.prog ops Q rest (a.put o.dst (.slice (some ⟨g, 0, none⟩) (n + 1) cap)) w') : wpList Try.prog ops Q (o :: rest) a (w.alloc (.cells nv e)) := by
  obtain ⟨F, h1, h2, h3⟩ := hown
  rw [ownC_row] at h1
  obtain ⟨A', n', c', vs, F', hv, hro, rfl, hl⟩ := h1
  injection hv with hA hnn hcc
  subst hA hnn hcc
  obtain ⟨F2, k1, k2, k3⟩ := hnew
  refine wpList_append_lies (w.alloc (.cells nv e)) hgd s x t ho 0 e i z size bytes ht hi0 hz0 hz1 hz2 hzc hsz (.slice A n c) n vs hs
    (ownsRow_block hro fun a ha => Below.heap_alloc _ _ _ (by have := hro.lt a.block (by subst ha; rfl); exact this.2)) ⟨w.heap.size, 0, none⟩ 1 1 nv.toList hx (by simp [hnl])
    (fun j u hu => ?_) k1.one (by omega) (by unfold maxLen; omega) (Nat.le_trans (Nat.mul_le_mul_left _ hby) (by omega)) (Nat.zero_le _) (w.heap.size + 1) (by simp) ?_
  · have e1 : (⟨w.heap.size, 0, none⟩ : Addr).add j = ⟨w.heap.size, j, none⟩ := by rw [Addr.add_lit]; simp
    rw [e1]
    unfold World.cell?
    rw [heap_new]
    simpa using hu
  · intro g cap w' g1 g2 g3 g4
    rw [ownBlock_slice] at g2 g3
    have hlF : ∀ k ∈ F', k < w.heap.size := hl.lt
    have hlF2 : ∀ k ∈ F2, k < w.heap.size := k1.lt
    rw [List.nodup_append] at h2
    obtain ⟨m1, m2, m3⟩ := h2
    have hkeep : ∀ k, k < w.heap.size → k ∉ blk A → w'.heap[k]? = w.heap[k]? := fun k hk hkA => by
      refine (g2.block k (by simp; omega) ?_).trans (Below.heap_alloc _ _ _ hk)
      cases hA' : A with
      | none => simp
      | some ad =>
        simp only [Option.map_some, ne_eq, Option.some.injEq]
        rintro rfl
        exact hkA (by rw [hA']; simp [blk])
    have hA2 : ∀ k ∈ F2, k ∉ blk A := fun k hk hkA => by
      have := k3 k hk
      have := h3 k (List.mem_append_left _ hkA)
      omega
    have hF1 : ∀ k ∈ F', k ∉ blk A := fun k hk hkA => m3 k hkA k hk rfl
    have hL : OwnL w' (cs ++ nc) (vs ++ nv.toList) (F' ++ F2) := (hl.keep fun k hk => hkeep k (hlF k hk) (hF1 k hk)).append (k1.keep fun k hk => hkeep k (hlF2 k hk) (hA2 k hk))
    have hgn : g ∉ F' ∧ g ∉ F2 := by
      rcases g3 with hg | hg
      · have hgA : g ∈ blk A := by
          cases hA' : A with
          | none => rw [hA'] at hg; cases hg
          | some ad => rw [hA'] at hg; simp at hg; simp [blk, hg]
        exact ⟨fun hk => hF1 g hk hgA, fun hk => hA2 g hk hgA⟩
      · subst hg
        exact ⟨fun hk => by have := hlF _ hk; omega, fun hk => by have := hlF2 _ hk; omega⟩
    have hgr : lo ≤ g := by
      rcases g3 with hg | hg
      · cases hA' : A with
        | none => rw [hA'] at hg; cases hg
        | some ad =>
          rw [hA'] at hg
          simp at hg
          have := h3 ad.block (List.mem_append_left _ (by rw [hA']; simp [blk]))
          omega
      · omega
    have hsw := g2.size
    simp only [World.size_alloc] at hsw
    refine h g cap w' ⟨g :: (F' ++ F2), ?_, ?_, fun k hk => ?_⟩ ?_ (.inr trivial) (by omega)
    · rw [ownC_row]
      exact ⟨_, _, _, _, F' ++ F2, rfl, g1, rfl, hL⟩
    · rw [List.nodup_cons, List.nodup_append]
      exact ⟨by simp only [List.mem_append, not_or]; exact hgn, m2, k2, fun p hp q hq => by
        have := h3 p (List.mem_append_right _ hp)
        have := k3 q hq
        omega⟩
    · simp only [List.mem_cons, List.mem_append] at hk
      rcases hk with rfl | hk | hk
      · omega
      · have := h3 k (List.mem_append_right _ hk)
        have := hlF k hk
        omega
      · have := k3 k hk
        omega
    · refine own_grown_lo (base := lo) (hB.alloc hlw _) g2 (fun ad had => ?_) (Nat.le_refl _) (by simp; omega)
      exact (h3 ad.block (List.mem_append_left _ (by rw [had]; simp [blk]))).1
theorem ownT_nil {lo hi : Nat} {w : World} (e s : Nat) : OwnT lo hi w (.row e s []) (.slice none 0 0) := ⟨[], by rw [ownC_row]; exact ⟨none, 0, 0, [], [], rfl, ⟨by simp, .inl ⟨rfl, rfl⟩⟩, rfl, ownL_nil.2 ⟨rfl, rfl⟩⟩, by simp, by simp⟩
theorem ownT_new {w : World} (e s : Nat) {g : Nat} (hg : w.heap.size = g) : OwnT g (g + 1) (w.alloc (.cells #[] e)) (.row e s []) (.slice (some ⟨g, 0, none⟩) 0 0) := by
  subst hg
  refine ⟨[w.heap.size], ?_, by simp, by simp⟩
  rw [ownC_row]
  exact ⟨_, 0, 0, [], [], rfl, ⟨by simp, .inr ⟨w.heap.size, 0, #[], rfl, Nat.zero_le _, heap_new _ _, Nat.le_refl _, Nat.zero_le _, by simp, by simp⟩⟩, by simp [blk], ownL_nil.2 ⟨rfl, rfl⟩⟩
end Go.Proofs.Ytclmhnghpnfnkaa
