/- append of several integers to a row of the call's own. The initial state of a device, by the reference. -/
import Derived.Test.YtbnfdhidgdfbeaaCopy
import Derived.Test.YtbnfdhidgdfbeaaStart
namespace Go.Proofs.Ytbnfdhidgdfbeaa
set_option maxRecDepth 100000
open Go.RowKit

theorem pushN_news {w : World} {news : List Int} (j : Nat) (u : Value) (hu : (news.map (Value.int .i64))[j]? = some u) : (w.alloc (.cells (arr news) 3)).cell? ((⟨w.heap.size, 0, none⟩ : Addr).add j) = some u := by
  have e1 : (⟨w.heap.size, 0, none⟩ : Addr).add j = ⟨w.heap.size, j, none⟩ := by rw [Addr.add_lit]; simp
  rw [e1]
  unfold World.cell?
  rw [heap_new]
  simpa [arr] using hu
theorem pushN_one {news : List Int} (u : Value) (hu : u ∈ news.map (Value.int .i64)) : u.oneCell' = true := by
  simp at hu
  obtain ⟨y, _, rfl⟩ := hu
  rfl
theorem pushN_below {base : Nat} {A : Option Addr} {n c : Nat} {xs news : List Int} {w w' W : World} (hown : Own base w A n c xs) (hbase : base ≤ w.heap.size) (hB : Below base W w) (h2 : (w.alloc (.cells (arr news) 3)).grownBy w' (Value.slice A n c).ownBlock) : Below base W w' := by
  rw [ownBlock_slice] at h2
  refine (hB.alloc hbase _).grown h2 (by simp; omega) ?_
  intro k hk
  cases A with
  | none => cases hk
  | some a' =>
    injection hk with hk
    subst hk
    exact (hown.lt a' rfl).1
theorem wpList_pushN {ops : Array Oper} {rest : List Oper} {o : Oper} {a : Act} {Q : Exit → Act → World → Prop} {w W : World} (hgd : o.guard = none) (s x : Operand)
    (ho : o.op = .call { callee := .builtin .append, args := #[s, x], argTypes := #[44, 44] })
    (base : Nat) (A : Option Addr) (n c : Nat) (xs news : List Int) (m : Nat) (hs : a.eval s = .slice A n c) (hown : Own base w A n c xs) (hx : a.eval x = .slice (some ⟨w.heap.size, 0, none⟩) m m) (hm : news.length = m) (hm0 : 0 < m)
    (hn : n + m ≤ 1099511627776) (hbase : base ≤ w.heap.size) (hB : Below base W w)
    (h : ∀ g cap w', Own base w' (some ⟨g, 0, none⟩) (n + m) cap (xs ++ news) → Below base W w' → (w.alloc (.cells (arr news) 3)).grownBy w' (A.map (·.block)) → (A.map (·.block) = some g ∨ g = w.heap.size + 1) →
      wpList Try.prog ops Q rest (a.put o.dst (.slice (some ⟨g, 0, none⟩) (n + m) cap)) w') : wpList Try.prog ops Q (o :: rest) a (w.alloc (.cells (arr news) 3)) := by
  obtain ⟨i0, hi, hz0, hz1, hz2⟩ := info_parts int_info
  have hl := hown.lt
  refine wpList_append_lies (w.alloc (.cells (arr news) 3)) hgd s x 44 ho base 3 i0 (.int .i64 0) 1 8 Try.underlying44 hi hz0 hz1 hz2 rfl (by omega) (.slice A n c) n (xs.map (Value.int .i64)) hs
    (ownsRow_block hown fun a ha => Below.heap_alloc _ _ _ (hl a ha).2) ⟨w.heap.size, 0, none⟩ m m (news.map (Value.int .i64)) hx (by simp [hm])
    pushN_news pushN_one hm0 (by unfold maxLen; omega) (by omega) (by simp; omega) (w.heap.size + 1) (by simp) ?_
  intro g cap w' h1 h2 h3 _
  have h2' := h2
  rw [ownBlock_slice] at h2' h3
  exact h g cap w' (by simpa [Own] using h1) (pushN_below hown hbase hB h2) h2' h3
theorem step_pushN {ops : Array Oper} {o : Oper} {a : Act} {K : Act → World → Prop} {Q : Exit → Act → World → Prop} {E : Prop} {w W : World} (hgd : o.guard = none) (s x : Operand)
    (ho : o.op = .call { callee := .builtin .append, args := #[s, x], argTypes := #[44, 44] })
    (base : Nat) (A : Option Addr) (n c : Nat) (xs news : List Int) (m : Nat) (hs : a.eval s = .slice A n c) (hown : Own base w A n c xs) (hx : a.eval x = .slice (some ⟨w.heap.size, 0, none⟩) m m) (hm : news.length = m) (hm0 : 0 < m)
    (hn : n + m ≤ 1099511627776) (hbase : base ≤ w.heap.size) (hB : Below base W w)
    (h : ∀ g cap w', Own base w' (some ⟨g, 0, none⟩) (n + m) cap (xs ++ news) → Below base W w' → (w.alloc (.cells (arr news) 3)).grownBy w' (A.map (·.block)) → (A.map (·.block) = some g ∨ g = w.heap.size + 1) → K (a.put o.dst (.slice (some ⟨g, 0, none⟩) (n + m) cap)) w') :
    if Region.wanted o (yielded ops a.tmps) = true then Oper.wp Try.prog o a (w.alloc (.cells (arr news) 3)) K Q else E := by
  obtain ⟨i0, hi, hz0, hz1, hz2⟩ := info_parts int_info
  have hl := hown.lt
  refine step_append_lies (w.alloc (.cells (arr news) 3)) hgd s x 44 ho base 3 i0 (.int .i64 0) 1 8 Try.underlying44 hi hz0 hz1 hz2 rfl (by omega) (.slice A n c) n (xs.map (Value.int .i64)) hs
    (ownsRow_block hown fun a ha => Below.heap_alloc _ _ _ (hl a ha).2) ⟨w.heap.size, 0, none⟩ m m (news.map (Value.int .i64)) hx (by simp [hm])
    pushN_news pushN_one hm0 (by unfold maxLen; omega) (by omega) (by simp; omega) (w.heap.size + 1) (by simp) ?_
  intro g cap w' h1 h2 h3 _
  have h2' := h2
  rw [ownBlock_slice] at h2' h3
  exact h g cap w' (by simpa [Own] using h1) (pushN_below hown hbase hB h2) h2' h3
theorem step_pushND {ops : Array Oper} {o : Oper} {a : Act} {K : Act → World → Prop} {Q : Exit → Act → World → Prop} {E : Prop} {w W : World} (hgd : o.guard = none) (s x : Operand)
    (ho : o.op = .call { callee := .builtin .append, args := #[s, x], argTypes := #[44, 44] })
    (base : Nat) (A : Option Addr) (n c : Nat) (xs news : List Int) (m : Nat) (hs : a.eval s = .slice A n c) (hown : Own base w A n c xs) (hx : a.eval x = .slice (some ⟨w.heap.size, 0, none⟩) m m) (hm : news.length = m) (hm0 : 0 < m)
    (hn : n + m ≤ 1099511627776) (hbase : base ≤ w.heap.size) (hB : Below base W w)
    (h : ∀ g cap w', Own base w' (some ⟨g, 0, none⟩) (n + m) cap (xs ++ news) → Below base W w' → (w.alloc (.cells (arr news) 3)).grownBy w' (A.map (·.block)) → (A.map (·.block) = some g ∨ g = w.heap.size + 1) → K (a.put o.dst (.slice (some ⟨g, 0, none⟩) (n + m) cap)) w') :
    if Region.wanted o (yielded ops a.tmps) = true then Oper.wp Try.prog o a (w.alloc (.cells (arr news) 3)).drew K Q else E := by
  obtain ⟨i0, hi, hz0, hz1, hz2⟩ := info_parts int_info
  have hl := hown.lt
  refine step_append_lies (w.alloc (.cells (arr news) 3)).drew hgd s x 44 ho base 3 i0 (.int .i64 0) 1 8 Try.underlying44 hi hz0 hz1 hz2 rfl (by omega) (.slice A n c) n (xs.map (Value.int .i64)) hs
    (ownsRow_block (w' := (w.alloc (.cells (arr news) 3)).drew) hown fun a ha => Below.heap_alloc w _ _ (hl a ha).2) ⟨w.heap.size, 0, none⟩ m m (news.map (Value.int .i64)) hx (by simp [hm])
    pushN_news pushN_one hm0 (by unfold maxLen; omega) (by omega) (show base ≤ (w.alloc (.cells (arr news) 3)).heap.size by simp; omega) (w.heap.size + 1) (show (w.alloc (.cells (arr news) 3)).heap.size = w.heap.size + 1 by simp) ?_
  intro g cap w' h1 h2 h3 _
  have h2 : (w.alloc (.cells (arr news) 3)).grownBy w' (Value.slice A n c).ownBlock := ⟨h2.os, h2.tape, h2.output, h2.size, h2.block⟩
  have h2' := h2
  rw [ownBlock_slice] at h2' h3
  exact h g cap w' (by simpa [Own] using h1) (pushN_below hown hbase hB h2) h2' h3
end Go.Proofs.Ytbnfdhidgdfbeaa

namespace Go.Proofs.Ytbnfdhidgdfbeaa
set_option maxRecDepth 100000
open Go.RowKit
/-- What lies from lo up to the world w1 is kept; the row A is not among it. -/
def KeptIn (w1 wr : World) (lo : Nat) (A : Option Addr) : Prop := (∀ k, lo ≤ k → k < w1.heap.size → wr.heap[k]? = w1.heap[k]?) ∧ w1.heap.size ≤ wr.heap.size ∧ ∀ a, A = some a → a.block < lo ∨ w1.heap.size ≤ a.block
theorem KeptIn.below {w1 wr w2 : World} {lo : Nat} {A : Option Addr} (h : KeptIn w1 wr lo A) (hb : Below wr.heap.size wr w2) : KeptIn w1 w2 lo A :=
  ⟨fun k h1 h2 => (hb.block k (by have := h.2.1; omega)).trans (h.1 k h1 h2), by have := h.2.1; have := hb.size; omega, h.2.2⟩
theorem KeptIn.pushed {w1 w2 w4 : World} {lo g : Nat} {A : Option Addr} {o : Obj} (h : KeptIn w1 w2 lo A) (hg : (w2.alloc o).grownBy w4 (A.map (·.block))) (hat : A.map (·.block) = some g ∨ g = w2.heap.size + 1) (_hlo : True) : KeptIn w1 w4 lo (some ⟨g, 0, none⟩) := by
  have hs := hg.size
  simp only [World.size_alloc] at hs
  have h2 := h.2.1
  refine ⟨fun k h1 h3 => ?_, by omega, ?_⟩
  · refine ((hg.block k (by simp; omega) ?_).trans (Below.heap_alloc _ _ _ (by omega))).trans (h.1 k h1 h3)
    cases hA : A with
    | none => simp
    | some a =>
      simp only [Option.map_some, ne_eq, Option.some.injEq]
      rintro rfl
      have := h.2.2 a hA
      omega
  · rintro a ⟨⟩
    rcases hat with hat | hat
    · cases hA : A with
      | none => rw [hA] at hat; cases hat
      | some a =>
        rw [hA] at hat
        simp at hat
        have := h.2.2 a hA
        simp only
        omega
    · right
      simp only
      omega

end Go.Proofs.Ytbnfdhidgdfbeaa
