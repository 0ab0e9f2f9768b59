/- The laws' own comparing of tiles that are the same. -/
import Derived.Test.YtbnfdhidgdfbeaaEncT
import Derived.Test.YtbnfdhidgdfbeaaRt3
import Derived.Test.YtbnfdhidgdfbeaaSam
import Derived.Test.YtbnfdhidgdfbeaaStart
namespace Go.Proofs.Ytbnfdhidgdfbeaa
set_option maxRecDepth 100000
open Go.RowKit

set_option maxHeartbeats 2000000 in
theorem sameLes_same (A B : Option Addr) (n m c d : Nat) (es : List Le) (w : World) (hA : RdC w w.heap.size (celE es) (.slice A n c)) (hB : RdC w w.heap.size (celE es) (.slice B m d)) (hn : n ≤ 1099511627776) (hz : ∀ e : Nat, (es[e]?.getD Le.zero).sel.length ≤ 1099511627776) :
    Calls Try.prog 63 #[.slice A n c, .slice B m d] w fun e w' => e = .returned (.bool true) ∧ Below w.heap.size w w' := by
  have hx := hA.elen
  have hy := hB.elen
  obtain rfl : m = n := by omega
  have HA := Lib.hid hA
  have HB := Lib.hid hB
  have HX := Lib.hid hx
  have HZ := Lib.hid hz
  clear hx hy hA hB hz
  go_enter Try.func63, Try.ntmps63
  go_wp2_with fail
  go_loopw [5] (fun i wr => ∃ k : Nat, k ≤ m ∧ i = .int .i64 k ∧ Below w.heap.size w wr) (fun i _ => m - (intOf i).toNat)
  case atStart => exact ⟨0, Nat.zero_le _, rfl, Below.refl _ _⟩
  case round =>
    obtain ⟨k, hk, rfl, hbe⟩ := hrel
    have HE := Lib.hid hbe
    by_cases hlt : k < m
    · have hdk : decide ((k : Int) < (m : Int)) = true := decide_eq_true (by omega)
      obtain ⟨b, o, S, l, p, rfl, hb, c0, c1, c2, c3, r0⟩ := (HA.out.below hbe).le (k := k) (by rw [HX.out]; exact hlt)
      obtain ⟨b', o', S', l', p', rfl, hb', d0, d1, d2, d3, r0'⟩ := (HB.out.below hbe).le (k := k) (by rw [HX.out]; exact hlt)
      have hrl := HZ.out k
      generalize es[k]?.getD Le.zero = e at *
      have J1 := Lib.hid r0.ints
      have J2 := Lib.hid r0'.ints
      have hl : l ≤ 1099511627776 := by have := r0.ints.1; omega
      have i0 : (0 : Int) ≤ (k : Int) := by omega
      have i1 : (k : Int) < (m : Int) := by omega
      have HSM : Hid (∀ x : Sub wr, Calls Try.prog 40 #[.slice S l p, .slice S' l' p'] x.v fun e w' => e = .returned (.bool true) ∧ Below x.v.heap.size x.v w') := fun x => by
        have h := sameInts_any S S' l l' p p' e.sel e.sel x.v (J1.out.below x.h) (J2.out.below x.h) hl
        rwa [show decide (e.sel = e.sel) = true from decide_eq_true rfl] at h
      have x1 : (e.mask != e.mask) = false := by simp
      have x2 : (e.flop != e.flop) = false := by simp
      have x3 : (e.init != e.init) = false := by simp
      clear r0 r0' hbe hrl
      go_wp2_with fail
      have hsub := sub_ne wr
      have hsc := sub_cell wr
      refine wp_region_below wr (by kernel_rfl) (by kernel_rfl) (Below.refl _ _) ?_
      repeat (go_big_quiet_step ((go_at_call 40; with_reducible exact calls_sub (HSM.out _))))
      refine wpQuiet_nil ?_
      rintro w2 ⟨⟨w9, hD⟩, hw9⟩
      replace hw9 : w2 = w9 := hw9
      subst hw9
      clear hsub hsc c0 c1 c2 c3 d0 d1 d2 d3
      go_wp2_with fail
      go_roundw
      case rel => exact ⟨k + 1, by omega, by go_num, below_tr HE.out hD⟩
      case measure => simp [intOf]; omega
    · have hkn : m = k := by omega
      subst hkn
      have hdk : decide ((m : Int) < (m : Int)) = false := by simp
      go_wp2_with fail
      go_ret
      exact ⟨rfl, HE.out⟩
set_option maxHeartbeats 2000000 in
theorem sameTile_same (t : Tile) (A : Option Addr) (n c : Nat) (LA : Option Addr) (ln lc : Nat) (B : Option Addr) (m d : Nat) (LB : Option Addr) (lm ld : Nat) (w : World) (hA : Ints w A n t.mux) (hB : Ints w B m t.mux) (hLA : RdC w w.heap.size (celE t.les) (.slice LA ln lc)) (hLB : RdC w w.heap.size (celE t.les) (.slice LB lm ld)) (hn : n ≤ 1099511627776) (hln : ln ≤ 1099511627776) (hz : ∀ e : Nat, (t.les[e]?.getD Le.zero).sel.length ≤ 1099511627776) :
    Calls Try.prog 27 #[.agg #[.slice A n c, .slice LA ln lc, .int .i64 t.pad, .int .i64 t.ram], .agg #[.slice B m d, .slice LB lm ld, .int .i64 t.pad, .int .i64 t.ram]] w fun e w' => e = .returned (.bool true) ∧ Below w.heap.size w w' := by
  have HA := Lib.hid hA
  have HB := Lib.hid hB
  have HLA := Lib.hid hLA
  have HLB := Lib.hid hLB
  have hb0 := below_new (below_new (Below.refl w.heap.size w) (.cells #[.slice A n c, .slice LA ln lc, .int .i64 t.pad, .int .i64 t.ram] 52)) (.cells #[.slice B m d, .slice LB lm ld, .int .i64 t.pad, .int .i64 t.ram] 52)
  have HB0 := Lib.hid hb0
  have X0 := Lib.hid (heap_al (.cells #[.slice B m d, .slice LB lm ld, .int .i64 t.pad, .int .i64 t.ram] 52) (heap_new w (.cells #[.slice A n c, .slice LA ln lc, .int .i64 t.pad, .int .i64 t.ram] 52)))
  have X1 := Lib.hid (heap_newAt (w := w.alloc (.cells #[.slice A n c, .slice LA ln lc, .int .i64 t.pad, .int .i64 t.ram] 52)) (o := .cells #[.slice B m d, .slice LB lm ld, .int .i64 t.pad, .int .i64 t.ram] 52) (g := w.heap.size + 1) (by simp))
  have q1 : (t.pad == t.pad) = true := by simp
  have q2 : (t.ram == t.ram) = true := by simp
  clear hA hB hLA hLB hb0
  go_enter Try.func27, Try.ntmps27
  go_wp2_with fail
  refine (sameInts_any A B n m c d t.mux t.mux _ (HA.out.below HB0.out) (HB.out.below HB0.out) hn).mono ?_
  rw [show decide (t.mux = t.mux) = true from decide_eq_true rfl]
  rintro e w1 ⟨rfl, b1⟩
  have HW1 := Lib.hid (below_tr HB0.out b1)
  obtain ⟨y0, y1, y2, y3⟩ := cell4 (heap_tr b1 X0.out)
  obtain ⟨z0, z1, z2, z3⟩ := cell4 (heap_tr b1 X1.out)
  clear b1
  go_wp2_with fail
  refine (sameLes_same LA LB ln lm lc ld t.les _ (HLA.out.below HW1.out) (HLB.out.below HW1.out) hln hz).mono ?_
  rintro e w2 ⟨rfl, b2⟩
  have HW2 := Lib.hid (below_tr HW1.out b2)
  clear b2
  go_wp2_with fail
  go_ret
  exact ⟨rfl, HW2.out⟩
end Go.Proofs.Ytbnfdhidgdfbeaa
