/- Writing tiles into words: bits put one behind the other: the program. -/
import Derived.Test.YtbnfdhidgdfbeaaDeco
import Derived.Test.YtbnfdhidgdfbeaaDrwF
import Derived.Test.YtbnfdhidgdfbeaaEmpty
import Derived.Test.YtbnfdhidgdfbeaaEncT
import Derived.Test.YtbnfdhidgdfbeaaStart
namespace Go.Proofs.Ytbnfdhidgdfbeaa
set_option maxRecDepth 100000
open Go.RowKit Cw

/-- Only the blocks g and h may have changed. -/
structure Two2 (g h : Nat) (w w' : World) : Prop where
  os : w'.os = w.os
  tape : w'.tape = w.tape
  output : w'.output = w.output
  size : w'.heap.size = w.heap.size
  block : ∀ b, b ≠ g → b ≠ h → w'.heap[b]? = w.heap[b]?
theorem Two2.refl (g h : Nat) (w : World) : Two2 g h w w := ⟨rfl, rfl, rfl, rfl, fun _ _ _ => rfl⟩
theorem Two2.drew {g h : Nat} {w w' : World} (k : Two2 g h w w') : Two2 g h w w'.drew := ⟨k.os, k.tape, k.output, k.size, k.block⟩
theorem Two2.set {g h : Nat} {w w' : World} (k : Two2 g h w w') {p : Addr} (hp : p.block = g ∨ p.block = h) (v : Value) : Two2 g h w (w'.setCell p v) := by
  have b := (Below.refl p.block w').setCell (p := p) (Nat.le_refl _) v
  exact ⟨b.os.trans k.os, b.tape.trans k.tape, b.output.trans k.output, by rw [World.size_setCell]; exact k.size, fun i h1 h2 => (Below.heap_setCell w' p v i (by rcases hp with e | e <;> omega)).trans (k.block i h1 h2)⟩
theorem Two2.trans {g h : Nat} {a b c : World} (k : Two2 g h a b) (l : Two2 g h b c) : Two2 g h a c := ⟨l.os.trans k.os, l.tape.trans k.tape, l.output.trans k.output, l.size.trans k.size, fun i h1 h2 => (l.block i h1 h2).trans (k.block i h1 h2)⟩
set_option maxHeartbeats 1000000 in
theorem leConfigOk_any (S : Option Addr) (m p : Nat) (e : Le) (w : World) (hS : Ints w S m e.sel) (hm : m ≤ 1099511627776) :
    Calls Try.prog 124 #[.agg #[.slice S m p, .int .i64 e.mask, .int .i64 e.flop, .int .i64 e.init]] w fun e' w' => e' = .returned (.bool (leOk e)) ∧ Below w.heap.size w w' := by
  have HB0 := Lib.hid (below_new (Below.refl w.heap.size w) (.cells #[.slice S m p, .int .i64 e.mask, .int .i64 e.flop, .int .i64 e.init] 107))
  have HI := Lib.hid hS
  have HX := Lib.hid hS.1
  clear hS
  by_cases h4 : m = 4
  · subst h4
    have HL4 : Hid (leOk e = (inR e.mask 0 65535 && (inR e.flop 0 1 && (inR e.init 0 1 && allIn e.sel 7)))) := by show _ = _; unfold leOk; rw [HX.out]; rfl
    go_enter Try.func124, Try.ntmps124
    cases h1 : inR e.mask 0 65535 with
    | false => 
      go_wp2_with (go_at_call 57; refine (inRange_any _ _ _ _).mono ?_; rintro e' w' ⟨rfl, rfl⟩; rw [h1])
      go_ret
      exact ⟨ret_bool (by rw [HL4.out, h1]; rfl), HB0.out⟩
    | true =>
      cases h2 : inR e.flop 0 1 with
      | false =>
        go_wp2_with (go_at_call 57; refine (inRange_any _ _ _ _).mono ?_; rintro e' w' ⟨rfl, rfl⟩; first | rw [h1] | rw [h2])
        go_ret
        exact ⟨ret_bool (by rw [HL4.out, h1, h2]; rfl), HB0.out⟩
      | true =>
        cases h3 : inR e.init 0 1 with
        | false =>
          go_wp2_with (go_at_call 57; refine (inRange_any _ _ _ _).mono ?_; rintro e' w' ⟨rfl, rfl⟩; first | rw [h1] | rw [h2] | rw [h3])
          go_ret
          exact ⟨ret_bool (by rw [HL4.out, h1, h2, h3]; rfl), HB0.out⟩
        | true =>
          have HL5 : Hid (leOk e = allIn e.sel 7) := by show _ = _; rw [HL4.out, h1, h2, h3]; rfl
          go_wp2_with (go_at_call 57; refine (inRange_any _ _ _ _).mono ?_; rintro e' w' ⟨rfl, rfl⟩; first | rw [h1] | rw [h2] | rw [h3])
          obtain ⟨hx, hA⟩ := HI.out.below HB0.out
          clear hx
          go_loopw [30] (fun i wr => ∃ k : Nat, k ≤ 4 ∧ i = .int .i64 k ∧ (∀ j, j < k → inR (e.sel[j]?.getD 0) 0 7 = true) ∧ (w.alloc (.cells #[.slice S 4 p, .int .i64 e.mask, .int .i64 e.flop, .int .i64 e.init] 107)) = wr) (fun i _ => 4 - (intOf i).toNat)
          case atStart => exact ⟨0, Nat.zero_le _, rfl, by intro j hj; omega, rfl⟩
          case round =>
            obtain ⟨k, hk, rfl, hall, rfl⟩ := hrel
            have HALL := Lib.hid hall
            clear hall
            by_cases hlt : k < 4
            · obtain ⟨b, o, rfl, hb, hc⟩ := hA (by omega)
              have hck := hc k hlt
              clear hc
              have HB : Hid (inR (e.sel[k]?.getD 0) 0 7 = false → allIn e.sel 7 = false) := fun h => allIn_bad (by rw [HX.out]; exact hlt) h
              have HG : Hid (inR (e.sel[k]?.getD 0) 0 7 = true → ∀ j, j < k + 1 → inR (e.sel[j]?.getD 0) 0 7 = true) := fun h => all_succ HALL.out h
              generalize e.sel[k]?.getD 0 = x at *
              cases hin : inR x 0 7 with
              | true =>
                have HG' := Lib.hid (HG.out hin)
                clear HG HB
                go_wp2_with (go_at_call 57; refine (inRange_any _ _ _ _).mono ?_; rintro e' w' ⟨rfl, rfl⟩)
                go_roundw
                case rel => exact ⟨k + 1, by omega, by go_num, HG'.out, trivial⟩
                case measure => simp [intOf]; omega
              | false =>
                have HB' := Lib.hid (HB.out hin)
                clear HG HB
                go_wp2_with (go_at_call 57; refine (inRange_any _ _ _ _).mono ?_; rintro e' w' ⟨rfl, rfl⟩)
                go_ret
                exact ⟨ret_bool (by rw [HL5.out, HB'.out]), HB0.out⟩
            · have hkn : k = 4 := by omega
              subst hkn
              go_wp2_with fail
              go_ret
              exact ⟨ret_bool (by rw [HL5.out, allIn_good (by rw [HX.out]; exact HALL.out)]), HB0.out⟩
  · have d4 : ((m : Int) != 4) = true := by simp; omega
    go_enter Try.func124, Try.ntmps124
    go_wp2_with fail
    go_ret
    exact ⟨ret_bool (by unfold leOk; rw [HX.out, decide_eq_false h4]; rfl), HB0.out⟩
set_option maxHeartbeats 4000000 in
theorem put_any (g gw N : Nat) (bs : List Nat) (hb : Bits01 bs) (k cnt x : Nat) (w : World) (hg : w.heap[g]? = some (.cells #[.slice (some ⟨gw, 0, none⟩) N N, .int .i64 (k : Int)] 113 (0, 0))) (hw : w.heap[gw]? = some (.cells (arr (packI N bs k)) 3 (0, 0)))
    (hx : ∀ i, i < cnt → bs[k + i]?.getD 0 = bit x i) (hc : cnt ≤ 16) (hxb : x < 65536) (hN : k + cnt ≤ 16 * N) (hN2 : N ≤ 1000) (hne : g ≠ gw) :
    Calls Try.prog 95 #[.pointer (some ⟨g, 0, none⟩), .int .i64 (x : Int), .int .i64 (cnt : Int)] w fun e' w' => e' = .returned (.tuple #[]) ∧ w'.heap[g]? = some (.cells #[.slice (some ⟨gw, 0, none⟩) N N, .int .i64 ((k + cnt : Nat) : Int)] 113 (0, 0)) ∧ w'.heap[gw]? = some (.cells (arr (packI N bs (k + cnt))) 3 (0, 0)) ∧ Two2 g gw w w' := by
  go_enter Try.func95, Try.ntmps95
  go_wp2_with fail
  go_loopw [6] (fun i wr => ∃ j : Nat, j ≤ cnt ∧ i = .int .i64 j ∧ wr.heap[g]? = some (.cells #[.slice (some ⟨gw, 0, none⟩) N N, .int .i64 ((k + j : Nat) : Int)] 113 (0, 0)) ∧ wr.heap[gw]? = some (.cells (arr (packI N bs (k + j))) 3 (0, 0)) ∧ Two2 g gw w wr) (fun i _ => cnt - (intOf i).toNat)
  case atStart => exact ⟨0, Nat.zero_le _, rfl, hg, hw, Two2.refl _ _ _⟩
  case round =>
    obtain ⟨j, hj, rfl, hg2, hw2, ht⟩ := hrel
    have HG := Lib.hid hg2
    have HW := Lib.hid hw2
    have HT := Lib.hid ht
    clear hg2 hw2 ht
    by_cases hlt : j < cnt
    · have hdj : decide ((j : Int) < (cnt : Int)) = true := by simp; omega
      generalize ha : k + j = a at *
      have HA := Lib.hid ha
      have hbit := hx j hlt
      have e1 : (a : Int).tmod 16 = ((a % 16 : Nat) : Int) := by rw [Int.tmod_eq_emod_of_nonneg (by omega)]; omega
      have e2 : IntKind.i64.wrap ((a : Int).tdiv 16) = ((a / 16 : Nat) : Int) := by rw [IntWalk.i64_quo _ _ ⟨by omega, by omega, by omega⟩]; omega
      have q0 : (0 : Int) ≤ ((a / 16 : Nat) : Int) := by omega
      have q1 : ((a / 16 : Nat) : Int) < (N : Int) := by omega
      have r0 : (0 : Int) ≤ ((a % 16 : Nat) : Int) := by omega
      have r1 : ((a % 16 : Nat) : Int) < 16 := by omega
      have f1 : IntKind.i64.wrap ((a : Int) / 16) = (a : Int) / 16 := IntWalk.i64_in _ (by omega)
      have f2 : IntKind.u64.wrap (j : Int) = (j : Int) := by rw [IntKind.wrap_u64]; omega
      have f3 : IntKind.u64.wrap ((a : Int) % 16) = (a : Int) % 16 := by rw [IntKind.wrap_u64]; omega
      have p0 : (0 : Int) ≤ (a : Int) / 16 := by omega
      have p1 : (a : Int) / 16 < (N : Int) := by omega
      have p2 : (0 : Int) ≤ (a : Int) % 16 := by omega
      have p3 : (a : Int) % 16 < 16 := by omega
      have z0 := cell_heap (k := 0) HG.out rfl
      have z1 := cell_heap (k := 1) HG.out rfl
      have zw := cell_heap (k := a / 16) HW.out (arr_get (by rw [packI_length]; omega))
      have yw := frozen_heap HW.out (a / 16)
      have yg := frozen_heap HG.out 1
      rw [packI_get] at zw
      have zw2 : wr.cell? ⟨gw, ((a : Int) / 16).toNat, none⟩ = some (.int .i64 (((packTo N bs a)[a / 16]?.getD 0 : Nat) : Int)) := by rw [show ((a : Int) / 16).toNat = a / 16 by omega]; exact zw
      have yw2 : wr.frozen? ⟨gw, ((a : Int) / 16).toNat, none⟩ = false := by rw [show ((a : Int) / 16).toNat = a / 16 by omega]; exact yw
      rw [ha] at hbit
      have HBIT : Hid (bit x j = bs[a]?.getD 0) := hbit.symm
      clear ha hbit
      go_wp2_with fail
      have hidx : ((a : Int) / 16).toNat = a / 16 := by omega
      have hmod : ((a : Int) % 16).toNat = a % 16 := by omega
      have hval : bits .or .i64 (((packTo N bs a)[a / 16]?.getD 0 : Nat) : Int) (wrap64 (bits .and .i64 ((x : Int) / 2 ^ j) 1 * 2 ^ (a % 16))) = (((packTo N bs a)[a / 16]?.getD 0 + (bs[a]?.getD 0) * 2 ^ (a % 16) : Nat) : Int) := by
        rw [shr_bit x j (by omega), HBIT.out]
        have h1 := packTo_top (N := N) hb a
        have h2 : bs[a]?.getD 0 ≤ 1 := hb a
        generalize (packTo N bs a)[a / 16]?.getD 0 = P at *
        exact or_bit h1 h2 (by omega)
      have HVAL := Lib.hid hval
      have HPS := Lib.hid (packI_succ N bs a)
      have HNE2 : gw ≠ g := fun e => hne e.symm
      clear hval hidx hmod
      generalize (packTo N bs a)[a / 16]?.getD 0 = P at *
      go_region_with (fail)
      all_goals
        go_wp2_with fail
        go_roundw
        case rel =>
          refine ⟨j + 1, by omega, by go_num, ?_, ?_, ?_⟩
          · refine heap_setAt (cs := #[.slice (some ⟨gw, 0, none⟩) N N, .int .i64 (a : Int)]) ?_ _ (by rw [show ((k + (j + 1) : Nat) : Int) = (a : Int) + 1 by have := HA.out; omega]; rfl)
            repeat (first | exact HG.out | refine heap_dr ?_ | refine heap_setFar ?_ hne _)
          · refine heap_setFar ?_ HNE2 _
            rw [show k + (j + 1) = a + 1 by have := HA.out; omega, HPS.out, ← arr_set, ← HVAL.out]
            repeat (first | exact heap_set HW.out (a / 16) _ | exact heap_set (heap_dr HW.out) (a / 16) _ | refine heap_dr ?_)
          · repeat (first | exact HT.out | refine Two2.set ?_ (by simp) _ | refine Two2.drew ?_)
        case measure => simp [intOf]; omega
    · have hjc : j = cnt := by omega
      subst hjc
      have hdj : decide ((j : Int) < (j : Int)) = false := by simp
      go_wp2_with fail
      go_end0
      exact ⟨rfl, HG.out, HW.out, HT.out⟩
end Go.Proofs.Ytbnfdhidgdfbeaa
