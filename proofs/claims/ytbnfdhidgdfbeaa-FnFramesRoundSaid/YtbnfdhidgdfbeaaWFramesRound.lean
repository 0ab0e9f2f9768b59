/- FnFramesRound, the walk. -/
import Derived.Deep.DrawnRows
import Derived.Test.YtbnfdhidgdfbeaaBldP
import Derived.Test.YtbnfdhidgdfbeaaDrwF
import Derived.Test.YtbnfdhidgdfbeaaFrLen
import Derived.Test.YtbnfdhidgdfbeaaFrPure
import Derived.Test.YtbnfdhidgdfbeaaLaw
import Derived.Test.YtbnfdhidgdfbeaaSamT
import Derived.Test.YtbnfdhidgdfbeaaStart
namespace Go.Proofs.Ytbnfdhidgdfbeaa
set_option maxRecDepth 100000
open Go.RowKit
attribute [local go_sem ↓] Go.wp_at_zero Go.wp_at_succ

set_option maxHeartbeats 4000000 in
theorem law_framesRound (A : Option Addr) (n c : Nat) (bs : List Int) (w : World) (h : Bytes w w.heap.size A n bs) (_hm : n ≤ maxLen) :
    Calls Try.prog 5 #[.slice A n c] w fun e w' => e = .returned (.bool true) ∧ Below w.heap.size w w' := by
  by_cases g : n ≤ 1048576
  · have d : decide ((n : Int) > 1048576) = false := by simp; omega
    have HB := Lib.hid h
    clear h
    go_enter Try.func5, Try.ntmps5
    go_wp2_with (go_at_call 19; refine (big_any _ _ _ _).mono ?_; rintro e w' ⟨rfl, rfl⟩)
    refine (drawFrames_any A n c bs _ HB.out (by omega)).mono ?_
    rintro e w1 ⟨d, ts, A1, c1, rfl, hd, htl, hto, o1, b1⟩
    have hb2 : Below w1.heap.size w1 (w1.alloc (.cells #[.int .i64 d.W, .int .i64 d.H, .int .i64 d.T, .int .i64 d.R] 29)) := below_new (Below.refl _ _) _
    have HX := Lib.hid (heap_new w1 (.cells #[.int .i64 d.W, .int .i64 d.H, .int .i64 d.T, .int .i64 d.R] 29))
    have HW := Lib.hid (below_tr b1 hb2)
    have HR := Lib.hid (o1.rd.below hb2)
    have HD := Lib.hid hd
    have hfo := buildF_ok hd htl
    have hM := (tiles_eq hd).2
    have HWH := Lib.hid (tiles_eq hd).1
    have HFO := Lib.hid hfo
    have HSZ : Hid (size2 (buildF d ts) ≤ 1099511627776) := Nat.le_trans (rows_le (fun j _ => frame_len hfo j) (frames_n hfo).2) (by omega)
    have HRF : Hid (readF d (buildF d ts) = ts) := by show _ = _; rw [readF, if_pos hfo, tilesOf_build hto]
    have HTL := Lib.hid htl
    have HTB := Lib.hid (tsBd_ok hto)
    have HLS : Hid (∀ k : Nat, (ts[k]?.getD Tile.zero).les.length ≤ 2) := fun k => by
      rcases Nat.lt_or_ge k ts.length with hk | hk
      · obtain ⟨e0, e1, hl, _⟩ := (tileOk_iff (hto (ts[k]?.getD Tile.zero) (by rw [List.getElem?_eq_getElem hk]; exact List.getElem_mem hk))).les
        rw [hl]
        simp
      · rw [List.getElem?_eq_none hk]
        simp [Tile.zero]
    have HBO : Hid (bfOk d ts = true) := bfOk_good hd htl (fun j hj => hto _ (by rw [List.getElem?_eq_getElem hj]; exact List.getElem_mem hj))
    have HBF : Hid (bfF d ts = buildF d ts) := by show _ = _; unfold bfF; rw [if_pos HBO.out]
    have HRD : Hid (∀ (A' : Option Addr) (c' : Nat) (w' : World), Rows2 w' A' (tiles d) (buildF d ts) → Calls Try.prog 25 #[.agg #[.int .i64 d.W, .int .i64 d.H, .int .i64 d.T, .int .i64 d.R], .slice A' (tiles d) c'] w' fun e w'' => ∃ A2 c2, e = .returned (.slice A2 (tiles d) c2) ∧ RdC w'' w''.heap.size (celT ts) (.slice A2 (tiles d) c2) ∧ Below w'.heap.size w' w'') := fun A' c' w' hr => by
      refine (preadFrames_any d A' (tiles d) c' (buildF d ts) w' hr HSZ.out).mono ?_
      rw [HRF.out]
      rintro e w'' ⟨A2, n2, c2, rfl, o, b⟩
      have hl := o.rd.tlen
      rw [HTL.out] at hl
      subst hl
      exact ⟨A2, c2, rfl, o.rd, b⟩
    have HBL : Hid (∀ (A' : Option Addr) (c' : Nat) (w' : World), RdC w' w'.heap.size (celT ts) (.slice A' (tiles d) c') → Calls Try.prog 13 #[.agg #[.int .i64 d.W, .int .i64 d.H, .int .i64 d.T, .int .i64 d.R], .slice A' (tiles d) c'] w' fun e w'' => ∃ A2 c2, e = .returned (.tuple #[.slice A2 (tiles d) c2, .bool true]) ∧ Rows2 w'' A2 (tiles d) (buildF d ts) ∧ Below w'.heap.size w' w'') := fun A' c' w' hr => by
      refine (buildFrames_any d A' (tiles d) c' ts w' hr HTB.out (by omega)).mono ?_
      rw [HBO.out, HBF.out]
      rintro e w'' ⟨A2, n2, c2, rfl, o, b⟩
      have hl := o.len
      rw [buildF, List.length_map, HTL.out] at hl
      subst hl
      exact ⟨A2, c2, rfl, o.rd, b⟩
    clear o1 b1 hb2 hd htl hto hfo
    obtain ⟨z0, z1, z2, z3⟩ := cell4 HX.out
    go_wp2_with fail
    generalize hW2 : (w1.alloc (.cells #[.int .i64 d.W, .int .i64 d.H, .int .i64 d.T, .int .i64 d.R] 29)) = w2 at *
    generalize hgd : w1.heap.size = gd at *
    generalize buildF d ts = fs at *
    clear hW2 hgd z0 z1 z2 z3
    refine (HRD.out _ _ _ HR.out).mono ?_
    rintro e w3 ⟨A3, c3, rfl, r3, b3⟩
    have HT := Lib.hid r3
    replace HX := Lib.hid (heap_tr b3 HX.out)
    replace HW := Lib.hid (below_tr HW.out b3)
    replace HR := Lib.hid (HR.out.below b3)
    clear r3 b3
    obtain ⟨z0, z1, z2, z3⟩ := cell4 HX.out
    go_wp2_with fail
    refine (HBL.out _ _ _ HT.out).mono ?_
    rintro e w4 ⟨A4, c4, rfl, r4, b4⟩
    have HG := Lib.hid r4
    replace HX := Lib.hid (heap_tr b4 HX.out)
    replace HW := Lib.hid (below_tr HW.out b4)
    replace HR := Lib.hid (HR.out.below b4)
    replace HT := Lib.hid (HT.out.below b4)
    clear r4 b4 z0 z1 z2 z3
    go_wp2_with fail
    refine (sameRows_any A4 A1 (tiles d) (tiles d) c4 c1 fs fs _ HG.out HR.out HSZ.out).mono ?_
    rw [show decide (fs = fs) = true from decide_eq_true rfl]
    rintro e w5 ⟨rfl, b5⟩
    replace HX := Lib.hid (heap_tr b5 HX.out)
    replace HW := Lib.hid (below_tr HW.out b5)
    replace HR := Lib.hid (HR.out.below b5)
    replace HT := Lib.hid (HT.out.below b5)
    replace HG := Lib.hid (HG.out.below b5)
    clear b5
    obtain ⟨z0, z1, z2, z3⟩ := cell4 HX.out
    go_wp2_with fail
    refine (framesOk_any d A1 (tiles d) c1 fs _ HR.out HSZ.out).mono ?_
    rw [HFO.out]
    rintro e w6 ⟨rfl, b6⟩
    replace HX := Lib.hid (heap_tr b6 HX.out)
    replace HW := Lib.hid (below_tr HW.out b6)
    replace HT := Lib.hid (HT.out.below b6)
    replace HG := Lib.hid (HG.out.below b6)
    clear b6 z0 z1 z2 z3
    obtain ⟨z0, z1, z2, z3⟩ := cell4 HX.out
    go_wp2_with fail
    refine (HRD.out _ _ _ HG.out).mono ?_
    rintro e w7 ⟨A7, c7, rfl, r7, b7⟩
    have HM := Lib.hid r7
    replace HX := Lib.hid (heap_tr b7 HX.out)
    replace HW := Lib.hid (below_tr HW.out b7)
    replace HT := Lib.hid (HT.out.below b7)
    clear r7 b7 z0 z1 z2 z3
    obtain ⟨z0, z1, z2, z3⟩ := cell4 HX.out
    have e1 : d.W * d.H = (tiles d : Int) := HWH.out
    have a3 : IntKind.i64.wrap (tiles d : Int) = (tiles d : Int) := IntWalk.i64_in _ (by omega)
    have htt : ((tiles d : Int) != (tiles d : Int)) = false := by simp
    go_wp2_with fail
    clear z0 z1 z2 z3 e1 a3
    go_loopw [9] (fun i wr => ∃ k : Nat, k ≤ tiles d ∧ i = .int .i64 k ∧ Below w7.heap.size w7 wr) (fun i _ => tiles d - (intOf i).toNat)
    case atStart => exact ⟨0, Nat.zero_le _, rfl, Below.refl _ _⟩
    case round =>
      obtain ⟨k, hk, rfl, hbe⟩ := hrel
      have HBE := Lib.hid hbe
      have HWR := Lib.hid (below_tr HW.out hbe)
      by_cases hlt : k < tiles d
      · have hdk : decide ((k : Int) < (tiles d : Int)) = true := decide_eq_true (by omega)
        obtain ⟨b, o, S, m3, p, L, l, q, rfl, hb, x0, x1, x2, x3, r0, r1⟩ := (HT.out.below hbe).tile (k := k) (by rw [HTL.out]; exact hlt)
        obtain ⟨b', o', S', m3', p', L', l', q', rfl, hb', y0, y1, y2, y3, s0, s1⟩ := (HM.out.below hbe).tile (k := k) (by rw [HTL.out]; exact hlt)
        have htb := HTB.out k
        have J0 := Lib.hid r0.ints
        have J1 := Lib.hid r1
        have K0 := Lib.hid s0.ints
        have K1 := Lib.hid s1
        have hl : l ≤ 1099511627776 := by have h1 := r1.elen; have h2 := HLS.out k; omega
        have hm : m3' ≤ 1099511627776 := by have h1 := s0.ints.1; have h2 := htb.1; omega
        have hl' : l' ≤ 1099511627776 := by have h1 := s1.elen; have h2 := HLS.out k; omega
        have HZ := Lib.hid htb.2
        have i0 : (0 : Int) ≤ (k : Int) := by omega
        have i1 : (k : Int) < (tiles d : Int) := by omega
        clear r0 r1 s0 s1 hbe htb
        generalize ts[k]?.getD Tile.zero = t at *
        have HST := Lib.hid (fun (w' : World) (hb : Below wr.heap.size wr w') => sameTile_same t S' m3' p' L' l' q' S m3 p L l q w' (K0.out.below hb) (J0.out.below hb) (K1.out.below hb) (J1.out.below hb) hm hl' HZ.out)
        have hD := (Below.refl wr.heap.size wr).drew
        go_wp2_with fail
        go_region_held3 (fun w' => Below wr.heap.size wr w' ∧ ∀ b o, b < wr.heap.size → w'.cell? ⟨b, o, none⟩ = wr.cell? ⟨b, o, none⟩)
          (first | exact ⟨hD, (bcell hD).1⟩)
          (first
            | (go_at_call 27; (with_reducible refine (HST.out _ hD).mono ?_); rintro e w8 ⟨rfl, b8⟩; replace hD := below_tr hD b8; clear b8))
        clear x0 x1 x2 x3 y0 y1 y2 y3
        have HD8 := Lib.hid (below_tr HBE.out hD)
        clear hD
        go_wp2_with fail
        go_roundw
        case rel => exact ⟨k + 1, by omega, by go_num, HD8.out⟩
        case measure => simp [intOf]; omega
      · have hkn : k = tiles d := by omega
        have hdk : decide ((k : Int) < (tiles d : Int)) = false := decide_eq_false (by omega)
        clear hkn
        go_wp2_with fail
        go_ret
        exact ⟨rfl, HWR.out⟩
  · have d : decide ((n : Int) > 1048576) = true := by simp; omega
    go_enter Try.func5, Try.ntmps5
    go_wp2_with (go_at_call 19; refine (big_any _ _ _ _).mono ?_; rintro e w' ⟨rfl, rfl⟩)
    go_ret
    exact ⟨rfl, Below.refl _ _⟩
end Go.Proofs.Ytbnfdhidgdfbeaa
