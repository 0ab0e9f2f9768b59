/- BuildFrames of the program: the frames of valid tiles, or none. -/
import Derived.Test.YtbnfdhidgdfbeaaBldS
import Derived.Test.YtbnfdhidgdfbeaaEncR
import Derived.Test.YtbnfdhidgdfbeaaEncW
import Derived.Test.YtbnfdhidgdfbeaaStart
namespace Go.Proofs.Ytbnfdhidgdfbeaa
set_option maxRecDepth 100000
open Go.RowKit Cw

def bfOk (d : Dev) (ts : List Tile) : Bool := devOk d && (decide (ts.length = tiles d) && ts.all (tileOk d))
def bfF (d : Dev) (ts : List Tile) : List (List Int) := if bfOk d ts = true then buildF d ts else []
theorem bfOk_bad {d : Dev} {ts : List Tile} {k : Nat} (hk : k < ts.length) (h : tileOk d (ts[k]?.getD Tile.zero) = false) : bfOk d ts = false := by
  cases hb : bfOk d ts with
  | false => rfl
  | true =>
    unfold bfOk at hb
    simp only [Bool.and_eq_true, List.all_eq_true] at hb
    have h2 := hb.2.2 (ts[k]?.getD Tile.zero) (by rw [List.getElem?_eq_getElem hk]; exact List.getElem_mem hk)
    rw [h2] at h
    cases h
theorem bfOk_good {d : Dev} {ts : List Tile} (hd : devOk d = true) (hl : ts.length = tiles d) (h : ∀ j, j < ts.length → tileOk d (ts[j]?.getD Tile.zero) = true) : bfOk d ts = true := by
  unfold bfOk
  rw [hd, decide_eq_true hl, Bool.true_and, Bool.true_and, List.all_eq_true]
  intro t ht
  obtain ⟨j, hj, rfl⟩ := List.getElem_of_mem ht
  have := h j hj
  rwa [List.getElem?_eq_getElem hj] at this
/-- Bounds on the rows of tiles. -/
def TsBd (ts : List Tile) : Prop := ∀ i : Nat, (ts[i]?.getD Tile.zero).mux.length ≤ 1099511627776 ∧ ∀ e : Nat, ((ts[i]?.getD Tile.zero).les[e]?.getD Le.zero).sel.length ≤ 1099511627776
theorem tsBd_ok {d : Dev} {ts : List Tile} (h : ∀ t ∈ ts, tileOk d t = true) : TsBd ts := by
  intro i
  rcases Nat.lt_or_ge i ts.length with hi | hi
  · have hm : (ts[i]?.getD Tile.zero) ∈ ts := by rw [List.getElem?_eq_getElem hi]; exact List.getElem_mem hi
    have hf := tileOk_iff (h _ hm)
    have hb := (muxN_bd hf.dev).2.2.1
    obtain ⟨e0, e1, hl, h0, h1⟩ := hf.les
    have s0 := (leOk_iff h0).sel
    have s1 := (leOk_iff h1).sel
    refine ⟨by rw [hf.mux]; omega, fun e => ?_⟩
    rw [hl]
    obtain ⟨a, b, c, d', hs, _⟩ := s0
    obtain ⟨a', b', c', d'', hs', _⟩ := s1
    rcases e with _ | _ | e
    · show e0.sel.length ≤ _; rw [hs]; simp
    · show e1.sel.length ≤ _; rw [hs']; simp
    · simp [Le.zero]
  · rw [List.getElem?_eq_none hi]
    exact ⟨by simp [Tile.zero], fun e => by simp [Tile.zero, Le.zero]⟩
set_option maxHeartbeats 4000000 in
theorem buildFrames_any (d : Dev) (A : Option Addr) (n c : Nat) (ts : List Tile) (w : World) (hT : RdC w w.heap.size (celT ts) (.slice A n c)) (hbd : TsBd ts) (hn : n ≤ 1099511627776) :
    Calls Try.prog 13 #[.agg #[.int .i64 d.W, .int .i64 d.H, .int .i64 d.T, .int .i64 d.R], .slice A n c] w fun e w' => ∃ A' n' c', e = .returned (.tuple #[.slice A' n' c', .bool (bfOk d ts)]) ∧ Own2 w.heap.size w'.heap.size w' A' n' c' (bfF d ts) ∧ Below w.heap.size w w' := by
  have HT := Lib.hid hT
  have HTL := Lib.hid hT.tlen
  have HBD := Lib.hid hbd
  have HB0 := Lib.hid (below_new (Below.refl w.heap.size w) (.cells #[.int .i64 d.W, .int .i64 d.H, .int .i64 d.T, .int .i64 d.R] 29))
  have HDO := Lib.hid (fun w' => deviceOk_any d w')
  clear hT hbd
  go_enter Try.func13, Try.ntmps13
  go_wp2_with fail
  refine (HDO.out _).mono ?_
  rintro e w1 ⟨rfl, b1⟩
  have hs1 := b1.size
  simp only [World.size_alloc] at hs1
  have HW1 := Lib.hid (below_tr HB0.out b1)
  have HX1 := Lib.hid (heap_tr b1 (heap_new w (.cells #[.int .i64 d.W, .int .i64 d.H, .int .i64 d.T, .int .i64 d.R] 29)))
  clear b1
  cases hd : devOk d with
  | false =>
    have HNO : Hid (bfOk d ts = false) := by show _ = _; unfold bfOk; rw [hd]; rfl
    have HNF : Hid (bfF d ts = []) := by show _ = _; unfold bfF; rw [HNO.out]; rfl
    clear hd
    go_wp2_with fail
    go_ret2
    exact ⟨none, 0, 0, by rw [HNO.out]; rfl, by rw [HNF.out]; exact Own2.nil, HW1.out⟩
  | true =>
    have HD := Lib.hid hd
    have e1 : d.W * d.H = (tiles d : Int) := (tiles_eq hd).1
    have hM := (tiles_eq hd).2
    have a3 : IntKind.i64.wrap (tiles d : Int) = (tiles d : Int) := IntWalk.i64_in _ (by omega)
    clear hd
    obtain ⟨z0, z1, z2, z3⟩ := cell4 HX1.out
    by_cases hl : ts.length = tiles d
    · have hnm : n = tiles d := by have := HTL.out; omega
      have HL := Lib.hid hl
      clear hl
      subst hnm
      have hne : ((tiles d : Int) != (tiles d : Int)) = false := by simp
      go_wp2_with fail
      clear z0 z1 z2 z3
      go_loopw [6, 26] (fun v i wr => ∃ (k : Nat) (A' : Option Addr) (c' : Nat), k ≤ tiles d ∧ i = .int .i64 k ∧ v = .slice A' k c' ∧ (∀ j, j < k → tileOk d (ts[j]?.getD Tile.zero) = true) ∧ Own2 w1.heap.size wr.heap.size wr A' k c' ((ts.take k).map (rowOf d)) ∧ Below w1.heap.size w1 wr) (fun _ i _ => tiles d - (intOf i).toNat)
      case atStart => exact ⟨0, none, 0, Nat.zero_le _, rfl, rfl, by intro j hj; omega, by simpa using Own2.nil, Below.refl _ _⟩
      case round =>
        obtain ⟨k, A', c', hk, rfl, rfl, hall, hoo, hb⟩ := hrel
        have HALL := Lib.hid hall
        have HOO := Lib.hid hoo
        have HB := Lib.hid hb
        have HW := Lib.hid (below_tr HW1.out hb)
        have HXR := Lib.hid (heap_tr hb HX1.out)
        have hsr := hb.size
        clear hall hoo hb
        by_cases hlt : k < tiles d
        · have hdk : decide ((k : Int) < (tiles d : Int)) = true := decide_eq_true (by omega)
          obtain ⟨b, o, S, m3, p, L, l, q, rfl, hb, c0, c1, c2, c3, r0, r1⟩ := HT.out.tile (k := k) (by rw [HTL.out]; exact hlt)
          rw [← HW.out.cell (p := ⟨b, o + k * 4, none⟩) hb] at c0
          rw [← HW.out.cell (p := ⟨b, o + k * 4 + 1, none⟩) hb] at c1
          rw [← HW.out.cell (p := ⟨b, o + k * 4 + 2, none⟩) hb] at c2
          rw [← HW.out.cell (p := ⟨b, o + k * 4 + 3, none⟩) hb] at c3
          have hbr : b < wr.heap.size := by have := HW.out.size; omega
          have hwr0 : w.heap.size < wr.heap.size := by omega
          have HSN := Lib.hid (map_snoc (f := rowOf d) (getD_some Tile.zero (by rw [HTL.out]; exact hlt) : ts[k]? = some (ts[k]?.getD Tile.zero)))
          have HTB := Lib.hid (HBD.out k)
          have HR0 := Lib.hid (RdC.ints (r0.below HW.out))
          have HR1 := Lib.hid (r1.below HW.out)
          have HBAD : Hid (tileOk d (ts[k]?.getD Tile.zero) = false → bfOk d ts = false) := fun h => bfOk_bad (by rw [HTL.out]; exact hlt) h
          have HAS : Hid (tileOk d (ts[k]?.getD Tile.zero) = true → ∀ j, j < k + 1 → tileOk d (ts[j]?.getD Tile.zero) = true) := fun h => all_succ HALL.out h
          have i0 : (0 : Int) ≤ (k : Int) := by omega
          have i1 : (k : Int) < (tiles d : Int) := by omega
          clear r0 r1
          generalize ts[k]?.getD Tile.zero = t at *
          have hAB := below_new (Below.refl wr.heap.size wr) (.cells #[.slice S m3 p, .slice L l q, .int .i64 t.pad, .int .i64 t.ram] 52)
          have hm3 : m3 ≤ 1099511627776 := by have h1 := HR0.out.1; have h2 := HTB.out.1; omega
          obtain ⟨z0, z1, z2, z3⟩ := cell4 HXR.out
          cases htk : tileOk d t with
          | false =>
            have HNO := Lib.hid (HBAD.out htk)
            have HNF : Hid (bfF d ts = []) := by show _ = _; unfold bfF; rw [HNO.out]; rfl
            have HEN := Lib.hid (encodeTile_no d t S m3 p L l q (wr.alloc (.cells #[.slice S m3 p, .slice L l q, .int .i64 t.pad, .int .i64 t.ram] 52)) (HR0.out.below hAB) (HR1.out.below hAB) hm3 HTB.out.2 htk)
            have HWA := Lib.hid (below_tr HW.out hAB)
            clear htk hAB
            go_wp2_with fail
            refine HEN.out.mono ?_
            rintro e w5 ⟨rfl, b5⟩
            have HW5 := Lib.hid (below_tr HWA.out b5)
            clear b5
            go_wp2_with fail
            go_ret2
            exact ⟨none, 0, 0, by rw [HNO.out]; rfl, by rw [HNF.out]; exact Own2.nil, HW5.out⟩
          | true =>
            have HAK := Lib.hid (HAS.out htk)
            have HEN := Lib.hid (encodeTile_yes d t S m3 p L l q (wr.alloc (.cells #[.slice S m3 p, .slice L l q, .int .i64 t.pad, .int .i64 t.ram] 52)) (HR0.out.below hAB) (HR1.out.below hAB) hm3 HTB.out.2 htk)
            have HAB := Lib.hid hAB
            have HEB := Lib.hid (fun j => encT_bd d t j)
            have HRW : Hid (encL (encT d t) = rowOf d t) := rfl
            have HEL := Lib.hid (encT_length d t)
            have hfw := fwI_bd HD.out
            clear htk hAB
            go_wp2_with fail
            refine HEN.out.mono ?_
            rintro e w5 ⟨A5, n5, c5, rfl, o5, b5⟩
            have HB5 := Lib.hid (below_tr HAB.out b5)
            have O5 := Lib.hid o5.ints
            have hn5 : n5 ≤ 11 := by have h1 := o5.len; have h2 := HEL.out; omega
            clear o5 b5 z0 z1 z2 z3 c0 c1 c2 c3
            go_wp2_with fail
            refine (encodeWords_any A5 n5 c5 (encT d t) _ O5.out (fun j _ => HEB.out j) (by omega)).mono ?_
            rw [HRW.out]
            rintro e w6 ⟨A6, c6, rfl, o6, b6⟩
            have HB6 := Lib.hid (below_tr HB5.out b6)
            have hs5 := HB5.out.size
            have hs6 := b6.size
            have O6 := Lib.hid o6
            have HOO6 := Lib.hid (HOO.out.below HB6.out)
            have HBB := Lib.hid (below_tr HB.out HB6.out)
            clear o6 b6
            go_wp2_with (at_builtin; refine wpList_push2 rfl _ _ rfl w1.heap.size _ A' k c' ((ts.take k).map (rowOf d)) w5.heap.size A6 n5 c6 _ rfl HOO6.out O6.out rfl (by omega) (by omega) (by omega) (by omega) (by omega) HBB.out ?_; rintro g6 cap w7 o7 b7)
            go_roundw
            case rel => exact ⟨k + 1, _, _, by omega, by go_num, rfl, HAK.out, by rw [HSN.out]; exact o7, b7⟩
            case measure => simp [intOf]; omega
        · have hkn : k = tiles d := by omega
          have HKN := Lib.hid hkn
          have hdk : decide ((k : Int) < (tiles d : Int)) = false := decide_eq_false (by omega)
          have HOK : Hid (bfOk d ts = true) := bfOk_good HD.out HL.out (fun j hj => HALL.out j (by have := HL.out; omega))
          have HFF : Hid (bfF d ts = (ts.take k).map (rowOf d)) := by
            show _ = _
            unfold bfF
            rw [if_pos HOK.out, List.take_of_length_le (by have := HL.out; omega)]
            rfl
          clear hkn
          go_wp2_with fail
          go_ret2
          exact ⟨_, _, _, by rw [HOK.out]; rfl, by rw [HFF.out]; exact HOO.out.widen (by omega) (Nat.le_refl _), HW.out⟩
    · have HNO : Hid (bfOk d ts = false) := by show _ = _; unfold bfOk; rw [decide_eq_false hl]; simp
      have HNF : Hid (bfF d ts = []) := by show _ = _; unfold bfF; rw [HNO.out]; rfl
      have hne : ((n : Int) != (tiles d : Int)) = true := by have := HTL.out; simp; omega
      clear hl
      go_wp2_with fail
      go_ret2
      exact ⟨none, 0, 0, by rw [HNO.out]; rfl, by rw [HNF.out]; exact Own2.nil, HW1.out⟩
end Go.Proofs.Ytbnfdhidgdfbeaa
