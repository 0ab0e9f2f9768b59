/- Drawing a device with frames, a state and pads, of the reference. What the laws on a drawn running device need. -/
import Derived.Test.YtbnfdhidgdfbeaaDrwF
import Derived.Test.YtbnfdhidgdfbeaaFrLen
import Derived.Test.YtbnfdhidgdfbeaaLaw
import Derived.Test.YtbnfdhidgdfbeaaRunPure
import Derived.Test.YtbnfdhidgdfbeaaSam
import Derived.Test.YtbnfdhidgdfbeaaStartS
namespace Go.Proofs.Ytbnfdhidgdfbeaa
set_option maxRecDepth 100000
open Go.RowKit

theorem results_cell4 {fn : Func} {p u v x : Tmp} {ty t : TypeId} {tmps cs : Array Value} {P : Program} {w : World} {g : Nat} {fs : Array Field} (h : fn.results = #[.cell p ty, .tmp u, .tmp v, .tmp x]) (ht : tmps.getD p undef = .pointer (some ⟨g, 0, none⟩)) (hg : w.heap[g]? = some (.cells cs t (0, 0)))
    (hu : P.underlying ty = some (.struct fs)) (hi : (P.info? ty).map (·.size) = some cs.size) : (results fn tmps).run P w = .ok (.tuple #[.agg cs, tmps.getD u undef, tmps.getD v undef, tmps.getD x undef]) w := by
  have hl : (loadVar ty ⟨g, 0, none⟩).run P w = .ok (.agg cs) w := run_loadVar_row w g t ty cs (0, 0) (.struct fs) hg hu rfl hi
  simp only [results, h]
  simp only [Array.getD_eq_getD_getElem?] at ht
  simp [ht, asAddr, hl]
theorem Own.keepS {base lo hi : Nat} {w w' : World} {A : Option Addr} {n c : Nat} {xs : List Int} (h : Own base w A n c xs) (k : Chg lo hi w w') (hb : hi ≤ base) : Own base w' A n c xs :=
  ownsRow_block h fun a ha => k.block _ (h.lt a ha).2 (by have := (h.lt a ha).1; omega)
set_option maxHeartbeats 400000 in
theorem sclamp_in (x : Int) (w : World) (h : 0 ≤ x ∧ x ≤ 6) :
    Calls Try.prog 105 #[.int .i64 x, .int .i64 0, .int .i64 6] w fun e w' => e = .returned (.int .i64 x) ∧ w = w' := by
  have h0 : decide (x < 0) = false := by simp; omega
  have h1 : decide (x > 6) = false := by simp; omega
  go_enter Try.func105, Try.ntmps105
  go_wp2_with fail
  go_ret
  exact ⟨rfl, rfl⟩
set_option maxHeartbeats 4000000 in
theorem l41PadsOf_any (g B : Nat) (A : Option Addr) (n c : Nat) (bs : List Int) (d : Dev) (w : World) (h : Cur w g B A n c bs) (hn : n ≤ 1099511627776) (hd : devOk d = true) :
    Calls Try.prog 65 #[.pointer (some ⟨g, 0, none⟩), .agg #[.int .i64 d.W, .int .i64 d.H, .int .i64 d.T, .int .i64 d.R]] w fun e w' => ∃ (ps : List Int) (A' : Option Addr) (c' : Nat), e = .returned (.slice A' (tiles d) c') ∧ ps.length = tiles d ∧ Upto 1 ps ∧ Own w.heap.size w' A' (tiles d) c' ps ∧ Cur w' g B A n c bs ∧ w.grownBy w' (some g) := by
  have hgw : g < w.heap.size := h.lt
  have HC := Lib.hid h
  have hb := devOk_bd hd
  have HCW := Lib.hid (fun w => sclamp_in d.W w (by omega))
  have HCH := Lib.hid (fun w => sclamp_in d.H w (by omega))
  have HD := Lib.hid hd
  obtain ⟨hN, hN1, hN2⟩ := tiles_eq hd
  skip
  generalize tiles d = M at *
  have a3 : IntKind.i64.wrap (M : Int) = (M : Int) := IntWalk.i64_in _ (by omega)
  have B0 := Lib.hid (below_new (Below.refl w.heap.size w) (.cells #[.int .i64 d.W, .int .i64 d.H, .int .i64 d.T, .int .i64 d.R] 29))
  have X0 := Lib.hid (heap_al (.cells #[] 3) (heap_new w (.cells #[.int .i64 d.W, .int .i64 d.H, .int .i64 d.T, .int .i64 d.R] 29)))
  have B1 := Lib.hid (below_new B0.out (.cells #[] 3))
  have N1 := Lib.hid (Own.newAt (w := (w.alloc (.cells #[.int .i64 d.W, .int .i64 d.H, .int .i64 d.T, .int .i64 d.R] 29))) (base := w.heap.size + 1) (g := w.heap.size + 1) (by simp) (by simp))
  clear h hd hb
  go_enter Try.func65, Try.ntmps65
  go_wp2_with fail
  go_loopw [5, 6] (fun v i wr => ∃ (k : Nat) (ps : List Int) (A' : Option Addr) (c' : Nat), k ≤ M ∧ i = .int .i64 k ∧ v = .slice A' k c' ∧ ps.length = k ∧ Upto 1 ps ∧ Own (w.heap.size + 1) wr A' k c' ps ∧ Cur wr g B A n c bs ∧ w.grownBy wr (some g) ∧ wr.heap[w.heap.size]? = some (.cells #[.int .i64 d.W, .int .i64 d.H, .int .i64 d.T, .int .i64 d.R] 29 (0, 0)) ∧ w.heap.size + 1 < wr.heap.size) (fun _ i _ => M - (intOf i).toNat)
  case atStart => exact ⟨0, [], _, 0, Nat.zero_le _, rfl, rfl, rfl, upto_nil (by omega), N1.out, HC.out.below B1.out, grownBy_of_below B1.out _, X0.out, by simp⟩
  case round =>
    obtain ⟨k, ps, A', c', hk, rfl, rfl, hpl, hpu, ho, hcu, hgw', hx, hsz⟩ := hrel
    have HO := Lib.hid ho
    have KC := Lib.hid hcu
    have HG := Lib.hid hgw'
    have HX := Lib.hid hx
    have HPL := Lib.hid hpl
    have HPU := Lib.hid hpu
    clear ho hcu hgw' hx hpl hpu
    obtain ⟨z0, z1, z2, z3⟩ := cell4 HX.out
    by_cases hlt : k < M
    · have hdk : decide ((k : Int) < (M : Int)) = true := by simp; omega
      have H2 : wr.cell? ⟨w.heap.size, 0, none⟩ = some (.int .i64 d.W) ∧ wr.cell? ⟨w.heap.size, 1, none⟩ = some (.int .i64 d.H) := ⟨z0, z1⟩
      have hD := (Below.refl wr.heap.size wr).drew
      clear z0 z1 z2 z3
      go_wp2_with fail
      go_region_held3 (fun w' => w'.cell? ⟨w.heap.size, 0, none⟩ = some (.int .i64 d.W) ∧ w'.cell? ⟨w.heap.size, 1, none⟩ = some (.int .i64 d.H))
        (first | exact H2)
        (first
          | (go_at_call 105; (first | (with_reducible refine (HCW.out _).mono ?_) | (with_reducible refine (HCH.out _).mono ?_)); rintro e w' ⟨rfl, rfl⟩))
      replace KC := Lib.hid (KC.out.below hD)
      replace HO := Lib.hid (HO.out.below hD)
      replace HG := Lib.hid (grown_then HG.out hD HG.out.size)
      replace HX := Lib.hid (heap_dr HX.out)
      have hszd : w.heap.size + 1 < wr.drew.heap.size := hsz
      clear hD H2 hsz
      go_wp2_with fail
      generalize wr.drew = wd at *
      refine (l01Below_any g B A n c bs 2 _ KC.out hn (by omega) (by omega)).mono ?_
      rintro e w5 ⟨x, rfl, hx, hx', k5, g5⟩
      replace HO := Lib.hid (HO.out.grownC g5 (by omega))
      replace HG := Lib.hid (grownBy_trans HG.out g5)
      replace HX := Lib.hid ((grown_far g5 (heap_lt0 HX.out) (by omega)).trans HX.out)
      replace KC := Lib.hid k5
      have hs5 := g5.size
      clear k5 g5
      go_wp2_with (at_builtin; refine wpList_push rfl _ _ rfl (w.heap.size + 1) A' k c' ps _ rfl HO.out rfl (by omega) (by omega) (Below.refl (w.heap.size + 1) _) ?_; rintro g4 cap w4 o4 b4 gr4 hat4)
      go_roundw
      case rel => exact ⟨k + 1, ps ++ [x], _, _, by omega, by go_num, rfl, by rw [List.length_append, HPL.out]; rfl, upto_snoc HPU.out (by omega), o4, KC.out.keepB b4 (by omega), grown_then HG.out b4 (by omega), (b4.block _ (by omega)).trans HX.out, by have := b4.size; omega⟩
      case measure => simp [intOf]; omega
    · have hkm : k = M := by omega
      subst hkm
      have hdk : decide ((k : Int) < (k : Int)) = false := by simp
      clear hlt hk
      have H2 : wr.cell? ⟨w.heap.size, 0, none⟩ = some (.int .i64 d.W) ∧ wr.cell? ⟨w.heap.size, 1, none⟩ = some (.int .i64 d.H) := ⟨z0, z1⟩
      have hD := (Below.refl wr.heap.size wr).drew
      clear z0 z1 z2 z3
      go_wp2_with fail
      go_region_held3 (fun w' => w'.cell? ⟨w.heap.size, 0, none⟩ = some (.int .i64 d.W) ∧ w'.cell? ⟨w.heap.size, 1, none⟩ = some (.int .i64 d.H))
        (first | exact H2)
        (first
          | (go_at_call 105; (first | (with_reducible refine (HCW.out _).mono ?_) | (with_reducible refine (HCH.out _).mono ?_)); rintro e w' ⟨rfl, rfl⟩))
      replace KC := Lib.hid (KC.out.below hD)
      replace HO := Lib.hid (HO.out.below hD)
      replace HG := Lib.hid (grown_then HG.out hD HG.out.size)
      replace HX := Lib.hid (heap_dr HX.out)
      have hszd : w.heap.size + 1 < wr.drew.heap.size := hsz
      clear hD H2 hsz
      go_wp2_with fail
      generalize wr.drew = wd at *
      go_ret
      exact ⟨ps, _, _, rfl, HPL.out, HPU.out, HO.out.more (by omega), KC.out, HG.out⟩
theorem inSt_two {d : Dev} {st : List Int} {k : Nat} {x y : Int} (h : InSt d st) (hl : st.length = 2 * k) (hx : 0 ≤ x ∧ x ≤ mostOf d (2 * k)) (hy : 0 ≤ y ∧ y ≤ mostOf d (2 * k + 1)) : InSt d (st ++ [x, y]) := by
  intro i
  have h0 := h i
  rw [List.getElem?_append]
  split
  · exact h0
  · rename_i hi
    rcases Nat.lt_or_ge i (st.length + 2) with h2 | h2
    · have h3 : i = 2 * k ∨ i = 2 * k + 1 := by omega
      rcases h3 with rfl | rfl
      · rw [hl, Nat.sub_self]; exact hx
      · rw [hl, Nat.add_sub_cancel_left]; exact hy
    · rw [List.getElem?_eq_none (by simp; omega)]
      have := mostOf_pos d i
      simp; omega
theorem inSt_nil (d : Dev) : InSt d [] := fun i => by have := mostOf_pos d i; simp; omega
theorem most_even (d : Dev) (k : Nat) : mostOf d (2 * k) = if kindOf d (k : Int) = 1 then 1 else if kindOf d (k : Int) = 2 then 31 else 0 := by
  unfold mostOf
  rw [show (2 * k / 2 : Nat) = k by omega]
  simp
theorem most_odd (d : Dev) (k : Nat) : mostOf d (2 * k + 1) = if kindOf d (k : Int) = 1 then 1 else 0 := by
  unfold mostOf
  rw [show ((2 * k + 1) / 2 : Nat) = k by omega]
  split
  · rfl
  · rw [if_neg (by omega)]
set_option maxHeartbeats 4000000 in
theorem l41State_any (g B : Nat) (A : Option Addr) (n c : Nat) (bs : List Int) (d : Dev) (w : World) (h : Cur w g B A n c bs) (hn : n ≤ 1099511627776) (hd : devOk d = true) :
    Calls Try.prog 64 #[.pointer (some ⟨g, 0, none⟩), .agg #[.int .i64 d.W, .int .i64 d.H, .int .i64 d.T, .int .i64 d.R]] w fun e w' => ∃ (st : List Int) (A' : Option Addr) (c' : Nat), e = .returned (.slice A' (2 * tiles d) c') ∧ st.length = 2 * tiles d ∧ InSt d st ∧ Own w.heap.size w' A' (2 * tiles d) c' st ∧ Cur w' g B A n c bs ∧ w.grownBy w' (some g) := by
  have hgw : g < w.heap.size := h.lt
  have HC := Lib.hid h
  have hb := devOk_bd hd
  have HCW := Lib.hid (fun w => sclamp_in d.W w (by omega))
  have HCH := Lib.hid (fun w => sclamp_in d.H w (by omega))
  have HD := Lib.hid hd
  obtain ⟨hN, hN1, hN2⟩ := tiles_eq hd
  have HTK := Lib.hid (fun (k : Nat) (hk : k < tiles d) => tileKind_in hd (show (0 : Int) ≤ (k : Int) by omega) (show (k : Int) < d.W * d.H by omega))
  generalize tiles d = M at *
  have a3 : IntKind.i64.wrap (M : Int) = (M : Int) := IntWalk.i64_in _ (by omega)
  have B0 := Lib.hid (below_new (Below.refl w.heap.size w) (.cells #[.int .i64 d.W, .int .i64 d.H, .int .i64 d.T, .int .i64 d.R] 29))
  have X0 := Lib.hid (heap_al (.cells #[] 3) (heap_new w (.cells #[.int .i64 d.W, .int .i64 d.H, .int .i64 d.T, .int .i64 d.R] 29)))
  have B1 := Lib.hid (below_new B0.out (.cells #[] 3))
  have N1 := Lib.hid (Own.newAt (w := (w.alloc (.cells #[.int .i64 d.W, .int .i64 d.H, .int .i64 d.T, .int .i64 d.R] 29))) (base := w.heap.size + 1) (g := w.heap.size + 1) (by simp) (by simp))
  clear h hd hb
  go_enter Try.func64, Try.ntmps64
  go_wp2_with fail
  go_loopw [5, 6] (fun v i wr => ∃ (k : Nat) (st : List Int) (A' : Option Addr) (c' : Nat), k ≤ M ∧ i = .int .i64 k ∧ v = .slice A' (2 * k) c' ∧ st.length = 2 * k ∧ InSt d st ∧ Own (w.heap.size + 1) wr A' (2 * k) c' st ∧ Cur wr g B A n c bs ∧ w.grownBy wr (some g) ∧ wr.heap[w.heap.size]? = some (.cells #[.int .i64 d.W, .int .i64 d.H, .int .i64 d.T, .int .i64 d.R] 29 (0, 0)) ∧ w.heap.size + 1 < wr.heap.size) (fun _ i _ => M - (intOf i).toNat)
  case atStart => exact ⟨0, [], _, 0, Nat.zero_le _, rfl, rfl, rfl, inSt_nil d, N1.out, HC.out.below B1.out, grownBy_of_below B1.out _, X0.out, by simp⟩
  case round =>
    obtain ⟨k, st, A', c', hk, rfl, rfl, hpl, hpu, ho, hcu, hgw', hx, hsz⟩ := hrel
    have HO := Lib.hid ho
    have KC := Lib.hid hcu
    have HG := Lib.hid hgw'
    have HX := Lib.hid hx
    have HPL := Lib.hid hpl
    have HPU := Lib.hid hpu
    clear ho hcu hgw' hx hpl hpu
    obtain ⟨z0, z1, z2, z3⟩ := cell4 HX.out
    by_cases hlt : k < M
    · have hdk : decide ((k : Int) < (M : Int)) = true := by simp; omega
      have H2 : wr.cell? ⟨w.heap.size, 0, none⟩ = some (.int .i64 d.W) ∧ wr.cell? ⟨w.heap.size, 1, none⟩ = some (.int .i64 d.H) := ⟨z0, z1⟩
      have hD := (Below.refl wr.heap.size wr).drew
      clear z0 z1 z2 z3
      go_wp2_with fail
      go_region_held3 (fun w' => w'.cell? ⟨w.heap.size, 0, none⟩ = some (.int .i64 d.W) ∧ w'.cell? ⟨w.heap.size, 1, none⟩ = some (.int .i64 d.H))
        (first | exact H2)
        (first
          | (go_at_call 105; (first | (with_reducible refine (HCW.out _).mono ?_) | (with_reducible refine (HCH.out _).mono ?_)); rintro e w' ⟨rfl, rfl⟩))
      replace KC := Lib.hid (KC.out.below hD)
      replace HO := Lib.hid (HO.out.below hD)
      replace HG := Lib.hid (grown_then HG.out hD HG.out.size)
      replace HX := Lib.hid (heap_dr HX.out)
      have hszd : w.heap.size + 1 < wr.drew.heap.size := hsz
      clear hD H2 hsz
      obtain ⟨z0, z1, z2, z3⟩ := cell4 HX.out
      go_wp2_with fail
      generalize wr.drew = wd at *
      refine (stileKind_any d (k : Int) _ (by omega)).mono ?_
      rintro e wt ⟨rfl, bt⟩
      rw [HTK.out k hlt]
      replace HO := Lib.hid (HO.out.below bt)
      replace HG := Lib.hid (grown_then HG.out bt HG.out.size)
      replace HX := Lib.hid (heap_tr bt HX.out)
      replace KC := Lib.hid (KC.out.below bt)
      have hst := bt.size
      have HME := Lib.hid (most_even d k)
      have HMO := Lib.hid (most_odd d k)
      clear bt z0 z1 z2 z3
      have hkb := kindOf_bd d (k : Int)
      generalize kindOf d (k : Int) = kd at *
      rcases hkb with hkd | hkd | hkd
      · subst hkd
        go_wp2_with (at_builtin; refine wpList_pushN rfl _ _ rfl (w.heap.size + 1) A' (2 * k) c' st [0, 0] 2 rfl HO.out rfl rfl (by omega) (by omega) (by omega) (Below.refl (w.heap.size + 1) _) ?_; rintro g4 cap w4 o4 b4 gr4 hat4)
        go_roundw
        case rel => exact ⟨k + 1, st ++ [0, 0], _, _, by omega, by go_num, by rw [show 2 * (k + 1) = 2 * k + 2 by omega], by rw [List.length_append, HPL.out]; simp; omega, inSt_two HPU.out HPL.out ⟨Int.le_refl _, mostOf_pos _ _⟩ ⟨Int.le_refl _, mostOf_pos _ _⟩, by rw [show 2 * (k + 1) = 2 * k + 2 by omega]; exact o4, KC.out.keepB b4 (by omega), grown_then HG.out b4 (by omega), (b4.block _ (by omega)).trans HX.out, by have := b4.size; omega⟩
        case measure => simp [intOf]; omega
      · subst hkd
        go_wp2_with fail
        refine (l01Below_any g B A n c bs 2 _ KC.out hn (by omega) (by omega)).mono ?_
        rintro e w5 ⟨x, rfl, hx, hx', k5, g5⟩
        replace HO := Lib.hid (HO.out.grownC g5 (by omega))
        replace HG := Lib.hid (grownBy_trans HG.out g5)
        replace HX := Lib.hid ((grown_far g5 (heap_lt0 HX.out) (by omega)).trans HX.out)
        replace KC := Lib.hid k5
        have hs_x := g5.size
        clear k5 g5
        go_wp2_with fail
        refine (l01Below_any g B A n c bs 2 _ KC.out hn (by omega) (by omega)).mono ?_
        rintro e w6 ⟨y, rfl, hy, hy', k5, g5⟩
        replace HO := Lib.hid (HO.out.grownC g5 (by omega))
        replace HG := Lib.hid (grownBy_trans HG.out g5)
        replace HX := Lib.hid ((grown_far g5 (heap_lt0 HX.out) (by omega)).trans HX.out)
        replace KC := Lib.hid k5
        have hs_y := g5.size
        clear k5 g5
        go_wp2_with (at_builtin; refine wpList_pushN rfl _ _ rfl (w.heap.size + 1) A' (2 * k) c' st [x, y] 2 rfl HO.out rfl rfl (by omega) (by omega) (by omega) (Below.refl (w.heap.size + 1) _) ?_; rintro g4 cap w4 o4 b4 gr4 hat4)
        go_roundw
        case rel => exact ⟨k + 1, st ++ [x, y], _, _, by omega, by go_num, by rw [show 2 * (k + 1) = 2 * k + 2 by omega], by rw [List.length_append, HPL.out]; simp; omega, inSt_two HPU.out HPL.out ⟨hx, by rw [HME.out]; simp; omega⟩ ⟨hy, by rw [HMO.out]; simp; omega⟩, by rw [show 2 * (k + 1) = 2 * k + 2 by omega]; exact o4, KC.out.keepB b4 (by omega), grown_then HG.out b4 (by omega), (b4.block _ (by omega)).trans HX.out, by have := b4.size; omega⟩
        case measure => simp [intOf]; omega
      · subst hkd
        go_wp2_with fail
        refine (l01Below_any g B A n c bs 32 _ KC.out hn (by omega) (by omega)).mono ?_
        rintro e w5 ⟨x, rfl, hx, hx', k5, g5⟩
        replace HO := Lib.hid (HO.out.grownC g5 (by omega))
        replace HG := Lib.hid (grownBy_trans HG.out g5)
        replace HX := Lib.hid ((grown_far g5 (heap_lt0 HX.out) (by omega)).trans HX.out)
        replace KC := Lib.hid k5
        have hs_x := g5.size
        clear k5 g5
        go_wp2_with (at_builtin; refine wpList_pushN rfl _ _ rfl (w.heap.size + 1) A' (2 * k) c' st [x, 0] 2 rfl HO.out rfl rfl (by omega) (by omega) (by omega) (Below.refl (w.heap.size + 1) _) ?_; rintro g4 cap w4 o4 b4 gr4 hat4)
        go_roundw
        case rel => exact ⟨k + 1, st ++ [x, 0], _, _, by omega, by go_num, by rw [show 2 * (k + 1) = 2 * k + 2 by omega], by rw [List.length_append, HPL.out]; simp; omega, inSt_two HPU.out HPL.out ⟨hx, by rw [HME.out]; simp; omega⟩ ⟨Int.le_refl _, mostOf_pos _ _⟩, by rw [show 2 * (k + 1) = 2 * k + 2 by omega]; exact o4, KC.out.keepB b4 (by omega), grown_then HG.out b4 (by omega), (b4.block _ (by omega)).trans HX.out, by have := b4.size; omega⟩
        case measure => simp [intOf]; omega
    · have hkm : k = M := by omega
      subst hkm
      have hdk : decide ((k : Int) < (k : Int)) = false := by simp
      clear hlt hk
      have H2 : wr.cell? ⟨w.heap.size, 0, none⟩ = some (.int .i64 d.W) ∧ wr.cell? ⟨w.heap.size, 1, none⟩ = some (.int .i64 d.H) := ⟨z0, z1⟩
      have hD := (Below.refl wr.heap.size wr).drew
      clear z0 z1 z2 z3
      go_wp2_with fail
      go_region_held3 (fun w' => w'.cell? ⟨w.heap.size, 0, none⟩ = some (.int .i64 d.W) ∧ w'.cell? ⟨w.heap.size, 1, none⟩ = some (.int .i64 d.H))
        (first | exact H2)
        (first
          | (go_at_call 105; (first | (with_reducible refine (HCW.out _).mono ?_) | (with_reducible refine (HCH.out _).mono ?_)); rintro e w' ⟨rfl, rfl⟩))
      replace KC := Lib.hid (KC.out.below hD)
      replace HO := Lib.hid (HO.out.below hD)
      replace HG := Lib.hid (grown_then HG.out hD HG.out.size)
      replace HX := Lib.hid (heap_dr HX.out)
      have hszd : w.heap.size + 1 < wr.drew.heap.size := hsz
      clear hD H2 hsz
      go_wp2_with fail
      generalize wr.drew = wd at *
      go_ret
      exact ⟨st, _, _, rfl, HPL.out, HPU.out, HO.out.more (by omega), KC.out, HG.out⟩
set_option maxHeartbeats 4000000 in
theorem drawRunning_any (A : Option Addr) (n c : Nat) (bs : List Int) (w : World) (h : Bytes w w.heap.size A n bs) (hn : n ≤ 1099511627776) :
    Calls Try.prog 28 #[.slice A n c] w fun e w' => ∃ (d : Dev) (ts : List Tile) (st ps : List Int) (A1 : Option Addr) (c1 : Nat) (A2 : Option Addr) (c2 : Nat) (A3 : Option Addr) (c3 : Nat), e = .returned (.tuple #[.agg #[.int .i64 d.W, .int .i64 d.H, .int .i64 d.T, .int .i64 d.R], .slice A1 (tiles d) c1, .slice A2 (2 * tiles d) c2, .slice A3 (tiles d) c3]) ∧ devOk d = true ∧ ts.length = tiles d ∧ (∀ t ∈ ts, tileOk d t = true) ∧ (st.length = 2 * tiles d ∧ InSt d st) ∧ (ps.length = tiles d ∧ Upto 1 ps) ∧ Rows2 w' A1 (tiles d) (buildF d ts) ∧ Ints w' A2 (2 * tiles d) st ∧ Ints w' A3 (tiles d) ps ∧ Below w.heap.size w w' := by
  have HB := Lib.hid h
  have B0 := Lib.hid (below_new (Below.refl w.heap.size w) (.cells #[.int .i64 0, .int .i64 0, .int .i64 0, .int .i64 0] 29))
  have HR := Lib.hid (heap_new w (.cells #[.int .i64 0, .int .i64 0, .int .i64 0, .int .i64 0] 29))
  clear h
  go_enter Try.func28, Try.ntmps28
  go_wp2_with fail
  refine (l01New_any A n c bs _ ((HB.out.below B0.out).more (by simp)) hn).mono ?_
  rintro e w1 ⟨g, rfl, hg, k1, b1⟩
  simp only [World.size_alloc] at hg
  have hs1 := b1.size
  simp only [World.size_alloc] at hs1
  replace HR := Lib.hid (heap_tr b1 HR.out)
  have B1 := Lib.hid (below_tr B0.out b1)
  have K1 := Lib.hid k1
  clear k1 b1
  go_wp2_with fail
  refine (l40Frames_any g _ A n c bs _ K1.out hn).mono ?_
  rintro e w2 ⟨d, ts, A1, c1, rfl, hd, htl, hto, o2, k2, g2⟩
  have hs2 := g2.size
  have hgl := K1.out.lt
  have hb2 : Below w2.heap.size w2 (w2.alloc (.cells #[.int .i64 d.W, .int .i64 d.H, .int .i64 d.T, .int .i64 d.R] 29)) := below_new (Below.refl _ _) _
  replace HR := Lib.hid (heap_tr hb2 ((grown_far g2 (heap_lt0 HR.out) (by omega)).trans HR.out))
  have HX := Lib.hid (heap_new w2 (.cells #[.int .i64 d.W, .int .i64 d.H, .int .i64 d.T, .int .i64 d.R] 29))
  have B2 := Lib.hid (below_tr (B1.out.grown g2 (by omega) (by rintro z ⟨⟩; omega) : Below w.heap.size w w2) hb2)
  have O2 := Lib.hid (o2.below hb2)
  have HP := Lib.hid (And.intro hd (And.intro htl hto))
  have HD := Lib.hid hd
  have KC := Lib.hid (k2.below hb2)
  have hsX : (w2.alloc (.cells #[.int .i64 d.W, .int .i64 d.H, .int .i64 d.T, .int .i64 d.R] 29)).heap.size = w2.heap.size + 1 := by simp
  clear k2 g2 o2 hd htl hto hb2
  obtain ⟨z0, z1, z2, z3⟩ := cell4 HX.out
  go_wp2_with fail
  generalize hW2 : (w2.alloc (.cells #[.int .i64 d.W, .int .i64 d.H, .int .i64 d.T, .int .i64 d.R] 29)) = wA at *
  generalize hgd : w2.heap.size = gd at *
  clear hW2 hgd z0 z1 z2 z3
  have hgd : g < gd := by omega
  refine (l41State_any g _ A n c bs d _ KC.out hn HD.out).mono ?_
  rintro e w3 ⟨st, A2, c2, rfl, hsl, hst, o3, k3, g3⟩
  have hs3 := g3.size
  replace HR := Lib.hid ((grown_far g3 (heap_lt0 HR.out) (by omega)).trans HR.out)
  replace HX := Lib.hid ((grown_far g3 (heap_lt0 HX.out) (by omega)).trans HX.out)
  replace B2 := Lib.hid (B2.out.grown g3 (by omega) (by rintro z ⟨⟩; omega) : Below w.heap.size w w3)
  replace O2 := Lib.hid (O2.out.grownC g3 (by omega))
  have O3 := Lib.hid o3
  have HS := Lib.hid (And.intro hsl hst)
  replace KC := Lib.hid k3
  clear k3 g3 o3 hsl hst
  obtain ⟨z0, z1, z2, z3⟩ := cell4 HX.out
  obtain ⟨r0, r1, r2, r3⟩ := cell4 HR.out
  have f0 := fun k => frozen_heap HR.out k
  have f00 := f0 0
  have f01 := f0 1
  have f02 := f0 2
  have f03 := f0 3
  have l1 := heap_lt0 HR.out
  have l2 := heap_lt0 HX.out
  clear f0
  go_wp2_with fail
  go_region_with (go_at_call 65; (first | (with_reducible refine (l41PadsOf_any g _ A n c bs d _ KC.out hn HD.out).mono ?_) | (with_reducible refine (l41PadsOf_any g _ A n c bs d _ (KC.out.below (Below.refl _ _).drew) hn HD.out).mono ?_)); rintro e w4 ⟨ps, A3, c3, rfl, hpl, hpu, o4, k4, g4⟩; have G4 := Lib.hid (show w3.grownBy w4 (some g) from ⟨g4.os, g4.tape, g4.output, g4.size, g4.block⟩); have hs4 : w3.heap.size ≤ w4.heap.size := G4.out.size; have HR4 := Lib.hid ((grown_far G4.out (heap_lt0 HR.out) (by omega)).trans HR.out); have HX4 := Lib.hid ((grown_far G4.out (heap_lt0 HX.out) (by omega)).trans HX.out); have O4 := Lib.hid o4; have HPS := Lib.hid (And.intro hpl hpu); obtain ⟨y0, y1, y2, y3⟩ := cell4 HX4.out; obtain ⟨r0, r1, r2, r3⟩ := cell4 HR4.out; have f0 := fun k => frozen_heap HR4.out k; have f00 := f0 0; have f01 := f0 1; have f02 := f0 2; have f03 := f0 3; have l3 := heap_lt0 HR4.out; have l4 := heap_lt0 HX4.out; clear f0 g4 o4 hpl hpu k4)
  all_goals
    go_wp2_with fail
    have hE := set4c (u0 := .int .i64 d.W) (u1 := .int .i64 d.H) (u2 := .int .i64 d.T) (u3 := .int .i64 d.R) HR4.out
    have hC := Chg.set (k := 3) (Chg.set (k := 2) (Chg.set (k := 1) (Chg.set (k := 0) (Chg.refl w.heap.size (w.heap.size + 1) w4) (Nat.le_refl _) (Nat.lt_succ_self _) (.int .i64 d.W)) (Nat.le_refl _) (Nat.lt_succ_self _) (.int .i64 d.H)) (Nat.le_refl _) (Nat.lt_succ_self _) (.int .i64 d.T)) (Nat.le_refl _) (Nat.lt_succ_self _) (.int .i64 d.R)
    have p2 := ((O2.out.grownC G4.out (by omega)).chg hC (.inr (by omega))).rd
    have p3 := ((O3.out.grownC G4.out (by omega)).keepS hC (by omega)).ints
    have hd3 : w3.drew.heap.size = w3.heap.size := rfl
    have p4 := (O4.out.keepS hC (by omega)).ints
    have pb := sets4 (u0 := .int .i64 d.W) (u1 := .int .i64 d.H) (u2 := .int .i64 d.T) (u3 := .int .i64 d.R) (B2.out.grown G4.out (by omega) (by rintro z ⟨⟩; omega) : Below w.heap.size w w4) (Nat.le_refl w.heap.size)
    clear hC
    refine bodyPost_ret (v := .tuple #[.agg #[.int .i64 d.W, .int .i64 d.H, .int .i64 d.T, .int .i64 d.R], .slice A1 (tiles d) c1, .slice A2 (2 * tiles d) c2, .slice A3 (tiles d) c3]) (results_cell4 Try.results28 rfl hE Try.underlying29 (by kernel_rfl)) rfl ⟨d, ts, st, ps, A1, c1, A2, c2, A3, c3, rfl, HP.out.1, HP.out.2.1, HP.out.2.2, HS.out, HPS.out, ?_, ?_, ?_, ?_⟩
    · first | exact p2 | exact p2.drewd
    · first | exact p3 | exact p3.drewd
    · first | exact p4 | exact p4.drewd
    · first | exact pb | exact pb.drew
end Go.Proofs.Ytbnfdhidgdfbeaa

namespace Go.Proofs.Ytbnfdhidgdfbeaa
set_option maxRecDepth 100000
open Go.RowKit

theorem run_facts {d : Dev} {ts : List Tile} {st ps : List Int} (hd : devOk d = true) (htl : ts.length = tiles d) (hst : st.length = 2 * tiles d ∧ InSt d st) (hps : ps.length = tiles d ∧ Upto 1 ps) :
    framesOk d (buildF d ts) = true ∧ stOk d st = true ∧ padsOk d ps = true ∧ size2 (buildF d ts) ≤ 1099511627776 := by
  have hf := buildF_ok hd htl
  refine ⟨hf, stOk_mk hd hst.1 hst.2, ?_, Nat.le_trans (rows_le (fun j _ => frame_len hf j) (frames_n hf).2) (by omega)⟩
  unfold padsOk wordsOk
  rw [upto_all hps.2, decide_eq_true (by rw [hps.1, (tiles_eq hd).1])]
  rfl
set_option maxHeartbeats 400000 in
theorem get_in (A : Option Addr) (n c : Nat) (xs : List Int) (k : Nat) (w : World) (h : Ints w A n xs) (hk : k < n) (hn : n ≤ 1099511627776) :
    Calls Try.prog 33 #[.slice A n c, .int .i64 (k : Int)] w fun e w' => e = .returned (.int .i64 (xs[k]?.getD 0)) ∧ w = w' := by
  obtain ⟨b, o, rfl, hb, hc⟩ := h.2 (by omega)
  have hck := hc k hk
  have i0 : (0 : Int) ≤ (k : Int) := by omega
  have i1 : (k : Int) < (n : Int) := by omega
  have d0 : decide ((k : Int) < 0) = false := decide_eq_false (by omega)
  have d1 : decide ((k : Int) ≥ (n : Int)) = false := decide_eq_false (by omega)
  clear hc
  go_enter Try.func33, Try.ntmps33
  go_wp2_with fail
  go_ret
  exact ⟨rfl, rfl⟩
set_option maxHeartbeats 400000 in
theorem btoi_any (b : Bool) (w : World) :
    Calls Try.prog 36 #[.bool b] w fun e w' => e = .returned (.int .i64 (if b = true then 1 else 0)) ∧ w = w' := by
  cases b with
  | false =>
    go_enter Try.func36, Try.ntmps36
    go_wp2_with fail
    go_ret
    exact ⟨rfl, rfl⟩
  | true =>
    go_enter Try.func36, Try.ntmps36
    go_wp2_with fail
    go_ret
    exact ⟨rfl, rfl⟩
theorem nv_nat (vs : List Int) (k : Nat) : nv vs (k : Int) = vs[k]?.getD 0 := rfl
end Go.Proofs.Ytbnfdhidgdfbeaa
