/- Look-up tables of the reference's emulator. -/
import Derived.Test.YtclmhnghpnfnkaaDrvS
import Derived.Test.YtclmhnghpnfnkaaVal2
namespace Go.Proofs.Ytclmhnghpnfnkaa
set_option maxRecDepth 100000
open Go.RowKit Cw

set_option maxHeartbeats 4000000 in
theorem slut_any (d : Dev) (ts : List Tile) (TA : Option Addr) (m tc : Nat) (N : Nat) (VA : Option Addr) (vc : Nat) (vs : List Int) (t e : Int) (w : World) (htr : RdC w w.heap.size (celT ts) (.slice TA m tc)) (hv : Ints w VA N vs) (h3 : In3 vs) (hN : (N : Int) = nodesOf d) (hc : CfgOk d ts) (ht : tileIn d t = true) (he : 0 ≤ e ∧ e ≤ 1) :
    Calls Try.prog 139 #[.agg #[.int .i64 d.W, .int .i64 d.H, .int .i64 d.T, .int .i64 d.R], .slice TA m tc, .slice VA N vc, .int .i64 t, .int .i64 e] w fun e' w' => e' = .returned (.int .i64 (lutF d vs t (leAt ts t e))) ∧ Below w.heap.size w w' := by
  obtain ⟨hlf, hl2, htl, hf⟩ := le_fit hc ht he
  obtain ⟨hsl, hsin⟩ := sel_fit hlf
  obtain ⟨hd, t0, t1⟩ := tileIn_iff.1 ht
  have hWH := dev_WH hd
  have hT := devOk_bd hd
  have hp := perT_bd hd
  have hnb := nodesOf_bd hd
  have hmk := hlf.mask
  obtain ⟨b, o, S, m3, p, L, l, q, rfl, hb, ca, cl, -, -, -, rl⟩ := htr.tile htl
  change RdC w w.heap.size (celE (tileAt ts t).les) (.slice L l q) at rl
  have hll := rl.elen
  obtain ⟨bl, ol, S4, m4, p4, rfl, hbl, d0, d1, d2, d3, r4⟩ := rl.le (k := e.toNat) (by omega)
  change w.cell? ⟨bl, ol + e.toNat * 4 + 1, none⟩ = some (.int .i64 (leAt ts t e).mask) at d1
  change w.cell? ⟨bl, ol + e.toNat * 4 + 2, none⟩ = some (.int .i64 (leAt ts t e).flop) at d2
  change w.cell? ⟨bl, ol + e.toNat * 4 + 3, none⟩ = some (.int .i64 (leAt ts t e).init) at d3
  change RdC w w.heap.size (celI (leAt ts t e).sel) (.slice S4 m4 p4) at r4
  have hS := RdC.ints r4
  have htt := htr.tlen
  have hm4 : m4 = 4 := by rw [← hS.1]; exact hsl
  subst hm4
  have hl : l = 2 := by rw [← hll]; exact hl2
  subst hl
  obtain ⟨bs, os, rfl, hbs, hcs⟩ := hS.2 (by omega)
  obtain ⟨bv, ov, rfl, hbv, hcv⟩ := hv.2 (by omega)
  have HLT := Lib.hid (idxTo_lt (d := d) h3 t (leAt ts t e).sel)
  have HIN := Lib.hid (fun s => selV_in (d := d) h3 t s)
  have HLF : Hid (lutF d vs t (leAt ts t e) = if negTo d vs t (leAt ts t e).sel 4 = true then -1 else ((bit (leAt ts t e).mask.toNat (idxTo d vs t (leAt ts t e).sel 4) : Nat) : Int)) := rfl
  have HSI := Lib.hid hsin
  have HCS := Lib.hid hcs
  have HCV := Lib.hid hcv
  have HT := Lib.hid ht
  have HNE := Lib.hid hN
  obtain ⟨tn, rfl⟩ := Int.eq_ofNat_of_zero_le t0
  obtain ⟨en, rfl⟩ := Int.eq_ofNat_of_zero_le he.1
  rw [Int.toNat_natCast] at ca cl htl d0 d1 d2 d3
  have i0 : (0 : Int) ≤ (tn : Int) := t0
  have i1 : (tn : Int) < (m : Int) := by omega
  have j0 : (0 : Int) ≤ (en : Int) := he.1
  have j1 : (en : Int) < 2 := by omega
  clear h3 hc ht hd hf hlf hsin rl r4 hN ca hv hS hsl hll htt hl2 htr hcs hcv
  generalize leAt ts (tn : Int) (en : Int) = le at *
  generalize hmm : le.mask = mk at *
  obtain ⟨mk, rfl⟩ := Int.eq_ofNat_of_zero_le hmk.1
  clear hmm
  go_enter Try.func139, Try.ntmps139
  go_wp2_with fail
  clear cl d0 d1 d2 d3
  go_loopw [12, 13] (fun v i wr => ∃ j : Nat, j ≤ 4 ∧ i = .int .i64 j ∧ v = .int .i64 ((idxTo d vs (tn : Int) le.sel j : Nat) : Int) ∧ negTo d vs (tn : Int) le.sel j = false ∧ Below ((w.alloc (.cells #[.int .i64 d.W, .int .i64 d.H, .int .i64 d.T, .int .i64 d.R] 26)).alloc (.cells #[.slice (some ⟨bs, os, none⟩) 4 p4, .int .i64 (mk : Int), .int .i64 le.flop, .int .i64 le.init] 135)).heap.size ((w.alloc (.cells #[.int .i64 d.W, .int .i64 d.H, .int .i64 d.T, .int .i64 d.R] 26)).alloc (.cells #[.slice (some ⟨bs, os, none⟩) 4 p4, .int .i64 (mk : Int), .int .i64 le.flop, .int .i64 le.init] 135)) wr) (fun _ i _ => 4 - (intOf i).toNat)
  case atStart => exact ⟨0, by omega, rfl, rfl, rfl, Below.refl _ _⟩
  case round =>
    obtain ⟨j, hj, rfl, rfl, hneg, hb⟩ := hrel
    have HNG := Lib.hid hneg
    have HB := Lib.hid hb
    have hs := hb.size
    simp only [World.size_alloc] at hs
    clear hneg
    have hbw : Below w.heap.size w wr := below_tr (below_new (below_new (Below.refl _ _) _) _) hb
    have HBW := Lib.hid hbw
    by_cases hlt : j < 4
    · have hdj : decide ((j : Int) < 4) = true := by simp; omega
      have hck := (hbw.cell (p := ⟨bs, os + j, none⟩) hbs).trans (HCS.out j hlt)
      have hsj := HSI.out j hlt
      have HNS : Hid (negTo d vs (tn : Int) le.sel (j + 1) = (negTo d vs (tn : Int) le.sel j || decide (selV d vs (tn : Int) (le.sel[j]?.getD 0) < 0))) := rfl
      have HIS : Hid (idxTo d vs (tn : Int) le.sel (j + 1) = idxTo d vs (tn : Int) le.sel j + (selV d vs (tn : Int) (le.sel[j]?.getD 0)).toNat * 2 ^ j) := rfl
      have hvj := HIN.out (le.sel[j]?.getD 0)
      have hidx := HLT.out j
      have HSA := Lib.hid (fun h => selV_at (d := d) (vs := vs) (t := (tn : Int)) (s := le.sel[j]?.getD 0) h)
      have HSZ := Lib.hid (fun h => selV_zero (d := d) (vs := vs) (t := (tn : Int)) (s := le.sel[j]?.getD 0) h)
      have HMO := Lib.hid (fun h => negTo_mono (d := d) (vs := vs) (t := (tn : Int)) (sel := le.sel) (j := j + 1) (k := 4) (by omega) h)
      have j0' : (0 : Int) ≤ (j : Int) := by omega
      have j1' : (j : Int) < 4 := by omega
      have hbsr : bs < wr.heap.size := by omega
      have hbvr : bv < wr.heap.size := by omega
      have hwr0 : w.heap.size < wr.heap.size := by omega
      have hwr1 : w.heap.size + 1 < wr.heap.size := by omega
      generalize le.sel[j]?.getD 0 = s at *
      generalize hsv : selV d vs (tn : Int) s = v at *
      generalize idxTo d vs (tn : Int) le.sel j = idx at *
      have HIDX := Lib.hid hidx
      obtain ⟨hcc, hff⟩ := bcell hb
      clear hb hidx hsv
      by_cases hs0 : s > 0
      · have hds : decide (s > 0) = true := by simpa using hs0
        have hM := node_bd HT.out (k := s - 1) (by omega) (by omega)
        have hvs := HSA.out hs0
        have hcx := (hbw.cell (p := ⟨bv, ov + ((tn : Int) * perT d + s - 1).toNat, none⟩) hbv).trans (HCV.out ((tn : Int) * perT d + s - 1).toNat (by have := HNE.out; omega))
        change wr.cell? ⟨bv, ov + ((tn : Int) * perT d + s - 1).toNat, none⟩ = some (.int .i64 (nv vs ((tn : Int) * perT d + s - 1))) at hcx
        rw [← hvs, show ((tn : Int) * perT d + s - 1).toNat = ((tn : Int) * perT d + s).toNat - 1 by omega] at hcx
        have k0 : (0 : Int) ≤ (tn : Int) * perT d + s - 1 := by omega
        have k1 : (tn : Int) * perT d + s - 1 < (N : Int) := by have := HNE.out; omega
        have f1 : wrap64 ((tn : Int) * perT d) = (tn : Int) * perT d := IntWalk.wrap64_in _ (by omega)
        have f2 : wrap64 ((tn : Int) * perT d + s) = (tn : Int) * perT d + s := IntWalk.wrap64_in _ (by omega)
        have f3 : wrap64 ((tn : Int) * perT d + s - 1) = (tn : Int) * perT d + s - 1 := IntWalk.wrap64_in _ (by omega)
        clear hvs hbw
        go_wp2_with fail
        have hsub := sub_ne wr
        have hsc := sub_cell wr
        refine wp_region_below wr (by kernel_rfl) (by kernel_rfl) (Below.refl _ _) ?_
        repeat (go_big_quiet_step ((go_at_call 94; with_reducible exact calls_sub (l27Per_any d _ (by omega) (by omega)))))
        refine wpQuiet_nil ?_
        rintro _ ⟨⟨w5, hD⟩, rfl⟩
        have HB5 := Lib.hid (below_tr HB.out hD)
        clear hsub hsc hcc hff hck hcx hD f1 f2 f3
        by_cases hv0 : v < 0
        · have hdv : decide (v < 0) = true := by simpa using hv0
          have HE : Hid (lutF d vs (tn : Int) le = -1) := by show _ = _; rw [HLF.out, if_pos (HMO.out (by rw [HNS.out, hdv]; simp))]
          go_wp2_with fail
          go_ret
          exact ⟨ret_int HE.out.symm, below_tr (below_new (below_new (Below.refl _ _) _) _) HB5.out⟩
        · have hdv : decide (v < 0) = false := by simp; omega
          obtain ⟨vn, rfl⟩ := Int.eq_ofNat_of_zero_le (show 0 ≤ v by omega)
          have hv1 : vn ≤ 1 := by omega
          go_wp2_with fail
          go_roundw
          case rel => exact ⟨j + 1, by omega, by go_num, by rw [add_bit HIDX.out hv1 (by omega), HIS.out, Int.toNat_natCast], by rw [HNS.out, HNG.out, hdv]; rfl, HB5.out⟩
          case measure => simp [intOf]; omega
      · have hds : decide (s > 0) = false := by simp; omega
        have hvz := HSZ.out hs0
        subst hvz
        have hp2 : 2 ^ j ≤ 2 ^ 4 := Nat.pow_le_pow_right (by omega) (by omega)
        have hi16 : idx < 16 := by have := HIDX.out; omega
        clear hs0 HSA hbw hp2
        go_wp2_with fail
        go_roundw
        case rel => exact ⟨j + 1, by omega, by go_num, by rw [HIS.out]; simp, by rw [HNS.out, HNG.out]; rfl, HB.out⟩
        case measure => simp [intOf]; omega
    · have hj4 : j = 4 := by omega
      have HJ4 := Lib.hid hj4
      have hidx := HLT.out 4
      have HE : Hid (lutF d vs (tn : Int) le = ((bit mk (idxTo d vs (tn : Int) le.sel 4) : Nat) : Int)) := by
        have h := HNG.out
        rw [HJ4.out] at h
        show _ = _
        rw [HLF.out, h]
        rfl
      subst hj4
      generalize idxTo d vs (tn : Int) le.sel 4 = idx at *
      have hdj : decide (((4 : Nat) : Int) < 4) = false := by decide
      have hi16 : idx < 16 := by simpa using hidx
      obtain ⟨hcc, hff⟩ := bcell hb
      clear hbw
      go_wp2_with fail
      go_ret
      exact ⟨ret_int (by rw [HE.out]; first | exact shr_bit mk idx (by omega) | rfl), below_tr (below_new (below_new (Below.refl _ _) _) _) HB.out⟩
end Go.Proofs.Ytclmhnghpnfnkaa
