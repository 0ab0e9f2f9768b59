/- The data of frames and their checksum: the program's and the reference's answers are one. -/
import Derived.Test.YtdnpdfjlmejpkaaCopies
import Derived.Test.YtdnpdfjlmejpkaaCw2
import Derived.Test.YtdnpdfjlmejpkaaCsum
import Derived.Test.YtdnpdfjlmejpkaaTilePure
namespace Go.Proofs.Ytdnpdfjlmejpkaa
set_option maxRecDepth 100000
open Go.RowKit

theorem dataOf_take {f : List Int} {k : Nat} (h : k < f.length) : dataOf (f.take (k + 1)) = dataOf (f.take k) ++ [dataI (f[k]?.getD 0)] := by
  unfold dataOf
  rw [List.take_succ_eq_append_getElem h, List.map_append, List.getElem?_eq_getElem h]
  rfl
theorem dataOf_length (f : List Int) : (dataOf f).length = f.length := by simp [dataOf]
theorem dataI_nat {c : Int} {x : Nat} (h : c = (x : Int)) : dataI c = ((Cw.dataW x : Nat) : Int) := by rw [dataI, h, Int.toNat_natCast]
def InCode (f : List Int) : Prop := ∀ j, j < f.length → 0 ≤ f[j]?.getD 0 ∧ f[j]?.getD 0 ≤ 4194303
theorem wordsOk_in {f : List Int} {count : Int} (h : wordsOk f count 4194303 = true) : InCode f ∧ (f.length : Int) = count := by
  simp only [wordsOk, Bool.and_eq_true, decide_eq_true_eq] at h
  exact ⟨fun j hj => allIn_get h.2 hj, h.1⟩
theorem frames_in {d : Dev} {fs : List (List Int)} (h : framesOk d fs = true) {j : Nat} (hj : j < fs.length) : InCode (fs[j]?.getD []) ∧ ((fs[j]?.getD []).length : Int) = fwI d := wordsOk_in ((framesOk_iff h).2.2 j hj)

set_option maxHeartbeats 1000000 in
theorem l40Data_any (A : Option Addr) (n c : Nat) (f : List Int) (w : World) (h : Ints w A n f) (hin : InCode f) (hn : n ≤ 16777216) :
    Calls Try.prog 65 #[.slice A n c] w fun e w' => ∃ A' c', e = .returned (.slice A' n c') ∧ Own w.heap.size w' A' n c' (dataOf f) ∧ Below w.heap.size w w' := by
  obtain ⟨hx, hA⟩ := h
  have HX := Lib.hid hx
  have HIN := Lib.hid hin
  clear hx hin
  go_enter Try.func65, Try.ntmps65
  go_wp2_with fail
  go_loopw [3, 4] (fun v i wr => ∃ (k : Nat) (A' : Option Addr) (c' : Nat), k ≤ n ∧ i = .int .i64 k ∧ v = .slice A' k c' ∧ Own w.heap.size wr A' k c' (dataOf (f.take k)) ∧ Below w.heap.size w wr) (fun _ i _ => n - (intOf i).toNat)
  case atStart => exact ⟨0, _, 0, Nat.zero_le _, rfl, rfl, by simpa [dataOf] using Own.new0 (Nat.le_refl _), below_new (Below.refl _ _) _⟩
  case round =>
    obtain ⟨k, A', c', hk, rfl, rfl, ho, hbe⟩ := hrel
    have HO := Lib.hid ho
    have HE := Lib.hid hbe
    clear ho
    by_cases hlt : k < n
    · obtain ⟨b, o, rfl, hb, hc⟩ := hA (by omega)
      have hck := hc k hlt
      rw [← hbe.cell (p := ⟨b, o + k, none⟩) hb] at hck
      have hs := hbe.size
      have hx := HIN.out k (by rw [HX.out]; exact hlt)
      have HT := Lib.hid (dataOf_take (f := f) (k := k) (by rw [HX.out]; exact hlt))
      clear hc hbe
      generalize f[k]?.getD 0 = x at *
      obtain ⟨x, rfl⟩ := Int.eq_ofNat_of_zero_le hx.1
      have HD := Lib.hid (dataI_nat (c := (x : Int)) rfl)
      go_wp2_with (first
        | ((with_reducible refine (sdataBits_any x _ (by omega)).mono ?_); rintro e w' ⟨rfl, rfl⟩)
        | (at_builtin; refine wpList_push rfl _ _ rfl w.heap.size A' k c' (dataOf (f.take k)) _ rfl HO.out rfl (by omega) hs HE.out ?_; rintro g4 cap w4 o4 b4 gr4 hat4))
      go_roundw
      case rel => exact ⟨k + 1, _, _, by omega, by go_num, rfl, by rw [HT.out, HD.out]; exact o4, b4⟩
      case measure => simp [intOf]; omega
    · have hkn : k = n := by omega
      subst hkn
      go_wp2_with fail
      go_ret
      exact ⟨_, _, rfl, by have := HO.out; rwa [List.take_of_length_le (by rw [HX.out]; exact Nat.le_refl _)] at this, HE.out⟩

theorem wordsTo_le {d : Dev} {fs : List (List Int)} {ts : List Int} (h : framesOk d fs = true) (k : Nat) : (wordsTo fs ts k).length ≤ 11 * k := by
  induction k with
  | zero => simp [wordsTo]
  | succ k ih =>
    rw [wordsTo, List.length_append, dataOf_length]
    have : (fs[(ts[k]?.getD 0).toNat]?.getD []).length ≤ 11 := by
      rcases Nat.lt_or_ge (ts[k]?.getD 0).toNat fs.length with hj | hj
      · have := (frames_in h hj).2
        have := fwI_bd (framesOk_iff h).1
        omega
      · rw [List.getElem?_eq_none hj]; simp
    omega
def tilesIn (fs : List (List Int)) (ts : List Int) : Bool := (List.range ts.length).all fun j => inR (ts[j]?.getD 0) 0 ((fs.length : Int) - 1)
theorem tilesIn_bad {fs : List (List Int)} {ts : List Int} {k : Nat} (hk : k < ts.length) (h : inR (ts[k]?.getD 0) 0 ((fs.length : Int) - 1) = false) : tilesIn fs ts = false := by
  cases hs : tilesIn fs ts with
  | false => rfl
  | true =>
    simp only [tilesIn, List.all_eq_true, List.mem_range] at hs
    rw [hs k hk] at h
    cases h
theorem tilesIn_good {fs : List (List Int)} {ts : List Int} (h : ∀ j, j < ts.length → inR (ts[j]?.getD 0) 0 ((fs.length : Int) - 1) = true) : tilesIn fs ts = true := by
  simp only [tilesIn, List.all_eq_true, List.mem_range]
  exact h
def fcsum (d : Dev) (fs : List (List Int)) (ts : List Int) : Int := if (framesOk d fs && tilesIn fs ts) = true then csum (wordsTo fs ts ts.length) else -1

set_option maxHeartbeats 2000000 in
theorem frameChecksum_any (d : Dev) (A : Option Addr) (n c : Nat) (fs : List (List Int)) (T : Option Addr) (m c1 : Nat) (ts : List Int) (w : World) (hA : Rows2 w A n fs) (hT : Ints w T m ts) (hz : size2 fs ≤ 1099511627776) (hm : m ≤ 16777216) :
    Calls Try.prog 20 #[.agg #[.int .i64 d.W, .int .i64 d.H, .int .i64 d.T, .int .i64 d.R], .slice A n c, .slice T m c1] w fun e w' => e = .returned (.int .i64 (fcsum d fs ts)) ∧ Below w.heap.size w w' := by
  have hB0 : Below w.heap.size w (w.alloc (.cells #[.int .i64 d.W, .int .i64 d.H, .int .i64 d.T, .int .i64 d.R] 28)) := below_new (Below.refl _ _) _
  have hX := hA.1
  obtain ⟨hn, hrow⟩ := size2_bd hX hz
  have HX := Lib.hid hX
  have HI := Lib.hid hA
  have HJ := Lib.hid hT
  have hY := hT.1
  have HY := Lib.hid hY
  clear hA hX hT hY hrow
  go_enter Try.func20, Try.ntmps20
  go_wp2_with fail
  refine (framesOk_any d A n c fs _ (HI.out.below hB0) hz).mono ?_
  rintro e w1 ⟨rfl, b1⟩
  have hs1 := b1.size
  simp only [World.size_alloc] at hs1
  have B1 := Lib.hid (below_tr hB0 b1)
  clear b1
  cases hf : framesOk d fs with
  | false =>
    have HF := Lib.hid hf
    clear hf
    go_wp2_with fail
    go_ret
    exact ⟨ret_int (by rw [fcsum, HF.out]; simp), B1.out⟩
  | true =>
    have hfb := fwI_bd (framesOk_iff hf).1
    obtain ⟨F, hF⟩ : ∃ F : Nat, fwI d = (F : Int) := ⟨(fwI d).toNat, by omega⟩
    rw [hF] at hfb
    have HFW := Lib.hid hF
    have HF := Lib.hid hf
    clear hf hF
    go_wp2_with fail
    obtain ⟨_, hAr⟩ := HI.out.below B1.out
    obtain ⟨_, hTr⟩ := HJ.out.below B1.out
    go_loopw [7, 18] (fun v i wr => ∃ (k : Nat) (A' : Option Addr) (l c' : Nat), k ≤ m ∧ i = .int .i64 k ∧ v = .slice A' l c' ∧ l ≤ 11 * k ∧ Own w1.heap.size wr A' l c' (wordsTo fs ts k) ∧ Below w1.heap.size w1 wr ∧ ∀ j, j < k → inR (ts[j]?.getD 0) 0 ((n : Int) - 1) = true) (fun _ i _ => m - (intOf i).toNat)
    case atStart => exact ⟨0, none, 0, 0, Nat.zero_le _, rfl, rfl, Nat.zero_le _, Own.nil, Below.refl _ _, by intro j hj; omega⟩
    case round =>
      obtain ⟨k, A', l, c', hk, rfl, rfl, hl, ho, hbe, hall⟩ := hrel
      have HO := Lib.hid ho
      have HE := Lib.hid hbe
      have HALL := Lib.hid hall
      clear ho hall
      by_cases hlt : k < m
      · obtain ⟨b, o, rfl, hb, hc⟩ := hTr (by omega)
        have hck := hc k hlt
        rw [← hbe.cell (p := ⟨b, o + k, none⟩) hb] at hck
        have HBD : Hid (inR (ts[k]?.getD 0) 0 ((n : Int) - 1) = false → tilesIn fs ts = false) := fun h => tilesIn_bad (by rw [HY.out]; exact hlt) (by rw [HX.out]; exact h)
        have HG : Hid (inR (ts[k]?.getD 0) 0 ((n : Int) - 1) = true → ∀ j, j < k + 1 → inR (ts[j]?.getD 0) 0 ((n : Int) - 1) = true) := fun h => all_succ HALL.out h
        have HW := Lib.hid (wordsTo.eq_2 fs ts k)
        clear hc hbe
        generalize ts[k]?.getD 0 = t at *
        cases hin : inR t 0 ((n : Int) - 1) with
        | false =>
          have HB' := Lib.hid (HBD.out hin)
          clear HG HBD
          go_wp2_with (go_at_call 67; refine (inRange_any _ _ _ _).mono ?_; rintro e w' ⟨rfl, rfl⟩)
          go_ret
          exact ⟨ret_int (by rw [fcsum, HF.out, HB'.out]; simp), below_tr B1.out HE.out⟩
        | true =>
          have HG' := Lib.hid (HG.out hin)
          have htb := inR_iff.1 hin
          clear HG HBD
          obtain ⟨b2, o2, rfl, hb2, hc2⟩ := hAr (by omega)
          obtain ⟨A1, m1, c3, hck2, hI1⟩ := hc2 t.toNat (by omega)
          rw [← HE.out.cell (p := ⟨b2, o2 + t.toNat, none⟩) hb2] at hck2
          have hfr := frames_in HF.out (j := t.toNat) (by rw [HX.out]; omega)
          have hm1 : m1 = F := by have := hfr.2; rw [hI1.1, HFW.out] at this; omega
          obtain ⟨hxf, hAf⟩ := hI1
          have HXF := Lib.hid hxf
          have HIN := Lib.hid hfr.1
          subst hm1
          clear hc2 hxf hfr
          generalize fs[t.toNat]?.getD [] = f at *
          go_wp2_with (go_at_call 67; refine (inRange_any _ _ _ _).mono ?_; rintro e w' ⟨rfl, rfl⟩)
          clear hck hck2
          go_loopw [7, 33] (fun v i wr => ∃ (j : Nat) (A' : Option Addr) (l' c' : Nat), j ≤ m1 ∧ i = .int .i64 j ∧ v = .slice A' l' c' ∧ l' = l + j ∧ Own w1.heap.size wr A' l' c' (wordsTo fs ts k ++ dataOf (f.take j)) ∧ Below w1.heap.size w1 wr) (fun _ i _ => m1 - (intOf i).toNat)
          case atStart => exact ⟨0, _, _, _, Nat.zero_le _, rfl, rfl, rfl, by simpa [dataOf] using HO.out, HE.out⟩
          case round =>
            obtain ⟨j, A2, l2, c2, hj, rfl, rfl, hl2, ho2, hbe2⟩ := hrel
            have HL2 := Lib.hid hl2
            have hl2' : l2 ≤ 11 * k + m1 := by omega
            have HO2 := Lib.hid ho2
            have HE2 := Lib.hid hbe2
            have hs2 := hbe2.size
            clear ho2 hl2
            by_cases hlj : j < m1
            · obtain ⟨b3, o3, rfl, hb3, hc3⟩ := hAf (by omega)
              have hck3 := hc3 j hlj
              rw [← hbe2.cell (p := ⟨b3, o3 + j, none⟩) hb3] at hck3
              have hx := HIN.out j (by rw [HXF.out]; exact hlj)
              have HT := Lib.hid (dataOf_take (f := f) (k := j) (by rw [HXF.out]; exact hlj))
              clear hc3 hbe2
              generalize f[j]?.getD 0 = x at *
              obtain ⟨x, rfl⟩ := Int.eq_ofNat_of_zero_le hx.1
              have HD := Lib.hid (dataI_nat (c := (x : Int)) rfl)
              go_wp2_with (first
                | ((with_reducible refine (dataBits_any x _ (by omega)).mono ?_); rintro e w' ⟨rfl, rfl⟩)
                | (at_builtin; refine wpList_push rfl _ _ rfl w1.heap.size A2 l2 c2 (wordsTo fs ts k ++ dataOf (f.take j)) _ rfl HO2.out rfl (by omega) hs2 HE2.out ?_; rintro g4 cap w4 o4 b4 gr4 hat4))
              go_roundw
              case rel => exact ⟨j + 1, _, _, _, by omega, by go_num, rfl, by have := HL2.out; omega, by rw [HT.out, HD.out, ← List.append_assoc]; exact o4, b4⟩
              case measure => simp [intOf]; omega
            · have hjn : j = m1 := by omega
              subst hjn
              go_wp2_with fail
              go_roundw
              case rel => exact ⟨k + 1, _, _, _, by omega, by go_num, rfl, by have := HL2.out; omega, by rw [HW.out]; have := HO2.out; rwa [List.take_of_length_le (by rw [HXF.out]; exact Nat.le_refl _)] at this, HE2.out, HG'.out⟩
              case measure => simp [intOf]; omega
      · have hkm : k = m := by omega
        subst hkm
        go_wp2_with fail
        refine (checksum_any A' l c' _ _ HO.out.ints (by omega)).mono ?_
        rintro e w2 ⟨rfl, b2⟩
        go_wp2_with fail
        go_ret
        exact ⟨ret_int (by rw [fcsum, HF.out, tilesIn_good (by rw [HY.out, HX.out]; exact HALL.out), HY.out]; simp), below_tr (below_tr B1.out HE.out) b2⟩
set_option maxHeartbeats 2000000 in
theorem sframeChecksum_any (d : Dev) (A : Option Addr) (n c : Nat) (fs : List (List Int)) (T : Option Addr) (m c1 : Nat) (ts : List Int) (w : World) (hA : Rows2 w A n fs) (hT : Ints w T m ts) (hz : size2 fs ≤ 1099511627776) (hm : m ≤ 16777216) :
    Calls Try.prog 16 #[.agg #[.int .i64 d.W, .int .i64 d.H, .int .i64 d.T, .int .i64 d.R], .slice A n c, .slice T m c1] w fun e w' => e = .returned (.int .i64 (fcsum d fs ts)) ∧ Below w.heap.size w w' := by
  have hB0 : Below w.heap.size w (w.alloc (.cells #[.int .i64 d.W, .int .i64 d.H, .int .i64 d.T, .int .i64 d.R] 28)) := below_new (Below.refl _ _) _
  have hX := hA.1
  obtain ⟨hn, hrow⟩ := size2_bd hX hz
  have HX := Lib.hid hX
  have HI := Lib.hid hA
  have HJ := Lib.hid hT
  have hY := hT.1
  have HY := Lib.hid hY
  clear hA hX hT hY hrow
  go_enter Try.func16, Try.ntmps16
  go_wp2_with fail
  refine (sframesOk_any d A n c fs _ (HI.out.below hB0) hz).mono ?_
  rintro e w1 ⟨rfl, b1⟩
  have hs1 := b1.size
  simp only [World.size_alloc] at hs1
  have B1 := Lib.hid (below_tr hB0 b1)
  clear b1
  cases hf : framesOk d fs with
  | false =>
    have HF := Lib.hid hf
    clear hf
    go_wp2_with fail
    go_ret
    exact ⟨ret_int (by rw [fcsum, HF.out]; simp), B1.out⟩
  | true =>
    have hfb := fwI_bd (framesOk_iff hf).1
    obtain ⟨F, hF⟩ : ∃ F : Nat, fwI d = (F : Int) := ⟨(fwI d).toNat, by omega⟩
    rw [hF] at hfb
    have HFW := Lib.hid hF
    have HF := Lib.hid hf
    clear hf hF
    go_wp2_with fail
    obtain ⟨_, hAr⟩ := HI.out.below B1.out
    obtain ⟨_, hTr⟩ := HJ.out.below B1.out
    go_loopw [7, 8] (fun v i wr => ∃ (k : Nat) (A' : Option Addr) (l c' : Nat), k ≤ m ∧ i = .int .i64 k ∧ v = .slice A' l c' ∧ l ≤ 11 * k ∧ Own w1.heap.size wr A' l c' (wordsTo fs ts k) ∧ Below w1.heap.size w1 wr ∧ ∀ j, j < k → inR (ts[j]?.getD 0) 0 ((n : Int) - 1) = true) (fun _ i _ => m - (intOf i).toNat)
    case atStart => exact ⟨0, _, 0, 0, Nat.zero_le _, rfl, rfl, Nat.zero_le _, Own.new0 (Nat.le_refl _), below_new (Below.refl _ _) _, by intro j hj; omega⟩
    case round =>
      obtain ⟨k, A', l, c', hk, rfl, rfl, hl, ho, hbe, hall⟩ := hrel
      have HO := Lib.hid ho
      have HE := Lib.hid hbe
      have HALL := Lib.hid hall
      clear ho hall
      by_cases hlt : k < m
      · obtain ⟨b, o, rfl, hb, hc⟩ := hTr (by omega)
        have hck := hc k hlt
        rw [← hbe.cell (p := ⟨b, o + k, none⟩) hb] at hck
        have HBD : Hid (inR (ts[k]?.getD 0) 0 ((n : Int) - 1) = false → tilesIn fs ts = false) := fun h => tilesIn_bad (by rw [HY.out]; exact hlt) (by rw [HX.out]; exact h)
        have HG : Hid (inR (ts[k]?.getD 0) 0 ((n : Int) - 1) = true → ∀ j, j < k + 1 → inR (ts[j]?.getD 0) 0 ((n : Int) - 1) = true) := fun h => all_succ HALL.out h
        have HW := Lib.hid (wordsTo.eq_2 fs ts k)
        clear hc hbe
        generalize ts[k]?.getD 0 = t at *
        cases hin : inR t 0 ((n : Int) - 1) with
        | false =>
          have HB' := Lib.hid (HBD.out hin)
          clear HG HBD
          rcases inR_false.1 hin with h | h
          · have hd : decide (t < 0) = true := by simp; omega
            go_wp2_with fail
            go_ret
            exact ⟨ret_int (by rw [fcsum, HF.out, HB'.out]; simp), below_tr B1.out HE.out⟩
          · by_cases h0 : t < 0
            · have hd : decide (t < 0) = true := by simp; omega
              go_wp2_with fail
              go_ret
              exact ⟨ret_int (by rw [fcsum, HF.out, HB'.out]; simp), below_tr B1.out HE.out⟩
            · have hd : decide (t < 0) = false := by simp; omega
              have hd' : decide (t ≥ (n : Int)) = true := by simp; omega
              go_wp2_with fail
              go_ret
              exact ⟨ret_int (by rw [fcsum, HF.out, HB'.out]; simp), below_tr B1.out HE.out⟩
        | true =>
          have HG' := Lib.hid (HG.out hin)
          have htb := inR_iff.1 hin
          clear HG HBD
          obtain ⟨b2, o2, rfl, hb2, hc2⟩ := hAr (by omega)
          obtain ⟨A1, m1, c3, hck2, hI1⟩ := hc2 t.toNat (by omega)
          rw [← HE.out.cell (p := ⟨b2, o2 + t.toNat, none⟩) hb2] at hck2
          have hfr := frames_in HF.out (j := t.toNat) (by rw [HX.out]; omega)
          have hm1 : m1 = F := by have := hfr.2; rw [hI1.1, HFW.out] at this; omega
          have HJ1 := Lib.hid (hI1.below HE.out)
          have HIN := Lib.hid hfr.1
          subst hm1
          have hd : decide (t < 0) = false := by simp; omega
          have hd' : decide (t ≥ (n : Int)) = false := by simp; omega
          have hs0 := HE.out.size
          clear hc2 hfr hI1
          generalize fs[t.toNat]?.getD [] = f at *
          go_wp2_with fail
          refine (l40Data_any A1 m1 c3 f _ HJ1.out HIN.out (by omega)).mono ?_
          rintro e w2 ⟨A2, c2, rfl, o2', b2'⟩
          have hs2 := b2'.size
          have O2 := Lib.hid o2'
          have E2 := Lib.hid (below_tr HE.out b2')
          have OO := Lib.hid (HO.out.below b2')
          clear o2' b2'
          go_wp2_with (at_builtin; refine wpList_append_ints rfl _ _ rfl w1.heap.size A' l c' _ rfl OO.out A2 m1 c2 _ rfl O2.out.ints (by omega) (by omega) E2.out ?_; rintro A4 c4 w4 o4 b4 gr4)
          go_roundw
          case rel => exact ⟨k + 1, _, _, _, by omega, by go_num, rfl, by omega, by rw [HW.out]; exact o4, b4, HG'.out⟩
          case measure => simp [intOf]; omega
      · have hkm : k = m := by omega
        subst hkm
        go_wp2_with fail
        refine (schecksum_any A' l c' _ _ HO.out.ints (by omega)).mono ?_
        rintro e w2 ⟨rfl, b2⟩
        go_wp2_with fail
        go_ret
        exact ⟨ret_int (by rw [fcsum, HF.out, tilesIn_good (by rw [HY.out, HX.out]; exact HALL.out), HY.out]; simp), below_tr (below_tr B1.out HE.out) b2⟩
end Go.Proofs.Ytdnpdfjlmejpkaa
