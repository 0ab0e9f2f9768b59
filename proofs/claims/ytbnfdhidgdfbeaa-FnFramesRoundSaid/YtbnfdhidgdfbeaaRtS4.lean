/- Sorting by insertion: the reference's l27Sort. The sources of a routing node: the reference's function. -/
import Derived.Test.YtbnfdhidgdfbeaaEmpty
import Derived.Test.YtbnfdhidgdfbeaaRt5
import Derived.Test.YtbnfdhidgdfbeaaRtS2
namespace Go.Proofs.Ytbnfdhidgdfbeaa
set_option maxRecDepth 100000
open Go.RowKit

/-- The place k of the number that moves down, in a list sorted apart from it up to place i. -/
def SInv (ys : List Int) (i k : Nat) : Prop := ∃ a x b rest, ys = a ++ x :: (b ++ rest) ∧ a.length = k ∧ k + b.length = i ∧ (a ++ b).Pairwise (· ≤ ·) ∧ ∀ y ∈ b, x ≤ y
theorem sinv_start {ys : List Int} {i : Nat} (h : (ys.take i).Pairwise (· ≤ ·)) (hi : i < ys.length) : SInv ys i i := by
  have e : ys = ys.take i ++ ys[i] :: ([] ++ ys.drop (i + 1)) := by simp
  exact ⟨ys.take i, ys[i], [], ys.drop (i + 1), e, by simp; omega, by simp, by simpa using h, by simp⟩
theorem sinv_at {ys : List Int} {i k : Nat} (h : SInv ys i k) : k < ys.length := by
  obtain ⟨a, x, b, rest, rfl, rfl, _⟩ := h
  simp
theorem sinv_done {ys : List Int} {i k : Nat} (h : SInv ys i k) (hk : k = 0 ∨ ys[k - 1]?.getD 0 ≤ ys[k]?.getD 0) : (ys.take (i + 1)).Pairwise (· ≤ ·) := by
  obtain ⟨a, x, b, rest, rfl, rfl, rfl, hp, hb⟩ := h
  have e : (a ++ x :: (b ++ rest)).take (a.length + b.length + 1) = a ++ x :: b := by
    rw [show a ++ x :: (b ++ rest) = (a ++ x :: b) ++ rest by simp, List.take_left' (by simp; omega)]
  rw [e]
  rw [List.pairwise_append] at hp ⊢
  rw [List.pairwise_cons]
  refine ⟨hp.1, ⟨hb, hp.2.1⟩, fun u hu v hv => ?_⟩
  have hux : u ≤ x := by
    rcases hk with h0 | h0
    · have := List.eq_nil_of_length_eq_zero h0; subst this; simp at hu
    · have hl : 0 < a.length := List.length_pos_of_mem hu
      rw [List.getElem?_append_left (by omega), List.getElem?_append_right (Nat.le_refl _), Nat.sub_self, List.getElem?_cons_zero, Option.getD_some, List.getElem?_eq_getElem (by omega), Option.getD_some] at h0
      obtain ⟨j, hj, rfl⟩ := List.getElem_of_mem hu
      rcases Nat.lt_or_ge j (a.length - 1) with hlt | hge
      · have := List.pairwise_iff_getElem.1 hp.1 j (a.length - 1) hj (by omega) hlt
        omega
      · have : j = a.length - 1 := by omega
        subst this
        exact h0
  rcases List.mem_cons.1 hv with rfl | hv
  · exact hux
  · exact hp.2.2 u hu v hv
theorem sinv_swap {ys : List Int} {i k : Nat} (h : SInv ys i k) (h0 : 0 < k) (hlt : ys[k]?.getD 0 < ys[k - 1]?.getD 0) :
    SInv ((ys.set k (ys[k - 1]?.getD 0)).set (k - 1) (ys[k]?.getD 0)) i (k - 1) ∧ ((ys.set k (ys[k - 1]?.getD 0)).set (k - 1) (ys[k]?.getD 0)).Perm ys := by
  obtain ⟨a, x, b, rest, rfl, rfl, rfl, hp, hb⟩ := h
  obtain ⟨a, y, rfl⟩ : ∃ a' y, a = a' ++ [y] := ⟨a.dropLast, a.getLast (by rintro rfl; simp at h0), (List.dropLast_concat_getLast _).symm⟩
  have e1 : (a ++ [y] ++ x :: (b ++ rest))[(a ++ [y]).length]?.getD 0 = x := by
    rw [List.getElem?_append_right (Nat.le_refl _), Nat.sub_self]; rfl
  have e2 : (a ++ [y] ++ x :: (b ++ rest))[(a ++ [y]).length - 1]?.getD 0 = y := by
    rw [List.getElem?_append_left (by simp)]; simp
  rw [e1, e2] at hlt ⊢
  have e3 : ((a ++ [y] ++ x :: (b ++ rest)).set (a ++ [y]).length y).set ((a ++ [y]).length - 1) x = a ++ x :: (y :: b ++ rest) := by
    rw [List.set_append, if_neg (by omega), Nat.sub_self, List.set_cons_zero, List.append_assoc, List.set_append, if_neg (by simp)]
    simp
  rw [e3]
  refine ⟨⟨a, x, y :: b, rest, rfl, by simp, by simp; omega, by simpa using hp, fun z hz => ?_⟩, ?_⟩
  · rcases List.mem_cons.1 hz with rfl | hz
    · omega
    · exact hb z hz
  · rw [List.append_assoc]
    refine List.Perm.append_left a ?_
    simp only [List.cons_append]
    exact List.Perm.swap y x (b ++ rest)

set_option maxHeartbeats 1000000 in
theorem l27Sort_any (A : Option Addr) (n c : Nat) (xs : List Int) (w : World) (h : Ints w A n xs) (hn : n ≤ 1048576) :
    Calls Try.prog 145 #[.slice A n c] w fun e w' => ∃ A' c', e = .returned (.slice A' n c') ∧ (∃ ys, Own w.heap.size w' A' n c' ys ∧ ys.Perm xs ∧ ys.Pairwise (· ≤ ·)) ∧ Below w.heap.size w w' := by
  have HI := Lib.hid h
  have HXL := Lib.hid h.1
  clear h
  go_enter Try.func145, Try.ntmps145
  go_wp2_with (at_builtin; refine wpList_append_ints rfl _ _ rfl w.heap.size _ 0 0 [] rfl (Own.new0 (Nat.le_refl _)) A n c _ rfl (HI.out.below (below_new (Below.refl _ _) _)) (by omega) (by simp) (below_new (Below.refl _ _) _) ?_; rintro A1 c1 w1 o1 b1 -; rw [Nat.zero_add, List.nil_append] at o1)
  by_cases h1 : n ≤ 1
  · have O1 := Lib.hid o1
    have hd : decide ((1 : Int) < (n : Int)) = false := by simp; omega
    clear o1
    go_loopw [4] (fun i wr => i = .int .i64 1 ∧ wr = w1) (fun _ _ => 0)
    case atStart => exact ⟨rfl, rfl⟩
    case round =>
      obtain ⟨rfl, rfl⟩ := hrel
      go_wp2_with fail
      go_ret
      refine ⟨A1, c1, rfl, ⟨xs, O1.out, List.Perm.refl _, ?_⟩, b1⟩
      match xs, HXL.out with
      | [], _ => exact List.Pairwise.nil
      | [x], _ => simp
      | x :: y :: l, hl => simp at hl; omega
  · obtain ⟨g, cur, rfl, hgb, _⟩ := o1.block (by omega)
    have O1 := Lib.hid o1
    have B1 := Lib.hid b1
    have hgl := (o1.lt _ rfl).2
    clear o1 b1
    go_loopw [4] (fun i wr => ∃ (m : Nat) (ys : List Int), 1 ≤ m ∧ m ≤ n ∧ i = .int .i64 m ∧ Own w.heap.size wr (some ⟨g, 0, none⟩) n c1 ys ∧ ys.Perm xs ∧ (ys.take m).Pairwise (· ≤ ·) ∧ Below w.heap.size w wr) (fun i _ => n - (intOf i).toNat)
    case atStart => exact ⟨1, xs, by omega, by omega, rfl, O1.out, List.Perm.refl _, by cases xs <;> simp, B1.out⟩
    case round =>
      obtain ⟨m, ys, hm1, hm, rfl, ho, hp, hs, hb⟩ := hrel
      have HO := Lib.hid ho
      have HP := Lib.hid hp
      have HS := Lib.hid hs
      have HB := Lib.hid hb
      have HYL := Lib.hid ho.len
      clear ho hp hs hb
      by_cases hlt : m < n
      · have hdm : decide ((m : Int) < (n : Int)) = true := by simp; omega
        go_wp2_with fail
        go_loopw [5] (fun i wr => ∃ (k : Nat) (ys : List Int), k ≤ m ∧ i = .int .i64 k ∧ Own w.heap.size wr (some ⟨g, 0, none⟩) n c1 ys ∧ ys.Perm xs ∧ SInv ys m k ∧ Below w.heap.size w wr) (fun i _ => (intOf i).toNat)
        case atStart => exact ⟨m, ys, Nat.le_refl _, rfl, HO.out, HP.out, sinv_start HS.out (by rw [HYL.out]; exact hlt), HB.out⟩
        case round =>
          obtain ⟨k, ys, hk, rfl, ho, hp, hs, hb⟩ := hrel
          have HO := Lib.hid ho
          have HP := Lib.hid hp
          have HS := Lib.hid hs
          have HB := Lib.hid hb
          by_cases hk0 : k = 0
          · have HK0 := Lib.hid hk0
            have hdk : decide ((k : Int) > 0) = false := by simp; omega
            have hdk2 : decide ((0 : Int) < (k : Int)) = false := by simp; omega
            have hdk3 : decide (0 < k) = false := by simp; omega
            clear ho hp hs hb hk0
            go_wp2_with fail
            go_quiet (fail)
            go_wp2_with fail
            go_roundw
            case rel => exact ⟨m + 1, ys, by omega, by omega, by go_num, HO.out, HP.out, sinv_done HS.out (.inl HK0.out), below_drewN HB.out _⟩
            case measure => simp [intOf]; omega
          · have hdk : decide ((k : Int) > 0) = true := by simp; omega
            have hdk2 : decide ((0 : Int) < (k : Int)) = true := by simp; omega
            have hdk3 : decide (0 < k) = true := by simp; omega
            obtain ⟨ca, fa⟩ := ho.cellAt (k := k) (by omega)
            obtain ⟨cb, fb⟩ := ho.cellAt (k := k - 1) (by omega)
            have hgl2 := (ho.lt _ rfl).2
            have HSW := Lib.hid (fun h => sinv_swap hs (by omega) h)
            have HSD := Lib.hid (fun h => sinv_done hs (.inr h))
            have HST := Lib.hid (fun x y => (ho.stored (k := k) (by omega) y).stored (k := k - 1) (by omega) x)
            generalize ys[k]?.getD 0 = x at *
            generalize ys[k - 1]?.getD 0 = y at *
            have e4 : IntKind.i64.wrap ((k : Int) - 1) = (k : Int) - 1 := IntWalk.i64_in _ (by omega)
            have e5 : ((k : Int) - 1).toNat = k - 1 := by omega
            have i0 : (0 : Int) ≤ (k : Int) := by omega
            have i1 : (k : Int) < (n : Int) := by omega
            have i2 : (0 : Int) ≤ (k : Int) - 1 := by omega
            have i3 : (k : Int) - 1 < (n : Int) := by omega
            have hkn : ¬ k = k - 1 := by omega
            clear ho hp hs hb
            by_cases hxy : x < y
            · have hdx : decide (x < y) = true := by simpa using hxy
              go_wp2_with fail
              go_quiet (fail)
              go_wp2_with fail
              go_roundw
              case rel => exact ⟨k - 1, _, by omega, by first | rfl | go_num | (congr 1; omega), (HST.out x y).drewd, (HSW.out hxy).2.trans HP.out, (HSW.out hxy).1, below_drewN ((HB.out.setCell (p := ⟨g, k, none⟩) hgb _).setCell (p := ⟨g, k - 1, none⟩) hgb _) _⟩
              case measure => simp [intOf]; omega
            · have hdx : decide (x < y) = false := by simp; omega
              have hxy' : y ≤ x := by omega
              go_wp2_with fail
              go_quiet (fail)
              go_wp2_with fail
              go_roundw
              case rel => exact ⟨m + 1, ys, by omega, by omega, by go_num, HO.out, HP.out, HSD.out hxy', below_drewN HB.out _⟩
              case measure => simp [intOf]; omega
      · have hmn : m = n := by omega
        have HMN := Lib.hid hmn
        have hdm : decide ((m : Int) < (n : Int)) = false := by simp; omega
        clear hmn
        go_wp2_with fail
        go_ret
        exact ⟨_, c1, rfl, ⟨ys, HO.out, HP.out, by have := HS.out; rwa [HMN.out, List.take_of_length_le (by rw [HYL.out]; exact Nat.le_refl _)] at this⟩, HB.out⟩
end Go.Proofs.Ytbnfdhidgdfbeaa

namespace Go.Proofs.Ytbnfdhidgdfbeaa
set_option maxRecDepth 100000
open Go.RowKit

theorem candK_none {d : Dev} {t pin r k : Int} {s : Nat} (h : ∀ s, useOf d pin r k s = false) : candK d t pin r k s = [] := by
  unfold candK
  rw [List.flatMap_eq_nil_iff]
  intro j _
  unfold candS
  rw [h]
  rfl
theorem candS_true {d : Dev} {t pin r k s : Int} (h : useOf d pin r k s = true) : candS d t pin r k s = oneOf (cand d t r k s) := by unfold candS; rw [if_pos h]
theorem candS_false {d : Dev} {t pin r k s : Int} (h : useOf d pin r k s = false) : candS d t pin r k s = [] := by unfold candS; rw [h]; rfl
theorem useOf_wire {d : Dev} {pin : Int} (h7 : 7 ≤ pin) (r k s : Int) : useOf d pin r k s = (decide (r ≠ ((pin - 7) / d.T + 2) % 4) && ((decide (k = (pin - 7) % d.T) || decide (k = ((pin - 7) % d.T + 1) % d.T)) && decide (s = wlen k))) := by unfold useOf wireUse; rw [if_pos h7]
theorem useOf_pin {d : Dev} {pin : Int} (h7 : pin < 7) (r k s : Int) : useOf d pin r k s = !(decide (d.T > 1) && decide ((k + pin) % 2 = 1)) := by unfold useOf pinUse; rw [if_neg (by omega)]
set_option maxHeartbeats 4000000 in
theorem ssources_pin (d : Dev) (n : Int) (w : World) (hno : nodeOk d n = true) (h5 : n % perT d < 5) :
    Calls Try.prog 139 #[.agg #[.int .i64 d.W, .int .i64 d.H, .int .i64 d.T, .int .i64 d.R], .int .i64 n] w fun e w' => ∃ A m c, e = .returned (.slice A m c) ∧ Own w.heap.size w' A m c (srcs d n) ∧ Below w.heap.size w w' := by
  have HB0 := Lib.hid (below_new (Below.refl w.heap.size w) (.cells #[.int .i64 d.W, .int .i64 d.H, .int .i64 d.T, .int .i64 d.R] 29))
  have hni : nodeIn d n = true := by unfold nodeOk at hno; rw [Bool.and_eq_true] at hno; exact hno.1
  have HTI := Lib.hid (node_tile hni)
  obtain ⟨hd, n0, n1, hq0, hq1, hr0, hr1⟩ := node_tk hni
  have hT := devOk_bd hd
  have hp := perT_bd hd
  have hWH := dev_WH hd
  have HD := Lib.hid hd
  have HSORT := Lib.hid (fun l hp hs => sorted_srcs (l := l) hno (by omega) hp hs)
  have HNO : Hid (∀ w, Calls Try.prog 31 #[.agg #[.int .i64 d.W, .int .i64 d.H, .int .i64 d.T, .int .i64 d.R], .int .i64 n] w fun e w' => e = .returned (.bool true) ∧ Below w.heap.size w w') := fun w => by have h := srouteNodeOk_any d n w; rwa [hno] at h
  have e0 : ¬ perT d = 0 := by omega
  have e1 : n.tmod (perT d) = n % perT d := Int.tmod_eq_emod_of_nonneg n0
  have e2 : IntKind.i64.wrap (n.tdiv (perT d)) = n / perT d := IntWalk.i64_quo _ _ ⟨n0, by omega, by omega⟩
  have HUSE0 := Lib.hid (fun r k s => useOf_pin (d := d) (pin := n % perT d) (by omega) r k s)
  clear hno hni hd
  go_enter Try.func139, Try.ntmps139
  go_wp2_with fail
  refine (HNO.out _).mono ?_
  rintro e w1 ⟨rfl, b1⟩
  have N1 := Lib.hid ((Own.newAt (w := (w.alloc (.cells #[.int .i64 d.W, .int .i64 d.H, .int .i64 d.T, .int .i64 d.R] 29))) (base := (w.alloc (.cells #[.int .i64 d.W, .int .i64 d.H, .int .i64 d.T, .int .i64 d.R] 29)).heap.size) (g := w.heap.size + 1) (by simp) (by simp)).below b1)
  have HB1 := Lib.hid (below_tr (below_new (Below.refl _ _) _) b1 : Below (w.alloc (.cells #[.int .i64 d.W, .int .i64 d.H, .int .i64 d.T, .int .i64 d.R] 29)).heap.size (w.alloc (.cells #[.int .i64 d.W, .int .i64 d.H, .int .i64 d.T, .int .i64 d.R] 29)) w1)
  have hs1 := b1.size
  simp only [World.size_alloc] at hs1
  clear b1
  obtain ⟨hcc, hff⟩ := bcell HB1.out
  go_wp2_with fail
  refine (l27Per_any d _ (by omega) (by omega)).mono ?_
  rintro e w2 ⟨rfl, b2⟩
  have HB2 := Lib.hid (below_tr HB1.out b2)
  have N2 := Lib.hid (N1.out.below b2)
  have hs2 := b2.size
  clear b2 hcc hff
  obtain ⟨hcc, hff⟩ := bcell HB2.out
  go_wp2_with fail
  refine (l27Per_any d _ (by omega) (by omega)).mono ?_
  rintro e w3 ⟨rfl, b3⟩
  have HB3 := Lib.hid (below_tr HB2.out b3)
  have N3 := Lib.hid (N2.out.below b3)
  have hs3 := b3.size
  clear b3 hcc hff
  obtain ⟨hcc, hff⟩ := bcell HB3.out
  generalize n % perT d = pin at *
  generalize n / perT d = t at *
  clear HNO
  have hdp : decide (pin ≥ 7) = false := by simp; omega
  have hdp2 : decide (pin < 7) = true := by simp; omega
  have hp5 : (pin == 5) = false := by simp; omega
  have hp6 : (pin == 6) = false := by simp; omega
  have NS := N3
  have HBS := HB3
  clear hcc hff
  go_wp2_with fail
  go_loopw [5, 10] (fun v i wr => ∃ (r : Nat) (A : Option Addr) (m c : Nat), r ≤ 4 ∧ i = .int .i64 r ∧ v = .slice A m c ∧ m ≤ 2 + 8 * r ∧ Own (w.alloc (.cells #[.int .i64 d.W, .int .i64 d.H, .int .i64 d.T, .int .i64 d.R] 29)).heap.size wr A m c (candA d t pin r) ∧ Below (w.alloc (.cells #[.int .i64 d.W, .int .i64 d.H, .int .i64 d.T, .int .i64 d.R] 29)).heap.size (w.alloc (.cells #[.int .i64 d.W, .int .i64 d.H, .int .i64 d.T, .int .i64 d.R] 29)) wr) (fun _ i _ => 4 - (intOf i).toNat)
  case atStart => exact ⟨0, _, _, _, by omega, rfl, rfl, by omega, by simpa [candA] using NS.out, HBS.out⟩
  case round =>
    obtain ⟨r, A, m, c, hr, rfl, rfl, hn, ho, hb⟩ := hrel
    have HO := Lib.hid ho
    have HB := Lib.hid hb
    have hs := hb.size
    simp only [World.size_alloc] at hs
    obtain ⟨hcc, hff⟩ := bcell hb
    clear ho hb
    by_cases hlt : r < 4
    · have hdr : decide ((r : Int) < 4) = true := by simp; omega
      have HAR := Lib.hid (candA_succ d t pin r)
      clear hcc hff
      go_wp2_with fail
      go_loopw [5, 11] (fun v i wr => ∃ (k : Nat) (A : Option Addr) (m c : Nat), (k : Int) ≤ d.T ∧ i = .int .i64 k ∧ v = .slice A m c ∧ m ≤ 2 + 8 * r + 2 * k ∧ Own (w.alloc (.cells #[.int .i64 d.W, .int .i64 d.H, .int .i64 d.T, .int .i64 d.R] 29)).heap.size wr A m c (candA d t pin r ++ candR d t pin (r : Int) k) ∧ Below (w.alloc (.cells #[.int .i64 d.W, .int .i64 d.H, .int .i64 d.T, .int .i64 d.R] 29)).heap.size (w.alloc (.cells #[.int .i64 d.W, .int .i64 d.H, .int .i64 d.T, .int .i64 d.R] 29)) wr) (fun _ i _ => d.T.toNat - (intOf i).toNat)
      case atStart => exact ⟨0, A, m, c, by omega, rfl, rfl, by omega, by simpa [candR] using HO.out, HB.out⟩
      case round =>
        obtain ⟨k, A, m, c, hk, rfl, rfl, hn, ho, hb⟩ := hrel
        have HO := Lib.hid ho
        have HB := Lib.hid hb
        have hs := hb.size
        simp only [World.size_alloc] at hs
        obtain ⟨hcc, hff⟩ := bcell hb
        have HCR := Lib.hid (candR_succ d t pin (r : Int) k)
        clear ho hb
        by_cases hlk : (k : Int) < d.T
        · have hdk : decide ((k : Int) < d.T) = true := by simpa using hlk
          have hL : wlen (k : Int) = 1 + (k : Int) % 2 := rfl
          have hL2 : 1 ≤ wlen (k : Int) ∧ wlen (k : Int) ≤ 2 := by rw [hL]; omega
          have HL := Lib.hid hL.symm
          have HKS := fun s => Lib.hid (candK_succ d t pin (r : Int) (k : Int) s)
          clear hL
          have HUSE := HUSE0.out (r : Int) (k : Int)
          have HUSE := Lib.hid HUSE
          have hz0 : 0 ≤ ((k : Int) + pin) % 2 ∧ ((k : Int) + pin) % 2 ≤ 1 := by omega
          have e1 : ((k : Int) + pin).tmod 2 = ((k : Int) + pin) % 2 := Int.tmod_eq_emod_of_nonneg (by omega)
          generalize ((k : Int) + pin) % 2 = z at *
          by_cases hskip : d.T > 1 ∧ z = 1
          · have HOFF := Lib.hid (candK_none (d := d) (t := t) (pin := pin) (r := (r : Int)) (k := (k : Int)) (s := (wlen (k : Int)).toNat) (fun s => by rw [HUSE.out, decide_eq_true hskip.1, decide_eq_true hskip.2]; rfl))
            obtain ⟨hs1, rfl⟩ := hskip
            have hdT : decide (d.T > 1) = true := by simpa using hs1
            go_wp2_with fail
            go_roundw
            case rel => exact ⟨k + 1, A, m, c, by omega, by go_num, rfl, by omega, by rw [HCR.out, HOFF.out, List.append_nil]; exact HO.out, HB.out⟩
            case measure => simp [intOf]; omega
          · have hcs : (d.T > 1 ∧ z = 0) ∨ ¬ d.T > 1 := by omega
            have HSO : Hid (∀ s, useOf d pin (r : Int) (k : Int) s = true) := by
              intro s
              rw [HUSE.out]
              simp
              omega
            clear HUSE
            rcases hcs with ⟨hs1, rfl⟩ | hs1
            all_goals
              go_wp2_with fail
              go_loopw [5, 12] (fun v i wr => ∃ (s : Nat) (A : Option Addr) (m c : Nat), (s : Int) ≤ wlen (k : Int) ∧ i = .int .i64 ((s : Int) + 1) ∧ v = .slice A m c ∧ m ≤ 2 + 8 * r + 2 * k + s ∧ Own (w.alloc (.cells #[.int .i64 d.W, .int .i64 d.H, .int .i64 d.T, .int .i64 d.R] 29)).heap.size wr A m c (candA d t pin r ++ candR d t pin (r : Int) k ++ candK d t pin (r : Int) (k : Int) s) ∧ Below (w.alloc (.cells #[.int .i64 d.W, .int .i64 d.H, .int .i64 d.T, .int .i64 d.R] 29)).heap.size (w.alloc (.cells #[.int .i64 d.W, .int .i64 d.H, .int .i64 d.T, .int .i64 d.R] 29)) wr) (fun _ i _ => 4 - (intOf i).toNat)
              case atStart => exact ⟨0, A, m, c, by omega, rfl, rfl, by omega, by simpa [candK] using HO.out, HB.out⟩
              case round =>
                obtain ⟨s, A, m, c, hsw, rfl, rfl, hn, ho, hb⟩ := hrel
                have HO := Lib.hid ho
                have HB := Lib.hid hb
                have hs := hb.size
                simp only [World.size_alloc] at hs
                clear hcc hff
                obtain ⟨hcc, hff⟩ := bcell hb
                clear ho hb
                have hZ : 1 + (k : Int) % 2 = wlen (k : Int) := HL.out
                by_cases hls : (s : Int) + 1 ≤ wlen (k : Int)
                · have hlsW := hls
                  rw [← hZ] at hls
                  have hdl : decide ((s : Int) + 1 ≤ 1 + (k : Int) % 2) = true := by simpa using hls
                  clear hZ
                  have HSN := Lib.hid (candS_true (t := t) (HSO.out ((s : Int) + 1)))
                  generalize hP : stepOf d t (((r : Int) + 2) % 4) ((s : Int) + 1) = P at *
                  have HP := Lib.hid hP
                  have hPr := step_range (d := d) (t := t) (r := ((r : Int) + 2) % 4) (s := (s : Int) + 1) HD.out
                  rw [hP] at hPr
                  clear hP
                  generalize hC : cand d t (r : Int) (k : Int) ((s : Int) + 1) = C at *
                  have HC : Hid (∀ w, Calls Try.prog 144 #[.agg #[.int .i64 d.W, .int .i64 d.H, .int .i64 d.T, .int .i64 d.R], .int .i64 P, .int .i64 (r : Int), .int .i64 (k : Int)] w fun e w' => e = .returned (.int .i64 C) ∧ Below w.heap.size w w') := fun w => by
                    have h := swireNode_any d P (r : Int) (k : Int) w HD.out (by omega) (by omega) (by omega) (by omega) (by omega)
                    rwa [show wireNode d P (r : Int) (k : Int) = C from by rw [← hC, cand, HP.out]] at h
                  have HSC : Hid (∀ w, Calls Try.prog 74 #[.agg #[.int .i64 d.W, .int .i64 d.H, .int .i64 d.T, .int .i64 d.R], .int .i64 t, .int .i64 (((r : Int) + 2) % 4), .int .i64 ((s : Int) + 1)] w fun e w' => e = .returned (.int .i64 P) ∧ Below w.heap.size w w') := fun w => by
                    have h := stileStep_any d t (((r : Int) + 2) % 4) ((s : Int) + 1) w HTI.out (by omega) (by omega) (by omega) (by omega)
                    rwa [HP.out] at h
                  have HCC := Lib.hid hC
                  clear hC
                  have e3 : ((r : Int) + 2).tmod 4 = ((r : Int) + 2) % 4 := Int.tmod_eq_emod_of_nonneg (by omega)
                  have e4 : IntKind.i64.wrap ((r : Int) + 2) = (r : Int) + 2 := IntWalk.i64_in _ (by omega)
                  have hwW : w.heap.size < wr.heap.size := by omega
                  go_wp2_with fail
                  have hsub := sub_ne wr
                  have hsc := sub_cell wr
                  refine wp_region_below wr (by kernel_rfl) (by kernel_rfl) (Below.refl _ _) ?_
                  repeat (go_big_quiet_step ((first
                    | (go_at_call 74; with_reducible exact calls_sub (HSC.out _))
                    | (go_at_call 144; with_reducible exact calls_sub (HC.out _)))))
                  refine wpQuiet_nil ?_
                  rintro _ ⟨⟨w2, hD⟩, rfl⟩
                  clear hsub hsc hcc hff e3 e4
                  have HB2 := Lib.hid (below_tr HB.out hD)
                  have HO2 := Lib.hid (HO.out.below hD)
                  have hs2 := hD.size
                  clear hD
                  by_cases hC0 : C ≥ 0
                  · have HC1 := Lib.hid (oneOf_pos (x := C) (by omega))
                    go_wp2_with (at_builtin; refine wpList_push rfl _ _ rfl (w.alloc (.cells #[.int .i64 d.W, .int .i64 d.H, .int .i64 d.T, .int .i64 d.R] 29)).heap.size A m c _ C rfl HO2.out rfl (by omega) (by simp; omega) HB2.out ?_; rintro g4 c4 w4 o4 b4 - -)
                    go_roundw
                    case rel => exact ⟨s + 1, _, m + 1, c4, by omega, by go_num, rfl, by omega, by rw [(HKS s).out, HSN.out, HC1.out, ← List.append_assoc]; exact o4, b4⟩
                    case measure => simp [intOf]; omega
                  · have HC1 := Lib.hid (oneOf_neg (x := C) (by omega))
                    go_wp2_with fail
                    go_roundw
                    case rel => exact ⟨s + 1, A, m, c, by omega, by go_num, rfl, by omega, by rw [(HKS s).out, HSN.out, HC1.out, List.append_nil]; exact HO2.out, HB2.out⟩
                    case measure => simp [intOf]; omega
                · have hLS : (wlen (k : Int)).toNat = s := by omega
                  have HLS := Lib.hid hLS
                  rw [← hZ] at hls
                  have hdl : decide ((s : Int) + 1 ≤ 1 + (k : Int) % 2) = false := by simp; omega
                  clear hLS hZ
                  go_wp2_with fail
                  go_roundw
                  case rel => exact ⟨k + 1, A, m, c, by omega, by go_num, rfl, by omega, by rw [HCR.out, HLS.out, ← List.append_assoc]; exact HO.out, HB.out⟩
                  case measure => simp [intOf]; omega
        · have hkT : d.T = (k : Int) := by omega
          have HKT := Lib.hid hkT
          have hdk : decide ((k : Int) < d.T) = false := by simp; omega
          clear hkT
          go_wp2_with fail
          go_roundw
          case rel => exact ⟨r + 1, A, m, c, by omega, by go_num, rfl, by omega, by rw [HAR.out, show d.T.toNat = k by have := HKT.out; omega]; exact HO.out, HB.out⟩
          case measure => simp [intOf]; omega
    · have hr4 : r = 4 := by omega
      have HR4 := Lib.hid hr4
      have hdr : decide ((r : Int) < 4) = false := by simp; omega
      have HLEN := Lib.hid HO.out.len
      clear hr4 hcc hff
      go_wp2_with fail
      refine (l27Sort_any A m c _ _ HO.out.ints (by omega)).mono ?_
      rintro e w9 ⟨A9, c9, rfl, ⟨ys, oy, py, sy⟩, b9⟩
      have HY := Lib.hid oy
      have HB9 := Lib.hid (below_tr HB0.out (below_tr HB.out b9))
      have HE := Lib.hid (HSORT.out ys (by rw [HR4.out] at py; unfold itemsOf; rw [if_neg (by omega), List.nil_append]; exact py) sy)
      clear oy py sy b9
      go_wp2_with fail
      go_ret
      exact ⟨A9, m, c9, rfl, by rw [← HE.out]; exact HY.out.more (by omega), HB9.out⟩
end Go.Proofs.Ytbnfdhidgdfbeaa
