/- RunTiles: the outputs at tiles of all cycles: the reference. -/
import Derived.Test.YtclmhnghpnfnkaaRunS
import Derived.Test.YtclmhnghpnfnkaaRunT
namespace Go.Proofs.Ytclmhnghpnfnkaa
set_option maxRecDepth 100000
open Go.RowKit

theorem step_push2k {ops : Array Oper} {o : Oper} {a : Act} {K : Act → World → Prop} {Q : Exit → Act → World → Prop} {E : Prop} {w W : World} (hgd : o.guard = none) (s x : Operand)
    (ho : o.op = .call { callee := .builtin .append, args := #[s, x], argTypes := #[24, 24] })
    (lo hi : Nat) (A : Option Addr) (n c : Nat) (xss : List (List Int)) (base : Nat) (A1 : Option Addr) (m1 c1 : Nat) (xs : List Int) (hs : a.eval s = .slice A n c) (hown : Own2 lo hi w A n c xss) (hrow : Own base w A1 m1 c1 xs) (hx : a.eval x = .slice (some ⟨w.heap.size, 0, none⟩) 1 1)
    (hn : n ≤ 1099511627776) (hhb : hi ≤ base) (hlb : lo ≤ base) (hhw : hi ≤ w.heap.size) (hlw : lo ≤ w.heap.size) (hB : Below lo W w)
    (h : ∀ g cap w', Own2 lo w'.heap.size w' (some ⟨g, 0, none⟩) (n + 1) cap (xss ++ [xs]) → Below lo W w' → (∀ base' A2 n2 c2 ys, Own base' w A2 n2 c2 ys → Own base' w' A2 n2 c2 ys) → (w.alloc (.cells #[.slice A1 m1 c1] 27)).grownBy w' (A.map (·.block)) → (A.map (·.block) = some g ∨ g = w.heap.size + 1) →
      K (a.put o.dst (.slice (some ⟨g, 0, none⟩) (n + 1) cap)) w') :
    if Region.wanted o (yielded ops a.tmps) = true then Oper.wp Try.prog o a (w.alloc (.cells #[.slice A1 m1 c1] 27)) K Q else E := by
  obtain ⟨i0, hi0, hz0, hz1, hz2⟩ := info_parts slc_info
  obtain ⟨vs, h1, h2, h3⟩ := hown
  have hl := ownsRow_lt h1
  refine step_append_lies (w.alloc (.cells #[.slice A1 m1 c1] 27)) hgd s x 24 ho lo 27 i0 (.slice none 0 0) 1 24 Try.underlying24 hi0 hz0 hz1 hz2 rfl (by omega) (.slice A n c) n (vs.map SV.val) hs
    (ownsRow_block h1 fun a ha => Below.heap_alloc _ _ _ (hl a ha).2) ⟨w.heap.size, 0, none⟩ 1 1 [.slice A1 m1 c1] hx rfl
    (fun j u hu => ?_) (fun u hu => ?_) (by omega) (by unfold maxLen; omega) (by omega) (by simp; omega) (w.heap.size + 1) (by simp) ?_
  · rcases j with _ | j
    · simp at hu
      subst hu
      rw [add_lit0']
      unfold World.cell?
      rw [heap_new]
      rfl
    · simp at hu
  · simp at hu; subst hu; rfl
  · intro g cap w' k1 k2 k3 k4
    rw [ownBlock_slice] at k2 k3
    have hkeep : ∀ k e cs f, k < w.heap.size → w.heap[k]? = some (.cells cs e f) → e = 3 → w'.heap[k]? = w.heap[k]? := by
      intro k e cs f hk hh he
      refine (k2.block k (by simp; omega) ?_).trans (Below.heap_alloc _ _ _ hk)
      cases hA : A with
      | none => simp
      | some a' =>
        simp only [Option.map_some, ne_eq, Option.some.injEq]
        rintro rfl
        rcases h1.2 with ⟨hv, _⟩ | ⟨g', cap', cur', hv, _, hh', _⟩
        · injection hv with hv _ _
          rw [hA] at hv
          cases hv
        · injection hv with hv _ _
          rw [hA] at hv
          injection hv with hv
          subst hv
          rw [hh] at hh'
          injection hh' with hh'
          injection hh' with _ hty
          rw [he] at hty
          exact absurd hty (by decide)
    have hin : Inner lo hi w' vs xss := h3.keep fun k e cs f hk _ _ hh he => hkeep k e cs f hk hh he
    have hall : ∀ base' A2 n2 c2 ys, Own base' w A2 n2 c2 ys → Own base' w' A2 n2 c2 ys := fun base' A2 n2 c2 ys hrw => ownsRow_block hrw fun a ha => by
      have hla := hrw.lt a ha
      rcases hrw.2 with ⟨hv, _⟩ | ⟨g', cap', cur', hv, _, hh', _⟩
      · injection hv with hv _ _
        rw [hv] at ha
        cases ha
      · injection hv with hv _ _
        rw [hv] at ha
        injection ha with ha
        subst ha
        exact hkeep g' _ _ _ hla.2 hh' rfl
    have hro := hall _ _ _ _ _ hrow
    have hsz : w.heap.size ≤ w'.heap.size := by have := k2.size; simp at this; omega
    have hsn := hin.snoc hro hhb hlb
    rw [Nat.max_eq_right (by omega)] at hsn
    refine h g cap w' ⟨vs ++ [(A1, m1, c1)], by simpa [SV.val] using k1, by rintro a ⟨⟩; exact k4, hsn⟩ ?_ ?_ k2 k3
    · exact own_grown_lo (base := lo) (hB.alloc hlw _) k2 (fun a ha => (hl a ha).1) (Nat.le_refl _) (by simp; omega)
    · exact hall
theorem step_push2kD {ops : Array Oper} {o : Oper} {a : Act} {K : Act → World → Prop} {Q : Exit → Act → World → Prop} {E : Prop} {w W : World} (hgd : o.guard = none) (s x : Operand)
    (ho : o.op = .call { callee := .builtin .append, args := #[s, x], argTypes := #[24, 24] })
    (lo hi : Nat) (A : Option Addr) (n c : Nat) (xss : List (List Int)) (base : Nat) (A1 : Option Addr) (m1 c1 : Nat) (xs : List Int) (hs : a.eval s = .slice A n c) (hown : Own2 lo hi w A n c xss) (hrow : Own base w A1 m1 c1 xs) (hx : a.eval x = .slice (some ⟨w.heap.size, 0, none⟩) 1 1)
    (hn : n ≤ 1099511627776) (hhb : hi ≤ base) (hlb : lo ≤ base) (hhw : hi ≤ w.heap.size) (hlw : lo ≤ w.heap.size) (hB : Below lo W w)
    (h : ∀ g cap w', Own2 lo w'.heap.size w' (some ⟨g, 0, none⟩) (n + 1) cap (xss ++ [xs]) → Below lo W w' → (∀ base' A2 n2 c2 ys, Own base' w A2 n2 c2 ys → Own base' w' A2 n2 c2 ys) → (w.alloc (.cells #[.slice A1 m1 c1] 27)).grownBy w' (A.map (·.block)) → (A.map (·.block) = some g ∨ g = w.heap.size + 1) →
      K (a.put o.dst (.slice (some ⟨g, 0, none⟩) (n + 1) cap)) w') :
    if Region.wanted o (yielded ops a.tmps) = true then Oper.wp Try.prog o a (w.alloc (.cells #[.slice A1 m1 c1] 27)).drew K Q else E := by
  obtain ⟨i0, hi0, hz0, hz1, hz2⟩ := info_parts slc_info
  obtain ⟨vs, h1, h2, h3⟩ := hown
  have hl := ownsRow_lt h1
  refine step_append_lies (w.alloc (.cells #[.slice A1 m1 c1] 27)).drew hgd s x 24 ho lo 27 i0 (.slice none 0 0) 1 24 Try.underlying24 hi0 hz0 hz1 hz2 rfl (by omega) (.slice A n c) n (vs.map SV.val) hs
    (ownsRow_block (w' := (w.alloc (.cells #[.slice A1 m1 c1] 27)).drew) h1 fun a ha => Below.heap_alloc w _ _ (hl a ha).2) ⟨w.heap.size, 0, none⟩ 1 1 [.slice A1 m1 c1] hx rfl
    (fun j u hu => ?_) (fun u hu => ?_) (by omega) (by unfold maxLen; omega) (by omega) (show lo ≤ (w.alloc (.cells #[.slice A1 m1 c1] 27)).heap.size by simp; omega) (w.heap.size + 1) (show (w.alloc (.cells #[.slice A1 m1 c1] 27)).heap.size = w.heap.size + 1 by simp) ?_
  · rcases j with _ | j
    · simp at hu
      subst hu
      rw [add_lit0']
      show (w.alloc (.cells #[.slice A1 m1 c1] 27)).cell? _ = _
      unfold World.cell?
      rw [heap_new]
      rfl
    · simp at hu
  · simp at hu; subst hu; rfl
  · intro g cap w' k1 k2 k3 k4
    have k2 : (w.alloc (.cells #[.slice A1 m1 c1] 27)).grownBy w' (Value.slice A n c).ownBlock := ⟨k2.os, k2.tape, k2.output, k2.size, k2.block⟩
    rw [ownBlock_slice] at k2 k3
    have hkeep : ∀ k e cs f, k < w.heap.size → w.heap[k]? = some (.cells cs e f) → e = 3 → w'.heap[k]? = w.heap[k]? := by
      intro k e cs f hk hh he
      refine (k2.block k (by simp; omega) ?_).trans (Below.heap_alloc _ _ _ hk)
      cases hA : A with
      | none => simp
      | some a' =>
        simp only [Option.map_some, ne_eq, Option.some.injEq]
        rintro rfl
        rcases h1.2 with ⟨hv, _⟩ | ⟨g', cap', cur', hv, _, hh', _⟩
        · injection hv with hv _ _
          rw [hA] at hv
          cases hv
        · injection hv with hv _ _
          rw [hA] at hv
          injection hv with hv
          subst hv
          rw [hh] at hh'
          injection hh' with hh'
          injection hh' with _ hty
          rw [he] at hty
          exact absurd hty (by decide)
    have hin : Inner lo hi w' vs xss := h3.keep fun k e cs f hk _ _ hh he => hkeep k e cs f hk hh he
    have hall : ∀ base' A2 n2 c2 ys, Own base' w A2 n2 c2 ys → Own base' w' A2 n2 c2 ys := fun base' A2 n2 c2 ys hrw => ownsRow_block hrw fun a ha => by
      have hla := hrw.lt a ha
      rcases hrw.2 with ⟨hv, _⟩ | ⟨g', cap', cur', hv, _, hh', _⟩
      · injection hv with hv _ _
        rw [hv] at ha
        cases ha
      · injection hv with hv _ _
        rw [hv] at ha
        injection ha with ha
        subst ha
        exact hkeep g' _ _ _ hla.2 hh' rfl
    have hro := hall _ _ _ _ _ hrow
    have hsz : w.heap.size ≤ w'.heap.size := by have := k2.size; simp at this; omega
    have hsn := hin.snoc hro hhb hlb
    rw [Nat.max_eq_right (by omega)] at hsn
    refine h g cap w' ⟨vs ++ [(A1, m1, c1)], by simpa [SV.val] using k1, by rintro a ⟨⟩; exact k4, hsn⟩ ?_ ?_ k2 k3
    · exact own_grown_lo (base := lo) (hB.alloc hlw _) k2 (fun a ha => (hl a ha).1) (Nat.le_refl _) (by simp; omega)
    · exact hall
theorem keepB5 {B : Nat} {W W' : World} {g b o : Nat} {v0 v1 v2 v3 v4 : Value} (hb : Below B W W') (hg : g < B) (hbb : b < B)
    (h : W.cell? ⟨g, 0, none⟩ = some v0 ∧ W.cell? ⟨g, 1, none⟩ = some v1 ∧ W.cell? ⟨g, 2, none⟩ = some v2 ∧ W.cell? ⟨g, 3, none⟩ = some v3 ∧ W.cell? ⟨b, o, none⟩ = some v4) :
    W'.cell? ⟨g, 0, none⟩ = some v0 ∧ W'.cell? ⟨g, 1, none⟩ = some v1 ∧ W'.cell? ⟨g, 2, none⟩ = some v2 ∧ W'.cell? ⟨g, 3, none⟩ = some v3 ∧ W'.cell? ⟨b, o, none⟩ = some v4 :=
  ⟨(hb.cell (p := ⟨g, 0, none⟩) hg).trans h.1, (hb.cell (p := ⟨g, 1, none⟩) hg).trans h.2.1, (hb.cell (p := ⟨g, 2, none⟩) hg).trans h.2.2.1, (hb.cell (p := ⟨g, 3, none⟩) hg).trans h.2.2.2.1, (hb.cell (p := ⟨b, o, none⟩) hbb).trans h.2.2.2.2⟩
theorem Own2.kept {lo hi : Nat} {w w' : World} {A : Option Addr} {n c : Nat} {xss : List (List Int)} (h : Own2 lo hi w A n c xss) (hk : ∀ k, lo ≤ k → k < hi → k < w.heap.size → w'.heap[k]? = w.heap[k]?) : Own2 lo hi w' A n c xss := by
  obtain ⟨vs, h1, h2, h3⟩ := h
  exact ⟨vs, ownsRow_block h1 fun a e => hk _ (ownsRow_lt h1 a e).1 (h2 a e) (ownsRow_lt h1 a e).2, h2, h3.keep fun k _ _ _ hk1 hlo hhi _ _ => hk k hlo hhi hk1⟩
theorem size2_le {xss : List (List Int)} {M : Nat} (h : ∀ xs ∈ xss, xs.length ≤ M) : size2 xss ≤ xss.length * (M + 1) := by
  have key : ∀ k, k ≤ xss.length → sizeTo xss k ≤ k * M := by
    intro k hk
    induction k with
    | zero => exact Nat.zero_le _
    | succ k ih =>
      have hl : (xss[k]?.getD []).length ≤ M := by
        rw [List.getElem?_eq_getElem (by omega)]
        exact h _ (List.getElem_mem _)
      rw [sizeTo, Nat.succ_mul]
      have := ih (by omega)
      omega
  have := key xss.length (Nat.le_refl _)
  unfold size2
  rw [Nat.mul_succ]
  omega
set_option maxHeartbeats 4000000 in
theorem srunTiles_any (d : Dev) (A : Option Addr) (m c : Nat) (fs : List (List Int)) (TA : Option Addr) (tn tc : Nat) (ti : List Int) (UA : Option Addr) (un uc : Nat) (us : List Int) (IA : Option Addr) (inn ic : Nat) (ins : List Int) (w : World)
    (hA : Rows2 w A m fs) (hT : Ints w TA tn ti) (hU : Ints w UA un us) (hI : Ints w IA inn ins) (hz : size2 fs ≤ 1099511627776) (ht : tn ≤ 16777216) (hu : un ≤ 16777216) (hi : inn ≤ 16777216) :
    Calls Try.prog 64 #[.agg #[.int .i64 d.W, .int .i64 d.H, .int .i64 d.T, .int .i64 d.R], .slice A m c, .slice TA tn tc, .slice UA un uc, .slice IA inn ic] w fun e w' => ∃ A' n' c', e = .returned (.slice A' n' c') ∧ Own w.heap.size w' A' n' c' (rtF d fs ti us ins) ∧ Below w.heap.size w w' := by
  have HB0 := Lib.hid (below_new (below_new (Below.refl w.heap.size w) (.cells #[.int .i64 d.W, .int .i64 d.H, .int .i64 d.T, .int .i64 d.R] 26)) (.cells #[] 3))
  have HI := Lib.hid hA
  have HTI := Lib.hid hT
  have HU := Lib.hid hU
  have HIN := Lib.hid hI
  have HXT := Lib.hid hT.1
  have HXU := Lib.hid hU.1
  have HXI := Lib.hid hI.1
  clear hA hT hU hI
  go_enter Try.func64, Try.ntmps64
  go_wp2_with fail
  refine (sframesOk_any d A m c fs _ (HI.out.below HB0.out) hz).mono ?_
  rintro e w1 ⟨rfl, b1⟩
  have hs1 := b1.size
  simp only [World.size_alloc] at hs1
  have HW1 := Lib.hid (below_tr HB0.out b1)
  have HE1 : Hid (Below (w.heap.size + 1) (w.alloc (.cells #[.int .i64 d.W, .int .i64 d.H, .int .i64 d.T, .int .i64 d.R] 26)) w1) := by
    have h := below_tr (below_new (Below.refl (w.alloc (.cells #[.int .i64 d.W, .int .i64 d.H, .int .i64 d.T, .int .i64 d.R] 26)).heap.size (w.alloc (.cells #[.int .i64 d.W, .int .i64 d.H, .int .i64 d.T, .int .i64 d.R] 26))) (.cells #[] 3)) b1
    rwa [World.size_alloc] at h
  obtain ⟨q0, q1, q2, q3⟩ := keep4 b1 (by simp; omega) (keep4 (below_new (Below.refl _ _) _) (by simp) (box4 w d))
  have HNIL : Hid (Own (w.heap.size + 1) w1 (some ⟨w.heap.size + 1, 0, none⟩) 0 0 []) := by
    have h := (Own.newAt (w := (w.alloc (.cells #[.int .i64 d.W, .int .i64 d.H, .int .i64 d.T, .int .i64 d.R] 26))) (base := w.heap.size + 1) (g := w.heap.size + 1) (by simp) (Nat.le_refl _)).below b1
    exact h
  have hww : w.heap.size + 1 < w1.heap.size := by omega
  clear b1
  cases hf : framesOk d fs with
  | false =>
    have HF : Hid (rtF d fs ti us ins = []) := rtF_bad (by rintro ⟨h, _⟩; rw [hf] at h; cases h)
    clear hf
    go_wp2_with fail
    go_ret
    exact ⟨_, 0, 0, rfl, by rw [HF.out]; exact HNIL.out.more (by omega), HW1.out⟩
  | true =>
    have HFO := Lib.hid hf
    clear hf
    by_cases hl : inn ≤ 16
    · have hd1 : decide ((inn : Int) > 16) = false := by simp; omega
      by_cases hul : un ≤ 40
      · have hd2 : decide ((un : Int) > 40) = false := by simp; omega
        have hw1 : w.heap.size < w1.heap.size := by omega
        go_wp2_with fail
        refine (spadsFor_any d TA tn tc ti 0 _ (HTI.out.below HW1.out) ht).mono ?_
        rintro e w2 ⟨PA, pn, pc, rfl, o2, b2⟩
        have HW2 := Lib.hid (below_tr HW1.out b2)
        have HE2 := Lib.hid (below_tr2 HE1.out b2)
        have HNI2 := Lib.hid (HNIL.out.below b2)
        have hs2 := b2.size
        obtain ⟨q0, q1, q2, q3⟩ := keep4 b2 hw1 ⟨q0, q1, q2, q3⟩
        have hlen := o2.len
        clear b2 o2
        by_cases hp : padsIn d ti
        · have HPI := Lib.hid hp
          have hne := padsFor_ne hp 0
          have hpn : 0 < pn := by
            rw [← hlen]
            exact List.length_pos_iff.2 hne
          have hd3 : ((pn : Int) == 0) = false := by simp; omega
          have HOK : Hid (rtF d fs ti us ins = (runO d fs (ins.map (padsFor d ti)) inn).map (fun o => bitsAt o us)) := by
            have h := rtF_good (d := d) (fs := fs) (ti := ti) (us := us) (ins := ins) ⟨HFO.out, by rw [HXI.out]; exact hl, HPI.out, by rw [HXU.out]; exact hul⟩
            rw [HXI.out] at h
            exact h
          clear hlen hne hp
          go_wp2_with fail
          have HQ2 := Lib.hid (And.intro q0 (And.intro q1 (And.intro q2 q3)))
          clear q0 q1 q2 q3
          go_loopw [12, 13] (fun v i wr => ∃ (k : Nat) (A' : Option Addr) (c' : Nat), k ≤ inn ∧ i = .int .i64 k ∧ v = .slice A' k c' ∧ Own2 w2.heap.size wr.heap.size wr A' k c' ((ins.take k).map (padsFor d ti)) ∧ Below w2.heap.size w2 wr) (fun _ i _ => inn - (intOf i).toNat)
          case atStart => exact ⟨0, _, 0, Nat.zero_le _, rfl, rfl, by simpa using Own2.new0 rfl, below_new (Below.refl _ _) _⟩
          case round =>
            obtain ⟨k, A', c', hk, rfl, rfl, hoo, hb⟩ := hrel
            have HOO := Lib.hid hoo
            have HB := Lib.hid hb
            have hsr := hb.size
            have HW := Lib.hid (below_tr HW2.out hb)
            have hwr : w.heap.size < wr.heap.size := by omega
            clear hoo hb
            by_cases hlt : k < inn
            · have hdk : decide ((k : Int) < (inn : Int)) = true := by simp; omega
              obtain ⟨bi, oi, rfl, hbi, hci⟩ := HIN.out.2 (by omega)
              have hck := hci k hlt
              have hbi2 : bi < w2.heap.size := by omega
              have hw2 : w.heap.size < w2.heap.size := by omega
              have hck2 := (HW2.out.cell (p := ⟨bi, oi + k, none⟩) hbi).trans hck
              have HSN := Lib.hid (map_take_snoc (f := padsFor d ti) (getD_int (k := k) (xs := ins) (by rw [HXI.out]; exact hlt)))
              have HQ52 := Lib.hid (And.intro HQ2.out.1 (And.intro HQ2.out.2.1 (And.intro HQ2.out.2.2.1 (And.intro HQ2.out.2.2.2 hck2))))
              have i0 : (0 : Int) ≤ (k : Int) := by omega
              have i1 : (k : Int) < (inn : Int) := by omega
              have hD := Below.refl wr.heap.size wr
              clear hci hck hck2
              generalize ins[k]?.getD 0 = x at *
              go_wp2_with fail
              go_region_held3 (fun w' => w'.cell? ⟨w.heap.size, 0, none⟩ = some (.int .i64 d.W) ∧ w'.cell? ⟨w.heap.size, 1, none⟩ = some (.int .i64 d.H) ∧ w'.cell? ⟨w.heap.size, 2, none⟩ = some (.int .i64 d.T) ∧ w'.cell? ⟨w.heap.size, 3, none⟩ = some (.int .i64 d.R) ∧ w'.cell? ⟨bi, oi + k, none⟩ = some (.int .i64 x))
                (first | with_reducible exact keepB5 (below_tr HB.out hD) hw2 hbi2 HQ52.out | with_reducible exact keepB5 (below_tr HB.out hD.drew) hw2 hbi2 HQ52.out | with_reducible exact keepB5 (below_new (below_tr HB.out hD) _) hw2 hbi2 HQ52.out | with_reducible exact keepB5 (below_new (below_tr HB.out hD) _).drew hw2 hbi2 HQ52.out | with_reducible exact keepB5 (below_new (below_tr HB.out hD.drew) _) hw2 hbi2 HQ52.out | with_reducible exact keepB5 b6 hw2 hbi2 HQ52.out)
                (first
                  | (go_at_call 119; (with_reducible refine (spadsFor_any d TA tn tc ti x _ (HTI.out.below (below_tr HW.out (by first | with_reducible exact hD | with_reducible exact hD.drew))) ht).mono ?_); rintro e w5 ⟨P5, p5, c5, rfl, o5, b5⟩; have O5 := Lib.hid (own_low (a := wr) (by first | with_reducible exact hD | with_reducible exact hD.drew) o5); have hD2 := below_tr (a := wr) (by first | with_reducible exact hD | with_reducible exact hD.drew) b5; clear b5 o5; replace hD := hD2; have hs5 := hD.size)
                  | (refine step_push2kD rfl _ _ (by rfl) w2.heap.size wr.heap.size A' k c' ((ins.take k).map (padsFor d ti)) wr.heap.size P5 p5 c5 _ (by rfl) (HOO.out.below hD) O5.out (by rfl) (by omega) (Nat.le_refl _) (by omega) (by omega) (by omega) (below_tr HB.out hD) ?_; rintro g6 cap w6 o6 b6 - - -)
                  | (refine step_push2k rfl _ _ (by rfl) w2.heap.size wr.heap.size A' k c' ((ins.take k).map (padsFor d ti)) wr.heap.size P5 p5 c5 _ (by rfl) (HOO.out.below hD) O5.out (by rfl) (by omega) (Nat.le_refl _) (by omega) (by omega) (by omega) (below_tr HB.out hD) ?_; rintro g6 cap w6 o6 b6 - - -))
              go_wp2_with fail
              go_roundw
              case rel => exact ⟨k + 1, _, _, by omega, by go_num, rfl, by rw [HSN.out]; exact o6, b6⟩
              case measure => simp [intOf]; omega
            · have hkn : inn = k := by omega
              subst hkn
              have hdk : decide ((inn : Int) < (inn : Int)) = false := by simp
              have hfull : (ins.take inn).map (padsFor d ti) = ins.map (padsFor d ti) := by rw [List.take_of_length_le (by rw [HXI.out]; exact Nat.le_refl _)]
              have HP3 := HOO.out.rd
              rw [hfull] at HP3
              have HPR := Lib.hid HP3
              have HML : Hid ((ins.map (padsFor d ti)).length = inn) := by show _ = _; rw [List.length_map, HXI.out]
              obtain ⟨q0, q1, q2, q3⟩ := keep4 HB.out (by omega) HQ2.out
              clear HP3 hfull hk hlt
              go_wp2_with fail
              refine (semuRun_any d A m c fs A' inn c' (ins.map (padsFor d ti)) _ (HI.out.below HW.out) HPR.out hz (by have h := size2_le (xss := ins.map (padsFor d ti)) (M := 36) (by intro xs hx; obtain ⟨y, _, rfl⟩ := List.mem_map.1 hx; exact padsFor_le d ti y); rw [HML.out] at h; omega)).mono ?_
              rintro e w6 ⟨R6, n6, c6, rfl, o6, b6⟩
              have hrun : runF d fs (ins.map (padsFor d ti)) = runO d fs (ins.map (padsFor d ti)) inn := by
                have h := runF_good (runOk_iff.2 ⟨HFO.out, by rw [HML.out]; exact hl, fun p hp => by obtain ⟨y, _, rfl⟩ := List.mem_map.1 hp; exact padsFor_ok HPI.out y⟩)
                rw [HML.out] at h
                exact h
              rw [hrun] at o6
              have hn6 : n6 = inn := by rw [← o6.len, runO_length]
              subst hn6
              have O6 := Lib.hid o6
              have HW6 := Lib.hid (below_tr HW.out b6)
              have HE6 := Lib.hid (below_tr2 (below_tr2 HE2.out HB.out) b6)
              have HNI6 := Lib.hid ((HNI2.out.below HB.out).below b6)
              have hs6 := b6.size
              have hwr2 : w.heap.size + 2 ≤ wr.heap.size := by omega
              have HRL := Lib.hid (runO_length d fs (ins.map (padsFor d ti)) n6)
              have HRS := Lib.hid (runO_size (pads := ins.map (padsFor d ti)) HFO.out n6)
              clear o6 b6 hrun q0 q1 q2 q3
              generalize runO d fs (ins.map (padsFor d ti)) n6 = rows at *
              go_wp2_with fail
              go_loopw [11, 15] (fun v i wx => ∃ (k : Nat) (A' : Option Addr) (c' : Nat), k ≤ n6 ∧ i = .int .i64 k ∧ v = .slice A' k c' ∧ Own (w.heap.size + 1) wx A' k c' ((rows.take k).map (fun o => bitsAt o us)) ∧ Below (w.heap.size + 1) (w.alloc (.cells #[.int .i64 d.W, .int .i64 d.H, .int .i64 d.T, .int .i64 d.R] 26)) wx ∧ KeptIn w6 wx (w.heap.size + 2) A') (fun _ i _ => n6 - (intOf i).toNat)
              case atStart => exact ⟨0, _, 0, Nat.zero_le _, rfl, rfl, by simpa using HNI6.out, HE6.out, fun _ _ _ => rfl, Nat.le_refl _, by rintro a h; injection h with h; subst h; exact .inl (Nat.lt_succ_self _)⟩
              case round =>
                obtain ⟨k, A7, c7, hk, rfl, rfl, hoo, hb, hkp⟩ := hrel
                have HO7 := Lib.hid hoo
                have HB7 := Lib.hid hb
                have HKP := Lib.hid hkp
                have hsz := hkp.2.1
                have hbx : Below (w.alloc (.cells #[.int .i64 d.W, .int .i64 d.H, .int .i64 d.T, .int .i64 d.R] 26)).heap.size (w.alloc (.cells #[.int .i64 d.W, .int .i64 d.H, .int .i64 d.T, .int .i64 d.R] 26)) wr := by rw [World.size_alloc]; exact hb
                have HW7 := Lib.hid (below_tr (below_new (Below.refl w.heap.size w) _) hbx)
                have HR7 := Lib.hid (O6.out.kept (w' := wr) (fun k h1 h2 h3 => hkp.1 k (by omega) h3)).rd
                clear hoo hb hkp hbx
                by_cases hlt : k < n6
                · have hdk2 : decide ((k : Int) < (n6 : Int)) = true := by simp; omega
                  obtain ⟨b, o, rfl, hb, hc⟩ := HR7.out.2 (by omega)
                  obtain ⟨A1, m1, c1, hck, hI1⟩ := hc k hlt
                  have J1 := Lib.hid hI1
                  have hm1 : m1 ≤ 1099511627776 := by
                    have h1 := (size2_bd HRL.out (M := 1099511627776) (by have := HRS.out; omega)).2 k
                    have := hI1.1
                    omega
                  have HSN := Lib.hid (map_take_snoc (f := fun o => bitsAt o us) (getD_row (k := k) (xs := rows) (by rw [HRL.out]; exact hlt)))
                  clear hc hI1
                  generalize rows[k]?.getD [] = row at *
                  go_wp2_with fail
                  refine (sbitsAt_any A1 m1 c1 row UA un uc us _ J1.out (HU.out.below HW7.out) hm1 (by omega)).mono ?_
                  rintro e w8 ⟨rfl, b8⟩
                  have B8 := Lib.hid b8
                  have hs8 := b8.size
                  have KP8 := Lib.hid (HKP.out.below b8)
                  clear b8
                  go_wp2_with (at_builtin; refine wpList_push rfl _ _ rfl (w.heap.size + 1) A7 k c7 ((rows.take k).map (fun o => bitsAt o us)) _ rfl (HO7.out.below B8.out) rfl (by omega) (by omega) (below_tr2 HB7.out B8.out) ?_; rintro g9 cap w9 o9 b9 hgr hat)
                  go_roundw
                  case rel => exact ⟨k + 1, _, _, by omega, by go_num, rfl, by rw [HSN.out]; exact o9, b9, KP8.out.pushed hgr hat trivial⟩
                  case measure => simp [intOf]; omega
                · have hkn : n6 = k := by omega
                  subst hkn
                  have hdk2 : decide ((n6 : Int) < (n6 : Int)) = false := by simp
                  have hfull : (rows.take n6).map (fun o => bitsAt o us) = rows.map (fun o => bitsAt o us) := by rw [List.take_of_length_le (by rw [HRL.out]; exact Nat.le_refl _)]
                  have HR9 := HO7.out
                  rw [hfull, ← HOK.out] at HR9
                  go_wp2_with fail
                  go_ret
                  exact ⟨_, _, _, rfl, HR9.more (by omega), HW7.out⟩
        · have HF : Hid (rtF d fs ti us ins = []) := rtF_bad (fun h => hp h.2.2.1)
          have hpn : pn = 0 := by rw [← hlen, padsFor_not hp 0]; rfl
          subst hpn
          clear hlen hp
          go_wp2_with fail
          go_ret
          exact ⟨_, 0, 0, rfl, by rw [HF.out]; exact HNI2.out.more (by omega), HW2.out⟩
      · have hd2 : decide ((un : Int) > 40) = true := by simp; omega
        have HF : Hid (rtF d fs ti us ins = []) := rtF_bad (by rintro ⟨_, _, _, h⟩; rw [HXU.out] at h; omega)
        go_wp2_with fail
        go_ret
        exact ⟨_, 0, 0, rfl, by rw [HF.out]; exact HNIL.out.more (by omega), HW1.out⟩
    · have hd1 : decide ((inn : Int) > 16) = true := by simp; omega
      have HF : Hid (rtF d fs ti us ins = []) := rtF_bad (by rintro ⟨_, h, _⟩; rw [HXI.out] at h; omega)
      go_wp2_with fail
      go_ret
      exact ⟨_, 0, 0, rfl, by rw [HF.out]; exact HNIL.out.more (by omega), HW1.out⟩
end Go.Proofs.Ytclmhnghpnfnkaa
