/- append of several integers to a row of the call's own. The initial state of a device, by the reference. Undetermined: how many nodes have no value: the program. Undetermined: how many nodes have no value: the reference. -/
import Derived.Deep.CutBlock
import Derived.Deep.CutRange
import Derived.Deep.DeepCutAuto
import Derived.Test.YtclmhnghpnfnkaaCopy
import Derived.Test.YtclmhnghpnfnkaaStart
import Derived.Test.YtclmhnghpnfnkaaValS
import Derived.Test.YtclmhnghpnfnkaaValS2
namespace Go.Proofs.Ytclmhnghpnfnkaa
set_option maxRecDepth 100000
open Go.RowKit

theorem pushN_news {w : World} {news : List Int} (j : Nat) (u : Value) (hu : (news.map (Value.int .i64))[j]? = some u) : (w.alloc (.cells (arr news) 3)).cell? ((⟨w.heap.size, 0, none⟩ : Addr).add j) = some u := by
  have e1 : (⟨w.heap.size, 0, none⟩ : Addr).add j = ⟨w.heap.size, j, none⟩ := by rw [Addr.add_lit]; simp
  rw [e1]
  unfold World.cell?
  rw [heap_new]
  simpa [arr] using hu
theorem pushN_one {news : List Int} (u : Value) (hu : u ∈ news.map (Value.int .i64)) : u.oneCell' = true := by
  simp at hu
  obtain ⟨y, _, rfl⟩ := hu
  rfl
theorem pushN_below {base : Nat} {A : Option Addr} {n c : Nat} {xs news : List Int} {w w' W : World} (hown : Own base w A n c xs) (hbase : base ≤ w.heap.size) (hB : Below base W w) (h2 : (w.alloc (.cells (arr news) 3)).grownBy w' (Value.slice A n c).ownBlock) : Below base W w' := by
  rw [ownBlock_slice] at h2
  refine (hB.alloc hbase _).grown h2 (by simp; omega) ?_
  intro k hk
  cases A with
  | none => cases hk
  | some a' =>
    injection hk with hk
    subst hk
    exact (hown.lt a' rfl).1
theorem wpList_pushN {ops : Array Oper} {rest : List Oper} {o : Oper} {a : Act} {Q : Exit → Act → World → Prop} {w W : World} (hgd : o.guard = none) (s x : Operand)
    (ho : o.op = .call { callee := .builtin .append, args := #[s, x], argTypes := #[27, 27] })
    (base : Nat) (A : Option Addr) (n c : Nat) (xs news : List Int) (m : Nat) (hs : a.eval s = .slice A n c) (hown : Own base w A n c xs) (hx : a.eval x = .slice (some ⟨w.heap.size, 0, none⟩) m m) (hm : news.length = m) (hm0 : 0 < m)
    (hn : n + m ≤ 1099511627776) (hbase : base ≤ w.heap.size) (hB : Below base W w)
    (h : ∀ g cap w', Own base w' (some ⟨g, 0, none⟩) (n + m) cap (xs ++ news) → Below base W w' → (w.alloc (.cells (arr news) 3)).grownBy w' (A.map (·.block)) → (A.map (·.block) = some g ∨ g = w.heap.size + 1) →
      wpList Try.prog ops Q rest (a.put o.dst (.slice (some ⟨g, 0, none⟩) (n + m) cap)) w') : wpList Try.prog ops Q (o :: rest) a (w.alloc (.cells (arr news) 3)) := by
  obtain ⟨i0, hi, hz0, hz1, hz2⟩ := info_parts int_info
  have hl := hown.lt
  refine wpList_append_lies (w.alloc (.cells (arr news) 3)) hgd s x 27 ho base 3 i0 (.int .i64 0) 1 8 Try.underlying27 hi hz0 hz1 hz2 rfl (by omega) (.slice A n c) n (xs.map (Value.int .i64)) hs
    (ownsRow_block hown fun a ha => Below.heap_alloc _ _ _ (hl a ha).2) ⟨w.heap.size, 0, none⟩ m m (news.map (Value.int .i64)) hx (by simp [hm])
    pushN_news pushN_one hm0 (by unfold maxLen; omega) (by omega) (by simp; omega) (w.heap.size + 1) (by simp) ?_
  intro g cap w' h1 h2 h3 _
  have h2' := h2
  rw [ownBlock_slice] at h2' h3
  exact h g cap w' (by simpa [Own] using h1) (pushN_below hown hbase hB h2) h2' h3
theorem step_pushN {ops : Array Oper} {o : Oper} {a : Act} {K : Act → World → Prop} {Q : Exit → Act → World → Prop} {E : Prop} {w W : World} (hgd : o.guard = none) (s x : Operand)
    (ho : o.op = .call { callee := .builtin .append, args := #[s, x], argTypes := #[27, 27] })
    (base : Nat) (A : Option Addr) (n c : Nat) (xs news : List Int) (m : Nat) (hs : a.eval s = .slice A n c) (hown : Own base w A n c xs) (hx : a.eval x = .slice (some ⟨w.heap.size, 0, none⟩) m m) (hm : news.length = m) (hm0 : 0 < m)
    (hn : n + m ≤ 1099511627776) (hbase : base ≤ w.heap.size) (hB : Below base W w)
    (h : ∀ g cap w', Own base w' (some ⟨g, 0, none⟩) (n + m) cap (xs ++ news) → Below base W w' → (w.alloc (.cells (arr news) 3)).grownBy w' (A.map (·.block)) → (A.map (·.block) = some g ∨ g = w.heap.size + 1) → K (a.put o.dst (.slice (some ⟨g, 0, none⟩) (n + m) cap)) w') :
    if Region.wanted o (yielded ops a.tmps) = true then Oper.wp Try.prog o a (w.alloc (.cells (arr news) 3)) K Q else E := by
  obtain ⟨i0, hi, hz0, hz1, hz2⟩ := info_parts int_info
  have hl := hown.lt
  refine step_append_lies (w.alloc (.cells (arr news) 3)) hgd s x 27 ho base 3 i0 (.int .i64 0) 1 8 Try.underlying27 hi hz0 hz1 hz2 rfl (by omega) (.slice A n c) n (xs.map (Value.int .i64)) hs
    (ownsRow_block hown fun a ha => Below.heap_alloc _ _ _ (hl a ha).2) ⟨w.heap.size, 0, none⟩ m m (news.map (Value.int .i64)) hx (by simp [hm])
    pushN_news pushN_one hm0 (by unfold maxLen; omega) (by omega) (by simp; omega) (w.heap.size + 1) (by simp) ?_
  intro g cap w' h1 h2 h3 _
  have h2' := h2
  rw [ownBlock_slice] at h2' h3
  exact h g cap w' (by simpa [Own] using h1) (pushN_below hown hbase hB h2) h2' h3
theorem step_pushND {ops : Array Oper} {o : Oper} {a : Act} {K : Act → World → Prop} {Q : Exit → Act → World → Prop} {E : Prop} {w W : World} (hgd : o.guard = none) (s x : Operand)
    (ho : o.op = .call { callee := .builtin .append, args := #[s, x], argTypes := #[27, 27] })
    (base : Nat) (A : Option Addr) (n c : Nat) (xs news : List Int) (m : Nat) (hs : a.eval s = .slice A n c) (hown : Own base w A n c xs) (hx : a.eval x = .slice (some ⟨w.heap.size, 0, none⟩) m m) (hm : news.length = m) (hm0 : 0 < m)
    (hn : n + m ≤ 1099511627776) (hbase : base ≤ w.heap.size) (hB : Below base W w)
    (h : ∀ g cap w', Own base w' (some ⟨g, 0, none⟩) (n + m) cap (xs ++ news) → Below base W w' → (w.alloc (.cells (arr news) 3)).grownBy w' (A.map (·.block)) → (A.map (·.block) = some g ∨ g = w.heap.size + 1) → K (a.put o.dst (.slice (some ⟨g, 0, none⟩) (n + m) cap)) w') :
    if Region.wanted o (yielded ops a.tmps) = true then Oper.wp Try.prog o a (w.alloc (.cells (arr news) 3)).drew K Q else E := by
  obtain ⟨i0, hi, hz0, hz1, hz2⟩ := info_parts int_info
  have hl := hown.lt
  refine step_append_lies (w.alloc (.cells (arr news) 3)).drew hgd s x 27 ho base 3 i0 (.int .i64 0) 1 8 Try.underlying27 hi hz0 hz1 hz2 rfl (by omega) (.slice A n c) n (xs.map (Value.int .i64)) hs
    (ownsRow_block (w' := (w.alloc (.cells (arr news) 3)).drew) hown fun a ha => Below.heap_alloc w _ _ (hl a ha).2) ⟨w.heap.size, 0, none⟩ m m (news.map (Value.int .i64)) hx (by simp [hm])
    pushN_news pushN_one hm0 (by unfold maxLen; omega) (by omega) (show base ≤ (w.alloc (.cells (arr news) 3)).heap.size by simp; omega) (w.heap.size + 1) (show (w.alloc (.cells (arr news) 3)).heap.size = w.heap.size + 1 by simp) ?_
  intro g cap w' h1 h2 h3 _
  have h2 : (w.alloc (.cells (arr news) 3)).grownBy w' (Value.slice A n c).ownBlock := ⟨h2.os, h2.tape, h2.output, h2.size, h2.block⟩
  have h2' := h2
  rw [ownBlock_slice] at h2' h3
  exact h g cap w' (by simpa [Own] using h1) (pushN_below hown hbase hB h2) h2' h3
end Go.Proofs.Ytclmhnghpnfnkaa

namespace Go.Proofs.Ytclmhnghpnfnkaa
set_option maxRecDepth 100000
open Go.RowKit
/-- What lies from lo up to the world w1 is kept; the row A is not among it. -/
def KeptIn (w1 wr : World) (lo : Nat) (A : Option Addr) : Prop := (∀ k, lo ≤ k → k < w1.heap.size → wr.heap[k]? = w1.heap[k]?) ∧ w1.heap.size ≤ wr.heap.size ∧ ∀ a, A = some a → a.block < lo ∨ w1.heap.size ≤ a.block
theorem KeptIn.below {w1 wr w2 : World} {lo : Nat} {A : Option Addr} (h : KeptIn w1 wr lo A) (hb : Below wr.heap.size wr w2) : KeptIn w1 w2 lo A :=
  ⟨fun k h1 h2 => (hb.block k (by have := h.2.1; omega)).trans (h.1 k h1 h2), by have := h.2.1; have := hb.size; omega, h.2.2⟩
theorem KeptIn.pushed {w1 w2 w4 : World} {lo g : Nat} {A : Option Addr} {o : Obj} (h : KeptIn w1 w2 lo A) (hg : (w2.alloc o).grownBy w4 (A.map (·.block))) (hat : A.map (·.block) = some g ∨ g = w2.heap.size + 1) (_hlo : True) : KeptIn w1 w4 lo (some ⟨g, 0, none⟩) := by
  have hs := hg.size
  simp only [World.size_alloc] at hs
  have h2 := h.2.1
  refine ⟨fun k h1 h3 => ?_, by omega, ?_⟩
  · refine ((hg.block k (by simp; omega) ?_).trans (Below.heap_alloc _ _ _ (by omega))).trans (h.1 k h1 h3)
    cases hA : A with
    | none => simp
    | some a =>
      simp only [Option.map_some, ne_eq, Option.some.injEq]
      rintro rfl
      have := h.2.2 a hA
      omega
  · rintro a ⟨⟩
    rcases hat with hat | hat
    · cases hA : A with
      | none => rw [hA] at hat; cases hat
      | some a =>
        rw [hA] at hat
        simp at hat
        have := h.2.2 a hA
        simp only
        omega
    · right
      simp only
      omega

set_option maxHeartbeats 2000000 in
theorem semuStart_any (d : Dev) (A : Option Addr) (n c : Nat) (fs : List (List Int)) (w : World) (hA : Rows2 w A n fs) (hz : size2 fs ≤ 1099511627776) :
    Calls Try.prog 69 #[.agg #[.int .i64 d.W, .int .i64 d.H, .int .i64 d.T, .int .i64 d.R], .slice A n c] w fun e w' => ∃ A' n' c', e = .returned (.slice A' n' c') ∧ Own w.heap.size w' A' n' c' (startF d fs) ∧ Below w.heap.size w w' := by
  have hB0 : Below w.heap.size w (w.alloc (.cells #[.int .i64 d.W, .int .i64 d.H, .int .i64 d.T, .int .i64 d.R] 26)) := below_new (Below.refl _ _) _
  have HI := Lib.hid hA
  have HX := Lib.hid hA.1
  clear hA
  go_enter Try.func69, Try.ntmps69
  go_wp2_with fail
  refine (sreadFrames_any d A n c fs _ (HI.out.below (below_new hB0 _)) hz).mono ?_
  rintro e w1 ⟨A1, n1, c1, rfl, o1, b1⟩
  have hs1 := b1.size
  simp only [World.size_alloc] at hs1 o1
  have B1 := Lib.hid (below_tr (below_new (Below.refl (w.alloc (.cells #[.int .i64 d.W, .int .i64 d.H, .int .i64 d.T, .int .i64 d.R] 26)).heap.size (w.alloc (.cells #[.int .i64 d.W, .int .i64 d.H, .int .i64 d.T, .int .i64 d.R] 26))) _) b1)
  have O0 := Lib.hid ((Own.newAt (w := (w.alloc (.cells #[.int .i64 d.W, .int .i64 d.H, .int .i64 d.T, .int .i64 d.R] 26))) (base := (w.alloc (.cells #[.int .i64 d.W, .int .i64 d.H, .int .i64 d.T, .int .i64 d.R] 26)).heap.size) (g := w.heap.size + 1) (by simp) (by simp)).below b1)
  have HT := Lib.hid o1
  have HTL := Lib.hid (o1.rd).tlen
  clear b1 o1
  cases hf : framesOk d fs with
  | false =>
    have HR : Hid (readF d fs = []) := by unfold Hid; rw [readF, hf]; rfl
    have HSB := Lib.hid (startF_bad hf)
    obtain rfl : 0 = n1 := by have := HTL.out; rw [HR.out] at this; exact this
    clear hf
    go_wp2_with fail
    refine wp_loop_rounds 1 ?_; rw [rounds_succ]
    go_wp2_with fail
    go_ret
    exact ⟨_, 0, 0, rfl, by rw [HSB.out]; exact O0.out.more (by simp), below_tr hB0 B1.out⟩
  | true =>
    have hn36 := (frames_n hf).2
    have HR : Hid (readF d fs = tilesOf d fs) := by unfold Hid; rw [readF, hf, if_pos rfl]
    have hn1 : n1 = fs.length := by have := HTL.out; rw [HR.out, tilesOf_length] at this; exact this.symm
    have hntl := (frames_n hf).1
    obtain ⟨hN, hN1, hN2⟩ := tiles_eq (framesOk_iff hf).1
    have hkk : ∀ k : Nat, k < n1 → tileKind d (k : Int) = kindOf d (k : Int) := fun k hk => tileKind_in (framesOk_iff hf).1 (by omega) (by rw [hN]; omega)
    have HKK := Lib.hid hkk
    have HSG := Lib.hid (startF_good hf)
    have HN1 := Lib.hid hn1
    rw [← hn1] at hn36
    have HL := Lib.hid (les2_tilesOf d fs)
    rw [HR.out] at HT HTL
    clear hf hn1 hntl hN hkk
    generalize tilesOf d fs = ts at *
    go_wp2_with fail
    have hsl : (∀ k, w.heap.size + 1 + 1 ≤ k → k < w1.heap.size → w1.heap[k]? = w1.heap[k]?) := fun _ _ _ => rfl
    go_loopw [5, 7] (fun v i wr => ∃ (k : Nat) (A' : Option Addr) (c' : Nat), k ≤ n1 ∧ i = .int .i64 k ∧ v = .slice A' (2 * k) c' ∧ Own (w.alloc (.cells #[.int .i64 d.W, .int .i64 d.H, .int .i64 d.T, .int .i64 d.R] 26)).heap.size wr A' (2 * k) c' (startTo d ts k) ∧ Below (w.alloc (.cells #[.int .i64 d.W, .int .i64 d.H, .int .i64 d.T, .int .i64 d.R] 26)).heap.size (w.alloc (.cells #[.int .i64 d.W, .int .i64 d.H, .int .i64 d.T, .int .i64 d.R] 26)) wr ∧ KeptIn w1 wr (w.heap.size + 1 + 1) A') (fun _ i _ => n1 - (intOf i).toNat)
    case atStart => exact ⟨0, _, 0, Nat.zero_le _, rfl, rfl, O0.out, B1.out, fun _ _ _ => rfl, Nat.le_refl _, by rintro a ⟨⟩; exact .inl (by simp)⟩
    case round =>
      obtain ⟨k, A', c', hk, rfl, rfl, ho, hbx, hkp⟩ := hrel
      have HO := Lib.hid ho
      have HBX := Lib.hid hbx
      have HKP := Lib.hid hkp
      have hsx := hbx.size
      have hkz := hkp.2.1
      simp only [World.size_alloc] at hsx
      obtain ⟨hcc, hff⟩ := bcell hbx
      clear ho hbx hkp
      by_cases hlt : k < n1
      · obtain ⟨b, S, m3, p, L, l, q, rfl, hblo, hbhi, hb, x0, x1, x2, x3, r0, r1⟩ := (HT.out.keep (w' := wr) (fun k h1 h2 _ => HKP.out.1 k h1 h2)).tile (k := k) (by rw [HTL.out]; exact hlt)
        have hll := HL.out k (by rw [HTL.out]; exact hlt)
        have HLE := Lib.hid r1
        have HSO : Hid (startOf d k (ts[k]?.getD Tile.zero) = if kindOf d (k : Int) = 1 then [((ts[k]?.getD Tile.zero).les[0]?.getD Le.zero).init, ((ts[k]?.getD Tile.zero).les[1]?.getD Le.zero).init] else if kindOf d (k : Int) = 2 then [(ts[k]?.getD Tile.zero).ram, 0] else [0, 0]) := rfl
        have HSS := Lib.hid (startTo.eq_2 d ts k)
        generalize ts[k]?.getD Tile.zero = t at *
        have HLL := Lib.hid hll
        have HK1 := Lib.hid (HKK.out k hlt)
        have i0 : (0 : Int) ≤ (k : Int) := by omega
        have i1 : (k : Int) < (n1 : Int) := by omega
        have hww : w.heap.size < wr.heap.size := by omega
        clear r0 r1 hll
        go_wp2_with fail
        refine (stileKind_any d k _ (by omega)).mono ?_
        rintro e w2 ⟨rfl, b2⟩
        rw [HK1.out]
        have hs2 := b2.size
        have z2 := (b2.cell (p := ⟨b, k * 4 + 2, none⟩) (by simpa using hb)).trans x2
        have z3 := (b2.cell (p := ⟨b, k * 4 + 3, none⟩) (by simpa using hb)).trans x3
        have z1 := (b2.cell (p := ⟨b, k * 4 + 1, none⟩) (by simpa using hb)).trans x1
        have E2 := Lib.hid (below_tr HBX.out b2)
        have O2 := Lib.hid (HO.out.below b2)
        have K2 := Lib.hid (HKP.out.below b2)
        have LE2 := Lib.hid (HLE.out.below b2)
        clear b2 hcc hff x0 x1 x2 x3
        have hk3 := kindOf_bd d (k : Int)
        generalize kindOf d (k : Int) = kd at *
        rcases hk3 with h | h | h
        · subst h
          have HS1 : Hid (startOf d k t = [0, 0]) := by unfold Hid; rw [HSO.out]; simp
          go_wp2_with (at_builtin; refine wpList_pushN rfl _ _ rfl (w.alloc (.cells #[.int .i64 d.W, .int .i64 d.H, .int .i64 d.T, .int .i64 d.R] 26)).heap.size A' (2 * k) c' (startTo d ts k) [0, 0] 2 rfl O2.out rfl rfl (by omega) (by omega) (by simp only [World.size_alloc]; omega) E2.out ?_; rintro g4 cap w4 o4 b4 gr4 hat4)
          go_roundw
          case rel => exact ⟨k + 1, _, _, by omega, by go_num, rfl, by rw [HSS.out, HS1.out]; exact o4, b4, K2.out.pushed gr4 hat4 trivial⟩
          case measure => simp [intOf]; omega
        · subst h
          obtain ⟨b3, S3, m4, p3, rfl, hb3lo, hb3hi, hb3, _, _, _, d3, _⟩ := LE2.out.le (k := 0) (by rw [HLL.out]; omega)
          obtain ⟨b4, S4, m5, p4, hbo, _, _, _, _, _, _, d4, _⟩ := LE2.out.le (k := 1) (by rw [HLL.out]; omega)
          injection hbo with hbo
          injection hbo with hb4
          subst hb4
          obtain rfl : 2 = l := by have hl2 := LE2.out.rd.elen; rw [HLL.out] at hl2; exact hl2
          have HS1 : Hid (startOf d k t = [((t.les)[0]?.getD Le.zero).init, ((t.les)[1]?.getD Le.zero).init]) := by unfold Hid; rw [HSO.out, if_pos rfl]
          generalize ((t.les)[0]?.getD Le.zero).init = x at *
          generalize ((t.les)[1]?.getD Le.zero).init = y at *
          have d3' : w2.cell? ⟨b3, 3, none⟩ = some (.int .i64 x) := by have h := d3; rw [Nat.zero_mul, Nat.zero_add] at h; exact h
          have d4' : w2.cell? ⟨b3, 4 + 3, none⟩ = some (.int .i64 y) := by have h := d4; rw [Nat.one_mul] at h; exact h
          clear d3 d4
          go_wp2_with fail
          go_region_held3 (fun w' => w'.cell? ⟨b, k * 4 + 1, none⟩ = some (.slice (some ⟨b3, 0, none⟩) 2 q) ∧ w'.cell? ⟨b3, 3, none⟩ = some (.int .i64 x) ∧ w'.cell? ⟨b3, 4 + 3, none⟩ = some (.int .i64 y))
            (first | exact ⟨z1, d3', d4'⟩ | exact ⟨(World.cell?_of_block (a := ⟨b, k * 4 + 1, none⟩) (Below.heap_alloc _ _ _ (by simp only; omega))).trans z1, (World.cell?_of_block (a := ⟨b3, 3, none⟩) (Below.heap_alloc _ _ _ (by simp only; omega))).trans d3', (World.cell?_of_block (a := ⟨b3, 4 + 3, none⟩) (Below.heap_alloc _ _ _ (by simp only; omega))).trans d4'⟩ | exact ⟨(World.cell?_of_block (w := w2) (a := ⟨b, k * 4 + 1, none⟩) (((K2.out.pushed gr4 hat4 trivial).1 b hblo hbhi).trans (K2.out.1 b hblo hbhi).symm)).trans z1, (World.cell?_of_block (w := w2) (a := ⟨b3, 3, none⟩) (((K2.out.pushed gr4 hat4 trivial).1 b3 hb3lo hb3hi).trans (K2.out.1 b3 hb3lo hb3hi).symm)).trans d3', (World.cell?_of_block (w := w2) (a := ⟨b3, 4 + 3, none⟩) (((K2.out.pushed gr4 hat4 trivial).1 b3 hb3lo hb3hi).trans (K2.out.1 b3 hb3lo hb3hi).symm)).trans d4'⟩)
            ((refine step_pushND rfl _ _ (by rfl) (w.alloc (.cells #[.int .i64 d.W, .int .i64 d.H, .int .i64 d.T, .int .i64 d.R] 26)).heap.size A' (2 * k) c' (startTo d ts k) [x, y] 2 (by rfl) O2.out (by rfl) rfl (by omega) (by omega) (by simp only [World.size_alloc]; omega) E2.out ?_; rintro g4 cap w4 o4 b4 gr4 hat4))
          go_wp2_with fail
          go_roundw
          case rel => exact ⟨k + 1, _, _, by omega, by go_num, rfl, by rw [HSS.out, HS1.out]; exact o4, b4, K2.out.pushed gr4 hat4 trivial⟩
          case measure => simp [intOf]; omega
        · subst h
          have HS1 : Hid (startOf d k t = [t.ram, 0]) := by unfold Hid; rw [HSO.out]; simp
          go_wp2_with (at_builtin; refine wpList_pushN rfl _ _ rfl (w.alloc (.cells #[.int .i64 d.W, .int .i64 d.H, .int .i64 d.T, .int .i64 d.R] 26)).heap.size A' (2 * k) c' (startTo d ts k) [t.ram, 0] 2 rfl O2.out rfl rfl (by omega) (by omega) (by simp only [World.size_alloc]; omega) E2.out ?_; rintro g4 cap w4 o4 b4 gr4 hat4)
          go_roundw
          case rel => exact ⟨k + 1, _, _, by omega, by go_num, rfl, by rw [HSS.out, HS1.out]; exact o4, b4, K2.out.pushed gr4 hat4 trivial⟩
          case measure => simp [intOf]; omega
      · have hkn : n1 = k := by omega
        subst hkn
        go_wp2_with fail
        go_ret
        exact ⟨_, _, _, rfl, by rw [HSG.out, ← HN1.out]; exact HO.out.more (by simp), below_tr hB0 HBX.out⟩
end Go.Proofs.Ytclmhnghpnfnkaa

namespace Go.Proofs.Ytclmhnghpnfnkaa
set_option maxRecDepth 100000
open Go.RowKit

def undTo (d : Dev) (vs : List Int) : Nat → Nat
  | 0 => 0
  | k + 1 => undTo d vs k + (if (nodeOk d (k : Int) && decide (nv vs (k : Int) < 0)) = true then 1 else 0)
theorem undTo_le (d : Dev) (vs : List Int) (k : Nat) : undTo d vs k ≤ k := by
  induction k with
  | zero => exact Nat.le_refl _
  | succ k ih => rw [undTo]; split <;> omega
theorem undTo_yes {d : Dev} {vs : List Int} {k : Nat} (h : nodeOk d (k : Int) = true) (h0 : nv vs (k : Int) < 0) : undTo d vs (k + 1) = undTo d vs k + 1 := by rw [undTo, h, decide_eq_true h0]; rfl
theorem undTo_no {d : Dev} {vs : List Int} {k : Nat} (h : nodeOk d (k : Int) = false ∨ ¬ nv vs (k : Int) < 0) : undTo d vs (k + 1) = undTo d vs k := by
  rw [undTo]
  rcases h with h | h
  · rw [h]; rfl
  · rw [decide_eq_false h, Bool.and_false]; rfl
theorem undTo_same {d : Dev} {vs us : List Int} (h : Same vs us) (k : Nat) : undTo d vs k = undTo d us k := by
  induction k with
  | zero => rfl
  | succ k ih => rw [undTo, undTo, ih, decide_eq_decide.2 (h.2 (k : Int))]
def undF (d : Dev) (fs : List (List Int)) : Int := if framesOk d fs = true then ((undTo d (valsF d (tilesOf d fs) (List.replicate (2 * tiles d) 0) (List.replicate (tiles d) 0)) (nodesOf d).toNat : Nat) : Int) else -1
theorem nv_zeros (n : Nat) (i : Int) : nv (List.replicate n 0) i = 0 := by
  unfold nv
  rw [List.getElem?_replicate]
  split <;> rfl
theorem stPads_zeros (d : Dev) (ts : List Tile) (a b : Nat) : StPads d ts (List.replicate a 0) (List.replicate b 0) :=
  ⟨fun _ _ _ => by rw [nv_zeros]; omega, fun _ _ _ _ _ _ => by rw [nv_zeros]; omega, fun _ _ _ => by rw [nv_zeros]; omega⟩
theorem ints_made {w : World} {g n : Nat} (h : w.heap[g]? = some (.cells (arr (List.replicate n 0)) 3 (0, 0))) (hn : n ≤ 1000) : Ints w (some ⟨g, 0, none⟩) n (List.replicate n 0) :=
  (Own.made (base := 0) h (Nat.zero_le _) (Nat.le_trans hn (by decide)) (by simp [arr]) (by simp)).ints

set_option maxHeartbeats 4000000 in
theorem undetermined_any (d : Dev) (A : Option Addr) (m c : Nat) (fs : List (List Int)) (w : World) (hA : Rows2 w A m fs) (hz : size2 fs ≤ 1099511627776) :
    Calls Try.prog 33 #[.agg #[.int .i64 d.W, .int .i64 d.H, .int .i64 d.T, .int .i64 d.R], .slice A m c] w fun e w' => e = .returned (.int .i64 (undF d fs)) ∧ Below w.heap.size w w' := by
  have HB0 := Lib.hid (below_new (Below.refl w.heap.size w) (.cells #[.int .i64 d.W, .int .i64 d.H, .int .i64 d.T, .int .i64 d.R] 26))
  have HI := Lib.hid hA
  clear hA
  go_enter Try.func33, Try.ntmps33
  go_wp2_with fail
  refine (framesOk_any d A m c fs _ (HI.out.below HB0.out) hz).mono ?_
  rintro e w1 ⟨rfl, b1⟩
  have hs1 := b1.size
  simp only [World.size_alloc] at hs1
  have D1 := Lib.hid b1
  obtain ⟨hcc, hff⟩ := bcell b1
  clear b1
  cases hf : framesOk d fs with
  | false =>
    have HF : Hid (undF d fs = -1) := by show _ = _; unfold undF; rw [hf]; rfl
    clear hf
    go_wp2_with fail
    go_ret
    exact ⟨ret_int HF.out.symm, below_tr HB0.out D1.out⟩
  | true =>
    have HFO := Lib.hid hf
    have hdv := (framesOk_iff hf).1
    have HD := Lib.hid hdv
    have hnb := nodesOf_bd hdv
    have hWH := dev_WH hdv
    have hT := devOk_bd hdv
    have HM := Lib.hid (tiles_eq hdv)
    have HCF := Lib.hid (cfg_of_frames hf)
    have HF : Hid (undF d fs = ((undTo d (valsF d (tilesOf d fs) (List.replicate (2 * tiles d) 0) (List.replicate (tiles d) 0)) (nodesOf d).toNat : Nat) : Int)) := by show _ = _; unfold undF; rw [if_pos hf]
    clear hf hdv
    go_wp2_with fail
    refine (emulatorOf_any d A m c fs _ (HI.out.below (below_tr HB0.out D1.out)) HFO.out).mono ?_
    rintro e w3 ⟨g, TA, tc, EA, DA, rfl, hem, b3⟩
    have D3 := Lib.hid (below_tr D1.out b3)
    have hs3 := b3.size
    have HX5 := Lib.hid (cell_heap (k := 5) hem.box rfl)
    have HEM := Lib.hid hem
    have hgl := heap_lt0 hem.box
    clear b3 hem hcc hff
    obtain ⟨hcc, hff⟩ := bcell D3.out
    obtain ⟨N, hN⟩ : ∃ N : Nat, nodesOf d = (N : Int) := ⟨(nodesOf d).toNat, by omega⟩
    have hNN : (nodesOf d).toNat = N := by omega
    have HN := Lib.hid hN
    rw [hNN] at HX5 HEM HF
    rw [hN] at hnb
    clear hN hNN
    have hmb := HM.out
    generalize hMM : tiles d = M at *
    have HMM := Lib.hid hMM
    have hM36 : (M : Int) ≤ 36 := by omega
    have e1 : d.W * d.H = (M : Int) := hmb.1
    have e2 : 2 * d.W * d.H = 2 * (M : Int) := by rw [Int.mul_assoc, e1]
    obtain ⟨i0, hi, hz0, hz1, hz2⟩ := info_parts int_info
    have hmk2 := fun W => run_make_rowN (P := Try.prog) 27 3 i0 _ Try.underlying27 hi hz0 .i64 .i64 (2 * M) (2 * M) (Nat.le_refl _) (by rw [hz2]; omega) (by omega) W
    have hmk1 := fun W => run_make_rowN (P := Try.prog) 27 3 i0 _ Try.underlying27 hi hz0 .i64 .i64 M M (Nat.le_refl _) (by rw [hz2]; omega) (by omega) W
    rw [hz1, Nat.mul_one, show (Value.int .i64 0).cells = #[Value.int .i64 0] from rfl, arr_made] at hmk1 hmk2
    have e2m : ((2 * M : Nat) : Int) = 2 * (M : Int) := by omega
    rw [e2m] at hmk2
    have HV := Lib.hid (fun (SA PA : Option Addr) (w' : World) (hb : Below w3.heap.size w3 w') (hs : Ints w' SA (2 * M) (List.replicate (2 * M) 0)) (hp : Ints w' PA M (List.replicate M 0)) =>
      values_any g d (tilesOf d fs) TA m tc EA DA N SA (2 * M) (2 * M) (List.replicate (2 * M) 0) PA M M (List.replicate M 0) w' (HEM.out.below hb) HN.out.symm hs hp (by have := HM.out.1; omega) (by have := HM.out.1; omega) (stPads_zeros _ _ _ _) HCF.out)
    clear hi hz0 hz1 hz2 e2m hMM hmb
    have a1 : IntKind.i64.wrap (2 * d.W) = 2 * d.W := IntWalk.i64_in _ (by omega)
    have a2 : IntKind.i64.wrap (2 * (M : Int)) = 2 * (M : Int) := IntWalk.i64_in _ (by omega)
    have a3 : IntKind.i64.wrap (M : Int) = (M : Int) := IntWalk.i64_in _ (by omega)
    have hww : w.heap.size < w3.heap.size := by omega
    obtain ⟨q0, q1, q2, q3⟩ := keep4 D3.out (by simp) (box4 w d)
    clear hcc hff
    have HQ := Lib.hid (And.intro q0 (And.intro q1 (And.intro q2 q3)))
    clear q0 q1 q2 q3
    have hD := Below.refl w3.heap.size w3
    go_upto_region 5 with fail
    go_cut [30, 31, 32] (fun s30 s31 s32 wx => ∃ A', s30 = .slice A' N N ∧ s31 = .int .i64 (N : Int) ∧ s32 = .int .i64 0 ∧ Own w3.heap.size wx A' N N (valsF d (tilesOf d fs) (List.replicate (2 * M) 0) (List.replicate M 0)) ∧ Below w3.heap.size w3 wx)
    case first =>
      go_region_held3 (fun w' => w'.cell? ⟨w.heap.size, 0, none⟩ = some (.int .i64 d.W) ∧ w'.cell? ⟨w.heap.size, 1, none⟩ = some (.int .i64 d.H) ∧ w'.cell? ⟨w.heap.size, 2, none⟩ = some (.int .i64 d.T) ∧ w'.cell? ⟨w.heap.size, 3, none⟩ = some (.int .i64 d.R))
        (first | with_reducible exact keep4 hD hww HQ.out | with_reducible exact keep4 hD.drew hww HQ.out | with_reducible exact keep4 (below_new hD _) hww HQ.out | with_reducible exact keep4 (below_new hD.drew _) hww HQ.out | with_reducible exact keep4 (below_new (below_new hD _) _) hww HQ.out | with_reducible exact keep4 (below_new (below_new hD.drew _) _) hww HQ.out | with_reducible exact keep4 (below_new (below_new hD _) _).drew hww HQ.out)
        ((go_at_call 88; (with_reducible refine (HV.out _ _ _ (by repeat (first | exact Below.refl _ _ | refine below_new ?_ _ | refine Below.drew ?_)) (by refine ints_made ?_ (by omega); repeat (first | (refine heap_newAt ?_; simp; done) | refine heap_al _ ?_ | refine heap_dr ?_)) (by refine ints_made ?_ (by omega); repeat (first | (refine heap_newAt ?_; simp; done) | refine heap_al _ ?_ | refine heap_dr ?_))).mono ?_); rintro e w4 ⟨A', rfl, ho, hb⟩; have hD2 := below_tr (a := w3) (by repeat (first | exact Below.refl _ _ | refine below_new ?_ _ | refine Below.drew ?_)) hb; replace hD := hD2))
      all_goals
        go_wp2_with fail
        go_meet
        exact ⟨_, rfl, rfl, rfl, ho.more (by simp; omega), hD⟩
    obtain ⟨A', rfl, rfl, rfl, ho, hb⟩ := hcut
    have HO := Lib.hid ho
    have HB4 := Lib.hid hb
    have hs4 := hb.size
    clear ho hb hmk1 hmk2 e1 e2
    have HUS := Lib.hid (fun k => undTo_le d (valsF d (tilesOf d fs) (List.replicate (2 * M) 0) (List.replicate M 0)) k)
    obtain ⟨be, oe, rfl, hbe, hce⟩ := HEM.out.exist.2 (by omega)
    obtain ⟨gv, cur, rfl, hgb, hgl4, -⟩ := HO.out.block (by omega)
    have HCE := Lib.hid hce
    clear hce
    generalize valsF d (tilesOf d fs) (List.replicate (2 * M) 0) (List.replicate M 0) = vs at *
    go_wp2_with fail
    go_loopw [6, 32] (fun cv iv wr => ∃ k : Nat, k ≤ N ∧ iv = .int .i64 k ∧ cv = .int .i64 ((undTo d vs k : Nat) : Int) ∧ Below wc.heap.size wc wr) (fun _ iv _ => N - (intOf iv).toNat)
    case atStart => exact ⟨0, by omega, rfl, rfl, Below.refl _ _⟩
    case round =>
      obtain ⟨k, hk, rfl, rfl, hb⟩ := hrel
      have HB := Lib.hid hb
      have hs := hb.size
      have hul := HUS.out k
      by_cases hlt : k < N
      · have hdk : decide ((k : Int) < (N : Int)) = true := by simp; omega
        obtain ⟨zu, yu⟩ := (HO.out.below hb).cellAt hlt
        have HVN : Hid (vs[k]?.getD 0 = nv vs (k : Int)) := by show _ = _; unfold nv; rw [Int.toNat_natCast]
        rw [HVN.out] at zu
        have x5 := ((below_tr HB4.out hb).cell (p := ⟨g, 5, none⟩) hgl).trans HX5.out
        have ce := ((below_tr HB4.out hb).cell (p := ⟨be, oe + k, none⟩) hbe).trans (HCE.out k hlt)
        rw [exTo_get hlt] at ce
        have i0 : (0 : Int) ≤ (k : Int) := by omega
        have i1 : (k : Int) < (N : Int) := by omega
        have HY := Lib.hid (fun h h' => undTo_yes (d := d) (vs := vs) (k := k) h h')
        have HNO := Lib.hid (fun h => undTo_no (d := d) (vs := vs) (k := k) h)
        generalize undTo d vs k = c0 at *
        generalize nv vs (k : Int) = u at *
        generalize nodeOk d (k : Int) = bo at *
        clear hb yu
        cases bo with
        | false =>
          have HE := Lib.hid (HNO.out (.inl rfl))
          go_wp2_with fail
          go_roundw
          case rel => exact ⟨k + 1, by omega, by go_num, by rw [HE.out], HB.out⟩
          case measure => simp [intOf]; omega
        | true =>
          by_cases hu : u < 0
          · have hdu : decide (u < 0) = true := by simpa using hu
            have HE := Lib.hid (HY.out rfl hu)
            go_wp2_with fail
            go_roundw
            case rel => exact ⟨k + 1, by omega, by go_num, by rw [HE.out]; go_num, HB.out⟩
            case measure => simp [intOf]; omega
          · have hdu : decide (u < 0) = false := by simp; omega
            have HE := Lib.hid (HNO.out (.inr hu))
            go_wp2_with fail
            go_roundw
            case rel => exact ⟨k + 1, by omega, by go_num, by rw [HE.out], HB.out⟩
            case measure => simp [intOf]; omega
      · have hkN : k = N := by omega
        have HKN := Lib.hid hkN
        have hdk : decide ((k : Int) < (N : Int)) = false := by simp; omega
        clear hkN
        go_wp2_with fail
        go_ret
        exact ⟨ret_int (by rw [HF.out, ← HKN.out]), below_tr HB0.out (below_tr D3.out (below_tr HB4.out HB.out))⟩
end Go.Proofs.Ytclmhnghpnfnkaa

namespace Go.Proofs.Ytclmhnghpnfnkaa
set_option maxRecDepth 100000
open Go.RowKit

theorem startTo_get {d : Dev} {ts : List Tile} {m k : Nat} (h : k < m) {e : Nat} (he : e < 2) : (startTo d ts m)[2 * k + e]?.getD 0 = (startOf d k (ts[k]?.getD Tile.zero))[e]?.getD 0 := by
  induction m with
  | zero => omega
  | succ m ih =>
    rw [startTo]
    rcases Nat.lt_or_ge k m with hk | hk
    · rw [List.getElem?_append_left (by rw [startTo_length]; omega)]
      exact ih hk
    · have : k = m := by omega
      subst this
      rw [List.getElem?_append_right (by rw [startTo_length]; omega), startTo_length, show 2 * k + e - 2 * k = e by omega]
theorem stPads_start {d : Dev} {fs : List (List Int)} (hf : framesOk d fs = true) (b : Nat) : StPads d (tilesOf d fs) (startF d fs) (List.replicate b 0) := by
  have hc := cfg_of_frames hf
  have hr : readF d fs = tilesOf d fs := by rw [readF, if_pos hf]
  have key : ∀ t : Int, tileIn d t = true → ∃ k : Nat, t = (k : Int) ∧ k < (tilesOf d fs).length := fun t ht => by
    have h := (le_fit (e := 0) hc ht (by omega)).2.2.1
    have h0 := (tileIn_iff.1 ht).2.1
    exact ⟨t.toNat, by omega, h⟩
  refine ⟨fun _ _ _ => by rw [nv_zeros]; omega, fun t e ht hk h0 h1 => ?_, fun t ht hk => ?_⟩
  · obtain ⟨k, rfl, hlt⟩ := key t ht
    have l0 := (le_fit (e := 0) hc ht (by omega)).1.init
    have l1 := (le_fit (e := 1) hc ht (by omega)).1.init
    obtain ⟨n, rfl⟩ := Int.eq_ofNat_of_zero_le h0
    unfold nv startF
    rw [hr, show (2 * (k : Int) + (n : Int)).toNat = 2 * k + n by omega, startTo_get hlt (by omega)]
    unfold startOf
    rw [if_pos hk]
    have hn : n = 0 ∨ n = 1 := by omega
    rcases hn with rfl | rfl
    · exact l0
    · exact l1
  · obtain ⟨k, rfl, hlt⟩ := key (t := t) ht
    have lr := (le_fit (e := 0) hc ht (by omega)).2.2.2.ram
    unfold nv startF
    rw [hr, show (2 * (k : Int)).toNat = 2 * k + 0 by omega, startTo_get hlt (by omega)]
    unfold startOf
    rw [if_neg (by omega), if_pos hk]
    exact lr
theorem own_low {a b w : World} {A : Option Addr} {n c : Nat} {xs : List Int} (h : Below a.heap.size a b) (o : Own b.heap.size w A n c xs) : Own a.heap.size w A n c xs := o.more h.size

set_option maxHeartbeats 4000000 in
theorem sundetermined_any (d : Dev) (A : Option Addr) (m c : Nat) (fs : List (List Int)) (w : World) (hA : Rows2 w A m fs) (hz : size2 fs ≤ 1099511627776) :
    Calls Try.prog 32 #[.agg #[.int .i64 d.W, .int .i64 d.H, .int .i64 d.T, .int .i64 d.R], .slice A m c] w fun e w' => e = .returned (.int .i64 (undF d fs)) ∧ Below w.heap.size w w' := by
  have HB0 := Lib.hid (below_new (Below.refl w.heap.size w) (.cells #[.int .i64 d.W, .int .i64 d.H, .int .i64 d.T, .int .i64 d.R] 26))
  have HI := Lib.hid hA
  clear hA
  go_enter Try.func32, Try.ntmps32
  go_wp2_with fail
  refine (sframesOk_any d A m c fs _ (HI.out.below HB0.out) hz).mono ?_
  rintro e w1 ⟨rfl, b1⟩
  have hs1 := b1.size
  simp only [World.size_alloc] at hs1
  have D1 := Lib.hid b1
  obtain ⟨hcc, hff⟩ := bcell b1
  clear b1
  cases hf : framesOk d fs with
  | false =>
    have HF : Hid (undF d fs = -1) := by show _ = _; unfold undF; rw [hf]; rfl
    clear hf
    go_wp2_with fail
    go_ret
    exact ⟨ret_int HF.out.symm, below_tr HB0.out D1.out⟩
  | true =>
    have HFO := Lib.hid hf
    have hdv := (framesOk_iff hf).1
    have HD := Lib.hid hdv
    have hnb := nodesOf_bd hdv
    have hWH := dev_WH hdv
    have hT := devOk_bd hdv
    have HM := Lib.hid (tiles_eq hdv)
    obtain ⟨N, hN⟩ : ∃ N : Nat, nodesOf d = (N : Int) := ⟨(nodesOf d).toNat, by omega⟩
    have hNN : (nodesOf d).toNat = N := by omega
    have HRF : Hid (readF d fs = tilesOf d fs) := by show _ = _; rw [readF, if_pos hf]
    have hl2 : (startF d fs).length = 2 * tiles d := by unfold startF; rw [startTo_length, HRF.out, tilesOf_length, (frames_n hf).1]
    have HV : Hid (∀ (TA : Option Addr) (m3 c3 : Nat) (SA : Option Addr) (n4 c4 : Nat) (PA : Option Addr) (w' : World), RdC w' w'.heap.size (celT (readF d fs)) (.slice TA m3 c3) → Ints w' SA n4 (startF d fs) → Ints w' PA (tiles d) (List.replicate (tiles d) 0) →
        Calls Try.prog 84 #[.agg #[.int .i64 d.W, .int .i64 d.H, .int .i64 d.T, .int .i64 d.R], .slice TA m3 c3, .slice SA n4 c4, .slice PA (tiles d) (tiles d)] w' fun e' w'' => ∃ A' c', e' = .returned (.slice A' N c') ∧ Own w'.heap.size w'' A' N c' (valsF d (tilesOf d fs) (startF d fs) (List.replicate (tiles d) 0)) ∧ Below w'.heap.size w' w'') := by
      intro TA m3 c3 SA n4 c4 PA w' hr hs hp
      have h := sl41Values_any d (tilesOf d fs) TA m3 c3 SA n4 c4 (startF d fs) PA (tiles d) (tiles d) (List.replicate (tiles d) 0) w' (by rw [← HRF.out]; exact hr) hs hp (by have := hs.1; have := HM.out.1; omega) HM.out.1.symm (stPads_start hf _) (cfg_of_frames hf)
      rwa [hNN] at h
    have HF : Hid (undF d fs = ((undTo d (valsF d (tilesOf d fs) (startF d fs) (List.replicate (tiles d) 0)) N : Nat) : Int)) := by
      show _ = _
      unfold undF
      rw [if_pos hf, hNN, undTo_same (same_vals (stPads_zeros d (tilesOf d fs) (2 * tiles d) (tiles d)) (stPads_start hf (tiles d)))]
    have HN := Lib.hid hN
    rw [hN] at hnb
    clear hN hNN hl2 hf hdv
    have hmb := HM.out
    have e1 : d.W * d.H = (tiles d : Int) := hmb.1
    generalize tiles d = M at *
    have hM36 : (M : Int) ≤ 36 := by omega
    obtain ⟨i0, hi, hz0, hz1, hz2⟩ := info_parts int_info
    have hmk1 := fun W => run_make_rowN (P := Try.prog) 27 3 i0 _ Try.underlying27 hi hz0 .i64 .i64 M M (Nat.le_refl _) (by rw [hz2]; omega) (by omega) W
    rw [hz1, Nat.mul_one, show (Value.int .i64 0).cells = #[Value.int .i64 0] from rfl, arr_made] at hmk1
    clear hi hz0 hz1 hz2 hmb
    have a3 : IntKind.i64.wrap (M : Int) = (M : Int) := IntWalk.i64_in _ (by omega)
    have hww : w.heap.size < w1.heap.size := by omega
    have HQ := Lib.hid (keep4 D1.out (by simp) (box4 w d))
    clear hcc hff
    have hD := Below.refl w1.heap.size w1
    go_upto_region 3 with fail
    go_cut [5] (fun s5 wx => ∃ A' c', s5 = .slice A' N c' ∧ Own w1.heap.size wx A' N c' (valsF d (tilesOf d fs) (startF d fs) (List.replicate M 0)) ∧ Below w1.heap.size w1 wx)
    case first =>
      go_region_held3 (fun w' => w'.cell? ⟨w.heap.size, 0, none⟩ = some (.int .i64 d.W) ∧ w'.cell? ⟨w.heap.size, 1, none⟩ = some (.int .i64 d.H) ∧ w'.cell? ⟨w.heap.size, 2, none⟩ = some (.int .i64 d.T) ∧ w'.cell? ⟨w.heap.size, 3, none⟩ = some (.int .i64 d.R))
        (first | with_reducible exact keep4 hD hww HQ.out | with_reducible exact keep4 hD.drew hww HQ.out | with_reducible exact keep4 (below_new hD _) hww HQ.out | with_reducible exact keep4 (below_new hD.drew _) hww HQ.out | with_reducible exact keep4 (below_new hD _).drew hww HQ.out)
        (first
          | (go_at_call 85; (with_reducible refine (sreadFrames_any d A m c fs _ (HI.out.below (below_tr HB0.out (below_tr D1.out (by repeat (first | with_reducible exact hD | with_reducible refine below_new ?_ _ | with_reducible refine Below.drew ?_))))) hz).mono ?_); rintro e w3 ⟨A3, m3, c3, rfl, o3, b3⟩; have R3 := Lib.hid o3.rd; have hb3 := Lib.hid b3; have hD2 := below_tr (a := w1) (by repeat (first | with_reducible exact hD | with_reducible refine below_new ?_ _ | with_reducible refine Below.drew ?_)) b3; clear b3 o3; replace hD := hD2)
          | (go_at_call 69; (with_reducible refine (semuStart_any d A m c fs _ (HI.out.below (below_tr HB0.out (below_tr D1.out (by repeat (first | with_reducible exact hD | with_reducible refine below_new ?_ _ | with_reducible refine Below.drew ?_))))) hz).mono ?_); rintro e w4 ⟨A4, n4, c4, rfl, o4, b4⟩; have O4 := Lib.hid o4.ints; have hb4 := Lib.hid b4; have hD2 := below_tr (a := w1) (by repeat (first | with_reducible exact hD | with_reducible refine below_new ?_ _ | with_reducible refine Below.drew ?_)) b4; clear b4 o4; replace hD := hD2)
          | (go_at_call 84; (with_reducible refine (HV.out _ _ _ _ _ _ _ _ (R3.out.below (by repeat (first | with_reducible exact Below.refl _ _ | with_reducible refine below_new ?_ _ | with_reducible refine Below.drew ?_ | with_reducible refine below_tr ?_ hb4.out | with_reducible refine below_tr ?_ hb3.out))) (O4.out.below (by repeat (first | with_reducible exact Below.refl _ _ | with_reducible refine below_new ?_ _ | with_reducible refine Below.drew ?_ | with_reducible refine below_tr ?_ hb4.out | with_reducible refine below_tr ?_ hb3.out))) (by refine ints_made ?_ (by omega); repeat (first | (refine heap_newAt ?_; simp; done) | with_reducible refine heap_al _ ?_ | with_reducible refine heap_dr ?_ | with_reducible refine heap_tr hb4.out ?_ | with_reducible refine heap_tr hb3.out ?_))).mono ?_); rintro e w5 ⟨A5, c5, rfl, o5, b5⟩; have O6 := Lib.hid (own_low (a := w1) (by repeat (first | with_reducible exact hD | with_reducible refine below_new ?_ _ | with_reducible refine Below.drew ?_)) o5); have hD2 := below_tr (a := w1) (by repeat (first | with_reducible exact hD | with_reducible refine below_new ?_ _ | with_reducible refine Below.drew ?_)) b5; clear b5 o5; replace hD := hD2))
      all_goals
        go_wp2_with fail
        go_meet
        exact ⟨_, _, rfl, O6.out, hD⟩
    obtain ⟨A', c', rfl, ho, hb⟩ := hcut
    have HO := Lib.hid ho
    have HB4 := Lib.hid hb
    have hs4 := hb.size
    clear ho hb hmk1 e1 hD
    have HUS := Lib.hid (fun k => undTo_le d (valsF d (tilesOf d fs) (startF d fs) (List.replicate M 0)) k)
    obtain ⟨gv, cur, rfl, hgb, hgl4, -⟩ := HO.out.block (by omega)
    generalize valsF d (tilesOf d fs) (startF d fs) (List.replicate M 0) = vs at *
    go_wp2_with fail
    go_loopw [6, 7] (fun cv iv wr => ∃ k : Nat, k ≤ N ∧ iv = .int .i64 k ∧ cv = .int .i64 ((undTo d vs k : Nat) : Int) ∧ Below wc.heap.size wc wr) (fun _ iv _ => N - (intOf iv).toNat)
    case atStart => exact ⟨0, by omega, rfl, rfl, Below.refl _ _⟩
    case round =>
      obtain ⟨k, hk, rfl, rfl, hb⟩ := hrel
      have HB := Lib.hid hb
      have hs := hb.size
      have hul := HUS.out k
      by_cases hlt : k < N
      · have hdk : decide ((k : Int) < (N : Int)) = true := by simp; omega
        have HVN : Hid (vs[k]?.getD 0 = nv vs (k : Int)) := by show _ = _; unfold nv; rw [Int.toNat_natCast]
        have i0 : (0 : Int) ≤ (k : Int) := by omega
        have i1 : (k : Int) < (N : Int) := by omega
        have HY := Lib.hid (fun h h' => undTo_yes (d := d) (vs := vs) (k := k) h h')
        have HNO := Lib.hid (fun h => undTo_no (d := d) (vs := vs) (k := k) h)
        have HR := Lib.hid (fun w' => srouteNodeOk_any d (k : Int) w')
        generalize undTo d vs k = c0 at *
        generalize nodeOk d (k : Int) = bo at *
        clear hb
        obtain ⟨hcc, hff⟩ := bcell (below_tr D1.out (below_tr HB4.out HB.out))
        go_wp2_with fail
        refine (HR.out _).mono ?_
        rintro e w5 ⟨rfl, b5⟩
        have HB5 := Lib.hid (below_tr HB.out b5)
        have hs5 := b5.size
        clear b5 hcc hff
        obtain ⟨zu, yu⟩ := (HO.out.below HB5.out).cellAt hlt
        rw [HVN.out] at zu
        generalize nv vs (k : Int) = u at *
        clear yu
        cases bo with
        | false =>
          have HE := Lib.hid (HNO.out (.inl rfl))
          have HL7 := Lib.hid l07Bit_f
          go_wp2_with (go_at_call 86; refine (HL7.out _).mono ?_; rintro e' w' ⟨rfl, rfl⟩)
          go_roundw
          case rel => exact ⟨k + 1, by omega, by go_num, by rw [HE.out], HB5.out⟩
          case measure => simp [intOf]; omega
        | true =>
          by_cases hu : u < 0
          · have hdu : decide (u < 0) = true := by simpa using hu
            have HE := Lib.hid (HY.out rfl hu)
            have HL7 := Lib.hid l07Bit_t
            go_wp2_with (go_at_call 86; refine (HL7.out _).mono ?_; rintro e' w' ⟨rfl, rfl⟩)
            go_roundw
            case rel => exact ⟨k + 1, by omega, by go_num, by rw [HE.out]; go_num, HB5.out⟩
            case measure => simp [intOf]; omega
          · have hdu : decide (u < 0) = false := by simp; omega
            have HE := Lib.hid (HNO.out (.inr (by omega)))
            have HL7 := Lib.hid l07Bit_f
            go_wp2_with (go_at_call 86; refine (HL7.out _).mono ?_; rintro e' w' ⟨rfl, rfl⟩)
            go_roundw
            case rel => exact ⟨k + 1, by omega, by go_num, by rw [HE.out], HB5.out⟩
            case measure => simp [intOf]; omega
      · have hkN : k = N := by omega
        have HKN := Lib.hid hkN
        have hdk : decide ((k : Int) < (N : Int)) = false := by simp; omega
        clear hkN
        go_wp2_with fail
        go_ret
        exact ⟨ret_int (by rw [HF.out, ← HKN.out]), below_tr HB0.out (below_tr D1.out (below_tr HB4.out HB.out))⟩
end Go.Proofs.Ytclmhnghpnfnkaa
