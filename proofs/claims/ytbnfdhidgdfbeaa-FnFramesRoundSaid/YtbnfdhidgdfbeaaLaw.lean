/- What laws over bytes need: the code opened, how long is too long, a number taken from the code. -/
import Derived.Test.YtbnfdhidgdfbeaaDraw
import Derived.Test.YtbnfdhidgdfbeaaOpen
namespace Go.Proofs.Ytbnfdhidgdfbeaa
set_option maxRecDepth 100000
open Go.RowKit Go.ChangeShapes Go.WideShapes Go.ChangeAt

theorem byte_of {a : Int} (h : (Lit.int .u8 a).wf = true) : 0 ≤ a ∧ a ≤ 255 := by
  simp [Lit.wf, IntKind.min, IntKind.max, IntKind.signed, IntKind.bits] at h
  exact h
section
variable {H : Type} {enc : TypeId × Value → H} {W : World} {b0 base : Nat} {spare : Nat → Bool} {held : Bool}
theorem open_bytes {v : Value} {d : DataW H} {p : List MemPlace} (hv : Value.okWide Try.prog W .any b0 38 v) (h : DataW.Trod enc Try.prog W base (fun _ => true) held 38 v d p) :
    ∃ (A : Option Addr) (n c : Nat) (xs : List Int), v = .slice A n c ∧ Bytes W W.heap.size A n xs ∧ n ≤ maxLen := by
  obtain ⟨A, n, c, rfl⟩ := okWide_slice Try.underlying38 hv
  obtain ⟨fuel, hf⟩ := h
  rcases open_ints Try.underlying38 Try.underlying5 (by kernel_rfl) hf with ⟨hcs, _⟩ | ⟨x, l, c', zs, hcs, _, hl, hm, hz, _, hcell, hwz⟩
  · simp [Value.cells] at hcs
    obtain ⟨rfl, rfl, rfl⟩ := hcs
    exact ⟨none, 0, 0, [], rfl, ⟨rfl, by simp, fun h => absurd h (by omega)⟩, Nat.zero_le _⟩
  · simp [Value.cells] at hcs
    obtain ⟨rfl, rfl, rfl⟩ := hcs
    have hz' : zs.length = c := by simpa using hz
    refine ⟨_, _, _, zs.take n, rfl, ⟨by simp; omega, fun j => ?_, fun hn => ?_⟩, Nat.le_trans hl hm⟩
    · rw [List.getElem?_take]
      split
      · rcases Nat.lt_or_ge j zs.length with h | h
        · rw [List.getElem?_eq_getElem h]
          exact byte_of (hwz _ (List.getElem_mem h))
        · rw [List.getElem?_eq_none h]; simp
      · simp
    · have h0 := hcell 0 (by omega)
      rw [add_lit0] at h0
      obtain ⟨b, o, s⟩ := x
      have hs : s = none := World.cell?_spot h0
      subst hs
      refine ⟨b, o, rfl, cell_lt h0, fun j hj => ?_⟩
      have := hcell j (by omega)
      rw [Addr.add_lit] at this
      rw [this, List.getElem?_take, if_pos hj]
      rfl
end

theorem big_any (A : Option Addr) (n c : Nat) (w : World) :
    Calls Try.prog 19 #[.slice A n c] w fun e w' => e = .returned (.bool (decide ((n : Int) > 1048576))) ∧ w = w' := by
  go_enter Try.func19, Try.ntmps19
  go_wp2_with fail
  go_ret
  exact ⟨rfl, rfl⟩
/-- The number that a law takes from the code at i. -/
def atN (bs : List Int) (i : Nat) : Int := if bs.length = 0 then 0 else bs[(i * 5 + 1) % bs.length]?.getD 0
theorem atN_bd {w : World} {B : Nat} {A : Option Addr} {n : Nat} {bs : List Int} (h : Bytes w B A n bs) (i : Nat) : 0 ≤ atN bs i ∧ atN bs i ≤ 255 := by
  unfold atN
  split
  · omega
  · exact h.2.1 _
theorem at_any (A : Option Addr) (n c : Nat) (bs : List Int) (i B : Nat) (w : World) (h : Bytes w B A n bs) (hn : n ≤ 1099511627776) (hi : i ≤ 1099511627776) :
    Calls Try.prog 21 #[.slice A n c, .int .i64 i] w fun e w' => e = .returned (.int .i64 (atN bs i)) ∧ w = w' := by
  have hb := atN_bd h i
  obtain ⟨hlen, hbd, hA⟩ := h
  have HA : Hid (atN bs i = if bs.length = 0 then 0 else bs[(i * 5 + 1) % bs.length]?.getD 0) := rfl
  rw [hlen] at HA
  by_cases h0 : n = 0
  · subst h0
    go_enter Try.func21, Try.ntmps21
    go_wp2_with fail
    go_ret
    exact ⟨by rw [HA.out]; rfl, rfl⟩
  · obtain ⟨b, o, rfl, _, hc⟩ := hA (by omega)
    have hk : (i * 5 + 1) % n < n := Nat.mod_lt _ (by omega)
    have hck := hc _ hk
    have hbk := hbd ((i * 5 + 1) % n)
    have hn0 : ((n : Int) == 0) = false := by simp; omega
    have hnz : ¬ (n : Int) = 0 := by omega
    have htm : ((i : Int) * 5 + 1).tmod n = (((i * 5 + 1) % n : Nat) : Int) := by
      rw [show (i : Int) * 5 + 1 = ((i * 5 + 1 : Nat) : Int) by omega]
      exact Int.ofNat_tmod _ _ 
    clear hlen hbd hc
    generalize hkk : (i * 5 + 1) % n = k at *
    clear hkk
    go_enter Try.func21, Try.ntmps21
    go_wp2_with fail
    go_ret
    exact ⟨by rw [HA.out, if_neg h0]; rfl, rfl⟩
theorem at_hid (A : Option Addr) (n c : Nat) (bs : List Int) (w : World) (h : Bytes w w.heap.size A n bs) (hn : n ≤ 1099511627776) : Hid (∀ (i : Nat) (x : Int) (w' : World), x = (i : Int) → i ≤ 1099511627776 → Below w.heap.size w w' → Calls Try.prog 21 #[.slice A n c, .int .i64 x] w' fun e w'' => e = .returned (.int .i64 (atN bs i)) ∧ w' = w'') :=
  fun i x w' hx hi hb => by rw [hx]; exact @at_any A n c bs i _ w' (h.below hb) hn hi
theorem wrap_powI {k : Nat} (h : k ≤ 62) : IntKind.i64.wrap ((2 : Int) ^ k) = 2 ^ k := by
  have hp := pow_le63 h
  rw [int_pow_cast]
  generalize 2 ^ k = p at *
  exact IntWalk.i64_in _ (by omega)
end Go.Proofs.Ytbnfdhidgdfbeaa
