/- The checksum sees a changed low bit of one word, and no changed high bit; plain. -/
import Derived.Test.YtpmeocgmlchjaaaCsum
import Derived.Test.YtpmeocgmlchjaaaCw
namespace Go.Proofs.Ytpmeocgmlchjaaa
open Go.RowKit

def lo16 (x : Int) : Nat := (BitVec.ofInt 64 x).toNat % 65536
theorem lo16_lt (x : Int) : lo16 x < 65536 := Nat.mod_lt _ (by decide)
theorem ofInt_wrap (z : Int) : BitVec.ofInt 64 (IntKind.i64.wrap z) = BitVec.ofInt 64 z := by
  apply BitVec.eq_of_toNat_eq
  rw [BitVec.toNat_ofInt, BitVec.toNat_ofInt, IntKind.wrap_i64]
  omega
theorem and_lo16 (x : Int) : bits .and .i64 x 65535 = (lo16 x : Int) := by
  have h := lo16_lt x
  show IntKind.i64.wrap ((BitVec.ofInt 64 x &&& BitVec.ofInt 64 65535).toNat : Int) = _
  have e : (BitVec.ofInt 64 x &&& BitVec.ofInt 64 65535).toNat = lo16 x := by
    rw [BitVec.toNat_and]
    exact Nat.and_two_pow_sub_one_eq_mod _ 16
  rw [e, IntKind.wrap_i64]
  omega
theorem lo16_xor (x : Int) (k : Nat) (hk : k ≤ 62) : lo16 (bits .xor .i64 x (2 ^ k)) = ((BitVec.ofInt 64 x).toNat ^^^ 2 ^ k) % 65536 := by
  have e : bits .xor .i64 x (2 ^ k) = IntKind.i64.wrap ((BitVec.ofInt 64 x ^^^ BitVec.ofInt 64 (2 ^ k)).toNat : Int) := rfl
  rw [lo16, e, ofInt_wrap, BitVec.ofInt_natCast, BitVec.toNat_ofNat, BitVec.toNat_xor, int_pow_cast, ofInt_i64 _ (pow_le63 hk)]
  congr 1
  apply Nat.mod_eq_of_lt
  have := pow_le63 hk
  exact Nat.xor_lt_two_pow (BitVec.isLt _) (by omega)
theorem lo16_far (x : Int) (k : Nat) (hk : k ≤ 62) (h : 16 ≤ k) : lo16 (bits .xor .i64 x (2 ^ k)) = lo16 x := by
  rw [lo16_xor x k hk, lo16]
  apply Nat.eq_of_testBit_eq
  intro i
  rw [show 65536 = 2 ^ 16 from rfl, Nat.testBit_mod_two_pow, Nat.testBit_mod_two_pow, Nat.testBit_xor, Nat.testBit_two_pow]
  by_cases hi : i < 16
  · simp [hi, show ¬ k = i by omega]
  · simp [hi]
theorem lo16_near (x : Int) (k : Nat) (h : k < 16) : lo16 (bits .xor .i64 x (2 ^ k)) ≠ lo16 x := by
  rw [lo16_xor x k (by omega), lo16]
  intro he
  have := congrArg (·.testBit k) he
  simp only [show 65536 = 2 ^ 16 from rfl, Nat.testBit_mod_two_pow, Nat.testBit_xor, Nat.testBit_two_pow, h, decide_true, Bool.true_and] at this
  cases hb : (BitVec.ofInt 64 x).toNat.testBit k <;> simp [hb] at this

def stepN (n : Nat) : Nat := if n % 2 = 1 then n / 2 ^^^ 33800 else n / 2
theorem stepN_lt {n : Nat} (h : n < 65536) : stepN n < 65536 := by
  unfold stepN
  split
  · exact Nat.xor_lt_two_pow (n := 16) (by omega) (by decide)
  · omega
theorem csBit_nat {n : Nat} (h : n < 65536) : csBit (n : Int) = (stepN n : Int) := by
  unfold csBit stepN
  rw [and_one_nat n (by omega)]
  by_cases hp : n % 2 = 1
  · rw [if_pos hp, if_pos (by rw [hp]; rfl)]
    exact i64_xor_nat (n / 2) 33800 (by omega) (by omega)
  · rw [if_neg hp, if_neg (by simp; omega)]
    rfl
theorem stepN_inj {a b : Nat} (ha : a < 65536) (hb : b < 65536) (h : stepN a = stepN b) : a = b := by
  have top : ∀ n : Nat, n < 65536 → (stepN n).testBit 15 = decide (n % 2 = 1) := by
    intro n hn
    have hz : (n / 2).testBit 15 = false := Nat.testBit_lt_two_pow (by omega)
    unfold stepN
    split
    · rename_i hp
      rw [Nat.testBit_xor, hz, hp]
      decide
    · rename_i hp
      rw [hz]; simp [hp]
  have hp : decide (a % 2 = 1) = decide (b % 2 = 1) := by rw [← top a ha, ← top b hb, h]
  have hp' : a % 2 = 1 ↔ b % 2 = 1 := by simpa using hp
  unfold stepN at h
  by_cases h1 : a % 2 = 1
  · rw [if_pos h1, if_pos (hp'.1 h1)] at h
    have := congrArg (· ^^^ 33800) h
    simp only [Nat.xor_assoc, Nat.xor_self, Nat.xor_zero] at this
    have := hp'.1 h1
    omega
  · rw [if_neg h1, if_neg (fun hb => h1 (hp'.2 hb))] at h
    omega
def iterN : Nat → Nat → Nat
  | 0, n => n
  | k + 1, n => stepN (iterN k n)
theorem iterN_lt {n : Nat} (h : n < 65536) (k : Nat) : iterN k n < 65536 := by
  induction k with
  | zero => exact h
  | succ k ih => exact stepN_lt ih
theorem csIter_nat {n : Nat} (h : n < 65536) (k : Nat) : csIter k (n : Int) = (iterN k n : Int) := by
  induction k with
  | zero => rfl
  | succ k ih => rw [csIter, ih, csBit_nat (iterN_lt h k), iterN]
theorem iterN_inj {a b : Nat} (ha : a < 65536) (hb : b < 65536) (k : Nat) (h : iterN k a = iterN k b) : a = b := by
  induction k with
  | zero => exact h
  | succ k ih => exact ih (stepN_inj (iterN_lt ha k) (iterN_lt hb k) h)
def wordN (n x : Nat) : Nat := iterN 16 (n ^^^ x)
theorem wordN_lt {n x : Nat} (h : n < 65536) (hx : x < 65536) : wordN n x < 65536 := iterN_lt (Nat.xor_lt_two_pow (n := 16) h hx) 16
theorem csWord_nat {n : Nat} (h : n < 65536) (x : Int) : csWord (n : Int) x = (wordN n (lo16 x) : Int) := by
  have hx := lo16_lt x
  rw [csWord, and_lo16, i64_xor_nat n (lo16 x) (by omega) (by omega)]
  exact csIter_nat (Nat.xor_lt_two_pow (n := 16) h hx) 16
theorem xor_inj {a b x : Nat} (h : a ^^^ x = b ^^^ x) : a = b := by
  have := congrArg (· ^^^ x) h
  simpa only [Nat.xor_assoc, Nat.xor_self, Nat.xor_zero] using this
theorem wordN_inj {a b x : Nat} (ha : a < 65536) (hb : b < 65536) (hx : x < 65536) (h : wordN a x = wordN b x) : a = b :=
  xor_inj (iterN_inj (Nat.xor_lt_two_pow (n := 16) ha hx) (Nat.xor_lt_two_pow (n := 16) hb hx) 16 h)
theorem wordN_inj' {a x y : Nat} (ha : a < 65536) (hx : x < 65536) (hy : y < 65536) (h : wordN a x = wordN a y) : x = y := by
  have := iterN_inj (Nat.xor_lt_two_pow (n := 16) ha hx) (Nat.xor_lt_two_pow (n := 16) ha hy) 16 h
  rw [Nat.xor_comm a x, Nat.xor_comm a y] at this
  exact xor_inj this
attribute [local irreducible] wordN lo16 csWord
def sumN : Nat → List Int → Nat
  | n, [] => n
  | n, x :: xs => sumN (wordN n (lo16 x)) xs
theorem csum_nat (xs : List Int) : ∀ n : Nat, n < 65536 → xs.foldl csWord (n : Int) = (sumN n xs : Int) ∧ sumN n xs < 65536 := by
  induction xs with
  | nil => intro n h; exact ⟨rfl, h⟩
  | cons x xs ih =>
    intro n h
    have := ih (wordN n (lo16 x)) (wordN_lt h (lo16_lt x))
    rw [List.foldl_cons, csWord_nat h, sumN]
    exact this
theorem sumN_inj (xs : List Int) : ∀ a b : Nat, a < 65536 → b < 65536 → sumN a xs = sumN b xs → a = b := by
  induction xs with
  | nil => intro a b _ _ h; exact h
  | cons x xs ih =>
    intro a b ha hb h
    rw [sumN, sumN] at h
    exact wordN_inj ha hb (lo16_lt x) (ih _ _ (wordN_lt ha (lo16_lt x)) (wordN_lt hb (lo16_lt x)) h)
theorem sumN_set_ne (xs : List Int) (y : Int) : ∀ (k a : Nat), a < 65536 → k < xs.length → lo16 y ≠ lo16 (xs[k]?.getD 0) → sumN a (xs.set k y) ≠ sumN a xs := by
  induction xs with
  | nil => intro k a _ hk; simp at hk
  | cons x xs ih =>
    intro k a ha hk hne he
    rcases k with _ | k
    · rw [List.set_cons_zero, sumN, sumN] at he
      exact hne (wordN_inj' ha (lo16_lt _) (lo16_lt _) (sumN_inj xs _ _ (wordN_lt ha (lo16_lt _)) (wordN_lt ha (lo16_lt _)) he))
    · rw [List.set_cons_succ, sumN, sumN] at he
      exact ih k _ (wordN_lt ha (lo16_lt x)) (by simpa using hk) (by simpa using hne) he
theorem sumN_set_eq (xs : List Int) (y : Int) : ∀ (k a : Nat), lo16 y = lo16 (xs[k]?.getD 0) → sumN a (xs.set k y) = sumN a xs := by
  induction xs with
  | nil => intro k a _; rfl
  | cons x xs ih =>
    intro k a he
    rcases k with _ | k
    · have he' : lo16 y = lo16 x := he
      rw [List.set_cons_zero, sumN, sumN, he']
    · rw [List.set_cons_succ, sumN, sumN]
      exact ih k _ (by simpa using he)
theorem csum_near (xs : List Int) (k b : Nat) (hk : k < xs.length) (hb : b < 16) : csum (xs.set k (bits .xor .i64 (xs[k]?.getD 0) (2 ^ b))) ≠ csum xs := by
  unfold csum
  rw [show (65535 : Int) = ((65535 : Nat) : Int) from rfl, (csum_nat _ _ (by decide)).1, (csum_nat _ _ (by decide)).1]
  intro h
  exact sumN_set_ne xs _ k 65535 (by decide) hk (lo16_near _ b hb) (by omega)
theorem csum_far (xs : List Int) (k b : Nat) (hb : 16 ≤ b) (hb' : b ≤ 62) : csum (xs.set k (bits .xor .i64 (xs[k]?.getD 0) (2 ^ b))) = csum xs := by
  unfold csum
  rw [show (65535 : Int) = ((65535 : Nat) : Int) from rfl, (csum_nat _ _ (by decide)).1, (csum_nat _ _ (by decide)).1, sumN_set_eq xs _ k 65535 (lo16_far _ b hb' hb)]
end Go.Proofs.Ytpmeocgmlchjaaa
