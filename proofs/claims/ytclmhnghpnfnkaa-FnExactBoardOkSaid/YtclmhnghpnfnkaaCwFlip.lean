/- Codewords: one flipped bit is found; plain arithmetic. -/
import Derived.Test.YtclmhnghpnfnkaaCwPure
namespace Go.Proofs.Ytclmhnghpnfnkaa.Cw

def Lin (f : Nat → Nat) : Prop := ∀ a b, f (a ^^^ b) = f a ^^^ f b
theorem Lin.bit (i c : Nat) : Lin fun x => if x.testBit i then c else 0 := by
  intro a b
  simp only [Nat.testBit_xor]
  cases a.testBit i <;> cases b.testBit i <;> simp
theorem xor_swap (p q r s : Nat) : p ^^^ q ^^^ (r ^^^ s) = p ^^^ r ^^^ (q ^^^ s) := by
  rw [Nat.xor_assoc, ← Nat.xor_assoc q r s, Nat.xor_comm q r, Nat.xor_assoc r q s, ← Nat.xor_assoc]
theorem Lin.xor {f g : Nat → Nat} (hf : Lin f) (hg : Lin g) : Lin fun x => f x ^^^ g x := by
  intro a b
  simp only [hf a b, hg a b]
  exact xor_swap _ _ _ _
theorem Lin.comp {f g : Nat → Nat} (hf : Lin f) (hg : Lin g) : Lin fun x => f (g x) := by
  intro a b
  simp only [hg a b, hf (g a) (g b)]
theorem Lin.zero {f : Nat → Nat} (hf : Lin f) : f 0 = 0 := by
  have := hf 0 0
  simpa using this
theorem Lin.all_zero {f : Nat → Nat} (hf : Lin f) : ∀ n, (∀ k, k < n → f (2 ^ k) = 0) → ∀ x, x < 2 ^ n → f x = 0 := by
  intro n
  induction n with
  | zero => intro _ x hx; rw [show x = 0 by omega]; exact hf.zero
  | succ n ih =>
    intro hb x hx
    rcases Nat.lt_or_ge x (2 ^ n) with h | h
    · exact ih (fun k hk => hb k (by omega)) x h
    · have hx' : x - 2 ^ n < 2 ^ n := by rw [Nat.pow_succ] at hx; omega
      have e : x = 2 ^ n ^^^ (x - 2 ^ n) := by
        apply Nat.eq_of_testBit_eq
        intro i
        have := add_pow_test (x := x - 2 ^ n) (m := n) (b := 1) (i := i) hx' (Nat.le_refl _)
        rw [Nat.one_mul, Nat.sub_add_cancel h] at this
        rw [this, Nat.testBit_xor, Nat.testBit_two_pow]
        by_cases hi : i = n
        · subst hi
          simp [Nat.testBit_lt_two_pow hx']
        · simp [hi, Ne.symm hi]
      rw [e, hf, hb n (by omega), ih (fun k hk => hb k (by omega)) _ hx']
      rfl

theorem or_clear {a k : Nat} (h : a.testBit k = false) : a ||| 2 ^ k = a ^^^ 2 ^ k := by
  apply Nat.eq_of_testBit_eq
  intro i
  rw [Nat.testBit_or, Nat.testBit_xor, Nat.testBit_two_pow]
  by_cases hi : k = i
  · subst hi; simp [h]
  · simp [hi]
theorem bit_mul (x i c : Nat) : bit x i * c = if x.testBit i then c else 0 := by rw [bit_test]; split <;> simp
theorem add_xor {a m b : Nat} (h : a < 2 ^ m) (hb : b ≤ 1) : a + b * 2 ^ m = a ^^^ b * 2 ^ m := by
  apply Nat.eq_of_testBit_eq
  intro i
  rw [add_pow_test h hb, Nat.testBit_xor]
  rcases (by omega : b = 0 ∨ b = 1) with rfl | rfl
  · by_cases hi : i = m
    · subst hi; simp [Nat.testBit_lt_two_pow h]
    · simp [hi]
  · rw [Nat.one_mul, Nat.testBit_two_pow]
    by_cases hi : i = m
    · subst hi; simp [Nat.testBit_lt_two_pow h]
    · simp [hi, Ne.symm hi]

theorem lin_spread (m : Nat) : Lin fun x => spreadTo x m := by
  induction m with
  | zero => intro a b; simp [spreadTo]
  | succ m ih =>
    by_cases hp : isP (m + 1) = true
    · have e : (fun x => spreadTo x (m + 1)) = fun x => spreadTo x m := by funext x; simp [spreadTo, hp]
      rw [e]; exact ih
    · have e : (fun x => spreadTo x (m + 1)) = fun x => spreadTo x m ^^^ (if x.testBit (kTo m) then 2 ^ m else 0) := by
        funext x
        rw [spreadTo, if_neg hp, add_xor (spreadTo_lt x m) (bit_le _ _), bit_mul]
      rw [e]
      exact ih.xor (Lin.bit _ _)
theorem lin_syn (m : Nat) : Lin fun c => synTo c m := by
  induction m with
  | zero => intro a b; simp [synTo]
  | succ m ih =>
    have e : (fun c => synTo c (m + 1)) = fun c => synTo c m ^^^ (if c.testBit m then m + 1 else 0) := by
      funext c
      rw [synTo]
      by_cases h : c.testBit m = true
      · rw [if_pos ((bit_one c m).2 h), if_pos h]
      · rw [if_neg (fun h' => h ((bit_one c m).1 h')), if_neg h, Nat.xor_zero]
    rw [e]
    exact ih.xor (Lin.bit _ _)
def ckX (s : Nat) : Nat → Nat
  | 0 => 0
  | j + 1 => ckX s j ^^^ (if s.testBit j then 2 ^ (2 ^ j - 1) else 0)
theorem lin_ckX (j : Nat) : Lin fun s => ckX s j := by
  induction j with
  | zero => intro a b; simp [ckX]
  | succ j ih => exact ih.xor (Lin.bit _ _)
theorem chk_xor (x s j : Nat) (hj : j ≤ 5) : chkTo (spreadTo x 21) s j = spreadTo x 21 ^^^ ckX s j := by
  induction j with
  | zero => simp [chkTo, ckX]
  | succ j ih =>
    have hc := chk_clear x s j (by omega)
    rw [chkTo, ckX, bit_mul, ← Nat.xor_assoc, ← ih (by omega)]
    split
    · exact or_clear hc
    · simp
theorem lin_body : Lin body := by
  have e : body = fun x => spreadTo x 21 ^^^ ckX (synTo (spreadTo x 21) 21) 5 := by
    funext x
    exact chk_xor x _ 5 (Nat.le_refl _)
  rw [e]
  exact (lin_spread 21).xor ((lin_ckX 5).comp ((lin_syn 21).comp (lin_spread 21)))
theorem syn_body (x : Nat) (hx : x < 65536) : synTo (body x) 21 = 0 :=
  ((lin_syn 21).comp lin_body).all_zero 16 (fun k hk => by
    have : ∀ k : Fin 16, synTo (body (2 ^ k.val)) 21 = 0 := by decide +kernel
    exact this ⟨k, hk⟩) x hx

theorem synTo_congr {c c' i : Nat} (h : ∀ j, j < i → bit c j = bit c' j) : synTo c i = synTo c' i := by
  induction i with
  | zero => rfl
  | succ i ih => rw [synTo, synTo, ih (fun j hj => h j (by omega)), h i (by omega)]
theorem popTo_congr {c c' i : Nat} (h : ∀ j, j < i → bit c j = bit c' j) : popTo c i = popTo c' i := by
  induction i with
  | zero => rfl
  | succ i ih => rw [popTo, popTo, ih (fun j hj => h j (by omega)), h i (by omega)]
theorem encW_bit (x j : Nat) : bit (encW x) j = if j = 21 then popTo (body x) 22 % 2 else bit (body x) j := by
  have h := add_pow_test (i := j) (body_lt x) (show popTo (body x) 22 % 2 ≤ 1 by omega)
  unfold encW
  rw [bit_test, h]
  by_cases hj : j = 21
  · rw [if_pos hj, if_pos hj]
    by_cases hp : popTo (body x) 22 % 2 = 1
    · simp [hp]
    · simp [hp]; omega
  · rw [if_neg hj, if_neg hj, ← bit_test]
theorem syn_enc (x : Nat) (hx : x < 65536) : synW (encW x) = 0 := by
  rw [synW, synTo_congr (c' := body x) (fun j hj => by rw [encW_bit, if_neg (by omega)])]
  exact syn_body x hx
theorem ones_enc (x : Nat) : onesW (encW x) % 2 = 0 := by
  have h1 : popTo (encW x) 21 = popTo (body x) 21 := popTo_congr fun j hj => by rw [encW_bit, if_neg (by omega)]
  have h2 : popTo (body x) 22 = popTo (body x) 21 := by
    rw [popTo, bit_zero_of_lt (body_lt x), Nat.add_zero]
  have h3 := encW_bit x 21
  rw [if_pos rfl, h2] at h3
  rw [onesW, popTo, h1, h3]
  omega
theorem mod_pow_succ' (x k : Nat) : x % 2 ^ (k + 1) = x % 2 ^ k + bit x k * 2 ^ k := by
  unfold bit
  rw [Nat.pow_succ, Nat.mod_mul, Nat.mul_comm]
theorem isP_false {t : Nat} (h : isP (t + 1) = false) (i : Nat) : t ≠ 2 ^ i - 1 := by
  rintro rfl
  have h0 : 0 < 2 ^ i := Nat.two_pow_pos i
  rw [show 2 ^ i - 1 + 1 = 2 ^ i by omega] at h
  unfold isP at h
  have : 2 ^ i &&& (2 ^ i - 1) = 0 := by
    apply Nat.eq_of_testBit_eq
    intro j
    rw [Nat.testBit_and, Nat.testBit_two_pow, Nat.testBit_two_pow_sub_one]
    simp
    omega
  rw [this] at h
  simp at h
theorem gather_enc (x : Nat) (i : Nat) (hi : i ≤ 21) : gatherTo (encW x) i = x % 2 ^ kTo i := by
  induction i with
  | zero => simp [gatherTo, kTo, Nat.mod_one]
  | succ i ih =>
    by_cases hp : isP (i + 1) = true
    · simp [gatherTo, kTo, hp, ih (by omega)]
    · have hp' : isP (i + 1) = false := by simpa using hp
      simp only [gatherTo, kTo, hp', ih (by omega), Bool.false_eq_true, if_false]
      rw [mod_pow_succ']
      congr 2
      rw [encW_bit, if_neg (by omega), bit_test, bit_test]
      unfold body
      rw [chk_test (fun b _ => isP_false hp' b), spreadTo_test]
      simp [hp', show i < 21 by omega]
theorem data_enc (x : Nat) (hx : x < 65536) : dataW (encW x) = x := by
  have h := gather_enc x 21 (Nat.le_refl _)
  have h2 : kTo 21 = 16 := by decide
  rw [h2, Nat.mod_eq_of_lt hx] at h
  exact h

theorem bit_flip_eq (c k : Nat) : bit (c ^^^ 2 ^ k) k = 1 - bit c k := by
  rw [bit_test, bit_test, Nat.testBit_xor, Nat.testBit_two_pow]
  cases c.testBit k <;> simp
theorem pop_flip (c k m : Nat) : popTo (c ^^^ 2 ^ k) m + (if k < m then 2 * bit c k else 0) = popTo c m + (if k < m then 1 else 0) := by
  induction m with
  | zero => simp [popTo]
  | succ m ih =>
    rw [popTo, popTo]
    have hb := bit_le c k
    rcases Nat.lt_trichotomy k m with h | h | h
    · rw [bit_flip_ne (by omega)]
      simp only [h, if_true, show k < m + 1 by omega] at ih ⊢
      omega
    · subst h
      rw [bit_flip_eq]
      simp only [Nat.lt_irrefl, if_false, Nat.add_zero, show k < k + 1 by omega, if_true] at ih ⊢
      omega
    · rw [bit_flip_ne (by omega)]
      simp only [show ¬ k < m by omega, show ¬ k < m + 1 by omega, if_false] at ih ⊢
      omega
theorem ones_flip (c k : Nat) (hk : k < 22) : onesW (c ^^^ 2 ^ k) % 2 = (onesW c + 1) % 2 := by
  have := pop_flip c k 22
  simp only [hk, if_true] at this
  unfold onesW
  omega
theorem popTo_zero (m : Nat) : popTo 0 m = 0 := by
  induction m with
  | zero => rfl
  | succ m ih => rw [popTo, ih]; simp [bit]
theorem ones_pow (k : Nat) (hk : k < 22) : onesW (2 ^ k) = 1 := by
  have := pop_flip 0 k 22
  have h0 : bit 0 k = 0 := by simp [bit]
  simp only [hk, if_true, Nat.zero_xor, popTo_zero, h0] at this
  unfold onesW
  omega
theorem synTo_pow (k m : Nat) : synTo (2 ^ k) m = if k < m then k + 1 else 0 := by
  induction m with
  | zero => simp [synTo]
  | succ m ih =>
    rw [synTo, ih]
    by_cases h : k = m
    · subst h
      have : bit (2 ^ k) k = 1 := by rw [bit_one, Nat.testBit_two_pow]; simp
      simp [this]
    · have : ¬ bit (2 ^ k) m = 1 := by rw [bit_one, Nat.testBit_two_pow]; simp [h]
      rw [if_neg this]
      by_cases h1 : k < m
      · simp [h1, show k < m + 1 by omega]
      · simp [h1, show ¬ k < m + 1 by omega]
theorem syn_flip (c k : Nat) (hk : k < 21) : synW (c ^^^ 2 ^ k) = synW c ^^^ (k + 1) := by
  unfold synW
  refine (lin_syn 21 c (2 ^ k)).trans ?_
  simp only [synTo_pow, hk, if_true]
theorem syn_flip21 (c : Nat) : synW (c ^^^ 2 ^ 21) = synW c := by
  unfold synW
  refine (lin_syn 21 c (2 ^ 21)).trans ?_
  simp only [synTo_pow, Nat.lt_irrefl, if_false, Nat.xor_zero]
end Go.Proofs.Ytclmhnghpnfnkaa.Cw
