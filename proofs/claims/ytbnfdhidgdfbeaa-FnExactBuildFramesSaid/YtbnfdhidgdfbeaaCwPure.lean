/- Codewords: plain arithmetic; no program in sight. -/
import Derived.Laws.BitsAllLaws
namespace Go.Proofs.Ytbnfdhidgdfbeaa.Cw

/-- Is p a power of two (a check position)? -/
def isP (p:Nat):Bool:=p &&& (p - 1)==0
/-- How many of the positions 1 to i hold data. -/
def kTo:Nat→Nat
 | 0=>0
 | i+1=>kTo i+if isP (i+1) then 0 else 1
def bit (x i:Nat):Nat:=x / 2 ^ i % 2
def spreadTo (x:Nat):Nat→Nat
 | 0=>0
 | i+1=>spreadTo x i+if isP (i+1) then 0 else bit x (kTo i) * 2 ^ i
def synTo (c:Nat):Nat→Nat
 | 0=>0
 | i+1=>if bit c i=1 then synTo c i ^^^ (i+1) else synTo c i
def chkTo (o s:Nat):Nat→Nat
 | 0=>o
 | j+1=>chkTo o s j ||| bit s j * 2 ^ (2 ^ j - 1)
def popTo (c:Nat):Nat→Nat
 | 0=>0
 | i+1=>popTo c i+bit c i
def body (x:Nat):Nat:=chkTo (spreadTo x 21) (synTo (spreadTo x 21) 21) 5
def encW (x:Nat):Nat:=body x+popTo (body x) 22 % 2 * 2 ^ 21
def synW (c:Nat):Nat:=synTo c 21
def onesW (c:Nat):Nat:=popTo c 22

theorem bit_le (x i:Nat):bit x i≤1:=by unfold bit;omega
theorem bit_test (x i:Nat):bit x i=if x.testBit i then 1 else 0:=by
 rw [Nat.testBit_eq_decide_div_mod_eq]
 unfold bit
 by_cases h:x / 2 ^ i % 2=1
 ·simp [h]
 ·simp [h];omega
theorem add_pow_test {x m b i:Nat} (h:x<2 ^ m) (hb:b≤1):(x+b * 2 ^ m).testBit i=if i=m then decide (b=1) else x.testBit i:=by
 rcases Nat.lt_or_ge 0 b with h0|h0
 ·obtain rfl:b=1:=by omega
  rw [Nat.one_mul,Nat.add_comm,←Go.nat_join m (2 ^ m) x (Nat.mod_self _) h]
  rw [Nat.testBit_or,Nat.testBit_two_pow]
  by_cases hi:i=m
  ·subst hi;simp
  ·simp [hi,Ne.symm hi]
 ·obtain rfl:b=0:=by omega
  by_cases hi:i=m
  ·subst hi;simp [Nat.testBit_lt_two_pow h]
  ·simp [hi]
theorem add_pow_lt {x m b:Nat} (h:x<2 ^ m) (hb:b≤1):x+b * 2 ^ m<2 ^ (m+1):=by
 rw [Nat.pow_succ]
 rcases Nat.lt_or_ge 0 b with h0|h0
 ·obtain rfl:b=1:=by omega
  omega
 ·obtain rfl:b=0:=by omega
  omega
theorem lt_pow_succ {x m:Nat} (h:x<2 ^ m):x<2 ^ (m+1):=by rw [Nat.pow_succ];omega

theorem spreadTo_lt (x i:Nat):spreadTo x i<2 ^ i:=by
 induction i with
 | zero=>simp [spreadTo]
 | succ i ih =>
  unfold spreadTo
  split
  ·simpa using lt_pow_succ ih
  ·exact add_pow_lt ih (bit_le _ _)
theorem spreadTo_test (x m i:Nat):(spreadTo x m).testBit i=(decide (i<m) && (!isP (i+1) && x.testBit (kTo i))):=by
 induction m with
 | zero=>simp [spreadTo]
 | succ m ih =>
  unfold spreadTo
  split
  ·rename_i hp
   rw [Nat.add_zero,ih]
   by_cases hi:i=m
   ·subst hi;simp [hp]
   ·have:(i<m+1)=(i<m):=propext (by omega)
    simp [this]
  ·rename_i hp
   rw [add_pow_test (spreadTo_lt x m) (bit_le _ _),ih]
   by_cases hi:i=m
   ·subst hi
    have hp':isP (i+1)=false:=by simpa using hp
    simp only [if_true,hp',Bool.not_false,Bool.true_and,show decide (i<i+1)=true from by simp]
    rw [bit_test]
    cases x.testBit (kTo i) <;> simp
   ·have:(i<m+1)=(i<m):=propext (by omega)
    simp [hi,this]
theorem kTo_le (i:Nat):kTo i≤i:=by
 induction i with
 | zero=>simp [kTo]
 | succ i ih=>unfold kTo;split <;> omega
theorem xor_lt {a b n:Nat} (ha:a<2 ^ n) (hb:b<2 ^ n):a ^^^ b<2 ^ n:=Nat.xor_lt_two_pow ha hb
theorem synTo_lt (c i:Nat) (hi:i≤31):synTo c i<2 ^ 5:=by
 induction i with
 | zero=>simp [synTo]
 | succ i ih =>
  unfold synTo
  split
  ·exact xor_lt (ih (by omega)) (by omega)
  ·exact ih (by omega)
theorem popTo_le (c i:Nat):popTo c i≤i:=by
 induction i with
 | zero=>simp [popTo]
 | succ i ih=>unfold popTo;have:=bit_le c i;omega

/-! ### check bits -/
theorem clear_chk (x:Nat) (j:Nat) (hj:j<5):(spreadTo x 21).testBit (2 ^ j - 1)=false:=by
 rw [spreadTo_test]
 have:isP (2 ^ j - 1+1)=true:=by
  rcases (by omega:j=0∨j=1∨j=2∨j=3∨j=4) with rfl|rfl|rfl|rfl|rfl <;> decide
 simp [this]
theorem add_clear {a k:Nat} (ha:a<2147483648) (hk:k<31) (h:a.testBit k=false):a+2 ^ k=a ||| 2 ^ k:=by
 have hp:2 ^ k<2147483648:=Nat.lt_of_lt_of_le (Nat.pow_lt_pow_right (by omega) hk) (by decide)
 have hz:BitVec.ofNat 32 a &&& BitVec.ofNat 32 (2 ^ k)=0#32:=by
  apply BitVec.eq_of_toNat_eq
  rw [BitVec.toNat_and,BitVec.toNat_ofNat,BitVec.toNat_ofNat,Nat.mod_eq_of_lt (by omega),Nat.mod_eq_of_lt (by omega),Go.nat_bit]
  rw [Nat.testBit_eq_decide_div_mod_eq] at h
  have:a / 2 ^ k % 2=0:=by simp at h;omega
  rw [this];simp
 have he:=congrArg BitVec.toNat (BitVec.add_eq_or_of_and_eq_zero _ _ hz)
 rw [BitVec.toNat_add,BitVec.toNat_or,BitVec.toNat_ofNat,BitVec.toNat_ofNat,Nat.mod_eq_of_lt (show a<2 ^ 32 by omega),Nat.mod_eq_of_lt (show 2 ^ k<2 ^ 32 by omega),Nat.mod_eq_of_lt (by omega)] at he
 exact he
theorem chk_lt {o s:Nat} (ho:o<2 ^ 21) (j:Nat) (hj:j≤5):chkTo o s j<2 ^ 21:=by
 induction j with
 | zero=>exact ho
 | succ j ih =>
  unfold chkTo
  refine Nat.or_lt_two_pow (ih (by omega)) ?_
  have hb:=bit_le s j
  have hp:2 ^ (2 ^ j - 1)≤2 ^ 15:=Nat.pow_le_pow_right (by omega) (by
   have:2 ^ j≤2 ^ 4:=Nat.pow_le_pow_right (by omega) (by omega)
   omega)
  have:bit s j * 2 ^ (2 ^ j - 1)≤1 * 2 ^ 15:=Nat.mul_le_mul hb hp
  omega
theorem chk_test {o s m t:Nat} (h:∀i,i<m→t≠2 ^ i - 1):(chkTo o s m).testBit t=o.testBit t:=by
 induction m with
 | zero=>rfl
 | succ m ih =>
  unfold chkTo
  rw [Nat.testBit_or,ih (fun i hi=>h i (by omega))]
  have hne:=h m (by omega)
  have:(bit s m * 2 ^ (2 ^ m - 1)).testBit t=false:=by
   have hb:=bit_le s m
   rcases Nat.lt_or_ge 0 (bit s m) with h0|h0
   ·rw [show bit s m=1 by omega,Nat.one_mul,Nat.testBit_two_pow]
    simp;omega
   ·rw [show bit s m=0 by omega,Nat.zero_mul];simp
  simp [this]
theorem chk_clear (x s j:Nat) (hj:j<5):(chkTo (spreadTo x 21) s j).testBit (2 ^ j - 1)=false:=by
 rw [chk_test,clear_chk x j hj]
 intro i hi
 have h1:2 ^ i<2 ^ j:=Nat.pow_lt_pow_right (by omega) hi
 have h2:0<2 ^ i:=Nat.two_pow_pos i
 omega
theorem chk_add (x s j:Nat) (hj:j<5):chkTo (spreadTo x 21) s j+bit s j * 2 ^ (2 ^ j - 1)=chkTo (spreadTo x 21) s (j+1):=by
 have hb:=bit_le s j
 have hl:=chk_lt (s:=s) (spreadTo_lt x 21) j (by omega)
 rcases Nat.lt_or_ge 0 (bit s j) with h0|h0
 ·have h1:bit s j=1:=by omega
  have hk:2 ^ j≤2 ^ 4:=Nat.pow_le_pow_right (by omega) (by omega)
  rw [chkTo,h1,Nat.one_mul]
  exact add_clear (by omega) (by omega) (chk_clear x s j hj)
 ·have h1:bit s j=0:=by omega
  rw [chkTo,h1];simp
theorem body_lt (x:Nat):body x<2 ^ 21:=chk_lt (spreadTo_lt x 21) 5 (by omega)
theorem encW_lt (x:Nat):encW x<4194304:=by
 have:=body_lt x
 unfold encW
 omega
end Go.Proofs.Ytbnfdhidgdfbeaa.Cw
