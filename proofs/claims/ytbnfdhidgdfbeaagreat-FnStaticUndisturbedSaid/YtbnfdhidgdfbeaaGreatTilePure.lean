/- Codewords: plain arithmetic; no program in sight. Codewords: one flipped bit is found; plain arithmetic. Tile configurations: numbers in the bits of words, put there and read again; plain. -/
import Derived.Laws.BitsAllLaws
import Derived.Test.YtbnfdhidgdfbeaaGreatCopies
import Derived.Test.YtbnfdhidgdfbeaaGreatTree
namespace Go.Proofs.YtbnfdhidgdfbeaaGreat.Cw

/-- Is p a power of two (a check position)? -/
def isP (p:Nat):Bool:=p &&& (p - 1)==0
/-- How many of the positions 1 to i hold data. -/
def kTo:Nat→Nat
 | 0=>0
 | i+1=>kTo i+if isP (i+1) then 0 else 1
def bit (x i:Nat):Nat:=x / 2 ^ i % 2
def spreadTo (x:Nat):Nat→Nat
 | 0=>0
 | i+1=>spreadTo x i+if isP (i+1) then 0 else bit x (kTo i) * 2 ^ i
def gatherTo (c:Nat):Nat→Nat
 | 0=>0
 | i+1=>gatherTo c i+if isP (i+1) then 0 else bit c i * 2 ^ kTo i
def synTo (c:Nat):Nat→Nat
 | 0=>0
 | i+1=>if bit c i=1 then synTo c i ^^^ (i+1) else synTo c i
def chkTo (o s:Nat):Nat→Nat
 | 0=>o
 | j+1=>chkTo o s j ||| bit s j * 2 ^ (2 ^ j - 1)
def popTo (c:Nat):Nat→Nat
 | 0=>0
 | i+1=>popTo c i+bit c i
def body (x:Nat):Nat:=chkTo (spreadTo x 21) (synTo (spreadTo x 21) 21) 5
def encW (x:Nat):Nat:=body x+popTo (body x) 22 % 2 * 2 ^ 21
def dataW (c:Nat):Nat:=gatherTo c 21
def synW (c:Nat):Nat:=synTo c 21
def onesW (c:Nat):Nat:=popTo c 22

theorem bit_le (x i:Nat):bit x i≤1:=by unfold bit;omega
theorem bit_test (x i:Nat):bit x i=if x.testBit i then 1 else 0:=by
 rw [Nat.testBit_eq_decide_div_mod_eq]
 unfold bit
 by_cases h:x / 2 ^ i % 2=1
 ·simp [h]
 ·simp [h];omega
theorem bit_one (x i:Nat):bit x i=1↔x.testBit i=true:=by rw [bit_test];split <;> simp_all
theorem bit_zero_of_lt {x i:Nat} (h:x<2 ^ i):bit x i=0:=by unfold bit;rw [Nat.div_eq_of_lt h]
theorem add_pow_test {x m b i:Nat} (h:x<2 ^ m) (hb:b≤1):(x+b * 2 ^ m).testBit i=if i=m then decide (b=1) else x.testBit i:=by
 rcases Nat.lt_or_ge 0 b with h0|h0
 ·obtain rfl:b=1:=by omega
  rw [Nat.one_mul,Nat.add_comm,←Go.nat_join m (2 ^ m) x (Nat.mod_self _) h]
  rw [Nat.testBit_or,Nat.testBit_two_pow]
  by_cases hi:i=m
  ·subst hi;simp
  ·simp [hi,Ne.symm hi]
 ·obtain rfl:b=0:=by omega
  by_cases hi:i=m
  ·subst hi;simp [Nat.testBit_lt_two_pow h]
  ·simp [hi]
theorem add_pow_lt {x m b:Nat} (h:x<2 ^ m) (hb:b≤1):x+b * 2 ^ m<2 ^ (m+1):=by
 rw [Nat.pow_succ]
 rcases Nat.lt_or_ge 0 b with h0|h0
 ·obtain rfl:b=1:=by omega
  omega
 ·obtain rfl:b=0:=by omega
  omega
theorem lt_pow_succ {x m:Nat} (h:x<2 ^ m):x<2 ^ (m+1):=by rw [Nat.pow_succ];omega

theorem spreadTo_lt (x i:Nat):spreadTo x i<2 ^ i:=by
 induction i with
 | zero=>simp [spreadTo]
 | succ i ih =>
  unfold spreadTo
  split
  ·simpa using lt_pow_succ ih
  ·exact add_pow_lt ih (bit_le _ _)
theorem spreadTo_test (x m i:Nat):(spreadTo x m).testBit i=(decide (i<m) && (!isP (i+1) && x.testBit (kTo i))):=by
 induction m with
 | zero=>simp [spreadTo]
 | succ m ih =>
  unfold spreadTo
  split
  ·rename_i hp
   rw [Nat.add_zero,ih]
   by_cases hi:i=m
   ·subst hi;simp [hp]
   ·have:(i<m+1)=(i<m):=propext (by omega)
    simp [this]
  ·rename_i hp
   rw [add_pow_test (spreadTo_lt x m) (bit_le _ _),ih]
   by_cases hi:i=m
   ·subst hi
    have hp':isP (i+1)=false:=by simpa using hp
    simp only [if_true,hp',Bool.not_false,Bool.true_and,show decide (i<i+1)=true from by simp]
    rw [bit_test]
    cases x.testBit (kTo i) <;> simp
   ·have:(i<m+1)=(i<m):=propext (by omega)
    simp [hi,this]
theorem kTo_le (i:Nat):kTo i≤i:=by
 induction i with
 | zero=>simp [kTo]
 | succ i ih=>unfold kTo;split <;> omega
theorem gatherTo_lt (c i:Nat):gatherTo c i<2 ^ kTo i:=by
 induction i with
 | zero=>simp [gatherTo,kTo]
 | succ i ih =>
  by_cases hp:isP (i+1)=true
  ·simpa [gatherTo,kTo,hp] using ih
  ·simp only [gatherTo,kTo,hp]
   exact add_pow_lt ih (bit_le _ _)
theorem xor_lt {a b n:Nat} (ha:a<2 ^ n) (hb:b<2 ^ n):a ^^^ b<2 ^ n:=Nat.xor_lt_two_pow ha hb
theorem synTo_lt (c i:Nat) (hi:i≤31):synTo c i<2 ^ 5:=by
 induction i with
 | zero=>simp [synTo]
 | succ i ih =>
  unfold synTo
  split
  ·exact xor_lt (ih (by omega)) (by omega)
  ·exact ih (by omega)
theorem popTo_le (c i:Nat):popTo c i≤i:=by
 induction i with
 | zero=>simp [popTo]
 | succ i ih=>unfold popTo;have:=bit_le c i;omega

/-! ### check bits -/
theorem clear_chk (x:Nat) (j:Nat) (hj:j<5):(spreadTo x 21).testBit (2 ^ j - 1)=false:=by
 rw [spreadTo_test]
 have:isP (2 ^ j - 1+1)=true:=by
  rcases (by omega:j=0∨j=1∨j=2∨j=3∨j=4) with rfl|rfl|rfl|rfl|rfl <;> decide
 simp [this]
theorem add_clear {a k:Nat} (ha:a<2147483648) (hk:k<31) (h:a.testBit k=false):a+2 ^ k=a ||| 2 ^ k:=by
 have hp:2 ^ k<2147483648:=Nat.lt_of_lt_of_le (Nat.pow_lt_pow_right (by omega) hk) (by decide)
 have hz:BitVec.ofNat 32 a &&& BitVec.ofNat 32 (2 ^ k)=0#32:=by
  apply BitVec.eq_of_toNat_eq
  rw [BitVec.toNat_and,BitVec.toNat_ofNat,BitVec.toNat_ofNat,Nat.mod_eq_of_lt (by omega),Nat.mod_eq_of_lt (by omega),Go.nat_bit]
  rw [Nat.testBit_eq_decide_div_mod_eq] at h
  have:a / 2 ^ k % 2=0:=by simp at h;omega
  rw [this];simp
 have he:=congrArg BitVec.toNat (BitVec.add_eq_or_of_and_eq_zero _ _ hz)
 rw [BitVec.toNat_add,BitVec.toNat_or,BitVec.toNat_ofNat,BitVec.toNat_ofNat,Nat.mod_eq_of_lt (show a<2 ^ 32 by omega),Nat.mod_eq_of_lt (show 2 ^ k<2 ^ 32 by omega),Nat.mod_eq_of_lt (by omega)] at he
 exact he
theorem chk_lt {o s:Nat} (ho:o<2 ^ 21) (j:Nat) (hj:j≤5):chkTo o s j<2 ^ 21:=by
 induction j with
 | zero=>exact ho
 | succ j ih =>
  unfold chkTo
  refine Nat.or_lt_two_pow (ih (by omega)) ?_
  have hb:=bit_le s j
  have hp:2 ^ (2 ^ j - 1)≤2 ^ 15:=Nat.pow_le_pow_right (by omega) (by
   have:2 ^ j≤2 ^ 4:=Nat.pow_le_pow_right (by omega) (by omega)
   omega)
  have:bit s j * 2 ^ (2 ^ j - 1)≤1 * 2 ^ 15:=Nat.mul_le_mul hb hp
  omega
theorem chk_test {o s m t:Nat} (h:∀i,i<m→t≠2 ^ i - 1):(chkTo o s m).testBit t=o.testBit t:=by
 induction m with
 | zero=>rfl
 | succ m ih =>
  unfold chkTo
  rw [Nat.testBit_or,ih (fun i hi=>h i (by omega))]
  have hne:=h m (by omega)
  have:(bit s m * 2 ^ (2 ^ m - 1)).testBit t=false:=by
   have hb:=bit_le s m
   rcases Nat.lt_or_ge 0 (bit s m) with h0|h0
   ·rw [show bit s m=1 by omega,Nat.one_mul,Nat.testBit_two_pow]
    simp;omega
   ·rw [show bit s m=0 by omega,Nat.zero_mul];simp
  simp [this]
theorem chk_clear (x s j:Nat) (hj:j<5):(chkTo (spreadTo x 21) s j).testBit (2 ^ j - 1)=false:=by
 rw [chk_test,clear_chk x j hj]
 intro i hi
 have h1:2 ^ i<2 ^ j:=Nat.pow_lt_pow_right (by omega) hi
 have h2:0<2 ^ i:=Nat.two_pow_pos i
 omega
theorem chk_add (x s j:Nat) (hj:j<5):chkTo (spreadTo x 21) s j+bit s j * 2 ^ (2 ^ j - 1)=chkTo (spreadTo x 21) s (j+1):=by
 have hb:=bit_le s j
 have hl:=chk_lt (s:=s) (spreadTo_lt x 21) j (by omega)
 rcases Nat.lt_or_ge 0 (bit s j) with h0|h0
 ·have h1:bit s j=1:=by omega
  have hk:2 ^ j≤2 ^ 4:=Nat.pow_le_pow_right (by omega) (by omega)
  rw [chkTo,h1,Nat.one_mul]
  exact add_clear (by omega) (by omega) (chk_clear x s j hj)
 ·have h1:bit s j=0:=by omega
  rw [chkTo,h1];simp
theorem gatherTo_congr {c c' i:Nat} (h:∀j,j<i→bit c j=bit c' j):gatherTo c i=gatherTo c' i:=by
 induction i with
 | zero=>rfl
 | succ i ih=>rw [gatherTo,gatherTo,ih (fun j hj=>h j (by omega)),h i (by omega)]
theorem bit_flip_ne {c k j:Nat} (h:j≠k):bit (c ^^^ 2 ^ k) j=bit c j:=by
 rw [bit_test,bit_test,Nat.testBit_xor,Nat.testBit_two_pow]
 simp [Ne.symm h]
theorem dataW_flip21 (c:Nat):dataW (c ^^^ 2097152)=dataW c :=
 gatherTo_congr fun j hj=>bit_flip_ne (k:=21) (by omega)
theorem body_lt (x:Nat):body x<2 ^ 21:=chk_lt (spreadTo_lt x 21) 5 (by omega)
theorem encW_lt (x:Nat):encW x<4194304:=by
 have:=body_lt x
 unfold encW
 omega
end Go.Proofs.YtbnfdhidgdfbeaaGreat.Cw

namespace Go.Proofs.YtbnfdhidgdfbeaaGreat.Cw

def Lin (f:Nat→Nat):Prop:=∀a b,f (a ^^^ b)=f a ^^^ f b
theorem Lin.bit (i c:Nat):Lin fun x=>if x.testBit i then c else 0:=by
 intro a b
 simp only [Nat.testBit_xor]
 cases a.testBit i <;> cases b.testBit i <;> simp
theorem xor_swap (p q r s:Nat):p ^^^ q ^^^ (r ^^^ s)=p ^^^ r ^^^ (q ^^^ s):=by
 rw [Nat.xor_assoc,←Nat.xor_assoc q r s,Nat.xor_comm q r,Nat.xor_assoc r q s,←Nat.xor_assoc]
theorem Lin.xor {f g:Nat→Nat} (hf:Lin f) (hg:Lin g):Lin fun x=>f x ^^^ g x:=by
 intro a b
 simp only [hf a b,hg a b]
 exact xor_swap _ _ _ _
theorem Lin.comp {f g:Nat→Nat} (hf:Lin f) (hg:Lin g):Lin fun x=>f (g x):=by
 intro a b
 simp only [hg a b,hf (g a) (g b)]
theorem Lin.zero {f:Nat→Nat} (hf:Lin f):f 0=0:=by
 have:=hf 0 0
 simpa using this
theorem Lin.all_zero {f:Nat→Nat} (hf:Lin f):∀n,(∀k,k<n→f (2 ^ k)=0)→∀x,x<2 ^ n→f x=0:=by
 intro n
 induction n with
 | zero=>intro _ x hx;rw [show x=0 by omega];exact hf.zero
 | succ n ih =>
  intro hb x hx
  rcases Nat.lt_or_ge x (2 ^ n) with h|h
  ·exact ih (fun k hk=>hb k (by omega)) x h
  ·have hx':x - 2 ^ n<2 ^ n:=by rw [Nat.pow_succ] at hx;omega
   have e:x=2 ^ n ^^^ (x - 2 ^ n):=by
    apply Nat.eq_of_testBit_eq
    intro i
    have:=add_pow_test (x:=x - 2 ^ n) (m:=n) (b:=1) (i:=i) hx' (Nat.le_refl _)
    rw [Nat.one_mul,Nat.sub_add_cancel h] at this
    rw [this,Nat.testBit_xor,Nat.testBit_two_pow]
    by_cases hi:i=n
    ·subst hi
     simp [Nat.testBit_lt_two_pow hx']
    ·simp [hi,Ne.symm hi]
   rw [e,hf,hb n (by omega),ih (fun k hk=>hb k (by omega)) _ hx']
   rfl

theorem or_clear {a k:Nat} (h:a.testBit k=false):a ||| 2 ^ k=a ^^^ 2 ^ k:=by
 apply Nat.eq_of_testBit_eq
 intro i
 rw [Nat.testBit_or,Nat.testBit_xor,Nat.testBit_two_pow]
 by_cases hi:k=i
 ·subst hi;simp [h]
 ·simp [hi]
theorem bit_mul (x i c:Nat):bit x i * c=if x.testBit i then c else 0:=by rw [bit_test];split <;> simp
theorem add_xor {a m b:Nat} (h:a<2 ^ m) (hb:b≤1):a+b * 2 ^ m=a ^^^ b * 2 ^ m:=by
 apply Nat.eq_of_testBit_eq
 intro i
 rw [add_pow_test h hb,Nat.testBit_xor]
 rcases (by omega:b=0∨b=1) with rfl|rfl
 ·by_cases hi:i=m
  ·subst hi;simp [Nat.testBit_lt_two_pow h]
  ·simp [hi]
 ·rw [Nat.one_mul,Nat.testBit_two_pow]
  by_cases hi:i=m
  ·subst hi;simp [Nat.testBit_lt_two_pow h]
  ·simp [hi,Ne.symm hi]

theorem lin_spread (m : Nat) : Lin fun x => spreadTo x m := by
  induction m with
  | zero => intro a b; simp [spreadTo]
  | succ m ih =>
    by_cases hp : isP (m + 1) = true
    · have e : (fun x => spreadTo x (m + 1)) = fun x => spreadTo x m := by funext x; simp [spreadTo, hp]
      rw [e]; exact ih
    · have e : (fun x => spreadTo x (m + 1)) = fun x => spreadTo x m ^^^ (if x.testBit (kTo m) then 2 ^ m else 0) := by
        funext x
        rw [spreadTo, if_neg hp, add_xor (spreadTo_lt x m) (bit_le _ _), bit_mul]
      rw [e]
      exact ih.xor (Lin.bit _ _)
theorem lin_syn (m:Nat):Lin fun c=>synTo c m:=by
 induction m with
 | zero=>intro a b;simp [synTo]
 | succ m ih =>
  have e:(fun c=>synTo c (m+1))=fun c=>synTo c m ^^^ (if c.testBit m then m+1 else 0):=by
   funext c
   rw [synTo]
   by_cases h:c.testBit m=true
   ·rw [if_pos ((bit_one c m).2 h),if_pos h]
   ·rw [if_neg (fun h'=>h ((bit_one c m).1 h')),if_neg h,Nat.xor_zero]
  rw [e]
  exact ih.xor (Lin.bit _ _)
def ckX (s:Nat):Nat→Nat
 | 0=>0
 | j+1=>ckX s j ^^^ (if s.testBit j then 2 ^ (2 ^ j - 1) else 0)
theorem lin_ckX (j:Nat):Lin fun s=>ckX s j:=by
 induction j with
 | zero=>intro a b;simp [ckX]
 | succ j ih=>exact ih.xor (Lin.bit _ _)
theorem chk_xor (x s j:Nat) (hj:j≤5):chkTo (spreadTo x 21) s j=spreadTo x 21 ^^^ ckX s j:=by
 induction j with
 | zero=>simp [chkTo,ckX]
 | succ j ih =>
  have hc:=chk_clear x s j (by omega)
  rw [chkTo,ckX,bit_mul,←Nat.xor_assoc,←ih (by omega)]
  split
  ·exact or_clear hc
  ·simp
theorem lin_body:Lin body:=by
 have e:body=fun x=>spreadTo x 21 ^^^ ckX (synTo (spreadTo x 21) 21) 5:=by
  funext x
  exact chk_xor x _ 5 (Nat.le_refl _)
 rw [e]
 exact (lin_spread 21).xor ((lin_ckX 5).comp ((lin_syn 21).comp (lin_spread 21)))
theorem syn_body (x:Nat) (hx:x<65536):synTo (body x) 21=0 :=
 ((lin_syn 21).comp lin_body).all_zero 16 (fun k hk=>by
  have:∀k:Fin 16,synTo (body (2 ^ k.val)) 21=0:=by decide +kernel
  exact this ⟨k,hk⟩) x hx

theorem synTo_congr {c c' i:Nat} (h:∀j,j<i→bit c j=bit c' j):synTo c i=synTo c' i:=by
 induction i with
 | zero=>rfl
 | succ i ih=>rw [synTo,synTo,ih (fun j hj=>h j (by omega)),h i (by omega)]
theorem popTo_congr {c c' i:Nat} (h:∀j,j<i→bit c j=bit c' j):popTo c i=popTo c' i:=by
 induction i with
 | zero=>rfl
 | succ i ih=>rw [popTo,popTo,ih (fun j hj=>h j (by omega)),h i (by omega)]
theorem encW_bit (x j:Nat):bit (encW x) j=if j=21 then popTo (body x) 22 % 2 else bit (body x) j:=by
 have h:=add_pow_test (i:=j) (body_lt x) (show popTo (body x) 22 % 2≤1 by omega)
 unfold encW
 rw [bit_test,h]
 by_cases hj:j=21
 ·rw [if_pos hj,if_pos hj]
  by_cases hp:popTo (body x) 22 % 2=1
  ·simp [hp]
  ·simp [hp];omega
 ·rw [if_neg hj,if_neg hj,←bit_test]
theorem syn_enc (x:Nat) (hx:x<65536):synW (encW x)=0:=by
 rw [synW,synTo_congr (c':=body x) (fun j hj=>by rw [encW_bit,if_neg (by omega)])]
 exact syn_body x hx
theorem ones_enc (x:Nat):onesW (encW x) % 2=0:=by
 have h1:popTo (encW x) 21=popTo (body x) 21:=popTo_congr fun j hj=>by rw [encW_bit,if_neg (by omega)]
 have h2:popTo (body x) 22=popTo (body x) 21:=by
  rw [popTo,bit_zero_of_lt (body_lt x),Nat.add_zero]
 have h3:=encW_bit x 21
 rw [if_pos rfl,h2] at h3
 rw [onesW,popTo,h1,h3]
 omega
theorem mod_pow_succ' (x k:Nat):x % 2 ^ (k+1)=x % 2 ^ k+bit x k * 2 ^ k:=by
 unfold bit
 rw [Nat.pow_succ,Nat.mod_mul,Nat.mul_comm]
theorem isP_false {t:Nat} (h:isP (t+1)=false) (i:Nat):t≠2 ^ i - 1:=by
 rintro rfl
 have h0:0<2 ^ i:=Nat.two_pow_pos i
 rw [show 2 ^ i - 1+1=2 ^ i by omega] at h
 unfold isP at h
 have:2 ^ i &&& (2 ^ i - 1)=0:=by
  apply Nat.eq_of_testBit_eq
  intro j
  rw [Nat.testBit_and,Nat.testBit_two_pow,Nat.testBit_two_pow_sub_one]
  simp
  omega
 rw [this] at h
 simp at h
theorem gather_enc (x:Nat) (i:Nat) (hi:i≤21):gatherTo (encW x) i=x % 2 ^ kTo i:=by
 induction i with
 | zero=>simp [gatherTo,kTo,Nat.mod_one]
 | succ i ih =>
  by_cases hp:isP (i+1)=true
  ·simp [gatherTo,kTo,hp,ih (by omega)]
  ·have hp':isP (i+1)=false:=by simpa using hp
   simp only [gatherTo,kTo,hp',ih (by omega),Bool.false_eq_true,if_false]
   rw [mod_pow_succ']
   congr 2
   rw [encW_bit,if_neg (by omega),bit_test,bit_test]
   unfold body
   rw [chk_test (fun b _=>isP_false hp' b),spreadTo_test]
   simp [hp',show i<21 by omega]
theorem data_enc (x:Nat) (hx:x<65536):dataW (encW x)=x:=by
 have h:=gather_enc x 21 (Nat.le_refl _)
 have h2:kTo 21=16:=by decide
 rw [h2,Nat.mod_eq_of_lt hx] at h
 exact h

theorem bit_flip_eq (c k:Nat):bit (c ^^^ 2 ^ k) k=1 - bit c k:=by
 rw [bit_test,bit_test,Nat.testBit_xor,Nat.testBit_two_pow]
 cases c.testBit k <;> simp
theorem pop_flip (c k m:Nat):popTo (c ^^^ 2 ^ k) m+(if k<m then 2 * bit c k else 0)=popTo c m+(if k<m then 1 else 0):=by
 induction m with
 | zero=>simp [popTo]
 | succ m ih =>
  rw [popTo,popTo]
  have hb:=bit_le c k
  rcases Nat.lt_trichotomy k m with h|h|h
  ·rw [bit_flip_ne (by omega)]
   simp only [h,if_true,show k<m+1 by omega] at ih ⊢
   omega
  ·subst h
   rw [bit_flip_eq]
   simp only [Nat.lt_irrefl,if_false,Nat.add_zero,show k<k+1 by omega,if_true] at ih ⊢
   omega
  ·rw [bit_flip_ne (by omega)]
   simp only [show ¬k<m by omega,show ¬k<m+1 by omega,if_false] at ih ⊢
   omega
theorem ones_flip (c k:Nat) (hk:k<22):onesW (c ^^^ 2 ^ k) % 2=(onesW c+1) % 2:=by
 have:=pop_flip c k 22
 simp only [hk,if_true] at this
 unfold onesW
 omega
theorem synTo_pow (k m:Nat):synTo (2 ^ k) m=if k<m then k+1 else 0:=by
 induction m with
 | zero=>simp [synTo]
 | succ m ih =>
  rw [synTo,ih]
  by_cases h:k=m
  ·subst h
   have:bit (2 ^ k) k=1:=by rw [bit_one,Nat.testBit_two_pow];simp
   simp [this]
  ·have:¬bit (2 ^ k) m=1:=by rw [bit_one,Nat.testBit_two_pow];simp [h]
   rw [if_neg this]
   by_cases h1:k<m
   ·simp [h1,show k<m+1 by omega]
   ·simp [h1,show ¬k<m+1 by omega]
theorem syn_flip (c k:Nat) (hk:k<21):synW (c ^^^ 2 ^ k)=synW c ^^^ (k+1):=by
 unfold synW
 refine (lin_syn 21 c (2 ^ k)).trans ?_
 simp only [synTo_pow,hk,if_true]
theorem syn_flip21 (c:Nat):synW (c ^^^ 2 ^ 21)=synW c:=by
 unfold synW
 refine (lin_syn 21 c (2 ^ 21)).trans ?_
 simp only [synTo_pow,Nat.lt_irrefl,if_false,Nat.xor_zero]
end Go.Proofs.YtbnfdhidgdfbeaaGreat.Cw

namespace Go.Proofs.YtbnfdhidgdfbeaaGreat
set_option maxRecDepth 100000
open Cw

structure Le where
 sel:List Int
 mask:Int
 flop:Int
 init:Int
structure Tile where
 mux:List Int
 les:List Le
 pad:Int
 ram:Int
def Le.zero:Le:=⟨[],0,0,0⟩
def Tile.zero:Tile:=⟨[],[],0,0⟩
def Le.cells (e:Le):List Cel:=[celI e.sel,.int e.mask,.int e.flop,.int e.init]
def celE (es:List Le):Cel := .row 104 4 (es.flatMap Le.cells)
def Tile.cells (t:Tile):List Cel:=[celI t.mux,celE t.les,.int t.pad,.int t.ram]
def celT (ts:List Tile):Cel := .row 107 4 (ts.flatMap Tile.cells)

/-! ### reading -/
/-- Bit p of words of 16 bits. -/
def bitW (ws:List Int) (p:Nat):Nat:=bit (ws[p / 16]?.getD 0).toNat (p % 16)
def getTo (ws:List Int) (p:Nat):Nat→Nat
 | 0=>0
 | k+1=>getTo ws p k+bitW ws (p+k) * 2 ^ k
def getW (ws:List Int) (p n:Nat):Int:=((getTo ws p n:Nat):Int)
theorem getTo_lt (ws:List Int) (p n:Nat):getTo ws p n<2 ^ n:=by
 induction n with
 | zero=>simp [getTo]
 | succ n ih=>exact add_pow_lt ih (bit_le _ _)
theorem getW_bd (ws:List Int) (p n:Nat) (_h:n≤16):0≤getW ws p n∧getW ws p n<2 ^ n:=by
 have:=getTo_lt ws p n
 unfold getW
 exact ⟨by omega,by exact_mod_cast this⟩
def muxN (d:Dev):Nat:=(5+4 * d.T).toNat
def decLe (ws:List Int) (p:Nat):Le:=⟨[getW ws p 3,getW ws (p+3) 3,getW ws (p+6) 3,getW ws (p+9) 3],getW ws (p+12) 16,getW ws (p+28) 1,getW ws (p+29) 1⟩
def decMux (ws:List Int) (m:Nat):List Int:=(List.range m).map fun k=>getW ws (5 * k) 5
def decT (d:Dev) (ws:List Int):Tile :=
 ⟨decMux ws (muxN d),[decLe ws (5 * muxN d),decLe ws (5 * muxN d+30)],getW ws (5 * muxN d+60) 2,getW ws (5 * muxN d+62) 5⟩
/-- The data of a frame, and what a device's frames configure. -/
def dataI (c:Int):Int:=((dataW c.toNat:Nat):Int)
def dataOf (f:List Int):List Int:=f.map dataI
def tilesOf (d:Dev) (fs:List (List Int)):List Tile:=fs.map fun f=>decT d (dataOf f)
/-- The words of some tiles' frames, in order. -/
def wordsTo (fs:List (List Int)) (ts:List Int):Nat→List Int
 | 0=>[]
 | k+1=>wordsTo fs ts k++dataOf (fs[(ts[k]?.getD 0).toNat]?.getD [])
/-! ### writing -/
def putB (n:Nat) (x:Int):List Nat:=(List.range n).map fun i=>bit x.toNat i
def Le.bits (e:Le):List Nat:=e.sel.flatMap (putB 3)++(putB 16 e.mask++(putB 1 e.flop++putB 1 e.init))
def Tile.bits (t:Tile):List Nat:=t.mux.flatMap (putB 5)++(t.les.flatMap Le.bits++(putB 2 t.pad++putB 5 t.ram))
def packTo (N:Nat) (bs:List Nat):Nat→List Nat
 | 0=>List.replicate N 0
 | k+1=>(packTo N bs k).set (k / 16) ((packTo N bs k)[k / 16]?.getD 0+(bs[k]?.getD 0) * 2 ^ (k % 16))
def encT (d:Dev) (t:Tile):List Int:=(packTo (fwI d).toNat t.bits t.bits.length).map fun (x:Nat)=>(x:Int)
theorem packTo_length (N:Nat) (bs:List Nat) (k:Nat):(packTo N bs k).length=N:=by
 induction k with
 | zero=>simp [packTo]
 | succ k ih=>simp [packTo,ih]
def Bits01 (bs:List Nat):Prop:=∀i:Nat,bs[i]?.getD 0≤1
theorem packTo_lt {N:Nat} {bs:List Nat} (hb:Bits01 bs) (k j:Nat):(packTo N bs k)[j]?.getD 0<2 ^ (min 16 (k - 16 * j)):=by
 induction k with
 | zero =>
  simp only [packTo,List.getElem?_replicate]
  split <;> simp
 | succ k ih =>
  rw [packTo,List.getElem?_set]
  split
  ·rename_i h
   split
   ·rename_i hl
    subst h
    have e:min 16 (k+1 - 16 * (k / 16))=min 16 (k - 16 * (k / 16))+1:=by omega
    have e2:k % 16=min 16 (k - 16 * (k / 16)):=by omega
    rw [e,Option.getD_some,e2]
    exact add_pow_lt ih (hb k)
   ·simp [Nat.pow_pos]
  ·exact Nat.lt_of_lt_of_le ih (Nat.pow_le_pow_right (by omega) (by omega))
theorem packTo_top {N:Nat} {bs:List Nat} (hb:Bits01 bs) (k:Nat):(packTo N bs k)[k / 16]?.getD 0<2 ^ (k % 16):=by
 have:=packTo_lt (N:=N) hb k (k / 16)
 rwa [show min 16 (k - 16 * (k / 16))=k % 16 by omega] at this
theorem packTo_16 {N:Nat} {bs:List Nat} (hb:Bits01 bs) (k j:Nat):(packTo N bs k)[j]?.getD 0<65536 :=
 Nat.lt_of_lt_of_le (packTo_lt hb k j) (Nat.pow_le_pow_right (by omega) (show min 16 (k - 16 * j)≤16 by omega))
theorem putB_length (n:Nat) (x:Int):(putB n x).length=n:=by simp [putB]
theorem putB_get {n:Nat} {x:Int} {i:Nat} (h:i<n):(putB n x)[i]?=some (bit x.toNat i):=by simp [putB,h]
theorem flat_length {α β:Type} {f:α→List β} {L:Nat} (hf:∀x,(f x).length=L) (xs:List α):(xs.flatMap f).length=L * xs.length:=by
 induction xs with
 | nil=>simp
 | cons x xs ih=>simp [ih,hf,Nat.mul_add,Nat.add_comm]
theorem flat_get {α β:Type} {f:α→List β} {L:Nat} (hf:∀x,(f x).length=L):∀{xs:List α} {i k:Nat} {x:α},xs[i]?=some x→k<L→(xs.flatMap f)[L * i+k]?=(f x)[k]?
 | [],i,k,x,h,hk=>by simp at h
 | y :: ys,0,k,x,h,hk=>by
  simp at h
  subst h
  rw [List.flatMap_cons,Nat.mul_zero,Nat.zero_add,List.getElem?_append_left (by rw [hf];exact hk)]
 | y :: ys,i+1,k,x,h,hk=>by
  rw [List.flatMap_cons,List.getElem?_append_right (by rw [hf,Nat.mul_add];omega),hf,show L * (i+1)+k - L=L * i+k by rw [Nat.mul_add];omega]
  exact flat_get hf (by simpa using h) hk
theorem bits01_putB (n:Nat) (x:Int):Bits01 (putB n x):=by
 intro i
 rcases Nat.lt_or_ge i n with h|h
 ·rw [putB_get h];exact bit_le _ _
 ·rw [List.getElem?_eq_none (by rw [putB_length];exact h)];simp
theorem bits01_append {xs ys:List Nat} (hx:Bits01 xs) (hy:Bits01 ys):Bits01 (xs++ys):=by
 intro i
 rw [List.getElem?_append]
 split
 ·exact hx i
 ·exact hy _
theorem bits01_flat {α:Type} {f:α→List Nat} (hf:∀x,Bits01 (f x)) (xs:List α):Bits01 (xs.flatMap f):=by
 induction xs with
 | nil=>intro i;simp
 | cons x xs ih=>rw [List.flatMap_cons];exact bits01_append (hf x) ih
theorem Le.bits01 (e:Le):Bits01 e.bits:=bits01_append (bits01_flat (bits01_putB 3) _) (bits01_append (bits01_putB _ _) (bits01_append (bits01_putB _ _) (bits01_putB _ _)))
theorem Tile.bits01 (t:Tile):Bits01 t.bits:=bits01_append (bits01_flat (bits01_putB 5) _) (bits01_append (bits01_flat Le.bits01 _) (bits01_append (bits01_putB _ _) (bits01_putB _ _)))

/-! ### which tiles are valid -/
def leOk (e:Le):Bool:=decide (e.sel.length=4) && (inR e.mask 0 65535 && (inR e.flop 0 1 && (inR e.init 0 1 && allIn e.sel 7)))
def tileOk (d:Dev) (t:Tile):Bool :=
 devOk d && (decide (t.mux.length=muxN d) && (decide (t.les.length=2) && (inR t.pad 0 3 && (inR t.ram 0 31 && (allIn t.mux 31 && (leOk (t.les[0]?.getD Le.zero) && leOk (t.les[1]?.getD Le.zero)))))))
structure TileFit (d:Dev) (t:Tile):Prop where
 dev:devOk d=true
 mux:t.mux.length=muxN d
 les:∃e0 e1,t.les=[e0,e1]∧leOk e0=true∧leOk e1=true
 pad:0≤t.pad∧t.pad≤3
 ram:0≤t.ram∧t.ram≤31
 muxIn:∀j,j<t.mux.length→0≤t.mux[j]?.getD 0∧t.mux[j]?.getD 0≤31
theorem tileOk_iff {d:Dev} {t:Tile} (h:tileOk d t=true):TileFit d t:=by
 simp only [tileOk,Bool.and_eq_true,decide_eq_true_eq] at h
 obtain ⟨h1,h2,h3,h4,h5,h6,h7,h8⟩:=h
 refine ⟨h1,h2,?_,inR_iff.1 h4,inR_iff.1 h5,fun j hj=>allIn_get h6 hj⟩
 match hl:t.les,h3 with
 | [e0,e1],_ =>
  rw [hl] at h7 h8
  exact ⟨e0,e1,rfl,by simpa using h7,by simpa using h8⟩
structure LeFit (e:Le):Prop where
 sel:∃a b c d,e.sel=[a,b,c,d]∧(0≤a∧a≤7)∧(0≤b∧b≤7)∧(0≤c∧c≤7)∧(0≤d∧d≤7)
 mask:0≤e.mask∧e.mask≤65535
 flop:0≤e.flop∧e.flop≤1
 init:0≤e.init∧e.init≤1
theorem leOk_iff {e:Le} (h:leOk e=true):LeFit e:=by
 simp only [leOk,Bool.and_eq_true,decide_eq_true_eq] at h
 obtain ⟨h1,h2,h3,h4,h5⟩:=h
 refine ⟨?_,inR_iff.1 h2,inR_iff.1 h3,inR_iff.1 h4⟩
 match hl:e.sel,h1 with
 | [a,b,c,d],_ =>
  rw [hl] at h5
  have g:=fun (k:Nat) (hk:k<4)=>allIn_get h5 (k:=k) hk
  exact ⟨a,b,c,d,rfl,by simpa using g 0 (by omega),by simpa using g 1 (by omega),by simpa using g 2 (by omega),by simpa using g 3 (by omega)⟩
theorem muxN_bd {d:Dev} (h:devOk d=true):(muxN d:Int)=5+4 * d.T∧9≤muxN d∧muxN d≤21∧5 * muxN d+67≤16 * (fwI d).toNat∧7≤(fwI d).toNat∧(fwI d).toNat≤11:=by
 have:=devOk_bd h
 unfold muxN fwI
 omega
theorem le_bits_length {e:Le} (h:leOk e=true):e.bits.length=30:=by
 obtain ⟨a,b,c,d,hs,_⟩:=(leOk_iff h).sel
 simp [Le.bits,hs,putB_length]
theorem tile_bits_length {d:Dev} {t:Tile} (h:tileOk d t=true):t.bits.length=5 * muxN d+67:=by
 obtain ⟨hd,hm,⟨e0,e1,hl,h0,h1⟩,_,_,_⟩:=tileOk_iff h
 simp [Tile.bits,hl,putB_length,le_bits_length h0,le_bits_length h1,flat_length (putB_length 5),hm]
theorem encT_length (d:Dev) (t:Tile):(encT d t).length=(fwI d).toNat:=by simp [encT,packTo_length]
theorem encT_get {d:Dev} {t:Tile} (j:Nat):(encT d t)[j]?.getD 0=(((packTo (fwI d).toNat t.bits t.bits.length)[j]?.getD 0:Nat):Int):=by
 simp only [encT,List.getElem?_map]
 cases (packTo (fwI d).toNat t.bits t.bits.length)[j]? <;> rfl
theorem encT_bd (d:Dev) (t:Tile) (j:Nat):0≤(encT d t)[j]?.getD 0∧(encT d t)[j]?.getD 0≤65535:=by
 rw [encT_get]
 have:=packTo_16 (N:=(fwI d).toNat) t.bits01 t.bits.length j
 omega
end Go.Proofs.YtbnfdhidgdfbeaaGreat
