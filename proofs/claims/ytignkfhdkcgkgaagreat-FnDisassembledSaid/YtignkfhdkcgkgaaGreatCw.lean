/- Bit operations of int on numbers that are not below 0; plain lemmas. Devices and regions: which are valid, and what kind a tile has: the program's answers and the reference's are one. PadsFor: the program's and the reference's make one list. Codewords: plain arithmetic; no program in sight. Codewords: the walks of the program's and the reference's functions. -/
import Derived.Laws.BitsAllLaws
import Derived.Laws.BitsLemmas
import Derived.Test.YtignkfhdkcgkgaaGreatHar
namespace Go.Proofs.YtignkfhdkcgkgaaGreat
set_option maxRecDepth 100000
open Go.RowKit

theorem ofInt_i64 (a:Nat) (ha:a<9223372036854775808):(BitVec.ofInt 64 (a:Int)).toNat=a:=by
 rw [BitVec.ofInt_natCast,BitVec.toNat_ofNat];exact Nat.mod_eq_of_lt (by omega)
theorem i64_and_nat (a b:Nat) (ha:a<9223372036854775808) (hb:b<9223372036854775808):bits .and .i64 (a:Int) (b:Int)=((a &&& b:Nat):Int):=by
 have hx:a &&& b<2 ^ 63:=Nat.and_lt_two_pow _ (by omega)
 show IntKind.i64.wrap ((BitVec.ofInt 64 (a:Int) &&& BitVec.ofInt 64 (b:Int)).toNat:Int)=_
 rw [BitVec.toNat_and,ofInt_i64 a ha,ofInt_i64 b hb,IntKind.wrap_i64]
 omega
theorem i64_or_nat (a b:Nat) (ha:a<9223372036854775808) (hb:b<9223372036854775808):bits .or .i64 (a:Int) (b:Int)=((a ||| b:Nat):Int):=by
 have hx:a ||| b<2 ^ 63:=Nat.or_lt_two_pow (by omega) (by omega)
 show IntKind.i64.wrap ((BitVec.ofInt 64 (a:Int) ||| BitVec.ofInt 64 (b:Int)).toNat:Int)=_
 rw [BitVec.toNat_or,ofInt_i64 a ha,ofInt_i64 b hb,IntKind.wrap_i64]
 omega
theorem i64_xor_nat (a b:Nat) (ha:a<9223372036854775808) (hb:b<9223372036854775808):bits .xor .i64 (a:Int) (b:Int)=((a ^^^ b:Nat):Int):=by
 have hx:a ^^^ b<2 ^ 63:=Nat.xor_lt_two_pow (by omega) (by omega)
 show IntKind.i64.wrap ((BitVec.ofInt 64 (a:Int) ^^^ BitVec.ofInt 64 (b:Int)).toNat:Int)=_
 rw [BitVec.toNat_xor,ofInt_i64 a ha,ofInt_i64 b hb,IntKind.wrap_i64]
 omega
theorem or_pow (a k:Nat) (h:a<2 ^ k):a ||| 2 ^ k=a+2 ^ k:=by
 rw [Nat.or_comm,nat_join k (2 ^ k) a (Nat.mod_self _) h,Nat.add_comm]
theorem pow_le63 {k:Nat} (h:k≤62):2 ^ k<9223372036854775808:=Nat.lt_of_le_of_lt (Nat.pow_le_pow_right (by omega) h) (by decide)
theorem i64_or_pow (a:Int) (k:Nat) (h0:0≤a) (h:a<2 ^ k) (hk:k≤61):bits .or .i64 a (2 ^ k)=a+2 ^ k:=by
 obtain ⟨a,rfl⟩:=Int.eq_ofNat_of_zero_le h0
 have h':a<2 ^ k:=by exact_mod_cast h
 have hp:=pow_le63 (show k≤62 by omega)
 have e:((2:Int) ^ k)=((2 ^ k:Nat):Int):=by simp
 rw [e,i64_or_nat a (2 ^ k) (by omega) hp,or_pow a k h']
 simp
theorem int_pow_cast (k:Nat):((2:Int) ^ k)=((2 ^ k:Nat):Int):=by simp
theorem wrap_pow {k:Nat} (h:k≤62):wrap64 (2 ^ k)=2 ^ k:=by
 have hp:=pow_le63 h
 rw [int_pow_cast]
 generalize 2 ^ k=p at *
 exact IntWalk.wrap64_in _ ⟨by omega,by omega⟩
end Go.Proofs.YtignkfhdkcgkgaaGreat

namespace Go.Proofs.YtignkfhdkcgkgaaGreat
set_option maxRecDepth 100000
open Go.RowKit

def devOk (d:Dev):Bool:=inR d.W 3 6 && (inR d.H 3 6 && (inR d.T 1 4 && (decide (d.R=-1) || inR d.R 1 (d.W - 2))))
theorem devOk_bd {d:Dev} (h:devOk d=true):3≤d.W∧d.W≤6∧3≤d.H∧d.H≤6∧1≤d.T∧d.T≤4∧-1≤d.R∧d.R≤d.W - 2:=by
 simp only [devOk,Bool.and_eq_true,Bool.or_eq_true,inR_iff,decide_eq_true_eq] at h;omega

set_option maxHeartbeats 400000 in
theorem deviceOk_any (d:Dev) (w:World) :
  Calls Tryz.prog 113 #[.agg #[.int .i64 d.W,.int .i64 d.H,.int .i64 d.T,.int .i64 d.R]] w fun e w'=>e = .returned (.bool (devOk d))∧Below w.heap.size w w':=by
 by_cases hW:inR d.W 3 6=true
 ·have hb:=inR_iff.1 hW
  go_enter Tryz.func113,Tryz.ntmps113
  go_wp2_with (first|(go_at_call 116;refine (inRange_any _ _ _ _).mono ?_;rintro e w' ⟨rfl,rfl⟩))
  all_goals (go_ret;exact ⟨by simp [devOk, *],below_new (Below.refl _ _) _⟩)
 ·go_enter Tryz.func113,Tryz.ntmps113
  go_wp2_with (first|(go_at_call 116;refine (inRange_any _ _ _ _).mono ?_;rintro e w' ⟨rfl,rfl⟩))
  all_goals (go_ret;exact ⟨by simp [devOk, *],below_new (Below.refl _ _) _⟩)
set_option maxHeartbeats 400000 in
theorem sdeviceOk_any (d:Dev) (w:World) :
  Calls Tryz.prog 138 #[.agg #[.int .i64 d.W,.int .i64 d.H,.int .i64 d.T,.int .i64 d.R]] w fun e w'=>e = .returned (.bool (devOk d))∧Below w.heap.size w w':=by
 by_cases hW:inR d.W 3 6=true
 ·have hb:=inR_iff.1 hW
  go_enter Tryz.func138,Tryz.ntmps138
  go_wp2_with (first|(go_at_call 175;refine (l01In_any _ _ _ _).mono ?_;rintro e w' ⟨rfl,rfl⟩))
  all_goals (go_ret;exact ⟨by simp [devOk, *],below_new (Below.refl _ _) _⟩)
 ·go_enter Tryz.func138,Tryz.ntmps138
  go_wp2_with (first|(go_at_call 175;refine (l01In_any _ _ _ _).mono ?_;rintro e w' ⟨rfl,rfl⟩))
  all_goals (go_ret;exact ⟨by simp [devOk, *],below_new (Below.refl _ _) _⟩)

end Go.Proofs.YtignkfhdkcgkgaaGreat

namespace Go.Proofs.YtignkfhdkcgkgaaGreat
set_option maxRecDepth 100000
open Go.RowKit

def padsTo (N:Nat) (ts:List Int) (b:Int):Nat→List Int
 | 0=>List.replicate N 0
 | k+1=>(padsTo N ts b k).set (ts[k]?.getD 0).toNat (bits .and .i64 (b / 2 ^ k) 1)
def tiles (d:Dev):Nat:=(d.W * d.H).toNat
def padsFor (d:Dev) (ts:List Int) (b:Int):List Int :=
 if devOk d=true∧ts.length≤40∧∀j,j<ts.length→inR (ts[j]?.getD 0) 0 ((tiles d:Int) - 1)=true then padsTo (tiles d) ts b ts.length else []
theorem padsTo_length (N:Nat) (ts:List Int) (b:Int) (k:Nat):(padsTo N ts b k).length=N:=by
 induction k with
 | zero=>simp [padsTo]
 | succ k ih=>simp [padsTo,ih]
theorem tiles_eq {d:Dev} (h:devOk d=true):d.W * d.H=(tiles d:Int)∧9≤tiles d∧tiles d≤36:=by
 obtain ⟨h1,h2,h3,h4,_⟩:=devOk_bd h
 have a:9≤d.W * d.H:=by
  have:=Int.mul_le_mul h1 h3 (by omega) (by omega)
  omega
 have b:d.W * d.H≤36:=by
  have:=Int.mul_le_mul h2 h4 (by omega) (by omega)
  omega
 unfold tiles
 omega

set_option maxHeartbeats 1000000 in
theorem padsFor_any (d:Dev) (A:Option Addr) (n c:Nat) (ts:List Int) (b:Int) (w:World) (hA:Ints w A n ts) (hn:n≤16777216) :
  Calls Tryz.prog 82 #[.agg #[.int .i64 d.W,.int .i64 d.H,.int .i64 d.T,.int .i64 d.R],.slice A n c,.int .i64 b] w fun e w'=>∃A' m c',e = .returned (.slice A' m c')∧Own w.heap.size w' A' m c' (padsFor d ts b)∧Below w.heap.size w w':=by
 have HI:=Lib.hid hA
 have hX:=hA.1
 have HX:=Lib.hid hX
 clear hA hX
 go_enter Tryz.func82,Tryz.ntmps82
 go_wp2_with fail
 refine (deviceOk_any d _).mono ?_
 rintro e w1 ⟨rfl,b1⟩
 have hs1:=b1.size
 simp only [World.size_alloc] at hs1
 obtain ⟨hcc,hff⟩:=bcell b1
 have B1:=Lib.hid (below_tr (below_new (Below.refl _ _) _) b1)
 clear b1
 cases hd:devOk d with
 | false =>
  have HD:=Lib.hid hd
  clear hd
  go_wp2_with fail
  go_ret
  exact ⟨none,0,0,rfl,by rw [padsFor,if_neg (by simp [HD.out])];exact Own.nil,B1.out⟩
 | true =>
  obtain ⟨hN,hN1,hN2⟩:=tiles_eq hd
  have HD:=Lib.hid hd
  clear hd
  by_cases h40:n≤40
  ·have d40:decide ((n:Int)>40)=false:=by simp;omega
   obtain ⟨i0,hi,hz0,hz1,hz2⟩:=info_parts int_info
   have hmk:=fun W=>run_make_rowN (P:=Tryz.prog) 27 3 i0 _ Tryz.underlying27 hi hz0 .i64 .i64 (tiles d) (tiles d) (Nat.le_refl _) (by rw [hz2];omega) (by omega) W
   rw [hz1,Nat.mul_one,show (Value.int .i64 0).cells=#[Value.int .i64 0] from rfl,arr_made] at hmk
   clear hi hz0 hz1 hz2
   go_wp2_with fail
   have hI:=HI.out.below B1.out
   obtain ⟨_,hA⟩:=hI
   generalize hT:tiles d=N at *
   have HT:=Lib.hid hT
   clear hT hN hcc hff hmk
   go_loopw [26] (fun i wr=>∃k:Nat,k≤n∧i = .int .i64 k∧wr=w1.alloc (.cells (arr (padsTo N ts b k)) 3)∧∀j,j<k→inR (ts[j]?.getD 0) 0 ((N:Int) - 1)=true) (fun i _=>n - (intOf i).toNat)
   case atStart=>exact ⟨0,Nat.zero_le _,rfl,rfl,by intro j hj;omega⟩
   case round =>
    obtain ⟨k,hk,rfl,rfl,hall⟩:=hrel
    have HALL:=Lib.hid hall
    clear hall
    by_cases hlt:k<n
    ·obtain ⟨bb,o,rfl,hb,hc⟩:=hA (by omega)
     have hck:=hc k hlt
     have hs:=padsTo.eq_2 N ts b k
     have HS:=Lib.hid hs
     have HR:Hid (inR (ts[k]?.getD 0) 0 ((N:Int) - 1)=true→∀j,j<k+1→inR (ts[j]?.getD 0) 0 ((N:Int) - 1)=true):=by
      intro h j hj
      rcases Nat.lt_or_ge j k with h1|h1
      ·exact HALL.out j h1
      ·obtain rfl:j=k:=by omega
       exact h
     have HF:Hid (inR (ts[k]?.getD 0) 0 ((N:Int) - 1)=false→padsFor d ts b=[]):=by
      intro h
      rw [padsFor,if_neg]
      rintro ⟨_,_,h3⟩
      have:=h3 k (by rw [HX.out];exact hlt)
      rw [HT.out,h] at this
      cases this
     clear hc hs
     have hl:=padsTo_length N ts b k
     have HL:=Lib.hid hl
     generalize padsTo N ts b k=ps at *
     generalize ts[k]?.getD 0=t at *
     by_cases ht:inR t 0 ((N:Int) - 1)=true
     ·have htb:=inR_iff.1 ht
      have hlt':t.toNat<ps.length:=by omega
      have hg:=arr_get hlt'
      have hz:t.toNat<(arr ps).size:=by rw [arr_size];exact hlt'
      have hi0:(0:Int)≤(k:Int):=by omega
      have hi1:(k:Int)≤63:=by omega
      clear hl
      go_wp2_with (go_at_call 116;refine (inRange_any _ _ _ _).mono ?_;rintro e w' ⟨rfl,rfl⟩)
      go_roundw
      case rel=>exact ⟨k+1,by omega,by go_num,by rw [arr_set,HS.out],HR.out ht⟩
      case measure=>simp [intOf];omega
     ·have htf:=Bool.not_eq_true _ ▸ ht
      clear hl
      go_wp2_with (go_at_call 116;refine (inRange_any _ _ _ _).mono ?_;rintro e w' ⟨rfl,rfl⟩)
      go_ret
      exact ⟨none,0,0,rfl,by rw [HF.out htf];exact Own.nil,below_new B1.out _⟩
    ·have hkn:k=n:=by omega
     subst hkn
     go_wp2
     go_ret
     refine ⟨_,_,_,rfl,?_,below_new B1.out _⟩
     rw [padsFor,if_pos ⟨HD.out,by rw [HX.out];exact h40,by rw [HX.out,HT.out];exact HALL.out⟩,HX.out,HT.out]
     exact Own.arr (heap_new _ _) (by omega) (by unfold maxLen;omega) (padsTo_length _ _ _ _)
  ·have d40:decide ((n:Int)>40)=true:=by simp;omega
   clear hN
   go_wp2_with fail
   go_ret
   exact ⟨none,0,0,rfl,by rw [padsFor,if_neg (by simp only [HX.out];omega)];exact Own.nil,B1.out⟩
end Go.Proofs.YtignkfhdkcgkgaaGreat

namespace Go.Proofs.YtignkfhdkcgkgaaGreat.Cw

/-- Is p a power of two (a check position)? -/
def isP (p:Nat):Bool:=p &&& (p - 1)==0
/-- How many of the positions 1 to i hold data. -/
def kTo:Nat→Nat
 | 0=>0
 | i+1=>kTo i+if isP (i+1) then 0 else 1
def bit (x i:Nat):Nat:=x / 2 ^ i % 2
def spreadTo (x:Nat):Nat→Nat
 | 0=>0
 | i+1=>spreadTo x i+if isP (i+1) then 0 else bit x (kTo i) * 2 ^ i
def gatherTo (c:Nat):Nat→Nat
 | 0=>0
 | i+1=>gatherTo c i+if isP (i+1) then 0 else bit c i * 2 ^ kTo i
def synTo (c:Nat):Nat→Nat
 | 0=>0
 | i+1=>if bit c i=1 then synTo c i ^^^ (i+1) else synTo c i
def chkTo (o s:Nat):Nat→Nat
 | 0=>o
 | j+1=>chkTo o s j ||| bit s j * 2 ^ (2 ^ j - 1)
def popTo (c:Nat):Nat→Nat
 | 0=>0
 | i+1=>popTo c i+bit c i
def body (x:Nat):Nat:=chkTo (spreadTo x 21) (synTo (spreadTo x 21) 21) 5
def encW (x:Nat):Nat:=body x+popTo (body x) 22 % 2 * 2 ^ 21
def dataW (c:Nat):Nat:=gatherTo c 21
def synW (c:Nat):Nat:=synTo c 21
def onesW (c:Nat):Nat:=popTo c 22

theorem bit_le (x i:Nat):bit x i≤1:=by unfold bit;omega
theorem bit_test (x i:Nat):bit x i=if x.testBit i then 1 else 0:=by
 rw [Nat.testBit_eq_decide_div_mod_eq]
 unfold bit
 by_cases h:x / 2 ^ i % 2=1
 ·simp [h]
 ·simp [h];omega
theorem add_pow_test {x m b i:Nat} (h:x<2 ^ m) (hb:b≤1):(x+b * 2 ^ m).testBit i=if i=m then decide (b=1) else x.testBit i:=by
 rcases Nat.lt_or_ge 0 b with h0|h0
 ·obtain rfl:b=1:=by omega
  rw [Nat.one_mul,Nat.add_comm,←Go.nat_join m (2 ^ m) x (Nat.mod_self _) h]
  rw [Nat.testBit_or,Nat.testBit_two_pow]
  by_cases hi:i=m
  ·subst hi;simp
  ·simp [hi,Ne.symm hi]
 ·obtain rfl:b=0:=by omega
  by_cases hi:i=m
  ·subst hi;simp [Nat.testBit_lt_two_pow h]
  ·simp [hi]
theorem add_pow_lt {x m b:Nat} (h:x<2 ^ m) (hb:b≤1):x+b * 2 ^ m<2 ^ (m+1):=by
 rw [Nat.pow_succ]
 rcases Nat.lt_or_ge 0 b with h0|h0
 ·obtain rfl:b=1:=by omega
  omega
 ·obtain rfl:b=0:=by omega
  omega
theorem lt_pow_succ {x m:Nat} (h:x<2 ^ m):x<2 ^ (m+1):=by rw [Nat.pow_succ];omega

theorem spreadTo_lt (x i:Nat):spreadTo x i<2 ^ i:=by
 induction i with
 | zero=>simp [spreadTo]
 | succ i ih =>
  unfold spreadTo
  split
  ·simpa using lt_pow_succ ih
  ·exact add_pow_lt ih (bit_le _ _)
theorem spreadTo_test (x m i:Nat):(spreadTo x m).testBit i=(decide (i<m) && (!isP (i+1) && x.testBit (kTo i))):=by
 induction m with
 | zero=>simp [spreadTo]
 | succ m ih =>
  unfold spreadTo
  split
  ·rename_i hp
   rw [Nat.add_zero,ih]
   by_cases hi:i=m
   ·subst hi;simp [hp]
   ·have:(i<m+1)=(i<m):=propext (by omega)
    simp [this]
  ·rename_i hp
   rw [add_pow_test (spreadTo_lt x m) (bit_le _ _),ih]
   by_cases hi:i=m
   ·subst hi
    have hp':isP (i+1)=false:=by simpa using hp
    simp only [if_true,hp',Bool.not_false,Bool.true_and,show decide (i<i+1)=true from by simp]
    rw [bit_test]
    cases x.testBit (kTo i) <;> simp
   ·have:(i<m+1)=(i<m):=propext (by omega)
    simp [hi,this]
theorem kTo_le (i:Nat):kTo i≤i:=by
 induction i with
 | zero=>simp [kTo]
 | succ i ih=>unfold kTo;split <;> omega
theorem gatherTo_lt (c i:Nat):gatherTo c i<2 ^ kTo i:=by
 induction i with
 | zero=>simp [gatherTo,kTo]
 | succ i ih =>
  by_cases hp:isP (i+1)=true
  ·simpa [gatherTo,kTo,hp] using ih
  ·simp only [gatherTo,kTo,hp]
   exact add_pow_lt ih (bit_le _ _)
theorem xor_lt {a b n:Nat} (ha:a<2 ^ n) (hb:b<2 ^ n):a ^^^ b<2 ^ n:=Nat.xor_lt_two_pow ha hb
theorem synTo_lt (c i:Nat) (hi:i≤31):synTo c i<2 ^ 5:=by
 induction i with
 | zero=>simp [synTo]
 | succ i ih =>
  unfold synTo
  split
  ·exact xor_lt (ih (by omega)) (by omega)
  ·exact ih (by omega)
theorem popTo_le (c i:Nat):popTo c i≤i:=by
 induction i with
 | zero=>simp [popTo]
 | succ i ih=>unfold popTo;have:=bit_le c i;omega

/-! ### check bits -/
theorem clear_chk (x:Nat) (j:Nat) (hj:j<5):(spreadTo x 21).testBit (2 ^ j - 1)=false:=by
 rw [spreadTo_test]
 have:isP (2 ^ j - 1+1)=true:=by
  rcases (by omega:j=0∨j=1∨j=2∨j=3∨j=4) with rfl|rfl|rfl|rfl|rfl <;> decide
 simp [this]
theorem add_clear {a k:Nat} (ha:a<2147483648) (hk:k<31) (h:a.testBit k=false):a+2 ^ k=a ||| 2 ^ k:=by
 have hp:2 ^ k<2147483648:=Nat.lt_of_lt_of_le (Nat.pow_lt_pow_right (by omega) hk) (by decide)
 have hz:BitVec.ofNat 32 a &&& BitVec.ofNat 32 (2 ^ k)=0#32:=by
  apply BitVec.eq_of_toNat_eq
  rw [BitVec.toNat_and,BitVec.toNat_ofNat,BitVec.toNat_ofNat,Nat.mod_eq_of_lt (by omega),Nat.mod_eq_of_lt (by omega),Go.nat_bit]
  rw [Nat.testBit_eq_decide_div_mod_eq] at h
  have:a / 2 ^ k % 2=0:=by simp at h;omega
  rw [this];simp
 have he:=congrArg BitVec.toNat (BitVec.add_eq_or_of_and_eq_zero _ _ hz)
 rw [BitVec.toNat_add,BitVec.toNat_or,BitVec.toNat_ofNat,BitVec.toNat_ofNat,Nat.mod_eq_of_lt (show a<2 ^ 32 by omega),Nat.mod_eq_of_lt (show 2 ^ k<2 ^ 32 by omega),Nat.mod_eq_of_lt (by omega)] at he
 exact he
theorem chk_lt {o s:Nat} (ho:o<2 ^ 21) (j:Nat) (hj:j≤5):chkTo o s j<2 ^ 21:=by
 induction j with
 | zero=>exact ho
 | succ j ih =>
  unfold chkTo
  refine Nat.or_lt_two_pow (ih (by omega)) ?_
  have hb:=bit_le s j
  have hp:2 ^ (2 ^ j - 1)≤2 ^ 15:=Nat.pow_le_pow_right (by omega) (by
   have:2 ^ j≤2 ^ 4:=Nat.pow_le_pow_right (by omega) (by omega)
   omega)
  have:bit s j * 2 ^ (2 ^ j - 1)≤1 * 2 ^ 15:=Nat.mul_le_mul hb hp
  omega
theorem chk_test {o s m t:Nat} (h:∀i,i<m→t≠2 ^ i - 1):(chkTo o s m).testBit t=o.testBit t:=by
 induction m with
 | zero=>rfl
 | succ m ih =>
  unfold chkTo
  rw [Nat.testBit_or,ih (fun i hi=>h i (by omega))]
  have hne:=h m (by omega)
  have:(bit s m * 2 ^ (2 ^ m - 1)).testBit t=false:=by
   have hb:=bit_le s m
   rcases Nat.lt_or_ge 0 (bit s m) with h0|h0
   ·rw [show bit s m=1 by omega,Nat.one_mul,Nat.testBit_two_pow]
    simp;omega
   ·rw [show bit s m=0 by omega,Nat.zero_mul];simp
  simp [this]
theorem chk_clear (x s j:Nat) (hj:j<5):(chkTo (spreadTo x 21) s j).testBit (2 ^ j - 1)=false:=by
 rw [chk_test,clear_chk x j hj]
 intro i hi
 have h1:2 ^ i<2 ^ j:=Nat.pow_lt_pow_right (by omega) hi
 have h2:0<2 ^ i:=Nat.two_pow_pos i
 omega
theorem chk_add (x s j:Nat) (hj:j<5):chkTo (spreadTo x 21) s j+bit s j * 2 ^ (2 ^ j - 1)=chkTo (spreadTo x 21) s (j+1):=by
 have hb:=bit_le s j
 have hl:=chk_lt (s:=s) (spreadTo_lt x 21) j (by omega)
 rcases Nat.lt_or_ge 0 (bit s j) with h0|h0
 ·have h1:bit s j=1:=by omega
  have hk:2 ^ j≤2 ^ 4:=Nat.pow_le_pow_right (by omega) (by omega)
  rw [chkTo,h1,Nat.one_mul]
  exact add_clear (by omega) (by omega) (chk_clear x s j hj)
 ·have h1:bit s j=0:=by omega
  rw [chkTo,h1];simp
theorem body_lt (x:Nat):body x<2 ^ 21:=chk_lt (spreadTo_lt x 21) 5 (by omega)
theorem encW_lt (x:Nat):encW x<4194304:=by
 have:=body_lt x
 unfold encW
 omega
end Go.Proofs.YtignkfhdkcgkgaaGreat.Cw

namespace Go.Proofs.YtignkfhdkcgkgaaGreat
set_option maxRecDepth 100000
open Go.RowKit Cw

theorem and_one_nat (x:Nat) (h:x<9223372036854775808):bits .and .i64 (x:Int) 1=((x % 2:Nat):Int):=by
 have:=i64_and_nat x 1 h (by omega)
 rw [Nat.and_one_is_mod] at this
 exact this
theorem shr_bit (c i:Nat) (h:c<9223372036854775808):bits .and .i64 ((c:Int) / 2 ^ i) 1=((bit c i:Nat):Int):=by
 have e:((c:Int) / 2 ^ i)=((c / 2 ^ i:Nat):Int):=by rw [Int.natCast_ediv];simp
 rw [e,and_one_nat _ (Nat.lt_of_le_of_lt (Nat.div_le_self _ _) h)]
 rfl

set_option maxHeartbeats 400000 in
theorem isCheck_any (p:Nat) (w:World) (h0:1≤p) (h1:p≤1000) :
  Calls Tryz.prog 223 #[.int .i64 p] w fun e w'=>e = .returned (.bool (isP p))∧w=w':=by
 have hb:bits .and .i64 (p:Int) ((p:Int) - 1)=((p &&& (p - 1):Nat):Int):=by
  rw [←i64_and_nat p (p - 1) (by omega) (by omega)]
  congr 1
  omega
 go_enter Tryz.func223,Tryz.ntmps223
 go_wp2
 go_ret
 exact ⟨ret_bool (by unfold isP;cases h:(p &&& (p - 1))==0 <;> simp_all),rfl⟩

set_option maxHeartbeats 1000000 in
theorem ssyndrome_any (c : Nat) (w : World) (h : c < 4194304) :
    Calls Tryz.prog 209 #[.int .i64 c] w fun e w' => e = .returned (.int .i64 (synW c)) ∧ w = w' := by
  have hr : inR (c : Int) 0 4194303 = true := inR_iff.2 ⟨by omega, by omega⟩
  go_enter Tryz.func209, Tryz.ntmps209
  go_wp2_with (go_at_call 175; refine (l01In_any _ _ _ _).mono ?_; rintro e w' ⟨rfl, rfl⟩)
  go_loop [3, 4] (fun v p => ∃ i : Nat, i ≤ 21 ∧ p = .int .i64 ((i : Int) + 1) ∧ v = .int .i64 (synTo c i)) (fun _ p => 22 - (intOf p).toNat)
  case atStart => exact ⟨0, by omega, rfl, rfl⟩
  case round =>
    obtain ⟨i, hi, rfl, rfl⟩ := hrel
    by_cases hlt : i < 21
    · have hs := synTo.eq_2 c i
      have hlo := synTo_lt c i (by omega)
      have hsb := shr_bit c i (by omega)
      have HS := Lib.hid hs
      clear hs
      have hx := i64_xor_nat (synTo c i) (i + 1) (by omega) (by omega)
      have HXR := Lib.hid hx
      clear hx
      go_wp2_with fail
      · have hb : bit c i = 1 := by have : ((bit c i : Nat) : Int) = 1 := by simpa using ‹(((bit c i : Nat) : Int) == 1) = true›
                                    omega
        go_round
        case rel => exact ⟨i + 1, by omega, by go_num, by rw [HS.out, if_pos hb, ← HXR.out]; simp⟩
        case measure => simp [intOf]; omega
      · have hb : ¬ bit c i = 1 := by have : ¬ ((bit c i : Nat) : Int) = 1 := by simpa using ‹(((bit c i : Nat) : Int) == 1) = false›
                                      omega
        go_round
        case rel => exact ⟨i + 1, by omega, by go_num, by rw [HS.out, if_neg hb]⟩
        case measure => simp [intOf]; omega
    · obtain rfl : i = 21 := by omega
      go_wp2_with fail
      go_ret
      exact ⟨rfl, rfl⟩

theorem isCheckS_any (p:Nat) (w:World) (h0:1≤p) (h1:p≤1000) :
  Calls Tryz.prog 208 #[.int .i64 p] w fun e w'=>e = .returned (.bool (isP p))∧w=w':=by
 have hb:bits .and .i64 (p:Int) ((p:Int) - 1)=((p &&& (p - 1):Nat):Int):=by
  rw [←i64_and_nat p (p - 1) (by omega) (by omega)]
  congr 1
  omega
 go_enter Tryz.func208,Tryz.ntmps208
 go_wp2
 go_ret
 exact ⟨ret_bool (by unfold isP;cases h:(p &&& (p - 1))==0 <;> simp_all),rfl⟩

theorem wrap_bit {b k:Nat} (hb:b≤1) (hk:k≤61):wrap64 ((b:Int) * 2 ^ k)=((b * 2 ^ k:Nat):Int):=by
 have hp:=pow_le63 (show k≤62 by omega)
 rw [int_pow_cast]
 generalize 2 ^ k=p at *
 rw [←Int.natCast_mul]
 have:b * p≤p:=by
  rcases Nat.lt_or_ge 0 b with h|h
  ·obtain rfl:b=1:=by omega
   omega
  ·obtain rfl:b=0:=by omega
   omega
 exact IntWalk.wrap64_in _ ⟨by omega,by omega⟩
theorem or_bit {a b k:Nat} (ha:a<2 ^ k) (hb:b≤1) (hk:k≤61):bits .or .i64 (a:Int) (wrap64 ((b:Int) * 2 ^ k))=((a+b * 2 ^ k:Nat):Int):=by
 rw [wrap_bit hb hk]
 have hp:=pow_le63 (show k≤62 by omega)
 rcases Nat.lt_or_ge 0 b with h|h
 ·obtain rfl:b=1:=by omega
  rw [Nat.one_mul,i64_or_nat a (2 ^ k) (by omega) hp,or_pow a k ha]
 ·obtain rfl:b=0:=by omega
  rw [Nat.zero_mul,i64_or_nat a 0 (by omega) (by omega),Nat.or_zero,Nat.add_zero]
theorem add_bit {a b k:Nat} (ha:a<2 ^ k) (hb:b≤1) (hk:k≤60):wrap64 ((a:Int)+wrap64 ((b:Int) * 2 ^ k))=((a+b * 2 ^ k:Nat):Int):=by
 rw [wrap_bit hb (by omega)]
 have h1:=add_pow_lt ha hb
 have h2:=pow_le63 (show k+1≤62 by omega)
 rw [←Int.natCast_add]
 generalize a+b * 2 ^ k=q at *
 exact IntWalk.wrap64_in _ ⟨by omega,by omega⟩

set_option maxHeartbeats 1000000 in
theorem dataBits_any (c:Nat) (w:World) (h:c<4194304) :
  Calls Tryz.prog 191 #[.int .i64 c] w fun e w'=>e = .returned (.int .i64 (dataW c))∧w=w':=by
 go_enter Tryz.func191,Tryz.ntmps191
 go_wp2_with fail
 go_loop [3,4,5] (fun v k p=>∃i:Nat,i≤21∧p = .int .i64 ((i:Int)+1)∧k = .int .i64 (kTo i)∧v = .int .i64 (gatherTo c i)) (fun _ _ p=>22 - (intOf p).toNat)
 case atStart=>exact ⟨0,by omega,rfl,rfl,rfl⟩
 case round =>
  obtain ⟨i,hi,rfl,rfl,rfl⟩:=hrel
  by_cases hlt:i<21
  ·skip
   have hs:=gatherTo.eq_2 c i
   have hk:=kTo.eq_2 i
   have hlo:=gatherTo_lt c i
   have hkl:=kTo_le i
   have hsb:=shr_bit c i (by omega)
   have hor:=or_bit hlo (bit_le c i) (show kTo i≤61 by omega)
   have hadd:=add_bit hlo (bit_le c i) (show kTo i≤60 by omega)
   have HS:=Lib.hid hs
   have HK:=Lib.hid hk
   have HOR:=Lib.hid hor
   have HADD:=Lib.hid hadd
   clear hs hk hlo hor hadd
   have hcp:=isCheck_any (i+1)
   simp only [Int.natCast_add,Int.natCast_one] at hcp
   have HCP:=Lib.hid hcp
   clear hcp
   cases hp:isP (i+1) with
   | true =>
    have HP:=Lib.hid hp
    go_wp2_with (go_at_call 223;refine (HCP.out _ (by omega) (by omega)).mono ?_;rintro e w' ⟨rfl,rfl⟩)
    go_round
    case rel=>exact ⟨i+1,by omega,by go_num,by rw [HK.out,HP.out];simp,by rw [HS.out,HP.out];simp⟩
    case measure=>simp [intOf];omega
   | false =>
    have HP:=Lib.hid hp
    go_wp2_with (go_at_call 223;refine (HCP.out _ (by omega) (by omega)).mono ?_;rintro e w' ⟨rfl,rfl⟩)
    go_round
    case rel=>exact ⟨i+1,by omega,by go_num,by rw [HK.out,HP.out];simp,by rw [HS.out,HP.out];(first|rw [HOR.out]|rw [HADD.out]);simp⟩
    case measure=>simp [intOf];omega
  ·obtain rfl:i=21:=by omega
   go_wp2_with fail
   go_ret
   exact ⟨rfl,rfl⟩
set_option maxHeartbeats 1000000 in
theorem sdataBits_any (c:Nat) (w:World) (h:c<4194304) :
  Calls Tryz.prog 183 #[.int .i64 c] w fun e w'=>e = .returned (.int .i64 (dataW c))∧w=w':=by
 have hr:inR (c:Int) 0 4194303=true:=inR_iff.2 ⟨by omega,by omega⟩
 go_enter Tryz.func183,Tryz.ntmps183
 go_wp2_with (go_at_call 175;refine (l01In_any _ _ _ _).mono ?_;rintro e w' ⟨rfl,rfl⟩)
 go_loop [3,4,5] (fun v k p=>∃i:Nat,i≤21∧p = .int .i64 ((i:Int)+1)∧k = .int .i64 (kTo i)∧v = .int .i64 (gatherTo c i)) (fun _ _ p=>22 - (intOf p).toNat)
 case atStart=>exact ⟨0,by omega,rfl,rfl,rfl⟩
 case round =>
  obtain ⟨i,hi,rfl,rfl,rfl⟩:=hrel
  by_cases hlt:i<21
  ·skip
   have hs:=gatherTo.eq_2 c i
   have hk:=kTo.eq_2 i
   have hlo:=gatherTo_lt c i
   have hkl:=kTo_le i
   have hsb:=shr_bit c i (by omega)
   have hor:=or_bit hlo (bit_le c i) (show kTo i≤61 by omega)
   have hadd:=add_bit hlo (bit_le c i) (show kTo i≤60 by omega)
   have HS:=Lib.hid hs
   have HK:=Lib.hid hk
   have HOR:=Lib.hid hor
   have HADD:=Lib.hid hadd
   clear hs hk hlo hor hadd
   have hcp:=isCheckS_any (i+1)
   simp only [Int.natCast_add,Int.natCast_one] at hcp
   have HCP:=Lib.hid hcp
   clear hcp
   cases hp:isP (i+1) with
   | true =>
    have HP:=Lib.hid hp
    go_wp2_with (go_at_call 208;refine (HCP.out _ (by omega) (by omega)).mono ?_;rintro e w' ⟨rfl,rfl⟩)
    go_round
    case rel=>exact ⟨i+1,by omega,by go_num,by rw [HK.out,HP.out];simp,by rw [HS.out,HP.out];simp⟩
    case measure=>simp [intOf];omega
   | false =>
    have HP:=Lib.hid hp
    go_wp2_with (go_at_call 208;refine (HCP.out _ (by omega) (by omega)).mono ?_;rintro e w' ⟨rfl,rfl⟩)
    go_round
    case rel=>exact ⟨i+1,by omega,by go_num,by rw [HK.out,HP.out];simp,by rw [HS.out,HP.out];(first|rw [HOR.out]|rw [HADD.out]);simp⟩
    case measure=>simp [intOf];omega
  ·obtain rfl:i=21:=by omega
   go_wp2_with fail
   go_ret
   exact ⟨rfl,rfl⟩

/-! ### counting ones -/
set_option maxHeartbeats 1000000 in
theorem sOnes_any (c:Nat) (w:World) (h:c<4194304) :
  Calls Tryz.prog 210 #[.int .i64 c] w fun e w'=>e = .returned (.int .i64 (onesW c))∧w=w':=by
 go_enter Tryz.func210,Tryz.ntmps210
 go_wp2_with fail
 go_loop [3,4] (fun v i=>∃k:Nat,k≤22∧i = .int .i64 k∧v = .int .i64 (popTo c k)) (fun _ i=>22 - (intOf i).toNat)
 case atStart=>exact ⟨0,by omega,rfl,rfl⟩
 case round =>
  obtain ⟨k,hk,rfl,rfl⟩:=hrel
  have hpl:=popTo_le c k
  have hbl:=bit_le c k
  have hsb:=shr_bit c k (by omega)
  have hs:=popTo.eq_2 c k
  have HS:=Lib.hid hs
  clear hs
  by_cases hlt:k<22
  ·go_wp2_with fail
   go_round
   case rel=>exact ⟨k+1,by omega,by go_num,by rw [HS.out];simp⟩
   case measure=>simp [intOf];omega
  ·obtain rfl:k=22:=by omega
   go_wp2_with fail
   go_ret
   exact ⟨rfl,rfl⟩

/-! ### encoding -/
set_option maxHeartbeats 2000000 in
theorem sencodeWord_any (x:Nat) (w:World) (h:x<65536) :
  Calls Tryz.prog 161 #[.int .i64 x] w fun e w'=>e = .returned (.int .i64 (encW x))∧Below w.heap.size w w':=by
 have hr:inR (x:Int) 0 65535=true:=inR_iff.2 ⟨by omega,by omega⟩
 go_enter Tryz.func161,Tryz.ntmps161
 go_wp2_with (go_at_call 175;refine (l01In_any _ _ _ _).mono ?_;rintro e w' ⟨rfl,rfl⟩)
 go_loop [3,4,5] (fun v k p=>∃i:Nat,i≤21∧p = .int .i64 ((i:Int)+1)∧k = .int .i64 (kTo i)∧v = .int .i64 (spreadTo x i)) (fun _ _ p=>22 - (intOf p).toNat)
 case atStart=>exact ⟨0,by omega,rfl,rfl,rfl⟩
 case round =>
  obtain ⟨i,hi,rfl,rfl,rfl⟩:=hrel
  by_cases hlt:i<21
  ·skip
   have hs:=spreadTo.eq_2 x i
   have hk:=kTo.eq_2 i
   have hlo:=spreadTo_lt x i
   have hkl:=kTo_le i
   have hsb:=shr_bit x (kTo i) (by omega)
   have hor:=or_bit hlo (bit_le x (kTo i)) (show i≤61 by omega)
   have hadd:=add_bit hlo (bit_le x (kTo i)) (show i≤60 by omega)
   have HS:=Lib.hid hs
   have HK:=Lib.hid hk
   have HOR:=Lib.hid hor
   have HADD:=Lib.hid hadd
   clear hs hk hlo hor hadd
   have hcp:=isCheckS_any (i+1)
   simp only [Int.natCast_add,Int.natCast_one] at hcp
   have HCP:=Lib.hid hcp
   clear hcp
   cases hp:isP (i+1) with
   | true =>
    have HP:=Lib.hid hp
    go_wp2_with (go_at_call 208;refine (HCP.out _ (by omega) (by omega)).mono ?_;rintro e w' ⟨rfl,rfl⟩)
    go_round
    case rel=>exact ⟨i+1,by omega,by go_num,by rw [HK.out,HP.out];simp,by rw [HS.out,HP.out];simp⟩
    case measure=>simp [intOf];omega
   | false =>
    have HP:=Lib.hid hp
    go_wp2_with (go_at_call 208;refine (HCP.out _ (by omega) (by omega)).mono ?_;rintro e w' ⟨rfl,rfl⟩)
    go_round
    case rel=>exact ⟨i+1,by omega,by go_num,by rw [HK.out,HP.out];simp,by rw [HS.out,HP.out];(first|rw [HOR.out]|rw [HADD.out]);simp⟩
    case measure=>simp [intOf];omega
  ·obtain rfl:i=21:=by omega
   have hsp:=spreadTo_lt x 21
   have hsl:=synTo_lt (spreadTo x 21) 21 (by omega)
   have hcl:=fun j hj=>chk_lt (s:=synW (spreadTo x 21)) hsp j hj
   have HCL:=Lib.hid hcl
   have hC:=fun j=>chkTo.eq_2 (spreadTo x 21) (synW (spreadTo x 21)) j
   have HC:=Lib.hid hC
   have hE:encW x=chkTo (spreadTo x 21) (synW (spreadTo x 21)) 5+onesW (chkTo (spreadTo x 21) (synW (spreadTo x 21)) 5) % 2 * 2 ^ 21:=rfl
   have HE:=Lib.hid hE
   clear hcl hC hE
   go_wp2_with (go_at_call 209;refine (ssyndrome_any _ _ (by omega)).mono ?_;rintro e w' ⟨rfl,rfl⟩)
   have hs5:synW (spreadTo x 21)<32:=hsl
   clear hsl
   generalize synW (spreadTo x 21)=s at *
   have h0:chkTo (spreadTo x 21) s 0=spreadTo x 21:=rfl
   have H0:=Lib.hid h0
   clear h0
   go_loopw [3,7] (fun v p wr=>∃j nq:Nat,j≤5∧p = .int .i64 (j:Int)∧v = .int .i64 (chkTo (spreadTo x 21) s j)∧wr=w.drewN nq) (fun _ p _=>6 - (intOf p).toNat)
   case atStart=>exact ⟨0,0,by omega,rfl,by rw [H0.out],rfl⟩
   case round =>
    obtain ⟨j,nq,hj,rfl,rfl,rfl⟩:=hrel
    have hlt:=HCL.out j hj
    have hCj:j<5→chkTo (spreadTo x 21) s j+bit s j * 2 ^ (2 ^ j - 1)=chkTo (spreadTo x 21) s (j+1):=chk_add x s j
    have hbl:=bit_le s j
    have hand:=shr_bit s j (by omega)
    have HCJ:=Lib.hid hCj
    generalize ho:chkTo (spreadTo x 21) s j=o at *
    have HO:=Lib.hid ho
    clear ho
    generalize hbv:bit s j=bv at *
    have HBV:=Lib.hid hbv
    clear hCj hbv
    rcases (by omega:j=0∨j=1∨j=2∨j=3∨j=4∨j=5) with rfl|rfl|rfl|rfl|rfl|rfl
    ·rcases (by omega:bv=0∨bv=1) with rfl|rfl
     ·simp at hand
      go_wp2_with fail
      go_quiet (fail)
      go_wp2_with fail
      go_roundw
      case rel=>exact ⟨1,_,by omega,by simp,by rw [←HCJ.out (by omega)];simp,rfl⟩
      case measure=>simp [intOf]
     ·simp at hand
      go_wp2_with fail
      go_quiet (fail)
      go_wp2_with fail
      go_roundw
      case rel=>exact ⟨1,_,by omega,by simp,by rw [←HCJ.out (by omega)];simp,rfl⟩
      case measure=>simp [intOf]
    ·rcases (by omega:bv=0∨bv=1) with rfl|rfl
     ·simp at hand
      go_wp2_with fail
      go_quiet (fail)
      go_wp2_with fail
      go_roundw
      case rel=>exact ⟨2,_,by omega,by simp,by rw [←HCJ.out (by omega)];simp,rfl⟩
      case measure=>simp [intOf]
     ·simp at hand
      go_wp2_with fail
      go_quiet (fail)
      go_wp2_with fail
      go_roundw
      case rel=>exact ⟨2,_,by omega,by simp,by rw [←HCJ.out (by omega)];simp,rfl⟩
      case measure=>simp [intOf]
    ·rcases (by omega:bv=0∨bv=1) with rfl|rfl
     ·simp at hand
      go_wp2_with fail
      go_quiet (fail)
      go_wp2_with fail
      go_roundw
      case rel=>exact ⟨3,_,by omega,by simp,by rw [←HCJ.out (by omega)];simp,rfl⟩
      case measure=>simp [intOf]
     ·simp at hand
      go_wp2_with fail
      go_quiet (fail)
      go_wp2_with fail
      go_roundw
      case rel=>exact ⟨3,_,by omega,by simp,by rw [←HCJ.out (by omega)];simp,rfl⟩
      case measure=>simp [intOf]
    ·rcases (by omega:bv=0∨bv=1) with rfl|rfl
     ·simp at hand
      go_wp2_with fail
      go_quiet (fail)
      go_wp2_with fail
      go_roundw
      case rel=>exact ⟨4,_,by omega,by simp,by rw [←HCJ.out (by omega)];simp,rfl⟩
      case measure=>simp [intOf]
     ·simp at hand
      go_wp2_with fail
      go_quiet (fail)
      go_wp2_with fail
      go_roundw
      case rel=>exact ⟨4,_,by omega,by simp,by rw [←HCJ.out (by omega)];simp,rfl⟩
      case measure=>simp [intOf]
    ·rcases (by omega:bv=0∨bv=1) with rfl|rfl
     ·simp at hand
      go_wp2_with fail
      go_quiet (fail)
      go_wp2_with fail
      go_roundw
      case rel=>exact ⟨5,_,by omega,by simp,by rw [←HCJ.out (by omega)];simp,rfl⟩
      case measure=>simp [intOf]
     ·simp at hand
      go_wp2_with fail
      go_quiet (fail)
      go_wp2_with fail
      go_roundw
      case rel=>exact ⟨5,_,by omega,by simp,by rw [←HCJ.out (by omega)];simp,rfl⟩
      case measure=>simp [intOf]
    ·have hpl:=popTo_le o 22
     have hpl':onesW o≤22:=hpl
     clear hand HCL HC H0 HCJ HBV hpl
     go_wp2_with (go_at_call 210;refine (sOnes_any _ _ (by omega)).mono ?_;rintro e w' ⟨rfl,rfl⟩)
     go_ret
     exact ⟨ret_int (by rw [HE.out,HO.out];simp),below_drewN (Below.refl _ _) _⟩
end Go.Proofs.YtignkfhdkcgkgaaGreat
