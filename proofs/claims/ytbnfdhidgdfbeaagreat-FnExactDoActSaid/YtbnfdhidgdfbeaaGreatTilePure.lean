/- Codewords: plain arithmetic; no program in sight. Codewords: one flipped bit is found; plain arithmetic. Tile configurations: numbers in the bits of words, put there and read again; plain. -/
import Derived.Laws.BitsAllLaws
import Derived.Test.YtbnfdhidgdfbeaaGreatCopies
import Derived.Test.YtbnfdhidgdfbeaaGreatTree
namespace Go.Proofs.YtbnfdhidgdfbeaaGreat.Cw

/-- Is p a power of two (a check position)? -/
def isP (p:Nat):Bool:=p &&& (p - 1)==0
/-- How many of the positions 1 to i hold data. -/
def kTo:Nat→Nat
 | 0=>0
 | i+1=>kTo i+if isP (i+1) then 0 else 1
def bit (x i:Nat):Nat:=x / 2 ^ i % 2
def spreadTo (x:Nat):Nat→Nat
 | 0=>0
 | i+1=>spreadTo x i+if isP (i+1) then 0 else bit x (kTo i) * 2 ^ i
def gatherTo (c:Nat):Nat→Nat
 | 0=>0
 | i+1=>gatherTo c i+if isP (i+1) then 0 else bit c i * 2 ^ kTo i
def synTo (c:Nat):Nat→Nat
 | 0=>0
 | i+1=>if bit c i=1 then synTo c i ^^^ (i+1) else synTo c i
def chkTo (o s:Nat):Nat→Nat
 | 0=>o
 | j+1=>chkTo o s j ||| bit s j * 2 ^ (2 ^ j - 1)
def popTo (c:Nat):Nat→Nat
 | 0=>0
 | i+1=>popTo c i+bit c i
def body (x:Nat):Nat:=chkTo (spreadTo x 21) (synTo (spreadTo x 21) 21) 5
def encW (x:Nat):Nat:=body x+popTo (body x) 22 % 2 * 2 ^ 21
def dataW (c:Nat):Nat:=gatherTo c 21
def synW (c:Nat):Nat:=synTo c 21
def onesW (c:Nat):Nat:=popTo c 22

theorem bit_le (x i:Nat):bit x i≤1:=by unfold bit;omega
theorem bit_test (x i:Nat):bit x i=if x.testBit i then 1 else 0:=by
 rw [Nat.testBit_eq_decide_div_mod_eq]
 unfold bit
 by_cases h:x / 2 ^ i % 2=1
 ·simp [h]
 ·simp [h];omega
theorem add_pow_test {x m b i:Nat} (h:x<2 ^ m) (hb:b≤1):(x+b * 2 ^ m).testBit i=if i=m then decide (b=1) else x.testBit i:=by
 rcases Nat.lt_or_ge 0 b with h0|h0
 ·obtain rfl:b=1:=by omega
  rw [Nat.one_mul,Nat.add_comm,←Go.nat_join m (2 ^ m) x (Nat.mod_self _) h]
  rw [Nat.testBit_or,Nat.testBit_two_pow]
  by_cases hi:i=m
  ·subst hi;simp
  ·simp [hi,Ne.symm hi]
 ·obtain rfl:b=0:=by omega
  by_cases hi:i=m
  ·subst hi;simp [Nat.testBit_lt_two_pow h]
  ·simp [hi]
theorem add_pow_lt {x m b:Nat} (h:x<2 ^ m) (hb:b≤1):x+b * 2 ^ m<2 ^ (m+1):=by
 rw [Nat.pow_succ]
 rcases Nat.lt_or_ge 0 b with h0|h0
 ·obtain rfl:b=1:=by omega
  omega
 ·obtain rfl:b=0:=by omega
  omega
theorem lt_pow_succ {x m:Nat} (h:x<2 ^ m):x<2 ^ (m+1):=by rw [Nat.pow_succ];omega

theorem spreadTo_lt (x i:Nat):spreadTo x i<2 ^ i:=by
 induction i with
 | zero=>simp [spreadTo]
 | succ i ih =>
  unfold spreadTo
  split
  ·simpa using lt_pow_succ ih
  ·exact add_pow_lt ih (bit_le _ _)
theorem spreadTo_test (x m i:Nat):(spreadTo x m).testBit i=(decide (i<m) && (!isP (i+1) && x.testBit (kTo i))):=by
 induction m with
 | zero=>simp [spreadTo]
 | succ m ih =>
  unfold spreadTo
  split
  ·rename_i hp
   rw [Nat.add_zero,ih]
   by_cases hi:i=m
   ·subst hi;simp [hp]
   ·have:(i<m+1)=(i<m):=propext (by omega)
    simp [this]
  ·rename_i hp
   rw [add_pow_test (spreadTo_lt x m) (bit_le _ _),ih]
   by_cases hi:i=m
   ·subst hi
    have hp':isP (i+1)=false:=by simpa using hp
    simp only [if_true,hp',Bool.not_false,Bool.true_and,show decide (i<i+1)=true from by simp]
    rw [bit_test]
    cases x.testBit (kTo i) <;> simp
   ·have:(i<m+1)=(i<m):=propext (by omega)
    simp [hi,this]
theorem kTo_le (i:Nat):kTo i≤i:=by
 induction i with
 | zero=>simp [kTo]
 | succ i ih=>unfold kTo;split <;> omega
theorem gatherTo_lt (c i:Nat):gatherTo c i<2 ^ kTo i:=by
 induction i with
 | zero=>simp [gatherTo,kTo]
 | succ i ih =>
  by_cases hp:isP (i+1)=true
  ·simpa [gatherTo,kTo,hp] using ih
  ·simp only [gatherTo,kTo,hp]
   exact add_pow_lt ih (bit_le _ _)
theorem xor_lt {a b n:Nat} (ha:a<2 ^ n) (hb:b<2 ^ n):a ^^^ b<2 ^ n:=Nat.xor_lt_two_pow ha hb
theorem synTo_lt (c i:Nat) (hi:i≤31):synTo c i<2 ^ 5:=by
 induction i with
 | zero=>simp [synTo]
 | succ i ih =>
  unfold synTo
  split
  ·exact xor_lt (ih (by omega)) (by omega)
  ·exact ih (by omega)
theorem popTo_le (c i:Nat):popTo c i≤i:=by
 induction i with
 | zero=>simp [popTo]
 | succ i ih=>unfold popTo;have:=bit_le c i;omega

/-! ### check bits -/
theorem clear_chk (x:Nat) (j:Nat) (hj:j<5):(spreadTo x 21).testBit (2 ^ j - 1)=false:=by
 rw [spreadTo_test]
 have:isP (2 ^ j - 1+1)=true:=by
  rcases (by omega:j=0∨j=1∨j=2∨j=3∨j=4) with rfl|rfl|rfl|rfl|rfl <;> decide
 simp [this]
theorem add_clear {a k:Nat} (ha:a<2147483648) (hk:k<31) (h:a.testBit k=false):a+2 ^ k=a ||| 2 ^ k:=by
 have hp:2 ^ k<2147483648:=Nat.lt_of_lt_of_le (Nat.pow_lt_pow_right (by omega) hk) (by decide)
 have hz:BitVec.ofNat 32 a &&& BitVec.ofNat 32 (2 ^ k)=0#32:=by
  apply BitVec.eq_of_toNat_eq
  rw [BitVec.toNat_and,BitVec.toNat_ofNat,BitVec.toNat_ofNat,Nat.mod_eq_of_lt (by omega),Nat.mod_eq_of_lt (by omega),Go.nat_bit]
  rw [Nat.testBit_eq_decide_div_mod_eq] at h
  have:a / 2 ^ k % 2=0:=by simp at h;omega
  rw [this];simp
 have he:=congrArg BitVec.toNat (BitVec.add_eq_or_of_and_eq_zero _ _ hz)
 rw [BitVec.toNat_add,BitVec.toNat_or,BitVec.toNat_ofNat,BitVec.toNat_ofNat,Nat.mod_eq_of_lt (show a<2 ^ 32 by omega),Nat.mod_eq_of_lt (show 2 ^ k<2 ^ 32 by omega),Nat.mod_eq_of_lt (by omega)] at he
 exact he
theorem chk_lt {o s:Nat} (ho:o<2 ^ 21) (j:Nat) (hj:j≤5):chkTo o s j<2 ^ 21:=by
 induction j with
 | zero=>exact ho
 | succ j ih =>
  unfold chkTo
  refine Nat.or_lt_two_pow (ih (by omega)) ?_
  have hb:=bit_le s j
  have hp:2 ^ (2 ^ j - 1)≤2 ^ 15:=Nat.pow_le_pow_right (by omega) (by
   have:2 ^ j≤2 ^ 4:=Nat.pow_le_pow_right (by omega) (by omega)
   omega)
  have:bit s j * 2 ^ (2 ^ j - 1)≤1 * 2 ^ 15:=Nat.mul_le_mul hb hp
  omega
theorem chk_test {o s m t:Nat} (h:∀i,i<m→t≠2 ^ i - 1):(chkTo o s m).testBit t=o.testBit t:=by
 induction m with
 | zero=>rfl
 | succ m ih =>
  unfold chkTo
  rw [Nat.testBit_or,ih (fun i hi=>h i (by omega))]
  have hne:=h m (by omega)
  have:(bit s m * 2 ^ (2 ^ m - 1)).testBit t=false:=by
   have hb:=bit_le s m
   rcases Nat.lt_or_ge 0 (bit s m) with h0|h0
   ·rw [show bit s m=1 by omega,Nat.one_mul,Nat.testBit_two_pow]
    simp;omega
   ·rw [show bit s m=0 by omega,Nat.zero_mul];simp
  simp [this]
theorem chk_clear (x s j:Nat) (hj:j<5):(chkTo (spreadTo x 21) s j).testBit (2 ^ j - 1)=false:=by
 rw [chk_test,clear_chk x j hj]
 intro i hi
 have h1:2 ^ i<2 ^ j:=Nat.pow_lt_pow_right (by omega) hi
 have h2:0<2 ^ i:=Nat.two_pow_pos i
 omega
theorem chk_add (x s j:Nat) (hj:j<5):chkTo (spreadTo x 21) s j+bit s j * 2 ^ (2 ^ j - 1)=chkTo (spreadTo x 21) s (j+1):=by
 have hb:=bit_le s j
 have hl:=chk_lt (s:=s) (spreadTo_lt x 21) j (by omega)
 rcases Nat.lt_or_ge 0 (bit s j) with h0|h0
 ·have h1:bit s j=1:=by omega
  have hk:2 ^ j≤2 ^ 4:=Nat.pow_le_pow_right (by omega) (by omega)
  rw [chkTo,h1,Nat.one_mul]
  exact add_clear (by omega) (by omega) (chk_clear x s j hj)
 ·have h1:bit s j=0:=by omega
  rw [chkTo,h1];simp
theorem gatherTo_congr {c c' i:Nat} (h:∀j,j<i→bit c j=bit c' j):gatherTo c i=gatherTo c' i:=by
 induction i with
 | zero=>rfl
 | succ i ih=>rw [gatherTo,gatherTo,ih (fun j hj=>h j (by omega)),h i (by omega)]
theorem bit_flip_ne {c k j:Nat} (h:j≠k):bit (c ^^^ 2 ^ k) j=bit c j:=by
 rw [bit_test,bit_test,Nat.testBit_xor,Nat.testBit_two_pow]
 simp [Ne.symm h]
theorem dataW_flip21 (c:Nat):dataW (c ^^^ 2097152)=dataW c :=
 gatherTo_congr fun j hj=>bit_flip_ne (k:=21) (by omega)
end Go.Proofs.YtbnfdhidgdfbeaaGreat.Cw

namespace Go.Proofs.YtbnfdhidgdfbeaaGreat.Cw

def Lin (f:Nat→Nat):Prop:=∀a b,f (a ^^^ b)=f a ^^^ f b
theorem Lin.bit (i c:Nat):Lin fun x=>if x.testBit i then c else 0:=by
 intro a b
 simp only [Nat.testBit_xor]
 cases a.testBit i <;> cases b.testBit i <;> simp
theorem xor_swap (p q r s:Nat):p ^^^ q ^^^ (r ^^^ s)=p ^^^ r ^^^ (q ^^^ s):=by
 rw [Nat.xor_assoc,←Nat.xor_assoc q r s,Nat.xor_comm q r,Nat.xor_assoc r q s,←Nat.xor_assoc]
theorem Lin.xor {f g:Nat→Nat} (hf:Lin f) (hg:Lin g):Lin fun x=>f x ^^^ g x:=by
 intro a b
 simp only [hf a b,hg a b]
 exact xor_swap _ _ _ _
theorem Lin.zero {f:Nat→Nat} (hf:Lin f):f 0=0:=by
 have:=hf 0 0
 simpa using this
end Go.Proofs.YtbnfdhidgdfbeaaGreat.Cw

namespace Go.Proofs.YtbnfdhidgdfbeaaGreat
set_option maxRecDepth 100000
open Cw

structure Le where
 sel:List Int
 mask:Int
 flop:Int
 init:Int
structure Tile where
 mux:List Int
 les:List Le
 pad:Int
 ram:Int
def Le.zero:Le:=⟨[],0,0,0⟩
def Tile.zero:Tile:=⟨[],[],0,0⟩
def Le.cells (e:Le):List Cel:=[celI e.sel,.int e.mask,.int e.flop,.int e.init]
def celE (es:List Le):Cel := .row 104 4 (es.flatMap Le.cells)
def Tile.cells (t:Tile):List Cel:=[celI t.mux,celE t.les,.int t.pad,.int t.ram]
def celT (ts:List Tile):Cel := .row 107 4 (ts.flatMap Tile.cells)

/-! ### reading -/
/-- Bit p of words of 16 bits. -/
def bitW (ws:List Int) (p:Nat):Nat:=bit (ws[p / 16]?.getD 0).toNat (p % 16)
def getTo (ws:List Int) (p:Nat):Nat→Nat
 | 0=>0
 | k+1=>getTo ws p k+bitW ws (p+k) * 2 ^ k
def getW (ws:List Int) (p n:Nat):Int:=((getTo ws p n:Nat):Int)
theorem getTo_lt (ws:List Int) (p n:Nat):getTo ws p n<2 ^ n:=by
 induction n with
 | zero=>simp [getTo]
 | succ n ih=>exact add_pow_lt ih (bit_le _ _)
theorem getW_bd (ws:List Int) (p n:Nat) (_h:n≤16):0≤getW ws p n∧getW ws p n<2 ^ n:=by
 have:=getTo_lt ws p n
 unfold getW
 exact ⟨by omega,by exact_mod_cast this⟩
def muxN (d:Dev):Nat:=(5+4 * d.T).toNat
def decLe (ws:List Int) (p:Nat):Le:=⟨[getW ws p 3,getW ws (p+3) 3,getW ws (p+6) 3,getW ws (p+9) 3],getW ws (p+12) 16,getW ws (p+28) 1,getW ws (p+29) 1⟩
def decMux (ws:List Int) (m:Nat):List Int:=(List.range m).map fun k=>getW ws (5 * k) 5
def decT (d:Dev) (ws:List Int):Tile :=
 ⟨decMux ws (muxN d),[decLe ws (5 * muxN d),decLe ws (5 * muxN d+30)],getW ws (5 * muxN d+60) 2,getW ws (5 * muxN d+62) 5⟩
/-- The data of a frame, and what a device's frames configure. -/
def dataI (c:Int):Int:=((dataW c.toNat:Nat):Int)
def dataOf (f:List Int):List Int:=f.map dataI
def tilesOf (d:Dev) (fs:List (List Int)):List Tile:=fs.map fun f=>decT d (dataOf f)
/-- The words of some tiles' frames, in order. -/
def wordsTo (fs:List (List Int)) (ts:List Int):Nat→List Int
 | 0=>[]
 | k+1=>wordsTo fs ts k++dataOf (fs[(ts[k]?.getD 0).toNat]?.getD [])
/-! ### writing -/
def putB (n:Nat) (x:Int):List Nat:=(List.range n).map fun i=>bit x.toNat i
def Le.bits (e:Le):List Nat:=e.sel.flatMap (putB 3)++(putB 16 e.mask++(putB 1 e.flop++putB 1 e.init))
def Tile.bits (t:Tile):List Nat:=t.mux.flatMap (putB 5)++(t.les.flatMap Le.bits++(putB 2 t.pad++putB 5 t.ram))
theorem flat_length {α β:Type} {f:α→List β} {L:Nat} (hf:∀x,(f x).length=L) (xs:List α):(xs.flatMap f).length=L * xs.length:=by
 induction xs with
 | nil=>simp
 | cons x xs ih=>simp [ih,hf,Nat.mul_add,Nat.add_comm]
theorem flat_get {α β:Type} {f:α→List β} {L:Nat} (hf:∀x,(f x).length=L):∀{xs:List α} {i k:Nat} {x:α},xs[i]?=some x→k<L→(xs.flatMap f)[L * i+k]?=(f x)[k]?
 | [],i,k,x,h,hk=>by simp at h
 | y :: ys,0,k,x,h,hk=>by
  simp at h
  subst h
  rw [List.flatMap_cons,Nat.mul_zero,Nat.zero_add,List.getElem?_append_left (by rw [hf];exact hk)]
 | y :: ys,i+1,k,x,h,hk=>by
  rw [List.flatMap_cons,List.getElem?_append_right (by rw [hf,Nat.mul_add];omega),hf,show L * (i+1)+k - L=L * i+k by rw [Nat.mul_add];omega]
  exact flat_get hf (by simpa using h) hk
/-! ### which tiles are valid -/
def leOk (e:Le):Bool:=decide (e.sel.length=4) && (inR e.mask 0 65535 && (inR e.flop 0 1 && (inR e.init 0 1 && allIn e.sel 7)))
def tileOk (d:Dev) (t:Tile):Bool :=
 devOk d && (decide (t.mux.length=muxN d) && (decide (t.les.length=2) && (inR t.pad 0 3 && (inR t.ram 0 31 && (allIn t.mux 31 && (leOk (t.les[0]?.getD Le.zero) && leOk (t.les[1]?.getD Le.zero)))))))
structure TileFit (d:Dev) (t:Tile):Prop where
 dev:devOk d=true
 mux:t.mux.length=muxN d
 les:∃e0 e1,t.les=[e0,e1]∧leOk e0=true∧leOk e1=true
 pad:0≤t.pad∧t.pad≤3
 ram:0≤t.ram∧t.ram≤31
 muxIn:∀j,j<t.mux.length→0≤t.mux[j]?.getD 0∧t.mux[j]?.getD 0≤31
theorem tileOk_iff {d:Dev} {t:Tile} (h:tileOk d t=true):TileFit d t:=by
 simp only [tileOk,Bool.and_eq_true,decide_eq_true_eq] at h
 obtain ⟨h1,h2,h3,h4,h5,h6,h7,h8⟩:=h
 refine ⟨h1,h2,?_,inR_iff.1 h4,inR_iff.1 h5,fun j hj=>allIn_get h6 hj⟩
 match hl:t.les,h3 with
 | [e0,e1],_ =>
  rw [hl] at h7 h8
  exact ⟨e0,e1,rfl,by simpa using h7,by simpa using h8⟩
structure LeFit (e:Le):Prop where
 sel:∃a b c d,e.sel=[a,b,c,d]∧(0≤a∧a≤7)∧(0≤b∧b≤7)∧(0≤c∧c≤7)∧(0≤d∧d≤7)
 mask:0≤e.mask∧e.mask≤65535
 flop:0≤e.flop∧e.flop≤1
 init:0≤e.init∧e.init≤1
theorem leOk_iff {e:Le} (h:leOk e=true):LeFit e:=by
 simp only [leOk,Bool.and_eq_true,decide_eq_true_eq] at h
 obtain ⟨h1,h2,h3,h4,h5⟩:=h
 refine ⟨?_,inR_iff.1 h2,inR_iff.1 h3,inR_iff.1 h4⟩
 match hl:e.sel,h1 with
 | [a,b,c,d],_ =>
  rw [hl] at h5
  have g:=fun (k:Nat) (hk:k<4)=>allIn_get h5 (k:=k) hk
  exact ⟨a,b,c,d,rfl,by simpa using g 0 (by omega),by simpa using g 1 (by omega),by simpa using g 2 (by omega),by simpa using g 3 (by omega)⟩
theorem muxN_bd {d:Dev} (h:devOk d=true):(muxN d:Int)=5+4 * d.T∧9≤muxN d∧muxN d≤21∧5 * muxN d+67≤16 * (fwI d).toNat∧7≤(fwI d).toNat∧(fwI d).toNat≤11:=by
 have:=devOk_bd h
 unfold muxN fwI
 omega
end Go.Proofs.YtbnfdhidgdfbeaaGreat
