/- Codewords: plain arithmetic; no program in sight. -/
import Derived.Laws.BitsAllLaws
import Derived.Test.YtignkfhdkcgkgaaGreatCopies
import Derived.Test.YtignkfhdkcgkgaaGreatTree
namespace Go.Proofs.YtignkfhdkcgkgaaGreat.Cw
def isP (p:Nat):Bool:=p &&& (p - 1)==0
def kTo:Nat→Nat
 | 0=>0
 | i+1=>kTo i+if isP (i+1) then 0 else 1
def bit (x i:Nat):Nat:=x / 2 ^ i % 2
def bK (x:Nat):Nat→Nat
 | 0=>0
 | i+1=>bK x i+if isP (i+1) then 0 else bit x (kTo i) * 2 ^ i
def gX (c:Nat):Nat→Nat
 | 0=>0
 | i+1=>gX c i+if isP (i+1) then 0 else bit c i * 2 ^ kTo i
def pF (c:Nat):Nat→Nat
 | 0=>0
 | i+1=>if bit c i=1 then pF c i ^^^ (i+1) else pF c i
def iw (o s:Nat):Nat→Nat
 | 0=>o
 | j+1=>iw o s j ||| bit s j * 2 ^ (2 ^ j - 1)
def pG (c:Nat):Nat→Nat
 | 0=>0
 | i+1=>pG c i+bit c i
def J4 (x:Nat):Nat:=iw (bK x 21) (pF (bK x 21) 21) 5
def encW (x:Nat):Nat:=J4 x+pG (J4 x) 22 % 2 * 2 ^ 21
def dataW (c:Nat):Nat:=gX c 21
def kJ (c:Nat):Nat:=pF c 21
def kI (c:Nat):Nat:=pG c 22
theorem fu (x i:Nat):bit x i<=1:=by unfold bit;omega
theorem xz (x i:Nat):bit x i=if x.testBit i then 1 else 0:=by
 rw [Nat.testBit_eq_decide_div_mod_eq]
 unfold bit
 by_cases h:x / 2 ^ i % 2=1
 ·simp [h]
 ·simp [h];omega
theorem BC {x m b i:Nat} (h:x<2 ^ m) (hb:b<=1):(x+b * 2 ^ m).testBit i=if i=m then decide (b=1) else x.testBit i:=by
 rcases Nat.lt_or_ge 0 b with h0|h0
 ·obtain rfl:b=1:=by omega
  rw [Nat.one_mul,Nat.add_comm,←Go.nat_join m (2 ^ m) x (Nat.mod_self _) h]
  rw [Nat.testBit_or,Nat.testBit_two_pow]
  by_cases hi:i=m
  ·subst hi;simp
  ·simp [hi,Ne.symm hi]
 ·obtain rfl:b=0:=by omega
  by_cases hi:i=m
  ·subst hi;simp [Nat.testBit_lt_two_pow h]
  ·simp [hi]
theorem nM {x m b:Nat} (h:x<2 ^ m) (hb:b<=1):x+b * 2 ^ m<2 ^ (m+1):=by
 rw [Nat.pow_succ]
 rcases Nat.lt_or_ge 0 b with h0|h0
 ·obtain rfl:b=1:=by omega
  omega
 ·obtain rfl:b=0:=by omega
  omega
theorem Dp {x m:Nat} (h:x<2 ^ m):x<2 ^ (m+1):=by rw [Nat.pow_succ];omega
theorem jM (x i:Nat):bK x i<2 ^ i:=by
 induction i with
 | zero=>simp [bK]
 | succ i ih =>
  unfold bK
  split
  ·simpa using Dp ih
  ·exact nM ih (fu _ _)
theorem yZ (x m i:Nat):(bK x m).testBit i=(decide (i<m) && (!isP (i+1) && x.testBit (kTo i))):=by
 induction m with
 | zero=>simp [bK]
 | succ m ih =>
  unfold bK
  split
  ·rename_i hp
   rw [Nat.add_zero,ih]
   by_cases hi:i=m
   ·subst hi;simp [hp]
   ·have:(i<m+1)=(i<m):=propext (by omega)
    simp [this]
  ·rename_i hp
   rw [BC (jM x m) (fu _ _),ih]
   by_cases hi:i=m
   ·subst hi
    have hp':isP (i+1)=false:=by simpa using hp
    simp only [if_true,hp',Bool.not_false,Bool.true_and,show decide (i<i+1)=true from by simp]
    rw [xz]
    cases x.testBit (kTo i) <;> simp
   ·have:(i<m+1)=(i<m):=propext (by omega)
    simp [hi,this]
theorem BD (i:Nat):kTo i<=i:=by
 induction i with
 | zero=>simp [kTo]
 | succ i ih=>unfold kTo;split <;> omega
theorem rC (c i:Nat):gX c i<2 ^ kTo i:=by
 induction i with
 | zero=>simp [gX,kTo]
 | succ i ih =>
  by_cases hp:isP (i+1)=true
  ·simpa [gX,kTo,hp] using ih
  ·simp only [gX,kTo,hp]
   exact nM ih (fu _ _)
theorem J5 {a b n:Nat} (ha:a<2 ^ n) (hb:b<2 ^ n):a ^^^ b<2 ^ n:=Nat.xor_lt_two_pow ha hb
theorem pI (c i:Nat) (hi:i<=31):pF c i<2 ^ 5:=by
 induction i with
 | zero=>simp [pF]
 | succ i ih =>
  unfold pF
  split
  ·exact J5 (ih (by omega)) (by omega)
  ·exact ih (by omega)
theorem pJ (c i:Nat):pG c i<=i:=by
 induction i with
 | zero=>simp [pG]
 | succ i ih=>unfold pG;have:=fu c i;omega
/-! ### check bits -/
theorem Gu (x:Nat) (j:Nat) (hj:j<5):(bK x 21).testBit (2 ^ j - 1)=false:=by
 rw [yZ]
 have:isP (2 ^ j - 1+1)=true:=by
  rcases (by omega:j=0∨j=1∨j=2∨j=3∨j=4) with rfl|rfl|rfl|rfl|rfl <;> decide
 simp [this]
theorem Gv {a k:Nat} (ha:a<2147483648) (hk:k<31) (h:a.testBit k=false):a+2 ^ k=a ||| 2 ^ k:=by
 have hp:2 ^ k<2147483648:=Nat.lt_of_lt_of_le (Nat.pow_lt_pow_right (by omega) hk) (by decide)
 have hz:BitVec.ofNat 32 a &&& BitVec.ofNat 32 (2 ^ k)=0#32:=by
  apply BitVec.eq_of_toNat_eq
  rw [BitVec.toNat_and,BitVec.toNat_ofNat,BitVec.toNat_ofNat,Nat.mod_eq_of_lt (by omega),Nat.mod_eq_of_lt (by omega),Go.nat_bit]
  rw [Nat.testBit_eq_decide_div_mod_eq] at h
  have:a / 2 ^ k % 2=0:=by simp at h;omega
  rw [this];simp
 have he:=congrArg BitVec.toNat (BitVec.add_eq_or_of_and_eq_zero _ _ hz)
 rw [BitVec.toNat_add,BitVec.toNat_or,BitVec.toNat_ofNat,BitVec.toNat_ofNat,Nat.mod_eq_of_lt (show a<2 ^ 32 by omega),Nat.mod_eq_of_lt (show 2 ^ k<2 ^ 32 by omega),Nat.mod_eq_of_lt (by omega)] at he
 exact he
theorem BF {o s:Nat} (ho:o<2 ^ 21) (j:Nat) (hj:j<=5):iw o s j<2 ^ 21:=by
 induction j with
 | zero=>exact ho
 | succ j ih =>
  unfold iw
  refine Nat.or_lt_two_pow (ih (by omega)) ?_
  have hb:=fu s j
  have hp:2 ^ (2 ^ j - 1)<=2 ^ 15:=Nat.pow_le_pow_right (by omega) (by
   have:2 ^ j<=2 ^ 4:=Nat.pow_le_pow_right (by omega) (by omega)
   omega)
  have:bit s j * 2 ^ (2 ^ j - 1)<=1 * 2 ^ 15:=Nat.mul_le_mul hb hp
  omega
theorem Ip {o s m t:Nat} (h:∀i,i<m→t≠2 ^ i - 1):(iw o s m).testBit t=o.testBit t:=by
 induction m with
 | zero=>rfl
 | succ m ih =>
  unfold iw
  rw [Nat.testBit_or,ih (fun i hi=>h i (by omega))]
  have hne:=h m (by omega)
  have:(bit s m * 2 ^ (2 ^ m - 1)).testBit t=false:=by
   have hb:=fu s m
   rcases Nat.lt_or_ge 0 (bit s m) with h0|h0
   ·rw [show bit s m=1 by omega,Nat.one_mul,Nat.testBit_two_pow]
    simp;omega
   ·rw [show bit s m=0 by omega,Nat.zero_mul];simp
  simp [this]
theorem Gw (x s j:Nat) (hj:j<5):(iw (bK x 21) s j).testBit (2 ^ j - 1)=false:=by
 rw [Ip,Gu x j hj]
 intro i hi
 have h1:2 ^ i<2 ^ j:=Nat.pow_lt_pow_right (by omega) hi
 have h2:0<2 ^ i:=Nat.two_pow_pos i
 omega
theorem JO (x s j:Nat) (hj:j<5):iw (bK x 21) s j+bit s j * 2 ^ (2 ^ j - 1)=iw (bK x 21) s (j+1):=by
 have hb:=fu s j
 have hl:=BF (s:=s) (jM x 21) j (by omega)
 rcases Nat.lt_or_ge 0 (bit s j) with h0|h0
 ·have h1:bit s j=1:=by omega
  have hk:2 ^ j<=2 ^ 4:=Nat.pow_le_pow_right (by omega) (by omega)
  rw [iw,h1,Nat.one_mul]
  exact Gv (by omega) (by omega) (Gw x s j hj)
 ·have h1:bit s j=0:=by omega
  rw [iw,h1];simp
theorem yA {c c' i:Nat} (h:∀j,j<i→bit c j=bit c' j):gX c i=gX c' i:=by
 induction i with
 | zero=>rfl
 | succ i ih=>rw [gX,gX,ih (fun j hj=>h j (by omega)),h i (by omega)]
theorem Dq {c k j:Nat} (h:j≠k):bit (c ^^^ 2 ^ k) j=bit c j:=by
 rw [xz,xz,Nat.testBit_xor,Nat.testBit_two_pow]
 simp [Ne.symm h]
theorem BG (c:Nat):dataW (c ^^^ 2097152)=dataW c :=
 yA fun j hj=>Dq (k:=21) (by omega)
theorem JP (x:Nat):J4 x<2 ^ 21:=BF (jM x 21) 5 (by omega)
theorem Fa (x:Nat):encW x<4194304:=by
 have:=JP x
 unfold encW
 omega
end Go.Proofs.YtignkfhdkcgkgaaGreat.Cw
namespace Go.Proofs.YtignkfhdkcgkgaaGreat.Cw
def Lin (f:Nat→Nat):Prop:=∀a b,f (a ^^^ b)=f a ^^^ f b
theorem Lin.bit (i c:Nat):Lin fun x=>if x.testBit i then c else 0:=by
 intro a b
 simp only [Nat.testBit_xor]
 cases a.testBit i <;> cases b.testBit i <;> simp
theorem Iq (p q r s:Nat):p ^^^ q ^^^ (r ^^^ s)=p ^^^ r ^^^ (q ^^^ s):=by
 rw [Nat.xor_assoc,←Nat.xor_assoc q r s,Nat.xor_comm q r,Nat.xor_assoc r q s,←Nat.xor_assoc]
theorem Lin.xor {f g:Nat→Nat} (hf:Lin f) (hg:Lin g):Lin fun x=>f x ^^^ g x:=by
 intro a b
 simp only [hf a b,hg a b]
 exact Iq _ _ _ _
theorem Lin.zero {f:Nat→Nat} (hf:Lin f):f 0=0:=by
 have:=hf 0 0
 simpa using this
end Go.Proofs.YtignkfhdkcgkgaaGreat.Cw
namespace Go.Proofs.YtignkfhdkcgkgaaGreat
set_option maxRecDepth 100000
open Cw
structure Le where
 sel:List Int
 mask:Int
 flop:Int
 init:Int
structure aZ where
 mux:List Int
 les:List Le
 pad:Int
 ram:Int
def Le.zero:Le:=⟨[],0,0,0⟩
def aZ.zero:aZ:=⟨[],[],0,0⟩
def Le.cells (e:Le):List Cel:=[jI e.sel,.int e.mask,.int e.flop,.int e.init]
def nR (es:List Le):Cel := .row 107 4 (es.flatMap Le.cells)
def aZ.cells (t:aZ):List Cel:=[jI t.mux,nR t.les,.int t.pad,.int t.ram]
def kY (ts:List aZ):Cel := .row 103 4 (ts.flatMap aZ.cells)
/-! ### reading -/
def J6 (ws:List Int) (p:Nat):Nat:=bit (ws[p / 16]?.getD 0).toNat (p % 16)
def sK (ws:List Int) (p:Nat):Nat→Nat
 | 0=>0
 | k+1=>sK ws p k+J6 ws (p+k) * 2 ^ k
def bC (ws:List Int) (p n:Nat):Int:=((sK ws p n:Nat):Int)
theorem yB (ws:List Int) (p n:Nat):sK ws p n<2 ^ n:=by
 induction n with
 | zero=>simp [sK]
 | succ n ih=>exact nM ih (fu _ _)
theorem JQ (ws:List Int) (p n:Nat) (_h:n<=16):0<=bC ws p n/\bC ws p n<2 ^ n:=by
 have:=yB ws p n
 unfold bC
 exact ⟨by omega,by exact_mod_cast this⟩
def fK (d:Dev):Nat:=(5+4 * d.T).toNat
def sM (ws:List Int) (p:Nat):Le:=⟨[bC ws p 3,bC ws (p+3) 3,bC ws (p+6) 3,bC ws (p+9) 3],bC ws (p+12) 16,bC ws (p+28) 1,bC ws (p+29) 1⟩
def qG (ws:List Int) (m:Nat):List Int:=(List.range m).map fun k=>bC ws (5 * k) 5
def qH (d:Dev) (ws:List Int):aZ :=
 ⟨qG ws (fK d),[sM ws (5 * fK d),sM ws (5 * fK d+30)],bC ws (5 * fK d+60) 2,bC ws (5 * fK d+62) 5⟩
def Dr (c:Int):Int:=((dataW c.toNat:Nat):Int)
def eU (f:List Int):List Int:=f.map Dr
def ay (d:Dev) (fs:List (List Int)):List aZ:=fs.map fun f=>qH d (eU f)
def nu (fs:List (List Int)) (ts:List Int):Nat→List Int
 | 0=>[]
 | k+1=>nu fs ts k++eU (fs[(ts[k]?.getD 0).toNat]?.getD [])
/-! ### writing -/
def ib (n:Nat) (x:Int):List Nat:=(List.range n).map fun i=>bit x.toNat i
def Le.bits (e:Le):List Nat:=e.sel.flatMap (ib 3)++(ib 16 e.mask++(ib 1 e.flop++ib 1 e.init))
def aZ.bits (t:aZ):List Nat:=t.mux.flatMap (ib 5)++(t.les.flatMap Le.bits++(ib 2 t.pad++ib 5 t.ram))
def iB (N:Nat) (bs:List Nat):Nat→List Nat
 | 0=>List.replicate N 0
 | k+1=>(iB N bs k).set (k / 16) ((iB N bs k)[k / 16]?.getD 0+(bs[k]?.getD 0) * 2 ^ (k % 16))
def tN (d:Dev) (t:aZ):List Int:=(iB (fwI d).toNat t.bits t.bits.length).map fun (x:Nat)=>(x:Int)
theorem sN (N:Nat) (bs:List Nat) (k:Nat):(iB N bs k).length=N:=by
 induction k with
 | zero=>simp [iB]
 | succ k ih=>simp [iB,ih]
def nN (bs:List Nat):Prop:=∀i:Nat,bs[i]?.getD 0<=1
theorem zX {N:Nat} {bs:List Nat} (hb:nN bs) (k j:Nat):(iB N bs k)[j]?.getD 0<2 ^ (min 16 (k - 16 * j)):=by
 induction k with
 | zero =>
  simp only [iB,List.getElem?_replicate]
  split <;> simp
 | succ k ih =>
  rw [iB,List.getElem?_set]
  split
  ·rename_i h
   split
   ·rename_i hl
    subst h
    have e:min 16 (k+1 - 16 * (k / 16))=min 16 (k - 16 * (k / 16))+1:=by omega
    have e2:k % 16=min 16 (k - 16 * (k / 16)):=by omega
    rw [e,Option.getD_some,e2]
    exact nM ih (hb k)
   ·simp [Nat.pow_pos]
  ·exact Nat.lt_of_lt_of_le ih (Nat.pow_le_pow_right (by omega) (by omega))
theorem Es {N:Nat} {bs:List Nat} (hb:nN bs) (k:Nat):(iB N bs k)[k / 16]?.getD 0<2 ^ (k % 16):=by
 have:=zX (N:=N) hb k (k / 16)
 rwa [show min 16 (k - 16 * (k / 16))=k % 16 by omega] at this
theorem Gx {N:Nat} {bs:List Nat} (hb:nN bs) (k j:Nat):(iB N bs k)[j]?.getD 0<65536 :=
 Nat.lt_of_lt_of_le (zX hb k j) (Nat.pow_le_pow_right (by omega) (show min 16 (k - 16 * j)<=16 by omega))
theorem mD (n:Nat) (x:Int):(ib n x).length=n:=by simp [ib]
theorem Dt {n:Nat} {x:Int} {i:Nat} (h:i<n):(ib n x)[i]?=some (bit x.toNat i):=by simp [ib,h]
theorem rD {α β:Type} {f:α→List β} {L:Nat} (hf:∀x,(f x).length=L) (xs:List α):(xs.flatMap f).length=L * xs.length:=by
 induction xs with
 | nil=>simp
 | cons x xs ih=>simp [ih,hf,Nat.mul_add,Nat.add_comm]
theorem Du {α β:Type} {f:α→List β} {L:Nat} (hf:∀x,(f x).length=L):∀{xs:List α} {i k:Nat} {x:α},xs[i]?=some x→k<L→(xs.flatMap f)[L * i+k]?=(f x)[k]?
 | [],i,k,x,h,hk=>by simp at h
 | y :: ys,0,k,x,h,hk=>by
  simp at h
  subst h
  rw [List.flatMap_cons,Nat.mul_zero,Nat.zero_add,List.getElem?_append_left (by rw [hf];exact hk)]
 | y :: ys,i+1,k,x,h,hk=>by
  rw [List.flatMap_cons,List.getElem?_append_right (by rw [hf,Nat.mul_add];omega),hf,show L * (i+1)+k - L=L * i+k by rw [Nat.mul_add];omega]
  exact Du hf (by simpa using h) hk
theorem jO (n:Nat) (x:Int):nN (ib n x):=by
 intro i
 rcases Nat.lt_or_ge i n with h|h
 ·rw [Dt h];exact fu _ _
 ·rw [List.getElem?_eq_none (by rw [mD];exact h)];simp
theorem iC {xs ys:List Nat} (hx:nN xs) (hy:nN ys):nN (xs++ys):=by
 intro i
 rw [List.getElem?_append]
 split
 ·exact hx i
 ·exact hy _
theorem rE {α:Type} {f:α→List Nat} (hf:∀x,nN (f x)) (xs:List α):nN (xs.flatMap f):=by
 induction xs with
 | nil=>intro i;simp
 | cons x xs ih=>rw [List.flatMap_cons];exact iC (hf x) ih
theorem Le.bits01 (e:Le):nN e.bits:=iC (rE (jO 3) _) (iC (jO _ _) (iC (jO _ _) (jO _ _)))
theorem aZ.bits01 (t:aZ):nN t.bits:=iC (rE (jO 5) _) (iC (rE Le.bits01 _) (iC (jO _ _) (jO _ _)))
/-! ### which tiles are valid -/
def um (e:Le):Bool:=decide (e.sel.length=4) && (inR e.mask 0 65535 && (inR e.flop 0 1 && (inR e.init 0 1 && ku e.sel 7)))
def iD (d:Dev) (t:aZ):Bool :=
 bL d && (decide (t.mux.length=fK d) && (decide (t.les.length=2) && (inR t.pad 0 3 && (inR t.ram 0 31 && (ku t.mux 31 && (um (t.les[0]?.getD Le.zero) && um (t.les[1]?.getD Le.zero)))))))
structure BH (d:Dev) (t:aZ):Prop where
 dev:bL d=true
 mux:t.mux.length=fK d
 les:∃e0 e1,t.les=[e0,e1]/\um e0=true/\um e1=true
 pad:0<=t.pad/\t.pad<=3
 ram:0<=t.ram/\t.ram<=31
 muxIn:∀j,j<t.mux.length→0<=t.mux[j]?.getD 0/\t.mux[j]?.getD 0<=31
theorem nO {d:Dev} {t:aZ} (h:iD d t=true):BH d t:=by
 simp only [iD,Bool.and_eq_true,decide_eq_true_eq] at h
 obtain ⟨h1,h2,h3,h4,h5,h6,h7,h8⟩:=h
 refine ⟨h1,h2,?_,aa.1 h4,aa.1 h5,fun j hj=>lJ h6 hj⟩
 match hl:t.les,h3 with
 | [e0,e1],_ =>
  rw [hl] at h7 h8
  exact ⟨e0,e1,rfl,by simpa using h7,by simpa using h8⟩
structure Dv (e:Le):Prop where
 sel:∃a b c d,e.sel=[a,b,c,d]/\(0<=a/\a<=7)/\(0<=b/\b<=7)/\(0<=c/\c<=7)/\(0<=d/\d<=7)
 mask:0<=e.mask/\e.mask<=65535
 flop:0<=e.flop/\e.flop<=1
 init:0<=e.init/\e.init<=1
theorem nP {e:Le} (h:um e=true):Dv e:=by
 simp only [um,Bool.and_eq_true,decide_eq_true_eq] at h
 obtain ⟨h1,h2,h3,h4,h5⟩:=h
 refine ⟨?_,aa.1 h2,aa.1 h3,aa.1 h4⟩
 match hl:e.sel,h1 with
 | [a,b,c,d],_ =>
  rw [hl] at h5
  have g:=fun (k:Nat) (hk:k<4)=>lJ h5 (k:=k) hk
  exact ⟨a,b,c,d,rfl,by simpa using g 0 (by omega),by simpa using g 1 (by omega),by simpa using g 2 (by omega),by simpa using g 3 (by omega)⟩
theorem gY {d:Dev} (h:bL d=true):(fK d:Int)=5+4 * d.T/\9<=fK d/\fK d<=21/\5 * fK d+67<=16 * (fwI d).toNat/\7<=(fwI d).toNat/\(fwI d).toNat<=11:=by
 have:=ah h
 unfold fK fwI
 omega
theorem rF {e:Le} (h:um e=true):e.bits.length=30:=by
 obtain ⟨a,b,c,d,hs,_⟩:=(nP h).sel
 simp [Le.bits,hs,mD]
theorem vR {d:Dev} {t:aZ} (h:iD d t=true):t.bits.length=5 * fK d+67:=by
 obtain ⟨hd,hm,⟨e0,e1,hl,h0,h1⟩,_,_,_⟩:=nO h
 simp [aZ.bits,hl,mD,rF h0,rF h1,rD (mD 5),hm]
theorem ny (d:Dev) (t:aZ):(tN d t).length=(fwI d).toNat:=by simp [tN,sN]
theorem Ir {d:Dev} {t:aZ} (j:Nat):(tN d t)[j]?.getD 0=(((iB (fwI d).toNat t.bits t.bits.length)[j]?.getD 0:Nat):Int):=by
 simp only [tN,List.getElem?_map]
 cases (iB (fwI d).toNat t.bits t.bits.length)[j]? <;> rfl
theorem Fb (d:Dev) (t:aZ) (j:Nat):0<=(tN d t)[j]?.getD 0/\(tN d t)[j]?.getD 0<=65535:=by
 rw [Ir]
 have:=Gx (N:=(fwI d).toNat) t.bits01 t.bits.length j
 omega
end Go.Proofs.YtignkfhdkcgkgaaGreat
