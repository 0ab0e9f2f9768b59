/- Codewords: plain arithmetic; no program in sight. -/
import Derived.Laws.BitsAllLaws
import Derived.Test.YtignkfhdkcgkgaaGreatCopies
import Derived.Test.YtignkfhdkcgkgaaGreatTree
namespace Go.Proofs.YtignkfhdkcgkgaaGreat.Cw
def isP (p:Nat):Bool:=p &&& (p - 1)==0
def kTo:Nat→Nat
 | 0=>0
 | i+1=>kTo i+if isP (i+1) then 0 else 1
def bit (x i:Nat):Nat:=x / 2 ^ i % 2
def bE (x:Nat):Nat→Nat
 | 0=>0
 | i+1=>bE x i+if isP (i+1) then 0 else bit x (kTo i) * 2 ^ i
def gD (c:Nat):Nat→Nat
 | 0=>0
 | i+1=>gD c i+if isP (i+1) then 0 else bit c i * 2 ^ kTo i
def nT (c:Nat):Nat→Nat
 | 0=>0
 | i+1=>if bit c i=1 then nT c i ^^^ (i+1) else nT c i
def iD (o s:Nat):Nat→Nat
 | 0=>o
 | j+1=>iD o s j ||| bit s j * 2 ^ (2 ^ j - 1)
def nU (c:Nat):Nat→Nat
 | 0=>0
 | i+1=>nU c i+bit c i
def II (x:Nat):Nat:=iD (bE x 21) (nT (bE x 21) 21) 5
def encW (x:Nat):Nat:=II x+nU (II x) 22 % 2 * 2 ^ 21
def dataW (c:Nat):Nat:=gD c 21
def jb (c:Nat):Nat:=nT c 21
def jY (c:Nat):Nat:=nU c 22
theorem fP (x i:Nat):bit x i<=1:=by unfold bit;omega
theorem wP (x i:Nat):bit x i=if x.testBit i then 1 else 0:=by
 rw [Nat.testBit_eq_decide_div_mod_eq]
 unfold bit
 by_cases h:x / 2 ^ i % 2=1
 ·simp [h]
 ·simp [h];omega
theorem zO {x m b i:Nat} (h:x<2 ^ m) (hb:b<=1):(x+b * 2 ^ m).testBit i=if i=m then decide (b=1) else x.testBit i:=by
 rcases Nat.lt_or_ge 0 b with h0|h0
 ·obtain rfl:b=1:=by omega
  rw [Nat.one_mul,Nat.add_comm,←Go.nat_join m (2 ^ m) x (Nat.mod_self _) h]
  rw [Nat.testBit_or,Nat.testBit_two_pow]
  by_cases hi:i=m
  ·subst hi;simp
  ·simp [hi,Ne.symm hi]
 ·obtain rfl:b=0:=by omega
  by_cases hi:i=m
  ·subst hi;simp [Nat.testBit_lt_two_pow h]
  ·simp [hi]
theorem oQ {x m b:Nat} (h:x<2 ^ m) (hb:b<=1):x+b * 2 ^ m<2 ^ (m+1):=by
 rw [Nat.pow_succ]
 rcases Nat.lt_or_ge 0 b with h0|h0
 ·obtain rfl:b=1:=by omega
  omega
 ·obtain rfl:b=0:=by omega
  omega
theorem Bg {x m:Nat} (h:x<2 ^ m):x<2 ^ (m+1):=by rw [Nat.pow_succ];omega
theorem jZ (x i:Nat):bE x i<2 ^ i:=by
 induction i with
 | zero=>simp [bE]
 | succ i ih =>
  unfold bE
  split
  ·simpa using Bg ih
  ·exact oQ ih (fP _ _)
theorem xI (x m i:Nat):(bE x m).testBit i=(decide (i<m) && (!isP (i+1) && x.testBit (kTo i))):=by
 induction m with
 | zero=>simp [bE]
 | succ m ih =>
  unfold bE
  split
  ·rename_i hp
   rw [Nat.add_zero,ih]
   by_cases hi:i=m
   ·subst hi;simp [hp]
   ·have:(i<m+1)=(i<m):=propext (by omega)
    simp [this]
  ·rename_i hp
   rw [zO (jZ x m) (fP _ _),ih]
   by_cases hi:i=m
   ·subst hi
    have hp':isP (i+1)=false:=by simpa using hp
    simp only [if_true,hp',Bool.not_false,Bool.true_and,show decide (i<i+1)=true from by simp]
    rw [wP]
    cases x.testBit (kTo i) <;> simp
   ·have:(i<m+1)=(i<m):=propext (by omega)
    simp [hi,this]
theorem zP (i:Nat):kTo i<=i:=by
 induction i with
 | zero=>simp [kTo]
 | succ i ih=>unfold kTo;split <;> omega
theorem qF (c i:Nat):gD c i<2 ^ kTo i:=by
 induction i with
 | zero=>simp [gD,kTo]
 | succ i ih =>
  by_cases hp:isP (i+1)=true
  ·simpa [gD,kTo,hp] using ih
  ·simp only [gD,kTo,hp]
   exact oQ ih (fP _ _)
theorem Ht {a b n:Nat} (ha:a<2 ^ n) (hb:b<2 ^ n):a ^^^ b<2 ^ n:=Nat.xor_lt_two_pow ha hb
theorem nV (c i:Nat) (hi:i<=31):nT c i<2 ^ 5:=by
 induction i with
 | zero=>simp [nT]
 | succ i ih =>
  unfold nT
  split
  ·exact Ht (ih (by omega)) (by omega)
  ·exact ih (by omega)
theorem nW (c i:Nat):nU c i<=i:=by
 induction i with
 | zero=>simp [nU]
 | succ i ih=>unfold nU;have:=fP c i;omega
/-! ### check bits -/
theorem FB (x:Nat) (j:Nat) (hj:j<5):(bE x 21).testBit (2 ^ j - 1)=false:=by
 rw [xI]
 have:isP (2 ^ j - 1+1)=true:=by
  rcases (by omega:j=0∨j=1∨j=2∨j=3∨j=4) with rfl|rfl|rfl|rfl|rfl <;> decide
 simp [this]
theorem FC {a k:Nat} (ha:a<2147483648) (hk:k<31) (h:a.testBit k=false):a+2 ^ k=a ||| 2 ^ k:=by
 have hp:2 ^ k<2147483648:=Nat.lt_of_lt_of_le (Nat.pow_lt_pow_right (by omega) hk) (by decide)
 have hz:BitVec.ofNat 32 a &&& BitVec.ofNat 32 (2 ^ k)=0#32:=by
  apply BitVec.eq_of_toNat_eq
  rw [BitVec.toNat_and,BitVec.toNat_ofNat,BitVec.toNat_ofNat,Nat.mod_eq_of_lt (by omega),Nat.mod_eq_of_lt (by omega),Go.nat_bit]
  rw [Nat.testBit_eq_decide_div_mod_eq] at h
  have:a / 2 ^ k % 2=0:=by simp at h;omega
  rw [this];simp
 have he:=congrArg BitVec.toNat (BitVec.add_eq_or_of_and_eq_zero _ _ hz)
 rw [BitVec.toNat_add,BitVec.toNat_or,BitVec.toNat_ofNat,BitVec.toNat_ofNat,Nat.mod_eq_of_lt (show a<2 ^ 32 by omega),Nat.mod_eq_of_lt (show 2 ^ k<2 ^ 32 by omega),Nat.mod_eq_of_lt (by omega)] at he
 exact he
theorem Da {o s:Nat} (ho:o<2 ^ 21) (j:Nat) (hj:j<=5):iD o s j<2 ^ 21:=by
 induction j with
 | zero=>exact ho
 | succ j ih =>
  unfold iD
  refine Nat.or_lt_two_pow (ih (by omega)) ?_
  have hb:=fP s j
  have hp:2 ^ (2 ^ j - 1)<=2 ^ 15:=Nat.pow_le_pow_right (by omega) (by
   have:2 ^ j<=2 ^ 4:=Nat.pow_le_pow_right (by omega) (by omega)
   omega)
  have:bit s j * 2 ^ (2 ^ j - 1)<=1 * 2 ^ 15:=Nat.mul_le_mul hb hp
  omega
theorem GL {o s m t:Nat} (h:∀i,i<m→t≠2 ^ i - 1):(iD o s m).testBit t=o.testBit t:=by
 induction m with
 | zero=>rfl
 | succ m ih =>
  unfold iD
  rw [Nat.testBit_or,ih (fun i hi=>h i (by omega))]
  have hne:=h m (by omega)
  have:(bit s m * 2 ^ (2 ^ m - 1)).testBit t=false:=by
   have hb:=fP s m
   rcases Nat.lt_or_ge 0 (bit s m) with h0|h0
   ·rw [show bit s m=1 by omega,Nat.one_mul,Nat.testBit_two_pow]
    simp;omega
   ·rw [show bit s m=0 by omega,Nat.zero_mul];simp
  simp [this]
theorem FD (x s j:Nat) (hj:j<5):(iD (bE x 21) s j).testBit (2 ^ j - 1)=false:=by
 rw [GL,FB x j hj]
 intro i hi
 have h1:2 ^ i<2 ^ j:=Nat.pow_lt_pow_right (by omega) hi
 have h2:0<2 ^ i:=Nat.two_pow_pos i
 omega
theorem Gt (x s j:Nat) (hj:j<5):iD (bE x 21) s j+bit s j * 2 ^ (2 ^ j - 1)=iD (bE x 21) s (j+1):=by
 have hb:=fP s j
 have hl:=Da (s:=s) (jZ x 21) j (by omega)
 rcases Nat.lt_or_ge 0 (bit s j) with h0|h0
 ·have h1:bit s j=1:=by omega
  have hk:2 ^ j<=2 ^ 4:=Nat.pow_le_pow_right (by omega) (by omega)
  rw [iD,h1,Nat.one_mul]
  exact FC (by omega) (by omega) (FD x s j hj)
 ·have h1:bit s j=0:=by omega
  rw [iD,h1];simp
theorem wQ {c c' i:Nat} (h:∀j,j<i→bit c j=bit c' j):gD c i=gD c' i:=by
 induction i with
 | zero=>rfl
 | succ i ih=>rw [gD,gD,ih (fun j hj=>h j (by omega)),h i (by omega)]
theorem Bh {c k j:Nat} (h:j≠k):bit (c ^^^ 2 ^ k) j=bit c j:=by
 rw [wP,wP,Nat.testBit_xor,Nat.testBit_two_pow]
 simp [Ne.symm h]
theorem zQ (c:Nat):dataW (c ^^^ 2097152)=dataW c :=
 wQ fun j hj=>Bh (k:=21) (by omega)
end Go.Proofs.YtignkfhdkcgkgaaGreat.Cw
namespace Go.Proofs.YtignkfhdkcgkgaaGreat.Cw
def Lin (f:Nat→Nat):Prop:=∀a b,f (a ^^^ b)=f a ^^^ f b
theorem Lin.bit (i c:Nat):Lin fun x=>if x.testBit i then c else 0:=by
 intro a b
 simp only [Nat.testBit_xor]
 cases a.testBit i <;> cases b.testBit i <;> simp
theorem GM (p q r s:Nat):p ^^^ q ^^^ (r ^^^ s)=p ^^^ r ^^^ (q ^^^ s):=by
 rw [Nat.xor_assoc,←Nat.xor_assoc q r s,Nat.xor_comm q r,Nat.xor_assoc r q s,←Nat.xor_assoc]
theorem Lin.xor {f g:Nat→Nat} (hf:Lin f) (hg:Lin g):Lin fun x=>f x ^^^ g x:=by
 intro a b
 simp only [hf a b,hg a b]
 exact GM _ _ _ _
theorem Lin.zero {f:Nat→Nat} (hf:Lin f):f 0=0:=by
 have:=hf 0 0
 simpa using this
end Go.Proofs.YtignkfhdkcgkgaaGreat.Cw
namespace Go.Proofs.YtignkfhdkcgkgaaGreat
set_option maxRecDepth 100000
open Cw
structure Le where
 sel:List Int
 mask:Int
 flop:Int
 init:Int
structure au where
 mux:List Int
 les:List Le
 pad:Int
 ram:Int
def Le.zero:Le:=⟨[],0,0,0⟩
def au.zero:au:=⟨[],[],0,0⟩
def Le.cells (e:Le):List Cel:=[ig e.sel,.int e.mask,.int e.flop,.int e.init]
def qG (es:List Le):Cel := .row 107 4 (es.flatMap Le.cells)
def au.cells (t:au):List Cel:=[ig t.mux,qG t.les,.int t.pad,.int t.ram]
def lH (ts:List au):Cel := .row 103 4 (ts.flatMap au.cells)
/-! ### reading -/
def Hu (ws:List Int) (p:Nat):Nat:=bit (ws[p / 16]?.getD 0).toNat (p % 16)
def qw (ws:List Int) (p:Nat):Nat→Nat
 | 0=>0
 | k+1=>qw ws p k+Hu ws (p+k) * 2 ^ k
def ag (ws:List Int) (p n:Nat):Int:=((qw ws p n:Nat):Int)
theorem wT (ws:List Int) (p n:Nat):qw ws p n<2 ^ n:=by
 induction n with
 | zero=>simp [qw]
 | succ n ih=>exact oQ ih (fP _ _)
theorem Gu (ws:List Int) (p n:Nat) (_h:n<=16):0<=ag ws p n/\ag ws p n<2 ^ n:=by
 have:=wT ws p n
 unfold ag
 exact ⟨by omega,by exact_mod_cast this⟩
def iO (d:Dev):Nat:=(5+4 * d.T).toNat
def qx (ws:List Int) (p:Nat):Le:=⟨[ag ws p 3,ag ws (p+3) 3,ag ws (p+6) 3,ag ws (p+9) 3],ag ws (p+12) 16,ag ws (p+28) 1,ag ws (p+29) 1⟩
def oU (ws:List Int) (m:Nat):List Int:=(List.range m).map fun k=>ag ws (5 * k) 5
def oV (d:Dev) (ws:List Int):au :=
 ⟨oU ws (iO d),[qx ws (5 * iO d),qx ws (5 * iO d+30)],ag ws (5 * iO d+60) 2,ag ws (5 * iO d+62) 5⟩
def Bi (c:Int):Int:=((dataW c.toNat:Nat):Int)
def eF (f:List Int):List Int:=f.map Bi
def av (d:Dev) (fs:List (List Int)):List au:=fs.map fun f=>oV d (eF f)
def mh (fs:List (List Int)) (ts:List Int):Nat→List Int
 | 0=>[]
 | k+1=>mh fs ts k++eF (fs[(ts[k]?.getD 0).toNat]?.getD [])
/-! ### writing -/
def Db (n:Nat) (x:Int):List Nat:=(List.range n).map fun i=>bit x.toNat i
def Le.bits (e:Le):List Nat:=e.sel.flatMap (Db 3)++(Db 16 e.mask++(Db 1 e.flop++Db 1 e.init))
def au.bits (t:au):List Nat:=t.mux.flatMap (Db 5)++(t.les.flatMap Le.bits++(Db 2 t.pad++Db 5 t.ram))
theorem qH {α β:Type} {f:α→List β} {L:Nat} (hf:∀x,(f x).length=L) (xs:List α):(xs.flatMap f).length=L * xs.length:=by
 induction xs with
 | nil=>simp
 | cons x xs ih=>simp [ih,hf,Nat.mul_add,Nat.add_comm]
theorem Bj {α β:Type} {f:α→List β} {L:Nat} (hf:∀x,(f x).length=L):∀{xs:List α} {i k:Nat} {x:α},xs[i]?=some x→k<L→(xs.flatMap f)[L * i+k]?=(f x)[k]?
 | [],i,k,x,h,hk=>by simp at h
 | y :: ys,0,k,x,h,hk=>by
  simp at h
  subst h
  rw [List.flatMap_cons,Nat.mul_zero,Nat.zero_add,List.getElem?_append_left (by rw [hf];exact hk)]
 | y :: ys,i+1,k,x,h,hk=>by
  rw [List.flatMap_cons,List.getElem?_append_right (by rw [hf,Nat.mul_add];omega),hf,show L * (i+1)+k - L=L * i+k by rw [Nat.mul_add];omega]
  exact Bj hf (by simpa using h) hk
/-! ### which tiles are valid -/
def Bl (e:Le):Bool:=decide (e.sel.length=4) && (inR e.mask 0 65535 && (inR e.flop 0 1 && (inR e.init 0 1 && kT e.sel 7)))
def wU (d:Dev) (t:au):Bool :=
 bO d && (decide (t.mux.length=iO d) && (decide (t.les.length=2) && (inR t.pad 0 3 && (inR t.ram 0 31 && (kT t.mux 31 && (Bl (t.les[0]?.getD Le.zero) && Bl (t.les[1]?.getD Le.zero)))))))
structure zR (d:Dev) (t:au):Prop where
 dev:bO d=true
 mux:t.mux.length=iO d
 les:∃e0 e1,t.les=[e0,e1]/\Bl e0=true/\Bl e1=true
 pad:0<=t.pad/\t.pad<=3
 ram:0<=t.ram/\t.ram<=31
 muxIn:∀j,j<t.mux.length→0<=t.mux[j]?.getD 0/\t.mux[j]?.getD 0<=31
theorem wV {d:Dev} {t:au} (h:wU d t=true):zR d t:=by
 simp only [wU,Bool.and_eq_true,decide_eq_true_eq] at h
 obtain ⟨h1,h2,h3,h4,h5,h6,h7,h8⟩:=h
 refine ⟨h1,h2,?_,ak.1 h4,ak.1 h5,fun j hj=>nR h6 hj⟩
 match hl:t.les,h3 with
 | [e0,e1],_ =>
  rw [hl] at h7 h8
  exact ⟨e0,e1,rfl,by simpa using h7,by simpa using h8⟩
structure GN (e:Le):Prop where
 sel:∃a b c d,e.sel=[a,b,c,d]/\(0<=a/\a<=7)/\(0<=b/\b<=7)/\(0<=c/\c<=7)/\(0<=d/\d<=7)
 mask:0<=e.mask/\e.mask<=65535
 flop:0<=e.flop/\e.flop<=1
 init:0<=e.init/\e.init<=1
theorem Bn {e:Le} (h:Bl e=true):GN e:=by
 simp only [Bl,Bool.and_eq_true,decide_eq_true_eq] at h
 obtain ⟨h1,h2,h3,h4,h5⟩:=h
 refine ⟨?_,ak.1 h2,ak.1 h3,ak.1 h4⟩
 match hl:e.sel,h1 with
 | [a,b,c,d],_ =>
  rw [hl] at h5
  have g:=fun (k:Nat) (hk:k<4)=>nR h5 (k:=k) hk
  exact ⟨a,b,c,d,rfl,by simpa using g 0 (by omega),by simpa using g 1 (by omega),by simpa using g 2 (by omega),by simpa using g 3 (by omega)⟩
theorem mi {d:Dev} (h:bO d=true):(iO d:Int)=5+4 * d.T/\9<=iO d/\iO d<=21/\5 * iO d+67<=16 * (fwI d).toNat/\7<=(fwI d).toNat/\(fwI d).toNat<=11:=by
 have:=aY h
 unfold iO fwI
 omega
end Go.Proofs.YtignkfhdkcgkgaaGreat
