/- Codewords: one flipped bit is found; plain arithmetic. Tile configurations: numbers in the bits of words, put there and read again; plain. -/
import Derived.Test.YtbnfdhidgdfbeaaCwPure
import Derived.Test.YtbnfdhidgdfbeaaFrame
import Derived.Test.YtbnfdhidgdfbeaaTree
namespace Go.Proofs.Ytbnfdhidgdfbeaa.Cw

def Lin (f:Nat→Nat):Prop:=∀a b,f (a ^^^ b)=f a ^^^ f b
theorem Lin.bit (i c:Nat):Lin fun x=>if x.testBit i then c else 0:=by
 intro a b
 simp only [Nat.testBit_xor]
 cases a.testBit i <;> cases b.testBit i <;> simp
theorem xor_swap (p q r s:Nat):p ^^^ q ^^^ (r ^^^ s)=p ^^^ r ^^^ (q ^^^ s):=by
 rw [Nat.xor_assoc,←Nat.xor_assoc q r s,Nat.xor_comm q r,Nat.xor_assoc r q s,←Nat.xor_assoc]
theorem Lin.xor {f g:Nat→Nat} (hf:Lin f) (hg:Lin g):Lin fun x=>f x ^^^ g x:=by
 intro a b
 simp only [hf a b,hg a b]
 exact xor_swap _ _ _ _
theorem Lin.zero {f:Nat→Nat} (hf:Lin f):f 0=0:=by
 have:=hf 0 0
 simpa using this
end Go.Proofs.Ytbnfdhidgdfbeaa.Cw

namespace Go.Proofs.Ytbnfdhidgdfbeaa
set_option maxRecDepth 100000
open Cw

structure Le where
 sel:List Int
 mask:Int
 flop:Int
 init:Int
structure Tile where
 mux:List Int
 les:List Le
 pad:Int
 ram:Int
def Le.zero:Le:=⟨[],0,0,0⟩
def Tile.zero:Tile:=⟨[],[],0,0⟩
def Le.cells (e:Le):List Cel:=[celI e.sel,.int e.mask,.int e.flop,.int e.init]
def celE (es:List Le):Cel := .row 107 4 (es.flatMap Le.cells)
def Tile.cells (t:Tile):List Cel:=[celI t.mux,celE t.les,.int t.pad,.int t.ram]
def celT (ts:List Tile):Cel := .row 52 4 (ts.flatMap Tile.cells)

/-! ### reading -/
/-- Bit p of words of 16 bits. -/
def bitW (ws:List Int) (p:Nat):Nat:=bit (ws[p / 16]?.getD 0).toNat (p % 16)
def getTo (ws:List Int) (p:Nat):Nat→Nat
 | 0=>0
 | k+1=>getTo ws p k+bitW ws (p+k) * 2 ^ k
def getW (ws:List Int) (p n:Nat):Int:=((getTo ws p n:Nat):Int)
def muxN (d:Dev):Nat:=(5+4 * d.T).toNat
/-! ### writing -/
def putB (n:Nat) (x:Int):List Nat:=(List.range n).map fun i=>bit x.toNat i
def Le.bits (e:Le):List Nat:=e.sel.flatMap (putB 3)++(putB 16 e.mask++(putB 1 e.flop++putB 1 e.init))
def Tile.bits (t:Tile):List Nat:=t.mux.flatMap (putB 5)++(t.les.flatMap Le.bits++(putB 2 t.pad++putB 5 t.ram))
def packTo (N:Nat) (bs:List Nat):Nat→List Nat
 | 0=>List.replicate N 0
 | k+1=>(packTo N bs k).set (k / 16) ((packTo N bs k)[k / 16]?.getD 0+(bs[k]?.getD 0) * 2 ^ (k % 16))
def encT (d:Dev) (t:Tile):List Int:=(packTo (fwI d).toNat t.bits t.bits.length).map fun (x:Nat)=>(x:Int)
theorem packTo_length (N:Nat) (bs:List Nat) (k:Nat):(packTo N bs k).length=N:=by
 induction k with
 | zero=>simp [packTo]
 | succ k ih=>simp [packTo,ih]
def Bits01 (bs:List Nat):Prop:=∀i:Nat,bs[i]?.getD 0≤1
theorem packTo_lt {N:Nat} {bs:List Nat} (hb:Bits01 bs) (k j:Nat):(packTo N bs k)[j]?.getD 0<2 ^ (min 16 (k - 16 * j)):=by
 induction k with
 | zero =>
  simp only [packTo,List.getElem?_replicate]
  split <;> simp
 | succ k ih =>
  rw [packTo,List.getElem?_set]
  split
  ·rename_i h
   split
   ·rename_i hl
    subst h
    have e:min 16 (k+1 - 16 * (k / 16))=min 16 (k - 16 * (k / 16))+1:=by omega
    have e2:k % 16=min 16 (k - 16 * (k / 16)):=by omega
    rw [e,Option.getD_some,e2]
    exact add_pow_lt ih (hb k)
   ·simp [Nat.pow_pos]
  ·exact Nat.lt_of_lt_of_le ih (Nat.pow_le_pow_right (by omega) (by omega))
theorem packTo_top {N:Nat} {bs:List Nat} (hb:Bits01 bs) (k:Nat):(packTo N bs k)[k / 16]?.getD 0<2 ^ (k % 16):=by
 have:=packTo_lt (N:=N) hb k (k / 16)
 rwa [show min 16 (k - 16 * (k / 16))=k % 16 by omega] at this
theorem packTo_16 {N:Nat} {bs:List Nat} (hb:Bits01 bs) (k j:Nat):(packTo N bs k)[j]?.getD 0<65536 :=
 Nat.lt_of_lt_of_le (packTo_lt hb k j) (Nat.pow_le_pow_right (by omega) (show min 16 (k - 16 * j)≤16 by omega))
theorem putB_length (n:Nat) (x:Int):(putB n x).length=n:=by simp [putB]
theorem putB_get {n:Nat} {x:Int} {i:Nat} (h:i<n):(putB n x)[i]?=some (bit x.toNat i):=by simp [putB,h]
theorem flat_length {α β:Type} {f:α→List β} {L:Nat} (hf:∀x,(f x).length=L) (xs:List α):(xs.flatMap f).length=L * xs.length:=by
 induction xs with
 | nil=>simp
 | cons x xs ih=>simp [ih,hf,Nat.mul_add,Nat.add_comm]
theorem flat_get {α β:Type} {f:α→List β} {L:Nat} (hf:∀x,(f x).length=L):∀{xs:List α} {i k:Nat} {x:α},xs[i]?=some x→k<L→(xs.flatMap f)[L * i+k]?=(f x)[k]?
 | [],i,k,x,h,hk=>by simp at h
 | y :: ys,0,k,x,h,hk=>by
  simp at h
  subst h
  rw [List.flatMap_cons,Nat.mul_zero,Nat.zero_add,List.getElem?_append_left (by rw [hf];exact hk)]
 | y :: ys,i+1,k,x,h,hk=>by
  rw [List.flatMap_cons,List.getElem?_append_right (by rw [hf,Nat.mul_add];omega),hf,show L * (i+1)+k - L=L * i+k by rw [Nat.mul_add];omega]
  exact flat_get hf (by simpa using h) hk
theorem getD_append_left {xs ys:List Nat} {i:Nat} (h:i<xs.length):(xs++ys)[i]?.getD 0=xs[i]?.getD 0:=by rw [List.getElem?_append_left h]
theorem getD_append_right {xs ys:List Nat} {i j:Nat} (h:i=xs.length+j):(xs++ys)[i]?.getD 0=ys[j]?.getD 0:=by rw [List.getElem?_append_right (by omega),h,Nat.add_sub_cancel_left]
theorem bits01_putB (n:Nat) (x:Int):Bits01 (putB n x):=by
 intro i
 rcases Nat.lt_or_ge i n with h|h
 ·rw [putB_get h];exact bit_le _ _
 ·rw [List.getElem?_eq_none (by rw [putB_length];exact h)];simp
theorem bits01_append {xs ys:List Nat} (hx:Bits01 xs) (hy:Bits01 ys):Bits01 (xs++ys):=by
 intro i
 rw [List.getElem?_append]
 split
 ·exact hx i
 ·exact hy _
theorem bits01_flat {α:Type} {f:α→List Nat} (hf:∀x,Bits01 (f x)) (xs:List α):Bits01 (xs.flatMap f):=by
 induction xs with
 | nil=>intro i;simp
 | cons x xs ih=>rw [List.flatMap_cons];exact bits01_append (hf x) ih
theorem Le.bits01 (e:Le):Bits01 e.bits:=bits01_append (bits01_flat (bits01_putB 3) _) (bits01_append (bits01_putB _ _) (bits01_append (bits01_putB _ _) (bits01_putB _ _)))
theorem Tile.bits01 (t:Tile):Bits01 t.bits:=bits01_append (bits01_flat (bits01_putB 5) _) (bits01_append (bits01_flat Le.bits01 _) (bits01_append (bits01_putB _ _) (bits01_putB _ _)))

/-! ### which tiles are valid -/
def leOk (e:Le):Bool:=decide (e.sel.length=4) && (inR e.mask 0 65535 && (inR e.flop 0 1 && (inR e.init 0 1 && allIn e.sel 7)))
def tileOk (d:Dev) (t:Tile):Bool :=
 devOk d && (decide (t.mux.length=muxN d) && (decide (t.les.length=2) && (inR t.pad 0 3 && (inR t.ram 0 31 && (allIn t.mux 31 && (leOk (t.les[0]?.getD Le.zero) && leOk (t.les[1]?.getD Le.zero)))))))
structure TileFit (d:Dev) (t:Tile):Prop where
 dev:devOk d=true
 mux:t.mux.length=muxN d
 les:∃e0 e1,t.les=[e0,e1]∧leOk e0=true∧leOk e1=true
 pad:0≤t.pad∧t.pad≤3
 ram:0≤t.ram∧t.ram≤31
 muxIn:∀j,j<t.mux.length→0≤t.mux[j]?.getD 0∧t.mux[j]?.getD 0≤31
theorem tileOk_iff {d:Dev} {t:Tile} (h:tileOk d t=true):TileFit d t:=by
 simp only [tileOk,Bool.and_eq_true,decide_eq_true_eq] at h
 obtain ⟨h1,h2,h3,h4,h5,h6,h7,h8⟩:=h
 refine ⟨h1,h2,?_,inR_iff.1 h4,inR_iff.1 h5,fun j hj=>allIn_get h6 hj⟩
 match hl:t.les,h3 with
 | [e0,e1],_ =>
  rw [hl] at h7 h8
  exact ⟨e0,e1,rfl,by simpa using h7,by simpa using h8⟩
structure LeFit (e:Le):Prop where
 sel:∃a b c d,e.sel=[a,b,c,d]∧(0≤a∧a≤7)∧(0≤b∧b≤7)∧(0≤c∧c≤7)∧(0≤d∧d≤7)
 mask:0≤e.mask∧e.mask≤65535
 flop:0≤e.flop∧e.flop≤1
 init:0≤e.init∧e.init≤1
theorem leOk_iff {e:Le} (h:leOk e=true):LeFit e:=by
 simp only [leOk,Bool.and_eq_true,decide_eq_true_eq] at h
 obtain ⟨h1,h2,h3,h4,h5⟩:=h
 refine ⟨?_,inR_iff.1 h2,inR_iff.1 h3,inR_iff.1 h4⟩
 match hl:e.sel,h1 with
 | [a,b,c,d],_ =>
  rw [hl] at h5
  have g:=fun (k:Nat) (hk:k<4)=>allIn_get h5 (k:=k) hk
  exact ⟨a,b,c,d,rfl,by simpa using g 0 (by omega),by simpa using g 1 (by omega),by simpa using g 2 (by omega),by simpa using g 3 (by omega)⟩
theorem muxN_bd {d:Dev} (h:devOk d=true):(muxN d:Int)=5+4 * d.T∧9≤muxN d∧muxN d≤21∧5 * muxN d+67≤16 * (fwI d).toNat∧7≤(fwI d).toNat∧(fwI d).toNat≤11:=by
 have:=devOk_bd h
 unfold muxN fwI
 omega
theorem le_bits_length {e:Le} (h:leOk e=true):e.bits.length=30:=by
 obtain ⟨a,b,c,d,hs,_⟩:=(leOk_iff h).sel
 simp [Le.bits,hs,putB_length]
theorem tile_bits_length {d:Dev} {t:Tile} (h:tileOk d t=true):t.bits.length=5 * muxN d+67:=by
 obtain ⟨hd,hm,⟨e0,e1,hl,h0,h1⟩,_,_,_⟩:=tileOk_iff h
 simp [Tile.bits,hl,putB_length,le_bits_length h0,le_bits_length h1,flat_length (putB_length 5),hm]
theorem encT_length (d:Dev) (t:Tile):(encT d t).length=(fwI d).toNat:=by simp [encT,packTo_length]
theorem encT_get {d:Dev} {t:Tile} (j:Nat):(encT d t)[j]?.getD 0=(((packTo (fwI d).toNat t.bits t.bits.length)[j]?.getD 0:Nat):Int):=by
 simp only [encT,List.getElem?_map]
 cases (packTo (fwI d).toNat t.bits t.bits.length)[j]? <;> rfl
theorem encT_bd (d:Dev) (t:Tile) (j:Nat):0≤(encT d t)[j]?.getD 0∧(encT d t)[j]?.getD 0≤65535:=by
 rw [encT_get]
 have:=packTo_16 (N:=(fwI d).toNat) t.bits01 t.bits.length j
 omega
end Go.Proofs.Ytbnfdhidgdfbeaa
