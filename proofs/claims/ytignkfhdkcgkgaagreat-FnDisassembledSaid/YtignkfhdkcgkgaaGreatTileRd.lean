/- Frames: which are valid: the program's answer and the reference's are one. Codewords: one flipped bit is found; plain arithmetic. Tile configurations: numbers in the bits of words, put there and read again; plain. Reading tiles and logic elements out of memory. Plain lemmas. -/
import Derived.Test.YtignkfhdkcgkgaaGreatCopy
import Derived.Test.YtignkfhdkcgkgaaGreatCw
import Derived.Test.YtignkfhdkcgkgaaGreatPush
namespace Go.Proofs.YtignkfhdkcgkgaaGreat
set_option maxRecDepth 100000
open Go.RowKit

def fwI (d:Dev):Int:=(5 * (5+4 * d.T)+67+15) / 16
def allIn (ws:List Int) (most:Int):Bool:=(List.range ws.length).all fun i=>inR (ws[i]?.getD 0) 0 most
theorem allIn_bad {ws:List Int} {most:Int} {k:Nat} (hk:k<ws.length) (h:inR (ws[k]?.getD 0) 0 most=false):allIn ws most=false:=by
 cases hs:allIn ws most with
 | false=>rfl
 | true =>
  simp only [allIn,List.all_eq_true,List.mem_range] at hs
  rw [hs k hk] at h
  cases h
theorem allIn_good {ws:List Int} {most:Int} (h:∀j,j<ws.length→inR (ws[j]?.getD 0) 0 most=true):allIn ws most=true:=by
 simp only [allIn,List.all_eq_true,List.mem_range]
 exact h
theorem allIn_get {ws:List Int} {most:Int} (h:allIn ws most=true) {k:Nat} (hk:k<ws.length):0≤ws[k]?.getD 0∧ws[k]?.getD 0≤most:=by
 simp only [allIn,List.all_eq_true,List.mem_range] at h
 exact inR_iff.1 (h k hk)
def wordsOk (ws:List Int) (count most:Int):Bool:=decide ((ws.length:Int)=count) && allIn ws most
def framesOk (d:Dev) (fs:List (List Int)):Bool:=devOk d && (decide (fs.length=tiles d) && (List.range fs.length).all fun j=>wordsOk (fs[j]?.getD []) (fwI d) 4194303)
theorem framesOk_bad {d:Dev} {fs:List (List Int)} {k:Nat} (hk:k<fs.length) (h:wordsOk (fs[k]?.getD []) (fwI d) 4194303=false):framesOk d fs=false:=by
 cases hs:framesOk d fs with
 | false=>rfl
 | true =>
  simp only [framesOk,Bool.and_eq_true,List.all_eq_true,List.mem_range] at hs
  rw [hs.2.2 k hk] at h
  cases h
theorem framesOk_good {d:Dev} {fs:List (List Int)} (hd:devOk d=true) (hl:fs.length=tiles d) (h:∀j,j<fs.length→wordsOk (fs[j]?.getD []) (fwI d) 4194303=true):framesOk d fs=true:=by
 simp only [framesOk,Bool.and_eq_true,List.all_eq_true,List.mem_range,decide_eq_true_eq]
 exact ⟨hd,hl,h⟩
theorem framesOk_iff {d:Dev} {fs:List (List Int)} (h:framesOk d fs=true):devOk d=true∧fs.length=tiles d∧∀j,j<fs.length→wordsOk (fs[j]?.getD []) (fwI d) 4194303=true:=by
 simp only [framesOk,Bool.and_eq_true,List.all_eq_true,List.mem_range,decide_eq_true_eq] at h
 exact ⟨h.1,h.2.1,h.2.2⟩
theorem fwI_bd {d:Dev} (h:devOk d=true):7≤fwI d∧fwI d≤11:=by
 have:=devOk_bd h
 unfold fwI
 omega

set_option maxHeartbeats 400000 in
theorem muxCount_any (d:Dev) (w:World) (h1:1≤d.T) (h2:d.T≤4) :
  Calls Tryz.prog 174 #[.agg #[.int .i64 d.W,.int .i64 d.H,.int .i64 d.T,.int .i64 d.R]] w fun e w'=>e = .returned (.int .i64 (5+4 * d.T))∧Below w.heap.size w w':=by
 go_enter Tryz.func174,Tryz.ntmps174
 go_wp2_with fail
 go_ret
 exact ⟨rfl,below_new (Below.refl _ _) _⟩
set_option maxHeartbeats 400000 in
theorem frameWords_any (d:Dev) (w:World) (h1:1≤d.T) (h2:d.T≤4) :
  Calls Tryz.prog 115 #[.agg #[.int .i64 d.W,.int .i64 d.H,.int .i64 d.T,.int .i64 d.R]] w fun e w'=>e = .returned (.int .i64 (fwI d))∧Below w.heap.size w w':=by
 unfold fwI
 go_enter Tryz.func115,Tryz.ntmps115
 go_wp2_with fail
 refine (muxCount_any d _ h1 h2).mono ?_
 rintro e w1 ⟨rfl,b1⟩
 go_wp2_with fail
 go_ret
 exact ⟨rfl,below_tr (below_new (Below.refl _ _) _) b1⟩
set_option maxHeartbeats 400000 in
theorem smuxCount_any (d:Dev) (w:World) (hd:devOk d=true) :
  Calls Tryz.prog 207 #[.agg #[.int .i64 d.W,.int .i64 d.H,.int .i64 d.T,.int .i64 d.R]] w fun e w'=>e = .returned (.int .i64 (5+4 * d.T))∧Below w.heap.size w w':=by
 have hb:=devOk_bd hd
 go_enter Tryz.func207,Tryz.ntmps207
 go_wp2_with fail
 refine (sdeviceOk_any d _).mono ?_
 rintro e w1 ⟨rfl,b1⟩
 obtain ⟨hcc,hff⟩:=bcell b1
 go_wp2_with fail
 go_ret
 exact ⟨rfl,below_tr (below_new (Below.refl _ _) _) b1⟩
set_option maxHeartbeats 400000 in
theorem sframeWords_any (d:Dev) (w:World) (hd:devOk d=true) :
  Calls Tryz.prog 160 #[.agg #[.int .i64 d.W,.int .i64 d.H,.int .i64 d.T,.int .i64 d.R]] w fun e w'=>e = .returned (.int .i64 (fwI d))∧Below w.heap.size w w':=by
 unfold fwI
 have hb:=devOk_bd hd
 go_enter Tryz.func160,Tryz.ntmps160
 go_wp2_with fail
 refine (sdeviceOk_any d _).mono ?_
 rintro e w1 ⟨rfl,b1⟩
 obtain ⟨hcc,hff⟩:=bcell b1
 go_wp2_with fail
 refine (smuxCount_any d _ hd).mono ?_
 rintro e w2 ⟨rfl,b2⟩
 go_wp2_with fail
 go_ret
 exact ⟨rfl,below_tr (below_tr (below_new (Below.refl _ _) _) b1) b2⟩

set_option maxHeartbeats 1000000 in
theorem wordsOk_any (A:Option Addr) (n c:Nat) (ws:List Int) (count most:Int) (w:World) (h:Ints w A n ws) (hn:n≤1099511627776) :
  Calls Tryz.prog 114 #[.slice A n c,.int .i64 count,.int .i64 most] w fun e w'=>e = .returned (.bool (wordsOk ws count most))∧Below w.heap.size w w':=by
 obtain ⟨hx,hA⟩:=h
 have HX:=Lib.hid hx
 clear hx
 by_cases hnc:(n:Int)=count
 ·have hd:((n:Int) != count)=false:=by simp [hnc]
  have HN:=Lib.hid hnc
  clear hnc
  go_enter Tryz.func114,Tryz.ntmps114
  go_wp2_with fail
  go_loop [15] (fun i=>∃k:Nat,k≤n∧i = .int .i64 k∧∀j,j<k→inR (ws[j]?.getD 0) 0 most=true) (fun i=>n - (intOf i).toNat)
  case atStart=>exact ⟨0,Nat.zero_le _,rfl,by intro j hj;omega⟩
  case round =>
   obtain ⟨k,hk,rfl,hall⟩:=hrel
   have HALL:=Lib.hid hall
   clear hall
   by_cases hlt:k<n
   ·obtain ⟨b,o,rfl,hb,hc⟩:=hA (by omega)
    have hck:=hc k hlt
    clear hc
    have HB:Hid (inR (ws[k]?.getD 0) 0 most=false→allIn ws most=false):=fun h=>allIn_bad (by rw [HX.out];exact hlt) h
    have HG:Hid (inR (ws[k]?.getD 0) 0 most=true→∀j,j<k+1→inR (ws[j]?.getD 0) 0 most=true):=fun h=>all_succ HALL.out h
    generalize ws[k]?.getD 0=x at *
    cases hin:inR x 0 most with
    | true =>
     have HG':=Lib.hid (HG.out hin)
     clear HG HB
     go_wp2_with (go_at_call 116;refine (inRange_any _ _ _ _).mono ?_;rintro e w' ⟨rfl,rfl⟩)
     go_round
     case rel=>exact ⟨k+1,by omega,by go_num,HG'.out⟩
     case measure=>simp [intOf];omega
    | false =>
     have HB':=Lib.hid (HB.out hin)
     clear HG HB
     go_wp2_with (go_at_call 116;refine (inRange_any _ _ _ _).mono ?_;rintro e w' ⟨rfl,rfl⟩)
     go_ret
     exact ⟨ret_bool (by simp [wordsOk,HB'.out]),Below.refl _ _⟩
   ·have hkn:k=n:=by omega
    subst hkn
    go_wp2
    go_ret
    exact ⟨ret_bool (by rw [wordsOk,allIn_good (by rw [HX.out];exact HALL.out),HX.out];simp [HN.out]),Below.refl _ _⟩
 ·have hd:((n:Int) != count)=true:=by simp [hnc]
  go_enter Tryz.func114,Tryz.ntmps114
  go_wp2_with fail
  go_ret
  exact ⟨ret_bool (by simp [wordsOk,HX.out,hnc]),Below.refl _ _⟩
end Go.Proofs.YtignkfhdkcgkgaaGreat

namespace Go.Proofs.YtignkfhdkcgkgaaGreat.Cw

def Lin (f:Nat→Nat):Prop:=∀a b,f (a ^^^ b)=f a ^^^ f b
theorem Lin.bit (i c:Nat):Lin fun x=>if x.testBit i then c else 0:=by
 intro a b
 simp only [Nat.testBit_xor]
 cases a.testBit i <;> cases b.testBit i <;> simp
theorem xor_swap (p q r s:Nat):p ^^^ q ^^^ (r ^^^ s)=p ^^^ r ^^^ (q ^^^ s):=by
 rw [Nat.xor_assoc,←Nat.xor_assoc q r s,Nat.xor_comm q r,Nat.xor_assoc r q s,←Nat.xor_assoc]
theorem Lin.xor {f g:Nat→Nat} (hf:Lin f) (hg:Lin g):Lin fun x=>f x ^^^ g x:=by
 intro a b
 simp only [hf a b,hg a b]
 exact xor_swap _ _ _ _
theorem Lin.zero {f:Nat→Nat} (hf:Lin f):f 0=0:=by
 have:=hf 0 0
 simpa using this
end Go.Proofs.YtignkfhdkcgkgaaGreat.Cw

namespace Go.Proofs.YtignkfhdkcgkgaaGreat
set_option maxRecDepth 100000
open Cw

structure Le where
 sel:List Int
 mask:Int
 flop:Int
 init:Int
structure Tile where
 mux:List Int
 les:List Le
 pad:Int
 ram:Int
def Le.zero:Le:=⟨[],0,0,0⟩
def Tile.zero:Tile:=⟨[],[],0,0⟩
def Le.cells (e:Le):List Cel:=[celI e.sel,.int e.mask,.int e.flop,.int e.init]
def celE (es:List Le):Cel := .row 107 4 (es.flatMap Le.cells)
def Tile.cells (t:Tile):List Cel:=[celI t.mux,celE t.les,.int t.pad,.int t.ram]
def celT (ts:List Tile):Cel := .row 103 4 (ts.flatMap Tile.cells)

/-! ### reading -/
/-- Bit p of words of 16 bits. -/
def bitW (ws:List Int) (p:Nat):Nat:=bit (ws[p / 16]?.getD 0).toNat (p % 16)
def getTo (ws:List Int) (p:Nat):Nat→Nat
 | 0=>0
 | k+1=>getTo ws p k+bitW ws (p+k) * 2 ^ k
def getW (ws:List Int) (p n:Nat):Int:=((getTo ws p n:Nat):Int)
theorem getTo_lt (ws:List Int) (p n:Nat):getTo ws p n<2 ^ n:=by
 induction n with
 | zero=>simp [getTo]
 | succ n ih=>exact add_pow_lt ih (bit_le _ _)
theorem getW_bd (ws:List Int) (p n:Nat) (_h:n≤16):0≤getW ws p n∧getW ws p n<2 ^ n:=by
 have:=getTo_lt ws p n
 unfold getW
 exact ⟨by omega,by exact_mod_cast this⟩
def muxN (d:Dev):Nat:=(5+4 * d.T).toNat
def decLe (ws:List Int) (p:Nat):Le:=⟨[getW ws p 3,getW ws (p+3) 3,getW ws (p+6) 3,getW ws (p+9) 3],getW ws (p+12) 16,getW ws (p+28) 1,getW ws (p+29) 1⟩
def decMux (ws:List Int) (m:Nat):List Int:=(List.range m).map fun k=>getW ws (5 * k) 5
def decT (d:Dev) (ws:List Int):Tile :=
 ⟨decMux ws (muxN d),[decLe ws (5 * muxN d),decLe ws (5 * muxN d+30)],getW ws (5 * muxN d+60) 2,getW ws (5 * muxN d+62) 5⟩
/-- The data of a frame, and what a device's frames configure. -/
def dataI (c:Int):Int:=((dataW c.toNat:Nat):Int)
def dataOf (f:List Int):List Int:=f.map dataI
def tilesOf (d:Dev) (fs:List (List Int)):List Tile:=fs.map fun f=>decT d (dataOf f)
/-! ### writing -/
def putB (n:Nat) (x:Int):List Nat:=(List.range n).map fun i=>bit x.toNat i
def Le.bits (e:Le):List Nat:=e.sel.flatMap (putB 3)++(putB 16 e.mask++(putB 1 e.flop++putB 1 e.init))
def Tile.bits (t:Tile):List Nat:=t.mux.flatMap (putB 5)++(t.les.flatMap Le.bits++(putB 2 t.pad++putB 5 t.ram))
def packTo (N:Nat) (bs:List Nat):Nat→List Nat
 | 0=>List.replicate N 0
 | k+1=>(packTo N bs k).set (k / 16) ((packTo N bs k)[k / 16]?.getD 0+(bs[k]?.getD 0) * 2 ^ (k % 16))
def encT (d:Dev) (t:Tile):List Int:=(packTo (fwI d).toNat t.bits t.bits.length).map fun (x:Nat)=>(x:Int)
theorem packTo_length (N:Nat) (bs:List Nat) (k:Nat):(packTo N bs k).length=N:=by
 induction k with
 | zero=>simp [packTo]
 | succ k ih=>simp [packTo,ih]
def Bits01 (bs:List Nat):Prop:=∀i:Nat,bs[i]?.getD 0≤1
theorem packTo_lt {N:Nat} {bs:List Nat} (hb:Bits01 bs) (k j:Nat):(packTo N bs k)[j]?.getD 0<2 ^ (min 16 (k - 16 * j)):=by
 induction k with
 | zero =>
  simp only [packTo,List.getElem?_replicate]
  split <;> simp
 | succ k ih =>
  rw [packTo,List.getElem?_set]
  split
  ·rename_i h
   split
   ·rename_i hl
    subst h
    have e:min 16 (k+1 - 16 * (k / 16))=min 16 (k - 16 * (k / 16))+1:=by omega
    have e2:k % 16=min 16 (k - 16 * (k / 16)):=by omega
    rw [e,Option.getD_some,e2]
    exact add_pow_lt ih (hb k)
   ·simp [Nat.pow_pos]
  ·exact Nat.lt_of_lt_of_le ih (Nat.pow_le_pow_right (by omega) (by omega))
theorem packTo_top {N:Nat} {bs:List Nat} (hb:Bits01 bs) (k:Nat):(packTo N bs k)[k / 16]?.getD 0<2 ^ (k % 16):=by
 have:=packTo_lt (N:=N) hb k (k / 16)
 rwa [show min 16 (k - 16 * (k / 16))=k % 16 by omega] at this
theorem packTo_16 {N:Nat} {bs:List Nat} (hb:Bits01 bs) (k j:Nat):(packTo N bs k)[j]?.getD 0<65536 :=
 Nat.lt_of_lt_of_le (packTo_lt hb k j) (Nat.pow_le_pow_right (by omega) (show min 16 (k - 16 * j)≤16 by omega))
theorem putB_length (n:Nat) (x:Int):(putB n x).length=n:=by simp [putB]
theorem putB_get {n:Nat} {x:Int} {i:Nat} (h:i<n):(putB n x)[i]?=some (bit x.toNat i):=by simp [putB,h]
theorem flat_length {α β:Type} {f:α→List β} {L:Nat} (hf:∀x,(f x).length=L) (xs:List α):(xs.flatMap f).length=L * xs.length:=by
 induction xs with
 | nil=>simp
 | cons x xs ih=>simp [ih,hf,Nat.mul_add,Nat.add_comm]
theorem flat_get {α β:Type} {f:α→List β} {L:Nat} (hf:∀x,(f x).length=L):∀{xs:List α} {i k:Nat} {x:α},xs[i]?=some x→k<L→(xs.flatMap f)[L * i+k]?=(f x)[k]?
 | [],i,k,x,h,hk=>by simp at h
 | y :: ys,0,k,x,h,hk=>by
  simp at h
  subst h
  rw [List.flatMap_cons,Nat.mul_zero,Nat.zero_add,List.getElem?_append_left (by rw [hf];exact hk)]
 | y :: ys,i+1,k,x,h,hk=>by
  rw [List.flatMap_cons,List.getElem?_append_right (by rw [hf,Nat.mul_add];omega),hf,show L * (i+1)+k - L=L * i+k by rw [Nat.mul_add];omega]
  exact flat_get hf (by simpa using h) hk
theorem bits01_putB (n:Nat) (x:Int):Bits01 (putB n x):=by
 intro i
 rcases Nat.lt_or_ge i n with h|h
 ·rw [putB_get h];exact bit_le _ _
 ·rw [List.getElem?_eq_none (by rw [putB_length];exact h)];simp
theorem bits01_append {xs ys:List Nat} (hx:Bits01 xs) (hy:Bits01 ys):Bits01 (xs++ys):=by
 intro i
 rw [List.getElem?_append]
 split
 ·exact hx i
 ·exact hy _
theorem bits01_flat {α:Type} {f:α→List Nat} (hf:∀x,Bits01 (f x)) (xs:List α):Bits01 (xs.flatMap f):=by
 induction xs with
 | nil=>intro i;simp
 | cons x xs ih=>rw [List.flatMap_cons];exact bits01_append (hf x) ih
theorem Le.bits01 (e:Le):Bits01 e.bits:=bits01_append (bits01_flat (bits01_putB 3) _) (bits01_append (bits01_putB _ _) (bits01_append (bits01_putB _ _) (bits01_putB _ _)))
theorem Tile.bits01 (t:Tile):Bits01 t.bits:=bits01_append (bits01_flat (bits01_putB 5) _) (bits01_append (bits01_flat Le.bits01 _) (bits01_append (bits01_putB _ _) (bits01_putB _ _)))

/-! ### which tiles are valid -/
def leOk (e:Le):Bool:=decide (e.sel.length=4) && (inR e.mask 0 65535 && (inR e.flop 0 1 && (inR e.init 0 1 && allIn e.sel 7)))
def tileOk (d:Dev) (t:Tile):Bool :=
 devOk d && (decide (t.mux.length=muxN d) && (decide (t.les.length=2) && (inR t.pad 0 3 && (inR t.ram 0 31 && (allIn t.mux 31 && (leOk (t.les[0]?.getD Le.zero) && leOk (t.les[1]?.getD Le.zero)))))))
structure TileFit (d:Dev) (t:Tile):Prop where
 dev:devOk d=true
 mux:t.mux.length=muxN d
 les:∃e0 e1,t.les=[e0,e1]∧leOk e0=true∧leOk e1=true
 pad:0≤t.pad∧t.pad≤3
 ram:0≤t.ram∧t.ram≤31
 muxIn:∀j,j<t.mux.length→0≤t.mux[j]?.getD 0∧t.mux[j]?.getD 0≤31
theorem tileOk_iff {d:Dev} {t:Tile} (h:tileOk d t=true):TileFit d t:=by
 simp only [tileOk,Bool.and_eq_true,decide_eq_true_eq] at h
 obtain ⟨h1,h2,h3,h4,h5,h6,h7,h8⟩:=h
 refine ⟨h1,h2,?_,inR_iff.1 h4,inR_iff.1 h5,fun j hj=>allIn_get h6 hj⟩
 match hl:t.les,h3 with
 | [e0,e1],_ =>
  rw [hl] at h7 h8
  exact ⟨e0,e1,rfl,by simpa using h7,by simpa using h8⟩
structure LeFit (e:Le):Prop where
 sel:∃a b c d,e.sel=[a,b,c,d]∧(0≤a∧a≤7)∧(0≤b∧b≤7)∧(0≤c∧c≤7)∧(0≤d∧d≤7)
 mask:0≤e.mask∧e.mask≤65535
 flop:0≤e.flop∧e.flop≤1
 init:0≤e.init∧e.init≤1
theorem leOk_iff {e:Le} (h:leOk e=true):LeFit e:=by
 simp only [leOk,Bool.and_eq_true,decide_eq_true_eq] at h
 obtain ⟨h1,h2,h3,h4,h5⟩:=h
 refine ⟨?_,inR_iff.1 h2,inR_iff.1 h3,inR_iff.1 h4⟩
 match hl:e.sel,h1 with
 | [a,b,c,d],_ =>
  rw [hl] at h5
  have g:=fun (k:Nat) (hk:k<4)=>allIn_get h5 (k:=k) hk
  exact ⟨a,b,c,d,rfl,by simpa using g 0 (by omega),by simpa using g 1 (by omega),by simpa using g 2 (by omega),by simpa using g 3 (by omega)⟩
theorem muxN_bd {d:Dev} (h:devOk d=true):(muxN d:Int)=5+4 * d.T∧9≤muxN d∧muxN d≤21∧5 * muxN d+67≤16 * (fwI d).toNat∧7≤(fwI d).toNat∧(fwI d).toNat≤11:=by
 have:=devOk_bd h
 unfold muxN fwI
 omega
theorem le_bits_length {e:Le} (h:leOk e=true):e.bits.length=30:=by
 obtain ⟨a,b,c,d,hs,_⟩:=(leOk_iff h).sel
 simp [Le.bits,hs,putB_length]
theorem tile_bits_length {d:Dev} {t:Tile} (h:tileOk d t=true):t.bits.length=5 * muxN d+67:=by
 obtain ⟨hd,hm,⟨e0,e1,hl,h0,h1⟩,_,_,_⟩:=tileOk_iff h
 simp [Tile.bits,hl,putB_length,le_bits_length h0,le_bits_length h1,flat_length (putB_length 5),hm]
theorem encT_length (d:Dev) (t:Tile):(encT d t).length=(fwI d).toNat:=by simp [encT,packTo_length]
theorem encT_get {d:Dev} {t:Tile} (j:Nat):(encT d t)[j]?.getD 0=(((packTo (fwI d).toNat t.bits t.bits.length)[j]?.getD 0:Nat):Int):=by
 simp only [encT,List.getElem?_map]
 cases (packTo (fwI d).toNat t.bits t.bits.length)[j]? <;> rfl
theorem encT_bd (d:Dev) (t:Tile) (j:Nat):0≤(encT d t)[j]?.getD 0∧(encT d t)[j]?.getD 0≤65535:=by
 rw [encT_get]
 have:=packTo_16 (N:=(fwI d).toNat) t.bits01 t.bits.length j
 omega
end Go.Proofs.YtignkfhdkcgkgaaGreat

namespace Go.Proofs.YtignkfhdkcgkgaaGreat
set_option maxRecDepth 100000
open Go.RowKit

theorem Le.cells_length (e:Le):e.cells.length=4:=rfl
theorem Tile.cells_length (t:Tile):t.cells.length=4:=rfl
theorem flat4_length {α:Type} {f:α→List Cel} (hf:∀x,(f x).length=4) (xs:List α):(xs.flatMap f).length=xs.length * 4:=by rw [flat_length hf,Nat.mul_comm]
theorem flat4_at {α:Type} {f:α→List Cel} (hf:∀x,(f x).length=4) {xs:List α} {k j:Nat} {x:α} (h:xs[k]?=some x) (hj:j<4):(xs.flatMap f)[k * 4+j]?=(f x)[j]?:=by rw [Nat.mul_comm];exact flat_get hf h hj
theorem getD_some {α:Type} {xs:List α} {k:Nat} (d:α) (h:k<xs.length):xs[k]?=some (xs[k]?.getD d):=by rw [List.getElem?_eq_getElem h];rfl
theorem rdC_slice {w:World} {B e s:Nat} {cs:List Cel} {v:Value} (h:RdC w B (.row e s cs) v):∃A n c,v = .slice A n c:=by
 rw [rdC_row] at h
 obtain ⟨A,n,cap,rfl,_⟩:=h
 exact ⟨A,n,cap,rfl⟩

theorem RdC.tile {w:World} {B n c k:Nat} {A:Option Addr} {ts:List Tile} (h:RdC w B (celT ts) (.slice A n c)) (hk:k<ts.length) :
  ∃b o S m p L l q,A=some ⟨b,o,none⟩∧b<B∧w.cell? ⟨b,o+k * 4,none⟩=some (.slice S m p)∧w.cell? ⟨b,o+k * 4+1,none⟩=some (.slice L l q)∧w.cell? ⟨b,o+k * 4+2,none⟩=some (.int .i64 (ts[k]?.getD Tile.zero).pad)∧w.cell? ⟨b,o+k * 4+3,none⟩=some (.int .i64 (ts[k]?.getD Tile.zero).ram) ∧
   RdC w B (celI (ts[k]?.getD Tile.zero).mux) (.slice S m p)∧RdC w B (celE (ts[k]?.getD Tile.zero).les) (.slice L l q):=by
 have hl:=flat4_length Tile.cells_length ts
 obtain ⟨b,o,rfl,hb,hc⟩:=h.cell (by rw [hl];omega)
 have hx:=getD_some Tile.zero hk
 generalize ts[k]?.getD Tile.zero=t at *
 have g:=fun (j:Nat) (hj:j<4)=>hc (k * 4+j) (by rw [hl];omega)
 obtain ⟨c0,v0,e0,m0,r0⟩:=g 0 (by omega)
 obtain ⟨c1,v1,e1,m1,r1⟩:=g 1 (by omega)
 obtain ⟨c2,v2,e2,m2,r2⟩:=g 2 (by omega)
 obtain ⟨c3,v3,e3,m3,r3⟩:=g 3 (by omega)
 rw [flat4_at Tile.cells_length hx (by omega)] at e0 e1 e2 e3
 simp only [Tile.cells,List.getElem?_cons_zero,List.getElem?_cons_succ,Option.some.injEq] at e0 e1 e2 e3
 subst e0 e1 e2 e3
 rw [rdC_int] at r2 r3
 subst r2 r3
 obtain ⟨S,m,p,rfl⟩:=rdC_slice (e:=3) (s:=1) r0
 obtain ⟨L,l,q,rfl⟩:=rdC_slice (e:=107) (s:=4) r1
 exact ⟨b,o,S,m,p,L,l,q,rfl,hb,m0,m1,m2,m3,r0,r1⟩
theorem RdC.le {w:World} {B n c k:Nat} {A:Option Addr} {es:List Le} (h:RdC w B (celE es) (.slice A n c)) (hk:k<es.length) :
  ∃b o S m p,A=some ⟨b,o,none⟩∧b<B∧w.cell? ⟨b,o+k * 4,none⟩=some (.slice S m p)∧w.cell? ⟨b,o+k * 4+1,none⟩=some (.int .i64 (es[k]?.getD Le.zero).mask)∧w.cell? ⟨b,o+k * 4+2,none⟩=some (.int .i64 (es[k]?.getD Le.zero).flop)∧w.cell? ⟨b,o+k * 4+3,none⟩=some (.int .i64 (es[k]?.getD Le.zero).init) ∧
   RdC w B (celI (es[k]?.getD Le.zero).sel) (.slice S m p):=by
 have hl:=flat4_length Le.cells_length es
 obtain ⟨b,o,rfl,hb,hc⟩:=h.cell (by rw [hl];omega)
 have hx:=getD_some Le.zero hk
 generalize es[k]?.getD Le.zero=t at *
 have g:=fun (j:Nat) (hj:j<4)=>hc (k * 4+j) (by rw [hl];omega)
 obtain ⟨c0,v0,e0,m0,r0⟩:=g 0 (by omega)
 obtain ⟨c1,v1,e1,m1,r1⟩:=g 1 (by omega)
 obtain ⟨c2,v2,e2,m2,r2⟩:=g 2 (by omega)
 obtain ⟨c3,v3,e3,m3,r3⟩:=g 3 (by omega)
 rw [flat4_at Le.cells_length hx (by omega)] at e0 e1 e2 e3
 simp only [Le.cells,List.getElem?_cons_zero,List.getElem?_cons_succ,Option.some.injEq] at e0 e1 e2 e3
 subst e0 e1 e2 e3
 rw [rdC_int] at r1 r2 r3
 subst r1 r2 r3
 obtain ⟨S,m,p,rfl⟩:=rdC_slice (e:=3) (s:=1) r0
 exact ⟨b,o,S,m,p,rfl,hb,m0,m1,m2,m3,r0⟩
theorem RdC.tlen {w:World} {B n c:Nat} {A:Option Addr} {ts:List Tile} (h:RdC w B (celT ts) (.slice A n c)):ts.length=n:=by
 have:=RdC.len h
 rw [flat4_length Tile.cells_length] at this
 omega
theorem RdC.elen {w:World} {B n c:Nat} {A:Option Addr} {es:List Le} (h:RdC w B (celE es) (.slice A n c)):es.length=n:=by
 have:=RdC.len h
 rw [flat4_length Le.cells_length] at this
 omega
theorem OwnT.sub {lo hi:Nat} {w:World} {e s n cap j:Nat} {A:Option Addr} {cs:List Cel} (h:OwnT lo hi w (.row e s cs) (.slice A n cap)) (hj:j<cs.length) :
  ∃g c v,A=some ⟨g,0,none⟩∧lo≤g∧g<hi∧g<w.heap.size∧cs[j]?=some c∧w.cell? ⟨g,j,none⟩=some v∧OwnT lo hi w c v:=by
 obtain ⟨g,c,v,e1,h1,h2,h3,h4,h5,_,⟨Fj,k1,k2,_,k3,_⟩,_⟩:=h.cell hj
 exact ⟨g,c,v,e1,h1,h2,h3,h4,h5,Fj,k1,k2,k3⟩
theorem ownT_int {lo hi:Nat} {w:World} {x:Int} {v:Value} (h:OwnT lo hi w (.int x) v):v = .int .i64 x:=by
 obtain ⟨F,h1,_⟩:=h
 rw [ownC_int] at h1
 exact h1.1
theorem ownT_slice {lo hi:Nat} {w:World} {e s:Nat} {cs:List Cel} {v:Value} (h:OwnT lo hi w (.row e s cs) v):∃A n c,v = .slice A n c:=by
 obtain ⟨F,h1,_⟩:=h
 rw [ownC_row] at h1
 obtain ⟨A,n,cap,vs,F',rfl,_⟩:=h1
 exact ⟨A,n,cap,rfl⟩
theorem OwnT.tile {lo hi:Nat} {w:World} {n c k:Nat} {A:Option Addr} {ts:List Tile} (h:OwnT lo hi w (celT ts) (.slice A n c)) (hk:k<ts.length) :
  ∃g S m p L l q,A=some ⟨g,0,none⟩∧lo≤g∧g<hi∧g<w.heap.size∧w.cell? ⟨g,k * 4,none⟩=some (.slice S m p)∧w.cell? ⟨g,k * 4+1,none⟩=some (.slice L l q)∧w.cell? ⟨g,k * 4+2,none⟩=some (.int .i64 (ts[k]?.getD Tile.zero).pad)∧w.cell? ⟨g,k * 4+3,none⟩=some (.int .i64 (ts[k]?.getD Tile.zero).ram) ∧
   OwnT lo hi w (celI (ts[k]?.getD Tile.zero).mux) (.slice S m p)∧OwnT lo hi w (celE (ts[k]?.getD Tile.zero).les) (.slice L l q):=by
 have hl:=flat4_length Tile.cells_length ts
 have hx:=getD_some Tile.zero hk
 generalize ts[k]?.getD Tile.zero=t at *
 have g:=fun (j:Nat) (hj:j<4)=>h.sub (j:=k * 4+j) (by rw [hl];omega)
 obtain ⟨g0,c0,v0,a0,b1,b2,b3,e0,m0,r0⟩:=g 0 (by omega)
 obtain ⟨g1,c1,v1,a1,_,_,_,e1,m1,r1⟩:=g 1 (by omega)
 obtain ⟨g2,c2,v2,a2,_,_,_,e2,m2,r2⟩:=g 2 (by omega)
 obtain ⟨g3,c3,v3,a3,_,_,_,e3,m3,r3⟩:=g 3 (by omega)
 subst a0
 injection a1 with a1
 injection a2 with a2
 injection a3 with a3
 injection a1 with a1
 injection a2 with a2
 injection a3 with a3
 subst a1 a2 a3
 rw [flat4_at Tile.cells_length hx (by omega)] at e0 e1 e2 e3
 simp only [Tile.cells,List.getElem?_cons_zero,List.getElem?_cons_succ,Option.some.injEq] at e0 e1 e2 e3
 subst e0 e1 e2 e3
 obtain rfl:=ownT_int r2
 obtain rfl:=ownT_int r3
 obtain ⟨S,m,p,rfl⟩:=ownT_slice (e:=3) (s:=1) r0
 obtain ⟨L,l,q,rfl⟩:=ownT_slice (e:=107) (s:=4) r1
 exact ⟨g0,S,m,p,L,l,q,rfl,b1,b2,b3,m0,m1,m2,m3,r0,r1⟩
theorem OwnT.le {lo hi:Nat} {w:World} {n c k:Nat} {A:Option Addr} {es:List Le} (h:OwnT lo hi w (celE es) (.slice A n c)) (hk:k<es.length) :
  ∃g S m p,A=some ⟨g,0,none⟩∧lo≤g∧g<hi∧g<w.heap.size∧w.cell? ⟨g,k * 4,none⟩=some (.slice S m p)∧w.cell? ⟨g,k * 4+1,none⟩=some (.int .i64 (es[k]?.getD Le.zero).mask)∧w.cell? ⟨g,k * 4+2,none⟩=some (.int .i64 (es[k]?.getD Le.zero).flop)∧w.cell? ⟨g,k * 4+3,none⟩=some (.int .i64 (es[k]?.getD Le.zero).init) ∧
   OwnT lo hi w (celI (es[k]?.getD Le.zero).sel) (.slice S m p):=by
 have hl:=flat4_length Le.cells_length es
 have hx:=getD_some Le.zero hk
 generalize es[k]?.getD Le.zero=t at *
 have g:=fun (j:Nat) (hj:j<4)=>h.sub (j:=k * 4+j) (by rw [hl];omega)
 obtain ⟨g0,c0,v0,a0,b1,b2,b3,e0,m0,r0⟩:=g 0 (by omega)
 obtain ⟨g1,c1,v1,a1,_,_,_,e1,m1,r1⟩:=g 1 (by omega)
 obtain ⟨g2,c2,v2,a2,_,_,_,e2,m2,r2⟩:=g 2 (by omega)
 obtain ⟨g3,c3,v3,a3,_,_,_,e3,m3,r3⟩:=g 3 (by omega)
 subst a0
 injection a1 with a1
 injection a2 with a2
 injection a3 with a3
 injection a1 with a1
 injection a2 with a2
 injection a3 with a3
 subst a1 a2 a3
 rw [flat4_at Le.cells_length hx (by omega)] at e0 e1 e2 e3
 simp only [Le.cells,List.getElem?_cons_zero,List.getElem?_cons_succ,Option.some.injEq] at e0 e1 e2 e3
 subst e0 e1 e2 e3
 obtain rfl:=ownT_int r1
 obtain rfl:=ownT_int r2
 obtain rfl:=ownT_int r3
 obtain ⟨S,m,p,rfl⟩:=ownT_slice (e:=3) (s:=1) r0
 exact ⟨g0,S,m,p,rfl,b1,b2,b3,m0,m1,m2,m3,r0⟩
end Go.Proofs.YtignkfhdkcgkgaaGreat
