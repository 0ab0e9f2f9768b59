/- Frames: which are valid: the program's answer and the reference's are one. Codewords: one flipped bit is found; plain arithmetic. Tile configurations: numbers in the bits of words, put there and read again; plain. -/
import Derived.Test.YtignkfhdkcgkgaaCwPure
import Derived.Test.YtignkfhdkcgkgaaPads
import Derived.Test.YtignkfhdkcgkgaaRow2W
import Derived.Test.YtignkfhdkcgkgaaTree
namespace Go.Proofs.Ytignkfhdkcgkgaa
set_option maxRecDepth 100000
open Go.RowKit

def fwI (d:Dev):Int:=(5 * (5+4 * d.T)+67+15) / 16
def allIn (ws:List Int) (most:Int):Bool:=(List.range ws.length).all fun i=>inR (ws[i]?.getD 0) 0 most
theorem allIn_bad {ws:List Int} {most:Int} {k:Nat} (hk:k<ws.length) (h:inR (ws[k]?.getD 0) 0 most=false):allIn ws most=false:=by
 cases hs:allIn ws most with
 | false=>rfl
 | true =>
  simp only [allIn,List.all_eq_true,List.mem_range] at hs
  rw [hs k hk] at h
  cases h
theorem allIn_good {ws:List Int} {most:Int} (h:∀j,j<ws.length→inR (ws[j]?.getD 0) 0 most=true):allIn ws most=true:=by
 simp only [allIn,List.all_eq_true,List.mem_range]
 exact h
theorem allIn_get {ws:List Int} {most:Int} (h:allIn ws most=true) {k:Nat} (hk:k<ws.length):0≤ws[k]?.getD 0∧ws[k]?.getD 0≤most:=by
 simp only [allIn,List.all_eq_true,List.mem_range] at h
 exact inR_iff.1 (h k hk)
def wordsOk (ws:List Int) (count most:Int):Bool:=decide ((ws.length:Int)=count) && allIn ws most
def framesOk (d:Dev) (fs:List (List Int)):Bool:=devOk d && (decide (fs.length=tiles d) && (List.range fs.length).all fun j=>wordsOk (fs[j]?.getD []) (fwI d) 4194303)
theorem framesOk_bad {d:Dev} {fs:List (List Int)} {k:Nat} (hk:k<fs.length) (h:wordsOk (fs[k]?.getD []) (fwI d) 4194303=false):framesOk d fs=false:=by
 cases hs:framesOk d fs with
 | false=>rfl
 | true =>
  simp only [framesOk,Bool.and_eq_true,List.all_eq_true,List.mem_range] at hs
  rw [hs.2.2 k hk] at h
  cases h
theorem framesOk_good {d:Dev} {fs:List (List Int)} (hd:devOk d=true) (hl:fs.length=tiles d) (h:∀j,j<fs.length→wordsOk (fs[j]?.getD []) (fwI d) 4194303=true):framesOk d fs=true:=by
 simp only [framesOk,Bool.and_eq_true,List.all_eq_true,List.mem_range,decide_eq_true_eq]
 exact ⟨hd,hl,h⟩
theorem framesOk_iff {d:Dev} {fs:List (List Int)} (h:framesOk d fs=true):devOk d=true∧fs.length=tiles d∧∀j,j<fs.length→wordsOk (fs[j]?.getD []) (fwI d) 4194303=true:=by
 simp only [framesOk,Bool.and_eq_true,List.all_eq_true,List.mem_range,decide_eq_true_eq] at h
 exact ⟨h.1,h.2.1,h.2.2⟩
theorem fwI_bd {d:Dev} (h:devOk d=true):7≤fwI d∧fwI d≤11:=by
 have:=devOk_bd h
 unfold fwI
 omega

set_option maxHeartbeats 400000 in
theorem muxCount_any (d:Dev) (w:World) (h1:1≤d.T) (h2:d.T≤4) :
  Calls Try.prog 72 #[.agg #[.int .i64 d.W,.int .i64 d.H,.int .i64 d.T,.int .i64 d.R]] w fun e w'=>e = .returned (.int .i64 (5+4 * d.T))∧Below w.heap.size w w':=by
 go_enter Try.func72,Try.ntmps72
 go_wp2_with fail
 go_ret
 exact ⟨rfl,below_new (Below.refl _ _) _⟩
set_option maxHeartbeats 400000 in
theorem frameWords_any (d:Dev) (w:World) (h1:1≤d.T) (h2:d.T≤4) :
  Calls Try.prog 46 #[.agg #[.int .i64 d.W,.int .i64 d.H,.int .i64 d.T,.int .i64 d.R]] w fun e w'=>e = .returned (.int .i64 (fwI d))∧Below w.heap.size w w':=by
 unfold fwI
 go_enter Try.func46,Try.ntmps46
 go_wp2_with fail
 refine (muxCount_any d _ h1 h2).mono ?_
 rintro e w1 ⟨rfl,b1⟩
 go_wp2_with fail
 go_ret
 exact ⟨rfl,below_tr (below_new (Below.refl _ _) _) b1⟩
set_option maxHeartbeats 400000 in
theorem smuxCount_any (d:Dev) (w:World) (hd:devOk d=true) :
  Calls Try.prog 83 #[.agg #[.int .i64 d.W,.int .i64 d.H,.int .i64 d.T,.int .i64 d.R]] w fun e w'=>e = .returned (.int .i64 (5+4 * d.T))∧Below w.heap.size w w':=by
 have hb:=devOk_bd hd
 go_enter Try.func83,Try.ntmps83
 go_wp2_with fail
 refine (sdeviceOk_any d _).mono ?_
 rintro e w1 ⟨rfl,b1⟩
 obtain ⟨hcc,hff⟩:=bcell b1
 go_wp2_with fail
 go_ret
 exact ⟨rfl,below_tr (below_new (Below.refl _ _) _) b1⟩
set_option maxHeartbeats 400000 in
theorem sframeWords_any (d:Dev) (w:World) (hd:devOk d=true) :
  Calls Try.prog 59 #[.agg #[.int .i64 d.W,.int .i64 d.H,.int .i64 d.T,.int .i64 d.R]] w fun e w'=>e = .returned (.int .i64 (fwI d))∧Below w.heap.size w w':=by
 unfold fwI
 have hb:=devOk_bd hd
 go_enter Try.func59,Try.ntmps59
 go_wp2_with fail
 refine (sdeviceOk_any d _).mono ?_
 rintro e w1 ⟨rfl,b1⟩
 obtain ⟨hcc,hff⟩:=bcell b1
 go_wp2_with fail
 refine (smuxCount_any d _ hd).mono ?_
 rintro e w2 ⟨rfl,b2⟩
 go_wp2_with fail
 go_ret
 exact ⟨rfl,below_tr (below_tr (below_new (Below.refl _ _) _) b1) b2⟩

set_option maxHeartbeats 1000000 in
theorem wordsOk_any (A:Option Addr) (n c:Nat) (ws:List Int) (count most:Int) (w:World) (h:Ints w A n ws) (hn:n≤1099511627776) :
  Calls Try.prog 45 #[.slice A n c,.int .i64 count,.int .i64 most] w fun e w'=>e = .returned (.bool (wordsOk ws count most))∧Below w.heap.size w w':=by
 obtain ⟨hx,hA⟩:=h
 have HX:=Lib.hid hx
 clear hx
 by_cases hnc:(n:Int)=count
 ·have hd:((n:Int) != count)=false:=by simp [hnc]
  have HN:=Lib.hid hnc
  clear hnc
  go_enter Try.func45,Try.ntmps45
  go_wp2_with fail
  go_loop [15] (fun i=>∃k:Nat,k≤n∧i = .int .i64 k∧∀j,j<k→inR (ws[j]?.getD 0) 0 most=true) (fun i=>n - (intOf i).toNat)
  case atStart=>exact ⟨0,Nat.zero_le _,rfl,by intro j hj;omega⟩
  case round =>
   obtain ⟨k,hk,rfl,hall⟩:=hrel
   have HALL:=Lib.hid hall
   clear hall
   by_cases hlt:k<n
   ·obtain ⟨b,o,rfl,hb,hc⟩:=hA (by omega)
    have hck:=hc k hlt
    clear hc
    have HB:Hid (inR (ws[k]?.getD 0) 0 most=false→allIn ws most=false):=fun h=>allIn_bad (by rw [HX.out];exact hlt) h
    have HG:Hid (inR (ws[k]?.getD 0) 0 most=true→∀j,j<k+1→inR (ws[j]?.getD 0) 0 most=true):=fun h=>all_succ HALL.out h
    generalize ws[k]?.getD 0=x at *
    cases hin:inR x 0 most with
    | true =>
     have HG':=Lib.hid (HG.out hin)
     clear HG HB
     go_wp2_with (go_at_call 71;refine (inRange_any _ _ _ _).mono ?_;rintro e w' ⟨rfl,rfl⟩)
     go_round
     case rel=>exact ⟨k+1,by omega,by go_num,HG'.out⟩
     case measure=>simp [intOf];omega
    | false =>
     have HB':=Lib.hid (HB.out hin)
     clear HG HB
     go_wp2_with (go_at_call 71;refine (inRange_any _ _ _ _).mono ?_;rintro e w' ⟨rfl,rfl⟩)
     go_ret
     exact ⟨ret_bool (by simp [wordsOk,HB'.out]),Below.refl _ _⟩
   ·have hkn:k=n:=by omega
    subst hkn
    go_wp2
    go_ret
    exact ⟨ret_bool (by rw [wordsOk,allIn_good (by rw [HX.out];exact HALL.out),HX.out];simp [HN.out]),Below.refl _ _⟩
 ·have hd:((n:Int) != count)=true:=by simp [hnc]
  go_enter Try.func45,Try.ntmps45
  go_wp2_with fail
  go_ret
  exact ⟨ret_bool (by simp [wordsOk,HX.out,hnc]),Below.refl _ _⟩
end Go.Proofs.Ytignkfhdkcgkgaa

namespace Go.Proofs.Ytignkfhdkcgkgaa.Cw

def Lin (f:Nat→Nat):Prop:=∀a b,f (a ^^^ b)=f a ^^^ f b
theorem Lin.bit (i c:Nat):Lin fun x=>if x.testBit i then c else 0:=by
 intro a b
 simp only [Nat.testBit_xor]
 cases a.testBit i <;> cases b.testBit i <;> simp
theorem Lin.zero {f:Nat→Nat} (hf:Lin f):f 0=0:=by
 have:=hf 0 0
 simpa using this
end Go.Proofs.Ytignkfhdkcgkgaa.Cw

namespace Go.Proofs.Ytignkfhdkcgkgaa
set_option maxRecDepth 100000
open Cw

structure Le where
 sel:List Int
 mask:Int
 flop:Int
 init:Int
structure Tile where
 mux:List Int
 les:List Le
 pad:Int
 ram:Int
def Le.zero:Le:=⟨[],0,0,0⟩
def Tile.zero:Tile:=⟨[],[],0,0⟩
def Le.cells (e:Le):List Cel:=[celI e.sel,.int e.mask,.int e.flop,.int e.init]
def celE (es:List Le):Cel := .row 53 4 (es.flatMap Le.cells)
def Tile.cells (t:Tile):List Cel:=[celI t.mux,celE t.les,.int t.pad,.int t.ram]
def celT (ts:List Tile):Cel := .row 49 4 (ts.flatMap Tile.cells)

/-! ### reading -/
/-- Bit p of words of 16 bits. -/
def bitW (ws:List Int) (p:Nat):Nat:=bit (ws[p / 16]?.getD 0).toNat (p % 16)
def getTo (ws:List Int) (p:Nat):Nat→Nat
 | 0=>0
 | k+1=>getTo ws p k+bitW ws (p+k) * 2 ^ k
def getW (ws:List Int) (p n:Nat):Int:=((getTo ws p n:Nat):Int)
theorem getTo_lt (ws:List Int) (p n:Nat):getTo ws p n<2 ^ n:=by
 induction n with
 | zero=>simp [getTo]
 | succ n ih=>exact add_pow_lt ih (bit_le _ _)
theorem getW_bd (ws:List Int) (p n:Nat) (_h:n≤16):0≤getW ws p n∧getW ws p n<2 ^ n:=by
 have:=getTo_lt ws p n
 unfold getW
 exact ⟨by omega,by exact_mod_cast this⟩
def muxN (d:Dev):Nat:=(5+4 * d.T).toNat
def decLe (ws:List Int) (p:Nat):Le:=⟨[getW ws p 3,getW ws (p+3) 3,getW ws (p+6) 3,getW ws (p+9) 3],getW ws (p+12) 16,getW ws (p+28) 1,getW ws (p+29) 1⟩
def decMux (ws:List Int) (m:Nat):List Int:=(List.range m).map fun k=>getW ws (5 * k) 5
def decT (d:Dev) (ws:List Int):Tile :=
 ⟨decMux ws (muxN d),[decLe ws (5 * muxN d),decLe ws (5 * muxN d+30)],getW ws (5 * muxN d+60) 2,getW ws (5 * muxN d+62) 5⟩
/-- The data of a frame, and what a device's frames configure. -/
def dataI (c:Int):Int:=((dataW c.toNat:Nat):Int)
def dataOf (f:List Int):List Int:=f.map dataI
def tilesOf (d:Dev) (fs:List (List Int)):List Tile:=fs.map fun f=>decT d (dataOf f)
/-! ### writing -/
def putB (n:Nat) (x:Int):List Nat:=(List.range n).map fun i=>bit x.toNat i
def Le.bits (e:Le):List Nat:=e.sel.flatMap (putB 3)++(putB 16 e.mask++(putB 1 e.flop++putB 1 e.init))
def Tile.bits (t:Tile):List Nat:=t.mux.flatMap (putB 5)++(t.les.flatMap Le.bits++(putB 2 t.pad++putB 5 t.ram))
theorem flat_length {α β:Type} {f:α→List β} {L:Nat} (hf:∀x,(f x).length=L) (xs:List α):(xs.flatMap f).length=L * xs.length:=by
 induction xs with
 | nil=>simp
 | cons x xs ih=>simp [ih,hf,Nat.mul_add,Nat.add_comm]
theorem flat_get {α β:Type} {f:α→List β} {L:Nat} (hf:∀x,(f x).length=L):∀{xs:List α} {i k:Nat} {x:α},xs[i]?=some x→k<L→(xs.flatMap f)[L * i+k]?=(f x)[k]?
 | [],i,k,x,h,hk=>by simp at h
 | y :: ys,0,k,x,h,hk=>by
  simp at h
  subst h
  rw [List.flatMap_cons,Nat.mul_zero,Nat.zero_add,List.getElem?_append_left (by rw [hf];exact hk)]
 | y :: ys,i+1,k,x,h,hk=>by
  rw [List.flatMap_cons,List.getElem?_append_right (by rw [hf,Nat.mul_add];omega),hf,show L * (i+1)+k - L=L * i+k by rw [Nat.mul_add];omega]
  exact flat_get hf (by simpa using h) hk
/-! ### which tiles are valid -/
def leOk (e:Le):Bool:=decide (e.sel.length=4) && (inR e.mask 0 65535 && (inR e.flop 0 1 && (inR e.init 0 1 && allIn e.sel 7)))
def tileOk (d:Dev) (t:Tile):Bool :=
 devOk d && (decide (t.mux.length=muxN d) && (decide (t.les.length=2) && (inR t.pad 0 3 && (inR t.ram 0 31 && (allIn t.mux 31 && (leOk (t.les[0]?.getD Le.zero) && leOk (t.les[1]?.getD Le.zero)))))))
structure TileFit (d:Dev) (t:Tile):Prop where
 dev:devOk d=true
 mux:t.mux.length=muxN d
 les:∃e0 e1,t.les=[e0,e1]∧leOk e0=true∧leOk e1=true
 pad:0≤t.pad∧t.pad≤3
 ram:0≤t.ram∧t.ram≤31
 muxIn:∀j,j<t.mux.length→0≤t.mux[j]?.getD 0∧t.mux[j]?.getD 0≤31
theorem tileOk_iff {d:Dev} {t:Tile} (h:tileOk d t=true):TileFit d t:=by
 simp only [tileOk,Bool.and_eq_true,decide_eq_true_eq] at h
 obtain ⟨h1,h2,h3,h4,h5,h6,h7,h8⟩:=h
 refine ⟨h1,h2,?_,inR_iff.1 h4,inR_iff.1 h5,fun j hj=>allIn_get h6 hj⟩
 match hl:t.les,h3 with
 | [e0,e1],_ =>
  rw [hl] at h7 h8
  exact ⟨e0,e1,rfl,by simpa using h7,by simpa using h8⟩
structure LeFit (e:Le):Prop where
 sel:∃a b c d,e.sel=[a,b,c,d]∧(0≤a∧a≤7)∧(0≤b∧b≤7)∧(0≤c∧c≤7)∧(0≤d∧d≤7)
 mask:0≤e.mask∧e.mask≤65535
 flop:0≤e.flop∧e.flop≤1
 init:0≤e.init∧e.init≤1
theorem leOk_iff {e:Le} (h:leOk e=true):LeFit e:=by
 simp only [leOk,Bool.and_eq_true,decide_eq_true_eq] at h
 obtain ⟨h1,h2,h3,h4,h5⟩:=h
 refine ⟨?_,inR_iff.1 h2,inR_iff.1 h3,inR_iff.1 h4⟩
 match hl:e.sel,h1 with
 | [a,b,c,d],_ =>
  rw [hl] at h5
  have g:=fun (k:Nat) (hk:k<4)=>allIn_get h5 (k:=k) hk
  exact ⟨a,b,c,d,rfl,by simpa using g 0 (by omega),by simpa using g 1 (by omega),by simpa using g 2 (by omega),by simpa using g 3 (by omega)⟩
theorem muxN_bd {d:Dev} (h:devOk d=true):(muxN d:Int)=5+4 * d.T∧9≤muxN d∧muxN d≤21∧5 * muxN d+67≤16 * (fwI d).toNat∧7≤(fwI d).toNat∧(fwI d).toNat≤11:=by
 have:=devOk_bd h
 unfold muxN fwI
 omega
end Go.Proofs.Ytignkfhdkcgkgaa
