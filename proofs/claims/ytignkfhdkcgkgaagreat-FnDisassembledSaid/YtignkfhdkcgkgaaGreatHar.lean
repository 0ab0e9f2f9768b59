/- Words for memory: slices that read as lists, owned rows, and how they are kept. Plain lemmas; no function of the program is walked here. The contracts of the laws' own helpers: copying, comparing, marking slices of integers; the tests of a range. -/
import Derived.BigQuiet
import Derived.Deep.AppendLies
import Derived.Deep.QuietTactic
import Derived.Deep.RegionHeld3
import Derived.Deep.RegionWith
import Derived.Laws.MakeOwn
import Derived.Lib.Hide
import Derived.Maps.AppendAt
import Derived.Test.YtignkfhdkcgkgaaGreatRows
import Derived.WalkKit
import Derived.WalkSpells
namespace Go.Proofs.YtignkfhdkcgkgaaGreat
set_option maxRecDepth 100000
open Go.RowKit

theorem below_tr {a b c:World} (h:Below a.heap.size a b) (k:Below b.heap.size b c):Below a.heap.size a c:=h.trans (k.mono h.size)
theorem below_drewN {B:Nat} {a w:World} (h:Below B a w) (n:Nat):Below B a (w.drewN n):=⟨h.os,h.tape,h.output,h.size,h.block⟩
theorem below_new {a b:World} (h:Below a.heap.size a b) (o:Obj):Below a.heap.size a (b.alloc o):=h.alloc h.size o
theorem below_lt {a b:World} (h:Below a.heap.size a b) {k:Nat} (hk:k<a.heap.size):k<b.heap.size:=Nat.lt_of_lt_of_le hk h.size
theorem bcell {W w1:World} (hb:Below W.heap.size W w1):(∀b o,b<W.heap.size→w1.cell? ⟨b,o,none⟩=W.cell? ⟨b,o,none⟩)∧(∀b o,b<W.heap.size→w1.frozen? ⟨b,o,none⟩=W.frozen? ⟨b,o,none⟩) :=
 ⟨fun b o h=>hb.cell (p:=⟨b,o,none⟩) h,fun b o h=>hb.frozen (p:=⟨b,o,none⟩) h⟩

/-- The slice (A, n) reads as the integers xs. -/
def Ints (w:World) (A:Option Addr) (n:Nat) (xs:List Int):Prop :=
 xs.length=n∧(0<n→∃b o,A=some ⟨b,o,none⟩∧b<w.heap.size∧∀j,j<n→w.cell? ⟨b,o+j,none⟩=some (.int .i64 (xs[j]?.getD 0)))

theorem Ints.below {w w':World} {A:Option Addr} {n:Nat} {xs:List Int} (h:Ints w A n xs) (hb:Below w.heap.size w w'):Ints w' A n xs:=by
 refine ⟨h.1,fun hn=>?_⟩
 obtain ⟨b,o,e,hlt,hc⟩:=h.2 hn
 exact ⟨b,o,e,below_lt hb hlt,fun j hj=>(hb.cell (p:=⟨b,o+j,none⟩) hlt).trans (hc j hj)⟩

/-- The slice (A, n, c) is a row of the call's own from block 'base' on, and reads as xs. -/
def Own (base:Nat) (w:World) (A:Option Addr) (n c:Nat) (xs:List Int):Prop :=
 w.ownsRow base 3 1 (.slice A n c) n (xs.map (Value.int .i64))

theorem Own.len {base:Nat} {w:World} {A:Option Addr} {n c:Nat} {xs:List Int} (h:Own base w A n c xs):xs.length=n:=by
 have:=h.1;simpa using this

theorem Own.lt {base:Nat} {w:World} {A:Option Addr} {n c:Nat} {xs:List Int} (h:Own base w A n c xs):∀a,A=some a→base≤a.block∧a.block<w.heap.size:=by
 rintro a rfl
 rcases h.2 with ⟨hv,_⟩|⟨g,cap,cur,hv,hb,hh,_⟩
 ·cases hv
 ·injection hv with hA
  injection hA with hA
  subst hA
  refine ⟨hb,?_⟩
  rcases Nat.lt_or_ge g w.heap.size with hlt|hge
  ·exact hlt
  ·rw [Array.getElem?_eq_none hge] at hh;cases hh

theorem ownsRow_block {w w':World} {base:Nat} {e:TypeId} {size:Nat} {A:Option Addr} {n c m:Nat} {xs:List Value} (h:w.ownsRow base e size (.slice A n c) m xs)
  (hk:∀a,A=some a→w'.heap[a.block]?=w.heap[a.block]?):w'.ownsRow base e size (.slice A n c) m xs:=by
 refine ⟨h.1,?_⟩
 rcases h.2 with h0|⟨g,cap,cur,hv,hb,hh,r⟩
 ·exact .inl h0
 ·refine .inr ⟨g,cap,cur,hv,hb,?_,r⟩
  injection hv with hA
  rw [←hh]
  exact hk _ hA

theorem Own.below {base:Nat} {w w':World} {A:Option Addr} {n c:Nat} {xs:List Int} (h:Own base w A n c xs) (hb:Below w.heap.size w w'):Own base w' A n c xs :=
 ownsRow_block h fun a ha=>hb.block _ (h.lt a ha).2

theorem Own.more {base base':Nat} {w:World} {A:Option Addr} {n c:Nat} {xs:List Int} (h:Own base w A n c xs) (hb:base'≤base):Own base' w A n c xs:=by
 refine ⟨h.1,?_⟩
 rcases h.2 with h0|⟨g,cap,cur,hv,hg,r⟩
 ·exact .inl h0
 ·exact .inr ⟨g,cap,cur,hv,Nat.le_trans hb hg,r⟩

theorem Own.ints {base:Nat} {w:World} {A:Option Addr} {n c:Nat} {xs:List Int} (h:Own base w A n c xs):Ints w A n xs:=by
 refine ⟨h.len,fun hn=>?_⟩
 have hl:=h.lt
 rcases h.2 with ⟨_,h0⟩|⟨g,cap,cur,hv,hb,hh,hnc,hcap,hsz,ht⟩
 ·omega
 ·injection hv with hA
  subst hA
  refine ⟨g,0,rfl,(hl _ rfl).2,fun j hj=>?_⟩
  have hx:(xs.map (Value.int .i64))[j]?=some (.int .i64 (xs[j]?.getD 0)):=by
   have:j<xs.length:=by have:=h.len;omega
   simp [this]
  rw [←ht,List.getElem?_take] at hx
  simp only [Nat.mul_one] at hx
  rw [if_pos hj] at hx
  simpa [World.cell?,hh] using hx

theorem Own.nil {base:Nat} {w:World}:Own base w none 0 0 []:=⟨rfl,.inl ⟨rfl,rfl⟩⟩

/-- A block that was just made, known whole. -/
theorem Own.made {w:World} {base g:Nat} {n:Nat} {cur:Array Value} {xs:List Int} (hh:w.heap[g]?=some (.cells cur 3 (0,0))) (hb:base≤g) (hn:n≤maxLen) (hc:cur.toList=xs.map (Value.int .i64)) (hl:xs.length=n):Own base w (some ⟨g,0,none⟩) n n xs:=by
 have hsz:cur.size=n:=by rw [←Array.length_toList,hc,List.length_map,hl]
 refine ⟨by simp [hl],.inr ⟨g,n,cur,rfl,hb,hh,Nat.le_refl _,hn,by omega,?_⟩⟩
 rw [hc,List.take_of_length_le (by simp [hl])]

/-- The cells of a block of integers. -/
def arr (xs:List Int):Array Value:=(xs.map (Value.int .i64)).toArray
theorem arr_size (xs:List Int):(arr xs).size=xs.length:=by simp [arr]
theorem arr_get {xs:List Int} {k:Nat} (h:k<xs.length):(arr xs)[k]?=some (.int .i64 (xs[k]?.getD 0)):=by simp [arr,h]
theorem arr_set (xs:List Int) (k:Nat) (v:Int):(arr xs).setIfInBounds k (.int .i64 v)=arr (xs.set k v):=by
 apply Array.ext'
 simp [arr,List.map_set]
theorem arr_made (n:Nat):madeCells #[Value.int .i64 0] n=arr (List.replicate n 0):=by
 apply Array.ext'
 rw [toList_madeCells_one]
 simp [arr]
theorem Own.arr {w:World} {base g n:Nat} {xs:List Int} (hh:w.heap[g]?=some (.cells (arr xs) 3 (0,0))) (hb:base≤g) (hn:n≤maxLen) (hl:xs.length=n):Own base w (some ⟨g,0,none⟩) n n xs :=
 Own.made hh hb hn (by simp [Go.Proofs.YtignkfhdkcgkgaaGreat.arr]) hl
theorem heap_new (w:World) (o:Obj):(w.alloc o).heap[w.heap.size]?=some o:=heap_alloc_new w o

theorem run_make_rowN {P:Program} (t e:TypeId) (i:TypeInfo) (z:Value) (ht:P.underlying t=some (.slice e)) (hi:P.info? e=some i) (hz:i.zero=some z)
  (kl kc:IntKind) (n c:Nat) (hnc:n≤c) (hbytes:i.bytes * c≤281474976710656) (h63:c≤9223372036854775807) (w:World) :
  (Instr.makeSlice t (.int kl (n:Int)) (.int kc (c:Int))).run P w = .ok (.slice (some ⟨w.heap.size,0,none⟩) n c) (w.alloc (.cells (madeCells z.cells (c * i.size)) e)):=by
 have hb:(i.bytes:Int) * (c:Int)≤281474976710656:=by
  have h:((i.bytes * c:Nat):Int)≤281474976710656:=by omega
  rwa [Int.natCast_mul] at h
 have hr:=run_make (P:=P) w t e i z ht hi hz kl kc n c (by omega) (by omega) hb (by omega)
 simp only [Int.toNat_natCast] at hr
 exact hr

theorem heap_lt0 {w:World} {g:Nat} {o:Obj} (h:w.heap[g]?=some o):g<w.heap.size:=by
 rcases Nat.lt_or_ge g w.heap.size with hlt|hge
 ·exact hlt
 ·rw [Array.getElem?_eq_none hge] at h;cases h
theorem heap_set {w:World} {g:Nat} {cs:Array Value} {t:TypeId} (h:w.heap[g]?=some (.cells cs t (0,0))) (j:Nat) (v:Value):(w.setCell ⟨g,j,none⟩ v).heap[g]?=some (.cells (cs.setIfInBounds j v) t (0,0)):=by
 simp [World.setCell,Array.getElem?_modify,h]
theorem all_succ {p:Nat→Prop} {k:Nat} (h:∀j,j<k→p j) (hk:p k):∀j,j<k+1→p j:=by
 intro j hj
 rcases Nat.lt_or_ge j k with h1|h1
 ·exact h j h1
 ·obtain rfl:j=k:=by omega
  exact hk

theorem ret_int {k:IntKind} {a b:Int} (h:a=b):Ending.returned (.int k a) = .returned (.int k b):=by rw [h]
theorem ret_bool {a b:Bool} (h:a=b):Ending.returned (.bool a) = .returned (.bool b):=by rw [h]

theorem int_info:(Tryz.prog.info? 3).map (fun i=>(i.zero,i.size,i.bytes))=some (some (.int .i64 0),1,8):=by kernel_rfl

def inR (n lo hi:Int):Bool:=decide (lo≤n) && decide (n≤hi)
theorem inR_iff {n lo hi:Int}:inR n lo hi=true↔lo≤n∧n≤hi:=by simp [inR]
theorem inR_false {n lo hi:Int}:inR n lo hi=false↔n<lo∨hi<n:=by
 simp only [inR,Bool.and_eq_false_iff,decide_eq_false_iff_not];omega

structure Dev where
 W:Int
 H:Int
 T:Int
 R:Int
structure Reg where
 X0:Int
 Y0:Int
 X1:Int
 Y1:Int
end Go.Proofs.YtignkfhdkcgkgaaGreat

namespace Go.Proofs.YtignkfhdkcgkgaaGreat
set_option maxRecDepth 100000
open Go.RowKit

set_option maxHeartbeats 400000 in
theorem inRange_any (n lo hi:Int) (w:World) :
  Calls Tryz.prog 116 #[.int .i64 n,.int .i64 lo,.int .i64 hi] w fun e w'=>e = .returned (.bool (inR n lo hi))∧w=w':=by
 unfold inR
 by_cases h1:lo≤n
 ·have hd:decide (n≥lo)=true:=by simpa using h1
  go_enter Tryz.func116,Tryz.ntmps116
  go_wp2
  go_ret
  exact ⟨by simp [h1],rfl⟩
 ·have hd:decide (n≥lo)=false:=by simpa using h1
  go_enter Tryz.func116,Tryz.ntmps116
  go_wp2
  go_ret
  exact ⟨by simp,rfl⟩

set_option maxHeartbeats 400000 in
theorem l01In_any (n lo hi:Int) (w:World) :
  Calls Tryz.prog 175 #[.int .i64 n,.int .i64 lo,.int .i64 hi] w fun e w'=>e = .returned (.bool (inR n lo hi))∧w=w':=by
 unfold inR
 by_cases h1:lo≤n
 ·have hd:decide (n≥lo)=true:=by simpa using h1
  go_enter Tryz.func175,Tryz.ntmps175
  go_wp2
  go_ret
  exact ⟨by simp [h1],rfl⟩
 ·have hd:decide (n≥lo)=false:=by simpa using h1
  go_enter Tryz.func175,Tryz.ntmps175
  go_wp2
  go_ret
  exact ⟨by simp,rfl⟩

/-! ### toIntS -/
/-! ### eqIntS -/
theorem take_succ_eq {xs ys:List Int} {k:Nat} (h:xs.take k=ys.take k) (hx:k<xs.length) (hy:k<ys.length) (he:xs[k]?.getD 0=ys[k]?.getD 0):xs.take (k+1)=ys.take (k+1):=by
 rw [List.take_succ_eq_append_getElem hx,List.take_succ_eq_append_getElem hy,h]
 simp [hx,hy] at he
 rw [he]

/-! ### markIntS, heldIntS -/
theorem Own.block {base:Nat} {w:World} {A:Option Addr} {n c:Nat} {xs:List Int} (h:Own base w A n c xs) (hn:0<n) :
  ∃g cur,A=some ⟨g,0,none⟩∧base≤g∧g<w.heap.size∧w.heap[g]?=some (.cells cur 3 (0,0))∧n≤cur.size∧n≤c∧c≤maxLen∧cur.size=c∧cur.toList.take n=xs.map (Value.int .i64):=by
 have hl:=h.lt
 rcases h.2 with ⟨_,h0⟩|⟨g,cap,cur,hv,hb,hh,hnc,hcap,hsz,ht⟩
 ·omega
 ·injection hv with hA _ hc
  subst hA hc
  exact ⟨g,cur,rfl,hb,(hl _ rfl).2,hh,by omega,hnc,hcap,by omega,by simpa using ht⟩
theorem Own.stored {base:Nat} {w:World} {g n c k:Nat} {xs:List Int} (h:Own base w (some ⟨g,0,none⟩) n c xs) (hk:k<n) (x:Int) :
  Own base (w.setCell ⟨g,k,none⟩ (.int .i64 x)) (some ⟨g,0,none⟩) n c (xs.set k x):=by
 obtain ⟨g',cur,hA,hb,hlt,hh,hn,hnc,hcm,hsz,ht⟩:=h.block (by omega)
 injection hA with hA
 injection hA with hg
 subst hg
 refine ⟨by simp [h.len],.inr ⟨g,c,cur.setIfInBounds k (.int .i64 x),rfl,hb,by simp [World.setCell,Array.getElem?_modify,hh],hnc,hcm,by simp [hsz],?_⟩⟩
 simp only [Array.toList_setIfInBounds,Nat.mul_one,List.take_set,ht,List.map_set]
theorem Own.cellAt {base:Nat} {w:World} {g n c k:Nat} {xs:List Int} (h:Own base w (some ⟨g,0,none⟩) n c xs) (hk:k<n) :
  w.cell? ⟨g,k,none⟩=some (.int .i64 (xs[k]?.getD 0))∧w.frozen? ⟨g,k,none⟩=false:=by
 obtain ⟨b,o,hA,_,hc⟩:=h.ints.2 (by omega)
 obtain ⟨g',cur,hA',_,_,hh,_⟩:=h.block (by omega)
 injection hA with hA
 injection hA with h1 h2
 subst h1 h2
 injection hA' with hA'
 injection hA' with h1
 subst h1
 have:=hc k hk
 simp only [Nat.zero_add] at this
 exact ⟨this,by simp [World.frozen?,hh]⟩
theorem grownBy_refl (w:World) (r:Option Nat):w.grownBy w r:=⟨rfl,rfl,rfl,Nat.le_refl _,fun _ _ _=>rfl⟩
theorem grownBy_store {w w':World} {g:Nat} (h:w.grownBy w' (some g)) (k:Nat) (v:Value):w.grownBy (w'.setCell ⟨g,k,none⟩ v) (some g) :=
 ⟨h.os,h.tape,h.output,by simpa [World.setCell] using h.size,fun i hi hne=>(Below.heap_setCell w' ⟨g,k,none⟩ v i (by rintro rfl;exact hne rfl)).trans (h.block i hi hne)⟩

theorem heap_set_ne {w:World} {p:Addr} {k:Nat} (h:k≠p.block) (v:Value):(w.setCell p v).heap[k]?=w.heap[k]?:=Below.heap_setCell w p v k h
theorem grownBy_drewN {w w':World} {r:Option Nat} (h:w.grownBy w' r) (n:Nat):w.grownBy (w'.drewN n) r:=⟨h.os,h.tape,h.output,h.size,h.block⟩
theorem grownBy_trans {a b c:World} {r:Option Nat} (h:a.grownBy b r) (k:b.grownBy c r):a.grownBy c r :=
 ⟨k.os.trans h.os,k.tape.trans h.tape,k.output.trans h.output,Nat.le_trans h.size k.size,fun i hi hne=>(k.block i (Nat.lt_of_lt_of_le hi h.size) hne).trans (h.block i hi hne)⟩
theorem grownBy_of_below {a b:World} (h:Below a.heap.size a b) (r:Option Nat):a.grownBy b r:=⟨h.os,h.tape,h.output,h.size,fun i hi _=>h.block i hi⟩

/-! ### equal by one list; rows that lie apart -/
/-- Where a row lies: between two numbers of blocks. -/
def Lies (A:Option Addr) (lo hi:Nat):Prop:=∀a,A=some a→lo≤a.block∧a.block<hi
theorem Own.lies {base:Nat} {w:World} {A:Option Addr} {n c:Nat} {xs:List Int} (h:Own base w A n c xs):Lies A base w.heap.size:=h.lt
theorem Own.grown {base:Nat} {w w':World} {A A':Option Addr} {n c lo hi lo' hi':Nat} {xs:List Int} (h:Own base w A n c xs) (hg:w.grownBy w' (A'.map (·.block))) (l:Lies A lo hi) (l':Lies A' lo' hi') (ha:hi≤lo'∨hi'≤lo) :
  Own base w' A n c xs :=
 ownsRow_block h fun a e=>hg.block _ (h.lt a e).2 (by
  cases A' with
  | none=>simp
  | some a' =>
   have h1:=l a e
   have h2:=l' a' rfl
   simp only [Option.map_some,ne_eq,Option.some.injEq]
   omega)
theorem Ints.grown {w w':World} {A A':Option Addr} {n lo hi hi':Nat} {xs:List Int} (h:Ints w A n xs) (hg:w.grownBy w' (A'.map (·.block))) (l:Lies A 0 hi) (l':Lies A' lo hi') (ha:hi≤lo):Ints w' A n xs:=by
 refine ⟨h.1,fun hn=>?_⟩
 obtain ⟨b,o,e,hlt,hc⟩:=h.2 hn
 refine ⟨b,o,e,Nat.lt_of_lt_of_le hlt hg.size,fun j hj=>?_⟩
 rw [←hc j hj]
 refine World.cell?_of_block (a:=⟨b,o+j,none⟩) (hg.block b hlt ?_)
 cases A' with
 | none=>simp
 | some a' =>
  have h1:=l _ e
  have h2:=l' a' rfl
  simp only [Option.map_some,ne_eq,Option.some.injEq]
  simp only at h1
  omega
theorem Ints.lies {w:World} {A:Option Addr} {n:Nat} {xs:List Int} (h:Ints w A n xs) (hn:0<n):Lies A 0 w.heap.size:=by
 obtain ⟨b,o,rfl,hlt,_⟩:=h.2 hn
 rintro a ha
 injection ha with ha
 subst ha
 exact ⟨Nat.zero_le _,hlt⟩
theorem Own.newAt {w:World} {base g:Nat} (hg:w.heap.size=g) (h:base≤g):Own base (w.alloc (.cells #[] 3)) (some ⟨g,0,none⟩) 0 0 []:=by
 subst hg
 exact ⟨rfl,.inr ⟨w.heap.size,0,#[],rfl,h,heap_new _ _,Nat.le_refl _,Nat.zero_le _,rfl,rfl⟩⟩
theorem Ints.drewd {w:World} {A:Option Addr} {n:Nat} {xs:List Int} (h:Ints w A n xs):Ints w.drew A n xs:=h
theorem Own.drewd {base:Nat} {w:World} {A:Option Addr} {n c:Nat} {xs:List Int} (h:Own base w A n c xs):Own base w.drew A n c xs:=h
theorem Own.rd {base:Nat} {w:World} {A:Option Addr} {n c:Nat} {xs:List Int} (h:Own base w A n c xs):Ints w A n xs:=h.ints

/-! ### append of one integer to a row of the call's own -/
theorem ownBlock_slice (A:Option Addr) (n c:Nat):(Value.slice A n c).ownBlock=A.map (·.block):=by cases A <;> rfl
theorem add_lit0' (a:Addr):a.add 0=a:=by simp [Addr.add]
theorem wpList_push {ops:Array Oper} {rest:List Oper} {o:Oper} {a:Act} {Q:Exit→Act→World→Prop} {w W:World} (hgd:o.guard=none) (s x:Operand)
  (ho:o.op = .call { callee := .builtin .append,args:=#[s,x],argTypes:=#[27,27] })
  (base:Nat) (A:Option Addr) (n c:Nat) (xs:List Int) (v:Int) (hs:a.eval s = .slice A n c) (hown:Own base w A n c xs) (hx:a.eval x = .slice (some ⟨w.heap.size,0,none⟩) 1 1)
  (hn:n≤1099511627776) (hbase:base≤w.heap.size) (hB:Below base W w)
  (h:∀g cap w',Own base w' (some ⟨g,0,none⟩) (n+1) cap (xs++[v])→Below base W w'→(w.alloc (.cells #[.int .i64 v] 3)).grownBy w' (A.map (·.block))→(A.map (·.block)=some g∨g=w.heap.size+1) →
   wpList Tryz.prog ops Q rest (a.put o.dst (.slice (some ⟨g,0,none⟩) (n+1) cap)) w'):wpList Tryz.prog ops Q (o :: rest) a (w.alloc (.cells #[.int .i64 v] 3)):=by
 obtain ⟨i0,hi,hz0,hz1,hz2⟩:=info_parts int_info
 have hl:=hown.lt
 refine wpList_append_lies (w.alloc (.cells #[.int .i64 v] 3)) hgd s x 27 ho base 3 i0 (.int .i64 0) 1 8 Tryz.underlying27 hi hz0 hz1 hz2 rfl (by omega) (.slice A n c) n (xs.map (Value.int .i64)) hs
  (ownsRow_block hown fun a ha=>Below.heap_alloc _ _ _ (hl a ha).2) ⟨w.heap.size,0,none⟩ 1 1 [.int .i64 v] hx rfl
  (fun j u hu=>?_) (fun u hu=>?_) (by omega) (by unfold maxLen;omega) (by omega) (by simp;omega) (w.heap.size+1) (by simp) ?_
 ·rcases j with _|j
  ·simp at hu
   subst hu
   rw [add_lit0']
   unfold World.cell?
   rw [heap_new]
   rfl
  ·simp at hu
 ·simp at hu;subst hu;rfl
 ·intro g cap w' h1 h2 h3 _
  rw [ownBlock_slice] at h2 h3
  refine h g cap w' (by simpa [Own] using h1) ?_ h2 h3
  refine (hB.alloc hbase _).grown h2 (by simp;omega) ?_
  intro k hk
  cases A with
  | none=>cases hk
  | some a' =>
   injection hk with hk
   subst hk
   exact (hl a' rfl).1
theorem Own.new0 {w:World} {base:Nat} (h:base≤w.heap.size):Own base (w.alloc (.cells #[] 3)) (some ⟨w.heap.size,0,none⟩) 0 0 [] :=
 ⟨rfl,.inr ⟨w.heap.size,0,#[],rfl,h,heap_new _ _,Nat.le_refl _,Nat.zero_le _,rfl,rfl⟩⟩
/-- What may have changed lies between two numbers of blocks. -/
structure Chg (lo hi:Nat) (w w':World):Prop where
 os:w'.os=w.os
 tape:w'.tape=w.tape
 output:w'.output=w.output
 size:w.heap.size≤w'.heap.size
 block:∀k,k<w.heap.size→(k<lo∨hi≤k)→w'.heap[k]?=w.heap[k]?
theorem Chg.refl (lo hi:Nat) (w:World):Chg lo hi w w:=⟨rfl,rfl,rfl,Nat.le_refl _,fun _ _ _=>rfl⟩
theorem Chg.trans {lo hi:Nat} {a b c:World} (h:Chg lo hi a b) (k:Chg lo hi b c):Chg lo hi a c :=
 ⟨k.os.trans h.os,k.tape.trans h.tape,k.output.trans h.output,Nat.le_trans h.size k.size,fun i hi' hne=>(k.block i (Nat.lt_of_lt_of_le hi' h.size) hne).trans (h.block i hi' hne)⟩
theorem Own.chg {base lo hi lo' hi':Nat} {w w':World} {A:Option Addr} {n c:Nat} {xs:List Int} (h:Own base w A n c xs) (hg:Chg lo' hi' w w') (l:Lies A lo hi) (ha:hi≤lo'∨hi'≤lo):Own base w' A n c xs :=
 ownsRow_block h fun a e=>hg.block _ (h.lt a e).2 (by have:=l a e;omega)
end Go.Proofs.YtignkfhdkcgkgaaGreat
