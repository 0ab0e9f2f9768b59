/- Words for memory: slices that read as lists, owned rows, and how they are kept. Plain lemmas; no function of the program is walked here. -/
import Derived.BigQuiet
import Derived.Deep.AppendLies
import Derived.Deep.QuietTactic
import Derived.Deep.RegionHeld3
import Derived.Deep.RegionWith
import Derived.Laws.MakeOwn
import Derived.Lib.Hide
import Derived.Maps.AppendAt
import Derived.Test.YtlinbdkbbhpdpaaGreatRows
import Derived.WalkKit
import Derived.WalkSpells
namespace Go.Proofs.YtlinbdkbbhpdpaaGreat
set_option maxRecDepth 100000
open Go.RowKit

theorem below_tr {a b c:World} (h:Below a.heap.size a b) (k:Below b.heap.size b c):Below a.heap.size a c:=h.trans (k.mono h.size)
theorem below_drewN {B:Nat} {a w:World} (h:Below B a w) (n:Nat):Below B a (w.drewN n):=⟨h.os,h.tape,h.output,h.size,h.block⟩
theorem below_new {a b:World} (h:Below a.heap.size a b) (o:Obj):Below a.heap.size a (b.alloc o):=h.alloc h.size o
theorem below_lt {a b:World} (h:Below a.heap.size a b) {k:Nat} (hk:k<a.heap.size):k<b.heap.size:=Nat.lt_of_lt_of_le hk h.size
theorem bcell {W w1:World} (hb:Below W.heap.size W w1):(∀b o,b<W.heap.size→w1.cell? ⟨b,o,none⟩=W.cell? ⟨b,o,none⟩)∧(∀b o,b<W.heap.size→w1.frozen? ⟨b,o,none⟩=W.frozen? ⟨b,o,none⟩) :=
 ⟨fun b o h=>hb.cell (p:=⟨b,o,none⟩) h,fun b o h=>hb.frozen (p:=⟨b,o,none⟩) h⟩

/-- The slice (A, n) reads as the integers xs. -/
def Ints (w:World) (A:Option Addr) (n:Nat) (xs:List Int):Prop :=
 xs.length=n∧(0<n→∃b o,A=some ⟨b,o,none⟩∧b<w.heap.size∧∀j,j<n→w.cell? ⟨b,o+j,none⟩=some (.int .i64 (xs[j]?.getD 0)))

theorem Ints.below {w w':World} {A:Option Addr} {n:Nat} {xs:List Int} (h:Ints w A n xs) (hb:Below w.heap.size w w'):Ints w' A n xs:=by
 refine ⟨h.1,fun hn=>?_⟩
 obtain ⟨b,o,e,hlt,hc⟩:=h.2 hn
 exact ⟨b,o,e,below_lt hb hlt,fun j hj=>(hb.cell (p:=⟨b,o+j,none⟩) hlt).trans (hc j hj)⟩

/-- The slice (A, n, c) is a row of the call's own from block 'base' on, and reads as xs. -/
def Own (base:Nat) (w:World) (A:Option Addr) (n c:Nat) (xs:List Int):Prop :=
 w.ownsRow base 3 1 (.slice A n c) n (xs.map (Value.int .i64))

theorem Own.len {base:Nat} {w:World} {A:Option Addr} {n c:Nat} {xs:List Int} (h:Own base w A n c xs):xs.length=n:=by
 have:=h.1;simpa using this

theorem Own.lt {base:Nat} {w:World} {A:Option Addr} {n c:Nat} {xs:List Int} (h:Own base w A n c xs):∀a,A=some a→base≤a.block∧a.block<w.heap.size:=by
 rintro a rfl
 rcases h.2 with ⟨hv,_⟩|⟨g,cap,cur,hv,hb,hh,_⟩
 ·cases hv
 ·injection hv with hA
  injection hA with hA
  subst hA
  refine ⟨hb,?_⟩
  rcases Nat.lt_or_ge g w.heap.size with hlt|hge
  ·exact hlt
  ·rw [Array.getElem?_eq_none hge] at hh;cases hh

theorem ownsRow_block {w w':World} {base:Nat} {e:TypeId} {size:Nat} {A:Option Addr} {n c m:Nat} {xs:List Value} (h:w.ownsRow base e size (.slice A n c) m xs)
  (hk:∀a,A=some a→w'.heap[a.block]?=w.heap[a.block]?):w'.ownsRow base e size (.slice A n c) m xs:=by
 refine ⟨h.1,?_⟩
 rcases h.2 with h0|⟨g,cap,cur,hv,hb,hh,r⟩
 ·exact .inl h0
 ·refine .inr ⟨g,cap,cur,hv,hb,?_,r⟩
  injection hv with hA
  rw [←hh]
  exact hk _ hA

theorem Own.below {base:Nat} {w w':World} {A:Option Addr} {n c:Nat} {xs:List Int} (h:Own base w A n c xs) (hb:Below w.heap.size w w'):Own base w' A n c xs :=
 ownsRow_block h fun a ha=>hb.block _ (h.lt a ha).2

theorem Own.more {base base':Nat} {w:World} {A:Option Addr} {n c:Nat} {xs:List Int} (h:Own base w A n c xs) (hb:base'≤base):Own base' w A n c xs:=by
 refine ⟨h.1,?_⟩
 rcases h.2 with h0|⟨g,cap,cur,hv,hg,r⟩
 ·exact .inl h0
 ·exact .inr ⟨g,cap,cur,hv,Nat.le_trans hb hg,r⟩

theorem Own.ints {base:Nat} {w:World} {A:Option Addr} {n c:Nat} {xs:List Int} (h:Own base w A n c xs):Ints w A n xs:=by
 refine ⟨h.len,fun hn=>?_⟩
 have hl:=h.lt
 rcases h.2 with ⟨_,h0⟩|⟨g,cap,cur,hv,hb,hh,hnc,hcap,hsz,ht⟩
 ·omega
 ·injection hv with hA
  subst hA
  refine ⟨g,0,rfl,(hl _ rfl).2,fun j hj=>?_⟩
  have hx:(xs.map (Value.int .i64))[j]?=some (.int .i64 (xs[j]?.getD 0)):=by
   have:j<xs.length:=by have:=h.len;omega
   simp [this]
  rw [←ht,List.getElem?_take] at hx
  simp only [Nat.mul_one] at hx
  rw [if_pos hj] at hx
  simpa [World.cell?,hh] using hx

theorem Own.nil {base:Nat} {w:World}:Own base w none 0 0 []:=⟨rfl,.inl ⟨rfl,rfl⟩⟩

/-- A block that was just made, known whole. -/
theorem Own.made {w:World} {base g:Nat} {n:Nat} {cur:Array Value} {xs:List Int} (hh:w.heap[g]?=some (.cells cur 3 (0,0))) (hb:base≤g) (hn:n≤maxLen) (hc:cur.toList=xs.map (Value.int .i64)) (hl:xs.length=n):Own base w (some ⟨g,0,none⟩) n n xs:=by
 have hsz:cur.size=n:=by rw [←Array.length_toList,hc,List.length_map,hl]
 refine ⟨by simp [hl],.inr ⟨g,n,cur,rfl,hb,hh,Nat.le_refl _,hn,by omega,?_⟩⟩
 rw [hc,List.take_of_length_le (by simp [hl])]

/-- The cells of a block of integers. -/
def arr (xs:List Int):Array Value:=(xs.map (Value.int .i64)).toArray
theorem arr_made (n:Nat):madeCells #[Value.int .i64 0] n=arr (List.replicate n 0):=by
 apply Array.ext'
 rw [toList_madeCells_one]
 simp [arr]
theorem Own.arr {w:World} {base g n:Nat} {xs:List Int} (hh:w.heap[g]?=some (.cells (arr xs) 3 (0,0))) (hb:base≤g) (hn:n≤maxLen) (hl:xs.length=n):Own base w (some ⟨g,0,none⟩) n n xs :=
 Own.made hh hb hn (by simp [Go.Proofs.YtlinbdkbbhpdpaaGreat.arr]) hl
theorem heap_new (w:World) (o:Obj):(w.alloc o).heap[w.heap.size]?=some o:=heap_alloc_new w o

theorem run_make_rowN {P:Program} (t e:TypeId) (i:TypeInfo) (z:Value) (ht:P.underlying t=some (.slice e)) (hi:P.info? e=some i) (hz:i.zero=some z)
  (kl kc:IntKind) (n c:Nat) (hnc:n≤c) (hbytes:i.bytes * c≤281474976710656) (h63:c≤9223372036854775807) (w:World) :
  (Instr.makeSlice t (.int kl (n:Int)) (.int kc (c:Int))).run P w = .ok (.slice (some ⟨w.heap.size,0,none⟩) n c) (w.alloc (.cells (madeCells z.cells (c * i.size)) e)):=by
 have hb:(i.bytes:Int) * (c:Int)≤281474976710656:=by
  have h:((i.bytes * c:Nat):Int)≤281474976710656:=by omega
  rwa [Int.natCast_mul] at h
 have hr:=run_make (P:=P) w t e i z ht hi hz kl kc n c (by omega) (by omega) hb (by omega)
 simp only [Int.toNat_natCast] at hr
 exact hr

theorem heap_lt0 {w:World} {g:Nat} {o:Obj} (h:w.heap[g]?=some o):g<w.heap.size:=by
 rcases Nat.lt_or_ge g w.heap.size with hlt|hge
 ·exact hlt
 ·rw [Array.getElem?_eq_none hge] at h;cases h
theorem heap_set {w:World} {g:Nat} {cs:Array Value} {t:TypeId} (h:w.heap[g]?=some (.cells cs t (0,0))) (j:Nat) (v:Value):(w.setCell ⟨g,j,none⟩ v).heap[g]?=some (.cells (cs.setIfInBounds j v) t (0,0)):=by
 simp [World.setCell,Array.getElem?_modify,h]
theorem heap_tr {w w':World} (h:Below w.heap.size w w') {g:Nat} {o:Obj} (hg:w.heap[g]?=some o):w'.heap[g]?=some o:=(h.block g (heap_lt0 hg)).trans hg
theorem heap_al {w:World} {g:Nat} {o:Obj} (o':Obj) (hg:w.heap[g]?=some o):(w.alloc o').heap[g]?=some o:=(Below.heap_alloc w o' g (heap_lt0 hg)).trans hg
theorem cell_heap {w:World} {g k:Nat} {cs:Array Value} {t:TypeId} {v:Value} (h:w.heap[g]?=some (.cells cs t (0,0))) (hv:cs[k]?=some v):w.cell? ⟨g,k,none⟩=some v:=by unfold World.cell?;rw [h];exact hv
theorem frozen_heap {w:World} {g:Nat} {cs:Array Value} {t:TypeId} (h:w.heap[g]?=some (.cells cs t (0,0))) (k:Nat):w.frozen? ⟨g,k,none⟩=false:=by unfold World.frozen?;rw [h];simp
theorem all_succ {p:Nat→Prop} {k:Nat} (h:∀j,j<k→p j) (hk:p k):∀j,j<k+1→p j:=by
 intro j hj
 rcases Nat.lt_or_ge j k with h1|h1
 ·exact h j h1
 ·obtain rfl:j=k:=by omega
  exact hk

theorem ret_int {k:IntKind} {a b:Int} (h:a=b):Ending.returned (.int k a) = .returned (.int k b):=by rw [h]
theorem ret_bool {a b:Bool} (h:a=b):Ending.returned (.bool a) = .returned (.bool b):=by rw [h]

theorem int_info:(Tryz.prog.info? 3).map (fun i=>(i.zero,i.size,i.bytes))=some (some (.int .i64 0),1,8):=by kernel_rfl

def inR (n lo hi:Int):Bool:=decide (lo≤n) && decide (n≤hi)
theorem inR_iff {n lo hi:Int}:inR n lo hi=true↔lo≤n∧n≤hi:=by simp [inR]
structure Dev where
 W:Int
 H:Int
 T:Int
 R:Int
structure Reg where
 X0:Int
 Y0:Int
 X1:Int
 Y1:Int
end Go.Proofs.YtlinbdkbbhpdpaaGreat
