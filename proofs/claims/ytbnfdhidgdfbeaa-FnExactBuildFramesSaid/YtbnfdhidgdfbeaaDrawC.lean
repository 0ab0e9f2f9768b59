/- The reference's draws: a cursor over bytes; what a draw answers lies in its range. The reference's draws of numbers, of words for a checksum, and of a device. -/
import Derived.Test.YtbnfdhidgdfbeaaBit
import Derived.Test.YtbnfdhidgdfbeaaHar
namespace Go.Proofs.Ytbnfdhidgdfbeaa
set_option maxRecDepth 100000
open Go.RowKit

/-- The slice (A, n) reads as the bytes bs, and lies below block B. -/
def Bytes (w:World) (B:Nat) (A:Option Addr) (n:Nat) (bs:List Int):Prop :=
 bs.length=n∧(∀j:Nat,0≤bs[j]?.getD 0∧bs[j]?.getD 0≤255)∧(0<n→∃b o,A=some ⟨b,o,none⟩∧b<B∧∀j,j<n→w.cell? ⟨b,o+j,none⟩=some (.int .u8 (bs[j]?.getD 0)))
theorem Bytes.keep {w w':World} {B:Nat} {A:Option Addr} {n:Nat} {bs:List Int} (h:Bytes w B A n bs) (hk:∀k,k<B→w'.heap[k]?=w.heap[k]?):Bytes w' B A n bs:=by
 refine ⟨h.1,h.2.1,fun hn=>?_⟩
 obtain ⟨b,o,e,hlt,hc⟩:=h.2.2 hn
 exact ⟨b,o,e,hlt,fun j hj=>(World.cell?_of_block (a:=⟨b,o+j,none⟩) (hk b hlt)).trans (hc j hj)⟩
theorem Bytes.below {w w':World} {B:Nat} {A:Option Addr} {n:Nat} {bs:List Int} (h:Bytes w B A n bs) (hb:Below B w w'):Bytes w' B A n bs:=h.keep hb.block
theorem Bytes.more {w:World} {B B':Nat} {A:Option Addr} {n:Nat} {bs:List Int} (h:Bytes w B A n bs) (hB:B≤B'):Bytes w B' A n bs:=by
 refine ⟨h.1,h.2.1,fun hn=>?_⟩
 obtain ⟨b,o,e,hlt,hc⟩:=h.2.2 hn
 exact ⟨b,o,e,Nat.lt_of_lt_of_le hlt hB,hc⟩

def Cur (w:World) (g B:Nat) (A:Option Addr) (n c:Nat) (bs:List Int):Prop :=
 ∃(i:Nat) (h:Int),i≤n∧B≤g∧w.heap[g]?=some (.cells #[.slice A n c,.int .i64 i,.int .i64 h] 118 (0,0))∧Bytes w B A n bs

theorem heap_lt {w:World} {g:Nat} {o:Obj} (h:w.heap[g]?=some o):g<w.heap.size:=by
 rcases Nat.lt_or_ge g w.heap.size with hlt|hge
 ·exact hlt
 ·rw [Array.getElem?_eq_none hge] at h;cases h
theorem Cur.lt {w:World} {g B:Nat} {A:Option Addr} {n c:Nat} {bs:List Int} (h:Cur w g B A n c bs):g<w.heap.size:=by
 obtain ⟨i,x,_,_,hh,_⟩:=h
 exact heap_lt hh
theorem Cur.below {w w':World} {g B:Nat} {A:Option Addr} {n c:Nat} {bs:List Int} (h:Cur w g B A n c bs) (hb:Below w.heap.size w w'):Cur w' g B A n c bs:=by
 have hl:=h.lt
 obtain ⟨i,x,hi,hB,hh,hbs⟩:=h
 exact ⟨i,x,hi,hB,(hb.block g hl).trans hh,hbs.below (hb.mono (Nat.le_trans hB (Nat.le_of_lt hl)))⟩
theorem Cur.keep {w w':World} {g B:Nat} {A:Option Addr} {n c:Nat} {bs:List Int} (h:Cur w g B A n c bs) (hg:w'.heap[g]?=w.heap[g]?) (hk:∀k,k<B→w'.heap[k]?=w.heap[k]?):Cur w' g B A n c bs:=by
 obtain ⟨i,x,hi,hB,hh,hbs⟩:=h
 exact ⟨i,x,hi,hB,hg.trans hh,hbs.keep hk⟩
theorem Own.other {w w':World} {base g' m c':Nat} {xs:List Int} {r:Nat} (k:Own base w (some ⟨g',0,none⟩) m c' xs) (h:w.grownBy w' (some r)) (hne:g'≠r):Own base w' (some ⟨g',0,none⟩) m c' xs :=
 ownsRow_block k fun a ha=>h.block _ (k.lt a ha).2 (by injection ha with ha;subst ha;simpa using hne)

/-! ### a new cursor -/
end Go.Proofs.Ytbnfdhidgdfbeaa

namespace Go.Proofs.Ytbnfdhidgdfbeaa
set_option maxRecDepth 100000
open Go.RowKit

/-! ### words for a checksum -/
end Go.Proofs.Ytbnfdhidgdfbeaa
