/- The reference's draws: a cursor over bytes; what a draw answers lies in its range. -/
import Derived.Test.YtignkfhdkcgkgaaGreatEncT
namespace Go.Proofs.YtignkfhdkcgkgaaGreat
set_option maxRecDepth 100000
open Go.RowKit
def qp (w:World) (B:Nat) (A:Option Addr) (n:Nat) (bs:List Int):Prop :=
 bs.length=n/\(∀j:Nat,0<=bs[j]?.getD 0/\bs[j]?.getD 0<=255)/\(0<n→∃b o,A=some ⟨b,o,none⟩/\b<B/\∀j,j<n→w.cell? ⟨b,o+j,none⟩=some (.int .u8 (bs[j]?.getD 0)))
theorem qp.keep {w w':World} {B:Nat} {A:Option Addr} {n:Nat} {bs:List Int} (h:qp w B A n bs) (hk:∀k,k<B→w'.heap[k]?=w.heap[k]?):qp w' B A n bs:=by
 refine ⟨h.1,h.2.1,fun hn=>?_⟩
 obtain ⟨b,o,e,hlt,hc⟩:=h.2.2 hn
 exact ⟨b,o,e,hlt,fun j hj=>(World.cell?_of_block (a:=⟨b,o+j,none⟩) (hk b hlt)).trans (hc j hj)⟩
theorem qp.below {w w':World} {B:Nat} {A:Option Addr} {n:Nat} {bs:List Int} (h:qp w B A n bs) (hb:Below B w w'):qp w' B A n bs:=h.keep hb.block
theorem qp.more {w:World} {B B':Nat} {A:Option Addr} {n:Nat} {bs:List Int} (h:qp w B A n bs) (hB:B<=B'):qp w B' A n bs:=by
 refine ⟨h.1,h.2.1,fun hn=>?_⟩
 obtain ⟨b,o,e,hlt,hc⟩:=h.2.2 hn
 exact ⟨b,o,e,Nat.lt_of_lt_of_le hlt hB,hc⟩
def Cur (w:World) (g B:Nat) (A:Option Addr) (n c:Nat) (bs:List Int):Prop :=
 ∃(i:Nat) (h:Int),i<=n/\B<=g/\w.heap[g]?=some (.cells #[.slice A n c,.int .i64 i,.int .i64 h] 138 (0,0))/\qp w B A n bs
theorem Gq {w:World} {g:Nat} {o:Obj} (h:w.heap[g]?=some o):g<w.heap.size:=by
 rcases Nat.lt_or_ge g w.heap.size with hlt|hge
 ·exact hlt
 ·rw [Array.getElem?_eq_none hge] at h;cases h
theorem Cur.lt {w:World} {g B:Nat} {A:Option Addr} {n c:Nat} {bs:List Int} (h:Cur w g B A n c bs):g<w.heap.size:=by
 obtain ⟨i,x,_,_,hh,_⟩:=h
 exact Gq hh
theorem Cur.below {w w':World} {g B:Nat} {A:Option Addr} {n c:Nat} {bs:List Int} (h:Cur w g B A n c bs) (hb:Below w.heap.size w w'):Cur w' g B A n c bs:=by
 have hl:=h.lt
 obtain ⟨i,x,hi,hB,hh,hbs⟩:=h
 exact ⟨i,x,hi,hB,(hb.block g hl).trans hh,hbs.below (hb.mono (Nat.le_trans hB (Nat.le_of_lt hl)))⟩
theorem Cur.keep {w w':World} {g B:Nat} {A:Option Addr} {n c:Nat} {bs:List Int} (h:Cur w g B A n c bs) (hg:w'.heap[g]?=w.heap[g]?) (hk:∀k,k<B→w'.heap[k]?=w.heap[k]?):Cur w' g B A n c bs:=by
 obtain ⟨i,x,hi,hB,hh,hbs⟩:=h
 exact ⟨i,x,hi,hB,hg.trans hh,hbs.keep hk⟩
theorem Cur.pushed {w w':World} {g B:Nat} {A:Option Addr} {n c:Nat} {bs:List Int} {o:Obj} {g':Nat} (h:Cur w g B A n c bs) (gr:(w.alloc o).grownBy w' (some g')) (hne:g'≠g) (hr:B<=g'):Cur w' g B A n c bs:=by
 have hl:=h.lt
 refine h.keep ((gr.block g (by simp;omega) (by simpa using fun e=>hne e.symm)).trans (Below.heap_alloc _ _ _ hl)) fun k hk=>?_
 obtain ⟨i,x,hi,hB,_⟩:=h
 exact (gr.block k (by simp;omega) (by simp;omega)).trans (Below.heap_alloc _ _ _ (by omega))
theorem Own.other {w w':World} {base g' m c':Nat} {xs:List Int} {r:Nat} (k:Own base w (some ⟨g',0,none⟩) m c' xs) (h:w.grownBy w' (some r)) (hne:g'≠r):Own base w' (some ⟨g',0,none⟩) m c' xs :=
 aa k fun a ha=>h.block _ (k.lt a ha).2 (by injection ha with ha;subst ha;simpa using hne)
/-! ### a new cursor -/
/-! ### words for a checksum -/
theorem wL {w w':World} {r:Option Nat} (h:w.grownBy w' r) {b:Nat} (hb:w.heap.size<=b) (j:Nat) (v:Value):w.grownBy (w'.setCell ⟨b,j,none⟩ v) r :=
 ⟨h.os,h.tape,h.output,by simpa [World.setCell] using h.size,fun k hk hne=>(mr (p:=⟨b,j,none⟩) (by simp only;omega) v).trans (h.block k hk hne)⟩
theorem Cur.setNew {w:World} {g B:Nat} {A:Option Addr} {n c:Nat} {bs:List Int} (h:Cur w g B A n c bs) {b:Nat} (hb:g<b) (j:Nat) (v:Value):Cur (w.setCell ⟨b,j,none⟩ v) g B A n c bs:=by
 have hB:B<=g:=by obtain ⟨i,x,hi,hB,_⟩:=h;exact hB
 exact h.keep (mr (p:=⟨b,j,none⟩) (by simp only;omega) v) fun k hk=>mr (p:=⟨b,j,none⟩) (by simp only;omega) v
/-! ### a tile's node -/
end Go.Proofs.YtignkfhdkcgkgaaGreat
