/- TilesOf: the tiles of a kind: both. BitsAt: the program's and the reference's compute one number. What an act does to a board, and its number. What acts do to a board, and their numbers. A law's run of an operation in a drawn region: the board that it leaves in a block, whichever order was drawn. Boards and lists beside blocks that are written. -/
import Derived.Test.YtbnfdhidgdfbeaaGreatAc
import Derived.Test.YtbnfdhidgdfbeaaGreatEmu
import Derived.Test.YtbnfdhidgdfbeaaGreatHar
import Derived.Test.YtbnfdhidgdfbeaaGreatOpp
import Derived.Test.YtbnfdhidgdfbeaaGreatOps
import Derived.Test.YtbnfdhidgdfbeaaGreatPads
import Derived.Test.YtbnfdhidgdfbeaaGreatValS2
namespace Go.Proofs.YtbnfdhidgdfbeaaGreat
set_option maxRecDepth 100000
open Go.RowKit

end Go.Proofs.YtbnfdhidgdfbeaaGreat

namespace Go.Proofs.YtbnfdhidgdfbeaaGreat
set_option maxRecDepth 100000
open Go.RowKit

end Go.Proofs.YtbnfdhidgdfbeaaGreat

namespace Go.Proofs.YtbnfdhidgdfbeaaGreat
set_option maxRecDepth 100000
open Go.RowKit

end Go.Proofs.YtbnfdhidgdfbeaaGreat

namespace Go.Proofs.YtbnfdhidgdfbeaaGreat
set_option maxRecDepth 100000
open Go.RowKit

def Ac.zero:Ac:=⟨0,0,0,0,rZ,[]⟩
/-- The slice (A, n) reads as the acts xs. -/
def ActsRd (w:World) (A:Option Addr) (n:Nat) (xs:List Ac):Prop:=xs.length=n∧(0<n→∃b o,A=some ⟨b,o,none⟩∧b<w.heap.size∧∀j,j<n→∃WA wn wc,
 w.cell? ⟨b,o+j * 9,none⟩=some (.int .i64 (xs[j]?.getD Ac.zero).kind)∧w.cell? ⟨b,o+j * 9+1,none⟩=some (.int .i64 (xs[j]?.getD Ac.zero).A)∧w.cell? ⟨b,o+j * 9+2,none⟩=some (.int .i64 (xs[j]?.getD Ac.zero).B)∧w.cell? ⟨b,o+j * 9+3,none⟩=some (.int .i64 (xs[j]?.getD Ac.zero).C) ∧
 w.cell? ⟨b,o+j * 9+4,none⟩=some (.int .i64 (xs[j]?.getD Ac.zero).reg.X0)∧w.cell? ⟨b,o+j * 9+5,none⟩=some (.int .i64 (xs[j]?.getD Ac.zero).reg.Y0)∧w.cell? ⟨b,o+j * 9+6,none⟩=some (.int .i64 (xs[j]?.getD Ac.zero).reg.X1)∧w.cell? ⟨b,o+j * 9+7,none⟩=some (.int .i64 (xs[j]?.getD Ac.zero).reg.Y1) ∧
 w.cell? ⟨b,o+j * 9+8,none⟩=some (.slice WA wn wc)∧Ints w WA wn (xs[j]?.getD Ac.zero).words)
theorem ActsRd.below {w w':World} {A:Option Addr} {n:Nat} {xs:List Ac} (h:ActsRd w A n xs) (hb:Below w.heap.size w w'):ActsRd w' A n xs:=by
 refine ⟨h.1,fun hn=>?_⟩
 obtain ⟨b,o,e,hlt,hc⟩:=h.2 hn
 refine ⟨b,o,e,below_lt hb hlt,fun j hj=>?_⟩
 obtain ⟨WA,wn,wc,c0,c1,c2,c3,c4,c5,c6,c7,c8,hi⟩:=hc j hj
 have k:=fun (i:Nat)=>hb.cell (p:=⟨b,i,none⟩) hlt
 exact ⟨WA,wn,wc,(k _).trans c0,(k _).trans c1,(k _).trans c2,(k _).trans c3,(k _).trans c4,(k _).trans c5,(k _).trans c6,(k _).trans c7,(k _).trans c8,hi.below hb⟩
/-- A board that the call owns; none of its blocks has P. -/
def FpOut (P:Nat→Prop) (lo hi:Nat) (w:World) (b:Bd) (s:Sl3):Prop:=∃S1 S2 S3,FpIn w b s lo hi S1 S2 S3∧∀k,P k→¬S1 k∧¬S2 k∧¬S3 k
theorem FpOut.of {P:Nat→Prop} {lo hi:Nat} {w:World} {b:Bd} {s:Sl3} (h:BoardFp lo hi w b s) (hp:∀k,P k→k<lo∨hi≤k):FpOut P lo hi w b s:=by
 obtain ⟨S1,S2,S3,q⟩:=h
 exact ⟨S1,S2,S3,q,fun k hk=>⟨fun x=>by have:=q.i1 k x;have:=hp k hk;omega,fun x=>by have:=q.i2 k x;have:=hp k hk;omega,fun x=>by have:=q.i3 k x;have:=hp k hk;omega⟩⟩
theorem FpOut.fp {P:Nat→Prop} {lo hi:Nat} {w:World} {b:Bd} {s:Sl3} (h:FpOut P lo hi w b s):BoardFp lo hi w b s:=by
 obtain ⟨S1,S2,S3,q,-⟩:=h
 exact ⟨S1,S2,S3,q⟩
theorem FpOut.keep {P:Nat→Prop} {lo hi:Nat} {w w':World} {b:Bd} {s:Sl3} (h:FpOut P lo hi w b s) (hk:∀k,k<w.heap.size→lo≤k→k<hi→¬P k→w'.heap[k]?=w.heap[k]?):FpOut P lo hi w' b s:=by
 obtain ⟨S1,S2,S3,q,n⟩:=h
 refine ⟨S1,S2,S3,q.keep fun i hi' hs=>?_,n⟩
 rcases hs with x|x|x
 ·exact hk i hi' (q.i1 i x).1 (q.i1 i x).2 fun p=>(n i p).1 x
 ·exact hk i hi' (q.i2 i x).1 (q.i2 i x).2 fun p=>(n i p).2.1 x
 ·exact hk i hi' (q.i3 i x).1 (q.i3 i x).2 fun p=>(n i p).2.2 x
theorem FpOut.same {P:Nat→Prop} {lo hi:Nat} {w w':World} {b:Bd} {s:Sl3} (h:FpOut P lo hi w b s) (hb:Below w.heap.size w w'):FpOut P lo hi w' b s:=h.keep fun k hk _ _ _=>hb.block k hk
end Go.Proofs.YtbnfdhidgdfbeaaGreat

namespace Go.Proofs.YtbnfdhidgdfbeaaGreat
set_option maxRecDepth 100000
open Go.RowKit

theorem keepS {W w':World} (h:Below W.heap.size W w'):Below W.heap.size W w'∧∀b o,b<W.heap.size→w'.cell? ⟨b,o,none⟩=W.cell? ⟨b,o,none⟩:=⟨h,(bcell h).1⟩
/-- The pointer p names a block with the board b, which lies apart from it; u is the value v. -/
def RunCut (W:World) (b:Bd) (v:Value) (p u:Value) (w':World):Prop:=∃(wx:World) (g:Nat) (R:Sl3) (lo hi:Nat),p = .pointer (some ⟨g,0,none⟩)∧u=v∧BkAt wx g b R∧W.heap.size≤g∧(g<lo∨hi≤g)∧W.heap.size≤lo∧hi≤wx.heap.size∧BoardFp lo hi wx b R∧Below W.heap.size W wx∧wx=w'
theorem RunCut.drew {W w1:World} {b:Bd} {v p u:Value} (h:RunCut W b v p u w1):RunCut W b v p u w1.drew:=by
 obtain ⟨wx,g,R,lo,hi,h1,h2,h3,h4,h5,h6,h7,h8,h9,rfl⟩:=h
 exact ⟨wx.drew,g,R,lo,hi,h1,h2,h3,h4,h5,h6,h7,h8.drewd,h9.drew,rfl⟩
theorem cutA {W w1:World} {b:Bd} {R:Sl3} {v:Value} {lo hi:Nat} (hB:Below W.heap.size W w1) (hF:BoardFp lo hi w1 b R) (hlo:W.heap.size≤lo) (hhi:hi≤w1.heap.size):RunCut W b v (.pointer (some ⟨w1.heap.size,0,none⟩)) v (w1.alloc (.cells (bdArr b R) 31)):=by
 have hb:=below_new (Below.refl w1.heap.size w1) (.cells (bdArr b R) 31)
 exact ⟨_,w1.heap.size,R,lo,hi,rfl,rfl,heap_new _ _,hB.size,.inr hhi,hlo,Nat.le_trans hhi hb.size,hF.below hb,below_new hB _,rfl⟩
theorem cutB {W w0 w1:World} {b b0:Bd} {R R0:Sl3} {v:Value} {g hi:Nat} (hz:BkAt w0 g b0 R0) (hb:Below w0.heap.size w0 w1) (hF:BoardFp w0.heap.size hi w1 b R) (hB:Below W.heap.size W w1) (hg:W.heap.size≤g) (hhi:hi≤w1.heap.size) (h0:W.heap.size≤w0.heap.size) :
  RunCut W b v (.pointer (some ⟨g,0,none⟩)) v (put12 w1 g b R):=by
 have hgl:=heap_lt0 hz
 obtain ⟨h1,h2,h3,h4⟩:=fin12 (WF:=put12 w1 g b R) rfl (hz.tr hb) hB hg
 exact ⟨_,g,R,w0.heap.size,hi,rfl,rfl,h1,hg,.inl hgl,h0,Nat.le_trans hhi h2,hF.chg h4 (.inr (by omega)),h3,rfl⟩
theorem Below.put12 {a w:World} {lo g:Nat} {b:Bd} {s:Sl3} (h:Below lo a w) (hg:lo≤g):Below lo a (Go.Proofs.YtbnfdhidgdfbeaaGreat.put12 w g b s):=by
 repeat (first|with_reducible exact h|with_reducible refine Below.setCell ?_ (by exact hg) _)
end Go.Proofs.YtbnfdhidgdfbeaaGreat

namespace Go.Proofs.YtbnfdhidgdfbeaaGreat
set_option maxRecDepth 100000
open Go.RowKit

theorem FpOut.setState {P:Nat→Prop} {lo hi base hi2:Nat} {w:World} {b b':Bd} {s:Sl3} {A:Option Addr} {n c:Nat} (h:BoardFp lo hi w b s) (o:Own base w A n c b'.state) (l:Lies A base hi2) (hb:hi≤base) (hl:lo≤base) (hh:hi≤hi2) (e1:b'.frames=b.frames) (e3:b'.saved=b.saved)
  (hP:∀k,P k→(k<lo∨hi≤k)∧(k<base∨hi2≤k)):FpOut P lo hi2 w b' ⟨s.A1,s.n1,s.c1,A,n,c,s.A3,s.n3,s.c3⟩:=by
 obtain ⟨S1,S2,S3,k⟩:=h
 have j1:=k.i1
 have j3:=k.i3
 refine ⟨S1,fun i=>base≤i∧i<hi2,S3,⟨by rw [e1];exact k.frames.widen (Nat.le_refl _) hh,k.f1,o.more hl,l,by rw [e3];exact k.saved.widen (Nat.le_refl _) hh,k.f3,
  fun i x y=>by have:=j1 i x;omega,k.d13,fun i x y=>by have:=j3 i y;omega,fun i x=>by have:=j1 i x;omega,fun i x=>by omega,fun i x=>by have:=j3 i x;omega⟩,fun i hi=>?_⟩
 have hp:=hP i hi
 exact ⟨fun x=>by have:=j1 i x;omega,fun x=>by omega,fun x=>by have:=j3 i x;omega⟩
theorem FpOut.chg1 {P:Nat→Prop} {lo hi g:Nat} {w w':World} {b:Bd} {s:Sl3} (h:FpOut P lo hi w b s) (hc:Chg g (g+1) w w') (hg:P g):FpOut P lo hi w' b s :=
 h.keep fun k hk _ _ hn=>hc.block k hk (by
  rcases Nat.lt_trichotomy k g with h1|h1|h1
  ·exact .inl h1
  ·subst h1;exact absurd hg hn
  ·exact .inr h1)
theorem FpOut.rd {P:Nat→Prop} {lo hi:Nat} {w:World} {b:Bd} {s:Sl3} (h:FpOut P lo hi w b s):BoardRd w b s:=h.fp.rd
theorem Ints.chg1 {g n:Nat} {w w':World} {A:Option Addr} {xs:List Int} (h:Ints w A n xs) (hc:Chg g (g+1) w w') (hg:∀a,A=some a→a.block≠g):Ints w' A n xs:=by
 obtain ⟨h1,h2⟩:=h
 refine ⟨h1,fun hn=>?_⟩
 obtain ⟨b,o,rfl,hb,hcl⟩:=h2 hn
 have hne:=hg _ rfl
 have hblk:=hc.block b hb (by simp only at hne;omega)
 exact ⟨b,o,rfl,Nat.lt_of_lt_of_le hb hc.size,fun j hj=>(World.cell?_of_block (a:=⟨b,o+j,Option.none⟩) hblk).trans (hcl j hj)⟩
theorem cutC {W w1:World} {b:Bd} {R:Sl3} {v:Value} {hi:Nat} (hB:Below W.heap.size W w1) (hF:BoardFp (W.alloc (.cells z12 31)).drew.heap.size hi w1 b R) (hb:Below (W.alloc (.cells z12 31)).drew.heap.size (W.alloc (.cells z12 31)).drew w1) (hhi:hi≤w1.heap.size) :
  RunCut W b v (.pointer (some ⟨W.heap.size,0,none⟩)) v (put12 w1 W.heap.size b R) :=
 cutB (b0:=zBd) (R0:=zSl) (w0:=(W.alloc (.cells z12 31)).drew) (heap_new _ _) hb hF hB (Nat.le_refl _) hhi (by show _≤(World.alloc _ _).heap.size;simp)
/-- Two blocks. -/
def Two (g1 g2 k:Nat):Prop:=k=g1∨k=g2
end Go.Proofs.YtbnfdhidgdfbeaaGreat
