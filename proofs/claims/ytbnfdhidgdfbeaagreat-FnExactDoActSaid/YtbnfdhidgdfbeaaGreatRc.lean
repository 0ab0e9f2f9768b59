/- A law's run of an operation in a drawn region: the board that it leaves in a block, whichever order was drawn. -/
import Derived.Test.YtbnfdhidgdfbeaaGreatRn
namespace Go.Proofs.YtbnfdhidgdfbeaaGreat
set_option maxRecDepth 100000
open Go.RowKit

theorem cut_drew_set (w:World) (p:Addr) (v:Value):w.drew.setCell p v=(w.setCell p v).drew:=rfl
theorem cut_drew_alloc (w:World) (o:Obj):w.drew.alloc o=(w.alloc o).drew:=rfl
theorem keepS {W w':World} (h:Below W.heap.size W w'):Below W.heap.size W w'∧∀b o,b<W.heap.size→w'.cell? ⟨b,o,none⟩=W.cell? ⟨b,o,none⟩:=⟨h,(bcell h).1⟩
/-- The pointer p names a block with the board b, which lies apart from it; u is the value v. -/
def RunCut (W:World) (b:Bd) (v:Value) (p u:Value) (w':World):Prop:=∃(wx:World) (g:Nat) (R:Sl3) (lo hi:Nat),p = .pointer (some ⟨g,0,none⟩)∧u=v∧BkAt wx g b R∧W.heap.size≤g∧(g<lo∨hi≤g)∧W.heap.size≤lo∧hi≤wx.heap.size∧BoardFp lo hi wx b R∧Below W.heap.size W wx∧wx=w'
theorem RunCut.drew {W w1:World} {b:Bd} {v p u:Value} (h:RunCut W b v p u w1):RunCut W b v p u w1.drew:=by
 obtain ⟨wx,g,R,lo,hi,h1,h2,h3,h4,h5,h6,h7,h8,h9,rfl⟩:=h
 exact ⟨wx.drew,g,R,lo,hi,h1,h2,h3,h4,h5,h6,h7,h8.drewd,h9.drew,rfl⟩
theorem RunCut.drews {W w1:World} {b:Bd} {v p u:Value} (h:RunCut W b v p u w1):RunCut W b v p u w1.drew.drew:=h.drew.drew
theorem cutA {W w1:World} {b:Bd} {R:Sl3} {v:Value} {lo hi:Nat} (hB:Below W.heap.size W w1) (hF:BoardFp lo hi w1 b R) (hlo:W.heap.size≤lo) (hhi:hi≤w1.heap.size):RunCut W b v (.pointer (some ⟨w1.heap.size,0,none⟩)) v (w1.alloc (.cells (bdArr b R) 31)):=by
 have hb:=below_new (Below.refl w1.heap.size w1) (.cells (bdArr b R) 31)
 exact ⟨_,w1.heap.size,R,lo,hi,rfl,rfl,heap_new _ _,hB.size,.inr hhi,hlo,Nat.le_trans hhi hb.size,hF.below hb,below_new hB _,rfl⟩
theorem cutB {W w0 w1:World} {b b0:Bd} {R R0:Sl3} {v:Value} {g hi:Nat} (hz:BkAt w0 g b0 R0) (hb:Below w0.heap.size w0 w1) (hF:BoardFp w0.heap.size hi w1 b R) (hB:Below W.heap.size W w1) (hg:W.heap.size≤g) (hhi:hi≤w1.heap.size) (h0:W.heap.size≤w0.heap.size) :
  RunCut W b v (.pointer (some ⟨g,0,none⟩)) v (put12 w1 g b R):=by
 have hgl:=heap_lt0 hz
 obtain ⟨h1,h2,h3,h4⟩:=fin12 (WF:=put12 w1 g b R) rfl (hz.tr hb) hB hg
 exact ⟨_,g,R,w0.heap.size,hi,rfl,rfl,h1,hg,.inl hgl,h0,Nat.le_trans hhi h2,hF.chg h4 (.inr (by omega)),h3,rfl⟩
theorem Below.put12 {a w:World} {lo g:Nat} {b:Bd} {s:Sl3} (h:Below lo a w) (hg:lo≤g):Below lo a (Go.Proofs.YtbnfdhidgdfbeaaGreat.put12 w g b s):=by
 repeat (first|with_reducible exact h|with_reducible refine Below.setCell ?_ (by exact hg) _)
end Go.Proofs.YtbnfdhidgdfbeaaGreat
