/- FramesOk of the program and of the reference: one answer. copyLists, l19Copy, FlipBit, FlipFrame: the program's and the reference's answers are one. -/
import Derived.Test.YtlinbdkbbhpdpaaGreatCopy
import Derived.Test.YtlinbdkbbhpdpaaGreatFrame
namespace Go.Proofs.YtlinbdkbbhpdpaaGreat
set_option maxRecDepth 100000
open Go.RowKit

end Go.Proofs.YtlinbdkbbhpdpaaGreat

namespace Go.Proofs.YtlinbdkbbhpdpaaGreat
set_option maxRecDepth 100000
open Go.RowKit

set_option maxHeartbeats 400000 in
theorem copyInts_any (B:Option Addr) (m d:Nat) (ys:List Int) (w:World) (h:Ints w B m ys) (hm:m≤1099511627776) :
  Calls Tryz.prog 144 #[.slice B m d] w fun e w'=>∃A c,e = .returned (.slice A m c)∧Own w.heap.size w' A m c ys∧Below w.heap.size w w':=by
 have HI:=Lib.hid h
 clear h
 go_enter Tryz.func144,Tryz.ntmps144
 go_wp2_with (at_builtin;refine wpList_append_ints rfl _ _ rfl w.heap.size (some ⟨w.heap.size,0,none⟩) 0 0 [] rfl (Own.newAt (w:=w) rfl (Nat.le_refl _)) B m d ys rfl (HI.out.below (below_new (Below.refl _ _) _)) (by omega) (by simp) (below_new (Below.refl _ _) _) ?_;rintro A' c' w1 o1 b1 g1)
 have e0:0+m=m:=Nat.zero_add _
 go_ret
 exact ⟨A',c',by simp,by simpa using o1,b1⟩

theorem Own2.widen {lo hi lo' hi':Nat} {w:World} {A:Option Addr} {n c:Nat} {xss:List (List Int)} (h:Own2 lo hi w A n c xss) (h1:lo'≤lo) (h2:hi≤hi'):Own2 lo' hi' w A n c xss:=by
 obtain ⟨vs,k1,k2,k3⟩:=h
 refine ⟨vs,⟨k1.1,?_⟩,fun a ha=>Nat.lt_of_lt_of_le (k2 a ha) h2,(k3.widen h2).lower h1⟩
 rcases k1.2 with h0|⟨g,cap,cur,hv,hg,r⟩
 ·exact .inl h0
 ·exact .inr ⟨g,cap,cur,hv,Nat.le_trans h1 hg,r⟩
end Go.Proofs.YtlinbdkbbhpdpaaGreat
