/- FramesOk of the program and of the reference: one answer. -/
import Derived.Test.YtofihjoanjkdmaaGreatCopy
import Derived.Test.YtofihjoanjkdmaaGreatFrame
namespace Go.Proofs.YtofihjoanjkdmaaGreat
set_option maxHeartbeats 400000
set_option maxRecDepth 100000
open Go.RowKit
theorem tH (B:Option Addr) (m d:Nat) (ys:List Int) (w:World) (h:dA w B m ys) (hm:m<=1099511627776) :
  Calls Tryz.prog 186 #[.slice B m d] w fun e w'=>∃A c,e = .returned (.slice A m c)/\Own w.heap.size w' A m c ys/\Below w.heap.size w w':=by
 have HI:=Hd h
 clear h
 go_enter Tryz.func186,Tryz.ntmps186
 go_wp2_with (at_builtin;refine bX rfl _ _ rfl w.heap.size (some ⟨w.heap.size,0,none⟩) 0 0 [] rfl (Own.newAt (w:=w) rfl (Nat.le_refl _)) B m d ys rfl (HI.out.below (aF (Below.refl _ _) _)) (by omega) (by simp) (aF (Below.refl _ _) _) ?_;rintro A' c' w1 o1 b1 g1)
 have e0:0+m=m:=Nat.zero_add _
 go_ret
 exact ⟨A',c',by simp,by simpa using o1,b1⟩
theorem je.widen {lo hi lo' hi':Nat} {w:World} {A:Option Addr} {n c:Nat} {xss:List (List Int)} (h:je lo hi w A n c xss) (h1:lo'<=lo) (h2:hi<=hi'):je lo' hi' w A n c xss:=by
 obtain ⟨vs,k1,k2,k3⟩:=h
 refine ⟨vs,⟨k1.1,?_⟩,fun a ha=>Nat.lt_of_lt_of_le (k2 a ha) h2,(k3.widen h2).lower h1⟩
 rcases k1.2 with h0|⟨g,cap,cur,hv,hg,r⟩
 ·exact .inl h0
 ·exact .inr ⟨g,cap,cur,hv,Nat.le_trans h1 hg,r⟩
theorem je.new0 {w:World} {g:Nat} (hg:w.heap.size=g):je g (w.alloc (.cells #[] 26)).heap.size (w.alloc (.cells #[] 26)) (some ⟨g,0,none⟩) 0 0 []:=by
 subst hg
 exact ⟨[],⟨rfl,.inr ⟨w.heap.size,0,#[],rfl,Nat.le_refl _,aK _ _,Nat.le_refl _,Nat.zero_le _,rfl,rfl⟩⟩,by rintro a ⟨⟩;simp,ib.nil⟩
end Go.Proofs.YtofihjoanjkdmaaGreat
