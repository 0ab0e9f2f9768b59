/- FramesOk of the program and of the reference: one answer. -/
import Derived.Test.YtofihjoanjkdmaaGreatCopy
import Derived.Test.YtofihjoanjkdmaaGreatFrame
namespace Go.Proofs.YtofihjoanjkdmaaGreat
set_option maxHeartbeats 400000
set_option maxRecDepth 100000
open Go.RowKit
theorem gV(B:Oh)(m d:Nat)(ys:List Int)(w:World)(h:bT w B m ys)(hm:m<=1099511627776) :
  Calls Tryz.prog 186 #[.slice B m d] w fun e w'=>∃A c,e=.returned (.slice A m c)/\Own w.heap.size w' A m c ys/\Below w.heap.size w w':=by
 have z:=Hd h;clear h;go_enter Tryz.func186,Tryz.ntmps186
 go_wp2_with (at_builtin;refine dY rfl _ _ rfl w.heap.size (some ⟨w.heap.size,0,none⟩) 0 0 [] rfl (Own.newAt (w:=w) rfl (Nat.le_refl _)) B m d ys rfl (z.1.below (aB (Below.refl _ _) _)) (by omega) (by simp) (aB (Below.refl _ _) _) ?_;rintro q j H g u G)
 have D:0+m=m:=Nat.zero_add _;go_ret;exact⟨q,j,by simp,by simpa using g,u⟩
theorem mJ.widen{lo hi u q:Nat}{w:World}{A:Oh}{n c:Nat}{j:List (List Int)}(h:mJ lo hi w A n c j)(h1:u<=lo)(h2:hi<=q):mJ u q w A n c j:=by
 obtain⟨vs,k1,k2,k3⟩:=h;refine⟨vs,⟨k1.1,?_⟩,fun a z=>Nat.lt_of_lt_of_le (k2 a z) h2,(k3.widen h2).lower h1⟩
 rcases k1.2 with h0|⟨g,cap,cur,B,hg,r⟩
 ·exact .inl h0
 exact .inr ⟨g,cap,cur,B,Nat.le_trans h1 hg,r⟩
theorem mJ.new0{w:World}{g:Nat}(hg:w.heap.size=g):mJ g (w.alloc (.cells #[] 26)).heap.size (w.alloc (.cells #[] 26)) (some ⟨g,0,none⟩) 0 0 []:=by
 subst hg;exact⟨[],⟨rfl,.inr ⟨w.heap.size,0,#[],rfl,Nat.le_refl _,aG _ _,Nat.le_refl _,Nat.zero_le _,rfl,rfl⟩⟩,by rintro a ⟨⟩;simp,kC.nil⟩
end Go.Proofs.YtofihjoanjkdmaaGreat
