/- FramesOk of the program and of the reference: one answer. -/
import Derived.Test.YtofihjoanjkdmaaGreatCopy
import Derived.Test.YtofihjoanjkdmaaGreatFrame
namespace Go.Proofs.YtofihjoanjkdmaaGreat
set_option maxHeartbeats 400000
set_option maxRecDepth 100000
open Go.RowKit
theorem yL (B:Option Addr) (m d:Nat) (ys:List Int) (w:World) (h:dE w B m ys) (I:m<=1099511627776) :
  Calls Tryz.prog 186 #[.slice B m d] w fun e w'=>∃A c,e = .returned (.slice A m c)/\Own w.heap.size w' A m c ys/\Below w.heap.size w w':=by
 have u:=Hd h
 clear h
 go_enter Tryz.func186,Tryz.ntmps186
 go_wp2_with (at_builtin;refine dJ rfl _ _ rfl w.heap.size (some ⟨w.heap.size,0,none⟩) 0 0 [] rfl (Own.newAt (w:=w) rfl (Nat.le_refl _)) B m d ys rfl (u.out.below (aD (Below.refl _ _) _)) (by omega) (by simp) (aD (Below.refl _ _) _) ?_;rintro j z G g q H)
 have D:0+m=m:=Nat.zero_add _
 go_ret
 exact ⟨j,z,by simp,by simpa using g,q⟩
theorem lG.widen {lo hi q j:Nat} {w:World} {A:Option Addr} {n c:Nat} {u:List (List Int)} (h:lG lo hi w A n c u) (h1:q<=lo) (h2:hi<=j):lG q j w A n c u:=by
 obtain ⟨vs,B,I,H⟩:=h
 refine ⟨vs,⟨B.1,?_⟩,fun a G=>Nat.lt_of_lt_of_le (I a G) h2,(H.widen h2).lower h1⟩
 rcases B.2 with h0|⟨g,z,cur,D,hg,r⟩
 ·exact .inl h0
 exact .inr ⟨g,z,cur,D,Nat.le_trans h1 hg,r⟩
theorem lG.new0 {w:World} {g:Nat} (hg:w.heap.size=g):lG g (w.alloc (.cells #[] 26)).heap.size (w.alloc (.cells #[] 26)) (some ⟨g,0,none⟩) 0 0 []:=by
 subst hg
 exact ⟨[],⟨rfl,.inr ⟨w.heap.size,0,#[],rfl,Nat.le_refl _,aI _ _,Nat.le_refl _,Nat.zero_le _,rfl,rfl⟩⟩,by rintro a ⟨⟩;simp,jq.nil⟩
end Go.Proofs.YtofihjoanjkdmaaGreat
