/- FramesOk of the program and of the reference: one answer. -/
import Derived.Test.YtofihjoanjkdmaaGreatCopy
import Derived.Test.YtofihjoanjkdmaaGreatFrame
namespace Go.Proofs.YtofihjoanjkdmaaGreat
set_option maxHeartbeats 400000
set_option maxRecDepth 100000
open Go.RowKit
theorem yH (B:Option Addr) (m d:Nat) (ys:List Int) (w:World) (h:dP w B m ys) (H:m<=1099511627776) :
  Calls Tryz.prog 186 #[.slice B m d] w fun e w'=>∃A c,e = .returned (.slice A m c)/\Own w.heap.size w' A m c ys/\Below w.heap.size w w':=by
 have u:=Hd h
 clear h
 go_enter Tryz.func186,Tryz.ntmps186
 go_wp2_with (at_builtin;refine dJ rfl _ _ rfl w.heap.size (some ⟨w.heap.size,0,none⟩) 0 0 [] rfl (Own.newAt (w:=w) rfl (Nat.le_refl _)) B m d ys rfl (u.out.below (aB (Below.refl _ _) _)) (by omega) (by simp) (aB (Below.refl _ _) _) ?_;rintro q g I j z G)
 have D:0+m=m:=Nat.zero_add _
 go_ret
 exact ⟨q,g,by simp,by simpa using j,z⟩
theorem lL.widen {lo hi u j:Nat} {w:World} {A:Option Addr} {n c:Nat} {q:List (List Int)} (h:lL lo hi w A n c q) (h1:u<=lo) (h2:hi<=j):lL u j w A n c q:=by
 obtain ⟨vs,B,D,I⟩:=h
 refine ⟨vs,⟨B.1,?_⟩,fun a G=>Nat.lt_of_lt_of_le (D a G) h2,(I.widen h2).lower h1⟩
 rcases B.2 with h0|⟨g,z,cur,H,hg,r⟩
 ·exact .inl h0
 exact .inr ⟨g,z,cur,H,Nat.le_trans h1 hg,r⟩
theorem lL.new0 {w:World} {g:Nat} (hg:w.heap.size=g):lL g (w.alloc (.cells #[] 26)).heap.size (w.alloc (.cells #[] 26)) (some ⟨g,0,none⟩) 0 0 []:=by
 subst hg
 exact ⟨[],⟨rfl,.inr ⟨w.heap.size,0,#[],rfl,Nat.le_refl _,aI _ _,Nat.le_refl _,Nat.zero_le _,rfl,rfl⟩⟩,by rintro a ⟨⟩;simp,jw.nil⟩
end Go.Proofs.YtofihjoanjkdmaaGreat
