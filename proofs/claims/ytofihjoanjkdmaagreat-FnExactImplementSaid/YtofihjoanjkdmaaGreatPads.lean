/- Bit operations of int on numbers that are not below 0; plain lemmas. -/
import Derived.Laws.BitsAllLaws
import Derived.Laws.BitsLemmas
import Derived.Test.YtofihjoanjkdmaaGreatHar
namespace Go.Proofs.YtofihjoanjkdmaaGreat
set_option maxHeartbeats 400000
set_option maxRecDepth 100000
open Go.RowKit
def bQ(d:Dev):Bool:=inR d.W 3 6 && (inR d.H 3 6 && (inR d.T 1 4 && (decide (d.R=-1) || inR d.R 1 (d.W-2))))
theorem ak{d:Dev}(h:bQ d=true):3<=d.W/\d.W<=6/\3<=d.H/\d.H<=6/\1<=d.T/\d.T<=4/\-1<=d.R/\d.R<=d.W-2:=by
 simp only[bQ,Bool.and_eq_true,Bool.or_eq_true,aR,decide_eq_true_eq]at h;omega
theorem eG(d:Dev)(w:World) :
  Calls Tryz.prog 92 #[.agg (dv d)] w fun e w'=>e=.returned (.bool (bQ d))/\Below w.heap.size w w':=by
 by_cases g:inR d.W 3 6=true
 ·have hb:=aR.1 g;go_enter Tryz.func92,Tryz.ntmps92
  go_wp2_with (first|(go_at_call 93;refine(aM _ _ _ _).mono ?_;rintro e w' ⟨rfl,rfl⟩))
  all_goals(go_ret;exact⟨by simp[bQ, *],aB (Below.refl _ _) _⟩)
 go_enter Tryz.func92,Tryz.ntmps92
 go_wp2_with (first|(go_at_call 93;refine(aM _ _ _ _).mono ?_;rintro e w' ⟨rfl,rfl⟩))
 all_goals(go_ret;exact⟨by simp[bQ, *],aB (Below.refl _ _) _⟩)
theorem dw(d:Dev)(w:World) :
  Calls Tryz.prog 82 #[.agg (dv d)] w fun e w'=>e=.returned (.bool (bQ d))/\Below w.heap.size w w':=by
 by_cases g:inR d.W 3 6=true
 ·have hb:=aR.1 g;go_enter Tryz.func82,Tryz.ntmps82
  go_wp2_with (first|(go_at_call 83;refine(bV _ _ _ _).mono ?_;rintro e w' ⟨rfl,rfl⟩))
  all_goals(go_ret;exact⟨by simp[bQ, *],aB (Below.refl _ _) _⟩)
 go_enter Tryz.func82,Tryz.ntmps82
 go_wp2_with (first|(go_at_call 83;refine(bV _ _ _ _).mono ?_;rintro e w' ⟨rfl,rfl⟩))
 all_goals(go_ret;exact⟨by simp[bQ, *],aB (Below.refl _ _) _⟩)
def pW(d:Dev):Nat:=(d.W*d.H).toNat
theorem jQ{d:Dev}(h:bQ d=true):d.W*d.H=(pW d:Int)/\9<=pW d/\pW d<=36:=by
 obtain⟨h1,h2,h3,g,_⟩:=ak h
 have a:9<=d.W*d.H:=by
  have:=Int.mul_le_mul h1 h3 (by omega) (by omega);omega
 have b:d.W*d.H<=36:=by
  have:=Int.mul_le_mul h2 g (by omega) (by omega);omega
 unfold pW;omega
end Go.Proofs.YtofihjoanjkdmaaGreat
