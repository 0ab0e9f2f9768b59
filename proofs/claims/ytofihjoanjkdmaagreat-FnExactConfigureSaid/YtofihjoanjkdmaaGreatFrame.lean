/- Frames: which are valid: the program's answer and the reference's are one. -/
import Derived.Test.YtofihjoanjkdmaaGreatPads
import Derived.Test.YtofihjoanjkdmaaGreatRow2W
namespace Go.Proofs.YtofihjoanjkdmaaGreat
set_option maxHeartbeats 400000
set_option maxRecDepth 100000
open Go.RowKit
def fwI (d:Dev):Int:=(5 * (5+4 * d.T)+67+15) / 16
theorem yQ (d:Dev) (w:World) (h1:1<=d.T) (h2:d.T<=4) :
  Calls Tryz.prog 147 #[.agg (dv d)] w fun e w'=>e = .returned (.int .i64 (5+4 * d.T))/\Below w.heap.size w w':=by
 go_enter Tryz.func147,Tryz.ntmps147
 go_wp2_with fail
 go_ret
 exact ⟨rfl,aB (Below.refl _ _) _⟩
theorem wN (d:Dev) (w:World) (q:dR d=true) :
  Calls Tryz.prog 145 #[.agg (dv d)] w fun e w'=>e = .returned (.int .i64 (5+4 * d.T))/\Below w.heap.size w w':=by
 have u:=ay q
 go_enter Tryz.func145,Tryz.ntmps145
 go_wp2_with fail
 refine (fw d _).mono ?_
 rintro e z ⟨rfl,g⟩
 obtain ⟨hcc,j⟩:=bG g
 go_wp2_with fail
 go_ret
 exact ⟨rfl,aA (aB (Below.refl _ _) _) g⟩
end Go.Proofs.YtofihjoanjkdmaaGreat
