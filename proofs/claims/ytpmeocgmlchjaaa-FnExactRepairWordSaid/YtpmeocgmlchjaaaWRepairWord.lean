/- The walk of the law FnExactRepairWord (printed by gen.py). -/
import Derived.Test.YtpmeocgmlchjaaaCw2
import Derived.Test.YtpmeocgmlchjaaaOpen
namespace Go.Proofs.Ytpmeocgmlchjaaa
open Go.RowKit
set_option maxHeartbeats 400000 in
theorem law_repairWord (a0 : Int) (w : World) (_hw0 : Wf a0) :
    Calls Try.prog 13 #[.int .i64 a0] w fun e w' => e = .returned (.bool true) ∧ Below w.heap.size w w' := by
  go_enter Try.func13, Try.ntmps13
  have hB : Below w.heap.size w w := Below.refl _ _
  go_wp2_with fail
  refine (srepairWord_any a0 _ ).mono ?_
  rintro e w1 ⟨rfl, b1⟩
  have s1 : w.heap.size ≤ w1.heap.size := b1.size
  replace hB := below_tr hB b1
  go_wp2_with fail
  refine (repairWord_any a0 _ ).mono ?_
  rintro e w2 ⟨rfl, b2⟩
  have s2 : w1.heap.size ≤ w2.heap.size := b2.size
  replace hB := below_tr hB b2
  go_wp2_with fail
  go_ret
  exact ⟨rfl, hB⟩
end Go.Proofs.Ytpmeocgmlchjaaa
