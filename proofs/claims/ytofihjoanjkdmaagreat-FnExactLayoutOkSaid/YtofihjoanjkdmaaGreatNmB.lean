/- Maps with numbers as keys. -/
import Derived.Maps.OwnOps
import Derived.Maps.OwnSet
import Derived.Test.YtofihjoanjkdmaaGreatBase
namespace Go.Proofs.YtofihjoanjkdmaaGreat
set_option maxRecDepth 100000
open Go.RowKit
def j4 (x:Int):Prop:=-9223372036854775808<=x/\x<=9223372036854775807
theorem zZ {x:Int} (h:j4 x):(Lit.int .i64 x).wf=true:=by
 unfold j4 at h
 unfold Lit.wf
 rw [Bool.and_eq_true]
 exact ⟨decide_eq_true h.1,decide_eq_true h.2⟩
theorem yI:Maps.Keyed Tryz.prog 3:=Maps.int_keyed Tryz.underlying3
theorem zI {x:Int} (h:j4 x):keyOf Tryz.prog 3 (.int .i64 x)=some (.int .i64 x):=Maps.keyOf_int_mk Tryz.underlying3 (zZ h)
end Go.Proofs.YtofihjoanjkdmaaGreat
