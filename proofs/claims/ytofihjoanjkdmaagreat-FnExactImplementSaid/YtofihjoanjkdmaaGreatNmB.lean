/- Maps with numbers as keys. -/
import Derived.Maps.OwnOps
import Derived.Maps.OwnSet
import Derived.Test.YtofihjoanjkdmaaGreatBase
namespace Go.Proofs.YtofihjoanjkdmaaGreat
set_option maxRecDepth 100000
open Go.RowKit
def vw(x:Int):Prop:=-9223372036854775808<=x/\x<=9223372036854775807
theorem Oe{x:Int}(h:vw x):(Lit.int .i64 x).wf=true:=by
 unfold vw at h;unfold Lit.wf;rw[Bool.and_eq_true];exact⟨decide_eq_true h.1,decide_eq_true h.2⟩
theorem La:Maps.Keyed Tryz.prog 3:=Maps.int_keyed Tryz.underlying3
theorem Nn{x:Int}(h:vw x):keyOf Tryz.prog 3 (.int .i64 x)=some (.int .i64 x):=Maps.keyOf_int_mk Tryz.underlying3 (Oe h)
end Go.Proofs.YtofihjoanjkdmaaGreat
