/- Bit operations of int on numbers that are not below 0; plain lemmas. -/
import Derived.Laws.BitsAllLaws
import Derived.Laws.BitsLemmas
import Derived.Test.YtofihjoanjkdmaaGreatBase
namespace Go.Proofs.YtofihjoanjkdmaaGreat
set_option maxRecDepth 100000
open Go.RowKit
end Go.Proofs.YtofihjoanjkdmaaGreat
