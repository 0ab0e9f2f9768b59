/- append of several integers to a row of the call's own. -/
import Derived.Test.YtofihjoanjkdmaaGreatCopy
import Derived.Test.YtofihjoanjkdmaaGreatOwn
namespace Go.Proofs.YtofihjoanjkdmaaGreat
set_option maxRecDepth 100000
open Go.RowKit
/-! ### what the call owns, element by element -/
end Go.Proofs.YtofihjoanjkdmaaGreat
