/- Codewords: the walks of the program's and the reference's functions. -/
import Derived.Test.YtofihjoanjkdmaaGreatBit
import Derived.Test.YtofihjoanjkdmaaGreatCwPure
import Derived.Test.YtofihjoanjkdmaaGreatHar
namespace Go.Proofs.YtofihjoanjkdmaaGreat
set_option maxRecDepth 100000
open Go.RowKit Cw
/-! ### counting ones -/
/-! ### encoding -/
/-! ### repairing -/
end Go.Proofs.YtofihjoanjkdmaaGreat
