/- Codewords: the walks of the program's and the reference's functions. -/
import Derived.Deep.DeepCutAuto
import Derived.Test.YtofihjoanjkdmaaGreatCopies
import Derived.Test.YtofihjoanjkdmaaGreatTilePure
namespace Go.Proofs.YtofihjoanjkdmaaGreat
set_option maxRecDepth 100000
open Go.RowKit Cw
/-! ### counting ones -/
/-! ### encoding -/
/-! ### repairing -/
end Go.Proofs.YtofihjoanjkdmaaGreat
