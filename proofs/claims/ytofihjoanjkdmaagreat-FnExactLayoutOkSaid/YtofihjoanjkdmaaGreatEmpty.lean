/- Checksum: the program's and the reference's compute one number. -/
import Derived.Deep.DeepCutAuto
import Derived.Test.YtofihjoanjkdmaaGreatCopies
import Derived.Test.YtofihjoanjkdmaaGreatCw2
import Derived.Test.YtofihjoanjkdmaaGreatTilePure
namespace Go.Proofs.YtofihjoanjkdmaaGreat
set_option maxRecDepth 100000
open Go.RowKit
open Cw
end Go.Proofs.YtofihjoanjkdmaaGreat
