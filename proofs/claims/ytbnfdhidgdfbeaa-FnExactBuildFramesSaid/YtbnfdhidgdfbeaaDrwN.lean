/- The selected source of a routing node: the reference's functions. The reference's draw of a device: what it answers is a device. Drawing a valid configuration of a tile, of the reference. -/
import Derived.Test.YtbnfdhidgdfbeaaDecoS
import Derived.Test.YtbnfdhidgdfbeaaDrawC
import Derived.Test.YtbnfdhidgdfbeaaDrvP
import Derived.Test.YtbnfdhidgdfbeaaEncT
import Derived.Test.YtbnfdhidgdfbeaaPads
import Derived.Test.YtbnfdhidgdfbeaaRtS5
namespace Go.Proofs.Ytbnfdhidgdfbeaa
set_option maxRecDepth 100000
open Go.RowKit

end Go.Proofs.Ytbnfdhidgdfbeaa

namespace Go.Proofs.Ytbnfdhidgdfbeaa
set_option maxRecDepth 100000
open Go.RowKit

end Go.Proofs.Ytbnfdhidgdfbeaa

namespace Go.Proofs.Ytbnfdhidgdfbeaa
set_option maxRecDepth 100000
open Go.RowKit

/-! ### a tile's node -/
end Go.Proofs.Ytbnfdhidgdfbeaa
