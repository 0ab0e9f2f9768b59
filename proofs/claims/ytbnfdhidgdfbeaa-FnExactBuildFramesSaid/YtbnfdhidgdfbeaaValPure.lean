/- The values of a device's nodes in plain terms: sweeps over the nodes until nothing changes. Plain lemmas. -/
import Derived.Test.YtbnfdhidgdfbeaaRq
namespace Go.Proofs.Ytbnfdhidgdfbeaa
set_option maxRecDepth 100000
open Go.RowKit Cw

/-! ### which nodes are determined does not depend on the state or the pads -/
end Go.Proofs.Ytbnfdhidgdfbeaa
