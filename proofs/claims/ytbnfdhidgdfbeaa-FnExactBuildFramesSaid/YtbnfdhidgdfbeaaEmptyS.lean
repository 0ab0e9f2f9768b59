/- The empty configuration of a tile, of the reference. -/
import Derived.Test.YtbnfdhidgdfbeaaEmpty
namespace Go.Proofs.Ytbnfdhidgdfbeaa
set_option maxRecDepth 100000
open Go.RowKit
end Go.Proofs.Ytbnfdhidgdfbeaa
