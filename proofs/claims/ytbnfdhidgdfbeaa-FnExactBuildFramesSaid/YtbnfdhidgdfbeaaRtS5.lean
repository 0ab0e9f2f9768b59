/- The sources of a wire: the reference's function. -/
import Derived.Test.YtbnfdhidgdfbeaaRtS4
namespace Go.Proofs.Ytbnfdhidgdfbeaa
set_option maxRecDepth 100000
open Go.RowKit
end Go.Proofs.Ytbnfdhidgdfbeaa
