/- Routing nodes of the reference: pins, wires, which nodes exist. Pins and wires as nodes, which nodes exist: the reference's functions. -/
import Derived.Test.YtbnfdhidgdfbeaaRt5
namespace Go.Proofs.Ytbnfdhidgdfbeaa
set_option maxRecDepth 100000
open Go.RowKit

end Go.Proofs.Ytbnfdhidgdfbeaa

namespace Go.Proofs.Ytbnfdhidgdfbeaa
set_option maxRecDepth 100000
open Go.RowKit

end Go.Proofs.Ytbnfdhidgdfbeaa
