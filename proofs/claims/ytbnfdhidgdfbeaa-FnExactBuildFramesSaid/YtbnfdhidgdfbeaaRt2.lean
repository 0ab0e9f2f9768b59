/- Routing nodes of the program: pins, wires, which nodes exist. Places of routing nodes; pins and wires as nodes; which nodes exist: the program's functions. -/
import Derived.Test.YtbnfdhidgdfbeaaRtPure
namespace Go.Proofs.Ytbnfdhidgdfbeaa
set_option maxRecDepth 100000
open Go.RowKit

end Go.Proofs.Ytbnfdhidgdfbeaa

namespace Go.Proofs.Ytbnfdhidgdfbeaa
set_option maxRecDepth 100000
open Go.RowKit

end Go.Proofs.Ytbnfdhidgdfbeaa
