/- Sorting by insertion: the reference's l27Sort. The sources of a routing node: the reference's function. -/
import Derived.Test.YtbnfdhidgdfbeaaEmpty
import Derived.Test.YtbnfdhidgdfbeaaRt4
import Derived.Test.YtbnfdhidgdfbeaaRtS2
namespace Go.Proofs.Ytbnfdhidgdfbeaa
set_option maxRecDepth 100000
open Go.RowKit

end Go.Proofs.Ytbnfdhidgdfbeaa

namespace Go.Proofs.Ytbnfdhidgdfbeaa
set_option maxRecDepth 100000
open Go.RowKit

end Go.Proofs.Ytbnfdhidgdfbeaa
