/- The sources of a routing node: the program's functions. -/
import Derived.Test.YtbnfdhidgdfbeaaEmpty
import Derived.Test.YtbnfdhidgdfbeaaRt3
import Derived.Test.YtbnfdhidgdfbeaaRt4
namespace Go.Proofs.Ytbnfdhidgdfbeaa
set_option maxRecDepth 100000
open Go.RowKit

end Go.Proofs.Ytbnfdhidgdfbeaa
