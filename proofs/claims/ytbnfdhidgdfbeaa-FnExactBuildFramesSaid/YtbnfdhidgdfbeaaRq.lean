/- The tiles of a region: the program's and the reference's are one list. RegionQuiet: whether nothing outside of a region is driven from it: the program's answer. -/
import Derived.Test.YtbnfdhidgdfbeaaEm
import Derived.Test.YtbnfdhidgdfbeaaPads
namespace Go.Proofs.Ytbnfdhidgdfbeaa
set_option maxRecDepth 100000
open Go.RowKit

end Go.Proofs.Ytbnfdhidgdfbeaa

namespace Go.Proofs.Ytbnfdhidgdfbeaa
set_option maxRecDepth 100000
open Go.RowKit

end Go.Proofs.Ytbnfdhidgdfbeaa
