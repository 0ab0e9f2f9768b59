/- A truth value as a number. -/
import Derived.Test.YtbnfdhidgdfbeaaBase
namespace Go.Proofs.Ytbnfdhidgdfbeaa
set_option maxRecDepth 100000
open Go.RowKit
end Go.Proofs.Ytbnfdhidgdfbeaa
