/- A truth value as a number. -/
import Derived.Test.YtndfaaebflhggaaBase
namespace Go.Proofs.Ytndfaaebflhggaa
set_option maxRecDepth 100000
open Go.RowKit
end Go.Proofs.Ytndfaaebflhggaa
