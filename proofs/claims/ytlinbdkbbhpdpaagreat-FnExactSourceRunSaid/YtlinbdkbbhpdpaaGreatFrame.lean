/- Devices and regions: which are valid, and what kind a tile has: the program's answers and the reference's are one. PadsFor: the program's and the reference's make one list. Frames: which are valid: the program's answer and the reference's are one. -/
import Derived.Test.YtlinbdkbbhpdpaaGreatBit
import Derived.Test.YtlinbdkbbhpdpaaGreatHar
import Derived.Test.YtlinbdkbbhpdpaaGreatRow2W
namespace Go.Proofs.YtlinbdkbbhpdpaaGreat
set_option maxRecDepth 100000
open Go.RowKit

end Go.Proofs.YtlinbdkbbhpdpaaGreat

namespace Go.Proofs.YtlinbdkbbhpdpaaGreat
set_option maxRecDepth 100000
open Go.RowKit

def tiles (d:Dev):Nat:=(d.W * d.H).toNat
end Go.Proofs.YtlinbdkbbhpdpaaGreat

namespace Go.Proofs.YtlinbdkbbhpdpaaGreat
set_option maxRecDepth 100000
open Go.RowKit

end Go.Proofs.YtlinbdkbbhpdpaaGreat
