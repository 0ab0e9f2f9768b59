/- Codewords: the walks of the program's and the reference's functions. Codewords: decoding, repairing, distances. -/
import Derived.Test.YtlinbdkbbhpdpaaGreatBit
import Derived.Test.YtlinbdkbbhpdpaaGreatCwPure
import Derived.Test.YtlinbdkbbhpdpaaGreatHar
namespace Go.Proofs.YtlinbdkbbhpdpaaGreat
set_option maxRecDepth 100000
open Go.RowKit Cw

/-! ### counting ones -/
/-! ### encoding -/
end Go.Proofs.YtlinbdkbbhpdpaaGreat

namespace Go.Proofs.YtlinbdkbbhpdpaaGreat
set_option maxRecDepth 100000
open Go.RowKit Cw

/-! ### repairing -/
end Go.Proofs.YtlinbdkbbhpdpaaGreat
