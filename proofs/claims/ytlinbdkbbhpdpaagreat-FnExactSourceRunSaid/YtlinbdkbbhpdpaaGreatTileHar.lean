/- append of several integers to a row of the call's own. The laws' helpers on tiles: comparing, marking, held marks. -/
import Derived.Test.YtlinbdkbbhpdpaaGreatCopy
import Derived.Test.YtlinbdkbbhpdpaaGreatOwn
import Derived.Test.YtlinbdkbbhpdpaaGreatRow2W
namespace Go.Proofs.YtlinbdkbbhpdpaaGreat
set_option maxRecDepth 100000
open Go.RowKit

end Go.Proofs.YtlinbdkbbhpdpaaGreat

namespace Go.Proofs.YtlinbdkbbhpdpaaGreat
set_option maxRecDepth 100000
open Go.RowKit

/-! ### what the call owns, element by element -/
end Go.Proofs.YtlinbdkbbhpdpaaGreat
