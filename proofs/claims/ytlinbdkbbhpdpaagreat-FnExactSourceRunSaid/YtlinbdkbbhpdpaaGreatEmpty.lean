/- Checksum: the program's and the reference's compute one number. The data of frames and their checksum: the program's and the reference's answers are one. Reading numbers out of words of bits: the program's reader and the reference's. The empty configuration of a tile: four new blocks. -/
import Derived.Deep.DeepCutAuto
import Derived.Test.YtlinbdkbbhpdpaaGreatBit
import Derived.Test.YtlinbdkbbhpdpaaGreatCopies
import Derived.Test.YtlinbdkbbhpdpaaGreatCw2
import Derived.Test.YtlinbdkbbhpdpaaGreatHar
import Derived.Test.YtlinbdkbbhpdpaaGreatTilePure
namespace Go.Proofs.YtlinbdkbbhpdpaaGreat
set_option maxRecDepth 100000
open Go.RowKit

end Go.Proofs.YtlinbdkbbhpdpaaGreat

namespace Go.Proofs.YtlinbdkbbhpdpaaGreat
set_option maxRecDepth 100000
open Go.RowKit

end Go.Proofs.YtlinbdkbbhpdpaaGreat

namespace Go.Proofs.YtlinbdkbbhpdpaaGreat
set_option maxRecDepth 100000
open Go.RowKit Cw

/-- A reader at block g, over the words ws, at bit p. -/
def Rdr (w:World) (g:Nat) (A:Option Addr) (n c:Nat) (p:Nat):Prop:=w.heap[g]?=some (.cells #[.slice A n c,.int .i64 p] 226 (0,0))

end Go.Proofs.YtlinbdkbbhpdpaaGreat

namespace Go.Proofs.YtlinbdkbbhpdpaaGreat
set_option maxRecDepth 100000
open Go.RowKit

end Go.Proofs.YtlinbdkbbhpdpaaGreat
