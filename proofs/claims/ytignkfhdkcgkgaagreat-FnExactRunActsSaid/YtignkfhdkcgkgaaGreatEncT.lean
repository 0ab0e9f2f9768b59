/- Writing tiles into words: bits put one behind the other: the reference. -/
import Derived.Test.YtignkfhdkcgkgaaGreatVal
namespace Go.Proofs.YtignkfhdkcgkgaaGreat
set_option maxRecDepth 100000
open Go.RowKit Cw
end Go.Proofs.YtignkfhdkcgkgaaGreat
