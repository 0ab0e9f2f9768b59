/- BuildFrames of the reference for valid tiles: the frames, which are valid. -/
import Derived.Test.YtignkfhdkcgkgaaGreatDrwT
namespace Go.Proofs.YtignkfhdkcgkgaaGreat
set_option maxRecDepth 100000
open Go.RowKit Cw
end Go.Proofs.YtignkfhdkcgkgaaGreat
