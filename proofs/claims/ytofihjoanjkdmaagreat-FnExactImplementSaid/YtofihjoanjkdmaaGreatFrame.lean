/- Frames: which are valid: the program's answer and the reference's are one. -/
import Derived.Test.YtofihjoanjkdmaaGreatPads
import Derived.Test.YtofihjoanjkdmaaGreatRow2W
namespace Go.Proofs.YtofihjoanjkdmaaGreat
set_option maxRecDepth 100000
open Go.RowKit
end Go.Proofs.YtofihjoanjkdmaaGreat
