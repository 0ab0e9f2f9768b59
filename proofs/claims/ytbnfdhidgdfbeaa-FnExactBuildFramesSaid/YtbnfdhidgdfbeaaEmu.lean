/- The kinds of tiles and the states of a device: the program's answers and the reference's are one. -/
import Derived.Test.YtbnfdhidgdfbeaaPads
namespace Go.Proofs.Ytbnfdhidgdfbeaa
set_option maxRecDepth 100000
open Go.RowKit

def kindOf (d:Dev) (t:Int):Int :=
 if t % d.W=0∨t % d.W=d.W - 1∨t / d.W=0∨t / d.W=d.H - 1 then 0 else if t % d.W=d.R then 2 else 1
end Go.Proofs.Ytbnfdhidgdfbeaa
