/- EmuRun: the outputs of all cycles as lists; states stay valid. -/
import Derived.Test.YtignkfhdkcgkgaaGreatDrwF
import Derived.Test.YtignkfhdkcgkgaaGreatEsPure
namespace Go.Proofs.YtignkfhdkcgkgaaGreat
set_option maxRecDepth 100000
open Go.RowKit
theorem Own.keepS {base lo hi:Nat} {w w':World} {A:Option Addr} {n c:Nat} {xs:List Int} (h:Own base w A n c xs) (k:Chg lo hi w w') (hb:hi<=base):Own base w' A n c xs :=
 aa h fun a ha=>k.block _ (h.lt a ha).2 (by have:=(h.lt a ha).1;omega)
end Go.Proofs.YtignkfhdkcgkgaaGreat
