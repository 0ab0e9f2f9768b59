/- Checksum: the program's and the reference's compute one number. The data of frames and their checksum: the program's and the reference's answers are one. Reading numbers out of words of bits: the program's reader and the reference's. -/
import Derived.Test.YtbnfdhidgdfbeaaBit
import Derived.Test.YtbnfdhidgdfbeaaCopies
import Derived.Test.YtbnfdhidgdfbeaaCw2
import Derived.Test.YtbnfdhidgdfbeaaHar
import Derived.Test.YtbnfdhidgdfbeaaTilePure
namespace Go.Proofs.Ytbnfdhidgdfbeaa
set_option maxRecDepth 100000
open Go.RowKit

end Go.Proofs.Ytbnfdhidgdfbeaa

namespace Go.Proofs.Ytbnfdhidgdfbeaa
set_option maxRecDepth 100000
open Go.RowKit

def InCode (f:List Int):Prop:=∀j,j<f.length→0≤f[j]?.getD 0∧f[j]?.getD 0≤4194303
theorem wordsOk_in {f:List Int} {count:Int} (h:wordsOk f count 4194303=true):InCode f∧(f.length:Int)=count:=by
 simp only [wordsOk,Bool.and_eq_true,decide_eq_true_eq] at h
 exact ⟨fun j hj=>allIn_get h.2 hj,h.1⟩
theorem frames_in {d:Dev} {fs:List (List Int)} (h:framesOk d fs=true) {j:Nat} (hj:j<fs.length):InCode (fs[j]?.getD [])∧((fs[j]?.getD []).length:Int)=fwI d:=wordsOk_in ((framesOk_iff h).2.2 j hj)


end Go.Proofs.Ytbnfdhidgdfbeaa

namespace Go.Proofs.Ytbnfdhidgdfbeaa
set_option maxRecDepth 100000
open Go.RowKit Cw

/-- A reader at block g, over the words ws, at bit p. -/
def Rdr (w:World) (g:Nat) (A:Option Addr) (n c:Nat) (p:Nat):Prop:=w.heap[g]?=some (.cells #[.slice A n c,.int .i64 p] 137 (0,0))

end Go.Proofs.Ytbnfdhidgdfbeaa
