/- How long frames are. -/
import Derived.Test.YtbnfdhidgdfbeaaDec
import Derived.Test.YtbnfdhidgdfbeaaRead
namespace Go.Proofs.Ytbnfdhidgdfbeaa
set_option maxRecDepth 100000
open Go.RowKit

theorem size2_le_of {xss:List (List Int)} {M:Nat} (h:∀j,j<xss.length→(xss[j]?.getD []).length≤M):size2 xss≤xss.length * (M+1)∧sizeTo xss xss.length≤xss.length * M:=by
 have key:∀k,k≤xss.length→sizeTo xss k≤k * M:=by
  intro k hk
  induction k with
  | zero=>exact Nat.zero_le _
  | succ k ih =>
   have hl:=h k (by omega)
   rw [sizeTo,Nat.succ_mul]
   have:=ih (by omega)
   omega
 have:=key xss.length (Nat.le_refl _)
 refine ⟨?_,this⟩
 unfold size2
 rw [Nat.mul_succ]
 omega
theorem rows_le {fs:List (List Int)} (h:∀j,j<fs.length→(fs[j]?.getD []).length≤11) (hn:fs.length≤36):size2 fs≤432:=by
 have h1:=(size2_le_of h).1
 have h3:fs.length * (11+1)≤36 * 12:=Nat.mul_le_mul_right _ hn
 omega
theorem frame_len {d:Dev} {fs:List (List Int)} (hf:framesOk d fs=true) (j:Nat):(fs[j]?.getD []).length≤11:=by
 rcases Nat.lt_or_ge j fs.length with hj|hj
 ·have h1:=(frames_in hf hj).2
  have h2:=fwI_bd (framesOk_iff hf).1
  omega
 ·rw [List.getElem?_eq_none hj];simp

end Go.Proofs.Ytbnfdhidgdfbeaa
