/- Codewords: plain arithmetic; no program in sight. -/
import Derived.Laws.BitsAllLaws
namespace Go.Proofs.Ytignkfhdkcgkgaa.Cw

/-- Is p a power of two (a check position)? -/
def isP (p:Nat):Bool:=p &&& (p - 1)==0
/-- How many of the positions 1 to i hold data. -/
def kTo:Nat→Nat
 | 0=>0
 | i+1=>kTo i+if isP (i+1) then 0 else 1
def bit (x i:Nat):Nat:=x / 2 ^ i % 2
def spreadTo (x:Nat):Nat→Nat
 | 0=>0
 | i+1=>spreadTo x i+if isP (i+1) then 0 else bit x (kTo i) * 2 ^ i
def gatherTo (c:Nat):Nat→Nat
 | 0=>0
 | i+1=>gatherTo c i+if isP (i+1) then 0 else bit c i * 2 ^ kTo i
def synTo (c:Nat):Nat→Nat
 | 0=>0
 | i+1=>if bit c i=1 then synTo c i ^^^ (i+1) else synTo c i
def chkTo (o s:Nat):Nat→Nat
 | 0=>o
 | j+1=>chkTo o s j ||| bit s j * 2 ^ (2 ^ j - 1)
def body (x:Nat):Nat:=chkTo (spreadTo x 21) (synTo (spreadTo x 21) 21) 5
def dataW (c:Nat):Nat:=gatherTo c 21
theorem bit_le (x i:Nat):bit x i≤1:=by unfold bit;omega
theorem add_pow_lt {x m b:Nat} (h:x<2 ^ m) (hb:b≤1):x+b * 2 ^ m<2 ^ (m+1):=by
 rw [Nat.pow_succ]
 rcases Nat.lt_or_ge 0 b with h0|h0
 ·obtain rfl:b=1:=by omega
  omega
 ·obtain rfl:b=0:=by omega
  omega
theorem kTo_le (i:Nat):kTo i≤i:=by
 induction i with
 | zero=>simp [kTo]
 | succ i ih=>unfold kTo;split <;> omega
theorem gatherTo_lt (c i:Nat):gatherTo c i<2 ^ kTo i:=by
 induction i with
 | zero=>simp [gatherTo,kTo]
 | succ i ih =>
  by_cases hp:isP (i+1)=true
  ·simpa [gatherTo,kTo,hp] using ih
  ·simp only [gatherTo,kTo,hp]
   exact add_pow_lt ih (bit_le _ _)
/-! ### check bits -/
end Go.Proofs.Ytignkfhdkcgkgaa.Cw
