/- Codewords: plain arithmetic; no program in sight. -/
import Derived.Laws.BitsAllLaws
namespace Go.Proofs.YtofihjoanjkdmaaGreat.Cw
def bit (x i:Nat):Nat:=x / 2 ^ i % 2
/-! ### check bits -/
end Go.Proofs.YtofihjoanjkdmaaGreat.Cw
