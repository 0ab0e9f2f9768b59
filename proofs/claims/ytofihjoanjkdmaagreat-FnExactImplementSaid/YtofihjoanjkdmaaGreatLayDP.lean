/- The way from the root of a route, the delay of a routing node; PathTo and nodeDelay of the program (printed by mkway.py). -/
import Derived.Test.YtofihjoanjkdmaaGreatLayG5
namespace Go.Proofs.YtofihjoanjkdmaaGreat
set_option maxRecDepth 100000
open Go.RowKit
def way(r:Rou):Nat→Nat→List Int
 | 0,_=>[r.nodes[0]?.getD 0]
 | n+1,k=>if k=0 then[r.nodes[0]?.getD 0]else way r n (r.from_[k]?.getD 0).toNat++[r.nodes[k]?.getD 0]
def OV(r:Rou)(g:Nat):Prop:=∀i:Nat,0<i→i<g→0<=r.from_[i]?.getD 0/\r.from_[i]?.getD 0<(i:Int)
theorem OV.of{d:Dev}{src:Int}{ks:List Int}{r:Rou}(h:IW d src ks r):OV r r.nodes.length:=fun i h0 hi=>(h.step i h0 hi).1
end Go.Proofs.YtofihjoanjkdmaaGreat
