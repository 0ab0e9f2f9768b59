/- The selected source of a routing node: in plain terms, and the program's DriverOf. Drivers of all nodes in plain terms. -/
import Derived.Test.YtbnfdhidgdfbeaaRt3
import Derived.Test.YtbnfdhidgdfbeaaRt5
import Derived.Test.YtbnfdhidgdfbeaaStart
namespace Go.Proofs.Ytbnfdhidgdfbeaa
set_option maxRecDepth 100000
open Go.RowKit

def selK (d:Dev) (n:Int):Int:=if n % perT d≥7 then n % perT d - 2 else n % perT d
def tileAt (ts:List Tile) (q:Int):Tile:=ts[q.toNat]?.getD Tile.zero
def selOf (d:Dev) (ts:List Tile) (n:Int):Int:=(tileAt ts (n / perT d)).mux[(selK d n).toNat]?.getD 0
def drvSel (s:Int) (src:List Int):Int:=if s=0∨s>(src.length:Int) then -1 else src[(s - 1).toNat]?.getD 0
def drvOf (d:Dev) (ts:List Tile) (n:Int):Int:=if nodeOk d n=true∧¬(n % perT d=5∨n % perT d=6) then drvSel (selOf d ts n) (srcs d n) else -1
end Go.Proofs.Ytbnfdhidgdfbeaa

namespace Go.Proofs.Ytbnfdhidgdfbeaa
set_option maxRecDepth 100000
open Go.RowKit

def drvTo (d:Dev) (ts:List Tile) (k:Nat):List Int:=(List.range k).map fun (j:Nat)=>drvOf d ts (j:Int)
end Go.Proofs.Ytbnfdhidgdfbeaa
