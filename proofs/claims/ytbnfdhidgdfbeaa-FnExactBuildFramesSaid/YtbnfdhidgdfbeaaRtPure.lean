/- The routing nodes of a device in plain terms: which exist, which can drive which. Plain lemmas; no function of the program is walked here. -/
import Derived.Test.YtbnfdhidgdfbeaaEmu
namespace Go.Proofs.Ytbnfdhidgdfbeaa
set_option maxRecDepth 100000
open Go.RowKit

def perT (d:Dev):Int:=7+4 * d.T
def inPins (k:Int):Int:=if k=0 then 1 else if k=1 then 5 else if k=2 then 4 else 0
def outPins (k:Int):Int:=if k=0 then 1 else if k=1 then 2 else if k=2 then 1 else 0
def stX (d:Dev) (t r s:Int):Int:=if r=0 then t % d.W+s else if r=2 then t % d.W - s else t % d.W
def stY (d:Dev) (t r s:Int):Int:=if r=1 then t / d.W+s else if r=0 then t / d.W else if r=2 then t / d.W else t / d.W - s
def stIn (d:Dev) (t r s:Int):Bool:=inR (stX d t r s) 0 (d.W - 1) && inR (stY d t r s) 0 (d.H - 1)
def stepOf (d:Dev) (t r s:Int):Int:=if stIn d t r s=true then stY d t r s * d.W+stX d t r s else -1
def wlen (k:Int):Int:=1+k % 2
def nodesOf (d:Dev):Int:=d.W * d.H * perT d
/-- A tile of a valid device. -/
def tileIn (d:Dev) (t:Int):Bool:=devOk d && (decide (0≤t) && decide (t<d.W * d.H))
def outPin (d:Dev) (t p:Int):Int:=if tileIn d t=true∧0≤p∧p<outPins (kindOf d t) then t * perT d+5+p else -1
def wireNode (d:Dev) (t r k:Int):Int:=if tileIn d t=true∧(0≤r∧r≤3)∧(0≤k∧k<d.T)∧0≤stepOf d t r (wlen k) then t * perT d+7+r * d.T+k else -1
def nodeOkK (d:Dev) (t k:Int):Bool :=
 if k<5 then decide (k<inPins (kindOf d t)) else if k<7 then decide (k - 5<outPins (kindOf d t)) else decide (0≤stepOf d t ((k - 7) / d.T) (wlen ((k - 7) % d.T)))
def nodeIn (d:Dev) (n:Int):Bool:=devOk d && (decide (0≤n) && decide (n<nodesOf d))
def nodeOk (d:Dev) (n:Int):Bool:=nodeIn d n && nodeOkK d (n / perT d) (n % perT d)

/-! ### ascending lists -/
def ins:List Int→Int→List Int
 | [],x=>[x]
 | y :: l,x=>if y<x then y :: ins l x else if y=x then y :: l else x :: y :: l
def asc (l:List Int):List Int:=l.foldl ins []
/-! ### the sources of a node -/
/-- The wire on track k in direction r that begins s steps before tile t. -/
def cand (d:Dev) (t r k s:Int):Int:=wireNode d (stepOf d t ((r+2) % 4) s) r k
def oneOf (x:Int):List Int:=if 0≤x then [x] else []
/-- Which wires count for an input pin, and which for a wire. -/
def pinUse (d:Dev) (pin k:Int):Bool:=!(decide (d.T>1) && decide ((k+pin) % 2=1))
def wireUse (d:Dev) (dir track r k s:Int):Bool:=decide (r≠(dir+2) % 4) && ((decide (k=track) || decide (k=(track+1) % d.T)) && decide (s=wlen k))
def useOf (d:Dev) (pin r k s:Int):Bool:=if 7≤pin then wireUse d ((pin - 7) / d.T) ((pin - 7) % d.T) r k s else pinUse d pin k
def candS (d:Dev) (t pin r k s:Int):List Int:=if useOf d pin r k s=true then oneOf (cand d t r k s) else []
def candK (d:Dev) (t pin r k:Int) (s:Nat):List Int:=(List.range s).flatMap fun (j:Nat)=>candS d t pin r k ((j:Int)+1)
def candR (d:Dev) (t pin r:Int) (k:Nat):List Int:=(List.range k).flatMap fun (j:Nat)=>candK d t pin r (j:Int) (wlen (j:Int)).toNat
def candA (d:Dev) (t pin:Int) (r:Nat):List Int:=(List.range r).flatMap fun (j:Nat)=>candR d t pin (j:Int) d.T.toNat
def outsOf (d:Dev) (t:Int):List Int:=if outPins (kindOf d t)>1 then [outPin d t 0,outPin d t 1] else [outPin d t 0]
def itemsOf (d:Dev) (t pin:Int):List Int:=(if 7≤pin then outsOf d t else [])++candA d t pin 4
def srcs (d:Dev) (n:Int):List Int:=if nodeOk d n=true∧¬(n % perT d=5∨n % perT d=6) then asc (itemsOf d (n / perT d) (n % perT d)) else []

end Go.Proofs.Ytbnfdhidgdfbeaa
