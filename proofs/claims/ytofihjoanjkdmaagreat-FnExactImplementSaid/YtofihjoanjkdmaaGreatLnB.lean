/- Networks of look-up tables: what they are and which are valid. -/
import Derived.Test.YtofihjoanjkdmaaGreatBase
namespace Go.Proofs.YtofihjoanjkdmaaGreat
set_option maxRecDepth 100000
open Go.RowKit
structure Sq where
 kind:Int
 init:Int
 ins:List Int
structure Lt where
 ins:List Int
 mask:Int
structure aU where
 inputs:Int
 seqs:List Sq
 luts:List Lt
 outs:List Int
def Sq.zero:Sq:=⟨0,0,[]⟩
def Lt.zero:Lt:=⟨[],0⟩
def aU.zero:aU:=⟨0,[],[],[]⟩
def aU.first(l:aU):Nat:=1+l.inputs.toNat+l.seqs.length
def aU.count(l:aU):Nat:=l.first+l.luts.length
structure bJ(l:aU):Prop where
 inp:0<=l.inputs/\l.inputs<=20
 nseq:l.seqs.length<=12
 nlut:l.luts.length<=400
 nout:l.outs.length<=16
 outs:∀n∈l.outs,0<=n/\n<(l.count:Int)
 seqs:∀i:Nat,i<l.seqs.length→((l.seqs[i]?.getD Sq.zero).kind=0/\(0<=(l.seqs[i]?.getD Sq.zero).init/\(l.seqs[i]?.getD Sq.zero).init<=1)/\(l.seqs[i]?.getD Sq.zero).ins.length=1 ∨
  (l.seqs[i]?.getD Sq.zero).kind=1/\(0<=(l.seqs[i]?.getD Sq.zero).init/\(l.seqs[i]?.getD Sq.zero).init<=31)/\(l.seqs[i]?.getD Sq.zero).ins.length=4)/\∀n∈(l.seqs[i]?.getD Sq.zero).ins,0<=n/\n<(l.count:Int)
 luts:∀i:Nat,i<l.luts.length→(l.luts[i]?.getD Lt.zero).ins.length<=4/\(0<=(l.luts[i]?.getD Lt.zero).mask/\(l.luts[i]?.getD Lt.zero).mask<2 ^ 2 ^ (l.luts[i]?.getD Lt.zero).ins.length)/\∀n∈(l.luts[i]?.getD Lt.zero).ins,0<=n/\n<(l.first:Int)+(i:Int)
end Go.Proofs.YtofihjoanjkdmaaGreat
