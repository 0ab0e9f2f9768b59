/- Drawn regions whose guards are partly off, step by step. -/
import Derived.Deep.RegionHeld3
import Derived.Test.YtofihjoanjkdmaaGreatBase
namespace Go.Proofs.YtofihjoanjkdmaaGreat
set_option maxRecDepth 100000
open Go.RowKit
theorem opA {o:Oper} {l:List Oper}:(o :: l).toArray[0]?=some o:=rfl
theorem opB {o x:Oper} {l:List Oper} {i:Nat} (h:l.toArray[i]?=some x):(o :: l).toArray[i+1]?=some x:=by simpa using h
theorem opC {o1 o2 o3 o4 x:Oper} {l:List Oper} {i:Nat} (h:l.toArray[i]?=some x):(o1 :: o2 :: o3 :: o4 :: l).toArray[i+4]?=some x:=opB (opB (opB (opB h)))
theorem opD {o1 o2 o3 o4 o5 o6 o7 o8 o9 u1 u2 u3 u4 u5 u6 u7 x:Oper} {l:List Oper} {i:Nat} (h:l.toArray[i]?=some x):(o1 :: o2 :: o3 :: o4 :: o5 :: o6 :: o7 :: o8 :: o9 :: u1 :: u2 :: u3 :: u4 :: u5 :: u6 :: u7 :: l).toArray[i+16]?=some x:=opC (opC (opC (opC h)))
section
variable {P:Program} {ops:Array Oper} {Q:Exit→Act→World→Prop} {md:Region.Mode} {S:World→Prop}
theorem onH {i:Nat} {oi:Oper} {v:Value} {fuel:Nat} {listed:Array Bool} {a:Act} {w:World} (hi:ops[i]?=some oi) (hy:∀w,S w→(execOp a.eval oi).run P w = .ok (.value v) w) (hS:S w)
  (h:wpAnyH P md ops Q S fuel (listed.setIfInBounds i true) (a.put oi.dst v) w)
  (hk:(Region.noSelect ops && Region.free md ops listed i && (Region.ready md ops listed).contains i)=true:=by kernel_rfl) (hw:Region.wanted oi (yielded ops a.tmps)=true:=by rfl)
  (hQ:∀c a w,Q (.panic c) (a.put oi.dst v) w→Q (.panic c) a w:=by exact fun _ _ _ h=>h):wpAnyH P md ops Q S (fuel+1) listed a w:=by
 rw [Bool.and_eq_true,Bool.and_eq_true] at hk
 exact wpAnyH_take hi hk.1.1 hk.1.2 hk.2 hQ (.inl ⟨hw,hy⟩) hS h
theorem bO {i:Nat} {oi:Oper} {fuel:Nat} {listed:Array Bool} {a:Act} {w:World} (hi:ops[i]?=some oi) (hS:S w)
  (h:wpAnyH P md ops Q S fuel (listed.setIfInBounds i true) (a.put oi.dst undef) w)
  (hk:(Region.noSelect ops && Region.free md ops listed i && (Region.ready md ops listed).contains i)=true:=by kernel_rfl) (hw:Region.wanted oi (yielded ops a.tmps)=false:=by rfl)
  (hQ:∀c a w,Q (.panic c) (a.put oi.dst undef) w→Q (.panic c) a w:=by exact fun _ _ _ h=>h):wpAnyH P md ops Q S (fuel+1) listed a w:=by
 rw [Bool.and_eq_true,Bool.and_eq_true] at hk
 exact wpAnyH_take hi hk.1.1 hk.1.2 hk.2 hQ (.inr ⟨hw,rfl⟩) hS h
theorem gJ {i:Nat} {o:Oper} {fuel:Nat} {listed:Array Bool} {a:Act} {w:World} (hi:ops[i]?=some o)
  (h:∀K':Act→World→Prop,Shut (∀a w,S w→(S w→wpAnyH P md ops Q S fuel (listed.setIfInBounds i true) a w)→K' a w)→if Region.wanted o (yielded ops a.tmps)=true then Oper.wp P o a w K' Q else K' (a.put o.dst undef) w)
  (hr:Region.ready md ops listed=[i]:=by kernel_rfl):wpAnyH P md ops Q S (fuel+1) listed a w :=
 wpAnyH_ready hr (by simp) (AllReadyH.cons hi h AllReadyH.nil)
end
end Go.Proofs.YtofihjoanjkdmaaGreat
