/- Numbered lists as maps that the call owns. -/
import Derived.Maps.OwnOps
import Derived.Maps.OwnSet
import Derived.Test.YtignkfhdkcgkgaaDisPure
namespace Go.Proofs.Ytignkfhdkcgkgaa
set_option maxRecDepth 100000
open Go.RowKit

/-- Block b is a map from the elements of l to their numbers, counted from base on. -/
def NumAt (w:World) (b:Nat) (base:Int) (l:List Int):Prop :=
 ∃D:DataW Unit,w.ownsMap Try.prog 3 (plainElem Try.prog 3) b l.length D∧∀x:Int,D.atKey (.int .i64 x) (.lit (.int .i64 0)) = .lit (.int .i64 (numF base l x))∧Maps.has D (.int .i64 x)=decide (x∈l)
theorem NumAt.made (w:World) (base:Int):NumAt (w.alloc (.map #[] 0)) w.heap.size base [] :=
 ⟨.map [],World.ownsMap_made w _ _ _,fun x=>⟨by rw [numF_nil];rfl,by simp [Maps.has]⟩⟩
theorem NumAt.lt {w:World} {b:Nat} {base:Int} {l:List Int} (h:NumAt w b base l):b<w.heap.size:=by
 obtain ⟨D,h1,_⟩:=h
 exact h1.lt
theorem NumAt.keep {w w':World} {b:Nat} {base:Int} {l:List Int} (h:NumAt w b base l) (hk:w'.heap[b]?=w.heap[b]?):NumAt w' b base l:=by
 obtain ⟨D,⟨es,ck,hb,hr⟩,h2⟩:=h
 exact ⟨D,⟨es,ck,hk.trans hb,hr⟩,h2⟩
theorem NumAt.below {w w':World} {b:Nat} {base:Int} {l:List Int} (h:NumAt w b base l) (hb:Below w.heap.size w w'):NumAt w' b base l:=h.keep (hb.block b h.lt)
theorem NumAt.base {w:World} {b:Nat} {base base':Int} (h:NumAt w b base []):NumAt w b base' []:=by
 obtain ⟨D,h1,h2⟩:=h
 exact ⟨D,h1,fun x=>⟨by rw [(h2 x).1,numF_nil,numF_nil],(h2 x).2⟩⟩
def InI64 (x:Int):Prop:=-9223372036854775808≤x∧x≤9223372036854775807
theorem wf64 {x:Int} (h:InI64 x):(Lit.int .i64 x).wf=true:=by
 unfold InI64 at h
 unfold Lit.wf
 rw [Bool.and_eq_true]
 exact ⟨decide_eq_true h.1,decide_eq_true h.2⟩
theorem keyedI:Maps.Keyed Try.prog 3:=Maps.int_keyed Try.underlying3
theorem zeroI (w:World):(zeroValue 3).run Try.prog w = .ok (.int .i64 0) w:=by kernel_rfl
theorem key64 {x:Int} (h:InI64 x):keyOf Try.prog 3 (.int .i64 x)=some (.int .i64 x):=Maps.keyOf_int_mk Try.underlying3 (wf64 h)
theorem NumAt.put {D:DataW Unit} {base:Int} {l:List Int} {key:Int} (hm:Maps.IsMap D) (h:∀x:Int,D.atKey (.int .i64 x) (.lit (.int .i64 0)) = .lit (.int .i64 (numF base l x))∧Maps.has D (.int .i64 x)=decide (x∈l)) (hk:key∉l) (x:Int) :
  (D.put (.int .i64 key) (.lit (.int .i64 (base+(l.length:Int))))).atKey (.int .i64 x) (.lit (.int .i64 0)) = .lit (.int .i64 (numF base (l++[key]) x))∧Maps.has (D.put (.int .i64 key) (.lit (.int .i64 (base+(l.length:Int))))) (.int .i64 x)=decide (x∈l++[key]):=by
 rw [numF_snoc hk]
 by_cases e:x=key
 ·subst e
  rw [if_pos rfl,Maps.atKey_put_same hm (by trivial),Maps.has_put_same hm (by trivial)]
  simp
 ·have hne:(Lit.int .i64 x) ≠ .int .i64 key:=fun h=>e (by injection h)
  rw [if_neg e,Maps.atKey_put_other hne,Maps.has_put_other hne,(h x).1,(h x).2]
  simp [e]
section
variable (w:World) {ops:Array Oper} {rest:List Oper} {o:Oper} {a:Act} {Q:Exit→Act→World→Prop}
theorem wpList_numGet (hg:o.guard=none) (m x:Operand) (hop:o.op=Op.lookup 64 m x false) (b:Nat) (base:Int) (l:List Int) (hm:a.eval m = .map (some b)) (hown:NumAt w b base l) (key:Int) (hx:a.eval x = .int .i64 key) (hk:InI64 key)
  (hK:wpList Try.prog ops Q rest (a.put o.dst (.int .i64 (numF base l key))) w):wpList Try.prog ops Q (o :: rest) a w:=by
 obtain ⟨D,h1,h2⟩:=hown
 refine wpList_lookup_own_int w hg m x _ hop 3 3 .i64 keyedI Try.underlying64 Try.underlying3 (zeroI w) b _ D hm h1 _ _ hx (key64 hk) fun c hat _=>?_
 rw [(h2 key).1] at hat
 injection hat with hat
 injection hat with _ hat
 subst hat
 exact hK
theorem wpList_numOk (hg:o.guard=none) (m x:Operand) (hop:o.op=Op.lookup 64 m x true) (b:Nat) (base:Int) (l:List Int) (hm:a.eval m = .map (some b)) (hown:NumAt w b base l) (key:Int) (hx:a.eval x = .int .i64 key) (hk:InI64 key)
  (hK:wpList Try.prog ops Q rest (a.put o.dst (.tuple #[.int .i64 (numF base l key),.bool (decide (key∈l))])) w):wpList Try.prog ops Q (o :: rest) a w:=by
 obtain ⟨D,h1,h2⟩:=hown
 refine wpList_lookup_own_ok_int w hg m x _ hop 3 3 .i64 keyedI Try.underlying64 Try.underlying3 (zeroI w) b _ D hm h1 _ _ hx (key64 hk) fun c hat _=>?_
 rw [(h2 key).1] at hat
 injection hat with hat
 injection hat with _ hat
 subst hat
 rw [(h2 key).2]
 exact hK
end
end Go.Proofs.Ytignkfhdkcgkgaa
