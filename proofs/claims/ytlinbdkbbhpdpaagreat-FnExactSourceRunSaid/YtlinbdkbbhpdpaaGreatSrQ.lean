/- The truth of a statement as a Bool. Plain lemmas. Designs: which are valid, in plain terms. Flat modules: the order of evaluation, what is flat, making a design flat, in plain terms. -/
import Derived.Test.YtlinbdkbbhpdpaaGreatBase
import Derived.Test.YtlinbdkbbhpdpaaGreatSrRd
namespace Go.Proofs.YtlinbdkbbhpdpaaGreat
set_option maxRecDepth 100000
open Go.RowKit

/-- The truth of a statement as a Bool. -/
noncomputable def tb (P:Prop):Bool:=@decide P (Classical.propDecidable P)
theorem tb_true {P:Prop} (h:P):tb P=true:=by unfold tb;exact @decide_eq_true P (Classical.propDecidable P) h
theorem tb_false {P:Prop} (h:¬P):tb P=false:=by unfold tb;exact @decide_eq_false P (Classical.propDecidable P) h
theorem ret_tt {P:Prop} (h:P):Ending.returned (.bool true) = .returned (.bool (tb P)):=by rw [tb_true h]
theorem ret_ff {P:Prop} (h:¬P):Ending.returned (.bool false) = .returned (.bool (tb P)):=by rw [tb_false h]
end Go.Proofs.YtlinbdkbbhpdpaaGreat

namespace Go.Proofs.YtlinbdkbbhpdpaaGreat
set_option maxRecDepth 100000
open Go.RowKit

/-- The number of operands of an operator. -/
def arity (k:Int):Int:=if 0≤k∧k≤3 then 0 else if k=4 then 1 else if 5≤k∧k≤11 then 2 else if k=12 then 3 else -1
theorem arity_in (k:Int):-1≤arity k∧arity k≤3:=by
 unfold arity
 repeat' split
 all_goals omega
/-- An operator is valid in a module with n signals. -/
def OpFit (o:OpT) (n:Int):Prop :=
 if o.kind=0 then (0≤o.a∧o.a≤15)∧o.b=0 else if o.kind=2 then (0≤o.a∧o.a<n)∧o.b=0 else if o.kind=3 then (0≤o.a∧o.a<n)∧0≤o.b∧o.b≤3 else (0≤arity o.kind∧o.a=0)∧o.b=0
theorem OpFit.ar {o:OpT} {n:Int} (h:OpFit o n):0≤arity o.kind:=by
 unfold OpFit at h
 by_cases h0:o.kind=0
 ·rw [h0];decide
 rw [if_neg h0] at h
 by_cases h2:o.kind=2
 ·rw [h2];decide
 rw [if_neg h2] at h
 by_cases h3:o.kind=3
 ·rw [h3];decide
 rw [if_neg h3] at h
 exact h.1.1
/-- Operators from a place on, of which so many expressions are still to come. -/
def OpsN (n:Int):Int→List OpT→Prop
 | need,[]=>need=0
 | need,o :: r=>need≠0∧OpFit o n∧OpsN n (need+arity o.kind - 1) r
/-- An expression. -/
def OpsFit (ops:List OpT) (n:Int):Prop:=ops.length≤15∧OpsN n 1 ops
theorem opsN_drop {n:Int} {ops:List OpT} {k:Nat} {need:Int} (h:k<ops.length):OpsN n need (ops.drop k)↔need≠0∧OpFit (ops[k]?.getD OpT.zero) n∧OpsN n (need+arity (ops[k]?.getD OpT.zero).kind - 1) (ops.drop (k+1)):=by
 rw [List.drop_eq_getElem_cons h,List.getElem?_eq_getElem h,Option.getD_some,OpsN]
theorem opsN_end {n:Int} {ops:List OpT} {k:Nat} {need:Int} (h:k=ops.length):OpsN n need (ops.drop k)↔need=0:=by
 rw [h,List.drop_length,OpsN]
/-- A port. -/
def isPort (s:SgT):Bool:=s.kind==0 || s.kind==1
theorem isPort_iff {s:SgT}:isPort s=true↔s.kind=0∨s.kind=1:=by unfold isPort;simp
def sgK (sg:List SgT) (k:Nat):SgT:=sg[k]?.getD SgT.zero
def portsTo (sg:List SgT):Nat→List Int
 | 0=>[]
 | k+1=>portsTo sg k++if isPort (sgK sg k) then [(k:Int)] else []
/-- The ports of a module. -/
def portsOf (m:MdT):List Int:=if m.sigs.length≤30 then portsTo m.sigs m.sigs.length else []
theorem portsTo_len (sg:List SgT):∀k,(portsTo sg k).length≤k
 | 0=>Nat.le_refl _
 | k+1=>by
  have:=portsTo_len sg k
  rw [portsTo,List.length_append]
  split
  ·rw [List.length_singleton];omega
  ·rw [List.length_nil];omega
theorem portsTo_lt {sg:List SgT}:∀{k:Nat} {p:Int},p∈portsTo sg k→0≤p∧p<k∧isPort (sgK sg p.toNat)=true
 | 0,p,h=>by simp [portsTo] at h
 | k+1,p,h=>by
  rw [portsTo,List.mem_append] at h
  rcases h with h|h
  ·have:=portsTo_lt h
   exact ⟨this.1,by omega,this.2.2⟩
  ·split at h
   ·rename_i hp
    rw [List.mem_singleton] at h
    subst h
    exact ⟨by omega,by omega,by rw [Int.toNat_natCast];exact hp⟩
   ·simp at h
theorem portsOf_len (m:MdT):(portsOf m).length≤30:=by
 unfold portsOf
 split
 ·rename_i h
  exact Nat.le_trans (portsTo_len _ _) h
 ·simp
theorem portsOf_lt {m:MdT} {p:Int} (h:p∈portsOf m):0≤p∧p<m.sigs.length∧isPort (sgK m.sigs p.toNat)=true:=by
 unfold portsOf at h
 split at h
 ·exact portsTo_lt h
 ·simp at h
theorem portsOf_at {m:MdT} {j:Nat} (h:j<(portsOf m).length):0≤(portsOf m)[j]?.getD 0∧(portsOf m)[j]?.getD 0<m.sigs.length:=by
 rw [List.getElem?_eq_getElem h,Option.getD_some]
 have:=portsOf_lt (List.getElem_mem h)
 exact ⟨this.1,this.2.1⟩
structure MdCnt (m:MdT):Prop where
 sg:m.sigs.length≤30
 asg:m.asgs.length≤30
 ins:m.insts.length≤3
 mm:m.mems.length≤2
def mdK (d:List MdT) (k:Nat):MdT:=d[k]?.getD MdT.zero
def CntFit (d:List MdT):Prop:=d.length≤4∧∀k,k<d.length→MdCnt (mdK d k)
def InOne (d:List MdT) (k:Int) (x:InT):Prop:=(0≤x.module∧x.module≤k - 1)∧x.ports.length=(portsOf (mdK d x.module.toNat)).length
def InsFit (d:List MdT) (k:Nat):Prop:=∀j,j<(mdK d k).insts.length→InOne d k ((mdK d k).insts[j]?.getD InT.zero)
/-- The signals that the first j ports of a module drive in an instance of it. -/
def outsTo (inner:MdT) (ports:List Int):Nat→List Int
 | 0=>[]
 | j+1=>outsTo inner ports j++if (sgK inner.sigs ((portsOf inner)[j]?.getD 0).toNat).kind=1 then [ports[j]?.getD 0] else []
def instOuts (d:List MdT) (x:InT):List Int:=outsTo (mdK d x.module.toNat) x.ports (portsOf (mdK d x.module.toNat)).length
/-- All that is driven in a module. -/
def drvs (d:List MdT) (m:MdT):List Int:=m.asgs.map AsT.target++m.mems.map MmT.out++m.insts.flatMap (instOuts d)
def SgFit (s:SgT):Prop:=((0≤s.kind∧s.kind≤3)∧0≤s.width∧s.width≤4)∧(s.init=0∨s.kind=3∧0≤s.init∧s.init≤15)
def InSg (m:MdT) (s:Int):Prop:=0≤s∧s<m.sigs.length
def Drives (m:MdT) (s:Int):Prop:=InSg m s∧((sgK m.sigs s.toNat).kind=1∨(sgK m.sigs s.toNat).kind=2)
def Driven (k:Int):Prop:=k=1∨k=2∨k=3
def AsFit (m:MdT) (a:AsT):Prop:=(InSg m a.target∧Driven (sgK m.sigs a.target.toNat).kind)∧OpsFit a.ops m.sigs.length
def PortFit (m inner:MdT) (ports:List Int) (j:Nat):Prop:=InSg m (ports[j]?.getD 0)∧((sgK inner.sigs ((portsOf inner)[j]?.getD 0).toNat).kind=1→Drives m (ports[j]?.getD 0))
def InFit (d:List MdT) (m:MdT) (x:InT):Prop:=(0≤x.param∧x.param≤4)∧∀j,j<(portsOf (mdK d x.module.toNat)).length→PortFit m (mdK d x.module.toNat) x.ports j
def MmFit (m:MdT) (x:MmT):Prop:=InSg m x.addr∧InSg m x.data∧InSg m x.write∧Drives m x.out
/-- A module is valid. -/
structure MdFit (d:List MdT) (k:Nat):Prop where
 lt:k<d.length
 cnt:CntFit d
 ins:InsFit d k
 sig:∀s,s<(mdK d k).sigs.length→SgFit (sgK (mdK d k).sigs s)
 asg:∀i,i<(mdK d k).asgs.length→AsFit (mdK d k) ((mdK d k).asgs[i]?.getD AsT.zero)
 inst:∀i,i<(mdK d k).insts.length→InFit d (mdK d k) ((mdK d k).insts[i]?.getD InT.zero)
 mem:∀i,i<(mdK d k).mems.length→MmFit (mdK d k) ((mdK d k).mems[i]?.getD MmT.zero)
 once:∀s:Nat,s<(mdK d k).sigs.length→Driven (sgK (mdK d k).sigs s).kind→(drvs d (mdK d k)).count (s:Int)=1
/-- A design is valid. -/
structure DsFit (d:List MdT):Prop where
 pos:1≤d.length
 le:d.length≤4
 md:∀k,k<d.length→MdFit d k
/-- Expressions as trees. -/
inductive Tr where
 | lf (o:OpT)
 | un (o:OpT) (a:Tr)
 | bi (o:OpT) (a b:Tr)
 | te (o:OpT) (a b c:Tr)
def Tr.pre:Tr→List OpT
 | .lf o=>[o]
 | .un o a=>o :: a.pre
 | .bi o a b=>o :: (a.pre++b.pre)
 | .te o a b c=>o :: (a.pre++(b.pre++c.pre))
def Tr.Ok (n:Int):Tr→Prop
 | .lf o=>arity o.kind=0∧OpFit o n
 | .un o a=>o.kind=4∧a.Ok n
 | .bi o a b=>(5≤o.kind∧o.kind≤11)∧a.Ok n∧b.Ok n
 | .te o a b c=>o.kind=12∧a.Ok n∧b.Ok n∧c.Ok n
theorem arity_cases {k:Int} (h:0≤arity k):arity k=0∨arity k=1∧k=4∨arity k=2∧5≤k∧k≤11∨arity k=3∧k=12:=by
 unfold arity at h ⊢
 by_cases h0:0≤k∧k≤3
 ·rw [if_pos h0];exact .inl rfl
 rw [if_neg h0] at h ⊢
 by_cases h1:k=4
 ·rw [if_pos h1];exact .inr (.inl ⟨rfl,h1⟩)
 rw [if_neg h1] at h ⊢
 by_cases h2:5≤k∧k≤11
 ·rw [if_pos h2];exact .inr (.inr (.inl ⟨rfl,h2⟩))
 rw [if_neg h2] at h ⊢
 by_cases h3:k=12
 ·rw [if_pos h3];exact .inr (.inr (.inr ⟨rfl,h3⟩))
 rw [if_neg h3] at h
 omega
theorem opsN_trees {n:Int}:∀{ops:List OpT} {need:Int},0≤need→OpsN n need ops→∃ts:List Tr,(ts.length:Int)=need∧ts.flatMap Tr.pre=ops∧∀t∈ts,t.Ok n
 | [],need,_,h=>⟨[],by rw [OpsN] at h;simp [h],rfl,by simp⟩
 | o :: r,need,h0,h=>by
  obtain ⟨h1,h2,h3⟩:=h
  have h4:=arity_cases h2.ar
  obtain ⟨ts,e1,e2,e3⟩:=opsN_trees (ops:=r) (need:=need+arity o.kind - 1) (by omega) h3
  rcases h4 with h4|⟨h4,h5⟩|⟨h4,h5⟩|⟨h4,h5⟩
  ·refine ⟨.lf o :: ts,by simp only [List.length_cons];omega,by simp [Tr.pre,e2],?_⟩
   intro t ht
   rcases List.mem_cons.1 ht with rfl|ht
   ·exact ⟨h4,h2⟩
   ·exact e3 t ht
  ·obtain ⟨a,ts,rfl⟩:∃a l,ts=a :: l:=by
    rcases ts with _|⟨a,l⟩
    ·simp only [List.length_nil] at e1;omega
    ·exact ⟨a,l,rfl⟩
   simp only [List.length_cons] at e1
   refine ⟨.un o a :: ts,by simp only [List.length_cons];omega,by rw [←e2];simp [Tr.pre],?_⟩
   intro t ht
   rcases List.mem_cons.1 ht with rfl|ht
   ·exact ⟨h5,e3 a (by simp)⟩
   ·exact e3 t (by simp [ht])
  ·obtain ⟨a,b,ts,rfl⟩:∃a b l,ts=a :: b :: l:=by
    rcases ts with _|⟨a,_|⟨b,l⟩⟩
    ·simp only [List.length_nil] at e1;omega
    ·simp only [List.length_cons,List.length_nil] at e1;omega
    ·exact ⟨a,b,l,rfl⟩
   simp only [List.length_cons] at e1
   refine ⟨.bi o a b :: ts,by simp only [List.length_cons];omega,by rw [←e2];simp [Tr.pre],?_⟩
   intro t ht
   rcases List.mem_cons.1 ht with rfl|ht
   ·exact ⟨h5,e3 a (by simp),e3 b (by simp)⟩
   ·exact e3 t (by simp [ht])
  ·obtain ⟨a,b,c,ts,rfl⟩:∃a b c l,ts=a :: b :: c :: l:=by
    rcases ts with _|⟨a,_|⟨b,_|⟨c,l⟩⟩⟩
    ·simp only [List.length_nil] at e1;omega
    ·simp only [List.length_cons,List.length_nil] at e1;omega
    ·simp only [List.length_cons,List.length_nil] at e1;omega
    ·exact ⟨a,b,c,l,rfl⟩
   simp only [List.length_cons] at e1
   refine ⟨.te o a b c :: ts,by simp only [List.length_cons];omega,by rw [←e2];simp [Tr.pre],?_⟩
   intro t ht
   rcases List.mem_cons.1 ht with rfl|ht
   ·exact ⟨h5,e3 a (by simp),e3 b (by simp),e3 c (by simp)⟩
   ·exact e3 t (by simp [ht])
/-- A valid expression is a tree. -/
theorem OpsFit.tree {ops:List OpT} {n:Int} (h:OpsFit ops n):∃t:Tr,t.pre=ops∧t.Ok n:=by
 obtain ⟨ts,h1,h2,h3⟩:=opsN_trees (by omega) h.2
 rcases ts with _|⟨t,_|⟨u,l⟩⟩
 ·simp at h1
 ·exact ⟨t,by simpa using h2,h3 t (by simp)⟩
 ·simp only [List.length_cons] at h1;omega
end Go.Proofs.YtlinbdkbbhpdpaaGreat

namespace Go.Proofs.YtlinbdkbbhpdpaaGreat
set_option maxRecDepth 100000
open Go.RowKit

/-- The operators read a signal. -/
def rdsB (ops:List OpT) (s:Int):Bool:=ops.any fun o=>(o.kind==2 || o.kind==3) && o.a==s
def asK (m:MdT) (i:Nat):AsT:=m.asgs[i]?.getD AsT.zero
def sgI (m:MdT) (s:Int):SgT:=sgK m.sigs s.toNat
/-- The assignments among the first k whose targets are not registers. -/
def todoTo (m:MdT):Nat→List Nat
 | 0=>[]
 | k+1=>todoTo m k++if (sgI m (asK m k).target).kind=3 then [] else [k]
theorem todoTo_lt {m:MdT}:∀{k i:Nat},i∈todoTo m k→i<k∧(sgI m (asK m i).target).kind≠3
 | 0,i,h=>by simp [todoTo] at h
 | k+1,i,h=>by
  rw [todoTo,List.mem_append] at h
  rcases h with h|h
  ·have:=todoTo_lt h
   exact ⟨by omega,this.2⟩
  ·split at h
   ·simp at h
   ·rename_i h3
    rw [List.mem_singleton] at h
    subst h
    exact ⟨by omega,h3⟩
theorem todoTo_sorted (m:MdT):∀k,(todoTo m k).Pairwise (·<·)
 | 0=>List.Pairwise.nil
 | k+1=>by
  rw [todoTo,List.pairwise_append]
  refine ⟨todoTo_sorted m k,?_,fun a ha b hb=>?_⟩
  ·split <;> simp
  ·split at hb
   ·simp at hb
   ·rw [List.mem_singleton] at hb
    subst hb
    exact (todoTo_lt ha).1
theorem todoTo_len (m:MdT):∀k,(todoTo m k).length≤k
 | 0=>Nat.le_refl _
 | k+1=>by
  have:=todoTo_len m k
  rw [todoTo,List.length_append]
  split
  ·rw [List.length_nil];omega
  ·rw [List.length_singleton];omega
/-- An assignment waits for none of those that are still to come. -/
def freeB (m:MdT) (todo:List Nat) (i:Nat):Bool:=todo.all fun j=>!rdsB (asK m i).ops (asK m j).target
/-- The order, from a point on. -/
def evRun (m:MdT):Nat→List Nat→List Nat→Option (List Nat)
 | 0,todo,out=>if todo=[] then some out else none
 | f+1,todo,out=>if todo=[] then some out else match todo.findIdx? (freeB m todo) with
  | none=>none
  | some k=>evRun m f (todo.eraseIdx k) (out++[todo[k]?.getD 0])
open Classical in
noncomputable def evalOrd (m:MdT):Option (List Nat):=if m.insts.length=0∧DsFit [m] then evRun m (todoTo m m.asgs.length).length (todoTo m m.asgs.length) [] else none
def pwTo (sg:List SgT) (kind:Int):Nat→List Int
 | 0=>[]
 | k+1=>pwTo sg kind k++if (sgK sg k).kind=kind then [(sgK sg k).width] else []
/-- The widths of the signals of a kind. -/
def pwOf (m:MdT) (kind:Int):List Int:=if m.sigs.length≤30 then pwTo m.sigs kind m.sigs.length else []
theorem pwTo_len (sg:List SgT) (kind:Int):∀k,(pwTo sg kind k).length≤k
 | 0=>Nat.le_refl _
 | k+1=>by
  have:=pwTo_len sg kind k
  rw [pwTo,List.length_append]
  split
  ·rw [List.length_singleton];omega
  ·rw [List.length_nil];omega
theorem pwOf_len (m:MdT) (kind:Int):(pwOf m kind).length≤30:=by
 unfold pwOf
 split
 ·rename_i h
  exact Nat.le_trans (pwTo_len _ _ _) h
 ·simp
theorem pwTo_in {sg:List SgT} {kind:Int} (h:∀s,s<sg.length→SgFit (sgK sg s)):∀{k:Nat} {x:Int},k≤sg.length→x∈pwTo sg kind k→0≤x∧x≤4
 | 0,x,_,hx=>by simp [pwTo] at hx
 | k+1,x,hk,hx=>by
  rw [pwTo,List.mem_append] at hx
  rcases hx with hx|hx
  ·exact pwTo_in h (by omega) hx
  ·split at hx
   ·rw [List.mem_singleton] at hx
    subst hx
    exact (h k (by omega)).1.2
   ·simp at hx
def sumI (l:List Int):Int:=l.foldl (·+·) 0
theorem foldl_add (l:List Int):∀a:Int,l.foldl (·+·) a=a+sumI l:=by
 induction l with
 | nil=>intro a;simp [sumI]
 | cons x l ih =>
  intro a
  have h1:=ih (a+x)
  have h2:=ih (0+x)
  unfold sumI at h1 h2 ⊢
  rw [List.foldl_cons,List.foldl_cons,h1,h2]
  omega
theorem sumI_nil:sumI []=0:=rfl
theorem sumI_cons (x:Int) (l:List Int):sumI (x :: l)=x+sumI l:=by rw [sumI,List.foldl_cons,foldl_add];omega
theorem sumI_snoc (l:List Int) (x:Int):sumI (l++[x])=sumI l+x:=by rw [sumI,List.foldl_append,List.foldl_cons,List.foldl_nil];rfl
theorem sumI_in {m:Nat}:∀{l:List Int},(∀x∈l,0≤x∧x≤m)→0≤sumI l∧sumI l≤l.length * m
 | [],_=>by simp [sumI_nil]
 | x :: l,h=>by
  have h1:=h x (by simp)
  have h2:=sumI_in (l:=l) fun y hy=>h y (by simp [hy])
  rw [sumI_cons,List.length_cons,Int.natCast_add,Int.add_mul]
  omega
def mmK (m:MdT) (i:Nat):MmT:=m.mems[i]?.getD MmT.zero
def MmFlat (m:MdT) (x:MmT):Prop:=((sgI m x.addr).width=2∧(sgI m x.write).width=1)∧(sgI m x.data).width=(sgI m x.out).width
def hasPar (ops:List OpT):Prop:=∃j,j<ops.length∧(ops[j]?.getD OpT.zero).kind=1
def memW (m:MdT) (k:Nat):Int:=sumI ((m.mems.take k).map fun x=>(sgI m x.out).width)
/-- A module is flat. -/
structure FlatFit (m:MdT):Prop where
 ord:∃o,evalOrd m=some o
 wid:∀s,s<m.sigs.length→(sgK m.sigs s).width≠0
 par:∀i,i<m.asgs.length→¬hasPar (asK m i).ops
 mem:∀i,i<m.mems.length→MmFlat m (mmK m i)
 ins:sumI (pwOf m 0)≤8
 outs:sumI (pwOf m 1)≤8
 bits:sumI (pwOf m 3)+memW m m.mems.length≤12
theorem evalOrd_fit {m:MdT} {o:List Nat} (h:evalOrd m=some o):m.insts.length=0∧DsFit [m]:=by
 unfold evalOrd at h
 split at h
 ·rename_i h1;exact h1
 ·cases h
theorem FlatFit.ds {m:MdT} (h:FlatFit m):DsFit [m]:=by
 obtain ⟨o,ho⟩:=h.ord
 exact (evalOrd_fit ho).2
theorem DsFit.one {m:MdT} (h:DsFit [m]):MdFit [m] 0:=h.md 0 (by simp)
/-- The width of a signal that is added with a parameter. -/
def wid (s:SgT) (p:Int):Int:=if s.width=0 then p else s.width
/-- Signals are added from a place on. -/
def addSg (p:Int) (top:Bool) (ports:List Int):List SgT→Nat→List SgT→List Int→Option (List SgT × List Int)
 | [],_,fl,pl=>some (fl,pl)
 | s :: r,nx,fl,pl=>if (!top && isPort s)=true then
   if (sgK fl (ports[nx]?.getD 0).toNat).width=wid s p then addSg p top ports r (nx+1) fl (pl++[ports[nx]?.getD 0]) else none
  else addSg p top ports r nx (fl++[⟨s.kind,wid s p,s.init⟩]) (pl++[(fl.length:Int)])
def atI (l:List Int) (i:Int):Int:=l[i.toNat]?.getD 0
def mapOp (p:Int) (pl:List Int) (o:OpT):OpT:=if o.kind=1 then ⟨0,p,0⟩ else if o.kind=2∨o.kind=3 then ⟨o.kind,atI pl o.a,o.b⟩ else o
def mapAs (p:Int) (pl:List Int) (a:AsT):AsT:=⟨atI pl a.target,a.ops.map (mapOp p pl)⟩
def mapMm (pl:List Int) (x:MmT):MmT:=⟨atI pl x.addr,atI pl x.data,atI pl x.write,atI pl x.out⟩
/-- Instances are added from a place on. -/
def addIn (f:Nat→Int→List Int→MdT→Option MdT) (p:Int) (pl:List Int):List InT→MdT→Option MdT
 | [],fl=>some fl
 | x :: r,fl=>match f x.module.toNat (if x.param=0 then p else x.param) (x.ports.map (atI pl)) fl with
  | none=>none
  | some fl'=>addIn f p pl r fl'
/-- A module is added with a parameter. -/
def addM (d:List MdT):Nat→Bool→Nat→Int→List Int→MdT→Option MdT
 | 0,_,_,_,_,_=>none
 | f+1,top,k,p,ports,fl=>match addSg p top ports (mdK d k).sigs 0 fl.sigs [] with
  | none=>none
  | some (sg,pl)=>if sg.length≤30∧(fl.asgs++(mdK d k).asgs.map (mapAs p pl)).length≤30∧(fl.mems++(mdK d k).mems.map (mapMm pl)).length≤2 then
    addIn (addM d f false) p pl (mdK d k).insts ⟨sg,fl.asgs++(mdK d k).asgs.map (mapAs p pl),fl.insts,fl.mems++(mdK d k).mems.map (mapMm pl)⟩
   else none
open Classical in
/-- A design made flat. -/
noncomputable def flatD (d:List MdT) (p:Int):Option MdT:=if DsFit d∧1≤p∧p≤4 then match addM d 5 true (d.length - 1) p [] MdT.zero with
  | none=>none
  | some m=>if FlatFit m then some m else none
 else none
theorem flatD_fit {d:List MdT} {p:Int} {m:MdT} (h:flatD d p=some m):FlatFit m:=by
 unfold flatD at h
 split at h
 ·split at h
  ·cases h
  ·split at h
   ·rename_i h1
    injection h with h
    subst h
    exact h1
   ·cases h
 ·cases h
end Go.Proofs.YtlinbdkbbhpdpaaGreat
