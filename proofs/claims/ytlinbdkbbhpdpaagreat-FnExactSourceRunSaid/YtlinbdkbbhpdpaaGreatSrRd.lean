/- Elements of rows of structs. Plain lemmas. Designs: what they consist of, reading them (printed by mksrrd.py). -/
import Derived.Test.YtlinbdkbbhpdpaaGreatNet
import Derived.Test.YtlinbdkbbhpdpaaGreatOwn
import Derived.Test.YtlinbdkbbhpdpaaGreatSep
namespace Go.Proofs.YtlinbdkbbhpdpaaGreat
set_option maxRecDepth 100000
open Go.RowKit

/-- The cells of one element of a row of structs. -/
theorem RdC.elem {α:Type} {f:α→List Cel} {s e:Nat} (hf:∀x,(f x).length=s) {w:World} {B n c k:Nat} {A:Option Addr} {xs:List α} {z:α} (h:RdC w B (.row e s (xs.flatMap f)) (.slice A n c)) (hk:k<xs.length) (hs:0<s) :
  ∃b o,A=some ⟨b,o,none⟩∧b<B∧∀(j:Nat) (c:Cel),(f (xs[k]?.getD z))[j]?=some c→∃v,w.cell? ⟨b,o+k * s+j,none⟩=some v∧RdC w B c v:=by
 have hl:=flatS_length hf xs
 have hm:k * s+s≤xs.length * s:=by
  have:=Nat.mul_le_mul_right s (show k+1≤xs.length by omega)
  rwa [Nat.succ_mul] at this
 obtain ⟨b,o,rfl,hb,hc⟩:=h.cell (by rw [hl];omega)
 have hx:=getD_some z hk
 refine ⟨b,o,rfl,hb,fun j c hj=>?_⟩
 have hjs:j<s:=by
  rcases Nat.lt_or_ge j s with h|h
  ·exact h
  ·rw [List.getElem?_eq_none (by rw [hf];exact h)] at hj
   cases hj
 obtain ⟨c',v,e1,m1,r1⟩:=hc (k * s+j) (by rw [hl];omega)
 rw [flatS_at hf hx hjs,hj] at e1
 obtain rfl:=Option.some.inj e1
 exact ⟨v,by rw [Nat.add_assoc];exact m1,r1⟩
theorem RdC.flatN {α:Type} {f:α→List Cel} {s e:Nat} (hf:∀x,(f x).length=s) (hs:0<s) {w:World} {B n c:Nat} {A:Option Addr} {xs:List α} (h:RdC w B (.row e s (xs.flatMap f)) (.slice A n c)):xs.length=n:=by
 have:=RdC.len h
 rw [flatS_length hf] at this
 exact Nat.eq_of_mul_eq_mul_right hs this
end Go.Proofs.YtlinbdkbbhpdpaaGreat

namespace Go.Proofs.YtlinbdkbbhpdpaaGreat
set_option maxRecDepth 100000
open Go.RowKit

structure SgT where
 kind:Int
 width:Int
 init:Int
def SgT.zero:SgT:=⟨0,0,0⟩
def SgT.cells (x:SgT):List Cel:=[.int x.kind,.int x.width,.int x.init]
def celSg (xs:List SgT):Cel := .row 155 3 (xs.flatMap SgT.cells)
theorem SgT.cells_length (x:SgT):x.cells.length=3:=rfl
theorem sg_snoc (xs:List SgT) (x:SgT):(xs++[x]).flatMap SgT.cells=xs.flatMap SgT.cells++x.cells:=by simp
theorem RdC.sgN {w:World} {B n c:Nat} {A:Option Addr} {xs:List SgT} (h:RdC w B (celSg xs) (.slice A n c)):xs.length=n:=RdC.flatN SgT.cells_length (by omega) h
theorem RdC.sgE {w:World} {B n c k:Nat} {A:Option Addr} {xs:List SgT} (h:RdC w B (celSg xs) (.slice A n c)) (hk:k<xs.length) :
  ∃b o,A=some ⟨b,o,none⟩∧b<B∧w.cell? ⟨b,o+k * 3,none⟩=some (.int .i64 (xs[k]?.getD SgT.zero).kind)∧w.cell? ⟨b,o+k * 3+1,none⟩=some (.int .i64 (xs[k]?.getD SgT.zero).width)∧w.cell? ⟨b,o+k * 3+2,none⟩=some (.int .i64 (xs[k]?.getD SgT.zero).init):=by
 obtain ⟨b,o,rfl,hb,hc⟩:=RdC.elem (z:=SgT.zero) SgT.cells_length h hk (by omega)
 obtain ⟨v0,m0',r0⟩:=hc 0 _ rfl
 obtain ⟨v1,m1',r1⟩:=hc 1 _ rfl
 obtain ⟨v2,m2',r2⟩:=hc 2 _ rfl
 rw [rdC_int] at r0 r1 r2
 subst r0 r1 r2
 exact ⟨b,o,rfl,hb,m0',m1',m2'⟩
structure OpT where
 kind:Int
 a:Int
 b:Int
def OpT.zero:OpT:=⟨0,0,0⟩
def OpT.cells (x:OpT):List Cel:=[.int x.kind,.int x.a,.int x.b]
def celOp (xs:List OpT):Cel := .row 198 3 (xs.flatMap OpT.cells)
theorem OpT.cells_length (x:OpT):x.cells.length=3:=rfl
theorem op_snoc (xs:List OpT) (x:OpT):(xs++[x]).flatMap OpT.cells=xs.flatMap OpT.cells++x.cells:=by simp
theorem RdC.opN {w:World} {B n c:Nat} {A:Option Addr} {xs:List OpT} (h:RdC w B (celOp xs) (.slice A n c)):xs.length=n:=RdC.flatN OpT.cells_length (by omega) h
theorem RdC.opE {w:World} {B n c k:Nat} {A:Option Addr} {xs:List OpT} (h:RdC w B (celOp xs) (.slice A n c)) (hk:k<xs.length) :
  ∃b o,A=some ⟨b,o,none⟩∧b<B∧w.cell? ⟨b,o+k * 3,none⟩=some (.int .i64 (xs[k]?.getD OpT.zero).kind)∧w.cell? ⟨b,o+k * 3+1,none⟩=some (.int .i64 (xs[k]?.getD OpT.zero).a)∧w.cell? ⟨b,o+k * 3+2,none⟩=some (.int .i64 (xs[k]?.getD OpT.zero).b):=by
 obtain ⟨b,o,rfl,hb,hc⟩:=RdC.elem (z:=OpT.zero) OpT.cells_length h hk (by omega)
 obtain ⟨v0,m0',r0⟩:=hc 0 _ rfl
 obtain ⟨v1,m1',r1⟩:=hc 1 _ rfl
 obtain ⟨v2,m2',r2⟩:=hc 2 _ rfl
 rw [rdC_int] at r0 r1 r2
 subst r0 r1 r2
 exact ⟨b,o,rfl,hb,m0',m1',m2'⟩
structure AsT where
 target:Int
 ops:List OpT
def AsT.zero:AsT:=⟨0,[]⟩
def AsT.cells (x:AsT):List Cel:=[.int x.target,celOp x.ops]
def celAs (xs:List AsT):Cel := .row 196 2 (xs.flatMap AsT.cells)
theorem AsT.cells_length (x:AsT):x.cells.length=2:=rfl
theorem as_snoc (xs:List AsT) (x:AsT):(xs++[x]).flatMap AsT.cells=xs.flatMap AsT.cells++x.cells:=by simp
theorem RdC.asN {w:World} {B n c:Nat} {A:Option Addr} {xs:List AsT} (h:RdC w B (celAs xs) (.slice A n c)):xs.length=n:=RdC.flatN AsT.cells_length (by omega) h
theorem RdC.asE {w:World} {B n c k:Nat} {A:Option Addr} {xs:List AsT} (h:RdC w B (celAs xs) (.slice A n c)) (hk:k<xs.length) :
  ∃b o S0 m0 p0,A=some ⟨b,o,none⟩∧b<B∧w.cell? ⟨b,o+k * 2,none⟩=some (.int .i64 (xs[k]?.getD AsT.zero).target)∧w.cell? ⟨b,o+k * 2+1,none⟩=some (.slice S0 m0 p0)∧RdC w B (celOp (xs[k]?.getD AsT.zero).ops) (.slice S0 m0 p0):=by
 obtain ⟨b,o,rfl,hb,hc⟩:=RdC.elem (z:=AsT.zero) AsT.cells_length h hk (by omega)
 obtain ⟨v0,m0',r0⟩:=hc 0 _ rfl
 obtain ⟨v1,m1',r1⟩:=hc 1 _ rfl
 rw [rdC_int] at r0
 subst r0
 obtain ⟨S0,m0,p0,rfl⟩:=rdC_slice (e:=198) (s:=3) r1
 exact ⟨b,o,S0,m0,p0,rfl,hb,m0',m1',r1⟩
structure InT where
 module:Int
 param:Int
 ports:List Int
def InT.zero:InT:=⟨0,0,[]⟩
def InT.cells (x:InT):List Cel:=[.int x.module,.int x.param,celI x.ports]
def celIn (xs:List InT):Cel := .row 202 3 (xs.flatMap InT.cells)
theorem InT.cells_length (x:InT):x.cells.length=3:=rfl
theorem RdC.inN {w:World} {B n c:Nat} {A:Option Addr} {xs:List InT} (h:RdC w B (celIn xs) (.slice A n c)):xs.length=n:=RdC.flatN InT.cells_length (by omega) h
theorem RdC.inE {w:World} {B n c k:Nat} {A:Option Addr} {xs:List InT} (h:RdC w B (celIn xs) (.slice A n c)) (hk:k<xs.length) :
  ∃b o S0 m0 p0,A=some ⟨b,o,none⟩∧b<B∧w.cell? ⟨b,o+k * 3,none⟩=some (.int .i64 (xs[k]?.getD InT.zero).module)∧w.cell? ⟨b,o+k * 3+1,none⟩=some (.int .i64 (xs[k]?.getD InT.zero).param)∧w.cell? ⟨b,o+k * 3+2,none⟩=some (.slice S0 m0 p0)∧RdC w B (celI (xs[k]?.getD InT.zero).ports) (.slice S0 m0 p0):=by
 obtain ⟨b,o,rfl,hb,hc⟩:=RdC.elem (z:=InT.zero) InT.cells_length h hk (by omega)
 obtain ⟨v0,m0',r0⟩:=hc 0 _ rfl
 obtain ⟨v1,m1',r1⟩:=hc 1 _ rfl
 obtain ⟨v2,m2',r2⟩:=hc 2 _ rfl
 rw [rdC_int] at r0 r1
 subst r0 r1
 obtain ⟨S0,m0,p0,rfl⟩:=rdC_slice (e:=3) (s:=1) r2
 exact ⟨b,o,S0,m0,p0,rfl,hb,m0',m1',m2',r2⟩
structure MmT where
 addr:Int
 data:Int
 write:Int
 out:Int
def MmT.zero:MmT:=⟨0,0,0,0⟩
def MmT.cells (x:MmT):List Cel:=[.int x.addr,.int x.data,.int x.write,.int x.out]
def celMm (xs:List MmT):Cel := .row 200 4 (xs.flatMap MmT.cells)
theorem MmT.cells_length (x:MmT):x.cells.length=4:=rfl
theorem RdC.mmN {w:World} {B n c:Nat} {A:Option Addr} {xs:List MmT} (h:RdC w B (celMm xs) (.slice A n c)):xs.length=n:=RdC.flatN MmT.cells_length (by omega) h
theorem RdC.mmE {w:World} {B n c k:Nat} {A:Option Addr} {xs:List MmT} (h:RdC w B (celMm xs) (.slice A n c)) (hk:k<xs.length) :
  ∃b o,A=some ⟨b,o,none⟩∧b<B∧w.cell? ⟨b,o+k * 4,none⟩=some (.int .i64 (xs[k]?.getD MmT.zero).addr)∧w.cell? ⟨b,o+k * 4+1,none⟩=some (.int .i64 (xs[k]?.getD MmT.zero).data)∧w.cell? ⟨b,o+k * 4+2,none⟩=some (.int .i64 (xs[k]?.getD MmT.zero).write)∧w.cell? ⟨b,o+k * 4+3,none⟩=some (.int .i64 (xs[k]?.getD MmT.zero).out):=by
 obtain ⟨b,o,rfl,hb,hc⟩:=RdC.elem (z:=MmT.zero) MmT.cells_length h hk (by omega)
 obtain ⟨v0,m0',r0⟩:=hc 0 _ rfl
 obtain ⟨v1,m1',r1⟩:=hc 1 _ rfl
 obtain ⟨v2,m2',r2⟩:=hc 2 _ rfl
 obtain ⟨v3,m3',r3⟩:=hc 3 _ rfl
 rw [rdC_int] at r0 r1 r2 r3
 subst r0 r1 r2 r3
 exact ⟨b,o,rfl,hb,m0',m1',m2',m3'⟩
structure MdT where
 sigs:List SgT
 asgs:List AsT
 insts:List InT
 mems:List MmT
def MdT.zero:MdT:=⟨[],[],[],[]⟩
def MdT.cells (x:MdT):List Cel:=[celSg x.sigs,celAs x.asgs,celIn x.insts,celMm x.mems]
def celMd (xs:List MdT):Cel := .row 108 4 (xs.flatMap MdT.cells)
theorem MdT.cells_length (x:MdT):x.cells.length=4:=rfl
theorem RdC.mdN {w:World} {B n c:Nat} {A:Option Addr} {xs:List MdT} (h:RdC w B (celMd xs) (.slice A n c)):xs.length=n:=RdC.flatN MdT.cells_length (by omega) h
theorem RdC.mdE {w:World} {B n c k:Nat} {A:Option Addr} {xs:List MdT} (h:RdC w B (celMd xs) (.slice A n c)) (hk:k<xs.length) :
  ∃b o S0 m0 p0 S1 m1 p1 S2 m2 p2 S3 m3 p3,A=some ⟨b,o,none⟩∧b<B∧w.cell? ⟨b,o+k * 4,none⟩=some (.slice S0 m0 p0)∧w.cell? ⟨b,o+k * 4+1,none⟩=some (.slice S1 m1 p1)∧w.cell? ⟨b,o+k * 4+2,none⟩=some (.slice S2 m2 p2)∧w.cell? ⟨b,o+k * 4+3,none⟩=some (.slice S3 m3 p3)∧RdC w B (celSg (xs[k]?.getD MdT.zero).sigs) (.slice S0 m0 p0)∧RdC w B (celAs (xs[k]?.getD MdT.zero).asgs) (.slice S1 m1 p1)∧RdC w B (celIn (xs[k]?.getD MdT.zero).insts) (.slice S2 m2 p2)∧RdC w B (celMm (xs[k]?.getD MdT.zero).mems) (.slice S3 m3 p3):=by
 obtain ⟨b,o,rfl,hb,hc⟩:=RdC.elem (z:=MdT.zero) MdT.cells_length h hk (by omega)
 obtain ⟨v0,m0',r0⟩:=hc 0 _ rfl
 obtain ⟨v1,m1',r1⟩:=hc 1 _ rfl
 obtain ⟨v2,m2',r2⟩:=hc 2 _ rfl
 obtain ⟨v3,m3',r3⟩:=hc 3 _ rfl
 obtain ⟨S0,m0,p0,rfl⟩:=rdC_slice (e:=155) (s:=3) r0
 obtain ⟨S1,m1,p1,rfl⟩:=rdC_slice (e:=196) (s:=2) r1
 obtain ⟨S2,m2,p2,rfl⟩:=rdC_slice (e:=202) (s:=3) r2
 obtain ⟨S3,m3,p3,rfl⟩:=rdC_slice (e:=200) (s:=4) r3
 exact ⟨b,o,S0,m0,p0,S1,m1,p1,S2,m2,p2,S3,m3,p3,rfl,hb,m0',m1',m2',m3',r0,r1,r2,r3⟩
structure DsT where
 mods:List MdT
def DsT.zero:DsT:=⟨[]⟩
def DsT.cells (x:DsT):List Cel:=[celMd x.mods]
end Go.Proofs.YtlinbdkbbhpdpaaGreat
