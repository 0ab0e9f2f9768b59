/- Boards: what they read as, what the call owns of them; the laws' helpers on boards. Boards that come in: how they read. -/
import Derived.Test.YtbnfdhidgdfbeaaCopies
import Derived.Test.YtbnfdhidgdfbeaaOwn
import Derived.Test.YtbnfdhidgdfbeaaRow2
namespace Go.Proofs.Ytbnfdhidgdfbeaa
set_option maxRecDepth 100000
open Go.RowKit

structure Bd where
 dev:Dev
 frames:List (List Int)
 state:List Int
 phase:Int
 reg:Reg
 saved:List (List Int)
/-- The three slices of a board's value. -/
structure Sl3 where
 A1:Option Addr
 n1:Nat
 c1:Nat
 A2:Option Addr
 n2:Nat
 c2:Nat
 A3:Option Addr
 n3:Nat
 c3:Nat
structure BoardRd (w:World) (b:Bd) (s:Sl3):Prop where
 frames:Rows2 w s.A1 s.n1 b.frames
 state:Ints w s.A2 s.n2 b.state
 saved:Rows2 w s.A3 s.n3 b.saved
theorem BoardRd.below {w w':World} {b:Bd} {s:Sl3} (h:BoardRd w b s) (hb:Below w.heap.size w w'):BoardRd w' b s:=⟨h.frames.below hb,h.state.below hb,h.saved.below hb⟩
/-- Two ranges of blocks lie apart. -/
def Ap (l1 h1 l2 h2:Nat):Prop:=h1≤l2∨h2≤l1
structure BoardIn (w:World) (b:Bd) (s:Sl3) (lo hi l1 h1 l2 h2 l3 h3:Nat):Prop where
 frames:Own2 l1 h1 w s.A1 s.n1 s.c1 b.frames
 state:Own l2 w s.A2 s.n2 s.c2 b.state
 lies:Lies s.A2 l2 h2
 saved:Own2 l3 h3 w s.A3 s.n3 s.c3 b.saved
 a12:Ap l1 h1 l2 h2
 a13:Ap l1 h1 l3 h3
 a23:Ap l2 h2 l3 h3
 in1:lo≤l1∧h1≤hi
 in2:lo≤l2∧h2≤hi
 in3:lo≤l3∧h3≤hi
def BoardAt (lo hi:Nat) (w:World) (b:Bd) (s:Sl3):Prop:=∃l1 h1 l2 h2 l3 h3,BoardIn w b s lo hi l1 h1 l2 h2 l3 h3
theorem Lies.own {A:Option Addr} {lo hi base:Nat} {w:World} {n c:Nat} {xs:List Int} (l:Lies A lo hi) (_:Own base w A n c xs):Lies A lo hi:=l
theorem BoardAt.rd {lo hi:Nat} {w:World} {b:Bd} {s:Sl3} (h:BoardAt lo hi w b s):BoardRd w b s:=by
 obtain ⟨l1,h1,l2,h2,l3,h3,hb⟩:=h
 exact ⟨hb.frames.rd,hb.state.rd,hb.saved.rd⟩
theorem BoardAt.below {lo hi:Nat} {w w':World} {b:Bd} {s:Sl3} (h:BoardAt lo hi w b s) (hb:Below w.heap.size w w'):BoardAt lo hi w' b s:=by
 obtain ⟨l1,h1,l2,h2,l3,h3,k⟩:=h
 exact ⟨l1,h1,l2,h2,l3,h3,k.frames.below hb,k.state.below hb,k.lies,k.saved.below hb,k.a12,k.a13,k.a23,k.in1,k.in2,k.in3⟩
theorem BoardAt.chg {lo hi lo' hi':Nat} {w w':World} {b:Bd} {s:Sl3} (h:BoardAt lo hi w b s) (hg:Chg lo' hi' w w') (ha:hi≤lo'∨hi'≤lo):BoardAt lo hi w' b s:=by
 obtain ⟨l1,h1,l2,h2,l3,h3,k⟩:=h
 have i1:=k.in1
 have i2:=k.in2
 have i3:=k.in3
 exact ⟨l1,h1,l2,h2,l3,h3,k.frames.chg hg (by omega),k.state.chg hg k.lies (by omega),k.lies,k.saved.chg hg (by omega),k.a12,k.a13,k.a23,k.in1,k.in2,k.in3⟩
theorem BoardAt.widen {lo hi lo' hi':Nat} {w:World} {b:Bd} {s:Sl3} (h:BoardAt lo hi w b s) (e1:lo'≤lo) (e2:hi≤hi'):BoardAt lo' hi' w b s:=by
 obtain ⟨l1,h1,l2,h2,l3,h3,k⟩:=h
 have i1:=k.in1
 have i2:=k.in2
 have i3:=k.in3
 exact ⟨l1,h1,l2,h2,l3,h3,k.frames,k.state,k.lies,k.saved,k.a12,k.a13,k.a23,⟨by omega,by omega⟩,⟨by omega,by omega⟩,⟨by omega,by omega⟩⟩
theorem BoardAt.drewd {lo hi:Nat} {w:World} {b:Bd} {s:Sl3} (h:BoardAt lo hi w b s):BoardAt lo hi w.drew b s:=by
 obtain ⟨l1,h1,l2,h2,l3,h3,k⟩:=h
 exact ⟨l1,h1,l2,h2,l3,h3,k.frames.drewd,k.state.drewd,k.lies,k.saved.drewd,k.a12,k.a13,k.a23,k.in1,k.in2,k.in3⟩
end Go.Proofs.Ytbnfdhidgdfbeaa

namespace Go.Proofs.Ytbnfdhidgdfbeaa
set_option maxRecDepth 100000
open Go.RowKit Go.ChangeShapes Go.WideShapes Go.ChangeAt

section
variable {H:Type} {enc:TypeId × Value→H} {W:World} {b0 base:Nat} {spare:Nat→Bool} {held:Bool}
theorem trod_ints {fuel:Nat} {v:Value} {y:DataW H × List MemPlace} (h:DataW.trod enc Try.prog W base (fun _=>true) held fuel 44 [v]=some y):∃(A:Option Addr) (n c:Nat) (xs:List Int),v = .slice A n c∧Ints W A n xs∧n≤maxLen:=by
 rcases open_ints Try.underlying44 Try.underlying3 (by kernel_rfl) h with ⟨hcs,_⟩|⟨x,l,c',zs,hcs,_,hl,hm,hz,_,hcell,hwz⟩
 ·simp only [List.cons.injEq,and_true] at hcs
  exact ⟨none,0,0,[],hcs,⟨rfl,fun h=>absurd h (by omega)⟩,Nat.zero_le _⟩
 ·simp only [List.cons.injEq,and_true] at hcs
  exact ⟨_,_,_,_,hcs,ints_of hl (by simpa using hz) hcell,Nat.le_trans hl hm⟩
end
end Go.Proofs.Ytbnfdhidgdfbeaa
