/- Drawing a place and a region, of the reference. -/
import Derived.Deep.CutRange
import Derived.Deep.DeepCutAuto
import Derived.Test.YtignkfhdkcgkgaaGreatBeS
import Derived.Test.YtignkfhdkcgkgaaGreatDrwQ
import Derived.Test.YtignkfhdkcgkgaaGreatSpS
import Derived.Test.YtignkfhdkcgkgaaGreatWrS
namespace Go.Proofs.YtignkfhdkcgkgaaGreat
set_option maxRecDepth 100000
open Go.RowKit
open Cw
structure Hy (b:Bd):Prop where
 bk:bkF b=true
 ph:b.phase=0∨b.phase=1
 code:∀j:Nat,Dk (b.frames[j]?.getD [])
 out:b.phase=1→∀j:Nat,gY b.dev b.reg (j:Int)=false→b.frames[j]?.getD []=b.saved[j]?.getD []
theorem FH {b:Bd} (h:bkF b=true):BdB 432 b:=by
 obtain ⟨hf,hs,-,h1,h2⟩:=dV h
 have hn:=dW hf
 refine ⟨qK (fun j _=>ib hf j) hn.2,?_,?_⟩
 ·have e1:=sK hs
  have e2:=hn.1
  have e3:=hn.2
  omega
 ·rcases Decidable.em (b.phase=1) with hp|hp
  ·have hs:=(pX (h1 hp)).1
   exact qK (fun j _=>ib hs j) (dW hs).2
  ·rw [(h2 hp).2]
   simp [af,bA]
theorem aG.toO {g0 lo hi:Nat} {w:World} {b:Bd} {s:Sl3} (h:aG lo hi w b s) (hg:g0<lo∨hi<=g0):dE g0 lo hi w b s:=by
 obtain ⟨S1,S2,S3,q⟩:=h
 exact ⟨S1,S2,S3,q,fun x=>by have:=q.i1 _ x;omega,fun x=>by have:=q.i2 _ x;omega,fun x=>by have:=q.i3 _ x;omega⟩
theorem dE.wide {g0 lo hi lo' hi':Nat} {w:World} {b:Bd} {s:Sl3} (h:dE g0 lo hi w b s) (e1:lo'<=lo) (e2:hi<=hi'):dE g0 lo' hi' w b s:=by
 obtain ⟨S1,S2,S3,k,n⟩:=h
 have j1:=k.i1
 have j2:=k.i2
 have j3:=k.i3
 exact ⟨S1,S2,S3,⟨k.frames.widen e1 e2,k.f1,k.state.more e1,k.f2,k.saved.widen e1 e2,k.f3,k.d12,k.d13,k.d23,fun i h=>by have:=j1 i h;omega,fun i h=>by have:=j2 i h;omega,fun i h=>by have:=j3 i h;omega⟩,n⟩
structure BSt (w wr:World) (g B:Nat) (A:Option Addr) (n c:Nat) (bs:List Int) (d:Dev) (r:Reg) (gd gr gb:Nat) (b:Bd) (s:Sl3):Prop where
 cur:Cur wr g B A n c bs
 grown:w.grownBy wr (some g)
 res:bC wr w.heap.size zBd zSl
 dev:wr.heap[gd]?=some (.cells #[.int .i64 d.W,.int .i64 d.H,.int .i64 d.T,.int .i64 d.R] 25 (0,0))
 reg:wr.heap[gr]?=some (.cells #[.int .i64 r.X0,.int .i64 r.Y0,.int .i64 r.X1,.int .i64 r.Y1] 29 (0,0))
 at_:bC wr gb b s
 fp:dE gb (w.heap.size+1) wr.heap.size wr b s
 good:Hy b
 dv:b.dev=d
 o1:g<w.heap.size
 o2:w.heap.size<gd
 o3:gd<gr
 o4:gr<gb
section
variable {w wr w':World} {g B:Nat} {A:Option Addr} {n c:Nat} {bs:List Int} {d:Dev} {r:Reg} {gd gr gb:Nat} {b b':Bd} {s R:Sl3}
theorem BSt.below (h:BSt w wr g B A n c bs d r gd gr gb b s) (hb:Below wr.heap.size wr w'):BSt w w' g B A n c bs d r gd gr gb b s :=
 ⟨h.cur.below hb,oD h.grown hb h.grown.size,h.res.tr hb,aF hb h.dev,aF hb h.reg,h.at_.tr hb,(h.fp.below hb).wide (Nat.le_refl _) hb.size,h.good,h.dv,h.o1,h.o2,h.o3,h.o4⟩
theorem BSt.drewd (h:BSt w wr g B A n c bs d r gd gr gb b s):BSt w wr.drew g B A n c bs d r gd gr gb b s:=h.below (Below.refl _ _).drew
theorem BSt.put {lo hi:Nat} {WE:World} (h:BSt w wr g B A n c bs d r gd gr gb b s) (hf:aG lo hi wr b' R) (hlo:gb+1<=lo) (hhi:hi<=wr.heap.size) (hg:Hy b') (hd:b'.dev=d) (hs:gW (put12 wr gb b' R) WE):BSt w WE g B A n c bs d r gd gr gb b' R:=by
 have o1:=h.o1
 have o2:=h.o2
 have o3:=h.o3
 have o4:=h.o4
 generalize hWF:put12 wr gb b' R=WF at hs
 obtain ⟨e1,e2,e3,e4⟩:=bK hWF h.at_ (Below.refl gb wr) (Nat.le_refl _)
 have e5:=hs.below e3
 have hk:∀k,k<gb→WE.heap[k]?=wr.heap[k]?:=fun k hk=>e5.block k hk
 have hsz:WF.heap.size<=WE.heap.size:=by rw [hs.heap];exact Nat.le_refl _
 refine ⟨h.cur.keepB e5 (by omega),oD h.grown e5 (by omega),(hk _ (by omega)).trans h.res,(hk _ (by omega)).trans h.dev,(hk _ (by omega)).trans h.reg,by show WE.heap[gb]?=_;rw [hs.heap];exact e1,?_,hg,hd,o1,o2,o3,o4⟩
 exact ((hs.fp (hf.chg e4 (.inr hlo))).toO (.inl hlo)).wide (by omega) (by omega)
theorem BSt.small (h:BSt w wr g B A n c bs d r gd gr gb b s):af b.frames<=1099511627776/\s.n2<=16777216/\af b.saved<=1099511627776:=by
 obtain ⟨h1,h2,h3⟩:=FH h.good.bk
 have h4:=h.fp.fp.rd.state.1
 omega
end
end Go.Proofs.YtignkfhdkcgkgaaGreat
