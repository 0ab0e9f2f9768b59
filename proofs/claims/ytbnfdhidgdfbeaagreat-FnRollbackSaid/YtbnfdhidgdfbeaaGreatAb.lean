/- Boards whose rows may lie anywhere: footprints by sets of blocks. Stores into a board's slices: a whole row of the frames, a number of the state. BoardOk of the reference. The steps that the operations of a board share. running (printed by mkop.py). aborted boards of the program (printed by mkop.py). -/
import Derived.Test.YtbnfdhidgdfbeaaGreatBk
import Derived.Test.YtbnfdhidgdfbeaaGreatCpr
import Derived.Test.YtbnfdhidgdfbeaaGreatNbs
import Derived.Test.YtbnfdhidgdfbeaaGreatOpp
import Derived.Test.YtbnfdhidgdfbeaaGreatRqS
namespace Go.Proofs.YtbnfdhidgdfbeaaGreat
set_option maxRecDepth 100000
open Go.RowKit

structure ChgS (S:Nat→Prop) (w w':World):Prop where
 os:w'.os=w.os
 tape:w'.tape=w.tape
 output:w'.output=w.output
 size:w.heap.size≤w'.heap.size
 block:∀k,k<w.heap.size→¬S k→w'.heap[k]?=w.heap[k]?
theorem ChgS.refl (S:Nat→Prop) (w:World):ChgS S w w:=⟨rfl,rfl,rfl,Nat.le_refl _,fun _ _ _=>rfl⟩
theorem ChgS.trans {S:Nat→Prop} {a b c:World} (h:ChgS S a b) (k:ChgS S b c):ChgS S a c :=
 ⟨k.os.trans h.os,k.tape.trans h.tape,k.output.trans h.output,Nat.le_trans h.size k.size,fun i hi hn=>(k.block i (Nat.lt_of_lt_of_le hi h.size) hn).trans (h.block i hi hn)⟩
theorem ChgS.chg {S:Nat→Prop} {lo hi:Nat} {w w':World} (h:ChgS S w w') (hS:∀k,S k→lo≤k∧k<hi):Chg lo hi w w' :=
 ⟨h.os,h.tape,h.output,h.size,fun k hk hn=>h.block k hk fun hs=>by have:=hS k hs;omega⟩
/-- The block of a slice of slices and the blocks of its rows lie in S. -/
def Fp (S:Nat→Prop) (w:World) (A:Option Addr) (n:Nat):Prop:=∀a:Addr,A=some a→S a.block∧∀j,j<n→∀(a1:Addr) (m c:Nat),w.cell? ⟨a.block,j,none⟩=some (.slice (some a1) m c)→S a1.block
theorem Fp.of {lo hi:Nat} {w:World} {A:Option Addr} {n c:Nat} {xss:List (List Int)} (h:Own2 lo hi w A n c xss):Fp (fun k=>lo≤k∧k<hi) w A n:=by
 rintro a rfl
 refine ⟨?_,fun j hj a1 m c1 hc=>?_⟩
 ·obtain ⟨vs,h1,h2,h3⟩:=h
  exact ⟨(ownsRow_lt h1 a rfl).1,h2 a rfl⟩
 ·obtain ⟨b,A1,m1,c2,hA,hck,-,-,hl,-⟩:=h.row hj
  injection hA with hA
  subst hA
  rw [hck] at hc
  injection hc with hc
  injection hc with hc _ _
  exact hl a1 hc
theorem Fp.mono {S T:Nat→Prop} {w:World} {A:Option Addr} {n:Nat} (h:Fp S w A n) (hS:∀k,S k→T k):Fp T w A n :=
 fun a ha=>⟨hS _ (h a ha).1,fun j hj a1 m c hc=>hS _ ((h a ha).2 j hj a1 m c hc)⟩
theorem row_cell {lo:Nat} {w:World} {A:Option Addr} {n c j:Nat} {vs:List SV} {v:SV} (h1:w.ownsRow lo 27 1 (.slice A n c) n (vs.map SV.val)) (hj:j<n) (hv:vs[j]?=some v):∃g,A=some ⟨g,0,none⟩∧w.cell? ⟨g,j,none⟩=some (SV.val v):=by
 rcases h1.2 with ⟨_,h0⟩|⟨g,cap,cur,hv',hb,hh,hnc,hcap,hsz,ht⟩
 ·omega
 ·injection hv' with hA
  subst hA
  refine ⟨g,rfl,?_⟩
  have hx:(vs.map SV.val)[j]?=some (SV.val v):=by rw [List.getElem?_map,hv];rfl
  rw [←ht,List.getElem?_take] at hx
  simp only [Nat.mul_one] at hx
  rw [if_pos hj,Array.getElem?_toList] at hx
  unfold World.cell?
  rw [hh]
  exact hx
theorem Own2.keepS {S:Nat→Prop} {lo hi:Nat} {w w':World} {A:Option Addr} {n c:Nat} {xss:List (List Int)} (h:Own2 lo hi w A n c xss) (f:Fp S w A n) (hk:∀k,k<w.heap.size→S k→w'.heap[k]?=w.heap[k]?):Own2 lo hi w' A n c xss∧Fp S w' A n:=by
 have hlen:=h.len
 obtain ⟨vs,h1,h2,h3⟩:=h
 refine ⟨⟨vs,ownsRow_block h1 fun a ha=>hk _ (ownsRow_lt h1 a ha).2 (f a ha).1,h2,h3.1,fun j v hv=>?_,h3.2.2⟩,fun a ha=>⟨(f a ha).1,fun j hj a1 m c hc=>(f a ha).2 j hj a1 m c ?_⟩⟩
 ·obtain ⟨ho,hh⟩:=h3.2.1 j v hv
  have hj:j<n:=by have:=(List.getElem?_eq_some_iff.1 hv).1;have:=h3.1;omega
  obtain ⟨g,hA,hc⟩:=row_cell h1 hj hv
  refine ⟨ownsRow_block ho fun a ha=>hk _ (ho.lt a ha).2 ((f ⟨g,0,none⟩ hA).2 j hj a v.2.1 v.2.2 ?_),hh⟩
  rw [hc,SV.val,ha]
 ·rwa [World.cell?_of_block (a:=⟨a.block,j,none⟩) (hk a.block (ownsRow_lt h1 a ha).2 (f a ha).1)] at hc
structure FpIn (w:World) (b:Bd) (s:Sl3) (lo hi:Nat) (S1 S2 S3:Nat→Prop):Prop where
 frames:Own2 lo hi w s.A1 s.n1 s.c1 b.frames
 f1:Fp S1 w s.A1 s.n1
 state:Own lo w s.A2 s.n2 s.c2 b.state
 f2:∀a,s.A2=some a→S2 a.block
 saved:Own2 lo hi w s.A3 s.n3 s.c3 b.saved
 f3:Fp S3 w s.A3 s.n3
 d12:∀k,S1 k→S2 k→False
 d13:∀k,S1 k→S3 k→False
 d23:∀k,S2 k→S3 k→False
 i1:∀k,S1 k→lo≤k∧k<hi
 i2:∀k,S2 k→lo≤k∧k<hi
 i3:∀k,S3 k→lo≤k∧k<hi
/-- A board that the call owns: its three slices share no block. -/
def BoardFp (lo hi:Nat) (w:World) (b:Bd) (s:Sl3):Prop:=∃S1 S2 S3,FpIn w b s lo hi S1 S2 S3
theorem BoardAt.fp {lo hi:Nat} {w:World} {b:Bd} {s:Sl3} (h:BoardAt lo hi w b s):BoardFp lo hi w b s:=by
 obtain ⟨l1,h1,l2,h2,l3,h3,k⟩:=h
 have e1:=k.in1
 have e2:=k.in2
 have e3:=k.in3
 have a12:=k.a12
 have a13:=k.a13
 have a23:=k.a23
 unfold Ap at a12 a13 a23
 exact ⟨fun i=>l1≤i∧i<h1,fun i=>l2≤i∧i<h2,fun i=>l3≤i∧i<h3,k.frames.widen e1.1 e1.2,.of k.frames,k.state.more e2.1,k.lies,k.saved.widen e3.1 e3.2,.of k.saved,
  fun i x y=>by omega,fun i x y=>by omega,fun i x y=>by omega,fun i x=>by omega,fun i x=>by omega,fun i x=>by omega⟩
theorem BoardFp.rd {lo hi:Nat} {w:World} {b:Bd} {s:Sl3} (h:BoardFp lo hi w b s):BoardRd w b s:=by
 obtain ⟨S1,S2,S3,k⟩:=h
 exact ⟨k.frames.rd,k.state.rd,k.saved.rd⟩
theorem BoardFp.keep {lo hi:Nat} {w w':World} {b:Bd} {s:Sl3} (h:BoardFp lo hi w b s) (hk:∀k,k<w.heap.size→lo≤k→k<hi→w'.heap[k]?=w.heap[k]?):BoardFp lo hi w' b s:=by
 obtain ⟨S1,S2,S3,k⟩:=h
 obtain ⟨p1,p2⟩:=k.frames.keepS k.f1 (w':=w') fun i h1 h2=>hk i h1 (k.i1 i h2).1 (k.i1 i h2).2
 obtain ⟨q1,q2⟩:=k.saved.keepS k.f3 (w':=w') fun i h1 h2=>hk i h1 (k.i3 i h2).1 (k.i3 i h2).2
 exact ⟨S1,S2,S3,p1,p2,ownsRow_block k.state fun a ha=>hk _ (k.state.lt a ha).2 (k.i2 _ (k.f2 a ha)).1 (k.i2 _ (k.f2 a ha)).2,k.f2,q1,q2,k.d12,k.d13,k.d23,k.i1,k.i2,k.i3⟩
theorem BoardFp.below {lo hi:Nat} {w w':World} {b:Bd} {s:Sl3} (h:BoardFp lo hi w b s) (hb:Below w.heap.size w w'):BoardFp lo hi w' b s:=h.keep fun k hk _ _=>hb.block k hk
theorem BoardFp.chg {lo hi lo' hi':Nat} {w w':World} {b:Bd} {s:Sl3} (h:BoardFp lo hi w b s) (hg:Chg lo' hi' w w') (ha:hi≤lo'∨hi'≤lo):BoardFp lo hi w' b s:=h.keep fun k hk h1 h2=>hg.block k hk (by omega)
theorem BoardFp.drewd {lo hi:Nat} {w:World} {b:Bd} {s:Sl3} (h:BoardFp lo hi w b s):BoardFp lo hi w.drew b s:=h.keep fun _ _ _ _=>rfl
theorem BoardFp.widen {lo hi lo' hi':Nat} {w:World} {b:Bd} {s:Sl3} (h:BoardFp lo hi w b s) (e1:lo'≤lo) (e2:hi≤hi'):BoardFp lo' hi' w b s:=by
 obtain ⟨S1,S2,S3,k⟩:=h
 have j1:=k.i1
 have j2:=k.i2
 have j3:=k.i3
 exact ⟨S1,S2,S3,k.frames.widen e1 e2,k.f1,k.state.more e1,k.f2,k.saved.widen e1 e2,k.f3,k.d12,k.d13,k.d23,fun i h=>by have:=j1 i h;omega,fun i h=>by have:=j2 i h;omega,fun i h=>by have:=j3 i h;omega⟩
theorem BoardFp.dev {lo hi:Nat} {w:World} {b b':Bd} {s:Sl3} (h:BoardFp lo hi w b s) (e1:b'.frames=b.frames) (e2:b'.state=b.state) (e3:b'.saved=b.saved):BoardFp lo hi w b' s:=by
 obtain ⟨S1,S2,S3,k⟩:=h
 exact ⟨S1,S2,S3,by rw [e1];exact k.frames,k.f1,by rw [e2];exact k.state,k.f2,by rw [e3];exact k.saved,k.f3,k.d12,k.d13,k.d23,k.i1,k.i2,k.i3⟩
theorem BoardFp.clear {lo hi:Nat} {w:World} {b b':Bd} {s:Sl3} {A:Option Addr} {c:Nat} (h:BoardFp lo hi w b s) (hn:A=none) (hc:c=0) (e1:b'.frames=b.frames) (e2:b'.state=b.state) (e3:b'.saved=[]):BoardFp lo hi w b' ⟨s.A1,s.n1,s.c1,s.A2,s.n2,s.c2,A,0,c⟩:=by
 subst hn hc
 obtain ⟨S1,S2,S3,k⟩:=h
 exact ⟨S1,S2,fun _=>False,by rw [e1];exact k.frames,k.f1,by rw [e2];exact k.state,k.f2,by rw [e3];exact Own2.nil,by rintro a ⟨⟩,k.d12,fun _ _ h=>h,fun _ _ h=>h,k.i1,k.i2,by rintro i ⟨⟩⟩
theorem BoardFp.setState {lo hi base hi2:Nat} {w:World} {b b':Bd} {s:Sl3} {A:Option Addr} {n c:Nat} (h:BoardFp lo hi w b s) (o:Own base w A n c b'.state) (l:Lies A base hi2) (hb:hi≤base) (hl:lo≤base) (hh:hi≤hi2) (e1:b'.frames=b.frames) (e3:b'.saved=b.saved):BoardFp lo hi2 w b' ⟨s.A1,s.n1,s.c1,A,n,c,s.A3,s.n3,s.c3⟩:=by
 obtain ⟨S1,S2,S3,k⟩:=h
 have j1:=k.i1
 have j3:=k.i3
 exact ⟨S1,fun i=>base≤i∧i<hi2,S3,by rw [e1];exact k.frames.widen (Nat.le_refl _) hh,k.f1,o.more hl,l,by rw [e3];exact k.saved.widen (Nat.le_refl _) hh,k.f3,
  fun i x y=>by have:=j1 i x;omega,k.d13,fun i x y=>by have:=j3 i y;omega,fun i x=>by have:=j1 i x;omega,fun i x=>by omega,fun i x=>by have:=j3 i x;omega⟩
theorem BoardFp.setSaved {lo hi base hi2:Nat} {w:World} {b b':Bd} {s:Sl3} {A:Option Addr} {n c:Nat} (h:BoardFp lo hi w b s) (o:Own2 base hi2 w A n c b'.saved) (hb:hi≤base) (hl:lo≤base) (hh:hi≤hi2) (e1:b'.frames=b.frames) (e2:b'.state=b.state):BoardFp lo hi2 w b' ⟨s.A1,s.n1,s.c1,s.A2,s.n2,s.c2,A,n,c⟩:=by
 obtain ⟨S1,S2,S3,k⟩:=h
 have j1:=k.i1
 have j2:=k.i2
 exact ⟨S1,S2,fun i=>base≤i∧i<hi2,by rw [e1];exact k.frames.widen (Nat.le_refl _) hh,k.f1,by rw [e2];exact k.state,k.f2,o.widen hl (Nat.le_refl _),.of o,
  k.d12,fun i x y=>by have:=j1 i x;omega,fun i x y=>by have:=j2 i x;omega,fun i x=>by have:=j1 i x;omega,fun i x=>by have:=j2 i x;omega,fun i x=>by omega⟩
end Go.Proofs.YtbnfdhidgdfbeaaGreat

namespace Go.Proofs.YtbnfdhidgdfbeaaGreat
set_option maxRecDepth 100000
open Go.RowKit

theorem Own2.setRow {lo hi base:Nat} {w:World} {g n c k:Nat} {xss:List (List Int)} {A:Option Addr} {m c1:Nat} {xs:List Int} (h:Own2 lo hi w (some ⟨g,0,none⟩) n c xss) (hk:k<n) (o:Own base w A m c1 xs) (hb:hi≤base) (hl:lo≤base) (hh:hi≤w.heap.size) :
  Own2 lo w.heap.size (w.setCell ⟨g,k,none⟩ (.slice A m c1)) (some ⟨g,0,none⟩) n c (xss.set k xs):=by
 have hlen:=h.len
 obtain ⟨vs,h1,h2,h3⟩:=h
 have hg:g<hi:=h2 _ rfl
 have hvl:vs.length=n:=by rw [h3.1];exact hlen
 have hol:=o.lt
 rcases h1.2 with ⟨hv,_⟩|⟨g',cap,cur,hv,hbg,hh',hnc,hcap,hsz,ht⟩
 ·cases hv
 ·injection hv with hA hn hc
  injection hA with hA
  injection hA with hA
  subst hA hc
  have hko:Own base (w.setCell ⟨g,k,none⟩ (.slice A m c1)) A m c1 xs:=ownsRow_block o fun a ha=>Below.heap_setCell _ _ _ _ (by have:=(hol a ha).1;show a.block≠g;omega)
  have hp:=h3.put hh' k (.slice A m c1)
  refine ⟨vs.set k (A,m,c1),⟨by simp [hvl],.inr ⟨g,c,cur.setIfInBounds k (.slice A m c1),rfl,hbg,by simp [World.setCell,Array.getElem?_modify,hh'],hnc,hcap,by simp [hsz],?_⟩⟩,fun a ha=>Nat.lt_of_lt_of_le (h2 a ha) hh,?_,?_,?_⟩
  ·simp only [Array.toList_setIfInBounds,Nat.mul_one,List.take_set,List.map_set]
   rw [show List.take n cur.toList=vs.map SV.val by simpa using ht]
   rfl
  ·rw [List.length_set,List.length_set];exact h3.1
  ·intro j v hv
   rcases Nat.decEq k j with e|e
   ·rw [List.getElem?_set_ne e] at hv
    rw [List.getElem?_set_ne e]
    obtain ⟨k1,k2⟩:=hp.2.1 j v hv
    exact ⟨k1,fun a ha=>Nat.lt_of_lt_of_le (k2 a ha) hh⟩
   ·subst e
    rw [List.getElem?_set_self (by omega)] at hv
    rw [List.getElem?_set_self (by omega)]
    injection hv with hv
    subst hv
    exact ⟨hko.more hl,fun a ha=>(hol a ha).2⟩
  ·intro i j u v hij hu hv a b ha hb'
   rcases Nat.decEq k i with e|e
   ·rw [List.getElem?_set_ne e] at hu
    have hua:=(h3.2.1 i u hu).2 a ha
    rcases Nat.decEq k j with e2|e2
    ·rw [List.getElem?_set_ne e2] at hv
     exact h3.2.2 i j u v hij hu hv a b ha hb'
    ·subst e2
     rw [List.getElem?_set_self (by omega)] at hv
     injection hv with hv
     subst hv
     have:=(hol b hb').1
     omega
   ·subst e
    rw [List.getElem?_set_self (by omega)] at hu
    injection hu with hu
    subst hu
    rw [List.getElem?_set_ne (by omega)] at hv
    have hvb:=(h3.2.1 j v hv).2 b hb'
    have:=(hol a ha).1
    omega
theorem BoardFp.row {lo hi:Nat} {w:World} {b:Bd} {s:Sl3} {k:Nat} (h:BoardFp lo hi w b s) (hk:k<s.n1) :
  ∃g A1 m1 c1,s.A1=some ⟨g,0,none⟩∧w.cell? ⟨g,k,none⟩=some (.slice A1 m1 c1)∧w.frozen? ⟨g,k,none⟩=false∧Ints w A1 m1 (b.frames[k]?.getD [])∧lo≤g∧g<hi∧g<w.heap.size:=by
 obtain ⟨S1,S2,S3,q⟩:=h
 obtain ⟨g,A1,m1,c1,h1,h2,h3,h4,-,-,-,h5,h6,h7⟩:=q.frames.rowX hk
 exact ⟨g,A1,m1,c1,h1,h2,h3,h4.ints,h5,h6,h7⟩
theorem FpIn.setRow {lo hi base:Nat} {w:World} {b b':Bd} {s:Sl3} {g k:Nat} {A:Option Addr} {m c:Nat} {xs:List Int} {S1 S2 S3:Nat→Prop} (q:FpIn w b s lo hi S1 S2 S3) (hk:k<s.n1) (hA:s.A1=some ⟨g,0,none⟩) (o:Own base w A m c xs) (hb:hi≤base) (hl:lo≤base) (hh:hi≤w.heap.size)
  (e1:b'.frames=b.frames.set k xs) (e2:b'.state=b.state) (e3:b'.saved=b.saved):FpIn (w.setCell ⟨g,k,none⟩ (.slice A m c)) b' s lo w.heap.size (fun i=>S1 i∨(base≤i∧i<w.heap.size)) S2 S3:=by
 have hfr:=q.frames
 rw [hA] at hfr
 have hf1:=q.f1 ⟨g,0,none⟩ hA
 have hgl:=q.i1 g hf1.1
 have hol:=o.lt
 have hkeep:∀i,i<w.heap.size→i≠g→(w.setCell ⟨g,k,none⟩ (.slice A m c)).heap[i]?=w.heap[i]?:=fun i _ hi=>Below.heap_setCell _ _ _ _ hi
 have k2:=q.state
 obtain ⟨p1,p2⟩:=q.saved.keepS q.f3 (w':=w.setCell ⟨g,k,none⟩ (.slice A m c)) fun i h1 h2=>hkeep i h1 fun e=>by subst e;exact q.d13 _ hf1.1 h2
 refine ⟨?_,?_,?_,q.f2,?_,p2,?_,?_,q.d23,?_,?_,?_⟩
 ·rw [e1,hA];exact hfr.setRow hk o hb hl hh
 ·intro a ha
  rw [hA] at ha
  injection ha with ha
  subst ha
  refine ⟨.inl hf1.1,fun j hj a1 m1 c1 hc=>?_⟩
  rcases Nat.decEq j k with e|e
  ·have hc:(w.setCell ⟨g,k,none⟩ (.slice A m c)).cell? ⟨g,j,none⟩=some (.slice (some a1) m1 c1):=hc
   rw [World.cell?_setCell_other _ ⟨g,k,none⟩ ⟨g,j,none⟩ _ (by intro h;injection h with _ h;exact e h.symm)] at hc
   exact .inl (hf1.2 j hj a1 m1 c1 hc)
  ·subst e
   obtain ⟨g',A1,m2,c2,hA',hck,-⟩:=hfr.row hk
   injection hA' with hA'
   injection hA' with hA'
   subst hA'
   have hc:(w.setCell ⟨g,j,none⟩ (.slice A m c)).cell? ⟨g,j,none⟩=some (.slice (some a1) m1 c1):=hc
   rw [World.cell?_setCell_same _ _ _ hck] at hc
   injection hc with hc
   injection hc with hc _ _
   exact .inr (hol a1 hc)
 ·rw [e2];exact ownsRow_block k2 fun a ha=>hkeep _ (k2.lt a ha).2 fun e=>by subst e;exact q.d12 _ hf1.1 (q.f2 a ha)
 ·rw [e3];exact p1.widen (Nat.le_refl _) hh
 ·rintro i (x|x) y
  ·exact q.d12 i x y
  ·have:=q.i2 i y;omega
 ·rintro i (x|x) y
  ·exact q.d13 i x y
  ·have:=q.i3 i y;omega
 ·rintro i (x|x)
  ·have:=q.i1 i x;omega
  ·omega
 ·intro i x;have:=q.i2 i x;omega
 ·intro i x;have:=q.i3 i x;omega
theorem BoardFp.setRow {lo hi base:Nat} {w:World} {b b':Bd} {s:Sl3} {g k:Nat} {A:Option Addr} {m c:Nat} {xs:List Int} (h:BoardFp lo hi w b s) (hk:k<s.n1) (hA:s.A1=some ⟨g,0,none⟩) (o:Own base w A m c xs) (hb:hi≤base) (hl:lo≤base) (hh:hi≤w.heap.size)
  (e1:b'.frames=b.frames.set k xs) (e2:b'.state=b.state) (e3:b'.saved=b.saved):BoardFp lo w.heap.size (w.setCell ⟨g,k,none⟩ (.slice A m c)) b' s:=by
 obtain ⟨S1,S2,S3,q⟩:=h
 exact ⟨_,_,_,q.setRow hk hA o hb hl hh e1 e2 e3⟩
/-- A board that the call owns, none of whose blocks is g0. -/
def BoardFpN (g0 lo hi:Nat) (w:World) (b:Bd) (s:Sl3):Prop:=∃S1 S2 S3,FpIn w b s lo hi S1 S2 S3∧¬S1 g0∧¬S2 g0∧¬S3 g0
theorem BoardFpN.fp {g0 lo hi:Nat} {w:World} {b:Bd} {s:Sl3} (h:BoardFpN g0 lo hi w b s):BoardFp lo hi w b s:=by
 obtain ⟨S1,S2,S3,q,-⟩:=h
 exact ⟨S1,S2,S3,q⟩
theorem FpIn.keep {lo hi:Nat} {w w':World} {b:Bd} {s:Sl3} {S1 S2 S3:Nat→Prop} (k:FpIn w b s lo hi S1 S2 S3) (hk:∀i,i<w.heap.size→(S1 i∨S2 i∨S3 i)→w'.heap[i]?=w.heap[i]?):FpIn w' b s lo hi S1 S2 S3:=by
 obtain ⟨p1,p2⟩:=k.frames.keepS k.f1 (w':=w') fun i h1 h2=>hk i h1 (.inl h2)
 obtain ⟨q1,q2⟩:=k.saved.keepS k.f3 (w':=w') fun i h1 h2=>hk i h1 (.inr (.inr h2))
 exact ⟨p1,p2,ownsRow_block k.state fun a ha=>hk _ (k.state.lt a ha).2 (.inr (.inl (k.f2 a ha))),k.f2,q1,q2,k.d12,k.d13,k.d23,k.i1,k.i2,k.i3⟩
theorem BoardFpN.below {g0 lo hi:Nat} {w w':World} {b:Bd} {s:Sl3} (h:BoardFpN g0 lo hi w b s) (hb:Below w.heap.size w w'):BoardFpN g0 lo hi w' b s:=by
 obtain ⟨S1,S2,S3,q,n⟩:=h
 exact ⟨S1,S2,S3,q.keep fun i hi _=>hb.block i hi,n⟩
theorem BoardFpN.dev {g0 lo hi:Nat} {w:World} {b b':Bd} {s:Sl3} (h:BoardFpN g0 lo hi w b s) (e1:b'.frames=b.frames) (e2:b'.state=b.state) (e3:b'.saved=b.saved):BoardFpN g0 lo hi w b' s:=by
 obtain ⟨S1,S2,S3,k,n⟩:=h
 exact ⟨S1,S2,S3,⟨by rw [e1];exact k.frames,k.f1,by rw [e2];exact k.state,k.f2,by rw [e3];exact k.saved,k.f3,k.d12,k.d13,k.d23,k.i1,k.i2,k.i3⟩,n⟩
theorem BoardFpN.chg {g0 lo hi:Nat} {w w':World} {b:Bd} {s:Sl3} (h:BoardFpN g0 lo hi w b s) (hc:Chg g0 (g0+1) w w'):BoardFpN g0 lo hi w' b s:=by
 obtain ⟨S1,S2,S3,q,n1,n2,n3⟩:=h
 refine ⟨S1,S2,S3,q.keep fun i hi hs=>hc.block i hi ?_,n1,n2,n3⟩
 rcases Nat.lt_trichotomy i g0 with h|h|h
 ·exact .inl h
 ·subst h
  rcases hs with h|h|h
  ·exact absurd h n1
  ·exact absurd h n2
  ·exact absurd h n3
 ·exact .inr h
theorem BoardFpN.setRow {g0 lo hi base:Nat} {w:World} {b b':Bd} {s:Sl3} {g k:Nat} {A:Option Addr} {m c:Nat} {xs:List Int} (h:BoardFpN g0 lo hi w b s) (hk:k<s.n1) (hA:s.A1=some ⟨g,0,none⟩) (o:Own base w A m c xs) (hb:hi≤base) (hl:lo≤base) (hh:hi≤w.heap.size) (hg:g0<base)
  (e1:b'.frames=b.frames.set k xs) (e2:b'.state=b.state) (e3:b'.saved=b.saved):BoardFpN g0 lo w.heap.size (w.setCell ⟨g,k,none⟩ (.slice A m c)) b' s:=by
 obtain ⟨S1,S2,S3,q,n1,n2,n3⟩:=h
 exact ⟨_,_,_,q.setRow hk hA o hb hl hh e1 e2 e3,fun x=>x.elim n1 fun y=>by omega,n2,n3⟩
theorem BoardFp.stateAt {lo hi:Nat} {w:World} {b:Bd} {s:Sl3} {k:Nat} (h:BoardFp lo hi w b s) (hk:k<s.n2) :
  ∃g,s.A2=some ⟨g,0,none⟩∧w.cell? ⟨g,k,none⟩=some (.int .i64 (b.state[k]?.getD 0))∧w.frozen? ⟨g,k,none⟩=false∧lo≤g∧g<hi∧g<w.heap.size:=by
 obtain ⟨S1,S2,S3,q⟩:=h
 obtain ⟨g,cur,hA,h1,h2,-⟩:=q.state.block (by omega)
 have hst:=q.state
 rw [hA] at hst
 obtain ⟨h3,h4⟩:=hst.cellAt hk
 have h5:=q.i2 _ (q.f2 _ hA)
 exact ⟨g,hA,h3,h4,h5.1,h5.2,h2⟩
theorem BoardFp.setNum {lo hi:Nat} {w:World} {b b':Bd} {s:Sl3} {g k:Nat} {x:Int} (h:BoardFp lo hi w b s) (hk:k<s.n2) (hA:s.A2=some ⟨g,0,none⟩)
  (e1:b'.frames=b.frames) (e2:b'.state=b.state.set k x) (e3:b'.saved=b.saved):BoardFp lo hi (w.setCell ⟨g,k,none⟩ (.int .i64 x)) b' s:=by
 obtain ⟨S1,S2,S3,q⟩:=h
 have hg2:=q.f2 _ hA
 have hkeep:∀i,i<w.heap.size→i≠g→(w.setCell ⟨g,k,none⟩ (.int .i64 x)).heap[i]?=w.heap[i]?:=fun i _ hi=>Below.heap_setCell _ _ _ _ hi
 obtain ⟨p1,p2⟩:=q.saved.keepS q.f3 (w':=w.setCell ⟨g,k,none⟩ (.int .i64 x)) fun i h1 h2=>hkeep i h1 fun e=>by subst e;exact q.d23 _ hg2 h2
 obtain ⟨r1,r2⟩:=q.frames.keepS q.f1 (w':=w.setCell ⟨g,k,none⟩ (.int .i64 x)) fun i h1 h2=>hkeep i h1 fun e=>by subst e;exact q.d12 _ h2 hg2
 have hst:=q.state
 rw [hA] at hst
 refine ⟨S1,S2,S3,by rw [e1];exact r1,r2,?_,q.f2,by rw [e3];exact p1,p2,q.d12,q.d13,q.d23,q.i1,q.i2,q.i3⟩
 rw [e2,hA]
 exact hst.stored hk x
end Go.Proofs.YtbnfdhidgdfbeaaGreat

namespace Go.Proofs.YtbnfdhidgdfbeaaGreat
set_option maxRecDepth 100000
open Go.RowKit

set_option maxHeartbeats 1000000 in
theorem sboardOk_any (b:Bd) (s:Sl3) (w:World) (hA:BoardRd w b s) (hz1:size2 b.frames≤1099511627776) (h2:s.n2≤16777216) (h3:size2 b.saved≤1099511627776) :
  Calls Tryz.prog 56 #[.agg (bdArr b s)] w fun e w'=>e = .returned (.bool (bkF b))∧Below w.heap.size w w':=by
 obtain ⟨d,fs,st,ph,r,sv⟩:=b
 obtain ⟨A1,n1,c1,A2,n2,c2,A3,n3,c3⟩:=s
 have HB0:=Lib.hid (below_new (Below.refl w.heap.size w) (.cells (bdArr ⟨d,fs,st,ph,r,sv⟩ ⟨A1,n1,c1,A2,n2,c2,A3,n3,c3⟩) 31))
 have HI:=Lib.hid hA
 dsimp only at hz1 h2 h3
 clear hA
 go_enter Tryz.func56,Tryz.ntmps56
 go_wp2_with fail
 refine (sframesOk_any d A1 n1 c1 fs _ (HI.out.frames.below HB0.out) hz1).mono ?_
 rintro e w1 ⟨rfl,b1⟩
 have hs1:=b1.size
 simp only [World.size_alloc] at hs1
 have D1:=Lib.hid b1
 obtain ⟨hcc,hff⟩:=bcell b1
 clear b1
 cases hf:framesOk d fs with
 | false =>
  have HF:Hid (bkF ⟨d,fs,st,ph,r,sv⟩=false):=by show _=_;unfold bkF;rw [hf];rfl
  clear hf
  go_wp2_with fail
  go_ret
  exact ⟨ret_bool HF.out.symm,below_tr HB0.out D1.out⟩
 | true =>
  have HFO:=Lib.hid hf
  clear hf
  go_wp2_with fail
  refine (semuStateOk_any d A2 n2 c2 st _ (HI.out.state.below (below_tr HB0.out D1.out)) h2).mono ?_
  rintro e w2 ⟨rfl,b2⟩
  have D2:=Lib.hid (below_tr D1.out b2)
  have hs2:=b2.size
  clear b2 hcc hff
  obtain ⟨hcc,hff⟩:=bcell D2.out
  cases hst:stOk d st with
  | false =>
   have HF:Hid (bkF ⟨d,fs,st,ph,r,sv⟩=false):=by show _=_;unfold bkF;rw [hst];simp
   clear hst
   go_wp2_with fail
   go_ret
   exact ⟨ret_bool HF.out.symm,below_tr HB0.out D2.out⟩
  | true =>
   have HF:Hid (bkF ⟨d,fs,st,ph,r,sv⟩=(if ph=0∨ph=2 then (regZ r && decide (sv.length=0)) else decide (ph=1) && rqF d sv r)):=by show _=_;unfold bkF;rw [hst,HFO.out];rfl
   clear hst
   by_cases h1:ph=1
   ·subst h1
    rw [if_neg (by omega)] at HF
    go_wp2_with fail
    refine (sregionQuiet_any d A3 n3 c3 sv r _ (HI.out.saved.below (below_tr HB0.out D2.out)) h3).mono ?_
    rintro e w5 ⟨rfl,b5⟩
    have D5:=Lib.hid (below_tr D2.out b5)
    clear b5 hcc hff
    go_wp2_with fail
    go_ret
    exact ⟨ret_bool (by rw [HF.out];simp),below_tr HB0.out D5.out⟩
   ·by_cases h2':ph=0∨ph=2
    ·rw [if_pos h2'] at HF
     have hln:sv.length=n3:=HI.out.saved.1
     have HLN:=Lib.hid hln
     clear hln
     obtain ⟨x0,y0,x1,y1⟩:=r
     have HZ:Hid (regZ ⟨x0,y0,x1,y1⟩=(decide (x0=0) && (decide (y0=0) && (decide (x1=0) && decide (y1=0))))):=rfl
     by_cases hz:x0=0∧y0=0∧x1=0∧y1=0
     ·obtain ⟨rfl,rfl,rfl,rfl⟩:=hz
      have HE:Hid (((n3:Int)==0)=decide (n3=0)):=by show _=_;rw [Bool.eq_iff_iff,beq_iff_eq,decide_eq_true_iff];omega
      rcases h2' with rfl|rfl
      ·go_wp2_with fail
       go_ret
       exact ⟨ret_bool (by rw [HF.out,HZ.out,HLN.out,HE.out];simp),below_tr HB0.out D2.out⟩
      ·go_wp2_with fail
       go_ret
       exact ⟨ret_bool (by rw [HF.out,HZ.out,HLN.out,HE.out];simp),below_tr HB0.out D2.out⟩
     ·have HZF:Hid (regZ ⟨x0,y0,x1,y1⟩=false):=by
       rw [HZ.out]
       show _=_
       by_cases a:x0=0
       ·by_cases b:y0=0
        ·by_cases c:x1=0
         ·rw [decide_eq_false (p:=y1=0) (fun e=>hz ⟨a,b,c,e⟩)];simp
         ·rw [decide_eq_false c];simp
        ·rw [decide_eq_false b];simp
       ·rw [decide_eq_false a];simp
      rcases h2' with rfl|rfl
      ·go_wp2_with fail
       all_goals
        go_ret
        exact ⟨ret_bool (by rw [HF.out,HZF.out];rfl),below_tr HB0.out D2.out⟩
      ·go_wp2_with fail
       all_goals
        go_ret
        exact ⟨ret_bool (by rw [HF.out,HZF.out];rfl),below_tr HB0.out D2.out⟩
    ·rw [if_neg h2'] at HF
     have p0:(ph==0)=false:=by rw [beq_eq_false_iff_ne];omega
     have p1:(ph==1)=false:=by rw [beq_eq_false_iff_ne];omega
     have p2:(ph==2)=false:=by rw [beq_eq_false_iff_ne];omega
     have HE:Hid (decide (ph=1)=false):=by show _=_;simp [h1]
     clear h2' h1
     go_wp2_with fail
     go_ret
     exact ⟨ret_bool (by rw [HF.out,HE.out];rfl),below_tr HB0.out D2.out⟩
end Go.Proofs.YtbnfdhidgdfbeaaGreat

namespace Go.Proofs.YtbnfdhidgdfbeaaGreat
set_option maxRecDepth 100000
open Go.RowKit

abbrev z12:Array Value:=#[.int .i64 0,.int .i64 0,.int .i64 0,.int .i64 0,.slice none 0 0,.slice none 0 0,.int .i64 0,.int .i64 0,.int .i64 0,.int .i64 0,.int .i64 0,.slice none 0 0]
abbrev zSl:Sl3:=⟨none,0,0,none,0,0,none,0,0⟩
/-- Block g holds a board's value. -/
def BkAt (w:World) (g:Nat) (b:Bd) (s:Sl3):Prop:=w.heap[g]?=some (.cells (bdArr b s) 31 (0,0))
theorem BkAt.tr {w w':World} {g:Nat} {b:Bd} {s:Sl3} (h:BkAt w g b s) (hb:Below w.heap.size w w'):BkAt w' g b s:=heap_tr hb h
theorem BkAt.far {w:World} {g:Nat} {b:Bd} {s:Sl3} (h:BkAt w g b s) {p:Addr} (hp:g≠p.block) (v:Value):BkAt (w.setCell p v) g b s:=heap_setFar h hp v
theorem BkAt.chg {w w':World} {g lo hi:Nat} {b:Bd} {s:Sl3} (h:BkAt w g b s) (hc:Chg lo hi w w') (hn:g<lo∨hi≤g):BkAt w' g b s:=(hc.block g (heap_lt0 h) hn).trans h
theorem BkAt.cells {w:World} {g:Nat} {b:Bd} {s:Sl3} (h:BkAt w g b s):w.cell? ⟨g,0,none⟩=some (.int .i64 b.dev.W)∧w.cell? ⟨g,1,none⟩=some (.int .i64 b.dev.H)∧w.cell? ⟨g,2,none⟩=some (.int .i64 b.dev.T)∧w.cell? ⟨g,3,none⟩=some (.int .i64 b.dev.R)∧w.cell? ⟨g,4,none⟩=some (.slice s.A1 s.n1 s.c1)∧w.cell? ⟨g,5,none⟩=some (.slice s.A2 s.n2 s.c2)∧w.cell? ⟨g,6,none⟩=some (.int .i64 b.phase)∧w.cell? ⟨g,7,none⟩=some (.int .i64 b.reg.X0)∧w.cell? ⟨g,8,none⟩=some (.int .i64 b.reg.Y0)∧w.cell? ⟨g,9,none⟩=some (.int .i64 b.reg.X1)∧w.cell? ⟨g,10,none⟩=some (.int .i64 b.reg.Y1)∧w.cell? ⟨g,11,none⟩=some (.slice s.A3 s.n3 s.c3):=cells12 h
theorem BkAt.soft {w:World} {g:Nat} {b:Bd} {s:Sl3} (h:BkAt w g b s):∀k,w.frozen? ⟨g,k,none⟩=false:=fun k=>frozen_heap h k
abbrev put12 (w:World) (g:Nat) (b:Bd) (s:Sl3):World:=((((((((((((w.setCell ⟨g,0,none⟩ (.int .i64 b.dev.W)).setCell ⟨g,1,none⟩ (.int .i64 b.dev.H)).setCell ⟨g,2,none⟩ (.int .i64 b.dev.T)).setCell ⟨g,3,none⟩ (.int .i64 b.dev.R)).setCell ⟨g,4,none⟩ (.slice s.A1 s.n1 s.c1)).setCell ⟨g,5,none⟩ (.slice s.A2 s.n2 s.c2)).setCell ⟨g,6,none⟩ (.int .i64 b.phase)).setCell ⟨g,7,none⟩ (.int .i64 b.reg.X0)).setCell ⟨g,8,none⟩ (.int .i64 b.reg.Y0)).setCell ⟨g,9,none⟩ (.int .i64 b.reg.X1)).setCell ⟨g,10,none⟩ (.int .i64 b.reg.Y1)).setCell ⟨g,11,none⟩ (.slice s.A3 s.n3 s.c3))
theorem chg_put12 {w:World} {g:Nat} (b:Bd) (s:Sl3):Chg g (g+1) w (put12 w g b s):=by
 repeat (first|with_reducible exact Chg.refl _ _ _|with_reducible refine Chg.set ?_ (Nat.le_refl _) (Nat.lt_succ_self _) _)
/-- The twelve stores into a block. -/
theorem fin12 {w W WF:World} {lo gr:Nat} {b b':Bd} {s s':Sl3} (hWF:put12 W gr b' s'=WF) (hz:BkAt W gr b s) (hB:Below lo w W) (hlo:lo≤gr):BkAt WF gr b' s'∧W.heap.size≤WF.heap.size∧Below lo w WF∧Chg gr (gr+1) W WF:=by
 have hC:=chg_put12 (w:=W) (g:=gr) b' s'
 rw [hWF] at hC
 refine ⟨by rw [←hWF];exact set12 hz,hC.size,?_,hC⟩
 exact ⟨hC.os.trans hB.os,hC.tape.trans hB.tape,hC.output.trans hB.output,Nat.le_trans hB.size hC.size,fun k hk=>(hC.block k (by have:=heap_lt0 hz;omega) (.inl (by omega))).trans (hB.block k hk)⟩
end Go.Proofs.YtbnfdhidgdfbeaaGreat

namespace Go.Proofs.YtbnfdhidgdfbeaaGreat
set_option maxRecDepth 100000
open Go.RowKit
set_option maxHeartbeats 4000000 in
theorem running_any (b:Bd) (s:Sl3) (ph:Int) (w:World) :
  Calls Tryz.prog 65 #[.agg (bdArr b s),.int .i64 ph] w fun e w'=>e = .returned (.agg (bdArr ⟨b.dev,b.frames,b.state,ph,rZ,[]⟩ ⟨s.A1,s.n1,s.c1,s.A2,s.n2,s.c2,none,0,0⟩))∧Below w.heap.size w w':=by
 go_enter Tryz.func65,Tryz.ntmps65
 go_wp2_with fail
 refine bodyPost_ret (v := .agg (bdArr ⟨b.dev,b.frames,b.state,ph,rZ,[]⟩ ⟨s.A1,s.n1,s.c1,s.A2,s.n2,s.c2,none,0,0⟩)) (results_cell1 Tryz.results65 rfl (heap_newAt (by simp)) Tryz.underlying31 (by kernel_rfl)) rfl ⟨rfl,below_new (below_new (Below.refl _ _) _) _⟩
end Go.Proofs.YtbnfdhidgdfbeaaGreat

namespace Go.Proofs.YtbnfdhidgdfbeaaGreat
set_option maxRecDepth 100000
open Go.RowKit
theorem keep3c {w w':World} {a1 a2 a3:Addr} {v1 v2 v3:Value} (hb:Below w.heap.size w w') (h1:a1.block<w.heap.size) (h2:a2.block<w.heap.size) (h3:a3.block<w.heap.size) (h:w.cell? a1=some v1∧w.cell? a2=some v2∧w.cell? a3=some v3):w'.cell? a1=some v1∧w'.cell? a2=some v2∧w'.cell? a3=some v3 :=
 ⟨(hb.cell h1).trans h.1,(hb.cell h2).trans h.2.1,(hb.cell h3).trans h.2.2⟩
theorem keep3s {w:World} {p a1 a2 a3:Addr} {v v1 v2 v3:Value} (h1:a1.block≠p.block) (h2:a2.block≠p.block) (h3:a3.block≠p.block) (h:w.cell? a1=some v1∧w.cell? a2=some v2∧w.cell? a3=some v3):(w.setCell p v).cell? a1=some v1∧(w.setCell p v).cell? a2=some v2∧(w.setCell p v).cell? a3=some v3 :=
 ⟨(World.cell?_of_block (Below.heap_setCell w p v _ h1)).trans h.1,(World.cell?_of_block (Below.heap_setCell w p v _ h2)).trans h.2.1,(World.cell?_of_block (Below.heap_setCell w p v _ h3)).trans h.2.2⟩
theorem frozen_below {w w':World} {b o:Nat} (hb:Below w.heap.size w w') (h:b<w.heap.size) (hf:w.frozen? ⟨b,o,none⟩=false):w'.frozen? ⟨b,o,none⟩=false:=by
 have e:=hb.block b h
 simp only [World.frozen?,e] at hf ⊢
 exact hf
theorem ints_far {w:World} {A:Option Addr} {n:Nat} {xs:List Int} {p:Addr} (h:Ints w A n xs) (v:Value) (hne:∀a,A=some a→a.block≠p.block):Ints (w.setCell p v) A n xs:=by
 refine ⟨h.1,fun hn=>?_⟩
 obtain ⟨b,o,rfl,hb,hc⟩:=h.2 hn
 exact ⟨b,o,rfl,by simpa using hb,fun j hj=>(World.cell?_of_block (a:=⟨b,o+j,none⟩) (Below.heap_setCell w p v b (hne _ rfl))).trans (hc j hj)⟩
theorem ab_parts {b:Bd} (h:abO b=true):b.frames.length=tiles b.dev∧b.saved.length=tiles b.dev∧(∀j:Nat,(b.saved[j]?.getD []).length≤11)∧tiles b.dev≤36:=by
 obtain ⟨hb,hp⟩:=abO_parts h
 obtain ⟨hf,-,-,hr,-⟩:=bk_parts hb
 have hs:=(rq_parts (hr hp)).1
 exact ⟨(frames_n hf).1,(frames_n hs).1,frame_len hs,by have:=frames_n hf;omega⟩
theorem abF_all (b:Bd) (ts:List Int) (h:ts=regTiles b.dev b.reg) (m:Nat) (hm:ts.length=m):abF b.saved (ts.take m) b.frames=(rbB b).frames:=by
 rw [List.take_of_length_le (by omega),h]
 rfl
set_option maxHeartbeats 4000000 in
theorem aborted_any (b:Bd) (s:Sl3) (w:World) (hA:BoardRd w b s) (ho:abO b=true) (hz1:size2 b.frames≤1099511627776) (h2:s.n2≤16777216) (h3:size2 b.saved≤1099511627776) :
  Calls Tryz.prog 62 #[.agg (bdArr b s)] w fun e w'=>∃R,e = .returned (.agg (bdArr (rbB b) R))∧BoardFp w.heap.size w'.heap.size w' (rbB b) R∧Below w.heap.size w w':=by
 have hz:BdOk b:=⟨hz1,by have:=hA.state.1;omega,h3⟩
 have HI:=Lib.hid hA
 have HB:=Lib.hid (below_new (below_new (Below.refl w.heap.size w) (.cells (bdArr b s) 31)) (.cells z12 31))
 have HX:Hid (BkAt ((w.alloc (.cells (bdArr b s) 31)).alloc (.cells z12 31)) w.heap.size b s):=heap_al _ (heap_new _ _)
 have HZ:Hid (BkAt ((w.alloc (.cells (bdArr b s) 31)).alloc (.cells z12 31)) (w.heap.size+1) zBd zSl):=heap_newAt (by simp)
 have hsz:w.heap.size+2≤((w.alloc (.cells (bdArr b s) 31)).alloc (.cells z12 31)).heap.size:=by simp
 have HAP:=Lib.hid (ab_parts ho)
 clear ho
 clear hA
 go_enter Tryz.func62,Tryz.ntmps62
 go_wp2_with fail
 generalize hW:((w.alloc (.cells (bdArr b s) 31)).alloc (.cells z12 31))=W at *
 clear hW
 refine (copyBoard_any b s _ (HI.out.below HB.out) hz).mono ?_
 rintro e w1 ⟨R,rfl,a1,b1⟩
 have HF:=Lib.hid a1.fp
 have hs0:=b1.size
 replace HB:=Lib.hid (below_tr HB.out b1)
 replace HX:=Lib.hid (HX.out.tr b1)
 replace HZ:=Lib.hid (HZ.out.tr b1)
 clear a1 b1
 have b2:Below w1.heap.size w1 (w1.alloc (.cells (bdArr b R) 31)):=below_new (Below.refl _ _) _
 have HO:Hid (BkAt (w1.alloc (.cells (bdArr b R) 31)) w1.heap.size b R):=heap_new _ _
 have hs2:w1.heap.size<(w1.alloc (.cells (bdArr b R) 31)).heap.size:=by simp
 replace HF:=Lib.hid (HF.out.below b2)
 replace HB:=Lib.hid (below_tr HB.out b2)
 replace HX:=Lib.hid (HX.out.tr b2)
 replace HZ:=Lib.hid (HZ.out.tr b2)
 obtain ⟨x0,x1,x2,x3,x4,x5,x6,x7,x8,x9,x10,x11⟩:=HX.out.cells
 go_wp2_with fail
 generalize hW2:(w1.alloc (.cells (bdArr b R) 31))=W2 at *
 clear x0 x1 x2 x3 x4 x5 x6 x7 x8 x9 x10 x11
 clear hW2 b2
 refine (regionTiles_any b.dev b.reg _).mono ?_
 rintro e w4 ⟨TA,m,tc,rfl,o4,b4⟩
 have hTL:=o4.len
 have hmb:m≤36:=by have h1:=regTiles_le b.dev b.reg;omega
 have HT:=Lib.hid o4.ints
 have HTA:=Lib.hid o4.lies
 have hs2:=b4.size
 replace HB:=Lib.hid (below_tr HB.out b4)
 replace HX:=Lib.hid (HX.out.tr b4)
 replace HZ:=Lib.hid (HZ.out.tr b4)
 replace HO:=Lib.hid (HO.out.tr b4)
 replace HF:=Lib.hid (HF.out.below b4)
 clear b4 o4
 have hRT:∀j,j<(regTiles b.dev b.reg).length→0≤(regTiles b.dev b.reg)[j]?.getD 0∧(regTiles b.dev b.reg)[j]?.getD 0<(tiles b.dev:Int):=fun j hj=>regTiles_in hj
 have HRT:=Lib.hid hRT
 have HTL:=Lib.hid hTL
 have HTE:Hid (regTiles b.dev b.reg=regTiles b.dev b.reg):=rfl
 clear hRT hTL
 generalize hts:regTiles b.dev b.reg=ts at HT HRT HTL HTE
 have HTS:=Lib.hid hts
 clear hts HTE
 go_wp2_with fail
 go_loopw [14] (fun i wr=>∃(k hi:Nat),k≤m∧i = .int .i64 k∧Below w.heap.size w wr∧BkAt wr w.heap.size b s∧BkAt wr (w.heap.size+1) zBd zSl∧BkAt wr w1.heap.size b R∧Ints wr TA m ts∧hi≤wr.heap.size∧BoardFp W.heap.size hi wr { b with frames:=abF b.saved (ts.take k) b.frames } R∧w4.heap.size≤wr.heap.size) (fun i _=>m - (intOf i).toNat)
 case atStart=>exact ⟨0,w1.heap.size,Nat.zero_le _,rfl,HB.out,HX.out,HZ.out,HO.out,HT.out,by omega,HF.out.dev rfl rfl rfl,Nat.le_refl _⟩
 case round =>
  obtain ⟨k,hi,hk,rfl,hb1,hx1,hz1,ho1,ht1,hhi,hf1,hsr⟩:=hrel
  have HBr:=Lib.hid hb1
  have HXr:=Lib.hid hx1
  have HZr:=Lib.hid hz1
  have HOr:=Lib.hid ho1
  have HTr:=Lib.hid ht1
  have HFr:=Lib.hid hf1
  clear hb1 hx1 hz1 ho1 ht1 hf1
  by_cases hlt:k<m
  ·have hdk:decide ((k:Int)<(m:Int))=true:=by simp;omega
   obtain ⟨t0,t1⟩:=HRT.out k (by rw [HTL.out];exact hlt)
   have HST:=Lib.hid (abF_take (sv:=b.saved) (l:=b.frames) (ts:=ts) (k:=k) (by rw [HTL.out];exact hlt))
   obtain ⟨bt,ot,hTA,hbt,hct⟩:=HTr.out.2 (by omega)
   have hck:=hct k hlt
   have hbtl:w.heap.size+2≤bt:=by have h:=(HTA.out ⟨bt,ot,none⟩ hTA).1;simp only at h;omega
   have hbt1:w1.heap.size<bt:=by have h:=(HTA.out ⟨bt,ot,none⟩ hTA).1;simp only at h;omega
   subst hTA
   clear hct
   generalize ts[k]?.getD 0=t at *
   obtain ⟨tn,rfl⟩:=Int.eq_ofNat_of_zero_le t0
   rw [Int.toNat_natCast] at HST
   obtain ⟨p1,p2,p3,p4⟩:=HAP.out
   have q1:R.n1=tiles b.dev:=by have h:=HFr.out.rd.frames.1;have h2:=abF_length b.saved (ts.take k) b.frames;simp only at h;omega
   have q3:s.n3=tiles b.dev:=by have h:=HI.out.saved.1;omega
   obtain ⟨bs,os,hA3,hbs,hcs⟩:=HI.out.saved.2 (by omega)
   obtain ⟨A5,m5,c5,hcr,hIr⟩:=hcs tn (by omega)
   have hm5:m5≤1099511627776:=by have h:=p3 tn;have h2:=hIr.1;omega
   have HJ:=Lib.hid (hIr.below HBr.out)
   rw [←HBr.out.cell (p:=⟨bs,os+tn,none⟩) hbs] at hcr
   obtain ⟨g,G1,g1,g2,hA1,hgc,hgf,-,hg1,hg2,hg3⟩:=HFr.out.row (k:=tn) (by omega)
   obtain ⟨S1,S2,S3,hfp⟩:=HF.out
   have hg4:W.heap.size≤g∧g<w1.heap.size:=hfp.i1 _ (hfp.f1 ⟨g,0,none⟩ hA1).1
   have t2:(tn:Int)<(s.n3:Int):=by omega
   have t3:(tn:Int)<(R.n1:Int):=by omega
   have hwr:w.heap.size<wr.heap.size:=by omega
   have hw1r:w1.heap.size<wr.heap.size:=by omega
   have hbsr:bs<wr.heap.size:=by omega
   have i0:(0:Int)≤(k:Int):=by omega
   have i1:(k:Int)<(m:Int):=by omega
   have hbw:bt<wr.heap.size:=hbt
   clear hfp S1 S2 S3 hcs hIr p1 p2 p3 q1 q3 hbt
   obtain ⟨x0,x1,x2,x3,x4,x5,x6,x7,x8,x9,x10,x11⟩:=HXr.out.cells
   obtain ⟨o0,o1,o2,o3,o4,o5,o6,o7,o8,o9,o10,o11⟩:=HOr.out.cells
   rw [hA3] at x11
   rw [hA1] at o4
   have HA1:=Lib.hid hA1
   clear hA1 hA3
   have HQ:=Lib.hid (And.intro x11 (And.intro o4 hcr))
   have hD:=Below.refl wr.heap.size wr
   have n1:w.heap.size≠g:=by omega
   have n2:w1.heap.size≠g:=by omega
   have n3:bs≠g:=by omega
   go_wp2_with fail
   go_region_held3 (fun w'=>w'.cell? ⟨w.heap.size,11,none⟩=some (.slice (some ⟨bs,os,none⟩) s.n3 s.c3)∧w'.cell? ⟨w1.heap.size,4,none⟩=some (.slice (some ⟨g,0,none⟩) R.n1 R.c1)∧w'.cell? ⟨bs,os+tn,none⟩=some (.slice A5 m5 c5))
    (first|with_reducible exact keep3c (hD) hwr hw1r hbsr HQ.out|with_reducible exact keep3c (hD.drew) hwr hw1r hbsr HQ.out|with_reducible exact keep3s n1 n2 n3 (keep3c (hD) hwr hw1r hbsr HQ.out)|with_reducible exact keep3s n1 n2 n3 (keep3c (hD.drew) hwr hw1r hbsr HQ.out))
    ((go_at_call 121;(with_reducible refine (copyInts_any A5 m5 c5 (b.saved[tn]?.getD []) _ (HJ.out.below (by first|with_reducible exact hD|with_reducible exact hD.drew)) hm5).mono ?_);rintro e w6 ⟨A6,c6,rfl,o6,b6⟩;have O6:=Lib.hid (o6.more (base':=wr.heap.size) (Nat.le_refl _));have hD2:=below_tr (a:=wr) (by first|with_reducible exact hD|with_reducible exact hD.drew) b6;clear b6 o6;replace hD:=hD2;have hg6:=(hD.cell (p:=⟨g,tn,none⟩) hg3).trans hgc;have hf6:=frozen_below hD hg3 hgf))
   have hs6:=hD.size
   have HK:Hid (BoardFp W.heap.size w6.heap.size (w6.setCell ⟨g,tn,none⟩ (.slice A6 m5 c6)) { b with frames:=abF b.saved (ts.take (k+1)) b.frames } R):=(HFr.out.below hD).setRow (k:=tn) (by omega) HA1.out O6.out (by omega) (by omega) (by omega) HST.out rfl rfl
   have HI6:=Lib.hid (ints_far (p:=⟨g,tn,none⟩) (HTr.out.below hD) (.slice A6 m5 c6) (by rintro a ⟨⟩;simp only;omega))
   have HB6:=Lib.hid ((below_tr HBr.out hD).setCell (p:=⟨g,tn,none⟩) (by simp only;omega) (.slice A6 m5 c6))
   have HX6:=Lib.hid ((HXr.out.tr hD).far (p:=⟨g,tn,none⟩) (by simp only;omega) (.slice A6 m5 c6))
   have HZ6:=Lib.hid ((HZr.out.tr hD).far (p:=⟨g,tn,none⟩) (by simp only;omega) (.slice A6 m5 c6))
   have HO6:=Lib.hid ((HOr.out.tr hD).far (p:=⟨g,tn,none⟩) (by simp only;omega) (.slice A6 m5 c6))
   clear x0 x1 x2 x3 x4 x5 x6 x7 x8 x9 x10 x11 o0 o1 o2 o3 o4 o5 o6 o7 o8 o9 o10 o11 hcr hgc hgf hg6 hf6 hck
   go_wp2_with fail
   go_roundw
   case rel=>exact ⟨k+1,w6.heap.size,by omega,by go_num,HB6.out,HX6.out,HZ6.out,HO6.out,HI6.out,by simp,HK.out,by simp;omega⟩
   case measure=>simp [intOf];omega
  ·have hkm:k=m:=by omega
   subst hkm
   have hdk:decide ((k:Int)<(k:Int))=false:=by simp
   have HEQ:=Lib.hid (abF_all b ts HTS.out.symm k HTL.out)
   obtain ⟨o0,o1,o2,o3,o4,o5,o6,o7,o8,o9,o10,o11⟩:=HOr.out.cells
   go_wp2_with fail
   clear o0 o1 o2 o3 o4 o5 o6 o7 o8 o9 o10 o11
   refine (running_any b R 0 _).mono ?_
   rintro e w5 ⟨rfl,b5⟩
   have hs5:=b5.size
   have HB5:=Lib.hid (below_tr HBr.out b5)
   have HZ5:=Lib.hid (HZr.out.tr b5)
   have HF5:=Lib.hid (HFr.out.below b5)
   clear b5
   obtain ⟨z0,z1,z2,z3,z4,z5,z6,z7,z8,z9,z10,z11⟩:=HZ5.out.cells
   have yz:=HZ5.out.soft
   go_wp2_with fail
   clear z0 z1 z2 z3 z4 z5 z6 z7 z8 z9 z10 z11 yz
   have HU:Hid (rbB b=⟨b.dev,abF b.saved (regTiles b.dev b.reg) b.frames,b.state,0,rZ,[]⟩):=rfl
   generalize hWF:World.setCell _ _ _=WF
   obtain ⟨hbk,hszF,hBF,hCF⟩:=fin12 (W:=w5) (b':=⟨b.dev,abF b.saved (regTiles b.dev b.reg) b.frames,b.state,0,rZ,[]⟩) (s':=⟨R.A1,R.n1,R.c1,R.A2,R.n2,R.c2,none,0,0⟩) hWF (HZ5.out) (HB5.out) (by omega)
   have hR:BoardFp w.heap.size WF.heap.size WF ⟨b.dev,abF b.saved (regTiles b.dev b.reg) b.frames,b.state,0,rZ,[]⟩ ⟨R.A1,R.n1,R.c1,R.A2,R.n2,R.c2,none,0,0⟩:=((HF5.out.clear (b':=⟨b.dev,abF b.saved (regTiles b.dev b.reg) b.frames,b.state,0,rZ,[]⟩) rfl rfl HEQ.out.symm rfl rfl).chg hCF (.inr (by omega))).widen (by omega) (by omega)
   clear hWF
   refine bodyPost_ret (v := .agg (bdArr ⟨b.dev,abF b.saved (regTiles b.dev b.reg) b.frames,b.state,0,rZ,[]⟩ ⟨R.A1,R.n1,R.c1,R.A2,R.n2,R.c2,none,0,0⟩)) (results_cell1 Tryz.results62 rfl hbk Tryz.underlying31 (by kernel_rfl)) rfl ⟨⟨R.A1,R.n1,R.c1,R.A2,R.n2,R.c2,none,0,0⟩,by rw [HU.out],by rw [HU.out];exact hR,hBF⟩
end Go.Proofs.YtbnfdhidgdfbeaaGreat
