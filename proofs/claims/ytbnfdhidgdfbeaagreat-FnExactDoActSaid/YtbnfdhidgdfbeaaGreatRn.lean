/- Boards whose rows may lie anywhere: footprints by sets of blocks. RegionQuiet of the reference. Stores into a board's slices: a whole row of the frames, a number of the state. BoardOk of the reference. The steps that the operations of a board share. running (printed by mkop.py). -/
import Derived.Test.YtbnfdhidgdfbeaaGreatCpr
import Derived.Test.YtbnfdhidgdfbeaaGreatNbs
import Derived.Test.YtbnfdhidgdfbeaaGreatOpp
import Derived.Test.YtbnfdhidgdfbeaaGreatRq
import Derived.Test.YtbnfdhidgdfbeaaGreatValS
namespace Go.Proofs.YtbnfdhidgdfbeaaGreat
set_option maxRecDepth 100000
open Go.RowKit

structure ChgS (S:Nat→Prop) (w w':World):Prop where
 os:w'.os=w.os
 tape:w'.tape=w.tape
 output:w'.output=w.output
 size:w.heap.size≤w'.heap.size
 block:∀k,k<w.heap.size→¬S k→w'.heap[k]?=w.heap[k]?
theorem ChgS.refl (S:Nat→Prop) (w:World):ChgS S w w:=⟨rfl,rfl,rfl,Nat.le_refl _,fun _ _ _=>rfl⟩
theorem ChgS.trans {S:Nat→Prop} {a b c:World} (h:ChgS S a b) (k:ChgS S b c):ChgS S a c :=
 ⟨k.os.trans h.os,k.tape.trans h.tape,k.output.trans h.output,Nat.le_trans h.size k.size,fun i hi hn=>(k.block i (Nat.lt_of_lt_of_le hi h.size) hn).trans (h.block i hi hn)⟩
theorem ChgS.chg {S:Nat→Prop} {lo hi:Nat} {w w':World} (h:ChgS S w w') (hS:∀k,S k→lo≤k∧k<hi):Chg lo hi w w' :=
 ⟨h.os,h.tape,h.output,h.size,fun k hk hn=>h.block k hk fun hs=>by have:=hS k hs;omega⟩
theorem chgS_of_grown {w w':World} {A:Option Addr} {S:Nat→Prop} (h:w.grownBy w' (A.map (·.block))) (l:∀a,A=some a→S a.block):ChgS S w w' :=
 ⟨h.os,h.tape,h.output,h.size,fun k hk hn=>h.block k hk (by
  cases A with
  | none=>simp
  | some a =>
   simp only [Option.map_some,ne_eq,Option.some.injEq]
   rintro rfl
   exact hn (l a rfl))⟩
/-- The block of a slice of slices and the blocks of its rows lie in S. -/
def Fp (S:Nat→Prop) (w:World) (A:Option Addr) (n:Nat):Prop:=∀a:Addr,A=some a→S a.block∧∀j,j<n→∀(a1:Addr) (m c:Nat),w.cell? ⟨a.block,j,none⟩=some (.slice (some a1) m c)→S a1.block
theorem Fp.of {lo hi:Nat} {w:World} {A:Option Addr} {n c:Nat} {xss:List (List Int)} (h:Own2 lo hi w A n c xss):Fp (fun k=>lo≤k∧k<hi) w A n:=by
 rintro a rfl
 refine ⟨?_,fun j hj a1 m c1 hc=>?_⟩
 ·obtain ⟨vs,h1,h2,h3⟩:=h
  exact ⟨(ownsRow_lt h1 a rfl).1,h2 a rfl⟩
 ·obtain ⟨b,A1,m1,c2,hA,hck,-,-,hl,-⟩:=h.row hj
  injection hA with hA
  subst hA
  rw [hck] at hc
  injection hc with hc
  injection hc with hc _ _
  exact hl a1 hc
theorem Fp.mono {S T:Nat→Prop} {w:World} {A:Option Addr} {n:Nat} (h:Fp S w A n) (hS:∀k,S k→T k):Fp T w A n :=
 fun a ha=>⟨hS _ (h a ha).1,fun j hj a1 m c hc=>hS _ ((h a ha).2 j hj a1 m c hc)⟩
theorem row_cell {lo:Nat} {w:World} {A:Option Addr} {n c j:Nat} {vs:List SV} {v:SV} (h1:w.ownsRow lo 27 1 (.slice A n c) n (vs.map SV.val)) (hj:j<n) (hv:vs[j]?=some v):∃g,A=some ⟨g,0,none⟩∧w.cell? ⟨g,j,none⟩=some (SV.val v):=by
 rcases h1.2 with ⟨_,h0⟩|⟨g,cap,cur,hv',hb,hh,hnc,hcap,hsz,ht⟩
 ·omega
 ·injection hv' with hA
  subst hA
  refine ⟨g,rfl,?_⟩
  have hx:(vs.map SV.val)[j]?=some (SV.val v):=by rw [List.getElem?_map,hv];rfl
  rw [←ht,List.getElem?_take] at hx
  simp only [Nat.mul_one] at hx
  rw [if_pos hj,Array.getElem?_toList] at hx
  unfold World.cell?
  rw [hh]
  exact hx
theorem Own2.keepS {S:Nat→Prop} {lo hi:Nat} {w w':World} {A:Option Addr} {n c:Nat} {xss:List (List Int)} (h:Own2 lo hi w A n c xss) (f:Fp S w A n) (hk:∀k,k<w.heap.size→S k→w'.heap[k]?=w.heap[k]?):Own2 lo hi w' A n c xss∧Fp S w' A n:=by
 have hlen:=h.len
 obtain ⟨vs,h1,h2,h3⟩:=h
 refine ⟨⟨vs,ownsRow_block h1 fun a ha=>hk _ (ownsRow_lt h1 a ha).2 (f a ha).1,h2,h3.1,fun j v hv=>?_,h3.2.2⟩,fun a ha=>⟨(f a ha).1,fun j hj a1 m c hc=>(f a ha).2 j hj a1 m c ?_⟩⟩
 ·obtain ⟨ho,hh⟩:=h3.2.1 j v hv
  have hj:j<n:=by have:=(List.getElem?_eq_some_iff.1 hv).1;have:=h3.1;omega
  obtain ⟨g,hA,hc⟩:=row_cell h1 hj hv
  refine ⟨ownsRow_block ho fun a ha=>hk _ (ho.lt a ha).2 ((f ⟨g,0,none⟩ hA).2 j hj a v.2.1 v.2.2 ?_),hh⟩
  rw [hc,SV.val,ha]
 ·rwa [World.cell?_of_block (a:=⟨a.block,j,none⟩) (hk a.block (ownsRow_lt h1 a ha).2 (f a ha).1)] at hc
structure FpIn (w:World) (b:Bd) (s:Sl3) (lo hi:Nat) (S1 S2 S3:Nat→Prop):Prop where
 frames:Own2 lo hi w s.A1 s.n1 s.c1 b.frames
 f1:Fp S1 w s.A1 s.n1
 state:Own lo w s.A2 s.n2 s.c2 b.state
 f2:∀a,s.A2=some a→S2 a.block
 saved:Own2 lo hi w s.A3 s.n3 s.c3 b.saved
 f3:Fp S3 w s.A3 s.n3
 d12:∀k,S1 k→S2 k→False
 d13:∀k,S1 k→S3 k→False
 d23:∀k,S2 k→S3 k→False
 i1:∀k,S1 k→lo≤k∧k<hi
 i2:∀k,S2 k→lo≤k∧k<hi
 i3:∀k,S3 k→lo≤k∧k<hi
/-- A board that the call owns: its three slices share no block. -/
def BoardFp (lo hi:Nat) (w:World) (b:Bd) (s:Sl3):Prop:=∃S1 S2 S3,FpIn w b s lo hi S1 S2 S3
theorem BoardAt.fp {lo hi:Nat} {w:World} {b:Bd} {s:Sl3} (h:BoardAt lo hi w b s):BoardFp lo hi w b s:=by
 obtain ⟨l1,h1,l2,h2,l3,h3,k⟩:=h
 have e1:=k.in1
 have e2:=k.in2
 have e3:=k.in3
 have a12:=k.a12
 have a13:=k.a13
 have a23:=k.a23
 unfold Ap at a12 a13 a23
 exact ⟨fun i=>l1≤i∧i<h1,fun i=>l2≤i∧i<h2,fun i=>l3≤i∧i<h3,k.frames.widen e1.1 e1.2,.of k.frames,k.state.more e2.1,k.lies,k.saved.widen e3.1 e3.2,.of k.saved,
  fun i x y=>by omega,fun i x y=>by omega,fun i x y=>by omega,fun i x=>by omega,fun i x=>by omega,fun i x=>by omega⟩
theorem BoardFp.rd {lo hi:Nat} {w:World} {b:Bd} {s:Sl3} (h:BoardFp lo hi w b s):BoardRd w b s:=by
 obtain ⟨S1,S2,S3,k⟩:=h
 exact ⟨k.frames.rd,k.state.rd,k.saved.rd⟩
theorem BoardFp.keep {lo hi:Nat} {w w':World} {b:Bd} {s:Sl3} (h:BoardFp lo hi w b s) (hk:∀k,k<w.heap.size→lo≤k→k<hi→w'.heap[k]?=w.heap[k]?):BoardFp lo hi w' b s:=by
 obtain ⟨S1,S2,S3,k⟩:=h
 obtain ⟨p1,p2⟩:=k.frames.keepS k.f1 (w':=w') fun i h1 h2=>hk i h1 (k.i1 i h2).1 (k.i1 i h2).2
 obtain ⟨q1,q2⟩:=k.saved.keepS k.f3 (w':=w') fun i h1 h2=>hk i h1 (k.i3 i h2).1 (k.i3 i h2).2
 exact ⟨S1,S2,S3,p1,p2,ownsRow_block k.state fun a ha=>hk _ (k.state.lt a ha).2 (k.i2 _ (k.f2 a ha)).1 (k.i2 _ (k.f2 a ha)).2,k.f2,q1,q2,k.d12,k.d13,k.d23,k.i1,k.i2,k.i3⟩
theorem BoardFp.below {lo hi:Nat} {w w':World} {b:Bd} {s:Sl3} (h:BoardFp lo hi w b s) (hb:Below w.heap.size w w'):BoardFp lo hi w' b s:=h.keep fun k hk _ _=>hb.block k hk
theorem BoardFp.chg {lo hi lo' hi':Nat} {w w':World} {b:Bd} {s:Sl3} (h:BoardFp lo hi w b s) (hg:Chg lo' hi' w w') (ha:hi≤lo'∨hi'≤lo):BoardFp lo hi w' b s:=h.keep fun k hk h1 h2=>hg.block k hk (by omega)
theorem BoardFp.drewd {lo hi:Nat} {w:World} {b:Bd} {s:Sl3} (h:BoardFp lo hi w b s):BoardFp lo hi w.drew b s:=h.keep fun _ _ _ _=>rfl
theorem BoardFp.widen {lo hi lo' hi':Nat} {w:World} {b:Bd} {s:Sl3} (h:BoardFp lo hi w b s) (e1:lo'≤lo) (e2:hi≤hi'):BoardFp lo' hi' w b s:=by
 obtain ⟨S1,S2,S3,k⟩:=h
 have j1:=k.i1
 have j2:=k.i2
 have j3:=k.i3
 exact ⟨S1,S2,S3,k.frames.widen e1 e2,k.f1,k.state.more e1,k.f2,k.saved.widen e1 e2,k.f3,k.d12,k.d13,k.d23,fun i h=>by have:=j1 i h;omega,fun i h=>by have:=j2 i h;omega,fun i h=>by have:=j3 i h;omega⟩
theorem BoardFp.dev {lo hi:Nat} {w:World} {b b':Bd} {s:Sl3} (h:BoardFp lo hi w b s) (e1:b'.frames=b.frames) (e2:b'.state=b.state) (e3:b'.saved=b.saved):BoardFp lo hi w b' s:=by
 obtain ⟨S1,S2,S3,k⟩:=h
 exact ⟨S1,S2,S3,by rw [e1];exact k.frames,k.f1,by rw [e2];exact k.state,k.f2,by rw [e3];exact k.saved,k.f3,k.d12,k.d13,k.d23,k.i1,k.i2,k.i3⟩
theorem BoardFp.clear {lo hi:Nat} {w:World} {b b':Bd} {s:Sl3} {A:Option Addr} {c:Nat} (h:BoardFp lo hi w b s) (hn:A=none) (hc:c=0) (e1:b'.frames=b.frames) (e2:b'.state=b.state) (e3:b'.saved=[]):BoardFp lo hi w b' ⟨s.A1,s.n1,s.c1,s.A2,s.n2,s.c2,A,0,c⟩:=by
 subst hn hc
 obtain ⟨S1,S2,S3,k⟩:=h
 exact ⟨S1,S2,fun _=>False,by rw [e1];exact k.frames,k.f1,by rw [e2];exact k.state,k.f2,by rw [e3];exact Own2.nil,by rintro a ⟨⟩,k.d12,fun _ _ h=>h,fun _ _ h=>h,k.i1,k.i2,by rintro i ⟨⟩⟩
/-- The frames are replaced by new ones. -/
theorem BoardFp.setFrames {lo hi base hi2:Nat} {w:World} {b b':Bd} {s:Sl3} {A:Option Addr} {n c:Nat} (h:BoardFp lo hi w b s) (o:Own2 base hi2 w A n c b'.frames) (hb:hi≤base) (hl:lo≤base) (hh:hi≤hi2) (e2:b'.state=b.state) (e3:b'.saved=b.saved):BoardFp lo hi2 w b' ⟨A,n,c,s.A2,s.n2,s.c2,s.A3,s.n3,s.c3⟩:=by
 obtain ⟨S1,S2,S3,k⟩:=h
 have j2:=k.i2
 have j3:=k.i3
 exact ⟨fun i=>base≤i∧i<hi2,S2,S3,o.widen hl (Nat.le_refl _),.of o,by rw [e2];exact k.state,k.f2,by rw [e3];exact k.saved.widen (Nat.le_refl _) hh,k.f3,
  fun i x y=>by have:=j2 i y;omega,fun i x y=>by have:=j3 i y;omega,k.d23,fun i x=>by omega,fun i x=>by have:=j2 i x;omega,fun i x=>by have:=j3 i x;omega⟩
theorem BoardFp.setState {lo hi base hi2:Nat} {w:World} {b b':Bd} {s:Sl3} {A:Option Addr} {n c:Nat} (h:BoardFp lo hi w b s) (o:Own base w A n c b'.state) (l:Lies A base hi2) (hb:hi≤base) (hl:lo≤base) (hh:hi≤hi2) (e1:b'.frames=b.frames) (e3:b'.saved=b.saved):BoardFp lo hi2 w b' ⟨s.A1,s.n1,s.c1,A,n,c,s.A3,s.n3,s.c3⟩:=by
 obtain ⟨S1,S2,S3,k⟩:=h
 have j1:=k.i1
 have j3:=k.i3
 exact ⟨S1,fun i=>base≤i∧i<hi2,S3,by rw [e1];exact k.frames.widen (Nat.le_refl _) hh,k.f1,o.more hl,l,by rw [e3];exact k.saved.widen (Nat.le_refl _) hh,k.f3,
  fun i x y=>by have:=j1 i x;omega,k.d13,fun i x y=>by have:=j3 i y;omega,fun i x=>by have:=j1 i x;omega,fun i x=>by omega,fun i x=>by have:=j3 i x;omega⟩
theorem BoardFp.setSaved {lo hi base hi2:Nat} {w:World} {b b':Bd} {s:Sl3} {A:Option Addr} {n c:Nat} (h:BoardFp lo hi w b s) (o:Own2 base hi2 w A n c b'.saved) (hb:hi≤base) (hl:lo≤base) (hh:hi≤hi2) (e1:b'.frames=b.frames) (e2:b'.state=b.state):BoardFp lo hi2 w b' ⟨s.A1,s.n1,s.c1,s.A2,s.n2,s.c2,A,n,c⟩:=by
 obtain ⟨S1,S2,S3,k⟩:=h
 have j1:=k.i1
 have j2:=k.i2
 exact ⟨S1,S2,fun i=>base≤i∧i<hi2,by rw [e1];exact k.frames.widen (Nat.le_refl _) hh,k.f1,by rw [e2];exact k.state,k.f2,o.widen hl (Nat.le_refl _),.of o,
  k.d12,fun i x y=>by have:=j1 i x;omega,fun i x y=>by have:=j2 i x;omega,fun i x=>by have:=j1 i x;omega,fun i x=>by have:=j2 i x;omega,fun i x=>by omega⟩
theorem grown_frees {w w':World} {A:Option Addr} (h:w.grownBy w' (A.map (·.block))) {k:Nat} (hk:k<w.heap.size) (hA:∀a,A=some a→a.block≠k):w'.heap[k]?=w.heap[k]?:=by
 refine h.block k hk ?_
 cases A with
 | none=>simp
 | some a =>
  simp only [Option.map_some,ne_eq,Option.some.injEq]
  rintro rfl
  exact hA a rfl rfl
set_option maxHeartbeats 1000000 in
theorem markIntSS_fp (S:Nat→Prop) (lo hi:Nat) (A:Option Addr) (n c:Nat) (xss:List (List Int)) (k0:Int) (w:World) (h:Own2 lo hi w A n c xss) (hf:Fp S w A n) (hk0:0≤k0) (hk1:k0≤1099511627776) (hz:size2 xss≤1099511627776) :
  Calls Tryz.prog 101 #[.slice A n c,.int .i64 k0] w fun e w'=>e = .returned (.int .i64 (k0+sizeTo xss n))∧Own2 lo hi w' A n c (iota2 k0 xss)∧Fp S w' A n∧ChgS S w w':=by
 have hx:=h.len
 obtain ⟨hn,hrow⟩:=size2_bd hx hz
 have HX:=Lib.hid hx
 have HR:=Lib.hid hrow
 have HO:=Lib.hid h
 have HF0:=Lib.hid hf
 clear hx hrow h hf
 go_enter Tryz.func101,Tryz.ntmps101
 go_wp2_with fail
 go_loopw [1,5] (fun v i wr=>∃k:Nat,k≤n∧i = .int .i64 k∧v = .int .i64 (k0+sizeTo xss k)∧Own2 lo hi wr A n c (mark2 k0 xss k)∧Fp S wr A n∧ChgS S w wr) (fun _ i _=>n - (intOf i).toNat)
 case atStart=>exact ⟨0,Nat.zero_le _,rfl,by simp [sizeTo],by rw [mark2_zero];exact HO.out,HF0.out,ChgS.refl _ _⟩
 case round =>
  obtain ⟨k,hk,rfl,rfl,ho,hf,hg⟩:=hrel
  have HG:=Lib.hid hg
  have HF:=Lib.hid hf
  clear hg hf
  by_cases hlt:k<n
  ·obtain ⟨b,A1,m1,c1,rfl,hck,_,o1,l1,hup,hne,_,_,hbw⟩:=ho.rowX hlt
   rw [mark2_get (by rw [HX.out];exact hlt),if_neg (by omega)] at o1
   have hm:m1=(xss[k]?.getD []).length:=o1.len.symm
   have hs:sizeTo xss (k+1)=sizeTo xss k+m1:=by rw [sizeTo,hm]
   have hfit:sizeTo xss (k+1)≤size2 xss:=by have:=sizeTo_le xss (j:=k+1) (k:=xss.length) (by rw [HX.out];omega);unfold size2;omega
   have HS:=Lib.hid hs
   have O1:=Lib.hid o1
   have HSA:Hid (∀a,A1=some a→S a.block):=fun a ha=>(HF.out _ rfl).2 k hlt a m1 c1 (by rw [hck,ha])
   have HM:=Lib.hid hm
   have HUP:=Lib.hid hup
   have HNE:=Lib.hid hne
   have hb1:sizeTo xss k+m1≤1099511627776:=by omega
   clear ho o1 l1 hup hm hs hfit hne
   go_wp2_with fail
   refine (markIntS_any lo A1 m1 c1 _ _ _ O1.out (by omega) (by omega) (by omega)).mono ?_
   rintro e w2 ⟨rfl,o2,g2⟩
   have O2:=Lib.hid (HUP.out w2 _ g2 o2)
   have G2:=Lib.hid (HG.out.trans (chgS_of_grown g2 HSA.out))
   have HF2:Hid (Fp S w2 (some ⟨b,0,none⟩) n):=by
    rintro a ⟨⟩
    refine ⟨(HF.out _ rfl).1,fun j hj a1 m c hc=>(HF.out _ rfl).2 j hj a1 m c ?_⟩
    rwa [World.cell?_of_block (a:=⟨b,j,none⟩) (grown_frees g2 hbw HNE.out)] at hc
   clear o2 g2 hck
   go_wp2_with fail
   go_roundw
   case rel=>exact ⟨k+1,by omega,by go_num,by rw [HS.out];go_num,by rw [←mark2_set (by rw [HX.out];exact hlt),←HM.out];exact O2.out,HF2.out,G2.out⟩
   case measure=>simp [intOf];omega
  ·have hkn:k=n:=by omega
   subst hkn
   go_wp2_with fail
   go_ret
   exact ⟨rfl,by rw [iota2,HX.out];exact ho,HF.out,HG.out⟩
set_option maxHeartbeats 2000000 in
theorem markBoard_fp (lo hi:Nat) (b:Bd) (s:Sl3) (k0:Int) (w:World) (h:BoardFp lo hi w b s) (hh:hi≤w.heap.size) (hz:BdOk b) (hk0:0≤k0) (hk1:k0≤1048576) (hN:bdN b≤1073741824) :
  Calls Tryz.prog 38 #[.agg (bdArr b s),.int .i64 k0] w fun e w'=>e = .returned (.int .i64 (k0+bdN b))∧BoardFp lo hi w' (mkBd k0 b) s∧Chg lo hi w w':=by
 have HBF:=Lib.hid h
 have hb0:Below w.heap.size w (w.alloc (.cells (bdArr b s) 31)):=below_new (Below.refl _ _) _
 obtain ⟨S1,S2,S3,k⟩:=h.below hb0
 obtain ⟨z1,z2,z3⟩:=hz
 have hl1:s.n1=b.frames.length:=k.frames.len.symm
 have hl2:s.n2=b.state.length:=k.state.len.symm
 have hl3:s.n3=b.saved.length:=k.saved.len.symm
 have hc0:Chg lo hi w (w.alloc (.cells (bdArr b s) 31)):=⟨hb0.os,hb0.tape,hb0.output,hb0.size,fun i hi' _=>hb0.block i hi'⟩
 have KK:=Lib.hid k
 have HC:=Lib.hid hc0
 have HL1:=Lib.hid hl1
 have HL2:=Lib.hid hl2
 have HL3:=Lib.hid hl3
 unfold bdN at *
 clear k hl1 hl2 hl3 hb0 hc0
 go_enter Tryz.func38,Tryz.ntmps38
 go_wp2_with fail
 refine (markIntSS_fp S1 lo hi s.A1 s.n1 s.c1 b.frames k0 _ KK.out.frames KK.out.f1 hk0 (by omega) z1).mono ?_
 rintro e w1 ⟨rfl,o1,p1,c1⟩
 rw [HL1.out]
 obtain ⟨hcc,hff⟩:=chg_new (c1.chg KK.out.i1) (by omega)
 have O1:=Lib.hid (And.intro o1 p1)
 have P2:=Lib.hid (show Own lo w1 s.A2 s.n2 s.c2 b.state from ownsRow_block KK.out.state fun a ha=>c1.block _ (KK.out.state.lt a ha).2 fun h=>KK.out.d12 _ h (KK.out.f2 a ha))
 have P3:=Lib.hid (KK.out.saved.keepS KK.out.f3 (w':=w1) fun i h1 h2=>c1.block i h1 fun h=>KK.out.d13 i h h2)
 have C1:=Lib.hid (c1.chg KK.out.i1)
 have g1:decide (k0+(sizeTo b.frames b.frames.length:Int)<0)=false:=by simp;omega
 clear o1 c1 p1
 go_wp2_with fail
 refine (markIntS_any lo s.A2 s.n2 s.c2 b.state _ _ P2.out (by omega) (by omega) (by rw [HL2.out];exact z2)).mono ?_
 rintro e w2 ⟨rfl,o2,g2⟩
 rw [HL2.out] at o2 ⊢
 have c2:=chgS_of_grown g2 KK.out.f2
 clear hcc hff g2
 have C2w:=Lib.hid (C1.out.trans (c2.chg KK.out.i2))
 obtain ⟨hcc,hff⟩:=chg_new C2w.out (by omega)
 have Q1:=Lib.hid (O1.out.1.keepS O1.out.2 (w':=w2) fun i h1 h2=>c2.block i h1 fun h=>KK.out.d12 i h2 h)
 have O2:=Lib.hid o2
 have Q3:=Lib.hid (P3.out.1.keepS P3.out.2 (w':=w2) fun i h1 h2=>c2.block i h1 fun h=>KK.out.d23 i h h2)
 have g2:decide (k0+(sizeTo b.frames b.frames.length:Int)+(b.state.length:Int)<0)=false:=by simp;omega
 clear o2 c2 g1
 go_wp2_with fail
 refine (markIntSS_fp S3 lo hi s.A3 s.n3 s.c3 b.saved _ _ Q3.out.1 Q3.out.2 (by omega) (by omega) z3).mono ?_
 rintro e w3 ⟨rfl,o3,p3,c3⟩
 rw [HL3.out]
 have C3w:=Lib.hid (HC.out.trans (C2w.out.trans (c3.chg KK.out.i3)))
 have R1:=Lib.hid (Q1.out.1.keepS Q1.out.2 (w':=w3) fun i h1 h2=>c3.block i h1 fun h=>KK.out.d13 i h2 h)
 have R2:=Lib.hid (show Own lo w3 s.A2 _ s.c2 _ from ownsRow_block O2.out fun a ha=>c3.block _ (O2.out.lt a ha).2 fun h=>KK.out.d23 _ (KK.out.f2 a ha) h)
 have O3:=Lib.hid (And.intro o3 p3)
 have g3:decide (k0+(sizeTo b.frames b.frames.length:Int)+(b.state.length:Int)+(sizeTo b.saved b.saved.length:Int)<0)=false:=by simp;omega
 clear hcc hff o3 c3 p3 g2
 go_wp2_with fail
 go_ret
 refine ⟨ret_int (by omega),⟨S1,S2,S3,R1.out.1,R1.out.2,?_,KK.out.f2,O3.out.1,O3.out.2,KK.out.d12,KK.out.d13,KK.out.d23,KK.out.i1,KK.out.i2,KK.out.i3⟩,C3w.out⟩
 rw [HL2.out]
 exact R2.out
end Go.Proofs.YtbnfdhidgdfbeaaGreat

namespace Go.Proofs.YtbnfdhidgdfbeaaGreat
set_option maxRecDepth 100000
open Go.RowKit

theorem sinRegion_is {d:Dev} {r:Reg} {t:Int} {b:Bool} (h:inReg d r t=b) (hd:devOk d=true) (h0:0≤t) (h1:t≤1099511627776) (w:World) :
  Calls Tryz.prog 50 #[.agg #[.int .i64 d.W,.int .i64 d.H,.int .i64 d.T,.int .i64 d.R],.agg #[.int .i64 r.X0,.int .i64 r.Y0,.int .i64 r.X1,.int .i64 r.Y1],.int .i64 t] w fun e w'=>e = .returned (.bool b)∧Below w.heap.size w w':=by
 obtain ⟨a,b',_⟩:=devOk_bd hd
 have:=sinRegion_any d r t w a b' h0 h1
 rwa [h] at this
set_option maxHeartbeats 4000000 in
theorem sregionQuiet_any (d:Dev) (A:Option Addr) (m c:Nat) (fs:List (List Int)) (r:Reg) (w:World) (hA:Rows2 w A m fs) (hz:size2 fs≤1099511627776) :
  Calls Tryz.prog 133 #[.agg #[.int .i64 d.W,.int .i64 d.H,.int .i64 d.T,.int .i64 d.R],.slice A m c,.agg #[.int .i64 r.X0,.int .i64 r.Y0,.int .i64 r.X1,.int .i64 r.Y1]] w fun e w'=>e = .returned (.bool (rqF d fs r))∧Below w.heap.size w w':=by
 have HB0:=Lib.hid (below_new (below_new (Below.refl w.heap.size w) (.cells #[.int .i64 d.W,.int .i64 d.H,.int .i64 d.T,.int .i64 d.R] 25)) (.cells #[.int .i64 r.X0,.int .i64 r.Y0,.int .i64 r.X1,.int .i64 r.Y1] 29))
 have HI:=Lib.hid hA
 have HQ0:=Lib.hid (box4 w d)
 clear hA
 go_enter Tryz.func133,Tryz.ntmps133
 go_wp2_with fail
 refine (sframesOk_any d A m c fs _ (HI.out.below HB0.out) hz).mono ?_
 rintro e w1 ⟨rfl,b1⟩
 have hs1:=b1.size
 simp only [World.size_alloc] at hs1
 have D1:=Lib.hid b1
 obtain ⟨hcc,hff⟩:=bcell b1
 clear b1
 cases hf:framesOk d fs with
 | false =>
  have HF:Hid (rqF d fs r=false):=by show _=_;unfold rqF;rw [hf];rfl
  clear hf
  go_wp2_with fail
  go_ret
  exact ⟨ret_bool HF.out.symm,below_tr HB0.out D1.out⟩
 | true =>
  have HFO:=Lib.hid hf
  have hdv:=(framesOk_iff hf).1
  have HD:=Lib.hid hdv
  have hnb:=nodesOf_bd hdv
  have hWH:=dev_WH hdv
  have hp:=perT_bd hdv
  have hT:=devOk_bd hdv
  have HCF:=Lib.hid (cfg_of_frames hf)
  clear hf
  go_wp2_with fail
  refine (sregionOk_any d r _).mono ?_
  rintro e w2 ⟨rfl,b2⟩
  have D2:=Lib.hid (below_tr D1.out b2)
  have hs2:=b2.size
  clear b2 hcc hff
  obtain ⟨hcc,hff⟩:=bcell D2.out
  cases hr:regOk d r with
  | false =>
   have HF:Hid (rqF d fs r=false):=by show _=_;unfold rqF;rw [hr];simp
   clear hr hdv hcc hff
   go_wp2_with fail
   go_ret
   exact ⟨ret_bool HF.out.symm,below_tr HB0.out D2.out⟩
  | true =>
   have HR:=Lib.hid hr
   clear hr hdv
   have hww:w.heap.size<w2.heap.size:=by omega
   have HQ2:=Lib.hid (keep4 D2.out (by simp;omega) (keep4 (below_new (Below.refl _ _) (.cells #[.int .i64 r.X0,.int .i64 r.Y0,.int .i64 r.X1,.int .i64 r.Y1] 29)) (by simp) HQ0.out))
   have hD:=Below.refl w2.heap.size w2
   clear hcc hff
   go_wp2_with fail
   go_region_held3 (fun w'=>w'.cell? ⟨w.heap.size,0,none⟩=some (.int .i64 d.W)∧w'.cell? ⟨w.heap.size,1,none⟩=some (.int .i64 d.H)∧w'.cell? ⟨w.heap.size,2,none⟩=some (.int .i64 d.T)∧w'.cell? ⟨w.heap.size,3,none⟩=some (.int .i64 d.R))
    (first|with_reducible exact keep4 hD hww HQ2.out|with_reducible exact keep4 hD.drew hww HQ2.out)
    (first
     | (go_at_call 59;(with_reducible refine (sreadFrames_any d A m c fs _ (HI.out.below (below_tr HB0.out (below_tr D2.out hD.drew))) hz).mono ?_);rintro e w3 ⟨A3,m3,c3,rfl,o3,b3⟩;have R3:=Lib.hid o3.rd;have hD2:=below_tr hD.drew b3;clear b3 o3;replace hD:=hD2)
     | (go_at_call 156;(with_reducible refine (l41Drivers_any d A3 m3 c3 (tilesOf d fs) _ (by have h:=R3.out;rw [readF,HFO.out,if_pos rfl] at h;exact h) HCF.out).mono ?_);rintro e w4 ⟨A4,c4,rfl,o4,b4⟩;have O4:=Lib.hid o4.ints;have hD2:=below_tr hD b4;clear b4 o4;replace hD:=hD2))
   have D4:=Lib.hid (below_tr D2.out hD)
   have hs4:=hD.size
   clear hD
   obtain ⟨hcc,hff⟩:=bcell D4.out
   go_wp2_with fail
   refine (l27Per_any d _ (by omega) (by omega)).mono ?_
   rintro e w5 ⟨rfl,b5⟩
   have D5:=Lib.hid (below_tr D4.out b5)
   have hs5:=b5.size
   have O5:=Lib.hid (O4.out.below b5)
   clear b5 hcc hff
   obtain ⟨N,hN⟩:∃N:Nat,nodesOf d=(N:Int):=⟨(nodesOf d).toNat,by omega⟩
   have hNN:(nodesOf d).toNat=N:=by omega
   have HN:=Lib.hid hN
   have HBAD:=Lib.hid (fun k hk h=>rq_bad (d:=d) (fs:=fs) (r:=r) (k:=k) hk h)
   have HGOOD:=Lib.hid (fun h=>rq_good (d:=d) (fs:=fs) (r:=r) HFO.out HR.out h)
   rw [hN] at hnb
   generalize (nodesOf d).toNat=NN at *
   subst hNN
   clear hN
   have hpe0:¬perT d=0:=by omega
   go_wp2_with fail
   go_loopw [9] (fun i wr=>∃k:Nat,k≤NN∧i = .int .i64 k∧Below w5.heap.size w5 wr∧∀j,j<k→rqOk d (tilesOf d fs) r ((j:Nat):Int)=true) (fun i _=>NN - (intOf i).toNat)
   case atStart=>exact ⟨0,by omega,rfl,Below.refl _ _,by intro j hj;omega⟩
   case round =>
    obtain ⟨k,hk,rfl,hb,hall⟩:=hrel
    have HALL:=Lib.hid hall
    have HB:=Lib.hid hb
    have hs:=hb.size
    clear hall
    by_cases hlt:k<NN
    ·have hdk:decide ((k:Int)<(NN:Int))=true:=by simp;omega
     have hni:nodeIn d (k:Int)=true:=nodeIn_rnP.2 ⟨HD.out,by omega,by rw [HN.out];omega⟩
     obtain ⟨_,n0,n1,hq0,hq1,hr0,hr1⟩:=node_tk hni
     obtain ⟨b,o,rfl,hbl,hc⟩:=O5.out.2 (by omega)
     have hck:=hc k hlt
     rw [drvTo_get hlt,←hb.cell (p:=⟨b,o+k,none⟩) hbl] at hck
     have hbr:b<wr.heap.size:=by omega
     have HROK:Hid (rqOk d (tilesOf d fs) r (k:Int)=(decide (drvOf d (tilesOf d fs) (k:Int)<0) || (inReg d r ((k:Int) / perT d) || !inReg d r (drvOf d (tilesOf d fs) (k:Int) / perT d)))):=rfl
     have HDN:=Lib.hid (fun h=>(drv_node (n:=(k:Int)) HCF.out h).1)
     have HBD:=Lib.hid (HBAD.out k hlt)
     have HALS:=Lib.hid (fun h=>all_succ HALL.out h)
     have i0:(0:Int)≤(k:Int):=by omega
     have i1:(k:Int)<(NN:Int):=by omega
     have e2:IntKind.i64.wrap (((k:Int)).tdiv (perT d))=(k:Int) / perT d:=IntWalk.i64_quo _ _ ⟨n0,by omega,by omega⟩
     generalize drvOf d (tilesOf d fs) (k:Int)=s at *
     clear hni hc hb
     obtain ⟨hcc,hff⟩:=bcell (below_tr D5.out HB.out)
     have hwr:w.heap.size+1<wr.heap.size:=by omega
     have hwr0:w.heap.size<wr.heap.size:=by omega
     by_cases hs0:s<0
     ·have hds:decide (s≥0)=false:=by simp;omega
      have HE:Hid (rqOk d (tilesOf d fs) r (k:Int)=true):=by show _=_;rw [HROK.out,decide_eq_true hs0];rfl
      have HC:=HE
      have HC2:=HE
      go_wp2_with fail
      have hsub:=sub_ne wr
      have hsc:=sub_cell wr
      refine wp_region_below wr (by kernel_rfl) (by kernel_rfl) (Below.refl _ _) ?_
      repeat (go_big_quiet_step ((go_at_call 50;(first|with_reducible exact calls_sub (HC.out _)|with_reducible exact calls_sub (HC2.out _)))))
      refine wpQuiet_nil ?_
      rintro _ ⟨⟨w4,hD⟩,rfl⟩
      clear hsub hsc hcc hff
      have HB4:=Lib.hid (below_tr HB.out hD)
      clear hD
      go_wp2_with fail
      go_roundw
      case rel=>exact ⟨k+1,by omega,by go_num,HB4.out,HALS.out HE.out⟩
      case measure=>simp [intOf];omega
     ·have hds:decide (s≥0)=true:=by simp;omega
      have hsi:=HDN.out (by omega)
      obtain ⟨_,s0,s1,hqs0,hqs1,_⟩:=node_tk hsi
      rw [decide_eq_false hs0] at HROK
      have e3:IntKind.i64.wrap (s.tdiv (perT d))=s / perT d:=IntWalk.i64_quo _ _ ⟨s0,by omega,by omega⟩
      clear hsi
      have e2w:wrap64 ((k:Int) / perT d)=(k:Int) / perT d:=IntWalk.wrap64_in _ (by omega)
      have e3w:wrap64 (s / perT d)=s / perT d:=IntWalk.wrap64_in _ (by omega)
      cases h1:inReg d r ((k:Int) / perT d) with
      | true =>
       have HC:=Lib.hid (fun w=>sinRegion_is h1 HD.out hq0 (by omega) w)
       have HE:Hid (rqOk d (tilesOf d fs) r (k:Int)=true):=by show _=_;rw [HROK.out,h1];rfl
       have HC2:=HE
       clear h1
       go_wp2_with fail
       have hsub:=sub_ne wr
       have hsc:=sub_cell wr
       refine wp_region_below wr (by kernel_rfl) (by kernel_rfl) (Below.refl _ _) ?_
       repeat (go_big_quiet_step ((go_at_call 50;(first|with_reducible exact calls_sub (HC.out _)|with_reducible exact calls_sub (HC2.out _)))))
       refine wpQuiet_nil ?_
       rintro _ ⟨⟨w4,hD⟩,rfl⟩
       clear hsub hsc hcc hff
       have HB4:=Lib.hid (below_tr HB.out hD)
       clear hD
       go_wp2_with fail
       go_roundw
       case rel=>exact ⟨k+1,by omega,by go_num,HB4.out,HALS.out HE.out⟩
       case measure=>simp [intOf];omega
      | false =>
       have HC:=Lib.hid (fun w=>sinRegion_is h1 HD.out hq0 (by omega) w)
       rw [h1] at HROK
       clear h1
       cases h2:inReg d r (s / perT d) with
       | true =>
        have HC2:=Lib.hid (fun w=>sinRegion_is h2 HD.out hqs0 (by omega) w)
        have HE:=Lib.hid (HBD.out (by rw [HROK.out,h2];rfl))
        clear h2
        go_wp2_with fail
        have hsub:=sub_ne wr
        have hsc:=sub_cell wr
        refine wp_region_below wr (by kernel_rfl) (by kernel_rfl) (Below.refl _ _) ?_
        repeat (go_big_quiet_step ((go_at_call 50;(first|with_reducible exact calls_sub (HC.out _)|with_reducible exact calls_sub (HC2.out _)))))
        refine wpQuiet_nil ?_
        rintro _ ⟨⟨w4,hD⟩,rfl⟩
        clear hsub hsc hcc hff
        have HB4:=Lib.hid (below_tr HB.out hD)
        clear hD
        go_wp2_with fail
        go_ret
        exact ⟨ret_bool HE.out.symm,below_tr HB0.out (below_tr D5.out HB4.out)⟩
       | false =>
        have HC2:=Lib.hid (fun w=>sinRegion_is h2 HD.out hqs0 (by omega) w)
        have HE:Hid (rqOk d (tilesOf d fs) r (k:Int)=true):=by show _=_;rw [HROK.out,h2];rfl
        clear h2
        go_wp2_with fail
        have hsub:=sub_ne wr
        have hsc:=sub_cell wr
        refine wp_region_below wr (by kernel_rfl) (by kernel_rfl) (Below.refl _ _) ?_
        repeat (go_big_quiet_step ((go_at_call 50;(first|with_reducible exact calls_sub (HC.out _)|with_reducible exact calls_sub (HC2.out _)))))
        refine wpQuiet_nil ?_
        rintro _ ⟨⟨w4,hD⟩,rfl⟩
        clear hsub hsc hcc hff
        have HB4:=Lib.hid (below_tr HB.out hD)
        clear hD
        go_wp2_with fail
        go_roundw
        case rel=>exact ⟨k+1,by omega,by go_num,HB4.out,HALS.out HE.out⟩
        case measure=>simp [intOf];omega
    ·have hkN:k=NN:=by omega
     have HKN:=Lib.hid hkN
     have hdk:decide ((k:Int)<(NN:Int))=false:=by simp;omega
     clear hkN
     go_wp2_with fail
     go_ret
     exact ⟨ret_bool (HGOOD.out (by rw [←HKN.out];exact HALL.out)).symm,below_tr HB0.out (below_tr D5.out HB.out)⟩
end Go.Proofs.YtbnfdhidgdfbeaaGreat

namespace Go.Proofs.YtbnfdhidgdfbeaaGreat
set_option maxRecDepth 100000
open Go.RowKit

theorem Own2.setRow {lo hi base:Nat} {w:World} {g n c k:Nat} {xss:List (List Int)} {A:Option Addr} {m c1:Nat} {xs:List Int} (h:Own2 lo hi w (some ⟨g,0,none⟩) n c xss) (hk:k<n) (o:Own base w A m c1 xs) (hb:hi≤base) (hl:lo≤base) (hh:hi≤w.heap.size) :
  Own2 lo w.heap.size (w.setCell ⟨g,k,none⟩ (.slice A m c1)) (some ⟨g,0,none⟩) n c (xss.set k xs):=by
 have hlen:=h.len
 obtain ⟨vs,h1,h2,h3⟩:=h
 have hg:g<hi:=h2 _ rfl
 have hvl:vs.length=n:=by rw [h3.1];exact hlen
 have hol:=o.lt
 rcases h1.2 with ⟨hv,_⟩|⟨g',cap,cur,hv,hbg,hh',hnc,hcap,hsz,ht⟩
 ·cases hv
 ·injection hv with hA hn hc
  injection hA with hA
  injection hA with hA
  subst hA hc
  have hko:Own base (w.setCell ⟨g,k,none⟩ (.slice A m c1)) A m c1 xs:=ownsRow_block o fun a ha=>Below.heap_setCell _ _ _ _ (by have:=(hol a ha).1;show a.block≠g;omega)
  have hp:=h3.put hh' k (.slice A m c1)
  refine ⟨vs.set k (A,m,c1),⟨by simp [hvl],.inr ⟨g,c,cur.setIfInBounds k (.slice A m c1),rfl,hbg,by simp [World.setCell,Array.getElem?_modify,hh'],hnc,hcap,by simp [hsz],?_⟩⟩,fun a ha=>Nat.lt_of_lt_of_le (h2 a ha) hh,?_,?_,?_⟩
  ·simp only [Array.toList_setIfInBounds,Nat.mul_one,List.take_set,List.map_set]
   rw [show List.take n cur.toList=vs.map SV.val by simpa using ht]
   rfl
  ·rw [List.length_set,List.length_set];exact h3.1
  ·intro j v hv
   rcases Nat.decEq k j with e|e
   ·rw [List.getElem?_set_ne e] at hv
    rw [List.getElem?_set_ne e]
    obtain ⟨k1,k2⟩:=hp.2.1 j v hv
    exact ⟨k1,fun a ha=>Nat.lt_of_lt_of_le (k2 a ha) hh⟩
   ·subst e
    rw [List.getElem?_set_self (by omega)] at hv
    rw [List.getElem?_set_self (by omega)]
    injection hv with hv
    subst hv
    exact ⟨hko.more hl,fun a ha=>(hol a ha).2⟩
  ·intro i j u v hij hu hv a b ha hb'
   rcases Nat.decEq k i with e|e
   ·rw [List.getElem?_set_ne e] at hu
    have hua:=(h3.2.1 i u hu).2 a ha
    rcases Nat.decEq k j with e2|e2
    ·rw [List.getElem?_set_ne e2] at hv
     exact h3.2.2 i j u v hij hu hv a b ha hb'
    ·subst e2
     rw [List.getElem?_set_self (by omega)] at hv
     injection hv with hv
     subst hv
     have:=(hol b hb').1
     omega
   ·subst e
    rw [List.getElem?_set_self (by omega)] at hu
    injection hu with hu
    subst hu
    rw [List.getElem?_set_ne (by omega)] at hv
    have hvb:=(h3.2.1 j v hv).2 b hb'
    have:=(hol a ha).1
    omega
theorem BoardFp.row {lo hi:Nat} {w:World} {b:Bd} {s:Sl3} {k:Nat} (h:BoardFp lo hi w b s) (hk:k<s.n1) :
  ∃g A1 m1 c1,s.A1=some ⟨g,0,none⟩∧w.cell? ⟨g,k,none⟩=some (.slice A1 m1 c1)∧w.frozen? ⟨g,k,none⟩=false∧Ints w A1 m1 (b.frames[k]?.getD [])∧lo≤g∧g<hi∧g<w.heap.size:=by
 obtain ⟨S1,S2,S3,q⟩:=h
 obtain ⟨g,A1,m1,c1,h1,h2,h3,h4,-,-,-,h5,h6,h7⟩:=q.frames.rowX hk
 exact ⟨g,A1,m1,c1,h1,h2,h3,h4.ints,h5,h6,h7⟩
theorem FpIn.setRow {lo hi base:Nat} {w:World} {b b':Bd} {s:Sl3} {g k:Nat} {A:Option Addr} {m c:Nat} {xs:List Int} {S1 S2 S3:Nat→Prop} (q:FpIn w b s lo hi S1 S2 S3) (hk:k<s.n1) (hA:s.A1=some ⟨g,0,none⟩) (o:Own base w A m c xs) (hb:hi≤base) (hl:lo≤base) (hh:hi≤w.heap.size)
  (e1:b'.frames=b.frames.set k xs) (e2:b'.state=b.state) (e3:b'.saved=b.saved):FpIn (w.setCell ⟨g,k,none⟩ (.slice A m c)) b' s lo w.heap.size (fun i=>S1 i∨(base≤i∧i<w.heap.size)) S2 S3:=by
 have hfr:=q.frames
 rw [hA] at hfr
 have hf1:=q.f1 ⟨g,0,none⟩ hA
 have hgl:=q.i1 g hf1.1
 have hol:=o.lt
 have hkeep:∀i,i<w.heap.size→i≠g→(w.setCell ⟨g,k,none⟩ (.slice A m c)).heap[i]?=w.heap[i]?:=fun i _ hi=>Below.heap_setCell _ _ _ _ hi
 have k2:=q.state
 obtain ⟨p1,p2⟩:=q.saved.keepS q.f3 (w':=w.setCell ⟨g,k,none⟩ (.slice A m c)) fun i h1 h2=>hkeep i h1 fun e=>by subst e;exact q.d13 _ hf1.1 h2
 refine ⟨?_,?_,?_,q.f2,?_,p2,?_,?_,q.d23,?_,?_,?_⟩
 ·rw [e1,hA];exact hfr.setRow hk o hb hl hh
 ·intro a ha
  rw [hA] at ha
  injection ha with ha
  subst ha
  refine ⟨.inl hf1.1,fun j hj a1 m1 c1 hc=>?_⟩
  rcases Nat.decEq j k with e|e
  ·have hc:(w.setCell ⟨g,k,none⟩ (.slice A m c)).cell? ⟨g,j,none⟩=some (.slice (some a1) m1 c1):=hc
   rw [World.cell?_setCell_other _ ⟨g,k,none⟩ ⟨g,j,none⟩ _ (by intro h;injection h with _ h;exact e h.symm)] at hc
   exact .inl (hf1.2 j hj a1 m1 c1 hc)
  ·subst e
   obtain ⟨g',A1,m2,c2,hA',hck,-⟩:=hfr.row hk
   injection hA' with hA'
   injection hA' with hA'
   subst hA'
   have hc:(w.setCell ⟨g,j,none⟩ (.slice A m c)).cell? ⟨g,j,none⟩=some (.slice (some a1) m1 c1):=hc
   rw [World.cell?_setCell_same _ _ _ hck] at hc
   injection hc with hc
   injection hc with hc _ _
   exact .inr (hol a1 hc)
 ·rw [e2];exact ownsRow_block k2 fun a ha=>hkeep _ (k2.lt a ha).2 fun e=>by subst e;exact q.d12 _ hf1.1 (q.f2 a ha)
 ·rw [e3];exact p1.widen (Nat.le_refl _) hh
 ·rintro i (x|x) y
  ·exact q.d12 i x y
  ·have:=q.i2 i y;omega
 ·rintro i (x|x) y
  ·exact q.d13 i x y
  ·have:=q.i3 i y;omega
 ·rintro i (x|x)
  ·have:=q.i1 i x;omega
  ·omega
 ·intro i x;have:=q.i2 i x;omega
 ·intro i x;have:=q.i3 i x;omega
theorem BoardFp.setRow {lo hi base:Nat} {w:World} {b b':Bd} {s:Sl3} {g k:Nat} {A:Option Addr} {m c:Nat} {xs:List Int} (h:BoardFp lo hi w b s) (hk:k<s.n1) (hA:s.A1=some ⟨g,0,none⟩) (o:Own base w A m c xs) (hb:hi≤base) (hl:lo≤base) (hh:hi≤w.heap.size)
  (e1:b'.frames=b.frames.set k xs) (e2:b'.state=b.state) (e3:b'.saved=b.saved):BoardFp lo w.heap.size (w.setCell ⟨g,k,none⟩ (.slice A m c)) b' s:=by
 obtain ⟨S1,S2,S3,q⟩:=h
 exact ⟨_,_,_,q.setRow hk hA o hb hl hh e1 e2 e3⟩
/-- A board that the call owns, none of whose blocks is g0. -/
def BoardFpN (g0 lo hi:Nat) (w:World) (b:Bd) (s:Sl3):Prop:=∃S1 S2 S3,FpIn w b s lo hi S1 S2 S3∧¬S1 g0∧¬S2 g0∧¬S3 g0
theorem BoardFp.toN {g0 lo hi:Nat} {w:World} {b:Bd} {s:Sl3} (h:BoardFp lo hi w b s) (hg:hi≤g0):BoardFpN g0 lo hi w b s:=by
 obtain ⟨S1,S2,S3,q⟩:=h
 exact ⟨S1,S2,S3,q,fun x=>by have:=q.i1 _ x;omega,fun x=>by have:=q.i2 _ x;omega,fun x=>by have:=q.i3 _ x;omega⟩
theorem BoardFpN.fp {g0 lo hi:Nat} {w:World} {b:Bd} {s:Sl3} (h:BoardFpN g0 lo hi w b s):BoardFp lo hi w b s:=by
 obtain ⟨S1,S2,S3,q,-⟩:=h
 exact ⟨S1,S2,S3,q⟩
theorem FpIn.keep {lo hi:Nat} {w w':World} {b:Bd} {s:Sl3} {S1 S2 S3:Nat→Prop} (k:FpIn w b s lo hi S1 S2 S3) (hk:∀i,i<w.heap.size→(S1 i∨S2 i∨S3 i)→w'.heap[i]?=w.heap[i]?):FpIn w' b s lo hi S1 S2 S3:=by
 obtain ⟨p1,p2⟩:=k.frames.keepS k.f1 (w':=w') fun i h1 h2=>hk i h1 (.inl h2)
 obtain ⟨q1,q2⟩:=k.saved.keepS k.f3 (w':=w') fun i h1 h2=>hk i h1 (.inr (.inr h2))
 exact ⟨p1,p2,ownsRow_block k.state fun a ha=>hk _ (k.state.lt a ha).2 (.inr (.inl (k.f2 a ha))),k.f2,q1,q2,k.d12,k.d13,k.d23,k.i1,k.i2,k.i3⟩
theorem BoardFpN.below {g0 lo hi:Nat} {w w':World} {b:Bd} {s:Sl3} (h:BoardFpN g0 lo hi w b s) (hb:Below w.heap.size w w'):BoardFpN g0 lo hi w' b s:=by
 obtain ⟨S1,S2,S3,q,n⟩:=h
 exact ⟨S1,S2,S3,q.keep fun i hi _=>hb.block i hi,n⟩
theorem BoardFpN.dev {g0 lo hi:Nat} {w:World} {b b':Bd} {s:Sl3} (h:BoardFpN g0 lo hi w b s) (e1:b'.frames=b.frames) (e2:b'.state=b.state) (e3:b'.saved=b.saved):BoardFpN g0 lo hi w b' s:=by
 obtain ⟨S1,S2,S3,k,n⟩:=h
 exact ⟨S1,S2,S3,⟨by rw [e1];exact k.frames,k.f1,by rw [e2];exact k.state,k.f2,by rw [e3];exact k.saved,k.f3,k.d12,k.d13,k.d23,k.i1,k.i2,k.i3⟩,n⟩
theorem BoardFpN.chg {g0 lo hi:Nat} {w w':World} {b:Bd} {s:Sl3} (h:BoardFpN g0 lo hi w b s) (hc:Chg g0 (g0+1) w w'):BoardFpN g0 lo hi w' b s:=by
 obtain ⟨S1,S2,S3,q,n1,n2,n3⟩:=h
 refine ⟨S1,S2,S3,q.keep fun i hi hs=>hc.block i hi ?_,n1,n2,n3⟩
 rcases Nat.lt_trichotomy i g0 with h|h|h
 ·exact .inl h
 ·subst h
  rcases hs with h|h|h
  ·exact absurd h n1
  ·exact absurd h n2
  ·exact absurd h n3
 ·exact .inr h
theorem BoardFpN.setRow {g0 lo hi base:Nat} {w:World} {b b':Bd} {s:Sl3} {g k:Nat} {A:Option Addr} {m c:Nat} {xs:List Int} (h:BoardFpN g0 lo hi w b s) (hk:k<s.n1) (hA:s.A1=some ⟨g,0,none⟩) (o:Own base w A m c xs) (hb:hi≤base) (hl:lo≤base) (hh:hi≤w.heap.size) (hg:g0<base)
  (e1:b'.frames=b.frames.set k xs) (e2:b'.state=b.state) (e3:b'.saved=b.saved):BoardFpN g0 lo w.heap.size (w.setCell ⟨g,k,none⟩ (.slice A m c)) b' s:=by
 obtain ⟨S1,S2,S3,q,n1,n2,n3⟩:=h
 exact ⟨_,_,_,q.setRow hk hA o hb hl hh e1 e2 e3,fun x=>x.elim n1 fun y=>by omega,n2,n3⟩
theorem BoardFp.stateAt {lo hi:Nat} {w:World} {b:Bd} {s:Sl3} {k:Nat} (h:BoardFp lo hi w b s) (hk:k<s.n2) :
  ∃g,s.A2=some ⟨g,0,none⟩∧w.cell? ⟨g,k,none⟩=some (.int .i64 (b.state[k]?.getD 0))∧w.frozen? ⟨g,k,none⟩=false∧lo≤g∧g<hi∧g<w.heap.size:=by
 obtain ⟨S1,S2,S3,q⟩:=h
 obtain ⟨g,cur,hA,h1,h2,-⟩:=q.state.block (by omega)
 have hst:=q.state
 rw [hA] at hst
 obtain ⟨h3,h4⟩:=hst.cellAt hk
 have h5:=q.i2 _ (q.f2 _ hA)
 exact ⟨g,hA,h3,h4,h5.1,h5.2,h2⟩
theorem BoardFp.setNum {lo hi:Nat} {w:World} {b b':Bd} {s:Sl3} {g k:Nat} {x:Int} (h:BoardFp lo hi w b s) (hk:k<s.n2) (hA:s.A2=some ⟨g,0,none⟩)
  (e1:b'.frames=b.frames) (e2:b'.state=b.state.set k x) (e3:b'.saved=b.saved):BoardFp lo hi (w.setCell ⟨g,k,none⟩ (.int .i64 x)) b' s:=by
 obtain ⟨S1,S2,S3,q⟩:=h
 have hg2:=q.f2 _ hA
 have hkeep:∀i,i<w.heap.size→i≠g→(w.setCell ⟨g,k,none⟩ (.int .i64 x)).heap[i]?=w.heap[i]?:=fun i _ hi=>Below.heap_setCell _ _ _ _ hi
 obtain ⟨p1,p2⟩:=q.saved.keepS q.f3 (w':=w.setCell ⟨g,k,none⟩ (.int .i64 x)) fun i h1 h2=>hkeep i h1 fun e=>by subst e;exact q.d23 _ hg2 h2
 obtain ⟨r1,r2⟩:=q.frames.keepS q.f1 (w':=w.setCell ⟨g,k,none⟩ (.int .i64 x)) fun i h1 h2=>hkeep i h1 fun e=>by subst e;exact q.d12 _ h2 hg2
 have hst:=q.state
 rw [hA] at hst
 refine ⟨S1,S2,S3,by rw [e1];exact r1,r2,?_,q.f2,by rw [e3];exact p1,p2,q.d12,q.d13,q.d23,q.i1,q.i2,q.i3⟩
 rw [e2,hA]
 exact hst.stored hk x
end Go.Proofs.YtbnfdhidgdfbeaaGreat

namespace Go.Proofs.YtbnfdhidgdfbeaaGreat
set_option maxRecDepth 100000
open Go.RowKit

set_option maxHeartbeats 1000000 in
theorem sboardOk_any (b:Bd) (s:Sl3) (w:World) (hA:BoardRd w b s) (hz1:size2 b.frames≤1099511627776) (h2:s.n2≤16777216) (h3:size2 b.saved≤1099511627776) :
  Calls Tryz.prog 56 #[.agg (bdArr b s)] w fun e w'=>e = .returned (.bool (bkF b))∧Below w.heap.size w w':=by
 obtain ⟨d,fs,st,ph,r,sv⟩:=b
 obtain ⟨A1,n1,c1,A2,n2,c2,A3,n3,c3⟩:=s
 have HB0:=Lib.hid (below_new (Below.refl w.heap.size w) (.cells (bdArr ⟨d,fs,st,ph,r,sv⟩ ⟨A1,n1,c1,A2,n2,c2,A3,n3,c3⟩) 31))
 have HI:=Lib.hid hA
 dsimp only at hz1 h2 h3
 clear hA
 go_enter Tryz.func56,Tryz.ntmps56
 go_wp2_with fail
 refine (sframesOk_any d A1 n1 c1 fs _ (HI.out.frames.below HB0.out) hz1).mono ?_
 rintro e w1 ⟨rfl,b1⟩
 have hs1:=b1.size
 simp only [World.size_alloc] at hs1
 have D1:=Lib.hid b1
 obtain ⟨hcc,hff⟩:=bcell b1
 clear b1
 cases hf:framesOk d fs with
 | false =>
  have HF:Hid (bkF ⟨d,fs,st,ph,r,sv⟩=false):=by show _=_;unfold bkF;rw [hf];rfl
  clear hf
  go_wp2_with fail
  go_ret
  exact ⟨ret_bool HF.out.symm,below_tr HB0.out D1.out⟩
 | true =>
  have HFO:=Lib.hid hf
  clear hf
  go_wp2_with fail
  refine (semuStateOk_any d A2 n2 c2 st _ (HI.out.state.below (below_tr HB0.out D1.out)) h2).mono ?_
  rintro e w2 ⟨rfl,b2⟩
  have D2:=Lib.hid (below_tr D1.out b2)
  have hs2:=b2.size
  clear b2 hcc hff
  obtain ⟨hcc,hff⟩:=bcell D2.out
  cases hst:stOk d st with
  | false =>
   have HF:Hid (bkF ⟨d,fs,st,ph,r,sv⟩=false):=by show _=_;unfold bkF;rw [hst];simp
   clear hst
   go_wp2_with fail
   go_ret
   exact ⟨ret_bool HF.out.symm,below_tr HB0.out D2.out⟩
  | true =>
   have HF:Hid (bkF ⟨d,fs,st,ph,r,sv⟩=(if ph=0∨ph=2 then (regZ r && decide (sv.length=0)) else decide (ph=1) && rqF d sv r)):=by show _=_;unfold bkF;rw [hst,HFO.out];rfl
   clear hst
   by_cases h1:ph=1
   ·subst h1
    rw [if_neg (by omega)] at HF
    go_wp2_with fail
    refine (sregionQuiet_any d A3 n3 c3 sv r _ (HI.out.saved.below (below_tr HB0.out D2.out)) h3).mono ?_
    rintro e w5 ⟨rfl,b5⟩
    have D5:=Lib.hid (below_tr D2.out b5)
    clear b5 hcc hff
    go_wp2_with fail
    go_ret
    exact ⟨ret_bool (by rw [HF.out];simp),below_tr HB0.out D5.out⟩
   ·by_cases h2':ph=0∨ph=2
    ·rw [if_pos h2'] at HF
     have hln:sv.length=n3:=HI.out.saved.1
     have HLN:=Lib.hid hln
     clear hln
     obtain ⟨x0,y0,x1,y1⟩:=r
     have HZ:Hid (regZ ⟨x0,y0,x1,y1⟩=(decide (x0=0) && (decide (y0=0) && (decide (x1=0) && decide (y1=0))))):=rfl
     by_cases hz:x0=0∧y0=0∧x1=0∧y1=0
     ·obtain ⟨rfl,rfl,rfl,rfl⟩:=hz
      have HE:Hid (((n3:Int)==0)=decide (n3=0)):=by show _=_;rw [Bool.eq_iff_iff,beq_iff_eq,decide_eq_true_iff];omega
      rcases h2' with rfl|rfl
      ·go_wp2_with fail
       go_ret
       exact ⟨ret_bool (by rw [HF.out,HZ.out,HLN.out,HE.out];simp),below_tr HB0.out D2.out⟩
      ·go_wp2_with fail
       go_ret
       exact ⟨ret_bool (by rw [HF.out,HZ.out,HLN.out,HE.out];simp),below_tr HB0.out D2.out⟩
     ·have HZF:Hid (regZ ⟨x0,y0,x1,y1⟩=false):=by
       rw [HZ.out]
       show _=_
       by_cases a:x0=0
       ·by_cases b:y0=0
        ·by_cases c:x1=0
         ·rw [decide_eq_false (p:=y1=0) (fun e=>hz ⟨a,b,c,e⟩)];simp
         ·rw [decide_eq_false c];simp
        ·rw [decide_eq_false b];simp
       ·rw [decide_eq_false a];simp
      rcases h2' with rfl|rfl
      ·go_wp2_with fail
       all_goals
        go_ret
        exact ⟨ret_bool (by rw [HF.out,HZF.out];rfl),below_tr HB0.out D2.out⟩
      ·go_wp2_with fail
       all_goals
        go_ret
        exact ⟨ret_bool (by rw [HF.out,HZF.out];rfl),below_tr HB0.out D2.out⟩
    ·rw [if_neg h2'] at HF
     have p0:(ph==0)=false:=by rw [beq_eq_false_iff_ne];omega
     have p1:(ph==1)=false:=by rw [beq_eq_false_iff_ne];omega
     have p2:(ph==2)=false:=by rw [beq_eq_false_iff_ne];omega
     have HE:Hid (decide (ph=1)=false):=by show _=_;simp [h1]
     clear h2' h1
     go_wp2_with fail
     go_ret
     exact ⟨ret_bool (by rw [HF.out,HE.out];rfl),below_tr HB0.out D2.out⟩
end Go.Proofs.YtbnfdhidgdfbeaaGreat

namespace Go.Proofs.YtbnfdhidgdfbeaaGreat
set_option maxRecDepth 100000
open Go.RowKit

abbrev z12:Array Value:=#[.int .i64 0,.int .i64 0,.int .i64 0,.int .i64 0,.slice none 0 0,.slice none 0 0,.int .i64 0,.int .i64 0,.int .i64 0,.int .i64 0,.int .i64 0,.slice none 0 0]
abbrev zSl:Sl3:=⟨none,0,0,none,0,0,none,0,0⟩
/-- Block g holds a board's value. -/
def BkAt (w:World) (g:Nat) (b:Bd) (s:Sl3):Prop:=w.heap[g]?=some (.cells (bdArr b s) 31 (0,0))
theorem BkAt.tr {w w':World} {g:Nat} {b:Bd} {s:Sl3} (h:BkAt w g b s) (hb:Below w.heap.size w w'):BkAt w' g b s:=heap_tr hb h
theorem BkAt.far {w:World} {g:Nat} {b:Bd} {s:Sl3} (h:BkAt w g b s) {p:Addr} (hp:g≠p.block) (v:Value):BkAt (w.setCell p v) g b s:=heap_setFar h hp v
theorem BkAt.chg {w w':World} {g lo hi:Nat} {b:Bd} {s:Sl3} (h:BkAt w g b s) (hc:Chg lo hi w w') (hn:g<lo∨hi≤g):BkAt w' g b s:=(hc.block g (heap_lt0 h) hn).trans h
theorem BkAt.cells {w:World} {g:Nat} {b:Bd} {s:Sl3} (h:BkAt w g b s):w.cell? ⟨g,0,none⟩=some (.int .i64 b.dev.W)∧w.cell? ⟨g,1,none⟩=some (.int .i64 b.dev.H)∧w.cell? ⟨g,2,none⟩=some (.int .i64 b.dev.T)∧w.cell? ⟨g,3,none⟩=some (.int .i64 b.dev.R)∧w.cell? ⟨g,4,none⟩=some (.slice s.A1 s.n1 s.c1)∧w.cell? ⟨g,5,none⟩=some (.slice s.A2 s.n2 s.c2)∧w.cell? ⟨g,6,none⟩=some (.int .i64 b.phase)∧w.cell? ⟨g,7,none⟩=some (.int .i64 b.reg.X0)∧w.cell? ⟨g,8,none⟩=some (.int .i64 b.reg.Y0)∧w.cell? ⟨g,9,none⟩=some (.int .i64 b.reg.X1)∧w.cell? ⟨g,10,none⟩=some (.int .i64 b.reg.Y1)∧w.cell? ⟨g,11,none⟩=some (.slice s.A3 s.n3 s.c3):=cells12 h
theorem BkAt.soft {w:World} {g:Nat} {b:Bd} {s:Sl3} (h:BkAt w g b s):∀k,w.frozen? ⟨g,k,none⟩=false:=fun k=>frozen_heap h k
abbrev put12 (w:World) (g:Nat) (b:Bd) (s:Sl3):World:=((((((((((((w.setCell ⟨g,0,none⟩ (.int .i64 b.dev.W)).setCell ⟨g,1,none⟩ (.int .i64 b.dev.H)).setCell ⟨g,2,none⟩ (.int .i64 b.dev.T)).setCell ⟨g,3,none⟩ (.int .i64 b.dev.R)).setCell ⟨g,4,none⟩ (.slice s.A1 s.n1 s.c1)).setCell ⟨g,5,none⟩ (.slice s.A2 s.n2 s.c2)).setCell ⟨g,6,none⟩ (.int .i64 b.phase)).setCell ⟨g,7,none⟩ (.int .i64 b.reg.X0)).setCell ⟨g,8,none⟩ (.int .i64 b.reg.Y0)).setCell ⟨g,9,none⟩ (.int .i64 b.reg.X1)).setCell ⟨g,10,none⟩ (.int .i64 b.reg.Y1)).setCell ⟨g,11,none⟩ (.slice s.A3 s.n3 s.c3))
theorem chg_put12 {w:World} {g:Nat} (b:Bd) (s:Sl3):Chg g (g+1) w (put12 w g b s):=by
 repeat (first|with_reducible exact Chg.refl _ _ _|with_reducible refine Chg.set ?_ (Nat.le_refl _) (Nat.lt_succ_self _) _)
/-- The twelve stores into a block. -/
theorem fin12 {w W WF:World} {lo gr:Nat} {b b':Bd} {s s':Sl3} (hWF:put12 W gr b' s'=WF) (hz:BkAt W gr b s) (hB:Below lo w W) (hlo:lo≤gr):BkAt WF gr b' s'∧W.heap.size≤WF.heap.size∧Below lo w WF∧Chg gr (gr+1) W WF:=by
 have hC:=chg_put12 (w:=W) (g:=gr) b' s'
 rw [hWF] at hC
 refine ⟨by rw [←hWF];exact set12 hz,hC.size,?_,hC⟩
 exact ⟨hC.os.trans hB.os,hC.tape.trans hB.tape,hC.output.trans hB.output,Nat.le_trans hB.size hC.size,fun k hk=>(hC.block k (by have:=heap_lt0 hz;omega) (.inl (by omega))).trans (hB.block k hk)⟩
end Go.Proofs.YtbnfdhidgdfbeaaGreat

namespace Go.Proofs.YtbnfdhidgdfbeaaGreat
set_option maxRecDepth 100000
open Go.RowKit
theorem results_cell3 {fn:Func} {p u v:Tmp} {ty t:TypeId} {tmps cs:Array Value} {P:Program} {w:World} {g:Nat} {fs:Array Field} (h:fn.results=#[.cell p ty,.tmp u,.tmp v]) (ht:tmps.getD p undef = .pointer (some ⟨g,0,none⟩)) (hg:w.heap[g]?=some (.cells cs t (0,0)))
  (hu:P.underlying ty=some (.struct fs)) (hi:(P.info? ty).map (·.size)=some cs.size):(results fn tmps).run P w = .ok (.tuple #[.agg cs,tmps.getD u undef,tmps.getD v undef]) w:=by
 have hl:(loadVar ty ⟨g,0,none⟩).run P w = .ok (.agg cs) w:=run_loadVar_row w g t ty cs (0,0) (.struct fs) hg hu rfl hi
 simp only [results,h]
 simp only [Array.getD_eq_getD_getElem?] at ht
 simp [ht,asAddr,hl]
set_option maxHeartbeats 4000000 in
theorem running_any (b:Bd) (s:Sl3) (ph:Int) (w:World) :
  Calls Tryz.prog 65 #[.agg (bdArr b s),.int .i64 ph] w fun e w'=>e = .returned (.agg (bdArr ⟨b.dev,b.frames,b.state,ph,rZ,[]⟩ ⟨s.A1,s.n1,s.c1,s.A2,s.n2,s.c2,none,0,0⟩))∧Below w.heap.size w w':=by
 go_enter Tryz.func65,Tryz.ntmps65
 go_wp2_with fail
 refine bodyPost_ret (v := .agg (bdArr ⟨b.dev,b.frames,b.state,ph,rZ,[]⟩ ⟨s.A1,s.n1,s.c1,s.A2,s.n2,s.c2,none,0,0⟩)) (results_cell1 Tryz.results65 rfl (heap_newAt (by simp)) Tryz.underlying31 (by kernel_rfl)) rfl ⟨rfl,below_new (below_new (Below.refl _ _) _) _⟩
end Go.Proofs.YtbnfdhidgdfbeaaGreat
