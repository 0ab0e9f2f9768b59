/- Boards whose rows may lie anywhere: footprints by sets of blocks. -/
import Derived.Laws.CopyOwn
import Derived.Laws.Tables
import Derived.Lib.SmallJoins
import Derived.Test.YtignkfhdkcgkgaaGreatOpp
namespace Go.Proofs.YtignkfhdkcgkgaaGreat
set_option maxHeartbeats 4000000
set_option maxRecDepth 100000
open Go.RowKit
structure uz (S:Nat→Prop) (w w':World):Prop where
 os:w'.os=w.os
 tape:w'.tape=w.tape
 output:w'.output=w.output
 size:w.heap.size<=w'.heap.size
 block:∀k,k<w.heap.size→¬S k→w'.heap[k]?=w.heap[k]?
theorem uz.refl (S:Nat→Prop) (w:World):uz S w w:=⟨rfl,rfl,rfl,Nat.le_refl _,fun _ _ _=>rfl⟩
theorem uz.trans {S:Nat→Prop} {a b c:World} (h:uz S a b) (k:uz S b c):uz S a c :=
 ⟨k.os.trans h.os,k.tape.trans h.tape,k.output.trans h.output,Nat.le_trans h.size k.size,fun i hi hn=>(k.block i (Nat.lt_of_lt_of_le hi h.size) hn).trans (h.block i hi hn)⟩
theorem uz.chg {S:Nat→Prop} {lo hi:Nat} {w w':World} (h:uz S w w') (hS:∀k,S k→lo<=k/\k<hi):Chg lo hi w w' :=
 ⟨h.os,h.tape,h.output,h.size,fun k hk hn=>h.block k hk fun hs=>by have:=hS k hs;omega⟩
theorem nE {w w':World} {A:Option Addr} {S:Nat→Prop} (h:w.grownBy w' (A.map (·.block))) (l:∀a,A=some a→S a.block):uz S w w' :=
 ⟨h.os,h.tape,h.output,h.size,fun k hk hn=>h.block k hk (by
  cases A with
  | none=>simp
  | some a =>
   simp only [Option.map_some,ne_eq,Option.some.injEq]
   rintro rfl
   exact hn (l a rfl))⟩
def Fp (S:Nat→Prop) (w:World) (A:Option Addr) (n:Nat):Prop:=∀a:Addr,A=some a→S a.block/\∀j,j<n→∀(a1:Addr) (m c:Nat),w.cell? ⟨a.block,j,none⟩=some (.slice (some a1) m c)→S a1.block
theorem Fp.of {lo hi:Nat} {w:World} {A:Option Addr} {n c:Nat} {xss:List (List Int)} (h:bq lo hi w A n c xss):Fp (fun k=>lo<=k/\k<hi) w A n:=by
 rintro a rfl
 refine ⟨?_,fun j hj a1 m c1 hc=>?_⟩
 ·obtain ⟨vs,h1,h2,h3⟩:=h
  exact ⟨(jI h1 a rfl).1,h2 a rfl⟩
 ·obtain ⟨b,A1,m1,c2,hA,hck,-,-,hl,-⟩:=h.row hj
  injection hA with hA
  subst hA
  rw [hck] at hc
  injection hc with hc
  injection hc with hc _ _
  exact hl a1 hc
theorem Fp.mono {S T:Nat→Prop} {w:World} {A:Option Addr} {n:Nat} (h:Fp S w A n) (hS:∀k,S k→T k):Fp T w A n :=
 fun a ha=>⟨hS _ (h a ha).1,fun j hj a1 m c hc=>hS _ ((h a ha).2 j hj a1 m c hc)⟩
theorem F9 {lo:Nat} {w:World} {A:Option Addr} {n c j:Nat} {vs:List SV} {v:SV} (h1:w.ownsRow lo 27 1 (.slice A n c) n (vs.map SV.val)) (hj:j<n) (hv:vs[j]?=some v):∃g,A=some ⟨g,0,none⟩/\w.cell? ⟨g,j,none⟩=some (SV.val v):=by
 rcases h1.2 with ⟨_,h0⟩|⟨g,cap,cur,hv',hb,hh,hnc,hcap,hsz,ht⟩
 ·omega
 ·injection hv' with hA
  subst hA
  refine ⟨g,rfl,?_⟩
  have hx:(vs.map SV.val)[j]?=some (SV.val v):=by rw [List.getElem?_map,hv];rfl
  rw [←ht,List.getElem?_take] at hx
  simp only [Nat.mul_one] at hx
  rw [if_pos hj,Array.getElem?_toList] at hx
  unfold World.cell?
  rw [hh]
  exact hx
theorem bq.keepS {S:Nat→Prop} {lo hi:Nat} {w w':World} {A:Option Addr} {n c:Nat} {xss:List (List Int)} (h:bq lo hi w A n c xss) (f:Fp S w A n) (hk:∀k,k<w.heap.size→S k→w'.heap[k]?=w.heap[k]?):bq lo hi w' A n c xss/\Fp S w' A n:=by
 have hlen:=h.len
 obtain ⟨vs,h1,h2,h3⟩:=h
 refine ⟨⟨vs,aa h1 fun a ha=>hk _ (jI h1 a ha).2 (f a ha).1,h2,h3.1,fun j v hv=>?_,h3.2.2⟩,fun a ha=>⟨(f a ha).1,fun j hj a1 m c hc=>(f a ha).2 j hj a1 m c ?_⟩⟩
 ·obtain ⟨ho,hh⟩:=h3.2.1 j v hv
  have hj:j<n:=by have:=(List.getElem?_eq_some_iff.1 hv).1;have:=h3.1;omega
  obtain ⟨g,hA,hc⟩:=F9 h1 hj hv
  refine ⟨aa ho fun a ha=>hk _ (ho.lt a ha).2 ((f ⟨g,0,none⟩ hA).2 j hj a v.2.1 v.2.2 ?_),hh⟩
  rw [hc,SV.val,ha]
 ·rwa [World.cell?_of_block (a:=⟨a.block,j,none⟩) (hk a.block (jI h1 a ha).2 (f a ha).1)] at hc
structure zJ (w:World) (b:Bd) (s:Sl3) (lo hi:Nat) (S1 S2 S3:Nat→Prop):Prop where
 frames:bq lo hi w s.A1 s.n1 s.c1 b.frames
 f1:Fp S1 w s.A1 s.n1
 state:Own lo w s.A2 s.n2 s.c2 b.state
 f2:∀a,s.A2=some a→S2 a.block
 saved:bq lo hi w s.A3 s.n3 s.c3 b.saved
 f3:Fp S3 w s.A3 s.n3
 d12:∀k,S1 k→S2 k→False
 d13:∀k,S1 k→S3 k→False
 d23:∀k,S2 k→S3 k→False
 i1:∀k,S1 k→lo<=k/\k<hi
 i2:∀k,S2 k→lo<=k/\k<hi
 i3:∀k,S3 k→lo<=k/\k<hi
def aG (lo hi:Nat) (w:World) (b:Bd) (s:Sl3):Prop:=∃S1 S2 S3,zJ w b s lo hi S1 S2 S3
theorem dm.fp {lo hi:Nat} {w:World} {b:Bd} {s:Sl3} (h:dm lo hi w b s):aG lo hi w b s:=by
 obtain ⟨l1,h1,l2,h2,l3,h3,k⟩:=h
 have e1:=k.in1
 have e2:=k.in2
 have e3:=k.in3
 have a12:=k.a12
 have a13:=k.a13
 have a23:=k.a23
 unfold Ap at a12 a13 a23
 exact ⟨fun i=>l1<=i/\i<h1,fun i=>l2<=i/\i<h2,fun i=>l3<=i/\i<h3,k.frames.widen e1.1 e1.2,.of k.frames,k.state.more e2.1,k.lies,k.saved.widen e3.1 e3.2,.of k.saved,
  fun i x y=>by omega,fun i x y=>by omega,fun i x y=>by omega,fun i x=>by omega,fun i x=>by omega,fun i x=>by omega⟩
theorem aG.rd {lo hi:Nat} {w:World} {b:Bd} {s:Sl3} (h:aG lo hi w b s):bV w b s:=by
 obtain ⟨S1,S2,S3,k⟩:=h
 exact ⟨k.frames.rd,k.state.rd,k.saved.rd⟩
theorem aG.keep {lo hi:Nat} {w w':World} {b:Bd} {s:Sl3} (h:aG lo hi w b s) (hk:∀k,k<w.heap.size→lo<=k→k<hi→w'.heap[k]?=w.heap[k]?):aG lo hi w' b s:=by
 obtain ⟨S1,S2,S3,k⟩:=h
 obtain ⟨p1,p2⟩:=k.frames.keepS k.f1 (w':=w') fun i h1 h2=>hk i h1 (k.i1 i h2).1 (k.i1 i h2).2
 obtain ⟨q1,q2⟩:=k.saved.keepS k.f3 (w':=w') fun i h1 h2=>hk i h1 (k.i3 i h2).1 (k.i3 i h2).2
 exact ⟨S1,S2,S3,p1,p2,aa k.state fun a ha=>hk _ (k.state.lt a ha).2 (k.i2 _ (k.f2 a ha)).1 (k.i2 _ (k.f2 a ha)).2,k.f2,q1,q2,k.d12,k.d13,k.d23,k.i1,k.i2,k.i3⟩
theorem aG.below {lo hi:Nat} {w w':World} {b:Bd} {s:Sl3} (h:aG lo hi w b s) (hb:Below w.heap.size w w'):aG lo hi w' b s:=h.keep fun k hk _ _=>hb.block k hk
theorem aG.chg {lo hi lo' hi':Nat} {w w':World} {b:Bd} {s:Sl3} (h:aG lo hi w b s) (hg:Chg lo' hi' w w') (ha:hi<=lo'∨hi'<=lo):aG lo hi w' b s:=h.keep fun k hk h1 h2=>hg.block k hk (by omega)
theorem aG.drewd {lo hi:Nat} {w:World} {b:Bd} {s:Sl3} (h:aG lo hi w b s):aG lo hi w.drew b s:=h.keep fun _ _ _ _=>rfl
theorem aG.widen {lo hi lo' hi':Nat} {w:World} {b:Bd} {s:Sl3} (h:aG lo hi w b s) (e1:lo'<=lo) (e2:hi<=hi'):aG lo' hi' w b s:=by
 obtain ⟨S1,S2,S3,k⟩:=h
 have j1:=k.i1
 have j2:=k.i2
 have j3:=k.i3
 exact ⟨S1,S2,S3,k.frames.widen e1 e2,k.f1,k.state.more e1,k.f2,k.saved.widen e1 e2,k.f3,k.d12,k.d13,k.d23,fun i h=>by have:=j1 i h;omega,fun i h=>by have:=j2 i h;omega,fun i h=>by have:=j3 i h;omega⟩
theorem aG.dev {lo hi:Nat} {w:World} {b b':Bd} {s:Sl3} (h:aG lo hi w b s) (e1:b'.frames=b.frames) (e2:b'.state=b.state) (e3:b'.saved=b.saved):aG lo hi w b' s:=by
 obtain ⟨S1,S2,S3,k⟩:=h
 exact ⟨S1,S2,S3,by rw [e1];exact k.frames,k.f1,by rw [e2];exact k.state,k.f2,by rw [e3];exact k.saved,k.f3,k.d12,k.d13,k.d23,k.i1,k.i2,k.i3⟩
theorem aG.clear {lo hi:Nat} {w:World} {b b':Bd} {s:Sl3} {A:Option Addr} {c:Nat} (h:aG lo hi w b s) (hn:A=none) (hc:c=0) (e1:b'.frames=b.frames) (e2:b'.state=b.state) (e3:b'.saved=[]):aG lo hi w b' ⟨s.A1,s.n1,s.c1,s.A2,s.n2,s.c2,A,0,c⟩:=by
 subst hn hc
 obtain ⟨S1,S2,S3,k⟩:=h
 exact ⟨S1,S2,fun _=>False,by rw [e1];exact k.frames,k.f1,by rw [e2];exact k.state,k.f2,by rw [e3];exact bq.nil,by rintro a ⟨⟩,k.d12,fun _ _ h=>h,fun _ _ h=>h,k.i1,k.i2,by rintro i ⟨⟩⟩
theorem aG.setFrames {lo hi base hi2:Nat} {w:World} {b b':Bd} {s:Sl3} {A:Option Addr} {n c:Nat} (h:aG lo hi w b s) (o:bq base hi2 w A n c b'.frames) (hb:hi<=base) (hl:lo<=base) (hh:hi<=hi2) (e2:b'.state=b.state) (e3:b'.saved=b.saved):aG lo hi2 w b' ⟨A,n,c,s.A2,s.n2,s.c2,s.A3,s.n3,s.c3⟩:=by
 obtain ⟨S1,S2,S3,k⟩:=h
 have j2:=k.i2
 have j3:=k.i3
 exact ⟨fun i=>base<=i/\i<hi2,S2,S3,o.widen hl (Nat.le_refl _),.of o,by rw [e2];exact k.state,k.f2,by rw [e3];exact k.saved.widen (Nat.le_refl _) hh,k.f3,
  fun i x y=>by have:=j2 i y;omega,fun i x y=>by have:=j3 i y;omega,k.d23,fun i x=>by omega,fun i x=>by have:=j2 i x;omega,fun i x=>by have:=j3 i x;omega⟩
theorem aG.setState {lo hi base hi2:Nat} {w:World} {b b':Bd} {s:Sl3} {A:Option Addr} {n c:Nat} (h:aG lo hi w b s) (o:Own base w A n c b'.state) (l:gJ A base hi2) (hb:hi<=base) (hl:lo<=base) (hh:hi<=hi2) (e1:b'.frames=b.frames) (e3:b'.saved=b.saved):aG lo hi2 w b' ⟨s.A1,s.n1,s.c1,A,n,c,s.A3,s.n3,s.c3⟩:=by
 obtain ⟨S1,S2,S3,k⟩:=h
 have j1:=k.i1
 have j3:=k.i3
 exact ⟨S1,fun i=>base<=i/\i<hi2,S3,by rw [e1];exact k.frames.widen (Nat.le_refl _) hh,k.f1,o.more hl,l,by rw [e3];exact k.saved.widen (Nat.le_refl _) hh,k.f3,
  fun i x y=>by have:=j1 i x;omega,k.d13,fun i x y=>by have:=j3 i y;omega,fun i x=>by have:=j1 i x;omega,fun i x=>by omega,fun i x=>by have:=j3 i x;omega⟩
theorem aG.setSaved {lo hi base hi2:Nat} {w:World} {b b':Bd} {s:Sl3} {A:Option Addr} {n c:Nat} (h:aG lo hi w b s) (o:bq base hi2 w A n c b'.saved) (hb:hi<=base) (hl:lo<=base) (hh:hi<=hi2) (e1:b'.frames=b.frames) (e2:b'.state=b.state):aG lo hi2 w b' ⟨s.A1,s.n1,s.c1,s.A2,s.n2,s.c2,A,n,c⟩:=by
 obtain ⟨S1,S2,S3,k⟩:=h
 have j1:=k.i1
 have j2:=k.i2
 exact ⟨S1,S2,fun i=>base<=i/\i<hi2,by rw [e1];exact k.frames.widen (Nat.le_refl _) hh,k.f1,by rw [e2];exact k.state,k.f2,o.widen hl (Nat.le_refl _),.of o,
  k.d12,fun i x y=>by have:=j1 i x;omega,fun i x y=>by have:=j2 i x;omega,fun i x=>by have:=j1 i x;omega,fun i x=>by have:=j2 i x;omega,fun i x=>by omega⟩
theorem qB {w w':World} {A:Option Addr} (h:w.grownBy w' (A.map (·.block))) {k:Nat} (hk:k<w.heap.size) (hA:∀a,A=some a→a.block≠k):w'.heap[k]?=w.heap[k]?:=by
 refine h.block k hk ?_
 cases A with
 | none=>simp
 | some a =>
  simp only [Option.map_some,ne_eq,Option.some.injEq]
  rintro rfl
  exact hA a rfl rfl
theorem tF (S:Nat→Prop) (lo hi:Nat) (A:Option Addr) (n c:Nat) (xss:List (List Int)) (k0:Int) (w:World) (h:bq lo hi w A n c xss) (hf:Fp S w A n) (hk0:0<=k0) (hk1:k0<=1099511627776) (hz:af xss<=1099511627776) :
  Calls Tryz.prog 60 #[.slice A n c,.int .i64 k0] w fun e w'=>e = .returned (.int .i64 (k0+bA xss n))/\bq lo hi w' A n c (qC k0 xss)/\Fp S w' A n/\uz S w w':=by
 have hx:=h.len
 obtain ⟨hn,hrow⟩:=dz hx hz
 have HX:=Hd hx
 have HR:=Hd hrow
 have HO:=Hd h
 have HF0:=Hd hf
 clear hx hrow h hf
 go_enter Tryz.func60,Tryz.ntmps60
 go_wp2_with fail
 go_loopw [1,5] (fun v i wr=>∃k:Nat,k<=n/\i = .int .i64 k/\v = .int .i64 (k0+bA xss k)/\bq lo hi wr A n c (l9 k0 xss k)/\Fp S wr A n/\uz S w wr) (fun _ i _=>n - (intOf i).toNat)
 case atStart=>exact ⟨0,Nat.zero_le _,rfl,by simp [bA],by rw [wH];exact HO.out,HF0.out,uz.refl _ _⟩
 case round =>
  obtain ⟨k,hk,rfl,rfl,ho,hf,hg⟩:=hrel
  have HG:=Hd hg
  have HF:=Hd hf
  clear hg hf
  by_cases hlt:k<n
  ·obtain ⟨b,A1,m1,c1,rfl,hck,_,o1,l1,hup,hne,_,_,hbw⟩:=ho.rowX hlt
   rw [uL (by rw [HX.out];exact hlt),if_neg (by omega)] at o1
   have hm:m1=(xss[k]?.getD []).length:=o1.len.symm
   have hs:bA xss (k+1)=bA xss k+m1:=by rw [bA,hm]
   have hfit:bA xss (k+1)<=af xss:=by have:=qP xss (j:=k+1) (k:=xss.length) (by rw [HX.out];omega);unfold af;omega
   have HS:=Hd hs
   have O1:=Hd o1
   have HSA:Hid (∀a,A1=some a→S a.block):=fun a ha=>(HF.out _ rfl).2 k hlt a m1 c1 (by rw [hck,ha])
   have HM:=Hd hm
   have HUP:=Hd hup
   have HNE:=Hd hne
   have hb1:bA xss k+m1<=1099511627776:=by omega
   clear ho o1 l1 hup hm hs hfit hne
   go_wp2_with fail
   refine (il lo A1 m1 c1 _ _ _ O1.out (by omega) (by omega) (by omega)).mono ?_
   rintro e w2 ⟨rfl,o2,g2⟩
   have O2:=Hd (HUP.out w2 _ g2 o2)
   have G2:=Hd (HG.out.trans (nE g2 HSA.out))
   have HF2:Hid (Fp S w2 (some ⟨b,0,none⟩) n):=by
    rintro a ⟨⟩
    refine ⟨(HF.out _ rfl).1,fun j hj a1 m c hc=>(HF.out _ rfl).2 j hj a1 m c ?_⟩
    rwa [World.cell?_of_block (a:=⟨b,j,none⟩) (qB g2 hbw HNE.out)] at hc
   clear o2 g2 hck
   go_wp2_with fail
   go_roundw
   case rel=>exact ⟨k+1,by omega,by go_num,by rw [HS.out];go_num,by rw [←xy (by rw [HX.out];exact hlt),←HM.out];exact O2.out,HF2.out,G2.out⟩
   case measure=>simp [intOf];omega
  ·have hkn:k=n:=by omega
   subst hkn
   go_wp2_with fail
   go_ret
   exact ⟨rfl,by rw [qC,HX.out];exact ho,HF.out,HG.out⟩
theorem bq.setRow {lo hi base:Nat} {w:World} {g n c k:Nat} {xss:List (List Int)} {A:Option Addr} {m c1:Nat} {xs:List Int} (h:bq lo hi w (some ⟨g,0,none⟩) n c xss) (hk:k<n) (o:Own base w A m c1 xs) (hb:hi<=base) (hl:lo<=base) (hh:hi<=w.heap.size) :
  bq lo w.heap.size (w.setCell ⟨g,k,none⟩ (.slice A m c1)) (some ⟨g,0,none⟩) n c (xss.set k xs):=by
 have hlen:=h.len
 obtain ⟨vs,h1,h2,h3⟩:=h
 have hg:g<hi:=h2 _ rfl
 have hvl:vs.length=n:=by rw [h3.1];exact hlen
 have hol:=o.lt
 rcases h1.2 with ⟨hv,_⟩|⟨g',cap,cur,hv,hbg,hh',hnc,hcap,hsz,ht⟩
 ·cases hv
 ·injection hv with hA hn hc
  injection hA with hA
  injection hA with hA
  subst hA hc
  have hko:Own base (w.setCell ⟨g,k,none⟩ (.slice A m c1)) A m c1 xs:=aa o fun a ha=>Below.heap_setCell _ _ _ _ (by have:=(hol a ha).1;show a.block≠g;omega)
  have hp:=h3.put hh' k (.slice A m c1)
  refine ⟨vs.set k (A,m,c1),⟨by simp [hvl],.inr ⟨g,c,cur.setIfInBounds k (.slice A m c1),rfl,hbg,by simp [World.setCell,Array.getElem?_modify,hh'],hnc,hcap,by simp [hsz],?_⟩⟩,fun a ha=>Nat.lt_of_lt_of_le (h2 a ha) hh,?_,?_,?_⟩
  ·simp only [Array.toList_setIfInBounds,Nat.mul_one,List.take_set,List.map_set]
   rw [show List.take n cur.toList=vs.map SV.val by simpa using ht]
   rfl
  ·rw [List.length_set,List.length_set];exact h3.1
  ·intro j v hv
   rcases Nat.decEq k j with e|e
   ·rw [List.getElem?_set_ne e] at hv
    rw [List.getElem?_set_ne e]
    obtain ⟨k1,k2⟩:=hp.2.1 j v hv
    exact ⟨k1,fun a ha=>Nat.lt_of_lt_of_le (k2 a ha) hh⟩
   ·subst e
    rw [List.getElem?_set_self (by omega)] at hv
    rw [List.getElem?_set_self (by omega)]
    injection hv with hv
    subst hv
    exact ⟨hko.more hl,fun a ha=>(hol a ha).2⟩
  ·intro i j u v hij hu hv a b ha hb'
   rcases Nat.decEq k i with e|e
   ·rw [List.getElem?_set_ne e] at hu
    have hua:=(h3.2.1 i u hu).2 a ha
    rcases Nat.decEq k j with e2|e2
    ·rw [List.getElem?_set_ne e2] at hv
     exact h3.2.2 i j u v hij hu hv a b ha hb'
    ·subst e2
     rw [List.getElem?_set_self (by omega)] at hv
     injection hv with hv
     subst hv
     have:=(hol b hb').1
     omega
   ·subst e
    rw [List.getElem?_set_self (by omega)] at hu
    injection hu with hu
    subst hu
    rw [List.getElem?_set_ne (by omega)] at hv
    have hvb:=(h3.2.1 j v hv).2 b hb'
    have:=(hol a ha).1
    omega
theorem aG.row {lo hi:Nat} {w:World} {b:Bd} {s:Sl3} {k:Nat} (h:aG lo hi w b s) (hk:k<s.n1) :
  ∃g A1 m1 c1,s.A1=some ⟨g,0,none⟩/\w.cell? ⟨g,k,none⟩=some (.slice A1 m1 c1)/\w.frozen? ⟨g,k,none⟩=false/\bH w A1 m1 (b.frames[k]?.getD [])/\lo<=g/\g<hi/\g<w.heap.size:=by
 obtain ⟨S1,S2,S3,q⟩:=h
 obtain ⟨g,A1,m1,c1,h1,h2,h3,h4,-,-,-,h5,h6,h7⟩:=q.frames.rowX hk
 exact ⟨g,A1,m1,c1,h1,h2,h3,h4.ints,h5,h6,h7⟩
theorem zJ.setRow {lo hi base:Nat} {w:World} {b b':Bd} {s:Sl3} {g k:Nat} {A:Option Addr} {m c:Nat} {xs:List Int} {S1 S2 S3:Nat→Prop} (q:zJ w b s lo hi S1 S2 S3) (hk:k<s.n1) (hA:s.A1=some ⟨g,0,none⟩) (o:Own base w A m c xs) (hb:hi<=base) (hl:lo<=base) (hh:hi<=w.heap.size)
  (e1:b'.frames=b.frames.set k xs) (e2:b'.state=b.state) (e3:b'.saved=b.saved):zJ (w.setCell ⟨g,k,none⟩ (.slice A m c)) b' s lo w.heap.size (fun i=>S1 i∨(base<=i/\i<w.heap.size)) S2 S3:=by
 have hfr:=q.frames
 rw [hA] at hfr
 have hf1:=q.f1 ⟨g,0,none⟩ hA
 have hgl:=q.i1 g hf1.1
 have hol:=o.lt
 have hkeep:∀i,i<w.heap.size→i≠g→(w.setCell ⟨g,k,none⟩ (.slice A m c)).heap[i]?=w.heap[i]?:=fun i _ hi=>Below.heap_setCell _ _ _ _ hi
 have k2:=q.state
 obtain ⟨p1,p2⟩:=q.saved.keepS q.f3 (w':=w.setCell ⟨g,k,none⟩ (.slice A m c)) fun i h1 h2=>hkeep i h1 fun e=>by subst e;exact q.d13 _ hf1.1 h2
 refine ⟨?_,?_,?_,q.f2,?_,p2,?_,?_,q.d23,?_,?_,?_⟩
 ·rw [e1,hA];exact hfr.setRow hk o hb hl hh
 ·intro a ha
  rw [hA] at ha
  injection ha with ha
  subst ha
  refine ⟨.inl hf1.1,fun j hj a1 m1 c1 hc=>?_⟩
  rcases Nat.decEq j k with e|e
  ·have hc:(w.setCell ⟨g,k,none⟩ (.slice A m c)).cell? ⟨g,j,none⟩=some (.slice (some a1) m1 c1):=hc
   rw [World.cell?_setCell_other _ ⟨g,k,none⟩ ⟨g,j,none⟩ _ (by intro h;injection h with _ h;exact e h.symm)] at hc
   exact .inl (hf1.2 j hj a1 m1 c1 hc)
  ·subst e
   obtain ⟨g',A1,m2,c2,hA',hck,-⟩:=hfr.row hk
   injection hA' with hA'
   injection hA' with hA'
   subst hA'
   have hc:(w.setCell ⟨g,j,none⟩ (.slice A m c)).cell? ⟨g,j,none⟩=some (.slice (some a1) m1 c1):=hc
   rw [World.cell?_setCell_same _ _ _ hck] at hc
   injection hc with hc
   injection hc with hc _ _
   exact .inr (hol a1 hc)
 ·rw [e2];exact aa k2 fun a ha=>hkeep _ (k2.lt a ha).2 fun e=>by subst e;exact q.d12 _ hf1.1 (q.f2 a ha)
 ·rw [e3];exact p1.widen (Nat.le_refl _) hh
 ·rintro i (x|x) y
  ·exact q.d12 i x y
  ·have:=q.i2 i y;omega
 ·rintro i (x|x) y
  ·exact q.d13 i x y
  ·have:=q.i3 i y;omega
 ·rintro i (x|x)
  ·have:=q.i1 i x;omega
  ·omega
 ·intro i x;have:=q.i2 i x;omega
 ·intro i x;have:=q.i3 i x;omega
theorem aG.setRow {lo hi base:Nat} {w:World} {b b':Bd} {s:Sl3} {g k:Nat} {A:Option Addr} {m c:Nat} {xs:List Int} (h:aG lo hi w b s) (hk:k<s.n1) (hA:s.A1=some ⟨g,0,none⟩) (o:Own base w A m c xs) (hb:hi<=base) (hl:lo<=base) (hh:hi<=w.heap.size)
  (e1:b'.frames=b.frames.set k xs) (e2:b'.state=b.state) (e3:b'.saved=b.saved):aG lo w.heap.size (w.setCell ⟨g,k,none⟩ (.slice A m c)) b' s:=by
 obtain ⟨S1,S2,S3,q⟩:=h
 exact ⟨_,_,_,q.setRow hk hA o hb hl hh e1 e2 e3⟩
def dE (g0 lo hi:Nat) (w:World) (b:Bd) (s:Sl3):Prop:=∃S1 S2 S3,zJ w b s lo hi S1 S2 S3/\¬S1 g0/\¬S2 g0/\¬S3 g0
theorem aG.toN {g0 lo hi:Nat} {w:World} {b:Bd} {s:Sl3} (h:aG lo hi w b s) (hg:hi<=g0):dE g0 lo hi w b s:=by
 obtain ⟨S1,S2,S3,q⟩:=h
 exact ⟨S1,S2,S3,q,fun x=>by have:=q.i1 _ x;omega,fun x=>by have:=q.i2 _ x;omega,fun x=>by have:=q.i3 _ x;omega⟩
theorem dE.fp {g0 lo hi:Nat} {w:World} {b:Bd} {s:Sl3} (h:dE g0 lo hi w b s):aG lo hi w b s:=by
 obtain ⟨S1,S2,S3,q,-⟩:=h
 exact ⟨S1,S2,S3,q⟩
theorem zJ.keep {lo hi:Nat} {w w':World} {b:Bd} {s:Sl3} {S1 S2 S3:Nat→Prop} (k:zJ w b s lo hi S1 S2 S3) (hk:∀i,i<w.heap.size→(S1 i∨S2 i∨S3 i)→w'.heap[i]?=w.heap[i]?):zJ w' b s lo hi S1 S2 S3:=by
 obtain ⟨p1,p2⟩:=k.frames.keepS k.f1 (w':=w') fun i h1 h2=>hk i h1 (.inl h2)
 obtain ⟨q1,q2⟩:=k.saved.keepS k.f3 (w':=w') fun i h1 h2=>hk i h1 (.inr (.inr h2))
 exact ⟨p1,p2,aa k.state fun a ha=>hk _ (k.state.lt a ha).2 (.inr (.inl (k.f2 a ha))),k.f2,q1,q2,k.d12,k.d13,k.d23,k.i1,k.i2,k.i3⟩
theorem dE.below {g0 lo hi:Nat} {w w':World} {b:Bd} {s:Sl3} (h:dE g0 lo hi w b s) (hb:Below w.heap.size w w'):dE g0 lo hi w' b s:=by
 obtain ⟨S1,S2,S3,q,n⟩:=h
 exact ⟨S1,S2,S3,q.keep fun i hi _=>hb.block i hi,n⟩
theorem dE.dev {g0 lo hi:Nat} {w:World} {b b':Bd} {s:Sl3} (h:dE g0 lo hi w b s) (e1:b'.frames=b.frames) (e2:b'.state=b.state) (e3:b'.saved=b.saved):dE g0 lo hi w b' s:=by
 obtain ⟨S1,S2,S3,k,n⟩:=h
 exact ⟨S1,S2,S3,⟨by rw [e1];exact k.frames,k.f1,by rw [e2];exact k.state,k.f2,by rw [e3];exact k.saved,k.f3,k.d12,k.d13,k.d23,k.i1,k.i2,k.i3⟩,n⟩
theorem dE.chg {g0 lo hi:Nat} {w w':World} {b:Bd} {s:Sl3} (h:dE g0 lo hi w b s) (hc:Chg g0 (g0+1) w w'):dE g0 lo hi w' b s:=by
 obtain ⟨S1,S2,S3,q,n1,n2,n3⟩:=h
 refine ⟨S1,S2,S3,q.keep fun i hi hs=>hc.block i hi ?_,n1,n2,n3⟩
 rcases Nat.lt_trichotomy i g0 with h|h|h
 ·exact .inl h
 ·subst h
  rcases hs with h|h|h
  ·exact absurd h n1
  ·exact absurd h n2
  ·exact absurd h n3
 ·exact .inr h
theorem dE.setRow {g0 lo hi base:Nat} {w:World} {b b':Bd} {s:Sl3} {g k:Nat} {A:Option Addr} {m c:Nat} {xs:List Int} (h:dE g0 lo hi w b s) (hk:k<s.n1) (hA:s.A1=some ⟨g,0,none⟩) (o:Own base w A m c xs) (hb:hi<=base) (hl:lo<=base) (hh:hi<=w.heap.size) (hg:g0<base)
  (e1:b'.frames=b.frames.set k xs) (e2:b'.state=b.state) (e3:b'.saved=b.saved):dE g0 lo w.heap.size (w.setCell ⟨g,k,none⟩ (.slice A m c)) b' s:=by
 obtain ⟨S1,S2,S3,q,n1,n2,n3⟩:=h
 exact ⟨_,_,_,q.setRow hk hA o hb hl hh e1 e2 e3,fun x=>x.elim n1 fun y=>by omega,n2,n3⟩
theorem aG.stateAt {lo hi:Nat} {w:World} {b:Bd} {s:Sl3} {k:Nat} (h:aG lo hi w b s) (hk:k<s.n2) :
  ∃g,s.A2=some ⟨g,0,none⟩/\w.cell? ⟨g,k,none⟩=some (.int .i64 (b.state[k]?.getD 0))/\w.frozen? ⟨g,k,none⟩=false/\lo<=g/\g<hi/\g<w.heap.size:=by
 obtain ⟨S1,S2,S3,q⟩:=h
 obtain ⟨g,cur,hA,h1,h2,-⟩:=q.state.block (by omega)
 have hst:=q.state
 rw [hA] at hst
 obtain ⟨h3,h4⟩:=hst.cellAt hk
 have h5:=q.i2 _ (q.f2 _ hA)
 exact ⟨g,hA,h3,h4,h5.1,h5.2,h2⟩
theorem aG.setNum {lo hi:Nat} {w:World} {b b':Bd} {s:Sl3} {g k:Nat} {x:Int} (h:aG lo hi w b s) (hk:k<s.n2) (hA:s.A2=some ⟨g,0,none⟩)
  (e1:b'.frames=b.frames) (e2:b'.state=b.state.set k x) (e3:b'.saved=b.saved):aG lo hi (w.setCell ⟨g,k,none⟩ (.int .i64 x)) b' s:=by
 obtain ⟨S1,S2,S3,q⟩:=h
 have hg2:=q.f2 _ hA
 have hkeep:∀i,i<w.heap.size→i≠g→(w.setCell ⟨g,k,none⟩ (.int .i64 x)).heap[i]?=w.heap[i]?:=fun i _ hi=>Below.heap_setCell _ _ _ _ hi
 obtain ⟨p1,p2⟩:=q.saved.keepS q.f3 (w':=w.setCell ⟨g,k,none⟩ (.int .i64 x)) fun i h1 h2=>hkeep i h1 fun e=>by subst e;exact q.d23 _ hg2 h2
 obtain ⟨r1,r2⟩:=q.frames.keepS q.f1 (w':=w.setCell ⟨g,k,none⟩ (.int .i64 x)) fun i h1 h2=>hkeep i h1 fun e=>by subst e;exact q.d12 _ h2 hg2
 have hst:=q.state
 rw [hA] at hst
 refine ⟨S1,S2,S3,by rw [e1];exact r1,r2,?_,q.f2,by rw [e3];exact p1,p2,q.d12,q.d13,q.d23,q.i1,q.i2,q.i3⟩
 rw [e2,hA]
 exact hst.stored hk x
theorem IQ {w:World} {g:Nat} {p:Addr} {v:Value} (hne:g≠p.block) (o:Nat):(w.setCell p v).cell? ⟨g,o,none⟩=w.cell? ⟨g,o,none⟩:=World.cell?_of_block (a:=⟨g,o,none⟩) (Below.heap_setCell w p v g hne)
theorem oo {w:World} {g gw:Nat} {u0 u1 u2 u3 u4 u5 u6 u7 u8 u9 u10 u11:Value} (hne:g≠gw) (o:Nat):((((((((((((w.setCell ⟨gw,0,none⟩ u0).setCell ⟨gw,1,none⟩ u1).setCell ⟨gw,2,none⟩ u2).setCell ⟨gw,3,none⟩ u3).setCell ⟨gw,4,none⟩ u4).setCell ⟨gw,5,none⟩ u5).setCell ⟨gw,6,none⟩ u6).setCell ⟨gw,7,none⟩ u7).setCell ⟨gw,8,none⟩ u8).setCell ⟨gw,9,none⟩ u9).setCell ⟨gw,10,none⟩ u10).setCell ⟨gw,11,none⟩ u11).cell? ⟨g,o,none⟩=w.cell? ⟨g,o,none⟩:=by
 iterate 12 rw [IQ (by exact hne)]
theorem cB (b:Bd) (s:Sl3) (w:World) (hA:bV w b s) (hz:kF b) :
  Calls Tryz.prog 38 #[.agg (aD b s)] w fun e w'=>∃t,e = .returned (.agg (aD b t))/\dm w.heap.size w'.heap.size w' b t/\Below w.heap.size w w':=by
 obtain ⟨d,fs,st,ph,r,sv⟩:=b
 obtain ⟨A1,n1,c1,A2,n2,c2,A3,n3,c3⟩:=s
 obtain ⟨hz1,hz2,hz3⟩:=hz
 dsimp only at hz1 hz2 hz3
 have HI:=Hd hA
 have hln:n2<=1099511627776:=by have e1:st.length=n2:=hA.state.1;omega
 have HB0:=Hd (aB (aB (Below.refl w.heap.size w) (.cells (aD ⟨d,fs,st,ph,r,sv⟩ ⟨A1,n1,c1,A2,n2,c2,A3,n3,c3⟩) 31)) (.cells #[.int .i64 0,.int .i64 0,.int .i64 0,.int .i64 0,.slice none 0 0,.slice none 0 0,.int .i64 0,.int .i64 0,.int .i64 0,.int .i64 0,.int .i64 0,.slice none 0 0] 31))
 have HX:Hid (((w.alloc (.cells (aD ⟨d,fs,st,ph,r,sv⟩ ⟨A1,n1,c1,A2,n2,c2,A3,n3,c3⟩) 31)).alloc (.cells #[.int .i64 0,.int .i64 0,.int .i64 0,.int .i64 0,.slice none 0 0,.slice none 0 0,.int .i64 0,.int .i64 0,.int .i64 0,.int .i64 0,.int .i64 0,.slice none 0 0] 31)).heap[w.heap.size]?=some (.cells (aD ⟨d,fs,st,ph,r,sv⟩ ⟨A1,n1,c1,A2,n2,c2,A3,n3,c3⟩) 31 (0,0))):=aR _ (aL _ _)
 have HZ:Hid (((w.alloc (.cells (aD ⟨d,fs,st,ph,r,sv⟩ ⟨A1,n1,c1,A2,n2,c2,A3,n3,c3⟩) 31)).alloc (.cells #[.int .i64 0,.int .i64 0,.int .i64 0,.int .i64 0,.slice none 0 0,.slice none 0 0,.int .i64 0,.int .i64 0,.int .i64 0,.int .i64 0,.int .i64 0,.slice none 0 0] 31)).heap[w.heap.size+1]?=some (.cells (aD zBd ⟨none,0,0,none,0,0,none,0,0⟩) 31 (0,0))):=ae (by simp)
 have hsz:((w.alloc (.cells (aD ⟨d,fs,st,ph,r,sv⟩ ⟨A1,n1,c1,A2,n2,c2,A3,n3,c3⟩) 31)).alloc (.cells #[.int .i64 0,.int .i64 0,.int .i64 0,.int .i64 0,.slice none 0 0,.slice none 0 0,.int .i64 0,.int .i64 0,.int .i64 0,.int .i64 0,.int .i64 0,.slice none 0 0] 31)).heap.size=w.heap.size+2:=by simp
 have hne:w.heap.size≠w.heap.size+1:=by omega
 clear hA
 go_enter Tryz.func38,Tryz.ntmps38
 go_wp2_with fail
 generalize hW:((w.alloc (.cells (aD ⟨d,fs,st,ph,r,sv⟩ ⟨A1,n1,c1,A2,n2,c2,A3,n3,c3⟩) 31)).alloc (.cells #[.int .i64 0,.int .i64 0,.int .i64 0,.int .i64 0,.slice none 0 0,.slice none 0 0,.int .i64 0,.int .i64 0,.int .i64 0,.int .i64 0,.int .i64 0,.slice none 0 0] 31))=W at *
 clear hW
 have hlt:w.heap.size<W.heap.size:=by omega
 have hlt1:w.heap.size+1<W.heap.size:=by omega
 obtain ⟨x0,x1,x2,x3,x4,x5,x6,x7,x8,x9,x10,x11⟩:=aK HX.out
 obtain ⟨z0,z1,z2,z3,z4,z5,z6,z7,z8,z9,z10,z11⟩:=aK HZ.out
 have y0:=fun k=>aJ HZ.out k
 have hD:=Below.refl W.heap.size W
 go_region_held3 (fun w'=>∀o,w'.cell? ⟨w.heap.size,o,none⟩=W.cell? ⟨w.heap.size,o,none⟩)
  (first|with_reducible exact fun o=>(oo hne o).trans (hD.cell (p:=⟨w.heap.size,o,none⟩) hlt)|with_reducible exact fun o=>(oo hne o).trans (hD.drew.cell (p:=⟨w.heap.size,o,none⟩) hlt)|with_reducible exact fun o=>hD.cell (p:=⟨w.heap.size,o,none⟩) hlt|with_reducible exact fun o=>hD.drew.cell (p:=⟨w.heap.size,o,none⟩) hlt)
  (first
   | (go_at_call 101;(with_reducible refine (jB A1 n1 c1 fs _ (HI.out.frames.below (aA HB0.out (by first|with_reducible exact hD|with_reducible exact hD.drew))) hz1).mono ?_);rintro e w1 ⟨B1,e1,rfl,o1,b1⟩;have O1:=Hd o1;have hb1:=Hd b1;have hD2:=aA (a:=W) (by first|with_reducible exact hD|with_reducible exact hD.drew) b1;clear b1 o1;replace hD:=hD2;clear z0 z1 z2 z3 z4 z5 z6 z7 z8 z9 z10 z11 y0;have HZc:=aF hD HZ.out;obtain ⟨z0,z1,z2,z3,z4,z5,z6,z7,z8,z9,z10,z11⟩:=aK HZc;have y0:=fun k=>aJ HZc k;clear HZc)
   | (go_at_call 102;(with_reducible refine (lG A2 n2 c2 st _ (HI.out.state.below (aA HB0.out (by first|with_reducible exact hD|with_reducible exact hD.drew))) hln).mono ?_);rintro e w2 ⟨B2,e2,rfl,o2,b2⟩;have O2:=Hd o2;have hb2:=Hd b2;have hD2:=aA (a:=W) (by first|with_reducible exact hD|with_reducible exact hD.drew) b2;clear b2 o2;replace hD:=hD2;clear z0 z1 z2 z3 z4 z5 z6 z7 z8 z9 z10 z11 y0;have HZc:=aF hD HZ.out;obtain ⟨z0,z1,z2,z3,z4,z5,z6,z7,z8,z9,z10,z11⟩:=aK HZc;have y0:=fun k=>aJ HZc k;clear HZc)
   | (go_at_call 101;(with_reducible refine (jB A3 n3 c3 sv _ (HI.out.saved.below (aA HB0.out (by first|with_reducible exact hD|with_reducible exact hD.drew))) hz3).mono ?_);rintro e w3 ⟨B3,e3,rfl,o3,b3⟩;have O3:=Hd o3;have hb3:=Hd b3;have hD2:=aA (a:=W) (by first|with_reducible exact hD|with_reducible exact hD.drew) b3;clear b3 o3;replace hD:=hD2;clear z0 z1 z2 z3 z4 z5 z6 z7 z8 z9 z10 z11 y0;have HZc:=aF hD HZ.out;obtain ⟨z0,z1,z2,z3,z4,z5,z6,z7,z8,z9,z10,z11⟩:=aK HZc;have y0:=fun k=>aJ HZc k;clear HZc))
 ·clear z0 z1 z2 z3 z4 z5 z6 z7 z8 z9 z10 z11 y0 x0 x1 x2 x3 x4 x5 x6 x7 x8 x9 x10 x11
  go_wp2_with fail
  have hs9:=hD.size
  have hs1:=hb1.out.size
  have hs2:=hb2.out.size
  have hs3:=hb3.out.size
  have hs4:=HB0.out.size
  have e0:W.drew.heap.size=W.heap.size:=rfl
  (try rw [e0] at hs1);(try rw [e0] at hs2);(try rw [e0] at hs3)
  have L2:=O2.out.lies
  generalize hWF:World.setCell _ _ _=WF
  have hb:WF.heap[w.heap.size+1]?=some (.cells (aD ⟨d,fs,st,ph,r,sv⟩ ⟨B1,n1,e1,B2,n2,e2,B3,n3,e3⟩) 31 (0,0)):=by
   rw [←hWF]
   exact EG (aF hD HZ.out)
  have hC:Chg (w.heap.size+1) (w.heap.size+2) w3 WF:=by
   rw [←hWF]
   repeat (first|with_reducible exact Chg.refl _ _ _|with_reducible refine Chg.set ?_ (by omega) (by omega) _)
  have hB:Below w.heap.size w WF:=by
   have h0:=aA HB0.out hD
   rw [←hWF]
   repeat (first|with_reducible exact h0|with_reducible refine Below.setCell ?_ (by simp only;omega) _)
  have hsz5:=hC.size
  have K1:=((O1.out.below hb2.out).below hb3.out).chg hC (.inr (by first|omega|(simp only [World.size_drew];omega)))
  have K2:=(O2.out.below hb3.out).chg hC L2 (.inr (by first|omega|(simp only [World.size_drew];omega)))
  have K3:=O3.out.chg hC (.inr (by first|omega|(simp only [World.size_drew];omega)))
  (try rw [e0] at K1);(try rw [e0] at K2);(try rw [e0] at K3);(try rw [e0] at L2)
  clear hWF
  refine bodyPost_ret (v := .agg (aD ⟨d,fs,st,ph,r,sv⟩ ⟨B1,n1,e1,B2,n2,e2,B3,n3,e3⟩)) (iJ Tryz.results38 rfl hb Tryz.underlying31 (by kernel_rfl)) rfl ⟨⟨B1,n1,e1,B2,n2,e2,B3,n3,e3⟩,rfl,?_,hB⟩
  exact wJ K1 K2 L2 K3 ⟨by omega,by omega,by omega,by omega,by omega,by omega,by omega⟩
theorem Eo {w w':World} {g:Nat} (h:w.grownBy w' (some g)):Chg g (g+1) w w' :=
 ⟨h.os,h.tape,h.output,h.size,fun k hk hn=>h.block k hk (by simp only [ne_eq,Option.some.injEq];omega)⟩
theorem Hq {base g:Nat} {w:World} {n c:Nat} {xs:List Int} {A:Option Addr} (h:Own base w A n c xs) (hA:A.map (·.block)=some g):Own g w A n c xs/\gJ A g (g+1)/\g<w.heap.size:=by
 have hl:=h.lt
 obtain ⟨h1,h2⟩:=h
 cases A with
 | none=>cases hA
 | some a =>
  simp only [Option.map_some,Option.some.injEq] at hA
  subst hA
  refine ⟨⟨h1,?_⟩,?_,(hl a rfl).2⟩
  ·rcases h2 with ⟨hv,_⟩|⟨g,cap,cur,hv,hg,r⟩
   ·cases hv
   ·refine .inr ⟨g,cap,cur,hv,?_,r⟩
    injection hv with hv _ _
    injection hv with hv
    rw [hv]
    exact Nat.le_refl _
  ·rintro b ⟨⟩
   exact ⟨Nat.le_refl _,Nat.lt_succ_self _⟩
theorem oq {ops:Array Oper} {o:Oper} {a:Act} {K:Act→World→Prop} {Q:Exit→Act→World→Prop} {E:Prop} {w W:World} (hgd:o.guard=none) (s x:Operand)
  (ho:o.op = .call { callee := .builtin .append,args:=#[s,x],argTypes:=#[27,27] })
  (g:Nat) (hs:a.eval s = .slice (some ⟨g,0,none⟩) 0 0) (hown:Own g w (some ⟨g,0,none⟩) 0 0 []) (B:Option Addr) (m d:Nat) (ys:List Int) (hx:a.eval x = .slice B m d) (hr:bH w B m ys)
  (hn:m<=1099511627776) (lo:Nat) (hlo:lo<=g) (hB:Below lo W w)
  (h:∀A' c' w' b,Own b w' A' m c' ys→gJ A' b (b+1)→(b=g∨b=w.heap.size)→b<w'.heap.size→Below lo W w'→Chg g (g+1) w w'→K (a.put o.dst (.slice A' m c')) w') :
  if Region.wanted o (yielded ops a.tmps)=true then Oper.wp Tryz.prog o a w K Q else E:=by
 have hw:Region.wanted o (yielded ops a.tmps)=true:=by simp [Region.wanted,hgd]
 rw [if_pos hw]
 obtain ⟨i0,hi,hz0,hz1,hz2⟩:=info_parts eP
 have hgw:g<w.heap.size:=(hown.lt ⟨g,0,none⟩ rfl).2
 cases B with
 | none =>
  have hm:m=0:=by
   rcases Nat.eq_zero_or_pos m with h0|h0
   ·exact h0
   ·obtain ⟨b,o',e,_⟩:=hr.2 h0
    cases e
  subst hm
  have hy:ys=[]:=List.eq_nil_of_length_eq_zero hr.1
  subst hy
  have hrun:=mY (P:=Tryz.prog) w g 27 o.type 3 i0 1 Tryz.underlying27 hi _ _ _ hown d
  unfold Oper.wp execOp
  simp only [ho,resolve,invoke,builtin,Sem.run_bind,Sem.run_pure,Result.andThen_ok,List.map_toArray,List.map_cons,List.map_nil,hs,hx,hrun]
  exact h _ 0 w g hown (by rintro b ⟨⟩;exact ⟨Nat.le_refl _,Nat.lt_succ_self _⟩) (.inl rfl) hgw hB (Chg.refl _ _ _)
 | some ad =>
  obtain ⟨v',w',hrun,h2,h3,h4,h5⟩:=run_append_own_at (P:=Tryz.prog) w g 27 o.type 3 i0 (.int .i64 0) 1 8 Tryz.underlying27 hi hz0 hz1 hz2 rfl (by omega) (.slice (some ⟨g,0,none⟩) 0 0) 0 _ hown ad m d (ys.map (Value.int .i64)) (by simp [hr.1])
   (fun j u hu=>by
    have hj:j<m:=by
     have:=(List.getElem?_eq_some_iff.1 hu).1
     simpa [hr.1] using this
    obtain ⟨b,o',e,_,hc⟩:=hr.2 (by omega)
    injection e with e
    subst e
    rw [Addr.add_lit,hc j hj]
    have:j<ys.length:=by rw [hr.1];exact hj
    simp [this] at hu
    simp [this,←hu]) (fun u hu=>by simp at hu;obtain ⟨y,_,rfl⟩:=hu;rfl) (by unfold maxLen;omega) (by omega) (by omega)
  unfold Oper.wp execOp
  simp only [ho,resolve,invoke,builtin,Sem.run_bind,Sem.run_pure,Result.andThen_ok,List.map_toArray,List.map_cons,List.map_nil,hs,hx,hrun]
  have hB':Below lo W w':=lC (A:=some ⟨g,0,none⟩) (base:=g) hB h3 (by rintro a ⟨⟩;exact Nat.le_refl _) hlo (by omega)
  have hC:Chg g (g+1) w w':=Eo h3
  simp only [Nat.zero_add,List.map_nil,List.nil_append] at h2
  rcases h2.2 with ⟨rfl,h0⟩|⟨g2,cap,cur,rfl,_⟩
  ·rcases h5 with h5|h5 <;> cases h5
  ·have hh:g2=g∨g2=w.heap.size:=by
    rcases h5 with h5|h5
    ·left;simpa [Value.ownBlock] using h5
    ·right;simpa [Value.ownBlock] using h5
   obtain ⟨k1,k2,k3⟩:=Hq (A:=some ⟨g2,0,none⟩) h2 rfl
   exact h _ cap w' g2 k1 k2 hh k3 hB' hC
theorem fA (b:Bd) (s:Sl3) (w:World) (hA:bV w b s) (hz:kF b) :
  Calls Tryz.prog 48 #[.agg (aD b s)] w fun e w'=>∃t,e = .returned (.agg (aD b t))/\dm w.heap.size w'.heap.size w' b t/\Below w.heap.size w w':=by
 obtain ⟨d,fs,st,ph,r,sv⟩:=b
 obtain ⟨A1,n1,c1,A2,n2,c2,A3,n3,c3⟩:=s
 obtain ⟨hz1,hz2,hz3⟩:=hz
 dsimp only at hz1 hz2 hz3
 have HI:=Hd hA
 have hln:n2<=1099511627776:=by have e1:st.length=n2:=hA.state.1;omega
 have HB0:=Hd (aB (aB (Below.refl w.heap.size w) (.cells (aD ⟨d,fs,st,ph,r,sv⟩ ⟨A1,n1,c1,A2,n2,c2,A3,n3,c3⟩) 31)) (.cells #[.int .i64 0,.int .i64 0,.int .i64 0,.int .i64 0,.slice none 0 0,.slice none 0 0,.int .i64 0,.int .i64 0,.int .i64 0,.int .i64 0,.int .i64 0,.slice none 0 0] 31))
 have HX:Hid (((w.alloc (.cells (aD ⟨d,fs,st,ph,r,sv⟩ ⟨A1,n1,c1,A2,n2,c2,A3,n3,c3⟩) 31)).alloc (.cells #[.int .i64 0,.int .i64 0,.int .i64 0,.int .i64 0,.slice none 0 0,.slice none 0 0,.int .i64 0,.int .i64 0,.int .i64 0,.int .i64 0,.int .i64 0,.slice none 0 0] 31)).heap[w.heap.size]?=some (.cells (aD ⟨d,fs,st,ph,r,sv⟩ ⟨A1,n1,c1,A2,n2,c2,A3,n3,c3⟩) 31 (0,0))):=aR _ (aL _ _)
 have HZ:Hid (((w.alloc (.cells (aD ⟨d,fs,st,ph,r,sv⟩ ⟨A1,n1,c1,A2,n2,c2,A3,n3,c3⟩) 31)).alloc (.cells #[.int .i64 0,.int .i64 0,.int .i64 0,.int .i64 0,.slice none 0 0,.slice none 0 0,.int .i64 0,.int .i64 0,.int .i64 0,.int .i64 0,.int .i64 0,.slice none 0 0] 31)).heap[w.heap.size+1]?=some (.cells (aD zBd ⟨none,0,0,none,0,0,none,0,0⟩) 31 (0,0))):=ae (by simp)
 have hsz:w.heap.size+2<=((w.alloc (.cells (aD ⟨d,fs,st,ph,r,sv⟩ ⟨A1,n1,c1,A2,n2,c2,A3,n3,c3⟩) 31)).alloc (.cells #[.int .i64 0,.int .i64 0,.int .i64 0,.int .i64 0,.slice none 0 0,.slice none 0 0,.int .i64 0,.int .i64 0,.int .i64 0,.int .i64 0,.int .i64 0,.slice none 0 0] 31)).heap.size:=by simp
 have hne:w.heap.size≠w.heap.size+1:=by omega
 clear hA
 go_enter Tryz.func48,Tryz.ntmps48
 go_wp2_with fail
 generalize hW:((w.alloc (.cells (aD ⟨d,fs,st,ph,r,sv⟩ ⟨A1,n1,c1,A2,n2,c2,A3,n3,c3⟩) 31)).alloc (.cells #[.int .i64 0,.int .i64 0,.int .i64 0,.int .i64 0,.slice none 0 0,.slice none 0 0,.int .i64 0,.int .i64 0,.int .i64 0,.int .i64 0,.int .i64 0,.slice none 0 0] 31))=W at *
 clear hW
 have hlt:w.heap.size<W.heap.size:=by omega
 have hlt1:w.heap.size+1<W.heap.size:=by omega
 obtain ⟨x0,x1,x2,x3,x4,x5,x6,x7,x8,x9,x10,x11⟩:=aK HX.out
 obtain ⟨z0,z1,z2,z3,z4,z5,z6,z7,z8,z9,z10,z11⟩:=aK HZ.out
 have y0:=fun k=>aJ HZ.out k
 have hD:=Below.refl W.heap.size W
 go_region_held3 (fun w'=>∀o,w'.cell? ⟨w.heap.size,o,none⟩=W.cell? ⟨w.heap.size,o,none⟩)
  (first|with_reducible exact fun o=>(oo hne o).trans ((hD).cell (p:=⟨w.heap.size,o,none⟩) hlt)|with_reducible exact fun o=>(oo hne o).trans ((hD.drew).cell (p:=⟨w.heap.size,o,none⟩) hlt)|with_reducible exact fun o=>(oo hne o).trans ((aB hD _).cell (p:=⟨w.heap.size,o,none⟩) hlt)|with_reducible exact fun o=>(oo hne o).trans (((aB hD _).drew).cell (p:=⟨w.heap.size,o,none⟩) hlt)|with_reducible exact fun o=>(oo hne o).trans ((aB hD.drew _).cell (p:=⟨w.heap.size,o,none⟩) hlt)|with_reducible exact fun o=>(oo hne o).trans (((aB hD.drew _).drew).cell (p:=⟨w.heap.size,o,none⟩) hlt)|with_reducible exact fun o=>(hD).cell (p:=⟨w.heap.size,o,none⟩) hlt|with_reducible exact fun o=>(hD.drew).cell (p:=⟨w.heap.size,o,none⟩) hlt|with_reducible exact fun o=>(aB hD _).cell (p:=⟨w.heap.size,o,none⟩) hlt|with_reducible exact fun o=>((aB hD _).drew).cell (p:=⟨w.heap.size,o,none⟩) hlt|with_reducible exact fun o=>(aB hD.drew _).cell (p:=⟨w.heap.size,o,none⟩) hlt|with_reducible exact fun o=>((aB hD.drew _).drew).cell (p:=⟨w.heap.size,o,none⟩) hlt)
  (first
   | (go_at_call 119;(with_reducible refine (mg A1 n1 c1 fs _ (HI.out.frames.below (aA HB0.out (by first|with_reducible exact hD|with_reducible exact hD.drew|with_reducible exact aB hD _|with_reducible exact (aB hD _).drew|with_reducible exact aB hD.drew _|with_reducible exact (aB hD.drew _).drew))) hz1).mono ?_);rintro e w1 ⟨B1,e1,rfl,o1,b1⟩;have O1:=Hd o1;have hb1:=Hd b1;have hD2:=aA (a:=W) (by first|with_reducible exact hD|with_reducible exact hD.drew|with_reducible exact aB hD _|with_reducible exact (aB hD _).drew|with_reducible exact aB hD.drew _|with_reducible exact (aB hD.drew _).drew) b1;clear b1 o1;replace hD:=hD2;clear z0 z1 z2 z3 z4 z5 z6 z7 z8 z9 z10 z11 y0;have HZc:=aF hD HZ.out;obtain ⟨z0,z1,z2,z3,z4,z5,z6,z7,z8,z9,z10,z11⟩:=aK HZc;have y0:=fun k=>aJ HZc k;clear HZc)
   | (go_at_call 119;(with_reducible refine (mg A3 n3 c3 sv _ (HI.out.saved.below (aA HB0.out (by first|with_reducible exact hD|with_reducible exact hD.drew|with_reducible exact aB hD _|with_reducible exact (aB hD _).drew|with_reducible exact aB hD.drew _|with_reducible exact (aB hD.drew _).drew))) hz3).mono ?_);rintro e w3 ⟨B3,e3,rfl,o3,b3⟩;have O3:=Hd o3;have hb3:=Hd b3;have hD2:=aA (a:=W) (by first|with_reducible exact hD|with_reducible exact hD.drew|with_reducible exact aB hD _|with_reducible exact (aB hD _).drew|with_reducible exact aB hD.drew _|with_reducible exact (aB hD.drew _).drew) b3;clear b3 o3;replace hD:=hD2;clear z0 z1 z2 z3 z4 z5 z6 z7 z8 z9 z10 z11 y0;have HZc:=aF hD HZ.out;obtain ⟨z0,z1,z2,z3,z4,z5,z6,z7,z8,z9,z10,z11⟩:=aK HZc;have y0:=fun k=>aJ HZc k;clear HZc)
   | (refine oq rfl _ _ (by rfl) _ (by rfl) (by first|exact Own.newAt rfl (Nat.le_refl _)|exact (Own.newAt rfl (Nat.le_refl _)).drewd|exact Own.below (Own.newAt (w:=W) rfl (Nat.le_refl _)) hb1.out|exact Own.below (Own.drewd (Own.newAt (w:=W) rfl (Nat.le_refl _))) hb1.out|exact Own.below (Own.newAt (w:=W.drew) rfl (Nat.le_refl _)) hb1.out) A2 n2 c2 st (by rfl) (HI.out.state.below (aA HB0.out (by first|with_reducible exact hD|with_reducible exact hD.drew|with_reducible exact aB hD _|with_reducible exact (aB hD _).drew|with_reducible exact aB hD.drew _|with_reducible exact (aB hD.drew _).drew))) hln W.heap.size (by first|exact Nat.le_refl _|exact hD.size) (by first|with_reducible exact hD|with_reducible exact hD.drew|with_reducible exact aB hD _|with_reducible exact (aB hD _).drew|with_reducible exact aB hD.drew _|with_reducible exact (aB hD.drew _).drew) ?_;rintro B2 e2 w2 q2 o2 l2 hx2 hxw b2 c2';have O2:=Hd o2;have L2:=Hd l2;have C2:=Hd c2';clear o2 l2 c2';replace hD:=b2;clear z0 z1 z2 z3 z4 z5 z6 z7 z8 z9 z10 z11 y0;have HZc:=aF hD HZ.out;obtain ⟨z0,z1,z2,z3,z4,z5,z6,z7,z8,z9,z10,z11⟩:=aK HZc;have y0:=fun k=>aJ HZc k;clear HZc))
 all_goals
  clear z0 z1 z2 z3 z4 z5 z6 z7 z8 z9 z10 z11 y0 x0 x1 x2 x3 x4 x5 x6 x7 x8 x9 x10 x11
  go_wp2_with fail
  have e0:W.drew.heap.size=W.heap.size:=rfl
  have e7:(W.alloc (.cells #[] 3)).drew.heap.size=W.heap.size+1:=by show (W.alloc _).heap.size=_;simp
  have e8:(w1.alloc (.cells #[] 3)).heap.size=w1.heap.size+1:=by simp
  have e9:(w1.alloc (.cells #[] 3)).drew.heap.size=w1.heap.size+1:=by show (w1.alloc _).heap.size=_;simp
  have hs9:=hD.size
  have hs1:=hb1.out.size
  have hs2:=C2.out.size
  have hs3:=hb3.out.size
  have hs4:=HB0.out.size
  have K1:=O1.out
  have L2':=L2.out
  have hK1:∃l1,bq l1 w1.heap.size w2 B1 n1 e1 fs/\W.heap.size<=l1/\l1<=w1.heap.size/\(w1.heap.size<=q2∨q2+1<=l1):=by
   first
    | exact ⟨_,(K1.below (aB (Below.refl _ _) _)).chg C2.out (by omega),by omega,by omega,by omega⟩
    | exact ⟨_,K1.chg C2.out (by omega),by omega,by omega,by omega⟩
  obtain ⟨l1,k1,hl1,hl2,hl3⟩:=hK1
  have hq2:W.heap.size<=q2:=by omega
  clear K1
  generalize hWF:World.setCell _ _ _=WF
  have hb:WF.heap[w.heap.size+1]?=some (.cells (aD ⟨d,fs,st,ph,r,sv⟩ ⟨B1,n1,e1,B2,n2,e2,B3,n3,e3⟩) 31 (0,0)):=by
   rw [←hWF]
   exact EG (aF hD HZ.out)
  have hC:Chg (w.heap.size+1) (w.heap.size+2) w3 WF:=by
   rw [←hWF]
   repeat (first|with_reducible exact Chg.refl _ _ _|with_reducible refine Chg.set ?_ (by omega) (by omega) _)
  have hB:Below w.heap.size w WF:=by
   have h0:=aA HB0.out hD
   rw [←hWF]
   repeat (first|with_reducible exact h0|with_reducible refine Below.setCell ?_ (by simp only;omega) _)
  have hsz5:=hC.size
  have K1:=(k1.below hb3.out).chg hC (.inr (by omega))
  have K2:=(O2.out.below hb3.out).chg hC L2' (.inr (by omega))
  have K3:=O3.out.chg hC (.inr (by omega))
  clear hWF
  refine bodyPost_ret (v := .agg (aD ⟨d,fs,st,ph,r,sv⟩ ⟨B1,n1,e1,B2,n2,e2,B3,n3,e3⟩)) (iJ Tryz.results48 rfl hb Tryz.underlying31 (by kernel_rfl)) rfl ⟨⟨B1,n1,e1,B2,n2,e2,B3,n3,e3⟩,rfl,?_,hB⟩
  exact ⟨_,_,_,_,_,_,K1,K2,L2',K3,by unfold Ap;omega,by unfold Ap;omega,by unfold Ap;omega,⟨by omega,by omega⟩,⟨by omega,by omega⟩,⟨by omega,by omega⟩⟩
abbrev z12:Array Value:=#[.int .i64 0,.int .i64 0,.int .i64 0,.int .i64 0,.slice none 0 0,.slice none 0 0,.int .i64 0,.int .i64 0,.int .i64 0,.int .i64 0,.int .i64 0,.slice none 0 0]
abbrev zSl:Sl3:=⟨none,0,0,none,0,0,none,0,0⟩
def bC (w:World) (g:Nat) (b:Bd) (s:Sl3):Prop:=w.heap[g]?=some (.cells (aD b s) 31 (0,0))
theorem bC.tr {w w':World} {g:Nat} {b:Bd} {s:Sl3} (h:bC w g b s) (hb:Below w.heap.size w w'):bC w' g b s:=aF hb h
theorem bC.far {w:World} {g:Nat} {b:Bd} {s:Sl3} (h:bC w g b s) {p:Addr} (hp:g≠p.block) (v:Value):bC (w.setCell p v) g b s:=gp h hp v
theorem bC.chg {w w':World} {g lo hi:Nat} {b:Bd} {s:Sl3} (h:bC w g b s) (hc:Chg lo hi w w') (hn:g<lo∨hi<=g):bC w' g b s:=(hc.block g (aX h) hn).trans h
theorem bC.cells {w:World} {g:Nat} {b:Bd} {s:Sl3} (h:bC w g b s):w.cell? ⟨g,0,none⟩=some (.int .i64 b.dev.W)/\w.cell? ⟨g,1,none⟩=some (.int .i64 b.dev.H)/\w.cell? ⟨g,2,none⟩=some (.int .i64 b.dev.T)/\w.cell? ⟨g,3,none⟩=some (.int .i64 b.dev.R)/\w.cell? ⟨g,4,none⟩=some (.slice s.A1 s.n1 s.c1)/\w.cell? ⟨g,5,none⟩=some (.slice s.A2 s.n2 s.c2)/\w.cell? ⟨g,6,none⟩=some (.int .i64 b.phase)/\w.cell? ⟨g,7,none⟩=some (.int .i64 b.reg.X0)/\w.cell? ⟨g,8,none⟩=some (.int .i64 b.reg.Y0)/\w.cell? ⟨g,9,none⟩=some (.int .i64 b.reg.X1)/\w.cell? ⟨g,10,none⟩=some (.int .i64 b.reg.Y1)/\w.cell? ⟨g,11,none⟩=some (.slice s.A3 s.n3 s.c3):=aK h
theorem bC.soft {w:World} {g:Nat} {b:Bd} {s:Sl3} (h:bC w g b s):∀k,w.frozen? ⟨g,k,none⟩=false:=fun k=>aJ h k
abbrev put12 (w:World) (g:Nat) (b:Bd) (s:Sl3):World:=((((((((((((w.setCell ⟨g,0,none⟩ (.int .i64 b.dev.W)).setCell ⟨g,1,none⟩ (.int .i64 b.dev.H)).setCell ⟨g,2,none⟩ (.int .i64 b.dev.T)).setCell ⟨g,3,none⟩ (.int .i64 b.dev.R)).setCell ⟨g,4,none⟩ (.slice s.A1 s.n1 s.c1)).setCell ⟨g,5,none⟩ (.slice s.A2 s.n2 s.c2)).setCell ⟨g,6,none⟩ (.int .i64 b.phase)).setCell ⟨g,7,none⟩ (.int .i64 b.reg.X0)).setCell ⟨g,8,none⟩ (.int .i64 b.reg.Y0)).setCell ⟨g,9,none⟩ (.int .i64 b.reg.X1)).setCell ⟨g,10,none⟩ (.int .i64 b.reg.Y1)).setCell ⟨g,11,none⟩ (.slice s.A3 s.n3 s.c3))
theorem xw {w:World} {g:Nat} (b:Bd) (s:Sl3):Chg g (g+1) w (put12 w g b s):=by
 repeat (first|with_reducible exact Chg.refl _ _ _|with_reducible refine Chg.set ?_ (Nat.le_refl _) (Nat.lt_succ_self _) _)
theorem bK {w W WF:World} {lo gr:Nat} {b b':Bd} {s s':Sl3} (hWF:put12 W gr b' s'=WF) (hz:bC W gr b s) (hB:Below lo w W) (hlo:lo<=gr):bC WF gr b' s'/\W.heap.size<=WF.heap.size/\Below lo w WF/\Chg gr (gr+1) W WF:=by
 have hC:=xw (w:=W) (g:=gr) b' s'
 rw [hWF] at hC
 refine ⟨by rw [←hWF];exact EG hz,hC.size,?_,hC⟩
 exact ⟨hC.os.trans hB.os,hC.tape.trans hB.tape,hC.output.trans hB.output,Nat.le_trans hB.size hC.size,fun k hk=>(hC.block k (by have:=aX hz;omega) (.inl (by omega))).trans (hB.block k hk)⟩
end Go.Proofs.YtignkfhdkcgkgaaGreat
