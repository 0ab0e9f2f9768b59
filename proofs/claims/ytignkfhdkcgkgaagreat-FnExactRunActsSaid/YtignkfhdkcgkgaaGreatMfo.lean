/- Marking a board that lies beside a list of numbers (printed by mkact.py from Fp). -/
import Derived.Test.YtignkfhdkcgkgaaGreatStaW
namespace Go.Proofs.YtignkfhdkcgkgaaGreat
set_option maxHeartbeats 2000000
set_option maxRecDepth 100000
open Go.RowKit
theorem zI (P:Nat→Prop) (lo hi:Nat) (b:Bd) (s:Sl3) (k0:Int) (w:World) (h:dD P lo hi w b s) (hh:hi<=w.heap.size) (hz:kF b) (hk0:0<=k0) (hk1:k0<=1048576) (hN:bdN b<=1073741824) :
  Calls Tryz.prog 22 #[.agg (aD b s),.int .i64 k0] w fun e w'=>e = .returned (.int .i64 (k0+bdN b))/\dD P lo hi w' (BU k0 b) s/\Chg lo hi w w'/\∀i,i<w.heap.size→P i→w'.heap[i]?=w.heap[i]?:=by
 have hb0:Below w.heap.size w (w.alloc (.cells (aD b s) 31)):=aB (Below.refl _ _) _
 obtain ⟨S1,S2,S3,k,hno⟩:=h.same hb0
 have HNO:=Hd hno
 have HP0:=Hd (fun i (hi:i<w.heap.size)=>hb0.block i hi)
 obtain ⟨z1,z2,z3⟩:=hz
 have hl1:s.n1=b.frames.length:=k.frames.len.symm
 have hl2:s.n2=b.state.length:=k.state.len.symm
 have hl3:s.n3=b.saved.length:=k.saved.len.symm
 have hc0:Chg lo hi w (w.alloc (.cells (aD b s) 31)):=⟨hb0.os,hb0.tape,hb0.output,hb0.size,fun i hi' _=>hb0.block i hi'⟩
 have KK:=Hd k
 have HC:=Hd hc0
 have HL1:=Hd hl1
 have HL2:=Hd hl2
 have HL3:=Hd hl3
 unfold bdN at *
 have hsz0:=hb0.size
 clear k hl1 hl2 hl3 hb0 hc0 hno
 go_enter Tryz.func22,Tryz.ntmps22
 go_wp2_with fail
 refine (tF S1 lo hi s.A1 s.n1 s.c1 b.frames k0 _ KK.out.frames KK.out.f1 hk0 (by omega) z1).mono ?_
 rintro e w1 ⟨rfl,o1,p1,c1⟩
 rw [HL1.out]
 obtain ⟨hcc,hff⟩:=vJ (c1.chg KK.out.i1) (by omega)
 have O1:=Hd (And.intro o1 p1)
 have P2:=Hd (show Own lo w1 s.A2 s.n2 s.c2 b.state from aa KK.out.state fun a ha=>c1.block _ (KK.out.state.lt a ha).2 fun h=>KK.out.d12 _ h (KK.out.f2 a ha))
 have P3:=Hd (KK.out.saved.keepS KK.out.f3 (w':=w1) fun i h1 h2=>c1.block i h1 fun h=>KK.out.d13 i h h2)
 have C1:=Hd (c1.chg KK.out.i1)
 have g1:decide (k0+(bA b.frames b.frames.length:Int)<0)=false:=by simp;omega
 have HP1:=Hd (fun i (hi:i<w.heap.size) (hp:P i)=>(c1.block i (by omega) (HNO.out i hp).1).trans (HP0.out i hi))
 have hsz1:=c1.size
 clear o1 c1 p1
 go_wp2_with fail
 refine (il lo s.A2 s.n2 s.c2 b.state _ _ P2.out (by omega) (by omega) (by rw [HL2.out];exact z2)).mono ?_
 rintro e w2 ⟨rfl,o2,g2⟩
 rw [HL2.out] at o2 ⊢
 have c2:=nE g2 KK.out.f2
 clear hcc hff g2
 have C2w:=Hd (C1.out.trans (c2.chg KK.out.i2))
 obtain ⟨hcc,hff⟩:=vJ C2w.out (by omega)
 have Q1:=Hd (O1.out.1.keepS O1.out.2 (w':=w2) fun i h1 h2=>c2.block i h1 fun h=>KK.out.d12 i h2 h)
 have O2:=Hd o2
 have Q3:=Hd (P3.out.1.keepS P3.out.2 (w':=w2) fun i h1 h2=>c2.block i h1 fun h=>KK.out.d23 i h h2)
 have g2:decide (k0+(bA b.frames b.frames.length:Int)+(b.state.length:Int)<0)=false:=by simp;omega
 have HP2:=Hd (fun i (hi:i<w.heap.size) (hp:P i)=>(c2.block i (by omega) (HNO.out i hp).2.1).trans (HP1.out i hi hp))
 have hsz2:=c2.size
 clear o2 c2 g1
 go_wp2_with fail
 refine (tF S3 lo hi s.A3 s.n3 s.c3 b.saved _ _ Q3.out.1 Q3.out.2 (by omega) (by omega) z3).mono ?_
 rintro e w3 ⟨rfl,o3,p3,c3⟩
 rw [HL3.out]
 have C3w:=Hd (HC.out.trans (C2w.out.trans (c3.chg KK.out.i3)))
 have R1:=Hd (Q1.out.1.keepS Q1.out.2 (w':=w3) fun i h1 h2=>c3.block i h1 fun h=>KK.out.d13 i h2 h)
 have R2:=Hd (show Own lo w3 s.A2 _ s.c2 _ from aa O2.out fun a ha=>c3.block _ (O2.out.lt a ha).2 fun h=>KK.out.d23 _ (KK.out.f2 a ha) h)
 have O3:=Hd (And.intro o3 p3)
 have g3:decide (k0+(bA b.frames b.frames.length:Int)+(b.state.length:Int)+(bA b.saved b.saved.length:Int)<0)=false:=by simp;omega
 have HP3:=Hd (fun i (hi:i<w.heap.size) (hp:P i)=>(c3.block i (by omega) (HNO.out i hp).2.2).trans (HP2.out i hi hp))
 clear hcc hff o3 c3 p3 g2
 go_wp2_with fail
 go_ret
 refine ⟨aP (by omega),⟨S1,S2,S3,⟨R1.out.1,R1.out.2,?_,KK.out.f2,O3.out.1,O3.out.2,KK.out.d12,KK.out.d13,KK.out.d23,KK.out.i1,KK.out.i2,KK.out.i3⟩,HNO.out⟩,C3w.out,HP3.out⟩
 rw [HL2.out]
 exact R2.out
abbrev AtB (A:Option Addr) (k:Nat):Prop:=∃a:Addr,A=some a/\a.block=k
theorem BL (lo hi:Nat) (A:Option Addr) (n c:Nat) (xs:List Int) (k0:Int) (w:World) (h:Own lo w A n c xs) (l:gJ A lo hi) (hk0:0<=k0) (hk1:k0<=1099511627776) (hz:n<=1099511627776) :
  Calls Tryz.prog 24 #[.slice A n c,.int .i64 k0] w fun e w'=>e = .returned (.int .i64 (k0+n))/\Own lo w' A n c (pG k0 n)/\Chg lo hi w w'/\∀i,i<w.heap.size→¬AtB A i→w'.heap[i]?=w.heap[i]?:=by
 refine (il lo A n c xs k0 w h hk0 (by omega) hz).mono ?_
 rintro e w' ⟨h1,o2,g2⟩
 have c2:=nE (S:=AtB A) g2 (fun a ha=>⟨a,ha,rfl⟩)
 exact ⟨h1,o2,c2.chg (fun i hi=>by obtain ⟨a,ha,rfl⟩:=hi;exact l a ha),fun i hi hn=>c2.block i hi hn⟩
theorem dD.below {P:Nat→Prop} {lo hi:Nat} {w w':World} {b:Bd} {s:Sl3} (h:dD P lo hi w b s) (hb:Below w.heap.size w w'):dD P lo hi w' b s:=h.same hb
theorem dD.chg {P:Nat→Prop} {lo hi lo' hi':Nat} {w w':World} {b:Bd} {s:Sl3} (h:dD P lo hi w b s) (hc:Chg lo' hi' w w') (ha:hi<=lo'∨hi'<=lo):dD P lo hi w' b s:=h.keep fun k hk h1 h2 _=>hc.block k hk (by omega)
end Go.Proofs.YtignkfhdkcgkgaaGreat
