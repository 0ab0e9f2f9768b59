/- The laws' comparisons of nested data (printed by mkeq.py). -/
import Derived.Test.YtofihjoanjkdmaaGreatLayArg
import Derived.Test.YtofihjoanjkdmaaGreatQb
import Derived.Test.YtofihjoanjkdmaaGreatTileHar
namespace Go.Proofs.YtofihjoanjkdmaaGreat
set_option maxHeartbeats 2000000
set_option maxRecDepth 100000
open Go.RowKit
theorem pG (A B:Option Addr) (n c m d:Nat) (xs:List Int) (w:World) (hA:RdC w w.heap.size (aH xs) (.slice A n c)) (g:RdC w w.heap.size (aH xs) (.slice B m d)) (j:szC (aH xs)<=1099511627776) :
  Calls Tryz.prog 53 #[.slice A n c,.slice B m d] w fun e w'=>e = .returned (.bool true)/\Below w.heap.size w w' :=
 qV A B n m c d xs w hA.ints g.ints (by rw [nZ] at j;have:=hA.ints.1;omega)
theorem zU (u D:Option Addr) (H z B I:Nat) (x:Lt) (w:World) (h0:RdC w w.heap.size (aH x.ins) (.slice u H z)) (k0:RdC w w.heap.size (aH x.ins) (.slice D B I)) (V:af x.cells<=1099511627776) :
  Calls Tryz.prog 196 #[.agg #[.slice u H z,.int .i64 x.mask],.agg #[.slice D B I,.int .i64 x.mask]] w fun e w'=>e = .returned (.bool true)/\Below w.heap.size w w':=by
 have g:=Hd (aB (aB (Below.refl w.heap.size w) (.cells #[.slice u H z,.int .i64 x.mask] 96)) (.cells #[.slice D B I,.int .i64 x.mask] 96))
 have q:=aI (w.alloc (.cells #[.slice u H z,.int .i64 x.mask] 96)) (.cells #[.slice D B I,.int .i64 x.mask] 96)
 have G:=aW (.cells #[.slice D B I,.int .i64 x.mask] 96) (aI w (.cells #[.slice u H z,.int .i64 x.mask] 96))
 simp only [World.size_alloc] at q
 obtain ⟨Q,K⟩:=hd2 G q
 clear G q
 obtain ⟨Y,Z⟩:=hd2 h0 k0
 have q1:(x.mask != x.mask)=false:=by simp
 have j:=V
 unfold Lt.cells at j
 simp only [au,bP,fM] at j
 have W:Hid (szC (aH x.ins)<=1099511627776):=by show _<=_;omega
 clear V j h0 k0
 go_enter Tryz.func196,Tryz.ntmps196
 go_wp2_with fail
 refine (pG u D H z B I x.ins _ (Y.out.below g.out) (Z.out.below g.out) W.out).mono ?_
 rintro _ w1 ⟨rfl,J⟩
 have R:=Hd (aA g.out J)
 have U:=Hd J
 clear J
 have G:=aD U.out Q.out
 have q:=aD U.out K.out
 have x1:=aF (k:=1) G rfl
 have y1:=aF (k:=1) q rfl
 have lx:=aC G
 have ly:=aC q
 clear G q
 go_wp2_with fail
 go_ret
 exact ⟨rfl,R.out⟩
theorem xh (A B:Option Addr) (n c m d:Nat) (xs:List Lt) (w:World) (hA:RdC w w.heap.size (bM xs) (.slice A n c)) (W:RdC w w.heap.size (bM xs) (.slice B m d)) (Y:szC (bM xs)<=1099511627776) :
  Calls Tryz.prog 100 #[.slice A n c,.slice B m d] w fun e w'=>e = .returned (.bool true)/\Below w.heap.size w w':=by
 have hx:=hA.lutN'
 have hy:=W.lutN'
 obtain rfl:m=n:=by omega
 unfold bM at Y
 rw [cK Lt.cells_length (by omega)] at Y
 have hn:m<=1099511627776:=by omega
 have HZ:Hid (af (xs.flatMap Lt.cells)<=1099511627776):=by show _<=_;omega
 obtain ⟨HA,HB,J⟩:=hd3 hA W hx
 clear hx hy hA W Y
 go_enter Tryz.func100,Tryz.ntmps100
 go_wp2_with fail
 go_loopw [5] (fun i wr=>∃k:Nat,k<=m/\i = .int .i64 k/\Below w.heap.size w wr) (fun i _=>m - (intOf i).toNat)
 ·exact ⟨0,Nat.zero_le _,rfl,Below.refl _ _⟩
 obtain ⟨k,hk,rfl,D⟩:=hrel
 have g:=Hd D
 clear D
 by_cases j:k<m
 ·have G:=dT (by omega:k<m)
  obtain ⟨b,o,S0,l0,p0,rfl,hb,c0,c1,r0⟩:=(HA.out.below g.out).lut' (k:=k) (by rw [J.out];exact j)
  obtain ⟨b',o',R,K,I,rfl,aj,d0,d1,u⟩:=(HB.out.below g.out).lut' (k:=k) (by rw [J.out];exact j)
  have V:Hid (af (xs[k]?.getD Lt.zero).cells<=1099511627776):=Nat.le_trans (jD (cells:=Lt.cells) (by rw [J.out];exact j)) HZ.out
  generalize xs[k]?.getD Lt.zero=x at *
  obtain ⟨J0,H⟩:=hd2 r0 u
  clear r0 u
  obtain ⟨i0,i1⟩:=ib (by omega:k<m)
  go_wp2_with fail
  have z:=Hd (fun (v:Sub wr)=>zU S0 R l0 p0 K I x v.v (J0.out.below v.h) (H.out.below v.h) V.out)
  have q:=aY wr
  have U:=aP wr
  refine wpB wr ?_
  repeat (go_big_quiet_step ((first
   | (go_at_call 196;with_reducible exact aN (z.out _)))))
  refine wpQuiet_nil ?_
  rintro _ ⟨⟨w5,Z⟩,rfl⟩
  clear q U z
  have HD:=Hd (aA g.out Z)
  clear Z
  go_wp2_with fail
  go_roundw
  ·exact ⟨k+1,by omega,by go_num,HD.out⟩
  simp [intOf];omega
 have Q:k=m:=by omega
 subst Q
 have G:decide ((k:Int)<(k:Int))=false:=by simp
 go_wp2_with fail
 go_ret
 exact ⟨rfl,g.out⟩
theorem zV (u D:Option Addr) (G z B q:Nat) (x:Sq) (w:World) (h0:RdC w w.heap.size (aH x.ins) (.slice u G z)) (k0:RdC w w.heap.size (aH x.ins) (.slice D B q)) (K:af x.cells<=1099511627776) :
  Calls Tryz.prog 195 #[.agg #[.int .i64 x.kind,.int .i64 x.init,.slice u G z],.agg #[.int .i64 x.kind,.int .i64 x.init,.slice D B q]] w fun e w'=>e = .returned (.bool true)/\Below w.heap.size w w':=by
 have g:=Hd (aB (aB (Below.refl w.heap.size w) (.cells #[.int .i64 x.kind,.int .i64 x.init,.slice u G z] 91)) (.cells #[.int .i64 x.kind,.int .i64 x.init,.slice D B q] 91))
 have H:=aI (w.alloc (.cells #[.int .i64 x.kind,.int .i64 x.init,.slice u G z] 91)) (.cells #[.int .i64 x.kind,.int .i64 x.init,.slice D B q] 91)
 have Q:=aW (.cells #[.int .i64 x.kind,.int .i64 x.init,.slice D B q] 91) (aI w (.cells #[.int .i64 x.kind,.int .i64 x.init,.slice u G z] 91))
 simp only [World.size_alloc] at H
 obtain ⟨Y,U⟩:=hd2 Q H
 clear Q H
 obtain ⟨V,W⟩:=hd2 h0 k0
 have q0:(x.kind != x.kind)=false:=by simp
 have Z:(x.init != x.init)=false:=by simp
 have j:=K
 unfold Sq.cells at j
 simp only [au,bP,fM] at j
 have R:Hid (szC (aH x.ins)<=1099511627776):=by show _<=_;omega
 clear K j h0 k0
 go_enter Tryz.func195,Tryz.ntmps195
 go_wp2_with fail
 refine (pG u D G z B q x.ins _ (V.out.below g.out) (W.out.below g.out) R.out).mono ?_
 rintro _ w1 ⟨rfl,I⟩
 have J:=Hd (aA g.out I)
 have C1:=Hd I
 clear I
 go_wp2_with fail
 go_ret
 exact ⟨rfl,J.out⟩
theorem xk (A B:Option Addr) (n c m d:Nat) (xs:List Sq) (w:World) (hA:RdC w w.heap.size (bD xs) (.slice A n c)) (W:RdC w w.heap.size (bD xs) (.slice B m d)) (Y:szC (bD xs)<=1099511627776) :
  Calls Tryz.prog 99 #[.slice A n c,.slice B m d] w fun e w'=>e = .returned (.bool true)/\Below w.heap.size w w':=by
 have hx:=hA.sqN'
 have hy:=W.sqN'
 obtain rfl:m=n:=by omega
 unfold bD at Y
 rw [cK Sq.cells_length (by omega)] at Y
 have hn:m<=1099511627776:=by omega
 have HZ:Hid (af (xs.flatMap Sq.cells)<=1099511627776):=by show _<=_;omega
 obtain ⟨HA,HB,J⟩:=hd3 hA W hx
 clear hx hy hA W Y
 go_enter Tryz.func99,Tryz.ntmps99
 go_wp2_with fail
 go_loopw [5] (fun i wr=>∃k:Nat,k<=m/\i = .int .i64 k/\Below w.heap.size w wr) (fun i _=>m - (intOf i).toNat)
 ·exact ⟨0,Nat.zero_le _,rfl,Below.refl _ _⟩
 obtain ⟨k,hk,rfl,D⟩:=hrel
 have g:=Hd D
 clear D
 by_cases j:k<m
 ·have G:=dT (by omega:k<m)
  obtain ⟨b,o,S0,l0,p0,rfl,hb,c0,c1,c2,r0⟩:=(HA.out.below g.out).sq' (k:=k) (by rw [J.out];exact j)
  obtain ⟨b',o',R,K,I,rfl,aj,d0,d1,d2,u⟩:=(HB.out.below g.out).sq' (k:=k) (by rw [J.out];exact j)
  have V:Hid (af (xs[k]?.getD Sq.zero).cells<=1099511627776):=Nat.le_trans (jD (cells:=Sq.cells) (by rw [J.out];exact j)) HZ.out
  generalize xs[k]?.getD Sq.zero=x at *
  obtain ⟨J0,H⟩:=hd2 r0 u
  clear r0 u
  obtain ⟨i0,i1⟩:=ib (by omega:k<m)
  go_wp2_with fail
  have z:=Hd (fun (v:Sub wr)=>zV S0 R l0 p0 K I x v.v (J0.out.below v.h) (H.out.below v.h) V.out)
  have q:=aY wr
  have U:=aP wr
  refine wpB wr ?_
  repeat (go_big_quiet_step ((first
   | (go_at_call 195;with_reducible exact aN (z.out _)))))
  refine wpQuiet_nil ?_
  rintro _ ⟨⟨w5,Z⟩,rfl⟩
  clear q U z
  have HD:=Hd (aA g.out Z)
  clear Z
  go_wp2_with fail
  go_roundw
  ·exact ⟨k+1,by omega,by go_num,HD.out⟩
  simp [intOf];omega
 have Q:k=m:=by omega
 subst Q
 have G:decide ((k:Int)<(k:Int))=false:=by simp
 go_wp2_with fail
 go_ret
 exact ⟨rfl,g.out⟩
theorem vC (H W A1 U A2 I:Option Addr) (Y Q R G n1 c1 V J n2 c2 K D:Nat) (x:ag) (w:World) (h0:RdC w w.heap.size (bD x.seqs) (.slice H Y Q)) (k0:RdC w w.heap.size (bD x.seqs) (.slice W R G)) (h1:RdC w w.heap.size (bM x.luts) (.slice A1 n1 c1)) (k1:RdC w w.heap.size (bM x.luts) (.slice U V J)) (h2:RdC w w.heap.size (aH x.outs) (.slice A2 n2 c2)) (k2:RdC w w.heap.size (aH x.outs) (.slice I K D)) (hz:af x.cells<=1099511627776) :
  Calls Tryz.prog 28 #[.agg #[.int .i64 x.inputs,.slice H Y Q,.slice A1 n1 c1,.slice A2 n2 c2],.agg #[.int .i64 x.inputs,.slice W R G,.slice U V J,.slice I K D]] w fun e w'=>e = .returned (.bool true)/\Below w.heap.size w w':=by
 have q:=Hd (aB (aB (Below.refl w.heap.size w) (.cells #[.int .i64 x.inputs,.slice H Y Q,.slice A1 n1 c1,.slice A2 n2 c2] 41)) (.cells #[.int .i64 x.inputs,.slice W R G,.slice U V J,.slice I K D] 41))
 have g:=aI (w.alloc (.cells #[.int .i64 x.inputs,.slice H Y Q,.slice A1 n1 c1,.slice A2 n2 c2] 41)) (.cells #[.int .i64 x.inputs,.slice W R G,.slice U V J,.slice I K D] 41)
 have j:=aW (.cells #[.int .i64 x.inputs,.slice W R G,.slice U V J,.slice I K D] 41) (aI w (.cells #[.int .i64 x.inputs,.slice H Y Q,.slice A1 n1 c1,.slice A2 n2 c2] 41))
 simp only [World.size_alloc] at g
 obtain ⟨ad,Z⟩:=hd2 j g
 clear j g
 obtain ⟨R0,K0,R1,K1,R2,K2⟩:=hd6 h0 k0 h1 k1 h2 k2
 have q0:(x.inputs != x.inputs)=false:=by simp
 have u:=hz
 unfold ag.cells at u
 simp only [au,bP,fM] at u
 have Z0:Hid (szC (bD x.seqs)<=1099511627776):=by show _<=_;omega
 have Z1:Hid (szC (bM x.luts)<=1099511627776):=by show _<=_;omega
 have Z2:Hid (szC (aH x.outs)<=1099511627776):=by show _<=_;omega
 clear hz u h0 k0 h1 k1 h2 k2
 go_enter Tryz.func28,Tryz.ntmps28
 go_wp2_with fail
 refine (xk H W Y Q R G x.seqs _ (R0.out.below q.out) (K0.out.below q.out) Z0.out).mono ?_
 rintro _ w1 ⟨rfl,b1⟩
 have z:=Hd (aA q.out b1)
 have C1:=Hd b1
 clear b1
 have j:=aD C1.out ad.out
 have g:=aD C1.out Z.out
 have x2:=aF (k:=2) j rfl
 have y2:=aF (k:=2) g rfl
 have x3:=aF (k:=3) j rfl
 have y3:=aF (k:=3) g rfl
 have lx:=aC j
 have ly:=aC g
 clear j g
 go_wp2_with fail
 refine (xh A1 U n1 c1 V J x.luts _ (R1.out.below z.out) (K1.out.below z.out) Z1.out).mono ?_
 rintro _ w2 ⟨rfl,b2⟩
 have B:=Hd (aA z.out b2)
 have C2:=Hd (aA C1.out b2)
 clear b2 x2 y2 x3 y3 lx ly
 have j:=aD C2.out ad.out
 have g:=aD C2.out Z.out
 have x3:=aF (k:=3) j rfl
 have y3:=aF (k:=3) g rfl
 have lx:=aC j
 have ly:=aC g
 clear j g
 go_wp2_with fail
 refine (pG A2 I n2 c2 K D x.outs _ (R2.out.below B.out) (K2.out.below B.out) Z2.out).mono ?_
 rintro _ w3 ⟨rfl,b3⟩
 have ak:=Hd (aA B.out b3)
 have C3:=Hd (aA C2.out b3)
 clear b3 x3 y3 lx ly
 go_wp2_with fail
 go_ret
 exact ⟨rfl,ak.out⟩
theorem Az (x:LeT) (w:World)  :
  Calls Tryz.prog 261 #[.agg #[.int .i64 x.lut,.int .i64 x.ff],.agg #[.int .i64 x.lut,.int .i64 x.ff]] w fun e w'=>e = .returned (.bool true)/\Below w.heap.size w w':=by
 have g:=Hd (aB (aB (Below.refl w.heap.size w) (.cells #[.int .i64 x.lut,.int .i64 x.ff] 94)) (.cells #[.int .i64 x.lut,.int .i64 x.ff] 94))
 have j:=aI (w.alloc (.cells #[.int .i64 x.lut,.int .i64 x.ff] 94)) (.cells #[.int .i64 x.lut,.int .i64 x.ff] 94)
 have q:=aW (.cells #[.int .i64 x.lut,.int .i64 x.ff] 94) (aI w (.cells #[.int .i64 x.lut,.int .i64 x.ff] 94))
 simp only [World.size_alloc] at j
 obtain ⟨u,z⟩:=hd2 q j
 clear q j
 have D:(x.lut != x.lut)=false:=by simp
 have B:(x.ff != x.ff)=false:=by simp
 go_enter Tryz.func261,Tryz.ntmps261
 go_wp2_with fail
 go_ret
 exact ⟨rfl,g.out⟩
theorem zW (A B:Option Addr) (n c m d:Nat) (xs:List LeT) (w:World) (hA:RdC w w.heap.size (cZ xs) (.slice A n c)) (G:RdC w w.heap.size (cZ xs) (.slice B m d)) (J:szC (cZ xs)<=1099511627776) :
  Calls Tryz.prog 225 #[.slice A n c,.slice B m d] w fun e w'=>e = .returned (.bool true)/\Below w.heap.size w w':=by
 have R:=hA.esN
 have Z:=G.esN
 obtain rfl:m=n:=by omega
 unfold cZ at J
 rw [cK LeT.cells_length (by omega)] at J
 have hn:m<=1099511627776:=by omega
 have HZ:Hid (af (xs.flatMap LeT.cells)<=1099511627776):=by show _<=_;omega
 obtain ⟨W,V,K⟩:=hd3 hA G R
 clear R Z hA G J
 go_enter Tryz.func225,Tryz.ntmps225
 go_wp2_with fail
 go_loopw [5] (fun i wr=>∃k:Nat,k<=m/\i = .int .i64 k/\Below w.heap.size w wr) (fun i _=>m - (intOf i).toNat)
 ·exact ⟨0,Nat.zero_le _,rfl,Below.refl _ _⟩
 obtain ⟨k,hk,rfl,u⟩:=hrel
 have g:=Hd u
 clear u
 by_cases z:k<m
 ·have D:=dT (by omega:k<m)
  obtain ⟨b,o,rfl,hb,c0,c1⟩:=(W.out.below g.out).es (k:=k) (by rw [K.out];exact z)
  obtain ⟨b',o',rfl,U,d0,d1⟩:=(V.out.below g.out).es (k:=k) (by rw [K.out];exact z)
  skip
  generalize xs[k]?.getD LeT.zero=x at *
  skip
  obtain ⟨i0,i1⟩:=ib (by omega:k<m)
  go_wp2_with fail
  have q:=Hd (fun (v:Sub wr)=>Az x v.v)
  have j:=aY wr
  have I:=aP wr
  refine wpB wr ?_
  repeat (go_big_quiet_step ((first
   | (go_at_call 261;with_reducible exact aN (q.out _)))))
  refine wpQuiet_nil ?_
  rintro _ ⟨⟨w5,Q⟩,rfl⟩
  clear j I q
  have Y:=Hd (aA g.out Q)
  clear Q
  go_wp2_with fail
  go_roundw
  ·exact ⟨k+1,by omega,by go_num,Y.out⟩
  simp [intOf];omega
 have H:k=m:=by omega
 subst H
 have D:decide ((k:Int)<(k:Int))=false:=by simp
 go_wp2_with fail
 go_ret
 exact ⟨rfl,g.out⟩
theorem vz (u D:Option Addr) (G z B q:Nat) (x:Blk) (w:World) (h0:RdC w w.heap.size (cZ x.les) (.slice u G z)) (k0:RdC w w.heap.size (cZ x.les) (.slice D B q)) (K:af x.cells<=1099511627776) :
  Calls Tryz.prog 134 #[.agg #[.int .i64 x.kind,.int .i64 x.item,.slice u G z],.agg #[.int .i64 x.kind,.int .i64 x.item,.slice D B q]] w fun e w'=>e = .returned (.bool true)/\Below w.heap.size w w':=by
 have g:=Hd (aB (aB (Below.refl w.heap.size w) (.cells #[.int .i64 x.kind,.int .i64 x.item,.slice u G z] 89)) (.cells #[.int .i64 x.kind,.int .i64 x.item,.slice D B q] 89))
 have H:=aI (w.alloc (.cells #[.int .i64 x.kind,.int .i64 x.item,.slice u G z] 89)) (.cells #[.int .i64 x.kind,.int .i64 x.item,.slice D B q] 89)
 have Q:=aW (.cells #[.int .i64 x.kind,.int .i64 x.item,.slice D B q] 89) (aI w (.cells #[.int .i64 x.kind,.int .i64 x.item,.slice u G z] 89))
 simp only [World.size_alloc] at H
 obtain ⟨Y,U⟩:=hd2 Q H
 clear Q H
 obtain ⟨V,W⟩:=hd2 h0 k0
 have q0:(x.kind != x.kind)=false:=by simp
 have Z:(x.item != x.item)=false:=by simp
 have j:=K
 unfold Blk.cells at j
 simp only [au,bP,fM] at j
 have R:Hid (szC (cZ x.les)<=1099511627776):=by show _<=_;omega
 clear K j h0 k0
 go_enter Tryz.func134,Tryz.ntmps134
 go_wp2_with fail
 refine (zW u D G z B q x.les _ (V.out.below g.out) (W.out.below g.out) R.out).mono ?_
 rintro _ w1 ⟨rfl,I⟩
 have J:=Hd (aA g.out I)
 have C1:=Hd I
 clear I
 go_wp2_with fail
 go_ret
 exact ⟨rfl,J.out⟩
theorem vD (A B:Option Addr) (n c m d:Nat) (xs:List Blk) (w:World) (hA:RdC w w.heap.size (aa xs) (.slice A n c)) (W:RdC w w.heap.size (aa xs) (.slice B m d)) (Y:szC (aa xs)<=1099511627776) :
  Calls Tryz.prog 51 #[.slice A n c,.slice B m d] w fun e w'=>e = .returned (.bool true)/\Below w.heap.size w w':=by
 have hx:=hA.blkN
 have hy:=W.blkN
 obtain rfl:m=n:=by omega
 unfold aa at Y
 rw [cK Blk.cells_length (by omega)] at Y
 have hn:m<=1099511627776:=by omega
 have HZ:Hid (af (xs.flatMap Blk.cells)<=1099511627776):=by show _<=_;omega
 obtain ⟨HA,HB,J⟩:=hd3 hA W hx
 clear hx hy hA W Y
 go_enter Tryz.func51,Tryz.ntmps51
 go_wp2_with fail
 go_loopw [5] (fun i wr=>∃k:Nat,k<=m/\i = .int .i64 k/\Below w.heap.size w wr) (fun i _=>m - (intOf i).toNat)
 ·exact ⟨0,Nat.zero_le _,rfl,Below.refl _ _⟩
 obtain ⟨k,hk,rfl,D⟩:=hrel
 have g:=Hd D
 clear D
 by_cases j:k<m
 ·have G:=dT (by omega:k<m)
  obtain ⟨b,o,S0,l0,p0,rfl,hb,c0,c1,c2,r0⟩:=(HA.out.below g.out).blk (k:=k) (by rw [J.out];exact j)
  obtain ⟨b',o',R,K,I,rfl,aj,d0,d1,d2,u⟩:=(HB.out.below g.out).blk (k:=k) (by rw [J.out];exact j)
  have V:Hid (af (xs[k]?.getD Blk.zero).cells<=1099511627776):=Nat.le_trans (jD (cells:=Blk.cells) (by rw [J.out];exact j)) HZ.out
  generalize xs[k]?.getD Blk.zero=x at *
  obtain ⟨J0,H⟩:=hd2 r0 u
  clear r0 u
  obtain ⟨i0,i1⟩:=ib (by omega:k<m)
  go_wp2_with fail
  have z:=Hd (fun (v:Sub wr)=>vz S0 R l0 p0 K I x v.v (J0.out.below v.h) (H.out.below v.h) V.out)
  have q:=aY wr
  have U:=aP wr
  refine wpB wr ?_
  repeat (go_big_quiet_step ((first
   | (go_at_call 134;with_reducible exact aN (z.out _)))))
  refine wpQuiet_nil ?_
  rintro _ ⟨⟨w5,Z⟩,rfl⟩
  clear q U z
  have HD:=Hd (aA g.out Z)
  clear Z
  go_wp2_with fail
  go_roundw
  ·exact ⟨k+1,by omega,by go_num,HD.out⟩
  simp [intOf];omega
 have Q:k=m:=by omega
 subst Q
 have G:decide ((k:Int)<(k:Int))=false:=by simp
 go_wp2_with fail
 go_ret
 exact ⟨rfl,g.out⟩
theorem uC (x:bS) (w:World)  :
  Calls Tryz.prog 226 #[.agg #[.int .i64 x.block,.int .i64 x.pin],.agg #[.int .i64 x.block,.int .i64 x.pin]] w fun e w'=>e = .returned (.bool true)/\Below w.heap.size w w':=by
 have g:=Hd (aB (aB (Below.refl w.heap.size w) (.cells #[.int .i64 x.block,.int .i64 x.pin] 100)) (.cells #[.int .i64 x.block,.int .i64 x.pin] 100))
 have j:=aI (w.alloc (.cells #[.int .i64 x.block,.int .i64 x.pin] 100)) (.cells #[.int .i64 x.block,.int .i64 x.pin] 100)
 have q:=aW (.cells #[.int .i64 x.block,.int .i64 x.pin] 100) (aI w (.cells #[.int .i64 x.block,.int .i64 x.pin] 100))
 simp only [World.size_alloc] at j
 obtain ⟨u,z⟩:=hd2 q j
 clear q j
 have D:(x.block != x.block)=false:=by simp
 have B:(x.pin != x.pin)=false:=by simp
 go_enter Tryz.func226,Tryz.ntmps226
 go_wp2_with fail
 go_ret
 exact ⟨rfl,g.out⟩
theorem xm (A B:Option Addr) (n c m d:Nat) (xs:List bS) (w:World) (hA:RdC w w.heap.size (bR xs) (.slice A n c)) (G:RdC w w.heap.size (bR xs) (.slice B m d)) (J:szC (bR xs)<=1099511627776) :
  Calls Tryz.prog 227 #[.slice A n c,.slice B m d] w fun e w'=>e = .returned (.bool true)/\Below w.heap.size w w':=by
 have R:=hA.pinN
 have Z:=G.pinN
 obtain rfl:m=n:=by omega
 unfold bR at J
 rw [cK bS.cells_length (by omega)] at J
 have hn:m<=1099511627776:=by omega
 have HZ:Hid (af (xs.flatMap bS.cells)<=1099511627776):=by show _<=_;omega
 obtain ⟨W,V,K⟩:=hd3 hA G R
 clear R Z hA G J
 go_enter Tryz.func227,Tryz.ntmps227
 go_wp2_with fail
 go_loopw [5] (fun i wr=>∃k:Nat,k<=m/\i = .int .i64 k/\Below w.heap.size w wr) (fun i _=>m - (intOf i).toNat)
 ·exact ⟨0,Nat.zero_le _,rfl,Below.refl _ _⟩
 obtain ⟨k,hk,rfl,u⟩:=hrel
 have g:=Hd u
 clear u
 by_cases z:k<m
 ·have D:=dT (by omega:k<m)
  obtain ⟨b,o,rfl,hb,c0,c1⟩:=(W.out.below g.out).pin (k:=k) (by rw [K.out];exact z)
  obtain ⟨b',o',rfl,U,d0,d1⟩:=(V.out.below g.out).pin (k:=k) (by rw [K.out];exact z)
  skip
  generalize xs[k]?.getD bS.zero=x at *
  skip
  obtain ⟨i0,i1⟩:=ib (by omega:k<m)
  go_wp2_with fail
  have q:=Hd (fun (v:Sub wr)=>uC x v.v)
  have j:=aY wr
  have I:=aP wr
  refine wpB wr ?_
  repeat (go_big_quiet_step ((first
   | (go_at_call 226;with_reducible exact aN (q.out _)))))
  refine wpQuiet_nil ?_
  rintro _ ⟨⟨w5,Q⟩,rfl⟩
  clear j I q
  have Y:=Hd (aA g.out Q)
  clear Q
  go_wp2_with fail
  go_roundw
  ·exact ⟨k+1,by omega,by go_num,Y.out⟩
  simp [intOf];omega
 have H:k=m:=by omega
 subst H
 have D:decide ((k:Int)<(k:Int))=false:=by simp
 go_wp2_with fail
 go_ret
 exact ⟨rfl,g.out⟩
theorem xq (z G:Option Addr) (I B D u:Nat) (x:Cn) (w:World) (h0:RdC w w.heap.size (bR x.sinks) (.slice z I B)) (k0:RdC w w.heap.size (bR x.sinks) (.slice G D u)) (Y:af x.cells<=1099511627776) :
  Calls Tryz.prog 135 #[.agg #[.int .i64 x.node,.int .i64 x.src.block,.int .i64 x.src.pin,.slice z I B],.agg #[.int .i64 x.node,.int .i64 x.src.block,.int .i64 x.src.pin,.slice G D u]] w fun e w'=>e = .returned (.bool true)/\Below w.heap.size w w':=by
 have J:=Hd (aB (aB (Below.refl w.heap.size w) (.cells #[.int .i64 x.node,.int .i64 x.src.block,.int .i64 x.src.pin,.slice z I B] 158)) (.cells #[.int .i64 x.node,.int .i64 x.src.block,.int .i64 x.src.pin,.slice G D u] 158))
 have j:=aI (w.alloc (.cells #[.int .i64 x.node,.int .i64 x.src.block,.int .i64 x.src.pin,.slice z I B] 158)) (.cells #[.int .i64 x.node,.int .i64 x.src.block,.int .i64 x.src.pin,.slice G D u] 158)
 have H:=aW (.cells #[.int .i64 x.node,.int .i64 x.src.block,.int .i64 x.src.pin,.slice G D u] 158) (aI w (.cells #[.int .i64 x.node,.int .i64 x.src.block,.int .i64 x.src.pin,.slice z I B] 158))
 simp only [World.size_alloc] at j
 obtain ⟨V,Q⟩:=hd2 H j
 clear H j
 obtain ⟨R0,K0⟩:=hd2 h0 k0
 have q0:(x.node != x.node)=false:=by simp
 have q1:(x.src.block != x.src.block)=false:=by simp
 have q2:(x.src.pin != x.src.pin)=false:=by simp
 have g:=Y
 unfold Cn.cells at g
 simp only [au,bP,fM] at g
 have Z1:Hid (szC (bR x.sinks)<=1099511627776):=by show _<=_;omega
 clear Y g h0 k0
 go_enter Tryz.func135,Tryz.ntmps135
 go_wp2_with fail
 refine (uC   x.src _  ).mono ?_
 rintro _ w1 ⟨rfl,K⟩
 have q:=Hd (aA J.out K)
 have R:=Hd K
 clear K
 have H:=aD R.out V.out
 have j:=aD R.out Q.out
 have Z:=aF (k:=3) H rfl
 have y3:=aF (k:=3) j rfl
 have lx:=aC H
 have ly:=aC j
 clear H j
 go_wp2_with fail
 refine (xm z G I B D u x.sinks _ (R0.out.below q.out) (K0.out.below q.out) Z1.out).mono ?_
 rintro _ w2 ⟨rfl,U⟩
 have W:=Hd (aA q.out U)
 have C2:=Hd (aA R.out U)
 clear U Z y3 lx ly
 go_wp2_with fail
 go_ret
 exact ⟨rfl,W.out⟩
theorem wB (A B:Option Addr) (n c m d:Nat) (xs:List Cn) (w:World) (hA:RdC w w.heap.size (ah xs) (.slice A n c)) (W:RdC w w.heap.size (ah xs) (.slice B m d)) (Y:szC (ah xs)<=1099511627776) :
  Calls Tryz.prog 52 #[.slice A n c,.slice B m d] w fun e w'=>e = .returned (.bool true)/\Below w.heap.size w w':=by
 have hx:=hA.cnN
 have hy:=W.cnN
 obtain rfl:m=n:=by omega
 unfold ah at Y
 rw [cK Cn.cells_length (by omega)] at Y
 have hn:m<=1099511627776:=by omega
 have HZ:Hid (af (xs.flatMap Cn.cells)<=1099511627776):=by show _<=_;omega
 obtain ⟨HA,HB,J⟩:=hd3 hA W hx
 clear hx hy hA W Y
 go_enter Tryz.func52,Tryz.ntmps52
 go_wp2_with fail
 go_loopw [5] (fun i wr=>∃k:Nat,k<=m/\i = .int .i64 k/\Below w.heap.size w wr) (fun i _=>m - (intOf i).toNat)
 ·exact ⟨0,Nat.zero_le _,rfl,Below.refl _ _⟩
 obtain ⟨k,hk,rfl,D⟩:=hrel
 have g:=Hd D
 clear D
 by_cases j:k<m
 ·have G:=dT (by omega:k<m)
  obtain ⟨b,o,S0,l0,p0,rfl,hb,c0,c1,c2,c3,r0⟩:=(HA.out.below g.out).cn (k:=k) (by rw [J.out];exact j)
  obtain ⟨b',o',R,K,I,rfl,ak,d0,d1,d2,d3,u⟩:=(HB.out.below g.out).cn (k:=k) (by rw [J.out];exact j)
  have V:Hid (af (xs[k]?.getD Cn.zero).cells<=1099511627776):=Nat.le_trans (jD (cells:=Cn.cells) (by rw [J.out];exact j)) HZ.out
  generalize xs[k]?.getD Cn.zero=x at *
  obtain ⟨J0,H⟩:=hd2 r0 u
  clear r0 u
  obtain ⟨i0,i1⟩:=ib (by omega:k<m)
  go_wp2_with fail
  have z:=Hd (fun (v:Sub wr)=>xq S0 R l0 p0 K I x v.v (J0.out.below v.h) (H.out.below v.h) V.out)
  have q:=aY wr
  have U:=aP wr
  refine wpB wr ?_
  repeat (go_big_quiet_step ((first
   | (go_at_call 135;with_reducible exact aN (z.out _)))))
  refine wpQuiet_nil ?_
  rintro _ ⟨⟨w5,Z⟩,rfl⟩
  clear q U z
  have HD:=Hd (aA g.out Z)
  clear Z
  go_wp2_with fail
  go_roundw
  ·exact ⟨k+1,by omega,by go_num,HD.out⟩
  simp [intOf];omega
 have Q:k=m:=by omega
 subst Q
 have G:decide ((k:Int)<(k:Int))=false:=by simp
 go_wp2_with fail
 go_ret
 exact ⟨rfl,g.out⟩
theorem wC (z J A1 H:Option Addr) (Q D G R n1 c1 I B:Nat) (x:Rou) (w:World) (h0:RdC w w.heap.size (aH x.nodes) (.slice z Q D)) (k0:RdC w w.heap.size (aH x.nodes) (.slice J G R)) (h1:RdC w w.heap.size (aH x.from_) (.slice A1 n1 c1)) (k1:RdC w w.heap.size (aH x.from_) (.slice H I B)) (hz:af x.cells<=1099511627776) :
  Calls Tryz.prog 136 #[.agg #[.slice z Q D,.slice A1 n1 c1],.agg #[.slice J G R,.slice H I B]] w fun e w'=>e = .returned (.bool true)/\Below w.heap.size w w':=by
 have g:=Hd (aB (aB (Below.refl w.heap.size w) (.cells #[.slice z Q D,.slice A1 n1 c1] 114)) (.cells #[.slice J G R,.slice H I B] 114))
 have q:=aI (w.alloc (.cells #[.slice z Q D,.slice A1 n1 c1] 114)) (.cells #[.slice J G R,.slice H I B] 114)
 have K:=aW (.cells #[.slice J G R,.slice H I B] 114) (aI w (.cells #[.slice z Q D,.slice A1 n1 c1] 114))
 simp only [World.size_alloc] at q
 obtain ⟨Z,V⟩:=hd2 K q
 clear K q
 obtain ⟨R0,K0,R1,K1⟩:=hd4 h0 k0 h1 k1
 have j:=hz
 unfold Rou.cells at j
 simp only [au,bP] at j
 have Z0:Hid (szC (aH x.nodes)<=1099511627776):=by show _<=_;omega
 have Z1:Hid (szC (aH x.from_)<=1099511627776):=by show _<=_;omega
 clear hz j h0 k0 h1 k1
 go_enter Tryz.func136,Tryz.ntmps136
 go_wp2_with fail
 refine (pG z J Q D G R x.nodes _ (R0.out.below g.out) (K0.out.below g.out) Z0.out).mono ?_
 rintro _ w1 ⟨rfl,U⟩
 have u:=Hd (aA g.out U)
 have W:=Hd U
 clear U
 have K:=aD W.out Z.out
 have q:=aD W.out V.out
 have x1:=aF (k:=1) K rfl
 have y1:=aF (k:=1) q rfl
 have lx:=aC K
 have ly:=aC q
 clear K q
 go_wp2_with fail
 refine (pG A1 H n1 c1 I B x.from_ _ (R1.out.below u.out) (K1.out.below u.out) Z1.out).mono ?_
 rintro _ w2 ⟨rfl,Y⟩
 have ad:=Hd (aA u.out Y)
 have C2:=Hd (aA W.out Y)
 clear Y x1 y1 lx ly
 go_wp2_with fail
 go_ret
 exact ⟨rfl,ad.out⟩
theorem vE (A B:Option Addr) (n c m d:Nat) (xs:List Rou) (w:World) (hA:RdC w w.heap.size (bH xs) (.slice A n c)) (hB:RdC w w.heap.size (bH xs) (.slice B m d)) (hz:szC (bH xs)<=1099511627776) :
  Calls Tryz.prog 54 #[.slice A n c,.slice B m d] w fun e w'=>e = .returned (.bool true)/\Below w.heap.size w w':=by
 have hx:=hA.rouN
 have hy:=hB.rouN
 obtain rfl:m=n:=by omega
 unfold bH at hz
 rw [cK Rou.cells_length (by omega)] at hz
 have hn:m<=1099511627776:=by omega
 have HZ:Hid (af (xs.flatMap Rou.cells)<=1099511627776):=by show _<=_;omega
 obtain ⟨HA,HB,U⟩:=hd3 hA hB hx
 clear hx hy hA hB hz
 go_enter Tryz.func54,Tryz.ntmps54
 go_wp2_with fail
 go_loopw [5] (fun i wr=>∃k:Nat,k<=m/\i = .int .i64 k/\Below w.heap.size w wr) (fun i _=>m - (intOf i).toNat)
 ·exact ⟨0,Nat.zero_le _,rfl,Below.refl _ _⟩
 obtain ⟨k,hk,rfl,D⟩:=hrel
 have g:=Hd D
 clear D
 by_cases j:k<m
 ·have I:=dT (by omega:k<m)
  obtain ⟨b,o,S0,l0,p0,S1,l1,p1,rfl,hb,c0,c1,r0,r1⟩:=(HA.out.below g.out).rou (k:=k) (by rw [U.out];exact j)
  obtain ⟨b',o',Z,W,R,V,Q,H,rfl,aq,d0,d1,u,G⟩:=(HB.out.below g.out).rou (k:=k) (by rw [U.out];exact j)
  have ae:Hid (af (xs[k]?.getD Rou.zero).cells<=1099511627776):=Nat.le_trans (jD (cells:=Rou.cells) (by rw [U.out];exact j)) HZ.out
  generalize xs[k]?.getD Rou.zero=x at *
  obtain ⟨J0,J,J1,K⟩:=hd4 r0 u r1 G
  clear r0 u r1 G
  obtain ⟨i0,i1⟩:=ib (by omega:k<m)
  go_wp2_with fail
  have z:=Hd (fun (v:Sub wr)=>wC S0 Z S1 V l0 p0 W R l1 p1 Q H x v.v (J0.out.below v.h) (J.out.below v.h) (J1.out.below v.h) (K.out.below v.h) ae.out)
  have q:=aY wr
  have ad:=aP wr
  refine wpB wr ?_
  repeat (go_big_quiet_step ((first
   | (go_at_call 136;with_reducible exact aN (z.out _)))))
  refine wpQuiet_nil ?_
  rintro _ ⟨⟨w5,hD⟩,rfl⟩
  clear q ad z
  have HD:=Hd (aA g.out hD)
  clear hD
  go_wp2_with fail
  go_roundw
  ·exact ⟨k+1,by omega,by go_num,HD.out⟩
  simp [intOf];omega
 have Y:k=m:=by omega
 subst Y
 have I:decide ((k:Int)<(k:Int))=false:=by simp
 go_wp2_with fail
 go_ret
 exact ⟨rfl,g.out⟩
theorem vF (U V A1 B1 A2 B2 A3 B3 A4 B4 A5 B5 A6 B6:Option Addr) (n0 c0 m0 d0 n1 c1 m1 Z n2 c2 m2 d2 n3 c3 m3 d3 W Y m4 d4 n5 c5 m5 d5 n6 c6 m6 d6:Nat) (x:Lay) (w:World) (h0:RdC w w.heap.size (bD x.net.seqs) (.slice U n0 c0)) (k0:RdC w w.heap.size (bD x.net.seqs) (.slice V m0 d0)) (h1:RdC w w.heap.size (bM x.net.luts) (.slice A1 n1 c1)) (k1:RdC w w.heap.size (bM x.net.luts) (.slice B1 m1 Z)) (h2:RdC w w.heap.size (aH x.net.outs) (.slice A2 n2 c2)) (k2:RdC w w.heap.size (aH x.net.outs) (.slice B2 m2 d2)) (h3:RdC w w.heap.size (aa x.blocks) (.slice A3 n3 c3)) (k3:RdC w w.heap.size (aa x.blocks) (.slice B3 m3 d3)) (h4:RdC w w.heap.size (ah x.conns) (.slice A4 W Y)) (k4:RdC w w.heap.size (ah x.conns) (.slice B4 m4 d4)) (h5:RdC w w.heap.size (aH x.place) (.slice A5 n5 c5)) (k5:RdC w w.heap.size (aH x.place) (.slice B5 m5 d5)) (h6:RdC w w.heap.size (bH x.routes) (.slice A6 n6 c6)) (k6:RdC w w.heap.size (bH x.routes) (.slice B6 m6 d6)) (hz:af x.cells<=1099511627776) :
  Calls Tryz.prog 12 #[.agg #[.int .i64 x.net.inputs,.slice U n0 c0,.slice A1 n1 c1,.slice A2 n2 c2,.slice A3 n3 c3,.slice A4 W Y,.slice A5 n5 c5,.slice A6 n6 c6],.agg #[.int .i64 x.net.inputs,.slice V m0 d0,.slice B1 m1 Z,.slice B2 m2 d2,.slice B3 m3 d3,.slice B4 m4 d4,.slice B5 m5 d5,.slice B6 m6 d6]] w fun e w'=>e = .returned (.bool true)/\Below w.heap.size w w':=by
 have q:=Hd (aB (aB (Below.refl w.heap.size w) (.cells #[.int .i64 x.net.inputs,.slice U n0 c0,.slice A1 n1 c1,.slice A2 n2 c2,.slice A3 n3 c3,.slice A4 W Y,.slice A5 n5 c5,.slice A6 n6 c6] 46)) (.cells #[.int .i64 x.net.inputs,.slice V m0 d0,.slice B1 m1 Z,.slice B2 m2 d2,.slice B3 m3 d3,.slice B4 m4 d4,.slice B5 m5 d5,.slice B6 m6 d6] 46))
 have g:=aI (w.alloc (.cells #[.int .i64 x.net.inputs,.slice U n0 c0,.slice A1 n1 c1,.slice A2 n2 c2,.slice A3 n3 c3,.slice A4 W Y,.slice A5 n5 c5,.slice A6 n6 c6] 46)) (.cells #[.int .i64 x.net.inputs,.slice V m0 d0,.slice B1 m1 Z,.slice B2 m2 d2,.slice B3 m3 d3,.slice B4 m4 d4,.slice B5 m5 d5,.slice B6 m6 d6] 46)
 have j:=aW (.cells #[.int .i64 x.net.inputs,.slice V m0 d0,.slice B1 m1 Z,.slice B2 m2 d2,.slice B3 m3 d3,.slice B4 m4 d4,.slice B5 m5 d5,.slice B6 m6 d6] 46) (aI w (.cells #[.int .i64 x.net.inputs,.slice U n0 c0,.slice A1 n1 c1,.slice A2 n2 c2,.slice A3 n3 c3,.slice A4 W Y,.slice A5 n5 c5,.slice A6 n6 c6] 46))
 simp only [World.size_alloc] at g
 obtain ⟨u,z⟩:=hd2 j g
 clear j g
 obtain ⟨R0,K0,R1,K1,R2,K2,R3,K3⟩:=hd8 h0 k0 h1 k1 h2 k2 h3 k3
 obtain ⟨R4,K4,R5,K5,R6,K6⟩:=hd6 h4 k4 h5 k5 h6 k6
 have q0:(x.net.inputs != x.net.inputs)=false:=by simp
 have B:=hz
 unfold Lay.cells at B
 simp only [iD,au,bP] at B
 have Z0:Hid (af x.net.cells<=1099511627776):=by show _<=_;omega
 have Z1:Hid (szC (aa x.blocks)<=1099511627776):=by show _<=_;omega
 have Z2:Hid (szC (ah x.conns)<=1099511627776):=by show _<=_;omega
 have Z3:Hid (szC (aH x.place)<=1099511627776):=by show _<=_;omega
 have Z4:Hid (szC (bH x.routes)<=1099511627776):=by show _<=_;omega
 clear hz B h0 k0 h1 k1 h2 k2 h3 k3 h4 k4 h5 k5 h6 k6
 go_enter Tryz.func12,Tryz.ntmps12
 go_wp2_with fail
 refine (vC U V A1 B1 A2 B2 n0 c0 m0 d0 n1 c1 m1 Z n2 c2 m2 d2 x.net _ (R0.out.below q.out) (K0.out.below q.out) (R1.out.below q.out) (K1.out.below q.out) (R2.out.below q.out) (K2.out.below q.out) Z0.out).mono ?_
 rintro _ w1 ⟨rfl,b1⟩
 have H:=Hd (aA q.out b1)
 have C1:=Hd b1
 clear b1
 have j:=aD C1.out u.out
 have g:=aD C1.out z.out
 have x4:=aF (k:=4) j rfl
 have y4:=aF (k:=4) g rfl
 have x5:=aF (k:=5) j rfl
 have y5:=aF (k:=5) g rfl
 have x6:=aF (k:=6) j rfl
 have y6:=aF (k:=6) g rfl
 have I:=aF (k:=7) j rfl
 have K:=aF (k:=7) g rfl
 have Q:=aC j
 have D:=aC g
 clear j g
 go_wp2_with fail
 refine (vD A3 B3 n3 c3 m3 d3 x.blocks _ (R3.out.below H.out) (K3.out.below H.out) Z1.out).mono ?_
 rintro _ w2 ⟨rfl,b2⟩
 have R:=Hd (aA H.out b2)
 have C2:=Hd (aA C1.out b2)
 clear b2 x4 y4 x5 y5 x6 y6 I K Q D
 have j:=aD C2.out u.out
 have g:=aD C2.out z.out
 have x5:=aF (k:=5) j rfl
 have y5:=aF (k:=5) g rfl
 have x6:=aF (k:=6) j rfl
 have y6:=aF (k:=6) g rfl
 have I:=aF (k:=7) j rfl
 have K:=aF (k:=7) g rfl
 have Q:=aC j
 have D:=aC g
 clear j g
 go_wp2_with fail
 refine (wB A4 B4 W Y m4 d4 x.conns _ (R4.out.below R.out) (K4.out.below R.out) Z2.out).mono ?_
 rintro _ w3 ⟨rfl,b3⟩
 have G:=Hd (aA R.out b3)
 have C3:=Hd (aA C2.out b3)
 clear b3 x5 y5 x6 y6 I K Q D
 have j:=aD C3.out u.out
 have g:=aD C3.out z.out
 have x6:=aF (k:=6) j rfl
 have y6:=aF (k:=6) g rfl
 have I:=aF (k:=7) j rfl
 have K:=aF (k:=7) g rfl
 have Q:=aC j
 have D:=aC g
 clear j g
 go_wp2_with fail
 refine (pG A5 B5 n5 c5 m5 d5 x.place _ (R5.out.below G.out) (K5.out.below G.out) Z3.out).mono ?_
 rintro _ w4 ⟨rfl,b4⟩
 have J:=Hd (aA G.out b4)
 have C4:=Hd (aA C3.out b4)
 clear b4 x6 y6 I K Q D
 have j:=aD C4.out u.out
 have g:=aD C4.out z.out
 have I:=aF (k:=7) j rfl
 have K:=aF (k:=7) g rfl
 have Q:=aC j
 have D:=aC g
 clear j g
 go_wp2_with fail
 refine (vE A6 B6 n6 c6 m6 d6 x.routes _ (R6.out.below J.out) (K6.out.below J.out) Z4.out).mono ?_
 rintro _ w5 ⟨rfl,b5⟩
 have aV:=Hd (aA J.out b5)
 have C5:=Hd (aA C4.out b5)
 clear b5 I K Q D
 go_wp2_with fail
 go_ret
 exact ⟨rfl,aV.out⟩
end Go.Proofs.YtofihjoanjkdmaaGreat
