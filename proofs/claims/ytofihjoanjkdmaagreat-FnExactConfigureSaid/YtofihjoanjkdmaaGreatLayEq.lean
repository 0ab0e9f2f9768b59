/- The laws' comparisons of nested data (printed by mkeq.py). -/
import Derived.Test.YtofihjoanjkdmaaGreatLayArg
import Derived.Test.YtofihjoanjkdmaaGreatQb
import Derived.Test.YtofihjoanjkdmaaGreatTileHar
namespace Go.Proofs.YtofihjoanjkdmaaGreat
set_option maxHeartbeats 2000000
set_option maxRecDepth 100000
open Go.RowKit
theorem pG (A B:Option Addr) (n c m d:Nat) (xs:List Int) (w:World) (hA:RdC w w.heap.size (aH xs) (.slice A n c)) (j:RdC w w.heap.size (aH xs) (.slice B m d)) (g:szC (aH xs)<=1099511627776) :
  Calls Tryz.prog 53 #[.slice A n c,.slice B m d] w fun e w'=>e = .returned (.bool true)/\Below w.heap.size w w' :=
 qV A B n m c d xs w hA.ints j.ints (by rw [nZ] at g;have:=hA.ints.1;omega)
theorem zU (H B:Option Addr) (I z u D:Nat) (x:Lt) (w:World) (h0:RdC w w.heap.size (aH x.ins) (.slice H I z)) (k0:RdC w w.heap.size (aH x.ins) (.slice B u D)) (U:af x.cells<=1099511627776) :
  Calls Tryz.prog 196 #[.agg #[.slice H I z,.int .i64 x.mask],.agg #[.slice B u D,.int .i64 x.mask]] w fun e w'=>e = .returned (.bool true)/\Below w.heap.size w w':=by
 have g:=Hd (aB (aB (Below.refl w.heap.size w) (.cells #[.slice H I z,.int .i64 x.mask] 96)) (.cells #[.slice B u D,.int .i64 x.mask] 96))
 have q:=aI (w.alloc (.cells #[.slice H I z,.int .i64 x.mask] 96)) (.cells #[.slice B u D,.int .i64 x.mask] 96)
 have G:=aW (.cells #[.slice B u D,.int .i64 x.mask] 96) (aI w (.cells #[.slice H I z,.int .i64 x.mask] 96))
 simp only [World.size_alloc] at q
 obtain ⟨R,K⟩:=hd2 G q
 clear G q
 obtain ⟨W,Y⟩:=hd2 h0 k0
 have q1:(x.mask != x.mask)=false:=by simp
 have j:=U
 unfold Lt.cells at j
 simp only [au,bP,fM] at j
 have Z:Hid (szC (aH x.ins)<=1099511627776):=by show _<=_;omega
 clear U j h0 k0
 go_enter Tryz.func196,Tryz.ntmps196
 go_wp2_with fail
 refine (pG H B I z u D x.ins _ (W.out.below g.out) (Y.out.below g.out) Z.out).mono ?_
 rintro _ w1 ⟨rfl,Q⟩
 have J:=Hd (aA g.out Q)
 have V:=Hd Q
 clear Q
 have G:=aD V.out R.out
 have q:=aD V.out K.out
 have x1:=aF (k:=1) G rfl
 have y1:=aF (k:=1) q rfl
 have lx:=aC G
 have ly:=aC q
 clear G q
 go_wp2_with fail
 go_ret
 exact ⟨rfl,J.out⟩
theorem xh (A B:Option Addr) (n c m d:Nat) (xs:List Lt) (w:World) (hA:RdC w w.heap.size (bM xs) (.slice A n c)) (J:RdC w w.heap.size (bM xs) (.slice B m d)) (H:szC (bM xs)<=1099511627776) :
  Calls Tryz.prog 100 #[.slice A n c,.slice B m d] w fun e w'=>e = .returned (.bool true)/\Below w.heap.size w w':=by
 have hx:=hA.lutN'
 have hy:=J.lutN'
 obtain rfl:m=n:=by omega
 unfold bM at H
 rw [cK Lt.cells_length (by omega)] at H
 have hn:m<=1099511627776:=by omega
 have HZ:Hid (af (xs.flatMap Lt.cells)<=1099511627776):=by show _<=_;omega
 obtain ⟨HA,HB,K⟩:=hd3 hA J hx
 clear hx hy hA J H
 go_enter Tryz.func100,Tryz.ntmps100
 go_wp2_with fail
 go_loopw [5] (fun i wr=>∃k:Nat,k<=m/\i = .int .i64 k/\Below w.heap.size w wr) (fun i _=>m - (intOf i).toNat)
 ·exact ⟨0,Nat.zero_le _,rfl,Below.refl _ _⟩
 obtain ⟨k,hk,rfl,q⟩:=hrel
 have g:=Hd q
 clear q
 by_cases j:k<m
 ·have W:=dT (by omega:k<m)
  obtain ⟨b,o,S0,l0,p0,rfl,hb,c0,c1,r0⟩:=(HA.out.below g.out).lut' (k:=k) (by rw [K.out];exact j)
  obtain ⟨b',o',Q,I,Y,rfl,aj,d0,d1,z⟩:=(HB.out.below g.out).lut' (k:=k) (by rw [K.out];exact j)
  have U:Hid (af (xs[k]?.getD Lt.zero).cells<=1099511627776):=Nat.le_trans (jD (cells:=Lt.cells) (by rw [K.out];exact j)) HZ.out
  generalize xs[k]?.getD Lt.zero=x at *
  obtain ⟨J0,R⟩:=hd2 r0 z
  clear r0 z
  obtain ⟨i0,i1⟩:=ib (by omega:k<m)
  go_wp2_with fail
  have D:=Hd (fun (v:Sub wr)=>zU S0 Q l0 p0 I Y x v.v (J0.out.below v.h) (R.out.below v.h) U.out)
  have u:=aY wr
  have V:=aP wr
  refine wpB wr ?_
  repeat (go_big_quiet_step ((first
   | (go_at_call 196;with_reducible exact aN (D.out _)))))
  refine wpQuiet_nil ?_
  rintro _ ⟨⟨w5,Z⟩,rfl⟩
  clear u V D
  have HD:=Hd (aA g.out Z)
  clear Z
  go_wp2_with fail
  go_roundw
  ·exact ⟨k+1,by omega,by go_num,HD.out⟩
  simp [intOf];omega
 have G:k=m:=by omega
 subst G
 have W:decide ((k:Int)<(k:Int))=false:=by simp
 go_wp2_with fail
 go_ret
 exact ⟨rfl,g.out⟩
theorem zV (D z:Option Addr) (G u q B:Nat) (x:Sq) (w:World) (h0:RdC w w.heap.size (aH x.ins) (.slice D G u)) (k0:RdC w w.heap.size (aH x.ins) (.slice z q B)) (Q:af x.cells<=1099511627776) :
  Calls Tryz.prog 195 #[.agg #[.int .i64 x.kind,.int .i64 x.init,.slice D G u],.agg #[.int .i64 x.kind,.int .i64 x.init,.slice z q B]] w fun e w'=>e = .returned (.bool true)/\Below w.heap.size w w':=by
 have g:=Hd (aB (aB (Below.refl w.heap.size w) (.cells #[.int .i64 x.kind,.int .i64 x.init,.slice D G u] 91)) (.cells #[.int .i64 x.kind,.int .i64 x.init,.slice z q B] 91))
 have I:=aI (w.alloc (.cells #[.int .i64 x.kind,.int .i64 x.init,.slice D G u] 91)) (.cells #[.int .i64 x.kind,.int .i64 x.init,.slice z q B] 91)
 have K:=aW (.cells #[.int .i64 x.kind,.int .i64 x.init,.slice z q B] 91) (aI w (.cells #[.int .i64 x.kind,.int .i64 x.init,.slice D G u] 91))
 simp only [World.size_alloc] at I
 obtain ⟨Y,W⟩:=hd2 K I
 clear K I
 obtain ⟨R,U⟩:=hd2 h0 k0
 have Z:(x.kind != x.kind)=false:=by simp
 have q1:(x.init != x.init)=false:=by simp
 have j:=Q
 unfold Sq.cells at j
 simp only [au,bP,fM] at j
 have V:Hid (szC (aH x.ins)<=1099511627776):=by show _<=_;omega
 clear Q j h0 k0
 go_enter Tryz.func195,Tryz.ntmps195
 go_wp2_with fail
 refine (pG D z G u q B x.ins _ (R.out.below g.out) (U.out.below g.out) V.out).mono ?_
 rintro _ w1 ⟨rfl,J⟩
 have H:=Hd (aA g.out J)
 have C1:=Hd J
 clear J
 go_wp2_with fail
 go_ret
 exact ⟨rfl,H.out⟩
theorem xk (A B:Option Addr) (n c m d:Nat) (xs:List Sq) (w:World) (hA:RdC w w.heap.size (bD xs) (.slice A n c)) (J:RdC w w.heap.size (bD xs) (.slice B m d)) (H:szC (bD xs)<=1099511627776) :
  Calls Tryz.prog 99 #[.slice A n c,.slice B m d] w fun e w'=>e = .returned (.bool true)/\Below w.heap.size w w':=by
 have hx:=hA.sqN'
 have hy:=J.sqN'
 obtain rfl:m=n:=by omega
 unfold bD at H
 rw [cK Sq.cells_length (by omega)] at H
 have hn:m<=1099511627776:=by omega
 have HZ:Hid (af (xs.flatMap Sq.cells)<=1099511627776):=by show _<=_;omega
 obtain ⟨HA,HB,K⟩:=hd3 hA J hx
 clear hx hy hA J H
 go_enter Tryz.func99,Tryz.ntmps99
 go_wp2_with fail
 go_loopw [5] (fun i wr=>∃k:Nat,k<=m/\i = .int .i64 k/\Below w.heap.size w wr) (fun i _=>m - (intOf i).toNat)
 ·exact ⟨0,Nat.zero_le _,rfl,Below.refl _ _⟩
 obtain ⟨k,hk,rfl,q⟩:=hrel
 have g:=Hd q
 clear q
 by_cases j:k<m
 ·have W:=dT (by omega:k<m)
  obtain ⟨b,o,S0,l0,p0,rfl,hb,c0,c1,c2,r0⟩:=(HA.out.below g.out).sq' (k:=k) (by rw [K.out];exact j)
  obtain ⟨b',o',Q,I,Y,rfl,aj,d0,d1,d2,z⟩:=(HB.out.below g.out).sq' (k:=k) (by rw [K.out];exact j)
  have U:Hid (af (xs[k]?.getD Sq.zero).cells<=1099511627776):=Nat.le_trans (jD (cells:=Sq.cells) (by rw [K.out];exact j)) HZ.out
  generalize xs[k]?.getD Sq.zero=x at *
  obtain ⟨J0,R⟩:=hd2 r0 z
  clear r0 z
  obtain ⟨i0,i1⟩:=ib (by omega:k<m)
  go_wp2_with fail
  have D:=Hd (fun (v:Sub wr)=>zV S0 Q l0 p0 I Y x v.v (J0.out.below v.h) (R.out.below v.h) U.out)
  have u:=aY wr
  have V:=aP wr
  refine wpB wr ?_
  repeat (go_big_quiet_step ((first
   | (go_at_call 195;with_reducible exact aN (D.out _)))))
  refine wpQuiet_nil ?_
  rintro _ ⟨⟨w5,Z⟩,rfl⟩
  clear u V D
  have HD:=Hd (aA g.out Z)
  clear Z
  go_wp2_with fail
  go_roundw
  ·exact ⟨k+1,by omega,by go_num,HD.out⟩
  simp [intOf];omega
 have G:k=m:=by omega
 subst G
 have W:decide ((k:Int)<(k:Int))=false:=by simp
 go_wp2_with fail
 go_ret
 exact ⟨rfl,g.out⟩
theorem vC (V J A1 U A2 H:Option Addr) (W D G K n1 c1 Q Y n2 c2 I R:Nat) (x:ag) (w:World) (h0:RdC w w.heap.size (bD x.seqs) (.slice V W D)) (k0:RdC w w.heap.size (bD x.seqs) (.slice J G K)) (h1:RdC w w.heap.size (bM x.luts) (.slice A1 n1 c1)) (k1:RdC w w.heap.size (bM x.luts) (.slice U Q Y)) (h2:RdC w w.heap.size (aH x.outs) (.slice A2 n2 c2)) (k2:RdC w w.heap.size (aH x.outs) (.slice H I R)) (hz:af x.cells<=1099511627776) :
  Calls Tryz.prog 28 #[.agg #[.int .i64 x.inputs,.slice V W D,.slice A1 n1 c1,.slice A2 n2 c2],.agg #[.int .i64 x.inputs,.slice J G K,.slice U Q Y,.slice H I R]] w fun e w'=>e = .returned (.bool true)/\Below w.heap.size w w':=by
 have z:=Hd (aB (aB (Below.refl w.heap.size w) (.cells #[.int .i64 x.inputs,.slice V W D,.slice A1 n1 c1,.slice A2 n2 c2] 41)) (.cells #[.int .i64 x.inputs,.slice J G K,.slice U Q Y,.slice H I R] 41))
 have g:=aI (w.alloc (.cells #[.int .i64 x.inputs,.slice V W D,.slice A1 n1 c1,.slice A2 n2 c2] 41)) (.cells #[.int .i64 x.inputs,.slice J G K,.slice U Q Y,.slice H I R] 41)
 have j:=aW (.cells #[.int .i64 x.inputs,.slice J G K,.slice U Q Y,.slice H I R] 41) (aI w (.cells #[.int .i64 x.inputs,.slice V W D,.slice A1 n1 c1,.slice A2 n2 c2] 41))
 simp only [World.size_alloc] at g
 obtain ⟨ad,Z⟩:=hd2 j g
 clear j g
 obtain ⟨R0,K0,R1,K1,R2,K2⟩:=hd6 h0 k0 h1 k1 h2 k2
 have q0:(x.inputs != x.inputs)=false:=by simp
 have B:=hz
 unfold ag.cells at B
 simp only [au,bP,fM] at B
 have Z0:Hid (szC (bD x.seqs)<=1099511627776):=by show _<=_;omega
 have Z1:Hid (szC (bM x.luts)<=1099511627776):=by show _<=_;omega
 have Z2:Hid (szC (aH x.outs)<=1099511627776):=by show _<=_;omega
 clear hz B h0 k0 h1 k1 h2 k2
 go_enter Tryz.func28,Tryz.ntmps28
 go_wp2_with fail
 refine (xk V J W D G K x.seqs _ (R0.out.below z.out) (K0.out.below z.out) Z0.out).mono ?_
 rintro _ w1 ⟨rfl,b1⟩
 have u:=Hd (aA z.out b1)
 have C1:=Hd b1
 clear b1
 have j:=aD C1.out ad.out
 have g:=aD C1.out Z.out
 have x2:=aF (k:=2) j rfl
 have y2:=aF (k:=2) g rfl
 have x3:=aF (k:=3) j rfl
 have y3:=aF (k:=3) g rfl
 have lx:=aC j
 have ly:=aC g
 clear j g
 go_wp2_with fail
 refine (xh A1 U n1 c1 Q Y x.luts _ (R1.out.below u.out) (K1.out.below u.out) Z1.out).mono ?_
 rintro _ w2 ⟨rfl,b2⟩
 have q:=Hd (aA u.out b2)
 have C2:=Hd (aA C1.out b2)
 clear b2 x2 y2 x3 y3 lx ly
 have j:=aD C2.out ad.out
 have g:=aD C2.out Z.out
 have x3:=aF (k:=3) j rfl
 have y3:=aF (k:=3) g rfl
 have lx:=aC j
 have ly:=aC g
 clear j g
 go_wp2_with fail
 refine (pG A2 H n2 c2 I R x.outs _ (R2.out.below q.out) (K2.out.below q.out) Z2.out).mono ?_
 rintro _ w3 ⟨rfl,b3⟩
 have al:=Hd (aA q.out b3)
 have C3:=Hd (aA C2.out b3)
 clear b3 x3 y3 lx ly
 go_wp2_with fail
 go_ret
 exact ⟨rfl,al.out⟩
theorem Az (x:LeT) (w:World)  :
  Calls Tryz.prog 261 #[.agg #[.int .i64 x.lut,.int .i64 x.ff],.agg #[.int .i64 x.lut,.int .i64 x.ff]] w fun e w'=>e = .returned (.bool true)/\Below w.heap.size w w':=by
 have g:=Hd (aB (aB (Below.refl w.heap.size w) (.cells #[.int .i64 x.lut,.int .i64 x.ff] 94)) (.cells #[.int .i64 x.lut,.int .i64 x.ff] 94))
 have j:=aI (w.alloc (.cells #[.int .i64 x.lut,.int .i64 x.ff] 94)) (.cells #[.int .i64 x.lut,.int .i64 x.ff] 94)
 have q:=aW (.cells #[.int .i64 x.lut,.int .i64 x.ff] 94) (aI w (.cells #[.int .i64 x.lut,.int .i64 x.ff] 94))
 simp only [World.size_alloc] at j
 obtain ⟨z,u⟩:=hd2 q j
 clear q j
 have B:(x.lut != x.lut)=false:=by simp
 have D:(x.ff != x.ff)=false:=by simp
 go_enter Tryz.func261,Tryz.ntmps261
 go_wp2_with fail
 go_ret
 exact ⟨rfl,g.out⟩
theorem zW (A B:Option Addr) (n c m d:Nat) (xs:List LeT) (w:World) (hA:RdC w w.heap.size (cZ xs) (.slice A n c)) (H:RdC w w.heap.size (cZ xs) (.slice B m d)) (G:szC (cZ xs)<=1099511627776) :
  Calls Tryz.prog 225 #[.slice A n c,.slice B m d] w fun e w'=>e = .returned (.bool true)/\Below w.heap.size w w':=by
 have R:=hA.esN
 have Y:=H.esN
 obtain rfl:m=n:=by omega
 unfold cZ at G
 rw [cK LeT.cells_length (by omega)] at G
 have hn:m<=1099511627776:=by omega
 have HZ:Hid (af (xs.flatMap LeT.cells)<=1099511627776):=by show _<=_;omega
 obtain ⟨W,Z,Q⟩:=hd3 hA H R
 clear R Y hA H G
 go_enter Tryz.func225,Tryz.ntmps225
 go_wp2_with fail
 go_loopw [5] (fun i wr=>∃k:Nat,k<=m/\i = .int .i64 k/\Below w.heap.size w wr) (fun i _=>m - (intOf i).toNat)
 ·exact ⟨0,Nat.zero_le _,rfl,Below.refl _ _⟩
 obtain ⟨k,hk,rfl,j⟩:=hrel
 have g:=Hd j
 clear j
 by_cases u:k<m
 ·have J:=dT (by omega:k<m)
  obtain ⟨b,o,rfl,hb,c0,c1⟩:=(W.out.below g.out).es (k:=k) (by rw [Q.out];exact u)
  obtain ⟨b',o',rfl,V,d0,d1⟩:=(Z.out.below g.out).es (k:=k) (by rw [Q.out];exact u)
  skip
  generalize xs[k]?.getD LeT.zero=x at *
  skip
  obtain ⟨i0,i1⟩:=ib (by omega:k<m)
  go_wp2_with fail
  have z:=Hd (fun (v:Sub wr)=>Az x v.v)
  have q:=aY wr
  have I:=aP wr
  refine wpB wr ?_
  repeat (go_big_quiet_step ((first
   | (go_at_call 261;with_reducible exact aN (z.out _)))))
  refine wpQuiet_nil ?_
  rintro _ ⟨⟨w5,K⟩,rfl⟩
  clear q I z
  have U:=Hd (aA g.out K)
  clear K
  go_wp2_with fail
  go_roundw
  ·exact ⟨k+1,by omega,by go_num,U.out⟩
  simp [intOf];omega
 have D:k=m:=by omega
 subst D
 have J:decide ((k:Int)<(k:Int))=false:=by simp
 go_wp2_with fail
 go_ret
 exact ⟨rfl,g.out⟩
theorem vz (D z:Option Addr) (G u q B:Nat) (x:Blk) (w:World) (h0:RdC w w.heap.size (cZ x.les) (.slice D G u)) (k0:RdC w w.heap.size (cZ x.les) (.slice z q B)) (Q:af x.cells<=1099511627776) :
  Calls Tryz.prog 134 #[.agg #[.int .i64 x.kind,.int .i64 x.item,.slice D G u],.agg #[.int .i64 x.kind,.int .i64 x.item,.slice z q B]] w fun e w'=>e = .returned (.bool true)/\Below w.heap.size w w':=by
 have g:=Hd (aB (aB (Below.refl w.heap.size w) (.cells #[.int .i64 x.kind,.int .i64 x.item,.slice D G u] 89)) (.cells #[.int .i64 x.kind,.int .i64 x.item,.slice z q B] 89))
 have I:=aI (w.alloc (.cells #[.int .i64 x.kind,.int .i64 x.item,.slice D G u] 89)) (.cells #[.int .i64 x.kind,.int .i64 x.item,.slice z q B] 89)
 have K:=aW (.cells #[.int .i64 x.kind,.int .i64 x.item,.slice z q B] 89) (aI w (.cells #[.int .i64 x.kind,.int .i64 x.item,.slice D G u] 89))
 simp only [World.size_alloc] at I
 obtain ⟨Y,W⟩:=hd2 K I
 clear K I
 obtain ⟨R,U⟩:=hd2 h0 k0
 have Z:(x.kind != x.kind)=false:=by simp
 have q1:(x.item != x.item)=false:=by simp
 have j:=Q
 unfold Blk.cells at j
 simp only [au,bP,fM] at j
 have V:Hid (szC (cZ x.les)<=1099511627776):=by show _<=_;omega
 clear Q j h0 k0
 go_enter Tryz.func134,Tryz.ntmps134
 go_wp2_with fail
 refine (zW D z G u q B x.les _ (R.out.below g.out) (U.out.below g.out) V.out).mono ?_
 rintro _ w1 ⟨rfl,J⟩
 have H:=Hd (aA g.out J)
 have C1:=Hd J
 clear J
 go_wp2_with fail
 go_ret
 exact ⟨rfl,H.out⟩
theorem vD (A B:Option Addr) (n c m d:Nat) (xs:List Blk) (w:World) (hA:RdC w w.heap.size (aa xs) (.slice A n c)) (J:RdC w w.heap.size (aa xs) (.slice B m d)) (H:szC (aa xs)<=1099511627776) :
  Calls Tryz.prog 51 #[.slice A n c,.slice B m d] w fun e w'=>e = .returned (.bool true)/\Below w.heap.size w w':=by
 have hx:=hA.blkN
 have hy:=J.blkN
 obtain rfl:m=n:=by omega
 unfold aa at H
 rw [cK Blk.cells_length (by omega)] at H
 have hn:m<=1099511627776:=by omega
 have HZ:Hid (af (xs.flatMap Blk.cells)<=1099511627776):=by show _<=_;omega
 obtain ⟨HA,HB,K⟩:=hd3 hA J hx
 clear hx hy hA J H
 go_enter Tryz.func51,Tryz.ntmps51
 go_wp2_with fail
 go_loopw [5] (fun i wr=>∃k:Nat,k<=m/\i = .int .i64 k/\Below w.heap.size w wr) (fun i _=>m - (intOf i).toNat)
 ·exact ⟨0,Nat.zero_le _,rfl,Below.refl _ _⟩
 obtain ⟨k,hk,rfl,q⟩:=hrel
 have g:=Hd q
 clear q
 by_cases j:k<m
 ·have W:=dT (by omega:k<m)
  obtain ⟨b,o,S0,l0,p0,rfl,hb,c0,c1,c2,r0⟩:=(HA.out.below g.out).blk (k:=k) (by rw [K.out];exact j)
  obtain ⟨b',o',Q,I,Y,rfl,aj,d0,d1,d2,z⟩:=(HB.out.below g.out).blk (k:=k) (by rw [K.out];exact j)
  have U:Hid (af (xs[k]?.getD Blk.zero).cells<=1099511627776):=Nat.le_trans (jD (cells:=Blk.cells) (by rw [K.out];exact j)) HZ.out
  generalize xs[k]?.getD Blk.zero=x at *
  obtain ⟨J0,R⟩:=hd2 r0 z
  clear r0 z
  obtain ⟨i0,i1⟩:=ib (by omega:k<m)
  go_wp2_with fail
  have D:=Hd (fun (v:Sub wr)=>vz S0 Q l0 p0 I Y x v.v (J0.out.below v.h) (R.out.below v.h) U.out)
  have u:=aY wr
  have V:=aP wr
  refine wpB wr ?_
  repeat (go_big_quiet_step ((first
   | (go_at_call 134;with_reducible exact aN (D.out _)))))
  refine wpQuiet_nil ?_
  rintro _ ⟨⟨w5,Z⟩,rfl⟩
  clear u V D
  have HD:=Hd (aA g.out Z)
  clear Z
  go_wp2_with fail
  go_roundw
  ·exact ⟨k+1,by omega,by go_num,HD.out⟩
  simp [intOf];omega
 have G:k=m:=by omega
 subst G
 have W:decide ((k:Int)<(k:Int))=false:=by simp
 go_wp2_with fail
 go_ret
 exact ⟨rfl,g.out⟩
theorem uC (x:bS) (w:World)  :
  Calls Tryz.prog 226 #[.agg #[.int .i64 x.block,.int .i64 x.pin],.agg #[.int .i64 x.block,.int .i64 x.pin]] w fun e w'=>e = .returned (.bool true)/\Below w.heap.size w w':=by
 have g:=Hd (aB (aB (Below.refl w.heap.size w) (.cells #[.int .i64 x.block,.int .i64 x.pin] 100)) (.cells #[.int .i64 x.block,.int .i64 x.pin] 100))
 have j:=aI (w.alloc (.cells #[.int .i64 x.block,.int .i64 x.pin] 100)) (.cells #[.int .i64 x.block,.int .i64 x.pin] 100)
 have q:=aW (.cells #[.int .i64 x.block,.int .i64 x.pin] 100) (aI w (.cells #[.int .i64 x.block,.int .i64 x.pin] 100))
 simp only [World.size_alloc] at j
 obtain ⟨z,u⟩:=hd2 q j
 clear q j
 have B:(x.block != x.block)=false:=by simp
 have D:(x.pin != x.pin)=false:=by simp
 go_enter Tryz.func226,Tryz.ntmps226
 go_wp2_with fail
 go_ret
 exact ⟨rfl,g.out⟩
theorem xm (A B:Option Addr) (n c m d:Nat) (xs:List bS) (w:World) (hA:RdC w w.heap.size (bR xs) (.slice A n c)) (H:RdC w w.heap.size (bR xs) (.slice B m d)) (G:szC (bR xs)<=1099511627776) :
  Calls Tryz.prog 227 #[.slice A n c,.slice B m d] w fun e w'=>e = .returned (.bool true)/\Below w.heap.size w w':=by
 have R:=hA.pinN
 have Y:=H.pinN
 obtain rfl:m=n:=by omega
 unfold bR at G
 rw [cK bS.cells_length (by omega)] at G
 have hn:m<=1099511627776:=by omega
 have HZ:Hid (af (xs.flatMap bS.cells)<=1099511627776):=by show _<=_;omega
 obtain ⟨W,Z,Q⟩:=hd3 hA H R
 clear R Y hA H G
 go_enter Tryz.func227,Tryz.ntmps227
 go_wp2_with fail
 go_loopw [5] (fun i wr=>∃k:Nat,k<=m/\i = .int .i64 k/\Below w.heap.size w wr) (fun i _=>m - (intOf i).toNat)
 ·exact ⟨0,Nat.zero_le _,rfl,Below.refl _ _⟩
 obtain ⟨k,hk,rfl,j⟩:=hrel
 have g:=Hd j
 clear j
 by_cases u:k<m
 ·have J:=dT (by omega:k<m)
  obtain ⟨b,o,rfl,hb,c0,c1⟩:=(W.out.below g.out).pin (k:=k) (by rw [Q.out];exact u)
  obtain ⟨b',o',rfl,V,d0,d1⟩:=(Z.out.below g.out).pin (k:=k) (by rw [Q.out];exact u)
  skip
  generalize xs[k]?.getD bS.zero=x at *
  skip
  obtain ⟨i0,i1⟩:=ib (by omega:k<m)
  go_wp2_with fail
  have z:=Hd (fun (v:Sub wr)=>uC x v.v)
  have q:=aY wr
  have I:=aP wr
  refine wpB wr ?_
  repeat (go_big_quiet_step ((first
   | (go_at_call 226;with_reducible exact aN (z.out _)))))
  refine wpQuiet_nil ?_
  rintro _ ⟨⟨w5,K⟩,rfl⟩
  clear q I z
  have U:=Hd (aA g.out K)
  clear K
  go_wp2_with fail
  go_roundw
  ·exact ⟨k+1,by omega,by go_num,U.out⟩
  simp [intOf];omega
 have D:k=m:=by omega
 subst D
 have J:decide ((k:Int)<(k:Int))=false:=by simp
 go_wp2_with fail
 go_ret
 exact ⟨rfl,g.out⟩
theorem xq (H B:Option Addr) (I z u D:Nat) (x:Cn) (w:World) (h0:RdC w w.heap.size (bR x.sinks) (.slice H I z)) (k0:RdC w w.heap.size (bR x.sinks) (.slice B u D)) (Y:af x.cells<=1099511627776) :
  Calls Tryz.prog 135 #[.agg #[.int .i64 x.node,.int .i64 x.src.block,.int .i64 x.src.pin,.slice H I z],.agg #[.int .i64 x.node,.int .i64 x.src.block,.int .i64 x.src.pin,.slice B u D]] w fun e w'=>e = .returned (.bool true)/\Below w.heap.size w w':=by
 have R:=Hd (aB (aB (Below.refl w.heap.size w) (.cells #[.int .i64 x.node,.int .i64 x.src.block,.int .i64 x.src.pin,.slice H I z] 158)) (.cells #[.int .i64 x.node,.int .i64 x.src.block,.int .i64 x.src.pin,.slice B u D] 158))
 have q:=aI (w.alloc (.cells #[.int .i64 x.node,.int .i64 x.src.block,.int .i64 x.src.pin,.slice H I z] 158)) (.cells #[.int .i64 x.node,.int .i64 x.src.block,.int .i64 x.src.pin,.slice B u D] 158)
 have G:=aW (.cells #[.int .i64 x.node,.int .i64 x.src.block,.int .i64 x.src.pin,.slice B u D] 158) (aI w (.cells #[.int .i64 x.node,.int .i64 x.src.block,.int .i64 x.src.pin,.slice H I z] 158))
 simp only [World.size_alloc] at q
 obtain ⟨W,U⟩:=hd2 G q
 clear G q
 obtain ⟨Z,K0⟩:=hd2 h0 k0
 have q0:(x.node != x.node)=false:=by simp
 have q1:(x.src.block != x.src.block)=false:=by simp
 have q2:(x.src.pin != x.src.pin)=false:=by simp
 have j:=Y
 unfold Cn.cells at j
 simp only [au,bP,fM] at j
 have Z1:Hid (szC (bR x.sinks)<=1099511627776):=by show _<=_;omega
 clear Y j h0 k0
 go_enter Tryz.func135,Tryz.ntmps135
 go_wp2_with fail
 refine (uC   x.src _  ).mono ?_
 rintro _ w1 ⟨rfl,V⟩
 have g:=Hd (aA R.out V)
 have J:=Hd V
 clear V
 have G:=aD J.out W.out
 have q:=aD J.out U.out
 have x3:=aF (k:=3) G rfl
 have y3:=aF (k:=3) q rfl
 have lx:=aC G
 have ly:=aC q
 clear G q
 go_wp2_with fail
 refine (xm H B I z u D x.sinks _ (Z.out.below g.out) (K0.out.below g.out) Z1.out).mono ?_
 rintro _ w2 ⟨rfl,Q⟩
 have K:=Hd (aA g.out Q)
 have C2:=Hd (aA J.out Q)
 clear Q x3 y3 lx ly
 go_wp2_with fail
 go_ret
 exact ⟨rfl,K.out⟩
theorem wB (A B:Option Addr) (n c m d:Nat) (xs:List Cn) (w:World) (hA:RdC w w.heap.size (ah xs) (.slice A n c)) (J:RdC w w.heap.size (ah xs) (.slice B m d)) (H:szC (ah xs)<=1099511627776) :
  Calls Tryz.prog 52 #[.slice A n c,.slice B m d] w fun e w'=>e = .returned (.bool true)/\Below w.heap.size w w':=by
 have hx:=hA.cnN
 have hy:=J.cnN
 obtain rfl:m=n:=by omega
 unfold ah at H
 rw [cK Cn.cells_length (by omega)] at H
 have hn:m<=1099511627776:=by omega
 have HZ:Hid (af (xs.flatMap Cn.cells)<=1099511627776):=by show _<=_;omega
 obtain ⟨HA,HB,K⟩:=hd3 hA J hx
 clear hx hy hA J H
 go_enter Tryz.func52,Tryz.ntmps52
 go_wp2_with fail
 go_loopw [5] (fun i wr=>∃k:Nat,k<=m/\i = .int .i64 k/\Below w.heap.size w wr) (fun i _=>m - (intOf i).toNat)
 ·exact ⟨0,Nat.zero_le _,rfl,Below.refl _ _⟩
 obtain ⟨k,hk,rfl,q⟩:=hrel
 have g:=Hd q
 clear q
 by_cases j:k<m
 ·have W:=dT (by omega:k<m)
  obtain ⟨b,o,S0,l0,p0,rfl,hb,c0,c1,c2,c3,r0⟩:=(HA.out.below g.out).cn (k:=k) (by rw [K.out];exact j)
  obtain ⟨b',o',Q,I,Y,rfl,ak,d0,d1,d2,d3,z⟩:=(HB.out.below g.out).cn (k:=k) (by rw [K.out];exact j)
  have U:Hid (af (xs[k]?.getD Cn.zero).cells<=1099511627776):=Nat.le_trans (jD (cells:=Cn.cells) (by rw [K.out];exact j)) HZ.out
  generalize xs[k]?.getD Cn.zero=x at *
  obtain ⟨J0,R⟩:=hd2 r0 z
  clear r0 z
  obtain ⟨i0,i1⟩:=ib (by omega:k<m)
  go_wp2_with fail
  have D:=Hd (fun (v:Sub wr)=>xq S0 Q l0 p0 I Y x v.v (J0.out.below v.h) (R.out.below v.h) U.out)
  have u:=aY wr
  have V:=aP wr
  refine wpB wr ?_
  repeat (go_big_quiet_step ((first
   | (go_at_call 135;with_reducible exact aN (D.out _)))))
  refine wpQuiet_nil ?_
  rintro _ ⟨⟨w5,Z⟩,rfl⟩
  clear u V D
  have HD:=Hd (aA g.out Z)
  clear Z
  go_wp2_with fail
  go_roundw
  ·exact ⟨k+1,by omega,by go_num,HD.out⟩
  simp [intOf];omega
 have G:k=m:=by omega
 subst G
 have W:decide ((k:Int)<(k:Int))=false:=by simp
 go_wp2_with fail
 go_ret
 exact ⟨rfl,g.out⟩
theorem wC (K D A1 J:Option Addr) (Q B z G n1 c1 H R:Nat) (x:Rou) (w:World) (h0:RdC w w.heap.size (aH x.nodes) (.slice K Q B)) (k0:RdC w w.heap.size (aH x.nodes) (.slice D z G)) (h1:RdC w w.heap.size (aH x.from_) (.slice A1 n1 c1)) (k1:RdC w w.heap.size (aH x.from_) (.slice J H R)) (hz:af x.cells<=1099511627776) :
  Calls Tryz.prog 136 #[.agg #[.slice K Q B,.slice A1 n1 c1],.agg #[.slice D z G,.slice J H R]] w fun e w'=>e = .returned (.bool true)/\Below w.heap.size w w':=by
 have j:=Hd (aB (aB (Below.refl w.heap.size w) (.cells #[.slice K Q B,.slice A1 n1 c1] 114)) (.cells #[.slice D z G,.slice J H R] 114))
 have u:=aI (w.alloc (.cells #[.slice K Q B,.slice A1 n1 c1] 114)) (.cells #[.slice D z G,.slice J H R] 114)
 have I:=aW (.cells #[.slice D z G,.slice J H R] 114) (aI w (.cells #[.slice K Q B,.slice A1 n1 c1] 114))
 simp only [World.size_alloc] at u
 obtain ⟨ad,Y⟩:=hd2 I u
 clear I u
 obtain ⟨R0,K0,R1,K1⟩:=hd4 h0 k0 h1 k1
 have q:=hz
 unfold Rou.cells at q
 simp only [au,bP] at q
 have Z0:Hid (szC (aH x.nodes)<=1099511627776):=by show _<=_;omega
 have Z1:Hid (szC (aH x.from_)<=1099511627776):=by show _<=_;omega
 clear hz q h0 k0 h1 k1
 go_enter Tryz.func136,Tryz.ntmps136
 go_wp2_with fail
 refine (pG K D Q B z G x.nodes _ (R0.out.below j.out) (K0.out.below j.out) Z0.out).mono ?_
 rintro _ w1 ⟨rfl,Z⟩
 have g:=Hd (aA j.out Z)
 have U:=Hd Z
 clear Z
 have I:=aD U.out ad.out
 have u:=aD U.out Y.out
 have x1:=aF (k:=1) I rfl
 have y1:=aF (k:=1) u rfl
 have lx:=aC I
 have ly:=aC u
 clear I u
 go_wp2_with fail
 refine (pG A1 J n1 c1 H R x.from_ _ (R1.out.below g.out) (K1.out.below g.out) Z1.out).mono ?_
 rintro _ w2 ⟨rfl,W⟩
 have V:=Hd (aA g.out W)
 have C2:=Hd (aA U.out W)
 clear W x1 y1 lx ly
 go_wp2_with fail
 go_ret
 exact ⟨rfl,V.out⟩
theorem vE (A B:Option Addr) (n c m d:Nat) (xs:List Rou) (w:World) (hA:RdC w w.heap.size (bH xs) (.slice A n c)) (Q:RdC w w.heap.size (bH xs) (.slice B m d)) (J:szC (bH xs)<=1099511627776) :
  Calls Tryz.prog 54 #[.slice A n c,.slice B m d] w fun e w'=>e = .returned (.bool true)/\Below w.heap.size w w':=by
 have hx:=hA.rouN
 have hy:=Q.rouN
 obtain rfl:m=n:=by omega
 unfold bH at J
 rw [cK Rou.cells_length (by omega)] at J
 have hn:m<=1099511627776:=by omega
 have HZ:Hid (af (xs.flatMap Rou.cells)<=1099511627776):=by show _<=_;omega
 obtain ⟨HA,HB,U⟩:=hd3 hA Q hx
 clear hx hy hA Q J
 go_enter Tryz.func54,Tryz.ntmps54
 go_wp2_with fail
 go_loopw [5] (fun i wr=>∃k:Nat,k<=m/\i = .int .i64 k/\Below w.heap.size w wr) (fun i _=>m - (intOf i).toNat)
 ·exact ⟨0,Nat.zero_le _,rfl,Below.refl _ _⟩
 obtain ⟨k,hk,rfl,q⟩:=hrel
 have g:=Hd q
 clear q
 by_cases j:k<m
 ·have ag:=dT (by omega:k<m)
  obtain ⟨b,o,S0,l0,p0,S1,l1,p1,rfl,hb,c0,c1,r0,r1⟩:=(HA.out.below g.out).rou (k:=k) (by rw [U.out];exact j)
  obtain ⟨b',o',W,K,ah,R,I,ae,rfl,av,d0,d1,z,D⟩:=(HB.out.below g.out).rou (k:=k) (by rw [U.out];exact j)
  have Z:Hid (af (xs[k]?.getD Rou.zero).cells<=1099511627776):=Nat.le_trans (jD (cells:=Rou.cells) (by rw [U.out];exact j)) HZ.out
  generalize xs[k]?.getD Rou.zero=x at *
  obtain ⟨J0,Y,J1,V⟩:=hd4 r0 z r1 D
  clear r0 z r1 D
  obtain ⟨i0,i1⟩:=ib (by omega:k<m)
  go_wp2_with fail
  have G:=Hd (fun (v:Sub wr)=>wC S0 W S1 R l0 p0 K ah l1 p1 I ae x v.v (J0.out.below v.h) (Y.out.below v.h) (J1.out.below v.h) (V.out.below v.h) Z.out)
  have u:=aY wr
  have ad:=aP wr
  refine wpB wr ?_
  repeat (go_big_quiet_step ((first
   | (go_at_call 136;with_reducible exact aN (G.out _)))))
  refine wpQuiet_nil ?_
  rintro _ ⟨⟨w5,hD⟩,rfl⟩
  clear u ad G
  have HD:=Hd (aA g.out hD)
  clear hD
  go_wp2_with fail
  go_roundw
  ·exact ⟨k+1,by omega,by go_num,HD.out⟩
  simp [intOf];omega
 have H:k=m:=by omega
 subst H
 have ag:decide ((k:Int)<(k:Int))=false:=by simp
 go_wp2_with fail
 go_ret
 exact ⟨rfl,g.out⟩
theorem vF (A0 B0 A1 B1 A2 B2 A3 B3 W B4 A5 B5 V B6:Option Addr) (n0 U m0 d0 n1 c1 m1 d1 n2 c2 m2 d2 n3 c3 m3 d3 Y c4 m4 Z n5 c5 m5 d5 n6 c6 m6 d6:Nat) (x:Lay) (w:World) (h0:RdC w w.heap.size (bD x.net.seqs) (.slice A0 n0 U)) (k0:RdC w w.heap.size (bD x.net.seqs) (.slice B0 m0 d0)) (h1:RdC w w.heap.size (bM x.net.luts) (.slice A1 n1 c1)) (k1:RdC w w.heap.size (bM x.net.luts) (.slice B1 m1 d1)) (h2:RdC w w.heap.size (aH x.net.outs) (.slice A2 n2 c2)) (k2:RdC w w.heap.size (aH x.net.outs) (.slice B2 m2 d2)) (h3:RdC w w.heap.size (aa x.blocks) (.slice A3 n3 c3)) (k3:RdC w w.heap.size (aa x.blocks) (.slice B3 m3 d3)) (h4:RdC w w.heap.size (ah x.conns) (.slice W Y c4)) (k4:RdC w w.heap.size (ah x.conns) (.slice B4 m4 Z)) (h5:RdC w w.heap.size (aH x.place) (.slice A5 n5 c5)) (k5:RdC w w.heap.size (aH x.place) (.slice B5 m5 d5)) (h6:RdC w w.heap.size (bH x.routes) (.slice V n6 c6)) (k6:RdC w w.heap.size (bH x.routes) (.slice B6 m6 d6)) (hz:af x.cells<=1099511627776) :
  Calls Tryz.prog 12 #[.agg #[.int .i64 x.net.inputs,.slice A0 n0 U,.slice A1 n1 c1,.slice A2 n2 c2,.slice A3 n3 c3,.slice W Y c4,.slice A5 n5 c5,.slice V n6 c6],.agg #[.int .i64 x.net.inputs,.slice B0 m0 d0,.slice B1 m1 d1,.slice B2 m2 d2,.slice B3 m3 d3,.slice B4 m4 Z,.slice B5 m5 d5,.slice B6 m6 d6]] w fun e w'=>e = .returned (.bool true)/\Below w.heap.size w w':=by
 have q:=Hd (aB (aB (Below.refl w.heap.size w) (.cells #[.int .i64 x.net.inputs,.slice A0 n0 U,.slice A1 n1 c1,.slice A2 n2 c2,.slice A3 n3 c3,.slice W Y c4,.slice A5 n5 c5,.slice V n6 c6] 46)) (.cells #[.int .i64 x.net.inputs,.slice B0 m0 d0,.slice B1 m1 d1,.slice B2 m2 d2,.slice B3 m3 d3,.slice B4 m4 Z,.slice B5 m5 d5,.slice B6 m6 d6] 46))
 have g:=aI (w.alloc (.cells #[.int .i64 x.net.inputs,.slice A0 n0 U,.slice A1 n1 c1,.slice A2 n2 c2,.slice A3 n3 c3,.slice W Y c4,.slice A5 n5 c5,.slice V n6 c6] 46)) (.cells #[.int .i64 x.net.inputs,.slice B0 m0 d0,.slice B1 m1 d1,.slice B2 m2 d2,.slice B3 m3 d3,.slice B4 m4 Z,.slice B5 m5 d5,.slice B6 m6 d6] 46)
 have j:=aW (.cells #[.int .i64 x.net.inputs,.slice B0 m0 d0,.slice B1 m1 d1,.slice B2 m2 d2,.slice B3 m3 d3,.slice B4 m4 Z,.slice B5 m5 d5,.slice B6 m6 d6] 46) (aI w (.cells #[.int .i64 x.net.inputs,.slice A0 n0 U,.slice A1 n1 c1,.slice A2 n2 c2,.slice A3 n3 c3,.slice W Y c4,.slice A5 n5 c5,.slice V n6 c6] 46))
 simp only [World.size_alloc] at g
 obtain ⟨z,u⟩:=hd2 j g
 clear j g
 obtain ⟨R0,K0,R1,K1,R2,K2,R3,K3⟩:=hd8 h0 k0 h1 k1 h2 k2 h3 k3
 obtain ⟨R4,K4,R5,K5,R6,K6⟩:=hd6 h4 k4 h5 k5 h6 k6
 have q0:(x.net.inputs != x.net.inputs)=false:=by simp
 have I:=hz
 unfold Lay.cells at I
 simp only [iD,au,bP] at I
 have Z0:Hid (af x.net.cells<=1099511627776):=by show _<=_;omega
 have Z1:Hid (szC (aa x.blocks)<=1099511627776):=by show _<=_;omega
 have Z2:Hid (szC (ah x.conns)<=1099511627776):=by show _<=_;omega
 have Z3:Hid (szC (aH x.place)<=1099511627776):=by show _<=_;omega
 have Z4:Hid (szC (bH x.routes)<=1099511627776):=by show _<=_;omega
 clear hz I h0 k0 h1 k1 h2 k2 h3 k3 h4 k4 h5 k5 h6 k6
 go_enter Tryz.func12,Tryz.ntmps12
 go_wp2_with fail
 refine (vC A0 B0 A1 B1 A2 B2 n0 U m0 d0 n1 c1 m1 d1 n2 c2 m2 d2 x.net _ (R0.out.below q.out) (K0.out.below q.out) (R1.out.below q.out) (K1.out.below q.out) (R2.out.below q.out) (K2.out.below q.out) Z0.out).mono ?_
 rintro _ w1 ⟨rfl,b1⟩
 have G:=Hd (aA q.out b1)
 have C1:=Hd b1
 clear b1
 have j:=aD C1.out z.out
 have g:=aD C1.out u.out
 have x4:=aF (k:=4) j rfl
 have y4:=aF (k:=4) g rfl
 have x5:=aF (k:=5) j rfl
 have y5:=aF (k:=5) g rfl
 have x6:=aF (k:=6) j rfl
 have y6:=aF (k:=6) g rfl
 have D:=aF (k:=7) j rfl
 have B:=aF (k:=7) g rfl
 have R:=aC j
 have Q:=aC g
 clear j g
 go_wp2_with fail
 refine (vD A3 B3 n3 c3 m3 d3 x.blocks _ (R3.out.below G.out) (K3.out.below G.out) Z1.out).mono ?_
 rintro _ w2 ⟨rfl,b2⟩
 have J:=Hd (aA G.out b2)
 have C2:=Hd (aA C1.out b2)
 clear b2 x4 y4 x5 y5 x6 y6 D B R Q
 have j:=aD C2.out z.out
 have g:=aD C2.out u.out
 have x5:=aF (k:=5) j rfl
 have y5:=aF (k:=5) g rfl
 have x6:=aF (k:=6) j rfl
 have y6:=aF (k:=6) g rfl
 have D:=aF (k:=7) j rfl
 have B:=aF (k:=7) g rfl
 have R:=aC j
 have Q:=aC g
 clear j g
 go_wp2_with fail
 refine (wB W B4 Y c4 m4 Z x.conns _ (R4.out.below J.out) (K4.out.below J.out) Z2.out).mono ?_
 rintro _ w3 ⟨rfl,b3⟩
 have K:=Hd (aA J.out b3)
 have C3:=Hd (aA C2.out b3)
 clear b3 x5 y5 x6 y6 D B R Q
 have j:=aD C3.out z.out
 have g:=aD C3.out u.out
 have x6:=aF (k:=6) j rfl
 have y6:=aF (k:=6) g rfl
 have D:=aF (k:=7) j rfl
 have B:=aF (k:=7) g rfl
 have R:=aC j
 have Q:=aC g
 clear j g
 go_wp2_with fail
 refine (pG A5 B5 n5 c5 m5 d5 x.place _ (R5.out.below K.out) (K5.out.below K.out) Z3.out).mono ?_
 rintro _ w4 ⟨rfl,b4⟩
 have H:=Hd (aA K.out b4)
 have C4:=Hd (aA C3.out b4)
 clear b4 x6 y6 D B R Q
 have j:=aD C4.out z.out
 have g:=aD C4.out u.out
 have D:=aF (k:=7) j rfl
 have B:=aF (k:=7) g rfl
 have R:=aC j
 have Q:=aC g
 clear j g
 go_wp2_with fail
 refine (vE V B6 n6 c6 m6 d6 x.routes _ (R6.out.below H.out) (K6.out.below H.out) Z4.out).mono ?_
 rintro _ w5 ⟨rfl,b5⟩
 have a3:=Hd (aA H.out b5)
 have C5:=Hd (aA C4.out b5)
 clear b5 D B R Q
 go_wp2_with fail
 go_ret
 exact ⟨rfl,a3.out⟩
end Go.Proofs.YtofihjoanjkdmaaGreat
