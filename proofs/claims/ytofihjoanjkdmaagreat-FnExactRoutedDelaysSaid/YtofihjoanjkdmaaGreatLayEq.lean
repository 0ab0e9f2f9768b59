/- append of several integers to a row of the call's own. -/
import Derived.Test.YtofihjoanjkdmaaGreatLayArg
import Derived.Test.YtofihjoanjkdmaaGreatQb
namespace Go.Proofs.YtofihjoanjkdmaaGreat
set_option maxHeartbeats 2000000
set_option maxRecDepth 100000
open Go.RowKit
/-! ### what the call owns, element by element -/
theorem pF (A B:Option Addr) (n c m d:Nat) (xs:List Int) (w:World) (hA:RdC w w.heap.size (aG xs) (.slice A n c)) (g:RdC w w.heap.size (aG xs) (.slice B m d)) (j:szC (aG xs)<=1099511627776) :
  Calls Tryz.prog 53 #[.slice A n c,.slice B m d] w fun e w'=>e = .returned (.bool true)/\Below w.heap.size w w' :=
 uG A B n m c d xs w hA.ints g.ints (by rw [nO] at j;have:=hA.ints.1;omega)
theorem zT (G D:Option Addr) (H B I z:Nat) (x:Lt) (w:World) (h0:RdC w w.heap.size (aG x.ins) (.slice G H B)) (k0:RdC w w.heap.size (aG x.ins) (.slice D I z)) (V:af x.cells<=1099511627776) :
  Calls Tryz.prog 196 #[.agg #[.slice G H B,.int .i64 x.mask],.agg #[.slice D I z,.int .i64 x.mask]] w fun e w'=>e = .returned (.bool true)/\Below w.heap.size w w':=by
 have j:=Hd (aD (aD (Below.refl w.heap.size w) (.cells #[.slice G H B,.int .i64 x.mask] 96)) (.cells #[.slice D I z,.int .i64 x.mask] 96))
 have q:=aI (w.alloc (.cells #[.slice G H B,.int .i64 x.mask] 96)) (.cells #[.slice D I z,.int .i64 x.mask] 96)
 have u:=bS (.cells #[.slice D I z,.int .i64 x.mask] 96) (aI w (.cells #[.slice G H B,.int .i64 x.mask] 96))
 simp only [World.size_alloc] at q
 obtain ⟨Q,K⟩:=hd2 u q
 clear u q
 obtain ⟨Z,Y⟩:=hd2 h0 k0
 have q1:(x.mask != x.mask)=false:=by simp
 have g:=V
 unfold Lt.cells at g
 simp only [au,bM,fJ] at g
 have W:Hid (szC (aG x.ins)<=1099511627776):=by show _<=_;omega
 clear V g h0 k0
 go_enter Tryz.func196,Tryz.ntmps196
 go_wp2_with fail
 refine (pF G D H B I z x.ins _ (Z.out.below j.out) (Y.out.below j.out) W.out).mono ?_
 rintro _ w1 ⟨rfl,J⟩
 have R:=Hd (aA j.out J)
 have U:=Hd J
 clear J
 have u:=aC U.out Q.out
 have q:=aC U.out K.out
 have x1:=aF (k:=1) u rfl
 have y1:=aF (k:=1) q rfl
 have lx:=aB u
 have ly:=aB q
 clear u q
 go_wp2_with fail
 go_ret
 exact ⟨rfl,R.out⟩
theorem xw (A B:Option Addr) (n c m d:Nat) (xs:List Lt) (w:World) (hA:RdC w w.heap.size (bK xs) (.slice A n c)) (H:RdC w w.heap.size (bK xs) (.slice B m d)) (I:szC (bK xs)<=1099511627776) :
  Calls Tryz.prog 100 #[.slice A n c,.slice B m d] w fun e w'=>e = .returned (.bool true)/\Below w.heap.size w w':=by
 have hx:=hA.lutN'
 have hy:=H.lutN'
 obtain rfl:m=n:=by omega
 unfold bK at I
 rw [bv Lt.cells_length (by omega)] at I
 have hn:m<=1099511627776:=by omega
 have HZ:Hid (af (xs.flatMap Lt.cells)<=1099511627776):=by show _<=_;omega
 obtain ⟨HA,HB,J⟩:=hd3 hA H hx
 clear hx hy hA H I
 go_enter Tryz.func100,Tryz.ntmps100
 go_wp2_with fail
 go_loopw [5] (fun i wr=>∃k:Nat,k<=m/\i = .int .i64 k/\Below w.heap.size w wr) (fun i _=>m - (intOf i).toNat)
 ·exact ⟨0,Nat.zero_le _,rfl,Below.refl _ _⟩
 obtain ⟨k,hk,rfl,z⟩:=hrel
 have g:=Hd z
 clear z
 by_cases j:k<m
 ·have K:=dT (by omega:k<m)
  obtain ⟨b,o,S0,l0,p0,rfl,hb,c0,c1,r0⟩:=(HA.out.below g.out).lut' (k:=k) (by rw [J.out];exact j)
  obtain ⟨b',o',U,W,Y,rfl,aj,d0,d1,D⟩:=(HB.out.below g.out).lut' (k:=k) (by rw [J.out];exact j)
  have V:Hid (af (xs[k]?.getD Lt.zero).cells<=1099511627776):=Nat.le_trans (iw (cells:=Lt.cells) (by rw [J.out];exact j)) HZ.out
  generalize xs[k]?.getD Lt.zero=x at *
  obtain ⟨J0,R⟩:=hd2 r0 D
  clear r0 D
  obtain ⟨i0,i1⟩:=ib (by omega:k<m)
  go_wp2_with fail
  have u:=Hd (fun (v:Sub wr)=>zT S0 U l0 p0 W Y x v.v (J0.out.below v.h) (R.out.below v.h) V.out)
  have q:=aX wr
  have G:=aP wr
  refine wpB wr ?_
  repeat (go_big_quiet_step ((first
   | (go_at_call 196;with_reducible exact aN (u.out _)))))
  refine wpQuiet_nil ?_
  rintro _ ⟨⟨w5,Z⟩,rfl⟩
  clear q G u
  have HD:=Hd (aA g.out Z)
  clear Z
  go_wp2_with fail
  go_roundw
  ·exact ⟨k+1,by omega,by go_num,HD.out⟩
  simp [intOf];omega
 have Q:k=m:=by omega
 subst Q
 have K:decide ((k:Int)<(k:Int))=false:=by simp
 go_wp2_with fail
 go_ret
 exact ⟨rfl,g.out⟩
theorem zU (B z:Option Addr) (D u G q:Nat) (x:Sq) (w:World) (h0:RdC w w.heap.size (aG x.ins) (.slice B D u)) (k0:RdC w w.heap.size (aG x.ins) (.slice z G q)) (Q:af x.cells<=1099511627776) :
  Calls Tryz.prog 195 #[.agg #[.int .i64 x.kind,.int .i64 x.init,.slice B D u],.agg #[.int .i64 x.kind,.int .i64 x.init,.slice z G q]] w fun e w'=>e = .returned (.bool true)/\Below w.heap.size w w':=by
 have j:=Hd (aD (aD (Below.refl w.heap.size w) (.cells #[.int .i64 x.kind,.int .i64 x.init,.slice B D u] 91)) (.cells #[.int .i64 x.kind,.int .i64 x.init,.slice z G q] 91))
 have J:=aI (w.alloc (.cells #[.int .i64 x.kind,.int .i64 x.init,.slice B D u] 91)) (.cells #[.int .i64 x.kind,.int .i64 x.init,.slice z G q] 91)
 have K:=bS (.cells #[.int .i64 x.kind,.int .i64 x.init,.slice z G q] 91) (aI w (.cells #[.int .i64 x.kind,.int .i64 x.init,.slice B D u] 91))
 simp only [World.size_alloc] at J
 obtain ⟨V,R⟩:=hd2 K J
 clear K J
 obtain ⟨Y,W⟩:=hd2 h0 k0
 have q0:(x.kind != x.kind)=false:=by simp
 have q1:(x.init != x.init)=false:=by simp
 have g:=Q
 unfold Sq.cells at g
 simp only [au,bM,fJ] at g
 have U:Hid (szC (aG x.ins)<=1099511627776):=by show _<=_;omega
 clear Q g h0 k0
 go_enter Tryz.func195,Tryz.ntmps195
 go_wp2_with fail
 refine (pF B z D u G q x.ins _ (Y.out.below j.out) (W.out.below j.out) U.out).mono ?_
 rintro _ w1 ⟨rfl,H⟩
 have I:=Hd (aA j.out H)
 have Z:=Hd H
 clear H
 go_wp2_with fail
 go_ret
 exact ⟨rfl,I.out⟩
theorem xx (A B:Option Addr) (n c m d:Nat) (xs:List Sq) (w:World) (hA:RdC w w.heap.size (bD xs) (.slice A n c)) (H:RdC w w.heap.size (bD xs) (.slice B m d)) (I:szC (bD xs)<=1099511627776) :
  Calls Tryz.prog 99 #[.slice A n c,.slice B m d] w fun e w'=>e = .returned (.bool true)/\Below w.heap.size w w':=by
 have hx:=hA.sqN'
 have hy:=H.sqN'
 obtain rfl:m=n:=by omega
 unfold bD at I
 rw [bv Sq.cells_length (by omega)] at I
 have hn:m<=1099511627776:=by omega
 have HZ:Hid (af (xs.flatMap Sq.cells)<=1099511627776):=by show _<=_;omega
 obtain ⟨HA,HB,J⟩:=hd3 hA H hx
 clear hx hy hA H I
 go_enter Tryz.func99,Tryz.ntmps99
 go_wp2_with fail
 go_loopw [5] (fun i wr=>∃k:Nat,k<=m/\i = .int .i64 k/\Below w.heap.size w wr) (fun i _=>m - (intOf i).toNat)
 ·exact ⟨0,Nat.zero_le _,rfl,Below.refl _ _⟩
 obtain ⟨k,hk,rfl,z⟩:=hrel
 have g:=Hd z
 clear z
 by_cases j:k<m
 ·have K:=dT (by omega:k<m)
  obtain ⟨b,o,S0,l0,p0,rfl,hb,c0,c1,c2,r0⟩:=(HA.out.below g.out).sq' (k:=k) (by rw [J.out];exact j)
  obtain ⟨b',o',U,W,Y,rfl,aj,d0,d1,d2,D⟩:=(HB.out.below g.out).sq' (k:=k) (by rw [J.out];exact j)
  have V:Hid (af (xs[k]?.getD Sq.zero).cells<=1099511627776):=Nat.le_trans (iw (cells:=Sq.cells) (by rw [J.out];exact j)) HZ.out
  generalize xs[k]?.getD Sq.zero=x at *
  obtain ⟨J0,R⟩:=hd2 r0 D
  clear r0 D
  obtain ⟨i0,i1⟩:=ib (by omega:k<m)
  go_wp2_with fail
  have u:=Hd (fun (v:Sub wr)=>zU S0 U l0 p0 W Y x v.v (J0.out.below v.h) (R.out.below v.h) V.out)
  have q:=aX wr
  have G:=aP wr
  refine wpB wr ?_
  repeat (go_big_quiet_step ((first
   | (go_at_call 195;with_reducible exact aN (u.out _)))))
  refine wpQuiet_nil ?_
  rintro _ ⟨⟨w5,Z⟩,rfl⟩
  clear q G u
  have HD:=Hd (aA g.out Z)
  clear Z
  go_wp2_with fail
  go_roundw
  ·exact ⟨k+1,by omega,by go_num,HD.out⟩
  simp [intOf];omega
 have Q:k=m:=by omega
 subst Q
 have K:decide ((k:Int)<(k:Int))=false:=by simp
 go_wp2_with fail
 go_ret
 exact ⟨rfl,g.out⟩
theorem vK (R K A1 G A2 V:Option Addr) (W I Y H n1 c1 U D n2 c2 J Q:Nat) (x:ai) (w:World) (h0:RdC w w.heap.size (bD x.seqs) (.slice R W I)) (k0:RdC w w.heap.size (bD x.seqs) (.slice K Y H)) (h1:RdC w w.heap.size (bK x.luts) (.slice A1 n1 c1)) (k1:RdC w w.heap.size (bK x.luts) (.slice G U D)) (h2:RdC w w.heap.size (aG x.outs) (.slice A2 n2 c2)) (k2:RdC w w.heap.size (aG x.outs) (.slice V J Q)) (hz:af x.cells<=1099511627776) :
  Calls Tryz.prog 28 #[.agg #[.int .i64 x.inputs,.slice R W I,.slice A1 n1 c1,.slice A2 n2 c2],.agg #[.int .i64 x.inputs,.slice K Y H,.slice G U D,.slice V J Q]] w fun e w'=>e = .returned (.bool true)/\Below w.heap.size w w':=by
 have z:=Hd (aD (aD (Below.refl w.heap.size w) (.cells #[.int .i64 x.inputs,.slice R W I,.slice A1 n1 c1,.slice A2 n2 c2] 41)) (.cells #[.int .i64 x.inputs,.slice K Y H,.slice G U D,.slice V J Q] 41))
 have g:=aI (w.alloc (.cells #[.int .i64 x.inputs,.slice R W I,.slice A1 n1 c1,.slice A2 n2 c2] 41)) (.cells #[.int .i64 x.inputs,.slice K Y H,.slice G U D,.slice V J Q] 41)
 have j:=bS (.cells #[.int .i64 x.inputs,.slice K Y H,.slice G U D,.slice V J Q] 41) (aI w (.cells #[.int .i64 x.inputs,.slice R W I,.slice A1 n1 c1,.slice A2 n2 c2] 41))
 simp only [World.size_alloc] at g
 obtain ⟨ad,Z⟩:=hd2 j g
 clear j g
 obtain ⟨R0,K0,R1,K1,R2,K2⟩:=hd6 h0 k0 h1 k1 h2 k2
 have q0:(x.inputs != x.inputs)=false:=by simp
 have q:=hz
 unfold ai.cells at q
 simp only [au,bM,fJ] at q
 have Z0:Hid (szC (bD x.seqs)<=1099511627776):=by show _<=_;omega
 have Z1:Hid (szC (bK x.luts)<=1099511627776):=by show _<=_;omega
 have Z2:Hid (szC (aG x.outs)<=1099511627776):=by show _<=_;omega
 clear hz q h0 k0 h1 k1 h2 k2
 go_enter Tryz.func28,Tryz.ntmps28
 go_wp2_with fail
 refine (xx R K W I Y H x.seqs _ (R0.out.below z.out) (K0.out.below z.out) Z0.out).mono ?_
 rintro _ w1 ⟨rfl,b1⟩
 have u:=Hd (aA z.out b1)
 have C1:=Hd b1
 clear b1
 have j:=aC C1.out ad.out
 have g:=aC C1.out Z.out
 have x2:=aF (k:=2) j rfl
 have y2:=aF (k:=2) g rfl
 have x3:=aF (k:=3) j rfl
 have y3:=aF (k:=3) g rfl
 have lx:=aB j
 have ly:=aB g
 clear j g
 go_wp2_with fail
 refine (xw A1 G n1 c1 U D x.luts _ (R1.out.below u.out) (K1.out.below u.out) Z1.out).mono ?_
 rintro _ w2 ⟨rfl,b2⟩
 have B:=Hd (aA u.out b2)
 have C2:=Hd (aA C1.out b2)
 clear b2 x2 y2 x3 y3 lx ly
 have j:=aC C2.out ad.out
 have g:=aC C2.out Z.out
 have x3:=aF (k:=3) j rfl
 have y3:=aF (k:=3) g rfl
 have lx:=aB j
 have ly:=aB g
 clear j g
 go_wp2_with fail
 refine (pF A2 V n2 c2 J Q x.outs _ (R2.out.below B.out) (K2.out.below B.out) Z2.out).mono ?_
 rintro _ w3 ⟨rfl,b3⟩
 have al:=Hd (aA B.out b3)
 have C3:=Hd (aA C2.out b3)
 clear b3 x3 y3 lx ly
 go_wp2_with fail
 go_ret
 exact ⟨rfl,al.out⟩
theorem Ak (x:LeT) (w:World)  :
  Calls Tryz.prog 261 #[.agg #[.int .i64 x.lut,.int .i64 x.ff],.agg #[.int .i64 x.lut,.int .i64 x.ff]] w fun e w'=>e = .returned (.bool true)/\Below w.heap.size w w':=by
 have j:=Hd (aD (aD (Below.refl w.heap.size w) (.cells #[.int .i64 x.lut,.int .i64 x.ff] 94)) (.cells #[.int .i64 x.lut,.int .i64 x.ff] 94))
 have g:=aI (w.alloc (.cells #[.int .i64 x.lut,.int .i64 x.ff] 94)) (.cells #[.int .i64 x.lut,.int .i64 x.ff] 94)
 have q:=bS (.cells #[.int .i64 x.lut,.int .i64 x.ff] 94) (aI w (.cells #[.int .i64 x.lut,.int .i64 x.ff] 94))
 simp only [World.size_alloc] at g
 obtain ⟨u,z⟩:=hd2 q g
 clear q g
 have B:(x.lut != x.lut)=false:=by simp
 have D:(x.ff != x.ff)=false:=by simp
 go_enter Tryz.func261,Tryz.ntmps261
 go_wp2_with fail
 go_ret
 exact ⟨rfl,j.out⟩
theorem zV (A B:Option Addr) (n c m d:Nat) (xs:List LeT) (w:World) (hA:RdC w w.heap.size (cO xs) (.slice A n c)) (G:RdC w w.heap.size (cO xs) (.slice B m d)) (H:szC (cO xs)<=1099511627776) :
  Calls Tryz.prog 225 #[.slice A n c,.slice B m d] w fun e w'=>e = .returned (.bool true)/\Below w.heap.size w w':=by
 have Q:=hA.esN
 have Z:=G.esN
 obtain rfl:m=n:=by omega
 unfold cO at H
 rw [bv LeT.cells_length (by omega)] at H
 have hn:m<=1099511627776:=by omega
 have HZ:Hid (af (xs.flatMap LeT.cells)<=1099511627776):=by show _<=_;omega
 obtain ⟨Y,W,R⟩:=hd3 hA G Q
 clear Q Z hA G H
 go_enter Tryz.func225,Tryz.ntmps225
 go_wp2_with fail
 go_loopw [5] (fun i wr=>∃k:Nat,k<=m/\i = .int .i64 k/\Below w.heap.size w wr) (fun i _=>m - (intOf i).toNat)
 ·exact ⟨0,Nat.zero_le _,rfl,Below.refl _ _⟩
 obtain ⟨k,hk,rfl,u⟩:=hrel
 have g:=Hd u
 clear u
 by_cases z:k<m
 ·have I:=dT (by omega:k<m)
  obtain ⟨b,o,rfl,hb,c0,c1⟩:=(Y.out.below g.out).es (k:=k) (by rw [R.out];exact z)
  obtain ⟨b',o',rfl,V,d0,d1⟩:=(W.out.below g.out).es (k:=k) (by rw [R.out];exact z)
  skip
  generalize xs[k]?.getD LeT.zero=x at *
  skip
  obtain ⟨i0,i1⟩:=ib (by omega:k<m)
  go_wp2_with fail
  have q:=Hd (fun (v:Sub wr)=>Ak x v.v)
  have j:=aX wr
  have D:=aP wr
  refine wpB wr ?_
  repeat (go_big_quiet_step ((first
   | (go_at_call 261;with_reducible exact aN (q.out _)))))
  refine wpQuiet_nil ?_
  rintro _ ⟨⟨w5,K⟩,rfl⟩
  clear j D q
  have U:=Hd (aA g.out K)
  clear K
  go_wp2_with fail
  go_roundw
  ·exact ⟨k+1,by omega,by go_num,U.out⟩
  simp [intOf];omega
 have J:k=m:=by omega
 subst J
 have I:decide ((k:Int)<(k:Int))=false:=by simp
 go_wp2_with fail
 go_ret
 exact ⟨rfl,g.out⟩
theorem wD (B z:Option Addr) (D u G q:Nat) (x:Blk) (w:World) (h0:RdC w w.heap.size (cO x.les) (.slice B D u)) (k0:RdC w w.heap.size (cO x.les) (.slice z G q)) (Q:af x.cells<=1099511627776) :
  Calls Tryz.prog 134 #[.agg #[.int .i64 x.kind,.int .i64 x.item,.slice B D u],.agg #[.int .i64 x.kind,.int .i64 x.item,.slice z G q]] w fun e w'=>e = .returned (.bool true)/\Below w.heap.size w w':=by
 have j:=Hd (aD (aD (Below.refl w.heap.size w) (.cells #[.int .i64 x.kind,.int .i64 x.item,.slice B D u] 89)) (.cells #[.int .i64 x.kind,.int .i64 x.item,.slice z G q] 89))
 have J:=aI (w.alloc (.cells #[.int .i64 x.kind,.int .i64 x.item,.slice B D u] 89)) (.cells #[.int .i64 x.kind,.int .i64 x.item,.slice z G q] 89)
 have K:=bS (.cells #[.int .i64 x.kind,.int .i64 x.item,.slice z G q] 89) (aI w (.cells #[.int .i64 x.kind,.int .i64 x.item,.slice B D u] 89))
 simp only [World.size_alloc] at J
 obtain ⟨V,R⟩:=hd2 K J
 clear K J
 obtain ⟨Y,W⟩:=hd2 h0 k0
 have q0:(x.kind != x.kind)=false:=by simp
 have q1:(x.item != x.item)=false:=by simp
 have g:=Q
 unfold Blk.cells at g
 simp only [au,bM,fJ] at g
 have U:Hid (szC (cO x.les)<=1099511627776):=by show _<=_;omega
 clear Q g h0 k0
 go_enter Tryz.func134,Tryz.ntmps134
 go_wp2_with fail
 refine (zV B z D u G q x.les _ (Y.out.below j.out) (W.out.below j.out) U.out).mono ?_
 rintro _ w1 ⟨rfl,H⟩
 have I:=Hd (aA j.out H)
 have Z:=Hd H
 clear H
 go_wp2_with fail
 go_ret
 exact ⟨rfl,I.out⟩
theorem vM (A B:Option Addr) (n c m d:Nat) (xs:List Blk) (w:World) (hA:RdC w w.heap.size (aa xs) (.slice A n c)) (H:RdC w w.heap.size (aa xs) (.slice B m d)) (I:szC (aa xs)<=1099511627776) :
  Calls Tryz.prog 51 #[.slice A n c,.slice B m d] w fun e w'=>e = .returned (.bool true)/\Below w.heap.size w w':=by
 have hx:=hA.blkN
 have hy:=H.blkN
 obtain rfl:m=n:=by omega
 unfold aa at I
 rw [bv Blk.cells_length (by omega)] at I
 have hn:m<=1099511627776:=by omega
 have HZ:Hid (af (xs.flatMap Blk.cells)<=1099511627776):=by show _<=_;omega
 obtain ⟨HA,HB,J⟩:=hd3 hA H hx
 clear hx hy hA H I
 go_enter Tryz.func51,Tryz.ntmps51
 go_wp2_with fail
 go_loopw [5] (fun i wr=>∃k:Nat,k<=m/\i = .int .i64 k/\Below w.heap.size w wr) (fun i _=>m - (intOf i).toNat)
 ·exact ⟨0,Nat.zero_le _,rfl,Below.refl _ _⟩
 obtain ⟨k,hk,rfl,z⟩:=hrel
 have g:=Hd z
 clear z
 by_cases j:k<m
 ·have K:=dT (by omega:k<m)
  obtain ⟨b,o,S0,l0,p0,rfl,hb,c0,c1,c2,r0⟩:=(HA.out.below g.out).blk (k:=k) (by rw [J.out];exact j)
  obtain ⟨b',o',U,W,Y,rfl,aj,d0,d1,d2,D⟩:=(HB.out.below g.out).blk (k:=k) (by rw [J.out];exact j)
  have V:Hid (af (xs[k]?.getD Blk.zero).cells<=1099511627776):=Nat.le_trans (iw (cells:=Blk.cells) (by rw [J.out];exact j)) HZ.out
  generalize xs[k]?.getD Blk.zero=x at *
  obtain ⟨J0,R⟩:=hd2 r0 D
  clear r0 D
  obtain ⟨i0,i1⟩:=ib (by omega:k<m)
  go_wp2_with fail
  have u:=Hd (fun (v:Sub wr)=>wD S0 U l0 p0 W Y x v.v (J0.out.below v.h) (R.out.below v.h) V.out)
  have q:=aX wr
  have G:=aP wr
  refine wpB wr ?_
  repeat (go_big_quiet_step ((first
   | (go_at_call 134;with_reducible exact aN (u.out _)))))
  refine wpQuiet_nil ?_
  rintro _ ⟨⟨w5,Z⟩,rfl⟩
  clear q G u
  have HD:=Hd (aA g.out Z)
  clear Z
  go_wp2_with fail
  go_roundw
  ·exact ⟨k+1,by omega,by go_num,HD.out⟩
  simp [intOf];omega
 have Q:k=m:=by omega
 subst Q
 have K:decide ((k:Int)<(k:Int))=false:=by simp
 go_wp2_with fail
 go_ret
 exact ⟨rfl,g.out⟩
theorem uE (x:ah) (w:World)  :
  Calls Tryz.prog 226 #[.agg #[.int .i64 x.block,.int .i64 x.pin],.agg #[.int .i64 x.block,.int .i64 x.pin]] w fun e w'=>e = .returned (.bool true)/\Below w.heap.size w w':=by
 have j:=Hd (aD (aD (Below.refl w.heap.size w) (.cells #[.int .i64 x.block,.int .i64 x.pin] 100)) (.cells #[.int .i64 x.block,.int .i64 x.pin] 100))
 have g:=aI (w.alloc (.cells #[.int .i64 x.block,.int .i64 x.pin] 100)) (.cells #[.int .i64 x.block,.int .i64 x.pin] 100)
 have q:=bS (.cells #[.int .i64 x.block,.int .i64 x.pin] 100) (aI w (.cells #[.int .i64 x.block,.int .i64 x.pin] 100))
 simp only [World.size_alloc] at g
 obtain ⟨u,z⟩:=hd2 q g
 clear q g
 have B:(x.block != x.block)=false:=by simp
 have D:(x.pin != x.pin)=false:=by simp
 go_enter Tryz.func226,Tryz.ntmps226
 go_wp2_with fail
 go_ret
 exact ⟨rfl,j.out⟩
theorem xy (A B:Option Addr) (n c m d:Nat) (xs:List ah) (w:World) (hA:RdC w w.heap.size (bL xs) (.slice A n c)) (G:RdC w w.heap.size (bL xs) (.slice B m d)) (H:szC (bL xs)<=1099511627776) :
  Calls Tryz.prog 227 #[.slice A n c,.slice B m d] w fun e w'=>e = .returned (.bool true)/\Below w.heap.size w w':=by
 have Q:=hA.pinN
 have Z:=G.pinN
 obtain rfl:m=n:=by omega
 unfold bL at H
 rw [bv ah.cells_length (by omega)] at H
 have hn:m<=1099511627776:=by omega
 have HZ:Hid (af (xs.flatMap ah.cells)<=1099511627776):=by show _<=_;omega
 obtain ⟨Y,W,R⟩:=hd3 hA G Q
 clear Q Z hA G H
 go_enter Tryz.func227,Tryz.ntmps227
 go_wp2_with fail
 go_loopw [5] (fun i wr=>∃k:Nat,k<=m/\i = .int .i64 k/\Below w.heap.size w wr) (fun i _=>m - (intOf i).toNat)
 ·exact ⟨0,Nat.zero_le _,rfl,Below.refl _ _⟩
 obtain ⟨k,hk,rfl,u⟩:=hrel
 have g:=Hd u
 clear u
 by_cases z:k<m
 ·have I:=dT (by omega:k<m)
  obtain ⟨b,o,rfl,hb,c0,c1⟩:=(Y.out.below g.out).pin (k:=k) (by rw [R.out];exact z)
  obtain ⟨b',o',rfl,V,d0,d1⟩:=(W.out.below g.out).pin (k:=k) (by rw [R.out];exact z)
  skip
  generalize xs[k]?.getD ah.zero=x at *
  skip
  obtain ⟨i0,i1⟩:=ib (by omega:k<m)
  go_wp2_with fail
  have q:=Hd (fun (v:Sub wr)=>uE x v.v)
  have j:=aX wr
  have D:=aP wr
  refine wpB wr ?_
  repeat (go_big_quiet_step ((first
   | (go_at_call 226;with_reducible exact aN (q.out _)))))
  refine wpQuiet_nil ?_
  rintro _ ⟨⟨w5,K⟩,rfl⟩
  clear j D q
  have U:=Hd (aA g.out K)
  clear K
  go_wp2_with fail
  go_roundw
  ·exact ⟨k+1,by omega,by go_num,U.out⟩
  simp [intOf];omega
 have J:k=m:=by omega
 subst J
 have I:decide ((k:Int)<(k:Int))=false:=by simp
 go_wp2_with fail
 go_ret
 exact ⟨rfl,g.out⟩
theorem xz (G D:Option Addr) (H B I z:Nat) (x:Cn) (w:World) (h0:RdC w w.heap.size (bL x.sinks) (.slice G H B)) (k0:RdC w w.heap.size (bL x.sinks) (.slice D I z)) (Y:af x.cells<=1099511627776) :
  Calls Tryz.prog 135 #[.agg #[.int .i64 x.node,.int .i64 x.src.block,.int .i64 x.src.pin,.slice G H B],.agg #[.int .i64 x.node,.int .i64 x.src.block,.int .i64 x.src.pin,.slice D I z]] w fun e w'=>e = .returned (.bool true)/\Below w.heap.size w w':=by
 have U:=Hd (aD (aD (Below.refl w.heap.size w) (.cells #[.int .i64 x.node,.int .i64 x.src.block,.int .i64 x.src.pin,.slice G H B] 158)) (.cells #[.int .i64 x.node,.int .i64 x.src.block,.int .i64 x.src.pin,.slice D I z] 158))
 have q:=aI (w.alloc (.cells #[.int .i64 x.node,.int .i64 x.src.block,.int .i64 x.src.pin,.slice G H B] 158)) (.cells #[.int .i64 x.node,.int .i64 x.src.block,.int .i64 x.src.pin,.slice D I z] 158)
 have u:=bS (.cells #[.int .i64 x.node,.int .i64 x.src.block,.int .i64 x.src.pin,.slice D I z] 158) (aI w (.cells #[.int .i64 x.node,.int .i64 x.src.block,.int .i64 x.src.pin,.slice G H B] 158))
 simp only [World.size_alloc] at q
 obtain ⟨R,Q⟩:=hd2 u q
 clear u q
 obtain ⟨R0,K0⟩:=hd2 h0 k0
 have q0:(x.node != x.node)=false:=by simp
 have q1:(x.src.block != x.src.block)=false:=by simp
 have q2:(x.src.pin != x.src.pin)=false:=by simp
 have g:=Y
 unfold Cn.cells at g
 simp only [au,bM,fJ] at g
 have Z1:Hid (szC (bL x.sinks)<=1099511627776):=by show _<=_;omega
 clear Y g h0 k0
 go_enter Tryz.func135,Tryz.ntmps135
 go_wp2_with fail
 refine (uE   x.src _  ).mono ?_
 rintro _ w1 ⟨rfl,K⟩
 have j:=Hd (aA U.out K)
 have J:=Hd K
 clear K
 have u:=aC J.out R.out
 have q:=aC J.out Q.out
 have x3:=aF (k:=3) u rfl
 have Z:=aF (k:=3) q rfl
 have lx:=aB u
 have ly:=aB q
 clear u q
 go_wp2_with fail
 refine (xy G D H B I z x.sinks _ (R0.out.below j.out) (K0.out.below j.out) Z1.out).mono ?_
 rintro _ w2 ⟨rfl,W⟩
 have V:=Hd (aA j.out W)
 have C2:=Hd (aA J.out W)
 clear W x3 Z lx ly
 go_wp2_with fail
 go_ret
 exact ⟨rfl,V.out⟩
theorem wE (A B:Option Addr) (n c m d:Nat) (xs:List Cn) (w:World) (hA:RdC w w.heap.size (ag xs) (.slice A n c)) (H:RdC w w.heap.size (ag xs) (.slice B m d)) (I:szC (ag xs)<=1099511627776) :
  Calls Tryz.prog 52 #[.slice A n c,.slice B m d] w fun e w'=>e = .returned (.bool true)/\Below w.heap.size w w':=by
 have hx:=hA.cnN
 have hy:=H.cnN
 obtain rfl:m=n:=by omega
 unfold ag at I
 rw [bv Cn.cells_length (by omega)] at I
 have hn:m<=1099511627776:=by omega
 have HZ:Hid (af (xs.flatMap Cn.cells)<=1099511627776):=by show _<=_;omega
 obtain ⟨HA,HB,J⟩:=hd3 hA H hx
 clear hx hy hA H I
 go_enter Tryz.func52,Tryz.ntmps52
 go_wp2_with fail
 go_loopw [5] (fun i wr=>∃k:Nat,k<=m/\i = .int .i64 k/\Below w.heap.size w wr) (fun i _=>m - (intOf i).toNat)
 ·exact ⟨0,Nat.zero_le _,rfl,Below.refl _ _⟩
 obtain ⟨k,hk,rfl,z⟩:=hrel
 have g:=Hd z
 clear z
 by_cases j:k<m
 ·have K:=dT (by omega:k<m)
  obtain ⟨b,o,S0,l0,p0,rfl,hb,c0,c1,c2,c3,r0⟩:=(HA.out.below g.out).cn (k:=k) (by rw [J.out];exact j)
  obtain ⟨b',o',U,W,Y,rfl,ak,d0,d1,d2,d3,D⟩:=(HB.out.below g.out).cn (k:=k) (by rw [J.out];exact j)
  have V:Hid (af (xs[k]?.getD Cn.zero).cells<=1099511627776):=Nat.le_trans (iw (cells:=Cn.cells) (by rw [J.out];exact j)) HZ.out
  generalize xs[k]?.getD Cn.zero=x at *
  obtain ⟨J0,R⟩:=hd2 r0 D
  clear r0 D
  obtain ⟨i0,i1⟩:=ib (by omega:k<m)
  go_wp2_with fail
  have u:=Hd (fun (v:Sub wr)=>xz S0 U l0 p0 W Y x v.v (J0.out.below v.h) (R.out.below v.h) V.out)
  have q:=aX wr
  have G:=aP wr
  refine wpB wr ?_
  repeat (go_big_quiet_step ((first
   | (go_at_call 135;with_reducible exact aN (u.out _)))))
  refine wpQuiet_nil ?_
  rintro _ ⟨⟨w5,Z⟩,rfl⟩
  clear q G u
  have HD:=Hd (aA g.out Z)
  clear Z
  go_wp2_with fail
  go_roundw
  ·exact ⟨k+1,by omega,by go_num,HD.out⟩
  simp [intOf];omega
 have Q:k=m:=by omega
 subst Q
 have K:decide ((k:Int)<(k:Int))=false:=by simp
 go_wp2_with fail
 go_ret
 exact ⟨rfl,g.out⟩
theorem wF (J I A1 D:Option Addr) (Q H R G n1 c1 K B:Nat) (x:Rou) (w:World) (h0:RdC w w.heap.size (aG x.nodes) (.slice J Q H)) (k0:RdC w w.heap.size (aG x.nodes) (.slice I R G)) (h1:RdC w w.heap.size (aG x.from_) (.slice A1 n1 c1)) (k1:RdC w w.heap.size (aG x.from_) (.slice D K B)) (hz:af x.cells<=1099511627776) :
  Calls Tryz.prog 136 #[.agg #[.slice J Q H,.slice A1 n1 c1],.agg #[.slice I R G,.slice D K B]] w fun e w'=>e = .returned (.bool true)/\Below w.heap.size w w':=by
 have q:=Hd (aD (aD (Below.refl w.heap.size w) (.cells #[.slice J Q H,.slice A1 n1 c1] 114)) (.cells #[.slice I R G,.slice D K B] 114))
 have u:=aI (w.alloc (.cells #[.slice J Q H,.slice A1 n1 c1] 114)) (.cells #[.slice I R G,.slice D K B] 114)
 have z:=bS (.cells #[.slice I R G,.slice D K B] 114) (aI w (.cells #[.slice J Q H,.slice A1 n1 c1] 114))
 simp only [World.size_alloc] at u
 obtain ⟨Y,W⟩:=hd2 z u
 clear z u
 obtain ⟨R0,K0,R1,K1⟩:=hd4 h0 k0 h1 k1
 have g:=hz
 unfold Rou.cells at g
 simp only [au,bM] at g
 have Z0:Hid (szC (aG x.nodes)<=1099511627776):=by show _<=_;omega
 have Z1:Hid (szC (aG x.from_)<=1099511627776):=by show _<=_;omega
 clear hz g h0 k0 h1 k1
 go_enter Tryz.func136,Tryz.ntmps136
 go_wp2_with fail
 refine (pF J I Q H R G x.nodes _ (R0.out.below q.out) (K0.out.below q.out) Z0.out).mono ?_
 rintro _ w1 ⟨rfl,V⟩
 have j:=Hd (aA q.out V)
 have U:=Hd V
 clear V
 have z:=aC U.out Y.out
 have u:=aC U.out W.out
 have x1:=aF (k:=1) z rfl
 have y1:=aF (k:=1) u rfl
 have lx:=aB z
 have ly:=aB u
 clear z u
 go_wp2_with fail
 refine (pF A1 D n1 c1 K B x.from_ _ (R1.out.below j.out) (K1.out.below j.out) Z1.out).mono ?_
 rintro _ w2 ⟨rfl,b2⟩
 have Z:=Hd (aA j.out b2)
 have C2:=Hd (aA U.out b2)
 clear b2 x1 y1 lx ly
 go_wp2_with fail
 go_ret
 exact ⟨rfl,Z.out⟩
theorem vN (A B:Option Addr) (n c m d:Nat) (xs:List Rou) (w:World) (hA:RdC w w.heap.size (bE xs) (.slice A n c)) (I:RdC w w.heap.size (bE xs) (.slice B m d)) (K:szC (bE xs)<=1099511627776) :
  Calls Tryz.prog 54 #[.slice A n c,.slice B m d] w fun e w'=>e = .returned (.bool true)/\Below w.heap.size w w':=by
 have hx:=hA.rouN
 have hy:=I.rouN
 obtain rfl:m=n:=by omega
 unfold bE at K
 rw [bv Rou.cells_length (by omega)] at K
 have hn:m<=1099511627776:=by omega
 have HZ:Hid (af (xs.flatMap Rou.cells)<=1099511627776):=by show _<=_;omega
 obtain ⟨HA,HB,Q⟩:=hd3 hA I hx
 clear hx hy hA I K
 go_enter Tryz.func54,Tryz.ntmps54
 go_wp2_with fail
 go_loopw [5] (fun i wr=>∃k:Nat,k<=m/\i = .int .i64 k/\Below w.heap.size w wr) (fun i _=>m - (intOf i).toNat)
 ·exact ⟨0,Nat.zero_le _,rfl,Below.refl _ _⟩
 obtain ⟨k,hk,rfl,z⟩:=hrel
 have g:=Hd z
 clear z
 by_cases j:k<m
 ·have R:=dT (by omega:k<m)
  obtain ⟨b,o,S0,l0,p0,S1,l1,p1,rfl,hb,c0,c1,r0,r1⟩:=(HA.out.below g.out).rou (k:=k) (by rw [Q.out];exact j)
  obtain ⟨b',o',Y,ae,ah,Z,ag,J,rfl,aq,d0,d1,D,G⟩:=(HB.out.below g.out).rou (k:=k) (by rw [Q.out];exact j)
  have ad:Hid (af (xs[k]?.getD Rou.zero).cells<=1099511627776):=Nat.le_trans (iw (cells:=Rou.cells) (by rw [Q.out];exact j)) HZ.out
  generalize xs[k]?.getD Rou.zero=x at *
  obtain ⟨J0,V,J1,W⟩:=hd4 r0 D r1 G
  clear r0 D r1 G
  obtain ⟨i0,i1⟩:=ib (by omega:k<m)
  go_wp2_with fail
  have u:=Hd (fun (v:Sub wr)=>wF S0 Y S1 Z l0 p0 ae ah l1 p1 ag J x v.v (J0.out.below v.h) (V.out.below v.h) (J1.out.below v.h) (W.out.below v.h) ad.out)
  have q:=aX wr
  have H:=aP wr
  refine wpB wr ?_
  repeat (go_big_quiet_step ((first
   | (go_at_call 136;with_reducible exact aN (u.out _)))))
  refine wpQuiet_nil ?_
  rintro _ ⟨⟨w5,hD⟩,rfl⟩
  clear q H u
  have HD:=Hd (aA g.out hD)
  clear hD
  go_wp2_with fail
  go_roundw
  ·exact ⟨k+1,by omega,by go_num,HD.out⟩
  simp [intOf];omega
 have U:k=m:=by omega
 subst U
 have R:decide ((k:Int)<(k:Int))=false:=by simp
 go_wp2_with fail
 go_ret
 exact ⟨rfl,g.out⟩
theorem vO (A0 B0 A1 V A2 B2 A3 B3 A4 B4 A5 B5 W B6:Option Addr) (n0 Y m0 d0 n1 c1 m1 U n2 c2 m2 d2 n3 c3 Z d3 n4 c4 m4 d4 n5 c5 m5 d5 n6 c6 m6 d6:Nat) (x:Lay) (w:World) (h0:RdC w w.heap.size (bD x.net.seqs) (.slice A0 n0 Y)) (k0:RdC w w.heap.size (bD x.net.seqs) (.slice B0 m0 d0)) (h1:RdC w w.heap.size (bK x.net.luts) (.slice A1 n1 c1)) (k1:RdC w w.heap.size (bK x.net.luts) (.slice V m1 U)) (h2:RdC w w.heap.size (aG x.net.outs) (.slice A2 n2 c2)) (k2:RdC w w.heap.size (aG x.net.outs) (.slice B2 m2 d2)) (h3:RdC w w.heap.size (aa x.blocks) (.slice A3 n3 c3)) (k3:RdC w w.heap.size (aa x.blocks) (.slice B3 Z d3)) (h4:RdC w w.heap.size (ag x.conns) (.slice A4 n4 c4)) (k4:RdC w w.heap.size (ag x.conns) (.slice B4 m4 d4)) (h5:RdC w w.heap.size (aG x.place) (.slice A5 n5 c5)) (k5:RdC w w.heap.size (aG x.place) (.slice B5 m5 d5)) (h6:RdC w w.heap.size (bE x.routes) (.slice W n6 c6)) (k6:RdC w w.heap.size (bE x.routes) (.slice B6 m6 d6)) (hz:af x.cells<=1099511627776) :
  Calls Tryz.prog 12 #[.agg #[.int .i64 x.net.inputs,.slice A0 n0 Y,.slice A1 n1 c1,.slice A2 n2 c2,.slice A3 n3 c3,.slice A4 n4 c4,.slice A5 n5 c5,.slice W n6 c6],.agg #[.int .i64 x.net.inputs,.slice B0 m0 d0,.slice V m1 U,.slice B2 m2 d2,.slice B3 Z d3,.slice B4 m4 d4,.slice B5 m5 d5,.slice B6 m6 d6]] w fun e w'=>e = .returned (.bool true)/\Below w.heap.size w w':=by
 have q:=Hd (aD (aD (Below.refl w.heap.size w) (.cells #[.int .i64 x.net.inputs,.slice A0 n0 Y,.slice A1 n1 c1,.slice A2 n2 c2,.slice A3 n3 c3,.slice A4 n4 c4,.slice A5 n5 c5,.slice W n6 c6] 46)) (.cells #[.int .i64 x.net.inputs,.slice B0 m0 d0,.slice V m1 U,.slice B2 m2 d2,.slice B3 Z d3,.slice B4 m4 d4,.slice B5 m5 d5,.slice B6 m6 d6] 46))
 have g:=aI (w.alloc (.cells #[.int .i64 x.net.inputs,.slice A0 n0 Y,.slice A1 n1 c1,.slice A2 n2 c2,.slice A3 n3 c3,.slice A4 n4 c4,.slice A5 n5 c5,.slice W n6 c6] 46)) (.cells #[.int .i64 x.net.inputs,.slice B0 m0 d0,.slice V m1 U,.slice B2 m2 d2,.slice B3 Z d3,.slice B4 m4 d4,.slice B5 m5 d5,.slice B6 m6 d6] 46)
 have j:=bS (.cells #[.int .i64 x.net.inputs,.slice B0 m0 d0,.slice V m1 U,.slice B2 m2 d2,.slice B3 Z d3,.slice B4 m4 d4,.slice B5 m5 d5,.slice B6 m6 d6] 46) (aI w (.cells #[.int .i64 x.net.inputs,.slice A0 n0 Y,.slice A1 n1 c1,.slice A2 n2 c2,.slice A3 n3 c3,.slice A4 n4 c4,.slice A5 n5 c5,.slice W n6 c6] 46))
 simp only [World.size_alloc] at g
 obtain ⟨u,z⟩:=hd2 j g
 clear j g
 obtain ⟨R0,K0,R1,K1,R2,K2,R3,K3⟩:=hd8 h0 k0 h1 k1 h2 k2 h3 k3
 obtain ⟨R4,K4,R5,K5,R6,K6⟩:=hd6 h4 k4 h5 k5 h6 k6
 have q0:(x.net.inputs != x.net.inputs)=false:=by simp
 have B:=hz
 unfold Lay.cells at B
 simp only [iA,au,bM] at B
 have Z0:Hid (af x.net.cells<=1099511627776):=by show _<=_;omega
 have Z1:Hid (szC (aa x.blocks)<=1099511627776):=by show _<=_;omega
 have Z2:Hid (szC (ag x.conns)<=1099511627776):=by show _<=_;omega
 have Z3:Hid (szC (aG x.place)<=1099511627776):=by show _<=_;omega
 have Z4:Hid (szC (bE x.routes)<=1099511627776):=by show _<=_;omega
 clear hz B h0 k0 h1 k1 h2 k2 h3 k3 h4 k4 h5 k5 h6 k6
 go_enter Tryz.func12,Tryz.ntmps12
 go_wp2_with fail
 refine (vK A0 B0 A1 V A2 B2 n0 Y m0 d0 n1 c1 m1 U n2 c2 m2 d2 x.net _ (R0.out.below q.out) (K0.out.below q.out) (R1.out.below q.out) (K1.out.below q.out) (R2.out.below q.out) (K2.out.below q.out) Z0.out).mono ?_
 rintro _ w1 ⟨rfl,b1⟩
 have D:=Hd (aA q.out b1)
 have C1:=Hd b1
 clear b1
 have j:=aC C1.out u.out
 have g:=aC C1.out z.out
 have x4:=aF (k:=4) j rfl
 have y4:=aF (k:=4) g rfl
 have x5:=aF (k:=5) j rfl
 have y5:=aF (k:=5) g rfl
 have x6:=aF (k:=6) j rfl
 have y6:=aF (k:=6) g rfl
 have H:=aF (k:=7) j rfl
 have R:=aF (k:=7) g rfl
 have K:=aB j
 have Q:=aB g
 clear j g
 go_wp2_with fail
 refine (vM A3 B3 n3 c3 Z d3 x.blocks _ (R3.out.below D.out) (K3.out.below D.out) Z1.out).mono ?_
 rintro _ w2 ⟨rfl,b2⟩
 have J:=Hd (aA D.out b2)
 have C2:=Hd (aA C1.out b2)
 clear b2 x4 y4 x5 y5 x6 y6 H R K Q
 have j:=aC C2.out u.out
 have g:=aC C2.out z.out
 have x5:=aF (k:=5) j rfl
 have y5:=aF (k:=5) g rfl
 have x6:=aF (k:=6) j rfl
 have y6:=aF (k:=6) g rfl
 have H:=aF (k:=7) j rfl
 have R:=aF (k:=7) g rfl
 have K:=aB j
 have Q:=aB g
 clear j g
 go_wp2_with fail
 refine (wE A4 B4 n4 c4 m4 d4 x.conns _ (R4.out.below J.out) (K4.out.below J.out) Z2.out).mono ?_
 rintro _ w3 ⟨rfl,b3⟩
 have G:=Hd (aA J.out b3)
 have C3:=Hd (aA C2.out b3)
 clear b3 x5 y5 x6 y6 H R K Q
 have j:=aC C3.out u.out
 have g:=aC C3.out z.out
 have x6:=aF (k:=6) j rfl
 have y6:=aF (k:=6) g rfl
 have H:=aF (k:=7) j rfl
 have R:=aF (k:=7) g rfl
 have K:=aB j
 have Q:=aB g
 clear j g
 go_wp2_with fail
 refine (pF A5 B5 n5 c5 m5 d5 x.place _ (R5.out.below G.out) (K5.out.below G.out) Z3.out).mono ?_
 rintro _ w4 ⟨rfl,b4⟩
 have I:=Hd (aA G.out b4)
 have C4:=Hd (aA C3.out b4)
 clear b4 x6 y6 H R K Q
 have j:=aC C4.out u.out
 have g:=aC C4.out z.out
 have H:=aF (k:=7) j rfl
 have R:=aF (k:=7) g rfl
 have K:=aB j
 have Q:=aB g
 clear j g
 go_wp2_with fail
 refine (vN W B6 n6 c6 m6 d6 x.routes _ (R6.out.below I.out) (K6.out.below I.out) Z4.out).mono ?_
 rintro _ w5 ⟨rfl,b5⟩
 have a1:=Hd (aA I.out b5)
 have C5:=Hd (aA C4.out b5)
 clear b5 H R K Q
 go_wp2_with fail
 go_ret
 exact ⟨rfl,a1.out⟩
end Go.Proofs.YtofihjoanjkdmaaGreat
