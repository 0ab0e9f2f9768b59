/- append of several integers to a row of the call's own. -/
import Derived.Test.YtofihjoanjkdmaaGreatLayArg
import Derived.Test.YtofihjoanjkdmaaGreatQb
namespace Go.Proofs.YtofihjoanjkdmaaGreat
set_option maxHeartbeats 2000000
set_option maxRecDepth 100000
open Go.RowKit
/-! ### what the call owns, element by element -/
theorem getD_none{α:Type}{xs:List α}{k:Nat}(d:α)(h:xs.length<=k):xs[k]?.getD d=d:=by rw[List.getElem?_eq_none h];rfl
theorem qd(A B:Oh)(n c m d:Nat)(xs:List Int)(w:World)(hA:RdC w w.heap.size (aI xs) (.slice A n c))(j:RdC w w.heap.size (aI xs) (.slice B m d))(g:szC (aI xs)<=1099511627776) :
  Calls Tryz.prog 53 #[.slice A n c,.slice B m d] w fun e w'=>e=.returned (.bool true)/\Below w.heap.size w w' :=
 Gf A B n m c d xs w hA.ints j.ints (by rw[pE]at g;have:=hA.ints.1;omega)
theorem Fx(G z:Oh)(B c0 u D:Nat)(x:Lt)(w:World)(h0:RdC w w.heap.size (aI x.ins) (.slice G B c0))(k0:RdC w w.heap.size (aI x.ins) (.slice z u D))(Q:dI x.cells<=1099511627776) :
  Calls Tryz.prog 196 #[.agg #[.slice G B c0,.int .i64 x.mask],.agg #[.slice z u D,.int .i64 x.mask]] w fun e w'=>e=.returned (.bool true)/\Below w.heap.size w w':=by
 have g:=Hd (aB (aB (Below.refl w.heap.size w) (.cells #[.slice G B c0,.int .i64 x.mask] 96)) (.cells #[.slice z u D,.int .i64 x.mask] 96));have j:=aG (w.alloc (.cells #[.slice G B c0,.int .i64 x.mask] 96)) (.cells #[.slice z u D,.int .i64 x.mask] 96);have hx:=dP (.cells #[.slice z u D,.int .i64 x.mask] 96) (aG w (.cells #[.slice G B c0,.int .i64 x.mask] 96));simp only[World.size_alloc]at j;obtain⟨I,H⟩:=hd2 hx j;clear hx j;obtain⟨U,V⟩:=hd2 h0 k0;have Y:(x.mask != x.mask)=false:=by simp
 have q:=Q;unfold Lt.cells at q;simp only[dD,dG,gJ]at q;have W:Hv (szC (aI x.ins)<=1099511627776):=Hd<|by show _<=_;omega
 clear Q q h0 k0;go_enter Tryz.func196,Tryz.ntmps196;go_wp2_with fail;refine(qd G z B c0 u D x.ins _ (U.1.below g.1) (V.1.below g.1) W.1).mono ?_;rintro _ w1 ⟨rfl,K⟩;have J:=Hd (aA g.1 K);have R:=Hd K;clear K;have hx:=aF R.1 I.1;have j:=aF R.1 H.1;have x1:=aC (k:=1) hx rfl;have Z:=aC (k:=1) j rfl;have lx:=aH hx;have ly:=aH j;clear hx j;go_wp2;go_ret;exact⟨rfl,J.1⟩
theorem Dk(A B:Oh)(n c m d:Nat)(xs:List Lt)(w:World)(hA:RdC w w.heap.size (aj xs) (.slice A n c))(U:RdC w w.heap.size (aj xs) (.slice B m d))(K:szC (aj xs)<=1099511627776) :
  Calls Tryz.prog 100 #[.slice A n c,.slice B m d] w fun e w'=>e=.returned (.bool true)/\Below w.heap.size w w':=by
 have hx:=hA.lutN';have hy:=U.lutN';obtain rfl:m=n:=by omega
 unfold aj at K;rw[d9 Lt.cells_length (by omega)]at K;have hn:m<=1099511627776:=by omega
 have HZ:Hv (dI (xs.flatMap Lt.cells)<=1099511627776):=Hd<|by show _<=_;omega
 obtain⟨HA,HB,H⟩:=hd3 hA U hx;clear hx hy hA U K;go_enter Tryz.func100,Tryz.ntmps100;go_wp2
 go_loopw[5] (fun i wr=>∃k:Nat,k<=m/\i=.int .i64 k/\Below w.heap.size w wr) (fun i _=>m-(intOf i).toNat)
 ·exact⟨0,Nat.zero_le _,rfl,Below.refl _ _⟩
 obtain⟨k,hk,rfl,D⟩:=hrel;have g:=Hd D;clear D;by_cases j:k<m
 ·have R:=dT (by omega:k<m);obtain⟨b,o,S0,l0,p0,rfl,hb,c0,c1,Z⟩:=(HA.1.below g.1).lut' (k:=k) (by rw[H.1];exact j);obtain⟨b',o',G,V,I,rfl,af,d0,d1,u⟩:=(HB.1.below g.1).lut' (k:=k) (by rw[H.1];exact j);have Q:Hv (dI (xs[k]?.getD Lt.zero).cells<=1099511627776):=Hd<|Nat.le_trans (mK (cells:=Lt.cells) (by rw[H.1];exact j)) HZ.1
  generalize xs[k]?.getD Lt.zero=x at *;obtain⟨J0,W⟩:=hd2 Z u;clear Z u;obtain⟨i0,i1⟩:=ib (by omega:k<m);go_wp2_with fail;have q:=Hd (fun(v:Sub wr)=>Fx S0 G l0 p0 V I x v.v (J0.1.below v.h) (W.1.below v.h) Q.1);have z:=dB wr;have Y:=au wr;refine wpB wr ?_
  repeat(go_big_quiet_step ((first
   | (go_at_call 196;with_reducible exact aV (q.1 _)))))
  refine wpQuiet_nil ?_;rintro _ ⟨⟨w5,hD⟩,rfl⟩;clear z Y q;have HD:=Hd (aA g.1 hD);clear hD;go_wp2;go_roundw
  ·exact⟨k+1,by omega,by go_num,HD.1⟩
  simp[intOf];omega
 have J:k=m:=by omega
 subst J;have R:decide ((k:Int)<(k:Int))=false:=by simp
 go_wp2;go_ret;exact⟨rfl,g.1⟩
theorem Fy(D u:Oh)(z c0 q B:Nat)(x:Sq)(w:World)(h0:RdC w w.heap.size (aI x.ins) (.slice D z c0))(k0:RdC w w.heap.size (aI x.ins) (.slice u q B))(J:dI x.cells<=1099511627776) :
  Calls Tryz.prog 195 #[.agg #[.int .i64 x.kind,.int .i64 x.init,.slice D z c0],.agg #[.int .i64 x.kind,.int .i64 x.init,.slice u q B]] w fun e w'=>e=.returned (.bool true)/\Below w.heap.size w w':=by
 have g:=Hd (aB (aB (Below.refl w.heap.size w) (.cells #[.int .i64 x.kind,.int .i64 x.init,.slice D z c0] 91)) (.cells #[.int .i64 x.kind,.int .i64 x.init,.slice u q B] 91));have I:=aG (w.alloc (.cells #[.int .i64 x.kind,.int .i64 x.init,.slice D z c0] 91)) (.cells #[.int .i64 x.kind,.int .i64 x.init,.slice u q B] 91);have hx:=dP (.cells #[.int .i64 x.kind,.int .i64 x.init,.slice u q B] 91) (aG w (.cells #[.int .i64 x.kind,.int .i64 x.init,.slice D z c0] 91));simp only[World.size_alloc]at I;obtain⟨U,Q⟩:=hd2 hx I;clear hx I;obtain⟨K,R⟩:=hd2 h0 k0;have Z:(x.kind != x.kind)=false:=by simp
 have W:(x.init != x.init)=false:=by simp
 have j:=J;unfold Sq.cells at j;simp only[dD,dG,gJ]at j;have V:Hv (szC (aI x.ins)<=1099511627776):=Hd<|by show _<=_;omega
 clear J j h0 k0;go_enter Tryz.func195,Tryz.ntmps195;go_wp2_with fail;refine(qd D u z c0 q B x.ins _ (K.1.below g.1) (R.1.below g.1) V.1).mono ?_;rintro _ Y ⟨rfl,H⟩;have G:=Hd (aA g.1 H);have C1:=Hd H;clear H;go_wp2;go_ret;exact⟨rfl,G.1⟩
theorem Dl(A B:Oh)(n c m d:Nat)(xs:List Sq)(w:World)(hA:RdC w w.heap.size (aY xs) (.slice A n c))(U:RdC w w.heap.size (aY xs) (.slice B m d))(K:szC (aY xs)<=1099511627776) :
  Calls Tryz.prog 99 #[.slice A n c,.slice B m d] w fun e w'=>e=.returned (.bool true)/\Below w.heap.size w w':=by
 have hx:=hA.sqN';have hy:=U.sqN';obtain rfl:m=n:=by omega
 unfold aY at K;rw[d9 Sq.cells_length (by omega)]at K;have hn:m<=1099511627776:=by omega
 have HZ:Hv (dI (xs.flatMap Sq.cells)<=1099511627776):=Hd<|by show _<=_;omega
 obtain⟨HA,HB,H⟩:=hd3 hA U hx;clear hx hy hA U K;go_enter Tryz.func99,Tryz.ntmps99;go_wp2
 go_loopw[5] (fun i wr=>∃k:Nat,k<=m/\i=.int .i64 k/\Below w.heap.size w wr) (fun i _=>m-(intOf i).toNat)
 ·exact⟨0,Nat.zero_le _,rfl,Below.refl _ _⟩
 obtain⟨k,hk,rfl,D⟩:=hrel;have g:=Hd D;clear D;by_cases j:k<m
 ·have R:=dT (by omega:k<m);obtain⟨b,o,S0,l0,p0,rfl,hb,c0,c1,c2,Z⟩:=(HA.1.below g.1).sq' (k:=k) (by rw[H.1];exact j);obtain⟨b',o',G,V,I,rfl,af,d0,d1,d2,u⟩:=(HB.1.below g.1).sq' (k:=k) (by rw[H.1];exact j);have Q:Hv (dI (xs[k]?.getD Sq.zero).cells<=1099511627776):=Hd<|Nat.le_trans (mK (cells:=Sq.cells) (by rw[H.1];exact j)) HZ.1
  generalize xs[k]?.getD Sq.zero=x at *;obtain⟨J0,W⟩:=hd2 Z u;clear Z u;obtain⟨i0,i1⟩:=ib (by omega:k<m);go_wp2_with fail;have q:=Hd (fun(v:Sub wr)=>Fy S0 G l0 p0 V I x v.v (J0.1.below v.h) (W.1.below v.h) Q.1);have z:=dB wr;have Y:=au wr;refine wpB wr ?_
  repeat(go_big_quiet_step ((first
   | (go_at_call 195;with_reducible exact aV (q.1 _)))))
  refine wpQuiet_nil ?_;rintro _ ⟨⟨w5,hD⟩,rfl⟩;clear z Y q;have HD:=Hd (aA g.1 hD);clear hD;go_wp2;go_roundw
  ·exact⟨k+1,by omega,by go_num,HD.1⟩
  simp[intOf];omega
 have J:k=m:=by omega
 subst J;have R:decide ((k:Int)<(k:Int))=false:=by simp
 go_wp2;go_ret;exact⟨rfl,g.1⟩
theorem sj(R G A1 U A2 Q:Oh)(I c0 D K n1 c1 B J n2 c2 H d2:Nat)(x:aU)(w:World)(h0:RdC w w.heap.size (aY x.seqs) (.slice R I c0))(k0:RdC w w.heap.size (aY x.seqs) (.slice G D K))(h1:RdC w w.heap.size (aj x.luts) (.slice A1 n1 c1))(k1:RdC w w.heap.size (aj x.luts) (.slice U B J))(h2:RdC w w.heap.size (aI x.outs) (.slice A2 n2 c2))(k2:RdC w w.heap.size (aI x.outs) (.slice Q H d2))(hz:dI x.cells<=1099511627776) :
  Calls Tryz.prog 28 #[.agg #[.int .i64 x.inputs,.slice R I c0,.slice A1 n1 c1,.slice A2 n2 c2],.agg #[.int .i64 x.inputs,.slice G D K,.slice U B J,.slice Q H d2]] w fun e w'=>e=.returned (.bool true)/\Below w.heap.size w w':=by
 have j:=Hd (aB (aB (Below.refl w.heap.size w) (.cells #[.int .i64 x.inputs,.slice R I c0,.slice A1 n1 c1,.slice A2 n2 c2] 41)) (.cells #[.int .i64 x.inputs,.slice G D K,.slice U B J,.slice Q H d2] 41));have g:=aG (w.alloc (.cells #[.int .i64 x.inputs,.slice R I c0,.slice A1 n1 c1,.slice A2 n2 c2] 41)) (.cells #[.int .i64 x.inputs,.slice G D K,.slice U B J,.slice Q H d2] 41);have hx:=dP (.cells #[.int .i64 x.inputs,.slice G D K,.slice U B J,.slice Q H d2] 41) (aG w (.cells #[.int .i64 x.inputs,.slice R I c0,.slice A1 n1 c1,.slice A2 n2 c2] 41));simp only[World.size_alloc]at g;obtain⟨W,V⟩:=hd2 hx g;clear hx g;obtain⟨R0,K0,R1,K1,R2,K2⟩:=hd6 h0 k0 h1 k1 h2 k2;have q0:(x.inputs != x.inputs)=false:=by simp
 have z:=hz;unfold aU.cells at z;simp only[dD,dG,gJ]at z;have Z0:Hv (szC (aY x.seqs)<=1099511627776):=Hd<|by show _<=_;omega
 have Z1:Hv (szC (aj x.luts)<=1099511627776):=Hd<|by show _<=_;omega
 have Z2:Hv (szC (aI x.outs)<=1099511627776):=Hd<|by show _<=_;omega
 clear hz z h0 k0 h1 k1 h2 k2;go_enter Tryz.func28,Tryz.ntmps28;go_wp2_with fail;refine(Dl R G I c0 D K x.seqs _ (R0.1.below j.1) (K0.1.below j.1) Z0.1).mono ?_;rintro _ w1 ⟨rfl,b1⟩;have u:=Hd (aA j.1 b1);have C1:=Hd b1;clear b1;have hx:=aF C1.1 W.1;have g:=aF C1.1 V.1;have x2:=aC (k:=2) hx rfl;have y2:=aC (k:=2) g rfl;have Y:=aC (k:=3) hx rfl;have y3:=aC (k:=3) g rfl;have lx:=aH hx;have ly:=aH g;clear hx g;go_wp2_with fail;refine(Dk A1 U n1 c1 B J x.luts _ (R1.1.below u.1) (K1.1.below u.1) Z1.1).mono ?_;rintro _ w2 ⟨rfl,Z⟩;have q:=Hd (aA u.1 Z);have C2:=Hd (aA C1.1 Z);clear Z x2 y2 Y y3 lx ly;have hx:=aF C2.1 W.1;have g:=aF C2.1 V.1;have Y:=aC (k:=3) hx rfl;have y3:=aC (k:=3) g rfl;have lx:=aH hx;have ly:=aH g;clear hx g;go_wp2_with fail;refine(qd A2 Q n2 c2 H d2 x.outs _ (R2.1.below q.1) (K2.1.below q.1) Z2.1).mono ?_;rintro _ w3 ⟨rfl,b3⟩;have ae:=Hd (aA q.1 b3);have C3:=Hd (aA C2.1 b3);clear b3 Y y3 lx ly;go_wp2;go_ret;exact⟨rfl,ae.1⟩
theorem Ic(x:LeT)(w:World)  :
  Calls Tryz.prog 261 #[.agg #[.int .i64 x.lut,.int .i64 x.ff],.agg #[.int .i64 x.lut,.int .i64 x.ff]] w fun e w'=>e=.returned (.bool true)/\Below w.heap.size w w':=by
 have g:=Hd (aB (aB (Below.refl w.heap.size w) (.cells #[.int .i64 x.lut,.int .i64 x.ff] 94)) (.cells #[.int .i64 x.lut,.int .i64 x.ff] 94));have j:=aG (w.alloc (.cells #[.int .i64 x.lut,.int .i64 x.ff] 94)) (.cells #[.int .i64 x.lut,.int .i64 x.ff] 94);have hx:=dP (.cells #[.int .i64 x.lut,.int .i64 x.ff] 94) (aG w (.cells #[.int .i64 x.lut,.int .i64 x.ff] 94));simp only[World.size_alloc]at j;obtain⟨u,q⟩:=hd2 hx j;clear hx j;have B:(x.lut != x.lut)=false:=by simp
 have z:(x.ff != x.ff)=false:=by simp
 go_enter Tryz.func261,Tryz.ntmps261;go_wp2;go_ret;exact⟨rfl,g.1⟩
theorem Fz(A B:Oh)(n c m d:Nat)(xs:List LeT)(w:World)(hA:RdC w w.heap.size (ay xs) (.slice A n c))(I:RdC w w.heap.size (ay xs) (.slice B m d))(G:szC (ay xs)<=1099511627776) :
  Calls Tryz.prog 225 #[.slice A n c,.slice B m d] w fun e w'=>e=.returned (.bool true)/\Below w.heap.size w w':=by
 have hx:=hA.esN;have Y:=I.esN;obtain rfl:m=n:=by omega
 unfold ay at G;rw[d9 LeT.cells_length (by omega)]at G;have hn:m<=1099511627776:=by omega
 have HZ:Hv (dI (xs.flatMap LeT.cells)<=1099511627776):=Hd<|by show _<=_;omega
 obtain⟨R,V,K⟩:=hd3 hA I hx;clear hx Y hA I G;go_enter Tryz.func225,Tryz.ntmps225;go_wp2
 go_loopw[5] (fun i wr=>∃k:Nat,k<=m/\i=.int .i64 k/\Below w.heap.size w wr) (fun i _=>m-(intOf i).toNat)
 ·exact⟨0,Nat.zero_le _,rfl,Below.refl _ _⟩
 obtain⟨k,hk,rfl,u⟩:=hrel;have g:=Hd u;clear u;by_cases z:k<m
 ·have H:=dT (by omega:k<m);obtain⟨b,o,rfl,hb,c0,c1⟩:=(R.1.below g.1).es (k:=k) (by rw[K.1];exact z);obtain⟨b',o',rfl,U,d0,d1⟩:=(V.1.below g.1).es (k:=k) (by rw[K.1];exact z)
  skip
  generalize xs[k]?.getD LeT.zero=x at *
  skip
  obtain⟨Z,i1⟩:=ib (by omega:k<m);go_wp2_with fail;have j:=Hd (fun(v:Sub wr)=>Ic x v.v);have q:=dB wr;have J:=au wr;refine wpB wr ?_
  repeat(go_big_quiet_step ((first
   | (go_at_call 261;with_reducible exact aV (j.1 _)))))
  refine wpQuiet_nil ?_;rintro _ ⟨⟨w5,Q⟩,rfl⟩;clear q J j;have W:=Hd (aA g.1 Q);clear Q;go_wp2;go_roundw
  ·exact⟨k+1,by omega,by go_num,W.1⟩
  simp[intOf];omega
 have D:k=m:=by omega
 subst D;have H:decide ((k:Int)<(k:Int))=false:=by simp
 go_wp2;go_ret;exact⟨rfl,g.1⟩
theorem Av(D u:Oh)(z c0 q B:Nat)(x:Blk)(w:World)(h0:RdC w w.heap.size (ay x.les) (.slice D z c0))(k0:RdC w w.heap.size (ay x.les) (.slice u q B))(J:dI x.cells<=1099511627776) :
  Calls Tryz.prog 134 #[.agg #[.int .i64 x.kind,.int .i64 x.item,.slice D z c0],.agg #[.int .i64 x.kind,.int .i64 x.item,.slice u q B]] w fun e w'=>e=.returned (.bool true)/\Below w.heap.size w w':=by
 have g:=Hd (aB (aB (Below.refl w.heap.size w) (.cells #[.int .i64 x.kind,.int .i64 x.item,.slice D z c0] 89)) (.cells #[.int .i64 x.kind,.int .i64 x.item,.slice u q B] 89));have I:=aG (w.alloc (.cells #[.int .i64 x.kind,.int .i64 x.item,.slice D z c0] 89)) (.cells #[.int .i64 x.kind,.int .i64 x.item,.slice u q B] 89);have hx:=dP (.cells #[.int .i64 x.kind,.int .i64 x.item,.slice u q B] 89) (aG w (.cells #[.int .i64 x.kind,.int .i64 x.item,.slice D z c0] 89));simp only[World.size_alloc]at I;obtain⟨U,Q⟩:=hd2 hx I;clear hx I;obtain⟨K,R⟩:=hd2 h0 k0;have Z:(x.kind != x.kind)=false:=by simp
 have W:(x.item != x.item)=false:=by simp
 have j:=J;unfold Blk.cells at j;simp only[dD,dG,gJ]at j;have V:Hv (szC (ay x.les)<=1099511627776):=Hd<|by show _<=_;omega
 clear J j h0 k0;go_enter Tryz.func134,Tryz.ntmps134;go_wp2_with fail;refine(Fz D u z c0 q B x.les _ (K.1.below g.1) (R.1.below g.1) V.1).mono ?_;rintro _ Y ⟨rfl,H⟩;have G:=Hd (aA g.1 H);have C1:=Hd H;clear H;go_wp2;go_ret;exact⟨rfl,G.1⟩
theorem ze(A B:Oh)(n c m d:Nat)(xs:List Blk)(w:World)(hA:RdC w w.heap.size (aa xs) (.slice A n c))(U:RdC w w.heap.size (aa xs) (.slice B m d))(K:szC (aa xs)<=1099511627776) :
  Calls Tryz.prog 51 #[.slice A n c,.slice B m d] w fun e w'=>e=.returned (.bool true)/\Below w.heap.size w w':=by
 have hx:=hA.blkN;have hy:=U.blkN;obtain rfl:m=n:=by omega
 unfold aa at K;rw[d9 Blk.cells_length (by omega)]at K;have hn:m<=1099511627776:=by omega
 have HZ:Hv (dI (xs.flatMap Blk.cells)<=1099511627776):=Hd<|by show _<=_;omega
 obtain⟨HA,HB,H⟩:=hd3 hA U hx;clear hx hy hA U K;go_enter Tryz.func51,Tryz.ntmps51;go_wp2
 go_loopw[5] (fun i wr=>∃k:Nat,k<=m/\i=.int .i64 k/\Below w.heap.size w wr) (fun i _=>m-(intOf i).toNat)
 ·exact⟨0,Nat.zero_le _,rfl,Below.refl _ _⟩
 obtain⟨k,hk,rfl,D⟩:=hrel;have g:=Hd D;clear D;by_cases j:k<m
 ·have R:=dT (by omega:k<m);obtain⟨b,o,S0,l0,p0,rfl,hb,c0,c1,c2,Z⟩:=(HA.1.below g.1).blk (k:=k) (by rw[H.1];exact j);obtain⟨b',o',G,V,I,rfl,af,d0,d1,d2,u⟩:=(HB.1.below g.1).blk (k:=k) (by rw[H.1];exact j);have Q:Hv (dI (xs[k]?.getD Blk.zero).cells<=1099511627776):=Hd<|Nat.le_trans (mK (cells:=Blk.cells) (by rw[H.1];exact j)) HZ.1
  generalize xs[k]?.getD Blk.zero=x at *;obtain⟨J0,W⟩:=hd2 Z u;clear Z u;obtain⟨i0,i1⟩:=ib (by omega:k<m);go_wp2_with fail;have q:=Hd (fun(v:Sub wr)=>Av S0 G l0 p0 V I x v.v (J0.1.below v.h) (W.1.below v.h) Q.1);have z:=dB wr;have Y:=au wr;refine wpB wr ?_
  repeat(go_big_quiet_step ((first
   | (go_at_call 134;with_reducible exact aV (q.1 _)))))
  refine wpQuiet_nil ?_;rintro _ ⟨⟨w5,hD⟩,rfl⟩;clear z Y q;have HD:=Hd (aA g.1 hD);clear hD;go_wp2;go_roundw
  ·exact⟨k+1,by omega,by go_num,HD.1⟩
  simp[intOf];omega
 have J:k=m:=by omega
 subst J;have R:decide ((k:Int)<(k:Int))=false:=by simp
 go_wp2;go_ret;exact⟨rfl,g.1⟩
theorem yA(x:aL)(w:World)  :
  Calls Tryz.prog 226 #[.agg #[.int .i64 x.block,.int .i64 x.pin],.agg #[.int .i64 x.block,.int .i64 x.pin]] w fun e w'=>e=.returned (.bool true)/\Below w.heap.size w w':=by
 have g:=Hd (aB (aB (Below.refl w.heap.size w) (.cells #[.int .i64 x.block,.int .i64 x.pin] 100)) (.cells #[.int .i64 x.block,.int .i64 x.pin] 100));have j:=aG (w.alloc (.cells #[.int .i64 x.block,.int .i64 x.pin] 100)) (.cells #[.int .i64 x.block,.int .i64 x.pin] 100);have hx:=dP (.cells #[.int .i64 x.block,.int .i64 x.pin] 100) (aG w (.cells #[.int .i64 x.block,.int .i64 x.pin] 100));simp only[World.size_alloc]at j;obtain⟨u,q⟩:=hd2 hx j;clear hx j;have B:(x.block != x.block)=false:=by simp
 have z:(x.pin != x.pin)=false:=by simp
 go_enter Tryz.func226,Tryz.ntmps226;go_wp2;go_ret;exact⟨rfl,g.1⟩
theorem Dm(A B:Oh)(n c m d:Nat)(xs:List aL)(w:World)(hA:RdC w w.heap.size (aZ xs) (.slice A n c))(I:RdC w w.heap.size (aZ xs) (.slice B m d))(G:szC (aZ xs)<=1099511627776) :
  Calls Tryz.prog 227 #[.slice A n c,.slice B m d] w fun e w'=>e=.returned (.bool true)/\Below w.heap.size w w':=by
 have hx:=hA.pinN;have Y:=I.pinN;obtain rfl:m=n:=by omega
 unfold aZ at G;rw[d9 aL.cells_length (by omega)]at G;have hn:m<=1099511627776:=by omega
 have HZ:Hv (dI (xs.flatMap aL.cells)<=1099511627776):=Hd<|by show _<=_;omega
 obtain⟨R,V,K⟩:=hd3 hA I hx;clear hx Y hA I G;go_enter Tryz.func227,Tryz.ntmps227;go_wp2
 go_loopw[5] (fun i wr=>∃k:Nat,k<=m/\i=.int .i64 k/\Below w.heap.size w wr) (fun i _=>m-(intOf i).toNat)
 ·exact⟨0,Nat.zero_le _,rfl,Below.refl _ _⟩
 obtain⟨k,hk,rfl,u⟩:=hrel;have g:=Hd u;clear u;by_cases z:k<m
 ·have H:=dT (by omega:k<m);obtain⟨b,o,rfl,hb,c0,c1⟩:=(R.1.below g.1).pin (k:=k) (by rw[K.1];exact z);obtain⟨b',o',rfl,U,d0,d1⟩:=(V.1.below g.1).pin (k:=k) (by rw[K.1];exact z)
  skip
  generalize xs[k]?.getD aL.zero=x at *
  skip
  obtain⟨Z,i1⟩:=ib (by omega:k<m);go_wp2_with fail;have j:=Hd (fun(v:Sub wr)=>yA x v.v);have q:=dB wr;have J:=au wr;refine wpB wr ?_
  repeat(go_big_quiet_step ((first
   | (go_at_call 226;with_reducible exact aV (j.1 _)))))
  refine wpQuiet_nil ?_;rintro _ ⟨⟨w5,Q⟩,rfl⟩;clear q J j;have W:=Hd (aA g.1 Q);clear Q;go_wp2;go_roundw
  ·exact⟨k+1,by omega,by go_num,W.1⟩
  simp[intOf];omega
 have D:k=m:=by omega
 subst D;have H:decide ((k:Int)<(k:Int))=false:=by simp
 go_wp2;go_ret;exact⟨rfl,g.1⟩
theorem Dn(G z:Oh)(B c0 u D:Nat)(x:Cn)(w:World)(h0:RdC w w.heap.size (aZ x.sinks) (.slice G B c0))(k0:RdC w w.heap.size (aZ x.sinks) (.slice z u D))(V:dI x.cells<=1099511627776) :
  Calls Tryz.prog 135 #[.agg #[.int .i64 x.node,.int .i64 x.src.block,.int .i64 x.src.pin,.slice G B c0],.agg #[.int .i64 x.node,.int .i64 x.src.block,.int .i64 x.src.pin,.slice z u D]] w fun e w'=>e=.returned (.bool true)/\Below w.heap.size w w':=by
 have H:=Hd (aB (aB (Below.refl w.heap.size w) (.cells #[.int .i64 x.node,.int .i64 x.src.block,.int .i64 x.src.pin,.slice G B c0] 158)) (.cells #[.int .i64 x.node,.int .i64 x.src.block,.int .i64 x.src.pin,.slice z u D] 158));have q:=aG (w.alloc (.cells #[.int .i64 x.node,.int .i64 x.src.block,.int .i64 x.src.pin,.slice G B c0] 158)) (.cells #[.int .i64 x.node,.int .i64 x.src.block,.int .i64 x.src.pin,.slice z u D] 158);have hx:=dP (.cells #[.int .i64 x.node,.int .i64 x.src.block,.int .i64 x.src.pin,.slice z u D] 158) (aG w (.cells #[.int .i64 x.node,.int .i64 x.src.block,.int .i64 x.src.pin,.slice G B c0] 158));simp only[World.size_alloc]at q;obtain⟨Q,I⟩:=hd2 hx q;clear hx q;obtain⟨Y,K0⟩:=hd2 h0 k0;have q0:(x.node != x.node)=false:=by simp
 have q1:(x.src.block != x.src.block)=false:=by simp
 have q2:(x.src.pin != x.src.pin)=false:=by simp
 have j:=V;unfold Cn.cells at j;simp only[dD,dG,gJ]at j;have Z:Hv (szC (aZ x.sinks)<=1099511627776):=Hd<|by show _<=_;omega
 clear V j h0 k0;go_enter Tryz.func135,Tryz.ntmps135;go_wp2_with fail;refine(yA   x.src _  ).mono ?_;rintro _ w1 ⟨rfl,U⟩;have g:=Hd (aA H.1 U);have R:=Hd U;clear U;have hx:=aF R.1 Q.1;have q:=aF R.1 I.1;have W:=aC (k:=3) hx rfl;have y3:=aC (k:=3) q rfl;have lx:=aH hx;have ly:=aH q;clear hx q;go_wp2_with fail;refine(Dm G z B c0 u D x.sinks _ (Y.1.below g.1) (K0.1.below g.1) Z.1).mono ?_;rintro _ w2 ⟨rfl,J⟩;have K:=Hd (aA g.1 J);have C2:=Hd (aA R.1 J);clear J W y3 lx ly;go_wp2;go_ret;exact⟨rfl,K.1⟩
theorem Aw(A B:Oh)(n c m d:Nat)(xs:List Cn)(w:World)(hA:RdC w w.heap.size (bL xs) (.slice A n c))(U:RdC w w.heap.size (bL xs) (.slice B m d))(K:szC (bL xs)<=1099511627776) :
  Calls Tryz.prog 52 #[.slice A n c,.slice B m d] w fun e w'=>e=.returned (.bool true)/\Below w.heap.size w w':=by
 have hx:=hA.cnN;have hy:=U.cnN;obtain rfl:m=n:=by omega
 unfold bL at K;rw[d9 Cn.cells_length (by omega)]at K;have hn:m<=1099511627776:=by omega
 have HZ:Hv (dI (xs.flatMap Cn.cells)<=1099511627776):=Hd<|by show _<=_;omega
 obtain⟨HA,HB,H⟩:=hd3 hA U hx;clear hx hy hA U K;go_enter Tryz.func52,Tryz.ntmps52;go_wp2
 go_loopw[5] (fun i wr=>∃k:Nat,k<=m/\i=.int .i64 k/\Below w.heap.size w wr) (fun i _=>m-(intOf i).toNat)
 ·exact⟨0,Nat.zero_le _,rfl,Below.refl _ _⟩
 obtain⟨k,hk,rfl,D⟩:=hrel;have g:=Hd D;clear D;by_cases j:k<m
 ·have R:=dT (by omega:k<m);obtain⟨b,o,S0,l0,p0,rfl,hb,c0,c1,c2,c3,Z⟩:=(HA.1.below g.1).cn (k:=k) (by rw[H.1];exact j);obtain⟨b',o',G,V,I,rfl,af,d0,d1,d2,d3,u⟩:=(HB.1.below g.1).cn (k:=k) (by rw[H.1];exact j);have Q:Hv (dI (xs[k]?.getD Cn.zero).cells<=1099511627776):=Hd<|Nat.le_trans (mK (cells:=Cn.cells) (by rw[H.1];exact j)) HZ.1
  generalize xs[k]?.getD Cn.zero=x at *;obtain⟨J0,W⟩:=hd2 Z u;clear Z u;obtain⟨i0,i1⟩:=ib (by omega:k<m);go_wp2_with fail;have q:=Hd (fun(v:Sub wr)=>Dn S0 G l0 p0 V I x v.v (J0.1.below v.h) (W.1.below v.h) Q.1);have z:=dB wr;have Y:=au wr;refine wpB wr ?_
  repeat(go_big_quiet_step ((first
   | (go_at_call 135;with_reducible exact aV (q.1 _)))))
  refine wpQuiet_nil ?_;rintro _ ⟨⟨w5,hD⟩,rfl⟩;clear z Y q;have HD:=Hd (aA g.1 hD);clear hD;go_wp2;go_roundw
  ·exact⟨k+1,by omega,by go_num,HD.1⟩
  simp[intOf];omega
 have J:k=m:=by omega
 subst J;have R:decide ((k:Int)<(k:Int))=false:=by simp
 go_wp2;go_ret;exact⟨rfl,g.1⟩
theorem Az(J D A1 K:Oh)(G c0 B I n1 c1 z H:Nat)(x:Rou)(w:World)(h0:RdC w w.heap.size (aI x.nodes) (.slice J G c0))(k0:RdC w w.heap.size (aI x.nodes) (.slice D B I))(h1:RdC w w.heap.size (aI x.from_) (.slice A1 n1 c1))(k1:RdC w w.heap.size (aI x.from_) (.slice K z H))(Z:dI x.cells<=1099511627776) :
  Calls Tryz.prog 136 #[.agg #[.slice J G c0,.slice A1 n1 c1],.agg #[.slice D B I,.slice K z H]] w fun e w'=>e=.returned (.bool true)/\Below w.heap.size w w':=by
 have g:=Hd (aB (aB (Below.refl w.heap.size w) (.cells #[.slice J G c0,.slice A1 n1 c1] 114)) (.cells #[.slice D B I,.slice K z H] 114));have u:=aG (w.alloc (.cells #[.slice J G c0,.slice A1 n1 c1] 114)) (.cells #[.slice D B I,.slice K z H] 114);have hx:=dP (.cells #[.slice D B I,.slice K z H] 114) (aG w (.cells #[.slice J G c0,.slice A1 n1 c1] 114));simp only[World.size_alloc]at u;obtain⟨V,Q⟩:=hd2 hx u;clear hx u;obtain⟨R0,K0,R1,K1⟩:=hd4 h0 k0 h1 k1;have q:=Z;unfold Rou.cells at q;simp only[dD,dG]at q;have Z0:Hv (szC (aI x.nodes)<=1099511627776):=Hd<|by show _<=_;omega
 have Z1:Hv (szC (aI x.from_)<=1099511627776):=Hd<|by show _<=_;omega
 clear Z q h0 k0 h1 k1;go_enter Tryz.func136,Tryz.ntmps136;go_wp2_with fail;refine(qd J D G c0 B I x.nodes _ (R0.1.below g.1) (K0.1.below g.1) Z0.1).mono ?_;rintro _ w1 ⟨rfl,Y⟩;have j:=Hd (aA g.1 Y);have W:=Hd Y;clear Y;have hx:=aF W.1 V.1;have u:=aF W.1 Q.1;have x1:=aC (k:=1) hx rfl;have y1:=aC (k:=1) u rfl;have lx:=aH hx;have ly:=aH u;clear hx u;go_wp2_with fail;refine(qd A1 K n1 c1 z H x.from_ _ (R1.1.below j.1) (K1.1.below j.1) Z1.1).mono ?_;rintro _ w2 ⟨rfl,R⟩;have U:=Hd (aA j.1 R);have C2:=Hd (aA W.1 R);clear R x1 y1 lx ly;go_wp2;go_ret;exact⟨rfl,U.1⟩
theorem zf(A B:Oh)(n c m d:Nat)(xs:List Rou)(w:World)(hA:RdC w w.heap.size (bM xs) (.slice A n c))(Z:RdC w w.heap.size (bM xs) (.slice B m d))(R:szC (bM xs)<=1099511627776) :
  Calls Tryz.prog 54 #[.slice A n c,.slice B m d] w fun e w'=>e=.returned (.bool true)/\Below w.heap.size w w':=by
 have hx:=hA.rouN;have hy:=Z.rouN;obtain rfl:m=n:=by omega
 unfold bM at R;rw[d9 Rou.cells_length (by omega)]at R;have hn:m<=1099511627776:=by omega
 have HZ:Hv (dI (xs.flatMap Rou.cells)<=1099511627776):=Hd<|by show _<=_;omega
 obtain⟨HA,HB,I⟩:=hd3 hA Z hx;clear hx hy hA Z R;go_enter Tryz.func54,Tryz.ntmps54;go_wp2
 go_loopw[5] (fun i wr=>∃k:Nat,k<=m/\i=.int .i64 k/\Below w.heap.size w wr) (fun i _=>m-(intOf i).toNat)
 ·exact⟨0,Nat.zero_le _,rfl,Below.refl _ _⟩
 obtain⟨k,hk,rfl,G⟩:=hrel;have g:=Hd G;clear G;by_cases j:k<m
 ·have Y:=dT (by omega:k<m);obtain⟨b,o,S0,l0,p0,S1,l1,p1,rfl,hb,c0,c1,r0,r1⟩:=(HA.1.below g.1).rou (k:=k) (by rw[I.1];exact j);obtain⟨b',o',H,ad,J,ag,Q,V,rfl,al,d0,d1,z,u⟩:=(HB.1.below g.1).rou (k:=k) (by rw[I.1];exact j);have U:Hv (dI (xs[k]?.getD Rou.zero).cells<=1099511627776):=Hd<|Nat.le_trans (mK (cells:=Rou.cells) (by rw[I.1];exact j)) HZ.1
  generalize xs[k]?.getD Rou.zero=x at *;obtain⟨J0,ae,J1,W⟩:=hd4 r0 z r1 u;clear r0 z r1 u;obtain⟨i0,i1⟩:=ib (by omega:k<m);go_wp2_with fail;have q:=Hd (fun(v:Sub wr)=>Az S0 H S1 ag l0 p0 ad J l1 p1 Q V x v.v (J0.1.below v.h) (ae.1.below v.h) (J1.1.below v.h) (W.1.below v.h) U.1);have D:=dB wr;have af:=au wr;refine wpB wr ?_
  repeat(go_big_quiet_step ((first
   | (go_at_call 136;with_reducible exact aV (q.1 _)))))
  refine wpQuiet_nil ?_;rintro _ ⟨⟨w5,hD⟩,rfl⟩;clear D af q;have HD:=Hd (aA g.1 hD);clear hD;go_wp2;go_roundw
  ·exact⟨k+1,by omega,by go_num,HD.1⟩
  simp[intOf];omega
 have K:k=m:=by omega
 subst K;have Y:decide ((k:Int)<(k:Int))=false:=by simp
 go_wp2;go_ret;exact⟨rfl,g.1⟩
theorem zg(A0 B0 A1 B1 A2 B2 A3 B3 A4 B4 A5 B5 A6 Y:Oh)(n0 c0 R d0 n1 c1 m1 W n2 c2 V d2 n3 c3 m3 d3 n4 c4 m4 d4 n5 c5 U d5 n6 c6 m6 Z:Nat)(x:Lay)(w:World)(h0:RdC w w.heap.size (aY x.net.seqs) (.slice A0 n0 c0))(k0:RdC w w.heap.size (aY x.net.seqs) (.slice B0 R d0))(h1:RdC w w.heap.size (aj x.net.luts) (.slice A1 n1 c1))(k1:RdC w w.heap.size (aj x.net.luts) (.slice B1 m1 W))(h2:RdC w w.heap.size (aI x.net.outs) (.slice A2 n2 c2))(k2:RdC w w.heap.size (aI x.net.outs) (.slice B2 V d2))(h3:RdC w w.heap.size (aa x.blocks) (.slice A3 n3 c3))(k3:RdC w w.heap.size (aa x.blocks) (.slice B3 m3 d3))(h4:RdC w w.heap.size (bL x.conns) (.slice A4 n4 c4))(k4:RdC w w.heap.size (bL x.conns) (.slice B4 m4 d4))(h5:RdC w w.heap.size (aI x.place) (.slice A5 n5 c5))(k5:RdC w w.heap.size (aI x.place) (.slice B5 U d5))(h6:RdC w w.heap.size (bM x.routes) (.slice A6 n6 c6))(k6:RdC w w.heap.size (bM x.routes) (.slice Y m6 Z))(hz:dI x.cells<=1099511627776) :
  Calls Tryz.prog 12 #[.agg #[.int .i64 x.net.inputs,.slice A0 n0 c0,.slice A1 n1 c1,.slice A2 n2 c2,.slice A3 n3 c3,.slice A4 n4 c4,.slice A5 n5 c5,.slice A6 n6 c6],.agg #[.int .i64 x.net.inputs,.slice B0 R d0,.slice B1 m1 W,.slice B2 V d2,.slice B3 m3 d3,.slice B4 m4 d4,.slice B5 U d5,.slice Y m6 Z]] w fun e w'=>e=.returned (.bool true)/\Below w.heap.size w w':=by
 have j:=Hd (aB (aB (Below.refl w.heap.size w) (.cells #[.int .i64 x.net.inputs,.slice A0 n0 c0,.slice A1 n1 c1,.slice A2 n2 c2,.slice A3 n3 c3,.slice A4 n4 c4,.slice A5 n5 c5,.slice A6 n6 c6] 46)) (.cells #[.int .i64 x.net.inputs,.slice B0 R d0,.slice B1 m1 W,.slice B2 V d2,.slice B3 m3 d3,.slice B4 m4 d4,.slice B5 U d5,.slice Y m6 Z] 46));have g:=aG (w.alloc (.cells #[.int .i64 x.net.inputs,.slice A0 n0 c0,.slice A1 n1 c1,.slice A2 n2 c2,.slice A3 n3 c3,.slice A4 n4 c4,.slice A5 n5 c5,.slice A6 n6 c6] 46)) (.cells #[.int .i64 x.net.inputs,.slice B0 R d0,.slice B1 m1 W,.slice B2 V d2,.slice B3 m3 d3,.slice B4 m4 d4,.slice B5 U d5,.slice Y m6 Z] 46);have hx:=dP (.cells #[.int .i64 x.net.inputs,.slice B0 R d0,.slice B1 m1 W,.slice B2 V d2,.slice B3 m3 d3,.slice B4 m4 d4,.slice B5 U d5,.slice Y m6 Z] 46) (aG w (.cells #[.int .i64 x.net.inputs,.slice A0 n0 c0,.slice A1 n1 c1,.slice A2 n2 c2,.slice A3 n3 c3,.slice A4 n4 c4,.slice A5 n5 c5,.slice A6 n6 c6] 46));simp only[World.size_alloc]at g;obtain⟨q,u⟩:=hd2 hx g;clear hx g;obtain⟨R0,K0,R1,K1,R2,K2,R3,K3⟩:=hd8 h0 k0 h1 k1 h2 k2 h3 k3;obtain⟨R4,K4,R5,K5,R6,K6⟩:=hd6 h4 k4 h5 k5 h6 k6;have q0:(x.net.inputs != x.net.inputs)=false:=by simp
 have B:=hz;unfold Lay.cells at B;simp only[jY,dD,dG]at B;have Z0:Hv (dI x.net.cells<=1099511627776):=Hd<|by show _<=_;omega
 have Z1:Hv (szC (aa x.blocks)<=1099511627776):=Hd<|by show _<=_;omega
 have Z2:Hv (szC (bL x.conns)<=1099511627776):=Hd<|by show _<=_;omega
 have Z3:Hv (szC (aI x.place)<=1099511627776):=Hd<|by show _<=_;omega
 have Z4:Hv (szC (bM x.routes)<=1099511627776):=Hd<|by show _<=_;omega
 clear hz B h0 k0 h1 k1 h2 k2 h3 k3 h4 k4 h5 k5 h6 k6;go_enter Tryz.func12,Tryz.ntmps12;go_wp2_with fail;refine(sj A0 B0 A1 B1 A2 B2 n0 c0 R d0 n1 c1 m1 W n2 c2 V d2 x.net _ (R0.1.below j.1) (K0.1.below j.1) (R1.1.below j.1) (K1.1.below j.1) (R2.1.below j.1) (K2.1.below j.1) Z0.1).mono ?_;rintro _ w1 ⟨rfl,b1⟩;have K:=Hd (aA j.1 b1);have C1:=Hd b1;clear b1;have hx:=aF C1.1 q.1;have g:=aF C1.1 u.1;have x4:=aC (k:=4) hx rfl;have y4:=aC (k:=4) g rfl;have x5:=aC (k:=5) hx rfl;have y5:=aC (k:=5) g rfl;have x6:=aC (k:=6) hx rfl;have y6:=aC (k:=6) g rfl;have z:=aC (k:=7) hx rfl;have D:=aC (k:=7) g rfl;have G:=aH hx;have I:=aH g;clear hx g;go_wp2_with fail;refine(ze A3 B3 n3 c3 m3 d3 x.blocks _ (R3.1.below K.1) (K3.1.below K.1) Z1.1).mono ?_;rintro _ w2 ⟨rfl,b2⟩;have J:=Hd (aA K.1 b2);have C2:=Hd (aA C1.1 b2);clear b2 x4 y4 x5 y5 x6 y6 z D G I;have hx:=aF C2.1 q.1;have g:=aF C2.1 u.1;have x5:=aC (k:=5) hx rfl;have y5:=aC (k:=5) g rfl;have x6:=aC (k:=6) hx rfl;have y6:=aC (k:=6) g rfl;have z:=aC (k:=7) hx rfl;have D:=aC (k:=7) g rfl;have G:=aH hx;have I:=aH g;clear hx g;go_wp2_with fail;refine(Aw A4 B4 n4 c4 m4 d4 x.conns _ (R4.1.below J.1) (K4.1.below J.1) Z2.1).mono ?_;rintro _ w3 ⟨rfl,b3⟩;have H:=Hd (aA J.1 b3);have C3:=Hd (aA C2.1 b3);clear b3 x5 y5 x6 y6 z D G I;have hx:=aF C3.1 q.1;have g:=aF C3.1 u.1;have x6:=aC (k:=6) hx rfl;have y6:=aC (k:=6) g rfl;have z:=aC (k:=7) hx rfl;have D:=aC (k:=7) g rfl;have G:=aH hx;have I:=aH g;clear hx g;go_wp2_with fail;refine(qd A5 B5 n5 c5 U d5 x.place _ (R5.1.below H.1) (K5.1.below H.1) Z3.1).mono ?_;rintro _ w4 ⟨rfl,b4⟩;have Q:=Hd (aA H.1 b4);have C4:=Hd (aA C3.1 b4);clear b4 x6 y6 z D G I;have hx:=aF C4.1 q.1;have g:=aF C4.1 u.1;have z:=aC (k:=7) hx rfl;have D:=aC (k:=7) g rfl;have G:=aH hx;have I:=aH g;clear hx g;go_wp2_with fail;refine(zf A6 Y n6 c6 m6 Z x.routes _ (R6.1.below Q.1) (K6.1.below Q.1) Z4.1).mono ?_;rintro _ w5 ⟨rfl,b5⟩;have aO:=Hd (aA Q.1 b5);have C5:=Hd (aA C4.1 b5);clear b5 z D G I;go_wp2;go_ret;exact⟨rfl,aO.1⟩
end Go.Proofs.YtofihjoanjkdmaaGreat
