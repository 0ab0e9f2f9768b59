/- The laws' counts of nested data (printed by mksz.py). -/
import Derived.Test.YtofihjoanjkdmaaGreatLayArg
import Derived.Test.YtofihjoanjkdmaaGreatResc
namespace Go.Proofs.YtofihjoanjkdmaaGreat
set_option maxHeartbeats 4000000
set_option maxRecDepth 100000
open Go.RowKit
theorem zw(A:Oh)(n c:Nat)(xs:List Int)(L:Int)(w:World)(h:RdC w w.heap.size (aI xs) (.slice A n c))(q:0<=L)(j:L<=1099511627776)(hb:BdC (aI xs)) :
  Calls Tryz.prog 33 #[.slice A n c,.int .i64 L] w fun e w'=>e=.returned (.int .i64 (qz L (szC (aI xs))))/\Below w.heap.size w w':=by
 have hn:=h.ints.1;have g:=hb;unfold aI at g;rw[vo,List.length_map,Nat.div_one,hn]at g;rw[pE,hn];refine(IG A n c L w q j (by have:=g.1;unfold maxLen at this;omega)).mono ?_;rintro e w' ⟨he,rfl⟩;exact⟨he,Below.refl _ _⟩
theorem KT(q:Oh)(j c0:Nat)(x:Lt)(L:Int)(w:World)(h0:RdC w w.heap.size (aI x.ins) (.slice q j c0))(U:0<=L)(I:L<=1099511627776)(hb:BdL x.cells) :
  Calls Tryz.prog 152 #[.agg #[.slice q j c0,.int .i64 x.mask],.int .i64 L] w fun e w'=>e=.returned (.int .i64 (qz L (dI x.cells)))/\Below w.heap.size w w':=by
 have z:=Hd (aB (Below.refl w.heap.size w) (.cells #[.slice q j c0,.int .i64 x.mask] 184));have V:=Hd (aG w (.cells #[.slice q j c0,.int .i64 x.mask] 184));have J:=Hd h0;have B:Hv (dI x.cells=szC (aI x.ins)):=Hd<|by show _=_;unfold Lt.cells;simp only[dD,dG,gJ] <;> omega
 have g:=hb;unfold Lt.cells at g;simp only[qX]at g;obtain⟨D,K,_⟩:=g;have Q:=Hd D;clear hb h0 D K;go_enter Tryz.func152,Tryz.ntmps152;go_wp2_with fail;refine(zw q j c0 x.ins _ _ (J.1.below z.1) (by omega) (by omega) Q.1).mono ?_;rintro _ W ⟨rfl,u⟩;have H:=Hd (aA z.1 u);have Y:=Hd u;clear u;by_cases G:((szC (aI x.ins):Nat):Int)<=L
 ·rw[fV G];have R:decide (L-((szC (aI x.ins):Nat):Int)<0)=false:=by simp;omega
  go_wp2;go_ret;exact⟨aQ (by rw[B.1,fV (by omega)] <;> omega),H.1⟩
 rw[eH G];go_wp2;go_ret;exact⟨aQ (by rw[B.1,eH (by omega)]),H.1⟩
theorem I6(A:Oh)(n c:Nat)(xs:List Lt)(L:Int)(w:World)(h:RdC w w.heap.size (aj xs) (.slice A n c))(hL:0<=L)(Z:L<=1099511627776)(hb:BdC (aj xs)) :
  Calls Tryz.prog 80 #[.slice A n c,.int .i64 L] w fun e w'=>e=.returned (.int .i64 (qz L (szC (aj xs))))/\Below w.heap.size w w':=by
 have z:Hv (xs.length=n):=Hd<|h.lutN'
 have J:Hv (szC (aj xs)=n+dI (xs.flatMap Lt.cells)):=Hd<|by show _=_;unfold aj;rw[d9 Lt.cells_length (by omega),z.1]
 have HD:Hv (∀x∈xs,BdL x.cells):=Hd<|by
  show ∀x∈xs,BdL x.cells;unfold aj at hb;exact zO.1 (vo.1 hb).2
 have HR:=Hd h
 have V:n<=9223372036854775807:=by
  unfold aj at hb;rw[En Lt.cells_length (by omega),z.1]at hb;have:=hb.1;unfold maxLen at this;omega
 clear h hb;by_cases h0:(n:Int)<=L
 ·have hd:decide (L-(n:Int)<0)=false:=by simp;omega
  go_enter Tryz.func80,Tryz.ntmps80;go_wp2
  go_loopw[1,5] (fun v i wr=>∃k:Nat,k<=n/\i=.int .i64 k/\v=.int .i64 (L-n-(dI ((xs.take k).flatMap Lt.cells):Nat))/\((dI ((xs.take k).flatMap Lt.cells):Nat):Int)<=L-n/\Below w.heap.size w wr) (fun _ i _=>n-(intOf i).toNat)
  ·exact⟨0,Nat.zero_le _,rfl,by simp[dG],by simp[dG];omega,Below.refl _ _⟩
  obtain⟨k,hk,rfl,rfl,D,u⟩:=hrel;have g:=Hd u;clear u;by_cases K:k<n
  ·have H:=dT (by omega:k<n);have j:k<xs.length:=by rw[z.1];exact K
   obtain⟨b,o,S0,Y,p0,rfl,hb,c0,c1,U⟩:=HR.1.lut' (k:=k) j;have ah:b<wr.heap.size:=by have:=g.1.size;omega
   obtain⟨i0,i1⟩:=ib (by omega:k<n);rw[←g.1.cell (p:=⟨b,o+k*2,none⟩) hb]at c0;rw[←g.1.cell (p:=⟨b,o+k*2+1,none⟩) hb]at c1;have W:=Hd (U.below g.1);have Q:Hv (BdL (xs[k]?.getD Lt.zero).cells):=Hd<|by show BdL _;rw[List.getElem?_eq_getElem j];exact HD.1 _ (List.getElem_mem j)
   have G:Hv (dI ((xs.take (k+1)).flatMap Lt.cells)=dI ((xs.take k).flatMap Lt.cells)+dI (xs[k]?.getD Lt.zero).cells):=Hd<|wu j
   have HF:Hv (dI ((xs.take (k+1)).flatMap Lt.cells)<=dI (xs.flatMap Lt.cells)):=Hd<|rC xs (k+1)
   clear U j;generalize dI ((xs.take k).flatMap Lt.cells)=s at *;generalize xs[k]?.getD Lt.zero=x at *;go_wp2_with fail;refine(KT S0 Y p0 x _ _ W.1 (by omega) (by omega) Q.1).mono ?_;rintro e w' ⟨rfl,R⟩;have q:=Hd (aA g.1 R);clear R c0 c1;by_cases h1:((dI x.cells:Nat):Int)<=L-n-s
   ·rw[fV h1];have hd2:decide (L-(n:Int)-s-((dI x.cells:Nat):Int)<0)=false:=by simp;omega
    go_wp2;go_roundw
    ·exact⟨k+1,by omega,by go_num,by rw[G.1];congr 1;omega,by rw[G.1];omega,q.1⟩
    simp[intOf];omega
   rw[eH h1];go_wp2;go_ret;exact⟨aQ (by rw[eH];have h2:=HF.1;rw[G.1]at h2;rw[J.1];omega),q.1⟩
  have B:k=n:=by omega
  subst B;have H:decide ((k:Int)<(k:Int))=false:=by simp
  have I:Hv (xs.take k=xs):=Hd<|List.take_of_length_le (by rw[z.1];exact Nat.le_refl _)
  go_wp2;go_ret;rw[I.1]at D ⊢;exact⟨aQ (by rw[J.1,fV (by omega)];omega),g.1⟩
 have hd:decide (L-(n:Int)<0)=true:=by simp;omega
 go_enter Tryz.func80,Tryz.ntmps80;go_wp2;go_ret;exact⟨aQ (by rw[eH];rw[J.1];omega),Below.refl _ _⟩
theorem KU(q:Oh)(j c0:Nat)(x:Sq)(L:Int)(w:World)(h0:RdC w w.heap.size (aI x.ins) (.slice q j c0))(U:0<=L)(H:L<=1099511627776)(hb:BdL x.cells) :
  Calls Tryz.prog 151 #[.agg #[.int .i64 x.kind,.int .i64 x.init,.slice q j c0],.int .i64 L] w fun e w'=>e=.returned (.int .i64 (qz L (dI x.cells)))/\Below w.heap.size w w':=by
 have z:=Hd (aB (Below.refl w.heap.size w) (.cells #[.int .i64 x.kind,.int .i64 x.init,.slice q j c0] 182));have V:=Hd (aG w (.cells #[.int .i64 x.kind,.int .i64 x.init,.slice q j c0] 182));have I:=Hd h0;have B:Hv (dI x.cells=szC (aI x.ins)):=Hd<|by show _=_;unfold Sq.cells;simp only[dD,dG,gJ] <;> omega
 have g:=hb;unfold Sq.cells at g;simp only[qX]at g;obtain⟨K,J,d2,_⟩:=g;have Q:=Hd d2;clear hb h0 K J d2;go_enter Tryz.func151,Tryz.ntmps151;go_wp2_with fail;refine(zw q j c0 x.ins _ _ (I.1.below z.1) (by omega) (by omega) Q.1).mono ?_;rintro _ W ⟨rfl,u⟩;have G:=Hd (aA z.1 u);have Y:=Hd u;clear u;by_cases D:((szC (aI x.ins):Nat):Int)<=L
 ·rw[fV D];have R:decide (L-((szC (aI x.ins):Nat):Int)<0)=false:=by simp;omega
  go_wp2;go_ret;exact⟨aQ (by rw[B.1,fV (by omega)] <;> omega),G.1⟩
 rw[eH D];go_wp2;go_ret;exact⟨aQ (by rw[B.1,eH (by omega)]),G.1⟩
theorem I7(A:Oh)(n c:Nat)(xs:List Sq)(L:Int)(w:World)(h:RdC w w.heap.size (aY xs) (.slice A n c))(hL:0<=L)(Z:L<=1099511627776)(hb:BdC (aY xs)) :
  Calls Tryz.prog 79 #[.slice A n c,.int .i64 L] w fun e w'=>e=.returned (.int .i64 (qz L (szC (aY xs))))/\Below w.heap.size w w':=by
 have z:Hv (xs.length=n):=Hd<|h.sqN'
 have J:Hv (szC (aY xs)=n+dI (xs.flatMap Sq.cells)):=Hd<|by show _=_;unfold aY;rw[d9 Sq.cells_length (by omega),z.1]
 have HD:Hv (∀x∈xs,BdL x.cells):=Hd<|by
  show ∀x∈xs,BdL x.cells;unfold aY at hb;exact zO.1 (vo.1 hb).2
 have HR:=Hd h
 have V:n<=9223372036854775807:=by
  unfold aY at hb;rw[En Sq.cells_length (by omega),z.1]at hb;have:=hb.1;unfold maxLen at this;omega
 clear h hb;by_cases h0:(n:Int)<=L
 ·have hd:decide (L-(n:Int)<0)=false:=by simp;omega
  go_enter Tryz.func79,Tryz.ntmps79;go_wp2
  go_loopw[1,5] (fun v i wr=>∃k:Nat,k<=n/\i=.int .i64 k/\v=.int .i64 (L-n-(dI ((xs.take k).flatMap Sq.cells):Nat))/\((dI ((xs.take k).flatMap Sq.cells):Nat):Int)<=L-n/\Below w.heap.size w wr) (fun _ i _=>n-(intOf i).toNat)
  ·exact⟨0,Nat.zero_le _,rfl,by simp[dG],by simp[dG];omega,Below.refl _ _⟩
  obtain⟨k,hk,rfl,rfl,D,u⟩:=hrel;have g:=Hd u;clear u;by_cases K:k<n
  ·have H:=dT (by omega:k<n);have j:k<xs.length:=by rw[z.1];exact K
   obtain⟨b,o,S0,Y,p0,rfl,hb,c0,c1,c2,U⟩:=HR.1.sq' (k:=k) j;have ah:b<wr.heap.size:=by have:=g.1.size;omega
   obtain⟨i0,i1⟩:=ib (by omega:k<n);rw[←g.1.cell (p:=⟨b,o+k*3,none⟩) hb]at c0;rw[←g.1.cell (p:=⟨b,o+k*3+1,none⟩) hb]at c1;rw[←g.1.cell (p:=⟨b,o+k*3+2,none⟩) hb]at c2;have W:=Hd (U.below g.1);have Q:Hv (BdL (xs[k]?.getD Sq.zero).cells):=Hd<|by show BdL _;rw[List.getElem?_eq_getElem j];exact HD.1 _ (List.getElem_mem j)
   have G:Hv (dI ((xs.take (k+1)).flatMap Sq.cells)=dI ((xs.take k).flatMap Sq.cells)+dI (xs[k]?.getD Sq.zero).cells):=Hd<|wu j
   have HF:Hv (dI ((xs.take (k+1)).flatMap Sq.cells)<=dI (xs.flatMap Sq.cells)):=Hd<|rC xs (k+1)
   clear U j;generalize dI ((xs.take k).flatMap Sq.cells)=s at *;generalize xs[k]?.getD Sq.zero=x at *;go_wp2_with fail;refine(KU S0 Y p0 x _ _ W.1 (by omega) (by omega) Q.1).mono ?_;rintro e w' ⟨rfl,R⟩;have q:=Hd (aA g.1 R);clear R c0 c1 c2;by_cases h1:((dI x.cells:Nat):Int)<=L-n-s
   ·rw[fV h1];have hd2:decide (L-(n:Int)-s-((dI x.cells:Nat):Int)<0)=false:=by simp;omega
    go_wp2;go_roundw
    ·exact⟨k+1,by omega,by go_num,by rw[G.1];congr 1;omega,by rw[G.1];omega,q.1⟩
    simp[intOf];omega
   rw[eH h1];go_wp2;go_ret;exact⟨aQ (by rw[eH];have h2:=HF.1;rw[G.1]at h2;rw[J.1];omega),q.1⟩
  have B:k=n:=by omega
  subst B;have H:decide ((k:Int)<(k:Int))=false:=by simp
  have I:Hv (xs.take k=xs):=Hd<|List.take_of_length_le (by rw[z.1];exact Nat.le_refl _)
  go_wp2;go_ret;rw[I.1]at D ⊢;exact⟨aQ (by rw[J.1,fV (by omega)];omega),g.1⟩
 have hd:decide (L-(n:Int)<0)=true:=by simp;omega
 go_enter Tryz.func79,Tryz.ntmps79;go_wp2;go_ret;exact⟨aQ (by rw[eH];rw[J.1];omega),Below.refl _ _⟩
theorem D8(q A1 A2:Oh)(j c0 n1 c1 n2 c2:Nat)(x:aU)(L:Int)(w:World)(h0:RdC w w.heap.size (aY x.seqs) (.slice q j c0))(h1:RdC w w.heap.size (aj x.luts) (.slice A1 n1 c1))(h2:RdC w w.heap.size (aI x.outs) (.slice A2 n2 c2))(hL:0<=L)(ag:L<=1099511627776)(hb:BdL x.cells) :
  Calls Tryz.prog 24 #[.agg #[.int .i64 x.inputs,.slice q j c0,.slice A1 n1 c1,.slice A2 n2 c2],.int .i64 L] w fun e w'=>e=.returned (.int .i64 (qz L (dI x.cells)))/\Below w.heap.size w w':=by
 have Q:=Hd (aB (Below.refl w.heap.size w) (.cells #[.int .i64 x.inputs,.slice q j c0,.slice A1 n1 c1,.slice A2 n2 c2] 28));have K:=Hd (aG w (.cells #[.int .i64 x.inputs,.slice q j c0,.slice A1 n1 c1,.slice A2 n2 c2] 28));obtain⟨R0,R1,R2⟩:=hd3 h0 h1 h2;have u:Hv (dI x.cells=szC (aY x.seqs)+szC (aj x.luts)+szC (aI x.outs)):=Hd<|by show _=_;unfold aU.cells;simp only[dD,dG,gJ] <;> omega
 have g:=hb;unfold aU.cells at g;simp only[qX]at g;obtain⟨d0,U,d2,d3,_⟩:=g;obtain⟨D0,D1,D2⟩:=hd3 U d2 d3;clear hb h0 h1 h2 d0 U d2 d3;go_enter Tryz.func24,Tryz.ntmps24;go_wp2_with fail;refine(I7 q j c0 x.seqs _ _ (R0.1.below Q.1) (by omega) (by omega) D0.1).mono ?_;rintro _ w1 ⟨rfl,I⟩;have J:=Hd (aA Q.1 I);have Y:=Hd I;clear I;by_cases V:((szC (aY x.seqs):Nat):Int)<=L
 ·rw[fV V];have e0:decide (L-((szC (aY x.seqs):Nat):Int)<0)=false:=by simp;omega
  obtain⟨-,-,x2,z,D⟩:=bA (aF Y.1 K.1);go_wp2_with fail;refine(I6 A1 n1 c1 x.luts _ _ (R1.1.below J.1) (by omega) (by omega) D1.1).mono ?_;rintro _ w2 ⟨rfl,B⟩;have G:=Hd (aA J.1 B);have C2:=Hd (aA Y.1 B);clear B D x2 z;by_cases R:((szC (aj x.luts):Nat):Int)<=L-((szC (aY x.seqs):Nat):Int)
  ·rw[fV R];have e1:decide (L-((szC (aY x.seqs):Nat):Int)-((szC (aj x.luts):Nat):Int)<0)=false:=by simp;omega
   obtain⟨-,-,-,z,D⟩:=bA (aF C2.1 K.1);go_wp2_with fail;refine(zw A2 n2 c2 x.outs _ _ (R2.1.below G.1) (by omega) (by omega) D2.1).mono ?_;rintro _ w3 ⟨rfl,H⟩;have Z:=Hd (aA G.1 H);have C3:=Hd (aA C2.1 H);clear H D z;by_cases W:((szC (aI x.outs):Nat):Int)<=L-((szC (aY x.seqs):Nat):Int)-((szC (aj x.luts):Nat):Int)
   ·rw[fV W];have e2:decide (L-((szC (aY x.seqs):Nat):Int)-((szC (aj x.luts):Nat):Int)-((szC (aI x.outs):Nat):Int)<0)=false:=by simp;omega
    go_wp2;go_ret;exact⟨aQ (by rw[u.1,fV (by omega)] <;> omega),Z.1⟩
   rw[eH W];go_wp2;go_ret;exact⟨aQ (by rw[u.1,eH (by omega)]),Z.1⟩
  rw[eH R];go_wp2;go_ret;exact⟨aQ (by rw[u.1,eH (by omega)]),G.1⟩
 rw[eH V];go_wp2;go_ret;exact⟨aQ (by rw[u.1,eH (by omega)]),J.1⟩
theorem jh{l:List Value}{j:Nat}(h:j<l.length)(v:Value):(l.set j v).take (j+1)=l.take j++[v]:=by
 rw[List.take_add_one,List.getElem?_set_self h,List.take_set_of_le (Nat.le_refl _)];rfl
theorem zx{α β:Type}{f:α→List β}{xs:List α}{k:Nat}{x:α}(h:xs[k]?=some x):(xs.take (k+1)).flatMap f=(xs.take k).flatMap f++f x:=by
 rw[List.take_add_one,h];simp
structure ji(w:World)(g:Nat)(e:TypeId)(s n k:Nat)(vs:List Value):Prop where
 blk:∃cur,w.heap[g]?=some (.cells cur e (0,0))/\cur.size=n*s/\cur.toList.take (k*s)=vs
 len:vs.length=k*s
theorem ji.tr{w w':World}{g:Nat}{e:TypeId}{s n k:Nat}{vs:List Value}(h:ji w g e s n k vs)(hb:Below w.heap.size w w'):ji w' g e s n k vs:=by
 obtain⟨⟨cur,h1,h2,h3⟩,j⟩:=h;exact⟨⟨cur,aF hb h1,h2,h3⟩,j⟩
theorem ji.lt{w:World}{g:Nat}{e:TypeId}{s n k:Nat}{vs:List Value}(h:ji w g e s n k vs):g<w.heap.size:=by
 obtain⟨⟨cur,h1,h2,h3⟩,j⟩:=h;exact aH h1
theorem ji.cell{w:World}{g:Nat}{e:TypeId}{s n k:Nat}{vs:List Value}(h:ji w g e s n k vs)(hk:k<n)(j:Nat)(hj:j<s):∃u,w.cell? ⟨g,k*s+j,none⟩=some u:=by
 obtain⟨⟨cur,h1,h2,h3⟩,z⟩:=h;have hm:=Nat.mul_le_mul_right s (show k+1<=n by omega);rw[Nat.succ_mul]at hm;have q:k*s+j<cur.size:=by omega
 exact⟨cur[k*s+j],by unfold World.cell?;rw[h1];simp[q]⟩
theorem ji.frozen{w:World}{g:Nat}{e:TypeId}{s n k:Nat}{vs:List Value}(h:ji w g e s n k vs)(j:Nat):w.frozen? ⟨g,j,none⟩=false:=by
 obtain⟨⟨cur,h1,h2,h3⟩,q⟩:=h;exact aN h1 j
theorem ji.put2{w:World}{g:Nat}{e:TypeId}{n k:Nat}{vs:List Value}(h:ji w g e 2 n k vs)(hk:k<n)(j q:Value):ji ((w.setCell ⟨g,k*2,none⟩ j).setCell ⟨g,k*2+1,none⟩ q) g e 2 n (k+1) (vs++[j,q]):=by
 obtain⟨⟨cur,h1,h2,h3⟩,u⟩:=h;refine⟨⟨_,nP (nP h1 _ j) _ q,by simp[h2],?_⟩,by simp[u];omega⟩;have hl:cur.toList.length=n*2:=by rw[Array.length_toList,h2]
 simp only[Array.toList_setIfInBounds];rw[show(k+1)*2=k*2+1+1 by omega,jh (by simp;omega),jh (by omega),h3];simp
theorem ji.put3{w:World}{g:Nat}{e:TypeId}{n k:Nat}{vs:List Value}(h:ji w g e 3 n k vs)(hk:k<n)(j q u:Value):ji (((w.setCell ⟨g,k*3,none⟩ j).setCell ⟨g,k*3+1,none⟩ q).setCell ⟨g,k*3+2,none⟩ u) g e 3 n (k+1) (vs++[j,q,u]):=by
 obtain⟨⟨cur,h1,h2,h3⟩,z⟩:=h;refine⟨⟨_,nP (nP (nP h1 _ j) _ q) _ u,by simp[h2],?_⟩,by simp[z];omega⟩;have hl:cur.toList.length=n*3:=by rw[Array.length_toList,h2]
 simp only[Array.toList_setIfInBounds];rw[show(k+1)*3=k*3+2+1 by omega,jh (by simp;omega),show k*3+2=k*3+1+1 from rfl,jh (by simp;omega),jh (by omega),h3];simp
theorem ji.new{w:World}{e:TypeId}{s n:Nat}{cur:Array Value}(h:cur.size=n*s):ji (w.alloc (.cells cur e)) w.heap.size e s n 0 []:=⟨⟨cur,aG _ _,h,by simp⟩,by simp⟩
theorem ji.own{w:World}{g hi:Nat}{e:TypeId}{s n:Nat}{vs:List Value}{cs:List Cel}(h:ji w g e s n n vs)(hn:n<=maxLen)(ho:iD (g+1) hi w cs vs)(q:g<hi):iM g hi w (.row e s cs) (.slice (some ⟨g,0,none⟩) n n):=by
 obtain⟨⟨cur,h1,h2,h3⟩,j⟩:=h;obtain⟨F,k1,k2,k3⟩:=ho;refine⟨g::F,?_,?_,fun k hk=>?_⟩
 ·rw[dV];exact⟨_,n,n,vs,F,rfl,⟨j,.inr ⟨g,n,cur,rfl,Nat.zero_le _,h1,Nat.le_refl _,hn,h2,h3⟩⟩,rfl,k1⟩
 ·rw[List.nodup_cons];exact⟨fun hm=>by have:=k3 g hm;omega,k2⟩
 rw[List.mem_cons]at hk
 rcases hk with rfl|hk
 ·omega
 have:=k3 k hk;omega
theorem iD.chgZ{lo hi j g:Nat}{w w':World}{cs:List Cel}{vs:List Value}(h:iD lo hi w cs vs)(hg:Chg j g w w')(q:hi<=j∨g<=lo):iD lo hi w' cs vs:=h.keep fun k h1 h2 hk=>hg.block k hk (by omega)
theorem iD.appZ{lo j g hi:Nat}{w:World}{cs u:List Cel}{vs D:List Value}(h:iD lo j w cs vs)(k:iD g hi w u D)(h1:j<=g)(h2:lo<=g)(h3:j<=hi):iD lo hi w (cs++u) (vs++D):=by
 obtain⟨F,I,H,B⟩:=h;obtain⟨G,J,K,z⟩:=k;refine⟨F++G,I.append J,?_,fun k hk=>?_⟩
 ·rw[List.nodup_append];exact⟨H,K,fun p hp q hq e=>by have:=B p hp;have:=z q hq;omega⟩
 rcases List.mem_append.1 hk with hk|hk
 ·have:=B k hk;omega
 have:=z k hk;omega
def Pc.ces:Pc→List Cel
 | .cel c _=>[c]
 | .cels cs _=>cs
 | .own _ _=>[]
def Pc.vals:Pc→List Value
 | .cel _ v=>[v]
 | .cels _ vs=>vs
 | .own _ _=>[]
def Pc.isTree:Pc→Bool
 | .own _ _=>false
 | _=>true
theorem iW.ownL{w:World}:∀{j:List Pc} {F:List Nat},j.all Pc.isTree=true→iW w j F→dh w (j.flatMap Pc.ces) (j.flatMap Pc.vals) F
 | [],F,_,h=>by rw[show F=[] from h];exact dH.2 ⟨rfl,rfl⟩
 | p::j,F,ht,h=>by
  obtain⟨q,F2,rfl,h1,h2⟩:=h;rw[List.all_cons,Bool.and_eq_true]at ht;rw[List.flatMap_cons,List.flatMap_cons];refine dh.append ?_ (iW.ownL ht.2 h2)
  cases p with
  | cel c v=>exact bU.2 ⟨v,[],q,[],rfl,(List.append_nil _).symm,h1,dH.2 ⟨rfl,rfl⟩⟩
  | cels cs vs=>exact h1
  | own g P=>exact absurd ht.1 (by simp[Pc.isTree])
theorem aD.ownsL{W w:World}{g:List Pc}(h:aD W w g)(ht:g.all Pc.isTree=true):iD W.heap.size w.heap.size w (g.flatMap Pc.ces) (g.flatMap Pc.vals):=by
 obtain⟨_,F,h2,h3,j⟩:=h;exact⟨F,h2.ownL ht,h3,fun k hk=>⟨j k hk,h2.lt k hk⟩⟩
theorem aD.pushInt{W w:World}{g:List Pc}(h:aD W w g)(x:Int):aD W w (g++[.cel (.int x) (.int .i64 x)]) :=
 h.push (Below.refl _ _) (G:=[]) (show dJ w (.int x) (.int .i64 x) [] from dZ.2 ⟨rfl,rfl⟩) (by simp) (by simp)
theorem aD.pushLs{W w w':World}{g:List Pc}{cs:List Cel}{vs:List Value}{hi:Nat}(h:aD W w g)(hb:Below w.heap.size w w')(ho:iD w.heap.size hi w' cs vs):aD W w' (g++[.cels cs vs]):=by
 obtain⟨F,h1,h2,h3⟩:=ho;exact h.push hb h1 h2 fun k hk=>(h3 k hk).1
theorem tN(w:World)(c0 c1 c2:Array Value)(g j q:TypeId):aD w (((w.alloc (.cells c0 g)).alloc (.cells c1 j)).alloc (.cells c2 q)) [.blk w.heap.size c0 g,.blk (w.heap.size+1) c1 j,.blk (w.heap.size+1+1) c2 q]:=by
 have h:=(((aD.refl w).pushBlk c0 g).pushBlk c1 j).pushBlk c2 q;have e1:(w.alloc (.cells c0 g)).heap.size=w.heap.size+1:=by simp
 have e2:((w.alloc (.cells c0 g)).alloc (.cells c1 j)).heap.size=w.heap.size+1+1:=by simp
 rw[e1,e2]at h;exact h
theorem OW{w:World}{g:Nat}{cs:Array Value}{t:TypeId}(h:w.heap[g]?=some (.cells cs t (0,0))){j:Nat}{v:Value}(hj:cs[j]?=some v):w.cell? ⟨g,j,none⟩=some v:=by
 unfold World.cell?;rw[h]
 simpa using hj
theorem zy(A:Oh)(n c:Nat)(xs:List Int)(w:World)(h:RdC w w.heap.size (aI xs) (.slice A n c))(g:szC (aI xs)<=1048576) :
  Calls Tryz.prog 43 #[.slice A n c] w fun e w'=>∃B,e=.returned (.slice B n n)/\iM w.heap.size w'.heap.size w' (aI xs) (.slice B n n)/\Below w.heap.size w w':=by
 have hn:=h.ints.1;rw[pE,hn]at g;refine(Iz A n c xs w h.ints (by omega)).mono ?_;rintro e w' ⟨B,rfl,ho,hb⟩;exact⟨B,rfl,⟨blk B,gy.2 ⟨ho.more (Nat.zero_le _),rfl⟩,by cases B <;> simp[blk],fun k hk=>by obtain⟨a,rfl,rfl⟩:=nW.1 hk;exact ho.lt a rfl⟩,hb⟩
theorem KW(B:Oh)(g c0:Nat)(x:Lt)(w:World)(h0:RdC w w.heap.size (aI x.ins) (.slice B g c0))(hz:dI x.cells<=1048576) :
  Calls Tryz.prog 173 #[.agg #[.slice B g c0,.int .i64 x.mask]] w fun e w'=>∃q,e=.returned (.agg #[.slice q g g,.int .i64 x.mask])/\iD w.heap.size w'.heap.size w' x.cells [.slice q g g,.int .i64 x.mask]/\Below w.heap.size w w':=by
 have R0:=Hd h0;have HS:dI x.cells=szC (aI x.ins):=by unfold Lt.cells;simp only[dD,dG,gJ] <;> omega
 have Z0:Hv (szC (aI x.ins)<=1048576):=Hd<|by show _<=_;omega
 have D:=Hd (tN w #[.slice B g c0,.int .i64 x.mask] #[.slice none 0 0,.int .i64 0] #[.slice none 0 0,.int .i64 0] 184 96 96);have W:w.heap.size≠w.heap.size+1+1:=by omega
 have Z:w.heap.size+1≠w.heap.size+1+1:=by omega
 have Y:w.heap.size≠w.heap.size+1:=by omega
 clear HS hz h0;go_enter Tryz.func173,Tryz.ntmps173;go_upto_region 2 with fail;generalize ((w.alloc (.cells #[.slice B g c0,.int .i64 x.mask] 184)).alloc (.cells #[.slice none 0 0,.int .i64 0] 96)).alloc (.cells #[.slice none 0 0,.int .i64 0] 96)=w0 at *;have z:=(D.1.blk 0 rfl).1;have u:=(D.1.blk 1 rfl).1;have j:=(D.1.blk 2 rfl).1;obtain⟨I,R⟩:=cs2 z;obtain⟨Q,H⟩:=cs2 j;have U:=fun k=>aN j k;have l0:=aH z;have l1:=aH u;have l2:=aH j;clear z u j;go_wp2_with fail;refine(zy B g c0 x.ins _ (R0.1.below D.1.bel) Z0.1).mono ?_;rintro _ K ⟨q,rfl,V,b1⟩;have G:Hv (aD w (K) [.blk w.heap.size #[.slice B g c0,.int .i64 x.mask] 184,.blk (w.heap.size+1) #[.slice none 0 0,.int .i64 0] 96,.blk (w.heap.size+1+1) #[.slice none 0 0,.int .i64 0] 96,.cel (aI x.ins) (.slice q g g)]):=Hd<|(D.1.pushT b1 V)
 clear V b1 I R Q H U l0 l1 l2;have z:=(G.1.blk 0 rfl).1;have u:=(G.1.blk 1 rfl).1;have j:=(G.1.blk 2 rfl).1;obtain⟨I,R⟩:=cs2 z;obtain⟨Q,H⟩:=cs2 j;have U:=fun k=>aN j k;obtain⟨u0,u1⟩:=cs2 u;have y1:=fun k=>aN u k;have l0:=aH z;have l1:=aH u;have l2:=aH j;clear z u j;have J:Hv (aD w ((((K.setCell ⟨w.heap.size+1+1,0,none⟩ (.slice q g g)).setCell ⟨w.heap.size+1+1,1,none⟩ (.int .i64 x.mask)).setCell ⟨w.heap.size+1,0,none⟩ (.slice q g g)).setCell ⟨w.heap.size+1,1,none⟩ (.int .i64 x.mask)) [.blk w.heap.size #[.slice B g c0,.int .i64 x.mask] 184,.blk (w.heap.size+1) #[.slice q g g,.int .i64 x.mask] 96,.blk (w.heap.size+1+1) #[.slice q g g,.int .i64 x.mask] 96,.cel (aI x.ins) (.slice q g g),.cel (.int x.mask) (.int .i64 x.mask)]):=Hd<|(((((G.1.put 2 rfl 0 (.slice q g g)).put 2 rfl 1 (.int .i64 x.mask)).pushInt x.mask).put 1 rfl 0 (.slice q g g)).put 1 rfl 1 (.int .i64 x.mask))
 go_wp2_with fail;generalize (((K.setCell ⟨w.heap.size+1+1,0,none⟩ (.slice q g g)).setCell ⟨w.heap.size+1+1,1,none⟩ (.int .i64 x.mask)).setCell ⟨w.heap.size+1,0,none⟩ (.slice q g g)).setCell ⟨w.heap.size+1,1,none⟩ (.int .i64 x.mask)=WF at *;clear I R Q H U u0 u1 y1 l0 l1 l2;have hb:WF.heap[w.heap.size+1]?=some (.cells #[.slice q g g,.int .i64 x.mask] 96 (0,0)):=(J.1.blk 1 rfl).1;exact bodyPost_ret (v := .agg #[.slice q g g,.int .i64 x.mask]) (kL Tryz.results173 rfl hb Tryz.underlying96 (by kernel_rfl)) rfl ⟨q,rfl,J.1.tail.tail.tail.ownsL rfl,J.1.bel⟩
theorem MP:(Tryz.prog.info? 96).map (fun i=>(i.zero,i.size,i.bytes))=some (some (.agg #[.slice none 0 0,.int .i64 0]),2,32):=by kernel_rfl
theorem I8(A:Oh)(n c:Nat)(xs:List Lt)(w:World)(h:RdC w w.heap.size (aj xs) (.slice A n c))(hz:szC (aj xs)<=1048576) :
  Calls Tryz.prog 90 #[.slice A n c] w fun e w'=>∃B,e=.returned (.slice B n n)/\iM w.heap.size w'.heap.size w' (aj xs) (.slice B n n)/\Below w.heap.size w w':=by
 obtain⟨i0,hi,J,ag,Z⟩:=info_parts MP;have H:xs.length=n:=h.lutN';have HT:szC (aj xs)=n+dI (xs.flatMap Lt.cells):=by unfold aj;rw[d9 Lt.cells_length (by omega),H]
 have hn:n<=1048576:=by omega
 have HZ:Hv (dI (xs.flatMap Lt.cells)<=1048576):=Hd<|by show _<=_;omega
 have Q:=fun W=>dQ (P:=Tryz.prog) 39 96 i0 _ Tryz.underlying39 hi J .i64 .i64 n n (Nat.le_refl _) (by rw[Z];omega) (by omega) W;have G:∀z:Array Value,(madeCells z (n*i0.size)).size=n*2:=fun z=>by rw[size_madeCells,ag]
 generalize ak:madeCells _ (n*i0.size)=cz at Q;have Y:cz.size=n*2:=by rw[←ak];exact G _
 clear hi J ag Z G ak HT hz;obtain⟨HX,HR⟩:=hd2 H h;clear h H;go_enter Tryz.func90,Tryz.ntmps90;go_wp2
 go_loopw[4] (fun i wr=>∃(k:Nat) (vs:List Value),k<=n/\i=.int .i64 k/\ji wr w.heap.size 96 2 n k vs/\iD (w.heap.size+1) wr.heap.size wr ((xs.take k).flatMap Lt.cells) vs/\Below w.heap.size w wr/\w.heap.size<wr.heap.size) (fun i _=>n-(intOf i).toNat)
 ·exact⟨0,[],Nat.zero_le _,rfl,ji.new Y,by simpa using iD.nil,aB (Below.refl _ _) _,by simp⟩
 obtain⟨k,vs,hk,rfl,K,ad,V,au⟩:=hrel;obtain⟨ae,R,q⟩:=hd3 K ad V;clear K ad V Q;by_cases u:k<n
 ·have ao:=dT (by omega:k<n);have D:k<xs.length:=by rw[HX.1];exact u
  obtain⟨b,o,S0,I,p0,rfl,hb,c0,c1,r0⟩:=HR.1.lut' (k:=k) D;have aO:b<wr.heap.size:=by have:=q.1.size;omega
  obtain⟨i0,i1⟩:=ib (by omega:k<n);rw[←q.1.cell (p:=⟨b,o+k*2,none⟩) hb]at c0;rw[←q.1.cell (p:=⟨b,o+k*2+1,none⟩) hb]at c1;have Q0:=Hd (r0.below q.1);clear r0;have az:Hv (dI (xs[k]?.getD Lt.zero).cells<=1048576):=Hd<|by show _<=_;exact Nat.le_trans (mK D) HZ.1
  have ay:=Hd (zx (f:=Lt.cells) (getD_some Lt.zero D:xs[k]?=some (xs[k]?.getD Lt.zero)));clear D;generalize xs[k]?.getD Lt.zero=x at *;go_wp2_with fail;refine(KW S0 I p0 x _ Q0.1 az.1).mono ?_;rintro e w2 ⟨B0,rfl,o2,b2⟩;have aq:=b2.size;have g:=Hd (ae.1.tr b2);have U:=Hd (R.1.below b2);have ai:=Hd (aA q.1 b2);have O2:=Hd o2;have aL:=g.1.lt;clear o2 b2 c0 c1;obtain⟨u0,f0⟩:=g.1.cell u 0 (by omega);rw[Nat.add_zero]at f0;obtain⟨u1,f1⟩:=g.1.cell u 1 (by omega);have fz:=fun j=>g.1.frozen j;go_wp2_with fail;clear f0 f1 fz;have HP:=Hd (g.1.put2 u (.slice B0 I I) (.int .i64 x.mask))
  have hC:Chg w.heap.size (w.heap.size+1) w2 ((w2.setCell ⟨w.heap.size,k*2,none⟩ (.slice B0 I I)).setCell ⟨w.heap.size,k*2+1,none⟩ (.int .i64 x.mask)):=by
   repeat(first|exact Chg.refl _ _ _|refine Chg.set ?_ (Nat.le_refl _) (Nat.lt_succ_self _) _)
  have av:=hC.size;have ar:=Hd (U.1.chgZ hC (.inr (Nat.le_refl _)));have aw:=Hd (O2.1.chgZ hC (.inr (by omega)));have ap:=Hd (xP ai.1 hC (Nat.le_refl _));generalize ax:World.setCell _ _ _=WE at *;clear ax hC;go_roundw
  case rel =>
   refine⟨k+1,_,by omega,by go_num,HP.1,?_,ap.1,by omega⟩;rw[ay.1];exact(ar.1.appZ aw.1 (Nat.le_refl _) (by omega) aq).widen (Nat.le_refl _) av
  simp[intOf];omega
 have am:k=n:=by omega
 subst am;have ao:decide ((k:Int)<(k:Int))=false:=by simp
 go_wp2;go_ret;refine⟨_,rfl,?_,q.1⟩;have h:=R.1;rw[List.take_of_length_le (by rw[HX.1];exact Nat.le_refl _)]at h;exact ae.1.own (by unfold maxLen;omega) h au
theorem KX(B:Oh)(g c0:Nat)(x:Sq)(w:World)(h0:RdC w w.heap.size (aI x.ins) (.slice B g c0))(hz:dI x.cells<=1048576) :
  Calls Tryz.prog 172 #[.agg #[.int .i64 x.kind,.int .i64 x.init,.slice B g c0]] w fun e w'=>∃q,e=.returned (.agg #[.int .i64 x.kind,.int .i64 x.init,.slice q g g])/\iD w.heap.size w'.heap.size w' x.cells [.int .i64 x.kind,.int .i64 x.init,.slice q g g]/\Below w.heap.size w w':=by
 have R0:=Hd h0;have HS:dI x.cells=szC (aI x.ins):=by unfold Sq.cells;simp only[dD,dG,gJ] <;> omega
 have Z2:Hv (szC (aI x.ins)<=1048576):=Hd<|by show _<=_;omega
 have G:=Hd (tN w #[.int .i64 x.kind,.int .i64 x.init,.slice B g c0] #[.int .i64 0,.int .i64 0,.slice none 0 0] #[.int .i64 0,.int .i64 0,.slice none 0 0] 182 91 91);have Z:w.heap.size≠w.heap.size+1+1:=by omega
 have ae:w.heap.size+1≠w.heap.size+1+1:=by omega
 have ad:w.heap.size≠w.heap.size+1:=by omega
 clear HS hz h0;go_enter Tryz.func172,Tryz.ntmps172;go_upto_region 2 with fail;generalize ((w.alloc (.cells #[.int .i64 x.kind,.int .i64 x.init,.slice B g c0] 182)).alloc (.cells #[.int .i64 0,.int .i64 0,.slice none 0 0] 91)).alloc (.cells #[.int .i64 0,.int .i64 0,.slice none 0 0] 91)=w0 at *;have z:=(G.1.blk 0 rfl).1;have u:=(G.1.blk 1 rfl).1;have j:=(G.1.blk 2 rfl).1;obtain⟨K,U,J⟩:=cs3 z;obtain⟨R,H,I⟩:=cs3 j;have W:=fun k=>aN j k;have l0:=aH z;have l1:=aH u;have l2:=aH j;clear z u j;have Q1:Hv (aD w ((w0.setCell ⟨w.heap.size+1+1,0,none⟩ (.int .i64 x.kind)).setCell ⟨w.heap.size+1+1,1,none⟩ (.int .i64 x.init)) [.blk w.heap.size #[.int .i64 x.kind,.int .i64 x.init,.slice B g c0] 182,.blk (w.heap.size+1) #[.int .i64 0,.int .i64 0,.slice none 0 0] 91,.blk (w.heap.size+1+1) #[.int .i64 x.kind,.int .i64 x.init,.slice none 0 0] 91,.cel (.int x.kind) (.int .i64 x.kind),.cel (.int x.init) (.int .i64 x.init)]):=Hd<|((((G.1.put 2 rfl 0 (.int .i64 x.kind)).pushInt x.kind).put 2 rfl 1 (.int .i64 x.init)).pushInt x.init)
 go_wp2_with fail;refine(zy B g c0 x.ins _ (R0.1.below Q1.1.bel) Z2.1).mono ?_;rintro _ Q ⟨q,rfl,Y,b1⟩;have D:Hv (aD w (Q) [.blk w.heap.size #[.int .i64 x.kind,.int .i64 x.init,.slice B g c0] 182,.blk (w.heap.size+1) #[.int .i64 0,.int .i64 0,.slice none 0 0] 91,.blk (w.heap.size+1+1) #[.int .i64 x.kind,.int .i64 x.init,.slice none 0 0] 91,.cel (.int x.kind) (.int .i64 x.kind),.cel (.int x.init) (.int .i64 x.init),.cel (aI x.ins) (.slice q g g)]):=Hd<|(Q1.1.pushT b1 Y)
 clear Y b1 K U J R H I W l0 l1 l2;have z:=(D.1.blk 0 rfl).1;have u:=(D.1.blk 1 rfl).1;have j:=(D.1.blk 2 rfl).1;obtain⟨K,U,J⟩:=cs3 z;obtain⟨R,H,I⟩:=cs3 j;have W:=fun k=>aN j k;obtain⟨u0,u1,u2⟩:=cs3 u;have y1:=fun k=>aN u k;have l0:=aH z;have l1:=aH u;have l2:=aH j;clear z u j;have V:Hv (aD w ((((Q.setCell ⟨w.heap.size+1+1,2,none⟩ (.slice q g g)).setCell ⟨w.heap.size+1,0,none⟩ (.int .i64 x.kind)).setCell ⟨w.heap.size+1,1,none⟩ (.int .i64 x.init)).setCell ⟨w.heap.size+1,2,none⟩ (.slice q g g)) [.blk w.heap.size #[.int .i64 x.kind,.int .i64 x.init,.slice B g c0] 182,.blk (w.heap.size+1) #[.int .i64 x.kind,.int .i64 x.init,.slice q g g] 91,.blk (w.heap.size+1+1) #[.int .i64 x.kind,.int .i64 x.init,.slice q g g] 91,.cel (.int x.kind) (.int .i64 x.kind),.cel (.int x.init) (.int .i64 x.init),.cel (aI x.ins) (.slice q g g)]):=Hd<|((((D.1.put 2 rfl 2 (.slice q g g)).put 1 rfl 0 (.int .i64 x.kind)).put 1 rfl 1 (.int .i64 x.init)).put 1 rfl 2 (.slice q g g))
 go_wp2_with fail;generalize (((Q.setCell ⟨w.heap.size+1+1,2,none⟩ (.slice q g g)).setCell ⟨w.heap.size+1,0,none⟩ (.int .i64 x.kind)).setCell ⟨w.heap.size+1,1,none⟩ (.int .i64 x.init)).setCell ⟨w.heap.size+1,2,none⟩ (.slice q g g)=WF at *;clear K U J R H I W u0 u1 u2 y1 l0 l1 l2;have hb:WF.heap[w.heap.size+1]?=some (.cells #[.int .i64 x.kind,.int .i64 x.init,.slice q g g] 91 (0,0)):=(V.1.blk 1 rfl).1;exact bodyPost_ret (v := .agg #[.int .i64 x.kind,.int .i64 x.init,.slice q g g]) (kL Tryz.results172 rfl hb Tryz.underlying91 (by kernel_rfl)) rfl ⟨q,rfl,V.1.tail.tail.tail.ownsL rfl,V.1.bel⟩
theorem MQ:(Tryz.prog.info? 91).map (fun i=>(i.zero,i.size,i.bytes))=some (some (.agg #[.int .i64 0,.int .i64 0,.slice none 0 0]),3,40):=by kernel_rfl
theorem I9(A:Oh)(n c:Nat)(xs:List Sq)(w:World)(h:RdC w w.heap.size (aY xs) (.slice A n c))(hz:szC (aY xs)<=1048576) :
  Calls Tryz.prog 89 #[.slice A n c] w fun e w'=>∃B,e=.returned (.slice B n n)/\iM w.heap.size w'.heap.size w' (aY xs) (.slice B n n)/\Below w.heap.size w w':=by
 obtain⟨i0,hi,J,ag,Z⟩:=info_parts MQ;have H:xs.length=n:=h.sqN';have HT:szC (aY xs)=n+dI (xs.flatMap Sq.cells):=by unfold aY;rw[d9 Sq.cells_length (by omega),H]
 have hn:n<=1048576:=by omega
 have HZ:Hv (dI (xs.flatMap Sq.cells)<=1048576):=Hd<|by show _<=_;omega
 have Q:=fun W=>dQ (P:=Tryz.prog) 38 91 i0 _ Tryz.underlying38 hi J .i64 .i64 n n (Nat.le_refl _) (by rw[Z];omega) (by omega) W;have G:∀z:Array Value,(madeCells z (n*i0.size)).size=n*3:=fun z=>by rw[size_madeCells,ag]
 generalize aj:madeCells _ (n*i0.size)=cz at Q;have Y:cz.size=n*3:=by rw[←aj];exact G _
 clear hi J ag Z G aj HT hz;obtain⟨HX,HR⟩:=hd2 H h;clear h H;go_enter Tryz.func89,Tryz.ntmps89;go_wp2
 go_loopw[4] (fun i wr=>∃(k:Nat) (vs:List Value),k<=n/\i=.int .i64 k/\ji wr w.heap.size 91 3 n k vs/\iD (w.heap.size+1) wr.heap.size wr ((xs.take k).flatMap Sq.cells) vs/\Below w.heap.size w wr/\w.heap.size<wr.heap.size) (fun i _=>n-(intOf i).toNat)
 ·exact⟨0,[],Nat.zero_le _,rfl,ji.new Y,by simpa using iD.nil,aB (Below.refl _ _) _,by simp⟩
 obtain⟨k,vs,hk,rfl,K,ad,V,ar⟩:=hrel;obtain⟨ae,R,q⟩:=hd3 K ad V;clear K ad V Q;by_cases u:k<n
 ·have am:=dT (by omega:k<n);have D:k<xs.length:=by rw[HX.1];exact u
  obtain⟨b,o,S0,I,p0,rfl,hb,c0,c1,c2,r0⟩:=HR.1.sq' (k:=k) D;have aN:b<wr.heap.size:=by have:=q.1.size;omega
  obtain⟨i0,i1⟩:=ib (by omega:k<n);rw[←q.1.cell (p:=⟨b,o+k*3,none⟩) hb]at c0;rw[←q.1.cell (p:=⟨b,o+k*3+1,none⟩) hb]at c1;rw[←q.1.cell (p:=⟨b,o+k*3+2,none⟩) hb]at c2;have Q0:=Hd (r0.below q.1);clear r0;have ay:Hv (dI (xs[k]?.getD Sq.zero).cells<=1048576):=Hd<|by show _<=_;exact Nat.le_trans (mK D) HZ.1
  have ax:=Hd (zx (f:=Sq.cells) (getD_some Sq.zero D:xs[k]?=some (xs[k]?.getD Sq.zero)));clear D;generalize xs[k]?.getD Sq.zero=x at *;go_wp2_with fail;refine(KX S0 I p0 x _ Q0.1 ay.1).mono ?_;rintro e w2 ⟨B0,rfl,o2,b2⟩;have ap:=b2.size;have g:=Hd (ae.1.tr b2);have U:=Hd (R.1.below b2);have ai:=Hd (aA q.1 b2);have O2:=Hd o2;have aK:=g.1.lt;clear o2 b2 c0 c1 c2;obtain⟨u0,f0⟩:=g.1.cell u 0 (by omega);rw[Nat.add_zero]at f0;obtain⟨u1,f1⟩:=g.1.cell u 1 (by omega);obtain⟨u2,f2⟩:=g.1.cell u 2 (by omega);have fz:=fun j=>g.1.frozen j;go_wp2_with fail;clear f0 f1 f2 fz;have HP:=Hd (g.1.put3 u (.int .i64 x.kind) (.int .i64 x.init) (.slice B0 I I))
  have hC:Chg w.heap.size (w.heap.size+1) w2 (((w2.setCell ⟨w.heap.size,k*3,none⟩ (.int .i64 x.kind)).setCell ⟨w.heap.size,k*3+1,none⟩ (.int .i64 x.init)).setCell ⟨w.heap.size,k*3+2,none⟩ (.slice B0 I I)):=by
   repeat(first|exact Chg.refl _ _ _|refine Chg.set ?_ (Nat.le_refl _) (Nat.lt_succ_self _) _)
  have au:=hC.size;have aq:=Hd (U.1.chgZ hC (.inr (Nat.le_refl _)));have av:=Hd (O2.1.chgZ hC (.inr (by omega)));have ao:=Hd (xP ai.1 hC (Nat.le_refl _));generalize aw:World.setCell _ _ _=WE at *;clear aw hC;go_roundw
  case rel =>
   refine⟨k+1,_,by omega,by go_num,HP.1,?_,ao.1,by omega⟩;rw[ax.1];exact(aq.1.appZ av.1 (Nat.le_refl _) (by omega) ap).widen (Nat.le_refl _) au
  simp[intOf];omega
 have al:k=n:=by omega
 subst al;have am:decide ((k:Int)<(k:Int))=false:=by simp
 go_wp2;go_ret;refine⟨_,rfl,?_,q.1⟩;have h:=R.1;rw[List.take_of_length_le (by rw[HX.1];exact Nat.le_refl _)]at h;exact ae.1.own (by unfold maxLen;omega) h ar
theorem EB(G A1 A2:Oh)(g c0 n1 c1 n2 c2:Nat)(x:aU)(w:World)(h0:RdC w w.heap.size (aY x.seqs) (.slice G g c0))(h1:RdC w w.heap.size (aj x.luts) (.slice A1 n1 c1))(h2:RdC w w.heap.size (aI x.outs) (.slice A2 n2 c2))(hz:dI x.cells<=1048576) :
  Calls Tryz.prog 26 #[.agg #[.int .i64 x.inputs,.slice G g c0,.slice A1 n1 c1,.slice A2 n2 c2]] w fun e w'=>∃z B D,e=.returned (.agg #[.int .i64 x.inputs,.slice z g g,.slice B n1 n1,.slice D n2 n2])/\iD w.heap.size w'.heap.size w' x.cells [.int .i64 x.inputs,.slice z g g,.slice B n1 n1,.slice D n2 n2]/\Below w.heap.size w w':=by
 obtain⟨R0,R1,R2⟩:=hd3 h0 h1 h2;have HS:dI x.cells=szC (aY x.seqs)+szC (aj x.luts)+szC (aI x.outs):=by unfold aU.cells;simp only[dD,dG,gJ] <;> omega
 have Z1:Hv (szC (aY x.seqs)<=1048576):=Hd<|by show _<=_;omega
 have Z2:Hv (szC (aj x.luts)<=1048576):=Hd<|by show _<=_;omega
 have Z3:Hv (szC (aI x.outs)<=1048576):=Hd<|by show _<=_;omega
 have Z:=Hd (tN w #[.int .i64 x.inputs,.slice G g c0,.slice A1 n1 c1,.slice A2 n2 c2] #[.int .i64 0,.slice none 0 0,.slice none 0 0,.slice none 0 0] #[.int .i64 0,.slice none 0 0,.slice none 0 0,.slice none 0 0] 28 41 41);have al:w.heap.size≠w.heap.size+1+1:=by omega
 have au:w.heap.size+1≠w.heap.size+1+1:=by omega
 have am:w.heap.size≠w.heap.size+1:=by omega
 clear HS hz h0 h1 h2;go_enter Tryz.func26,Tryz.ntmps26;go_upto_region 2 with fail;generalize ((w.alloc (.cells #[.int .i64 x.inputs,.slice G g c0,.slice A1 n1 c1,.slice A2 n2 c2] 28)).alloc (.cells #[.int .i64 0,.slice none 0 0,.slice none 0 0,.slice none 0 0] 41)).alloc (.cells #[.int .i64 0,.slice none 0 0,.slice none 0 0,.slice none 0 0] 41)=w0 at *;have q:=(Z.1.blk 0 rfl).1;have u:=(Z.1.blk 1 rfl).1;have j:=(Z.1.blk 2 rfl).1;obtain⟨Q,V,J,K⟩:=cs4 q;obtain⟨U,H,I,R⟩:=cs4 j;have W:=fun k=>aN j k;have l0:=aH q;have l1:=aH u;have l2:=aH j;clear q u j;have Q1:Hv (aD w (w0.setCell ⟨w.heap.size+1+1,0,none⟩ (.int .i64 x.inputs)) [.blk w.heap.size #[.int .i64 x.inputs,.slice G g c0,.slice A1 n1 c1,.slice A2 n2 c2] 28,.blk (w.heap.size+1) #[.int .i64 0,.slice none 0 0,.slice none 0 0,.slice none 0 0] 41,.blk (w.heap.size+1+1) #[.int .i64 x.inputs,.slice none 0 0,.slice none 0 0,.slice none 0 0] 41,.cel (.int x.inputs) (.int .i64 x.inputs)]):=Hd<|((Z.1.put 2 rfl 0 (.int .i64 x.inputs)).pushInt x.inputs)
 go_wp2_with fail;refine(I9 G g c0 x.seqs _ (R0.1.below Q1.1.bel) Z1.1).mono ?_;rintro _ w1 ⟨z,rfl,o1,b1⟩;have Y:Hv (aD w (w1) [.blk w.heap.size #[.int .i64 x.inputs,.slice G g c0,.slice A1 n1 c1,.slice A2 n2 c2] 28,.blk (w.heap.size+1) #[.int .i64 0,.slice none 0 0,.slice none 0 0,.slice none 0 0] 41,.blk (w.heap.size+1+1) #[.int .i64 x.inputs,.slice none 0 0,.slice none 0 0,.slice none 0 0] 41,.cel (.int x.inputs) (.int .i64 x.inputs),.cel (aY x.seqs) (.slice z g g)]):=Hd<|(Q1.1.pushT b1 o1)
 clear o1 b1 Q V J K U H I R W l0 l1 l2;have q:=(Y.1.blk 0 rfl).1;have u:=(Y.1.blk 1 rfl).1;have j:=(Y.1.blk 2 rfl).1;obtain⟨Q,V,J,K⟩:=cs4 q;obtain⟨U,H,I,R⟩:=cs4 j;have W:=fun k=>aN j k;have l0:=aH q;have l1:=aH u;have l2:=aH j;clear q u j;have Q3:Hv (aD w (w1.setCell ⟨w.heap.size+1+1,1,none⟩ (.slice z g g)) [.blk w.heap.size #[.int .i64 x.inputs,.slice G g c0,.slice A1 n1 c1,.slice A2 n2 c2] 28,.blk (w.heap.size+1) #[.int .i64 0,.slice none 0 0,.slice none 0 0,.slice none 0 0] 41,.blk (w.heap.size+1+1) #[.int .i64 x.inputs,.slice z g g,.slice none 0 0,.slice none 0 0] 41,.cel (.int x.inputs) (.int .i64 x.inputs),.cel (aY x.seqs) (.slice z g g)]):=Hd<|(Y.1.put 2 rfl 1 (.slice z g g))
 go_wp2_with fail;refine(I8 A1 n1 c1 x.luts _ (R1.1.below Q3.1.bel) Z2.1).mono ?_;rintro _ w2 ⟨B,rfl,o2,b2⟩;have Q4:Hv (aD w (w2) [.blk w.heap.size #[.int .i64 x.inputs,.slice G g c0,.slice A1 n1 c1,.slice A2 n2 c2] 28,.blk (w.heap.size+1) #[.int .i64 0,.slice none 0 0,.slice none 0 0,.slice none 0 0] 41,.blk (w.heap.size+1+1) #[.int .i64 x.inputs,.slice z g g,.slice none 0 0,.slice none 0 0] 41,.cel (.int x.inputs) (.int .i64 x.inputs),.cel (aY x.seqs) (.slice z g g),.cel (aj x.luts) (.slice B n1 n1)]):=Hd<|(Q3.1.pushT b2 o2)
 clear o2 b2 Q V J K U H I R W l0 l1 l2;have q:=(Q4.1.blk 0 rfl).1;have u:=(Q4.1.blk 1 rfl).1;have j:=(Q4.1.blk 2 rfl).1;obtain⟨Q,V,J,K⟩:=cs4 q;obtain⟨U,H,I,R⟩:=cs4 j;have W:=fun k=>aN j k;have l0:=aH q;have l1:=aH u;have l2:=aH j;clear q u j;have Q5:Hv (aD w (w2.setCell ⟨w.heap.size+1+1,2,none⟩ (.slice B n1 n1)) [.blk w.heap.size #[.int .i64 x.inputs,.slice G g c0,.slice A1 n1 c1,.slice A2 n2 c2] 28,.blk (w.heap.size+1) #[.int .i64 0,.slice none 0 0,.slice none 0 0,.slice none 0 0] 41,.blk (w.heap.size+1+1) #[.int .i64 x.inputs,.slice z g g,.slice B n1 n1,.slice none 0 0] 41,.cel (.int x.inputs) (.int .i64 x.inputs),.cel (aY x.seqs) (.slice z g g),.cel (aj x.luts) (.slice B n1 n1)]):=Hd<|(Q4.1.put 2 rfl 2 (.slice B n1 n1))
 go_wp2_with fail;refine(zy A2 n2 c2 x.outs _ (R2.1.below Q5.1.bel) Z3.1).mono ?_;rintro _ w3 ⟨D,rfl,o3,b3⟩;have Q6:Hv (aD w (w3) [.blk w.heap.size #[.int .i64 x.inputs,.slice G g c0,.slice A1 n1 c1,.slice A2 n2 c2] 28,.blk (w.heap.size+1) #[.int .i64 0,.slice none 0 0,.slice none 0 0,.slice none 0 0] 41,.blk (w.heap.size+1+1) #[.int .i64 x.inputs,.slice z g g,.slice B n1 n1,.slice none 0 0] 41,.cel (.int x.inputs) (.int .i64 x.inputs),.cel (aY x.seqs) (.slice z g g),.cel (aj x.luts) (.slice B n1 n1),.cel (aI x.outs) (.slice D n2 n2)]):=Hd<|(Q5.1.pushT b3 o3)
 clear o3 b3 Q V J K U H I R W l0 l1 l2;have q:=(Q6.1.blk 0 rfl).1;have u:=(Q6.1.blk 1 rfl).1;have j:=(Q6.1.blk 2 rfl).1;obtain⟨Q,V,J,K⟩:=cs4 q;obtain⟨U,H,I,R⟩:=cs4 j;have W:=fun k=>aN j k;obtain⟨u0,u1,u2,u3⟩:=cs4 u;have y1:=fun k=>aN u k;have l0:=aH q;have l1:=aH u;have l2:=aH j;clear q u j;have Q7:Hv (aD w (((((w3.setCell ⟨w.heap.size+1+1,3,none⟩ (.slice D n2 n2)).setCell ⟨w.heap.size+1,0,none⟩ (.int .i64 x.inputs)).setCell ⟨w.heap.size+1,1,none⟩ (.slice z g g)).setCell ⟨w.heap.size+1,2,none⟩ (.slice B n1 n1)).setCell ⟨w.heap.size+1,3,none⟩ (.slice D n2 n2)) [.blk w.heap.size #[.int .i64 x.inputs,.slice G g c0,.slice A1 n1 c1,.slice A2 n2 c2] 28,.blk (w.heap.size+1) #[.int .i64 x.inputs,.slice z g g,.slice B n1 n1,.slice D n2 n2] 41,.blk (w.heap.size+1+1) #[.int .i64 x.inputs,.slice z g g,.slice B n1 n1,.slice D n2 n2] 41,.cel (.int x.inputs) (.int .i64 x.inputs),.cel (aY x.seqs) (.slice z g g),.cel (aj x.luts) (.slice B n1 n1),.cel (aI x.outs) (.slice D n2 n2)]):=Hd<|(((((Q6.1.put 2 rfl 3 (.slice D n2 n2)).put 1 rfl 0 (.int .i64 x.inputs)).put 1 rfl 1 (.slice z g g)).put 1 rfl 2 (.slice B n1 n1)).put 1 rfl 3 (.slice D n2 n2))
 go_wp2_with fail;generalize ((((w3.setCell ⟨w.heap.size+1+1,3,none⟩ (.slice D n2 n2)).setCell ⟨w.heap.size+1,0,none⟩ (.int .i64 x.inputs)).setCell ⟨w.heap.size+1,1,none⟩ (.slice z g g)).setCell ⟨w.heap.size+1,2,none⟩ (.slice B n1 n1)).setCell ⟨w.heap.size+1,3,none⟩ (.slice D n2 n2)=WF at *;clear Q V J K U H I R W u0 u1 u2 u3 y1 l0 l1 l2;have hb:WF.heap[w.heap.size+1]?=some (.cells #[.int .i64 x.inputs,.slice z g g,.slice B n1 n1,.slice D n2 n2] 41 (0,0)):=(Q7.1.blk 1 rfl).1;exact bodyPost_ret (v := .agg #[.int .i64 x.inputs,.slice z g g,.slice B n1 n1,.slice D n2 n2]) (kL Tryz.results26 rfl hb Tryz.underlying41 (by kernel_rfl)) rfl ⟨z,B,D,rfl,Q7.1.tail.tail.tail.ownsL rfl,Q7.1.bel⟩
end Go.Proofs.YtofihjoanjkdmaaGreat
