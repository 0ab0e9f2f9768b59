/- The laws' counts of nested data (printed by mksz.py). -/
import Derived.Test.YtofihjoanjkdmaaGreatLayArg
namespace Go.Proofs.YtofihjoanjkdmaaGreat
set_option maxHeartbeats 2000000
set_option maxRecDepth 100000
open Go.RowKit
theorem pE (A:Option Addr) (n c:Nat) (xs:List Int) (L:Int) (w:World) (h:RdC w w.heap.size (aG xs) (.slice A n c)) (q:0<=L) (j:L<=1099511627776) (u:BdC (aG xs)) :
  Calls Tryz.prog 33 #[.slice A n c,.int .i64 L] w fun e w'=>e = .returned (.int .i64 (jS L (szC (aG xs))))/\Below w.heap.size w w':=by
 have hn:=h.ints.1
 have g:=u
 unfold aG at g
 rw [oG,List.length_map,Nat.div_one,hn] at g
 rw [nO,hn]
 refine (zz A n c L w q j (by have:=g.1;unfold maxLen at this;omega)).mono ?_
 rintro e w' ⟨he,rfl⟩
 exact ⟨he,Below.refl _ _⟩
theorem Cb (q:Option Addr) (u j:Nat) (x:Lt) (L:Int) (w:World) (h0:RdC w w.heap.size (aG x.ins) (.slice q u j)) (hL:0<=L) (K:L<=1099511627776) (I:BdL x.cells) :
  Calls Tryz.prog 152 #[.agg #[.slice q u j,.int .i64 x.mask],.int .i64 L] w fun e w'=>e = .returned (.int .i64 (jS L (af x.cells)))/\Below w.heap.size w w':=by
 have H:=Hd (aD (Below.refl w.heap.size w) (.cells #[.slice q u j,.int .i64 x.mask] 184))
 have Z:=Hd (aI w (.cells #[.slice q u j,.int .i64 x.mask] 184))
 have U:=Hd h0
 have B:Hid (af x.cells=szC (aG x.ins)):=by show _=_;unfold Lt.cells;simp only [au,bM,fJ] <;> omega
 have g:=I
 unfold Lt.cells at g
 simp only [ja] at g
 obtain ⟨G,Q,_⟩:=g
 have R:=Hd G
 clear I h0 G Q
 go_enter Tryz.func152,Tryz.ntmps152
 go_wp2_with fail
 refine (pE q u j x.ins _ _ (U.out.below H.out) (by omega) (by omega) R.out).mono ?_
 rintro _ Y ⟨rfl,z⟩
 have D:=Hd (aA H.out z)
 have W:=Hd z
 clear z
 by_cases J:((szC (aG x.ins):Nat):Int)<=L
 ·rw [bF J]
  have V:decide (L - ((szC (aG x.ins):Nat):Int)<0)=false:=by simp;omega
  go_wp2_with fail
  go_ret
  exact ⟨aL (by rw [B.out,bF (by omega)] <;> omega),D.out⟩
 rw [aZ J]
 go_wp2_with fail
 go_ret
 exact ⟨aL (by rw [B.out,aZ (by omega)]),D.out⟩
theorem Ac (A:Option Addr) (n c:Nat) (xs:List Lt) (L:Int) (w:World) (h:RdC w w.heap.size (bK xs) (.slice A n c)) (hL:0<=L) (Z:L<=1099511627776) (q:BdC (bK xs)) :
  Calls Tryz.prog 80 #[.slice A n c,.int .i64 L] w fun e w'=>e = .returned (.int .i64 (jS L (szC (bK xs))))/\Below w.heap.size w w':=by
 have B:Hid (xs.length=n):=h.lutN'
 have K:Hid (szC (bK xs)=n+af (xs.flatMap Lt.cells)):=by show _=_;unfold bK;rw [bv Lt.cells_length (by omega),B.out]
 have HD:Hid (∀x∈xs,BdL x.cells):=by
  show ∀x∈xs,BdL x.cells
  unfold bK at q
  exact ol.1 (oG.1 q).2
 have HR:=Hd h
 have W:n<=9223372036854775807:=by
  unfold bK at q
  rw [nP Lt.cells_length (by omega),B.out] at q
  have:=q.1
  unfold maxLen at this
  omega
 clear h q
 by_cases h0:(n:Int)<=L
 ·have hd:decide (L - (n:Int)<0)=false:=by simp;omega
  go_enter Tryz.func80,Tryz.ntmps80
  go_wp2_with fail
  go_loopw [1,5] (fun v i wr=>∃k:Nat,k<=n/\i = .int .i64 k/\v = .int .i64 (L - n - (af ((xs.take k).flatMap Lt.cells):Nat))/\((af ((xs.take k).flatMap Lt.cells):Nat):Int)<=L - n/\Below w.heap.size w wr) (fun _ i _=>n - (intOf i).toNat)
  ·exact ⟨0,Nat.zero_le _,rfl,by simp [bM],by simp [bM];omega,Below.refl _ _⟩
  obtain ⟨k,hk,rfl,rfl,Q,u⟩:=hrel
  have g:=Hd u
  clear u
  by_cases J:k<n
  ·have G:=dT (by omega:k<n)
   have j:k<xs.length:=by rw [B.out];exact J
   obtain ⟨b,o,S0,m0,p0,rfl,q,V,c1,Y⟩:=HR.out.lut' (k:=k) j
   have aj:b<wr.heap.size:=by have:=g.out.size;omega
   obtain ⟨i0,i1⟩:=ib (by omega:k<n)
   rw [←g.out.cell (p:=⟨b,o+k * 2,none⟩) q] at V
   rw [←g.out.cell (p:=⟨b,o+k * 2+1,none⟩) q] at c1
   have Q0:=Hd (Y.below g.out)
   have R:Hid (BdL (xs[k]?.getD Lt.zero).cells):=by show BdL _;rw [List.getElem?_eq_getElem j];exact HD.out _ (List.getElem_mem j)
   have D:Hid (af ((xs.take (k+1)).flatMap Lt.cells)=af ((xs.take k).flatMap Lt.cells)+af (xs[k]?.getD Lt.zero).cells):=mh j
   have HF:Hid (af ((xs.take (k+1)).flatMap Lt.cells)<=af (xs.flatMap Lt.cells)):=jh xs (k+1)
   clear Y j
   generalize af ((xs.take k).flatMap Lt.cells)=s at *
   generalize xs[k]?.getD Lt.zero=x at *
   go_wp2_with fail
   refine (Cb S0 m0 p0 x _ _ Q0.out (by omega) (by omega) R.out).mono ?_
   rintro e w' ⟨rfl,U⟩
   have z:=Hd (aA g.out U)
   clear U V c1
   by_cases h1:((af x.cells:Nat):Int)<=L - n - s
   ·rw [bF h1]
    have hd2:decide (L - (n:Int) - s - ((af x.cells:Nat):Int)<0)=false:=by simp;omega
    go_wp2_with fail
    go_roundw
    ·exact ⟨k+1,by omega,by go_num,by rw [D.out];congr 1;omega,by rw [D.out];omega,z.out⟩
    simp [intOf];omega
   rw [aZ h1]
   go_wp2_with fail
   go_ret
   exact ⟨aL (by rw [aZ];have h2:=HF.out;rw [D.out] at h2;rw [K.out];omega),z.out⟩
  have H:k=n:=by omega
  subst H
  have G:decide ((k:Int)<(k:Int))=false:=by simp
  have I:Hid (xs.take k=xs):=List.take_of_length_le (by rw [B.out];exact Nat.le_refl _)
  go_wp2_with fail
  go_ret
  rw [I.out] at Q ⊢
  exact ⟨aL (by rw [K.out,bF (by omega)];omega),g.out⟩
 have hd:decide (L - (n:Int)<0)=true:=by simp;omega
 go_enter Tryz.func80,Tryz.ntmps80
 go_wp2_with fail
 go_ret
 exact ⟨aL (by rw [aZ];rw [K.out];omega),Below.refl _ _⟩
theorem Cc (q:Option Addr) (u j:Nat) (x:Sq) (L:Int) (w:World) (h0:RdC w w.heap.size (aG x.ins) (.slice q u j)) (hL:0<=L) (K:L<=1099511627776) (H:BdL x.cells) :
  Calls Tryz.prog 151 #[.agg #[.int .i64 x.kind,.int .i64 x.init,.slice q u j],.int .i64 L] w fun e w'=>e = .returned (.int .i64 (jS L (af x.cells)))/\Below w.heap.size w w':=by
 have G:=Hd (aD (Below.refl w.heap.size w) (.cells #[.int .i64 x.kind,.int .i64 x.init,.slice q u j] 182))
 have HX:=Hd (aI w (.cells #[.int .i64 x.kind,.int .i64 x.init,.slice q u j] 182))
 have V:=Hd h0
 have B:Hid (af x.cells=szC (aG x.ins)):=by show _=_;unfold Sq.cells;simp only [au,bM,fJ] <;> omega
 have g:=H
 unfold Sq.cells at g
 simp only [ja] at g
 obtain ⟨R,Q,I,_⟩:=g
 have U:=Hd I
 clear H h0 R Q I
 go_enter Tryz.func151,Tryz.ntmps151
 go_wp2_with fail
 refine (pE q u j x.ins _ _ (V.out.below G.out) (by omega) (by omega) U.out).mono ?_
 rintro _ Z ⟨rfl,z⟩
 have D:=Hd (aA G.out z)
 have Y:=Hd z
 clear z
 by_cases J:((szC (aG x.ins):Nat):Int)<=L
 ·rw [bF J]
  have W:decide (L - ((szC (aG x.ins):Nat):Int)<0)=false:=by simp;omega
  go_wp2_with fail
  go_ret
  exact ⟨aL (by rw [B.out,bF (by omega)] <;> omega),D.out⟩
 rw [aZ J]
 go_wp2_with fail
 go_ret
 exact ⟨aL (by rw [B.out,aZ (by omega)]),D.out⟩
theorem Ad (A:Option Addr) (n c:Nat) (xs:List Sq) (L:Int) (w:World) (h:RdC w w.heap.size (bD xs) (.slice A n c)) (hL:0<=L) (Z:L<=1099511627776) (q:BdC (bD xs)) :
  Calls Tryz.prog 79 #[.slice A n c,.int .i64 L] w fun e w'=>e = .returned (.int .i64 (jS L (szC (bD xs))))/\Below w.heap.size w w':=by
 have B:Hid (xs.length=n):=h.sqN'
 have K:Hid (szC (bD xs)=n+af (xs.flatMap Sq.cells)):=by show _=_;unfold bD;rw [bv Sq.cells_length (by omega),B.out]
 have HD:Hid (∀x∈xs,BdL x.cells):=by
  show ∀x∈xs,BdL x.cells
  unfold bD at q
  exact ol.1 (oG.1 q).2
 have HR:=Hd h
 have W:n<=9223372036854775807:=by
  unfold bD at q
  rw [nP Sq.cells_length (by omega),B.out] at q
  have:=q.1
  unfold maxLen at this
  omega
 clear h q
 by_cases h0:(n:Int)<=L
 ·have hd:decide (L - (n:Int)<0)=false:=by simp;omega
  go_enter Tryz.func79,Tryz.ntmps79
  go_wp2_with fail
  go_loopw [1,5] (fun v i wr=>∃k:Nat,k<=n/\i = .int .i64 k/\v = .int .i64 (L - n - (af ((xs.take k).flatMap Sq.cells):Nat))/\((af ((xs.take k).flatMap Sq.cells):Nat):Int)<=L - n/\Below w.heap.size w wr) (fun _ i _=>n - (intOf i).toNat)
  ·exact ⟨0,Nat.zero_le _,rfl,by simp [bM],by simp [bM];omega,Below.refl _ _⟩
  obtain ⟨k,hk,rfl,rfl,Q,u⟩:=hrel
  have g:=Hd u
  clear u
  by_cases J:k<n
  ·have G:=dT (by omega:k<n)
   have j:k<xs.length:=by rw [B.out];exact J
   obtain ⟨b,o,S0,m0,p0,rfl,q,V,c1,c2,Y⟩:=HR.out.sq' (k:=k) j
   have aj:b<wr.heap.size:=by have:=g.out.size;omega
   obtain ⟨i0,i1⟩:=ib (by omega:k<n)
   rw [←g.out.cell (p:=⟨b,o+k * 3,none⟩) q] at V
   rw [←g.out.cell (p:=⟨b,o+k * 3+1,none⟩) q] at c1
   rw [←g.out.cell (p:=⟨b,o+k * 3+2,none⟩) q] at c2
   have Q0:=Hd (Y.below g.out)
   have R:Hid (BdL (xs[k]?.getD Sq.zero).cells):=by show BdL _;rw [List.getElem?_eq_getElem j];exact HD.out _ (List.getElem_mem j)
   have D:Hid (af ((xs.take (k+1)).flatMap Sq.cells)=af ((xs.take k).flatMap Sq.cells)+af (xs[k]?.getD Sq.zero).cells):=mh j
   have HF:Hid (af ((xs.take (k+1)).flatMap Sq.cells)<=af (xs.flatMap Sq.cells)):=jh xs (k+1)
   clear Y j
   generalize af ((xs.take k).flatMap Sq.cells)=s at *
   generalize xs[k]?.getD Sq.zero=x at *
   go_wp2_with fail
   refine (Cc S0 m0 p0 x _ _ Q0.out (by omega) (by omega) R.out).mono ?_
   rintro e w' ⟨rfl,U⟩
   have z:=Hd (aA g.out U)
   clear U V c1 c2
   by_cases h1:((af x.cells:Nat):Int)<=L - n - s
   ·rw [bF h1]
    have hd2:decide (L - (n:Int) - s - ((af x.cells:Nat):Int)<0)=false:=by simp;omega
    go_wp2_with fail
    go_roundw
    ·exact ⟨k+1,by omega,by go_num,by rw [D.out];congr 1;omega,by rw [D.out];omega,z.out⟩
    simp [intOf];omega
   rw [aZ h1]
   go_wp2_with fail
   go_ret
   exact ⟨aL (by rw [aZ];have h2:=HF.out;rw [D.out] at h2;rw [K.out];omega),z.out⟩
  have H:k=n:=by omega
  subst H
  have G:decide ((k:Int)<(k:Int))=false:=by simp
  have I:Hid (xs.take k=xs):=List.take_of_length_le (by rw [B.out];exact Nat.le_refl _)
  go_wp2_with fail
  go_ret
  rw [I.out] at Q ⊢
  exact ⟨aL (by rw [K.out,bF (by omega)];omega),g.out⟩
 have hd:decide (L - (n:Int)<0)=true:=by simp;omega
 go_enter Tryz.func79,Tryz.ntmps79
 go_wp2_with fail
 go_ret
 exact ⟨aL (by rw [aZ];rw [K.out];omega),Below.refl _ _⟩
theorem xZ (q A1 A2:Option Addr) (u j n1 c1 n2 c2:Nat) (x:ai) (L:Int) (w:World) (h0:RdC w w.heap.size (bD x.seqs) (.slice q u j)) (h1:RdC w w.heap.size (bK x.luts) (.slice A1 n1 c1)) (h2:RdC w w.heap.size (aG x.outs) (.slice A2 n2 c2)) (hL:0<=L) (ak:L<=1099511627776) (hb:BdL x.cells) :
  Calls Tryz.prog 24 #[.agg #[.int .i64 x.inputs,.slice q u j,.slice A1 n1 c1,.slice A2 n2 c2],.int .i64 L] w fun e w'=>e = .returned (.int .i64 (jS L (af x.cells)))/\Below w.heap.size w w':=by
 have B0:=Hd (aD (Below.refl w.heap.size w) (.cells #[.int .i64 x.inputs,.slice q u j,.slice A1 n1 c1,.slice A2 n2 c2] 28))
 have Y:=Hd (aI w (.cells #[.int .i64 x.inputs,.slice q u j,.slice A1 n1 c1,.slice A2 n2 c2] 28))
 obtain ⟨R0,R1,R2⟩:=hd3 h0 h1 h2
 have z:Hid (af x.cells=szC (bD x.seqs)+szC (bK x.luts)+szC (aG x.outs)):=by show _=_;unfold ai.cells;simp only [au,bM,fJ] <;> omega
 have g:=hb
 unfold ai.cells at g
 simp only [ja] at g
 obtain ⟨d0,V,d2,d3,_⟩:=g
 obtain ⟨D0,D1,D2⟩:=hd3 V d2 d3
 clear hb h0 h1 h2 d0 V d2 d3
 go_enter Tryz.func24,Tryz.ntmps24
 go_wp2_with fail
 refine (Ad q u j x.seqs _ _ (R0.out.below B0.out) (by omega) (by omega) D0.out).mono ?_
 rintro _ w1 ⟨rfl,B⟩
 have D:=Hd (aA B0.out B)
 have R:=Hd B
 clear B
 by_cases g0:((szC (bD x.seqs):Nat):Int)<=L
 ·rw [bF g0]
  have e0:decide (L - ((szC (bD x.seqs):Nat):Int)<0)=false:=by simp;omega
  obtain ⟨-,-,x2,H,K⟩:=bX (aC R.out Y.out)
  go_wp2_with fail
  refine (Ac A1 n1 c1 x.luts _ _ (R1.out.below D.out) (by omega) (by omega) D1.out).mono ?_
  rintro _ w2 ⟨rfl,J⟩
  have I:=Hd (aA D.out J)
  have W:=Hd (aA R.out J)
  clear J K x2 H
  by_cases Z:((szC (bK x.luts):Nat):Int)<=L - ((szC (bD x.seqs):Nat):Int)
  ·rw [bF Z]
   have e1:decide (L - ((szC (bD x.seqs):Nat):Int) - ((szC (bK x.luts):Nat):Int)<0)=false:=by simp;omega
   obtain ⟨-,-,-,H,K⟩:=bX (aC W.out Y.out)
   go_wp2_with fail
   refine (pE A2 n2 c2 x.outs _ _ (R2.out.below I.out) (by omega) (by omega) D2.out).mono ?_
   rintro _ w3 ⟨rfl,G⟩
   have Q:=Hd (aA I.out G)
   have C3:=Hd (aA W.out G)
   clear G K H
   by_cases U:((szC (aG x.outs):Nat):Int)<=L - ((szC (bD x.seqs):Nat):Int) - ((szC (bK x.luts):Nat):Int)
   ·rw [bF U]
    have e2:decide (L - ((szC (bD x.seqs):Nat):Int) - ((szC (bK x.luts):Nat):Int) - ((szC (aG x.outs):Nat):Int)<0)=false:=by simp;omega
    go_wp2_with fail
    go_ret
    exact ⟨aL (by rw [z.out,bF (by omega)] <;> omega),Q.out⟩
   rw [aZ U]
   go_wp2_with fail
   go_ret
   exact ⟨aL (by rw [z.out,aZ (by omega)]),Q.out⟩
  rw [aZ Z]
  go_wp2_with fail
  go_ret
  exact ⟨aL (by rw [z.out,aZ (by omega)]),I.out⟩
 rw [aZ g0]
 go_wp2_with fail
 go_ret
 exact ⟨aL (by rw [z.out,aZ (by omega)]),D.out⟩
theorem Ce (A:Option Addr) (n c:Nat) (xs:List LeT) (L:Int) (w:World) (h:RdC w w.heap.size (cO xs) (.slice A n c)) (z:0<=L) (q:L<=1099511627776) (g:BdC (cO xs)) :
  Calls Tryz.prog 201 #[.slice A n c,.int .i64 L] w fun e w'=>e = .returned (.int .i64 (jS L (szC (cO xs))))/\Below w.heap.size w w':=by
 have hn:xs.length=n:=h.esN
 have hs:szC (cO xs)=n:=by
  unfold cO
  rw [bv LeT.cells_length (by omega),hn]
  have:af (xs.flatMap LeT.cells)=0:=by
   clear h g hn
   induction xs with
   | nil=>rw [List.flatMap_nil,bM]
   | cons x xs ih=>rw [List.flatMap_cons,iA,ih];unfold LeT.cells;simp only [au,bM,fJ]
  omega
 have j:n<=9223372036854775807:=by
  unfold cO at g
  rw [nP LeT.cells_length (by omega),hn] at g
  have:=g.1
  unfold maxLen at this
  omega
 rw [hs]
 clear hs h g hn
 by_cases h:(n:Int)<=L
 ·have u:decide (L - (n:Int)<0)=false:=by simp;omega
  have hl:=Hd (bF h)
  go_enter Tryz.func201,Tryz.ntmps201
  go_wp2_with fail
  go_ret
  exact ⟨aL hl.out.symm,Below.refl _ _⟩
 have u:decide (L - (n:Int)<0)=true:=by simp;omega
 have hl:=Hd (aZ h)
 go_enter Tryz.func201,Tryz.ntmps201
 go_wp2_with fail
 go_ret
 exact ⟨aL hl.out.symm,Below.refl _ _⟩
theorem zG (q:Option Addr) (u j:Nat) (x:Blk) (L:Int) (w:World) (h0:RdC w w.heap.size (cO x.les) (.slice q u j)) (hL:0<=L) (K:L<=1099511627776) (H:BdL x.cells) :
  Calls Tryz.prog 107 #[.agg #[.int .i64 x.kind,.int .i64 x.item,.slice q u j],.int .i64 L] w fun e w'=>e = .returned (.int .i64 (jS L (af x.cells)))/\Below w.heap.size w w':=by
 have G:=Hd (aD (Below.refl w.heap.size w) (.cells #[.int .i64 x.kind,.int .i64 x.item,.slice q u j] 147))
 have HX:=Hd (aI w (.cells #[.int .i64 x.kind,.int .i64 x.item,.slice q u j] 147))
 have V:=Hd h0
 have B:Hid (af x.cells=szC (cO x.les)):=by show _=_;unfold Blk.cells;simp only [au,bM,fJ] <;> omega
 have g:=H
 unfold Blk.cells at g
 simp only [ja] at g
 obtain ⟨R,Q,I,_⟩:=g
 have U:=Hd I
 clear H h0 R Q I
 go_enter Tryz.func107,Tryz.ntmps107
 go_wp2_with fail
 refine (Ce q u j x.les _ _ (V.out.below G.out) (by omega) (by omega) U.out).mono ?_
 rintro _ Z ⟨rfl,z⟩
 have D:=Hd (aA G.out z)
 have Y:=Hd z
 clear z
 by_cases J:((szC (cO x.les):Nat):Int)<=L
 ·rw [bF J]
  have W:decide (L - ((szC (cO x.les):Nat):Int)<0)=false:=by simp;omega
  go_wp2_with fail
  go_ret
  exact ⟨aL (by rw [B.out,bF (by omega)] <;> omega),D.out⟩
 rw [aZ J]
 go_wp2_with fail
 go_ret
 exact ⟨aL (by rw [B.out,aZ (by omega)]),D.out⟩
theorem xe (A:Option Addr) (n c:Nat) (xs:List Blk) (L:Int) (w:World) (h:RdC w w.heap.size (aa xs) (.slice A n c)) (hL:0<=L) (Z:L<=1099511627776) (q:BdC (aa xs)) :
  Calls Tryz.prog 31 #[.slice A n c,.int .i64 L] w fun e w'=>e = .returned (.int .i64 (jS L (szC (aa xs))))/\Below w.heap.size w w':=by
 have B:Hid (xs.length=n):=h.blkN
 have K:Hid (szC (aa xs)=n+af (xs.flatMap Blk.cells)):=by show _=_;unfold aa;rw [bv Blk.cells_length (by omega),B.out]
 have HD:Hid (∀x∈xs,BdL x.cells):=by
  show ∀x∈xs,BdL x.cells
  unfold aa at q
  exact ol.1 (oG.1 q).2
 have HR:=Hd h
 have W:n<=9223372036854775807:=by
  unfold aa at q
  rw [nP Blk.cells_length (by omega),B.out] at q
  have:=q.1
  unfold maxLen at this
  omega
 clear h q
 by_cases h0:(n:Int)<=L
 ·have hd:decide (L - (n:Int)<0)=false:=by simp;omega
  go_enter Tryz.func31,Tryz.ntmps31
  go_wp2_with fail
  go_loopw [1,5] (fun v i wr=>∃k:Nat,k<=n/\i = .int .i64 k/\v = .int .i64 (L - n - (af ((xs.take k).flatMap Blk.cells):Nat))/\((af ((xs.take k).flatMap Blk.cells):Nat):Int)<=L - n/\Below w.heap.size w wr) (fun _ i _=>n - (intOf i).toNat)
  ·exact ⟨0,Nat.zero_le _,rfl,by simp [bM],by simp [bM];omega,Below.refl _ _⟩
  obtain ⟨k,hk,rfl,rfl,Q,u⟩:=hrel
  have g:=Hd u
  clear u
  by_cases J:k<n
  ·have G:=dT (by omega:k<n)
   have j:k<xs.length:=by rw [B.out];exact J
   obtain ⟨b,o,S0,m0,p0,rfl,q,V,c1,c2,Y⟩:=HR.out.blk (k:=k) j
   have aj:b<wr.heap.size:=by have:=g.out.size;omega
   obtain ⟨i0,i1⟩:=ib (by omega:k<n)
   rw [←g.out.cell (p:=⟨b,o+k * 3,none⟩) q] at V
   rw [←g.out.cell (p:=⟨b,o+k * 3+1,none⟩) q] at c1
   rw [←g.out.cell (p:=⟨b,o+k * 3+2,none⟩) q] at c2
   have Q0:=Hd (Y.below g.out)
   have R:Hid (BdL (xs[k]?.getD Blk.zero).cells):=by show BdL _;rw [List.getElem?_eq_getElem j];exact HD.out _ (List.getElem_mem j)
   have D:Hid (af ((xs.take (k+1)).flatMap Blk.cells)=af ((xs.take k).flatMap Blk.cells)+af (xs[k]?.getD Blk.zero).cells):=mh j
   have HF:Hid (af ((xs.take (k+1)).flatMap Blk.cells)<=af (xs.flatMap Blk.cells)):=jh xs (k+1)
   clear Y j
   generalize af ((xs.take k).flatMap Blk.cells)=s at *
   generalize xs[k]?.getD Blk.zero=x at *
   go_wp2_with fail
   refine (zG S0 m0 p0 x _ _ Q0.out (by omega) (by omega) R.out).mono ?_
   rintro e w' ⟨rfl,U⟩
   have z:=Hd (aA g.out U)
   clear U V c1 c2
   by_cases h1:((af x.cells:Nat):Int)<=L - n - s
   ·rw [bF h1]
    have hd2:decide (L - (n:Int) - s - ((af x.cells:Nat):Int)<0)=false:=by simp;omega
    go_wp2_with fail
    go_roundw
    ·exact ⟨k+1,by omega,by go_num,by rw [D.out];congr 1;omega,by rw [D.out];omega,z.out⟩
    simp [intOf];omega
   rw [aZ h1]
   go_wp2_with fail
   go_ret
   exact ⟨aL (by rw [aZ];have h2:=HF.out;rw [D.out] at h2;rw [K.out];omega),z.out⟩
  have H:k=n:=by omega
  subst H
  have G:decide ((k:Int)<(k:Int))=false:=by simp
  have I:Hid (xs.take k=xs):=List.take_of_length_le (by rw [B.out];exact Nat.le_refl _)
  go_wp2_with fail
  go_ret
  rw [I.out] at Q ⊢
  exact ⟨aL (by rw [K.out,bF (by omega)];omega),g.out⟩
 have hd:decide (L - (n:Int)<0)=true:=by simp;omega
 go_enter Tryz.func31,Tryz.ntmps31
 go_wp2_with fail
 go_ret
 exact ⟨aL (by rw [aZ];rw [K.out];omega),Below.refl _ _⟩
theorem Ae (A:Option Addr) (n c:Nat) (xs:List ah) (L:Int) (w:World) (h:RdC w w.heap.size (bL xs) (.slice A n c)) (z:0<=L) (q:L<=1099511627776) (g:BdC (bL xs)) :
  Calls Tryz.prog 202 #[.slice A n c,.int .i64 L] w fun e w'=>e = .returned (.int .i64 (jS L (szC (bL xs))))/\Below w.heap.size w w':=by
 have hn:xs.length=n:=h.pinN
 have hs:szC (bL xs)=n:=by
  unfold bL
  rw [bv ah.cells_length (by omega),hn]
  have:af (xs.flatMap ah.cells)=0:=by
   clear h g hn
   induction xs with
   | nil=>rw [List.flatMap_nil,bM]
   | cons x xs ih=>rw [List.flatMap_cons,iA,ih];unfold ah.cells;simp only [au,bM,fJ]
  omega
 have j:n<=9223372036854775807:=by
  unfold bL at g
  rw [nP ah.cells_length (by omega),hn] at g
  have:=g.1
  unfold maxLen at this
  omega
 rw [hs]
 clear hs h g hn
 by_cases h:(n:Int)<=L
 ·have u:decide (L - (n:Int)<0)=false:=by simp;omega
  have hl:=Hd (bF h)
  go_enter Tryz.func202,Tryz.ntmps202
  go_wp2_with fail
  go_ret
  exact ⟨aL hl.out.symm,Below.refl _ _⟩
 have u:decide (L - (n:Int)<0)=true:=by simp;omega
 have hl:=Hd (aZ h)
 go_enter Tryz.func202,Tryz.ntmps202
 go_wp2_with fail
 go_ret
 exact ⟨aL hl.out.symm,Below.refl _ _⟩
theorem Af (q:Option Addr) (u j:Nat) (x:Cn) (L:Int) (w:World) (h0:RdC w w.heap.size (bL x.sinks) (.slice q u j)) (hL:0<=L) (K:L<=1099511627776) (H:BdL x.cells) :
  Calls Tryz.prog 108 #[.agg #[.int .i64 x.node,.int .i64 x.src.block,.int .i64 x.src.pin,.slice q u j],.int .i64 L] w fun e w'=>e = .returned (.int .i64 (jS L (af x.cells)))/\Below w.heap.size w w':=by
 have G:=Hd (aD (Below.refl w.heap.size w) (.cells #[.int .i64 x.node,.int .i64 x.src.block,.int .i64 x.src.pin,.slice q u j] 152))
 have HX:=Hd (aI w (.cells #[.int .i64 x.node,.int .i64 x.src.block,.int .i64 x.src.pin,.slice q u j] 152))
 have W:=Hd h0
 have B:Hid (af x.cells=szC (bL x.sinks)):=by show _=_;unfold Cn.cells;simp only [au,bM,fJ] <;> omega
 have g:=H
 unfold Cn.cells at g
 simp only [ja] at g
 obtain ⟨R,Q,V,J,_⟩:=g
 have U:=Hd J
 clear H h0 R Q V J
 go_enter Tryz.func108,Tryz.ntmps108
 go_wp2_with fail
 refine (Ae q u j x.sinks _ _ (W.out.below G.out) (by omega) (by omega) U.out).mono ?_
 rintro _ w1 ⟨rfl,z⟩
 have D:=Hd (aA G.out z)
 have Z:=Hd z
 clear z
 by_cases I:((szC (bL x.sinks):Nat):Int)<=L
 ·rw [bF I]
  have Y:decide (L - ((szC (bL x.sinks):Nat):Int)<0)=false:=by simp;omega
  go_wp2_with fail
  go_ret
  exact ⟨aL (by rw [B.out,bF (by omega)] <;> omega),D.out⟩
 rw [aZ I]
 go_wp2_with fail
 go_ret
 exact ⟨aL (by rw [B.out,aZ (by omega)]),D.out⟩
theorem zH (A:Option Addr) (n c:Nat) (xs:List Cn) (L:Int) (w:World) (h:RdC w w.heap.size (ag xs) (.slice A n c)) (hL:0<=L) (Z:L<=1099511627776) (q:BdC (ag xs)) :
  Calls Tryz.prog 32 #[.slice A n c,.int .i64 L] w fun e w'=>e = .returned (.int .i64 (jS L (szC (ag xs))))/\Below w.heap.size w w':=by
 have B:Hid (xs.length=n):=h.cnN
 have K:Hid (szC (ag xs)=n+af (xs.flatMap Cn.cells)):=by show _=_;unfold ag;rw [bv Cn.cells_length (by omega),B.out]
 have HD:Hid (∀x∈xs,BdL x.cells):=by
  show ∀x∈xs,BdL x.cells
  unfold ag at q
  exact ol.1 (oG.1 q).2
 have HR:=Hd h
 have W:n<=9223372036854775807:=by
  unfold ag at q
  rw [nP Cn.cells_length (by omega),B.out] at q
  have:=q.1
  unfold maxLen at this
  omega
 clear h q
 by_cases h0:(n:Int)<=L
 ·have hd:decide (L - (n:Int)<0)=false:=by simp;omega
  go_enter Tryz.func32,Tryz.ntmps32
  go_wp2_with fail
  go_loopw [1,5] (fun v i wr=>∃k:Nat,k<=n/\i = .int .i64 k/\v = .int .i64 (L - n - (af ((xs.take k).flatMap Cn.cells):Nat))/\((af ((xs.take k).flatMap Cn.cells):Nat):Int)<=L - n/\Below w.heap.size w wr) (fun _ i _=>n - (intOf i).toNat)
  ·exact ⟨0,Nat.zero_le _,rfl,by simp [bM],by simp [bM];omega,Below.refl _ _⟩
  obtain ⟨k,hk,rfl,rfl,Q,u⟩:=hrel
  have g:=Hd u
  clear u
  by_cases J:k<n
  ·have G:=dT (by omega:k<n)
   have j:k<xs.length:=by rw [B.out];exact J
   obtain ⟨b,o,S0,m0,p0,rfl,q,V,c1,c2,c3,Y⟩:=HR.out.cn (k:=k) j
   have ak:b<wr.heap.size:=by have:=g.out.size;omega
   obtain ⟨i0,i1⟩:=ib (by omega:k<n)
   rw [←g.out.cell (p:=⟨b,o+k * 4,none⟩) q] at V
   rw [←g.out.cell (p:=⟨b,o+k * 4+1,none⟩) q] at c1
   rw [←g.out.cell (p:=⟨b,o+k * 4+2,none⟩) q] at c2
   rw [←g.out.cell (p:=⟨b,o+k * 4+3,none⟩) q] at c3
   have Q0:=Hd (Y.below g.out)
   have R:Hid (BdL (xs[k]?.getD Cn.zero).cells):=by show BdL _;rw [List.getElem?_eq_getElem j];exact HD.out _ (List.getElem_mem j)
   have D:Hid (af ((xs.take (k+1)).flatMap Cn.cells)=af ((xs.take k).flatMap Cn.cells)+af (xs[k]?.getD Cn.zero).cells):=mh j
   have HF:Hid (af ((xs.take (k+1)).flatMap Cn.cells)<=af (xs.flatMap Cn.cells)):=jh xs (k+1)
   clear Y j
   generalize af ((xs.take k).flatMap Cn.cells)=s at *
   generalize xs[k]?.getD Cn.zero=x at *
   go_wp2_with fail
   refine (Af S0 m0 p0 x _ _ Q0.out (by omega) (by omega) R.out).mono ?_
   rintro e w' ⟨rfl,U⟩
   have z:=Hd (aA g.out U)
   clear U V c1 c2 c3
   by_cases h1:((af x.cells:Nat):Int)<=L - n - s
   ·rw [bF h1]
    have hd2:decide (L - (n:Int) - s - ((af x.cells:Nat):Int)<0)=false:=by simp;omega
    go_wp2_with fail
    go_roundw
    ·exact ⟨k+1,by omega,by go_num,by rw [D.out];congr 1;omega,by rw [D.out];omega,z.out⟩
    simp [intOf];omega
   rw [aZ h1]
   go_wp2_with fail
   go_ret
   exact ⟨aL (by rw [aZ];have h2:=HF.out;rw [D.out] at h2;rw [K.out];omega),z.out⟩
  have H:k=n:=by omega
  subst H
  have G:decide ((k:Int)<(k:Int))=false:=by simp
  have I:Hid (xs.take k=xs):=List.take_of_length_le (by rw [B.out];exact Nat.le_refl _)
  go_wp2_with fail
  go_ret
  rw [I.out] at Q ⊢
  exact ⟨aL (by rw [K.out,bF (by omega)];omega),g.out⟩
 have hd:decide (L - (n:Int)<0)=true:=by simp;omega
 go_enter Tryz.func32,Tryz.ntmps32
 go_wp2_with fail
 go_ret
 exact ⟨aL (by rw [aZ];rw [K.out];omega),Below.refl _ _⟩
theorem zI (q A1:Option Addr) (u j n1 c1:Nat) (x:Rou) (L:Int) (w:World) (h0:RdC w w.heap.size (aG x.nodes) (.slice q u j)) (h1:RdC w w.heap.size (aG x.from_) (.slice A1 n1 c1)) (hL:0<=L) (W:L<=1099511627776) (R:BdL x.cells) :
  Calls Tryz.prog 109 #[.agg #[.slice q u j,.slice A1 n1 c1],.int .i64 L] w fun e w'=>e = .returned (.int .i64 (jS L (af x.cells)))/\Below w.heap.size w w':=by
 have Q:=Hd (aD (Below.refl w.heap.size w) (.cells #[.slice q u j,.slice A1 n1 c1] 154))
 have HX:=Hd (aI w (.cells #[.slice q u j,.slice A1 n1 c1] 154))
 obtain ⟨R0,Y⟩:=hd2 h0 h1
 have z:Hid (af x.cells=szC (aG x.nodes)+szC (aG x.from_)):=by show _=_;unfold Rou.cells;simp only [au,bM] <;> omega
 have g:=R
 unfold Rou.cells at g
 simp only [ja] at g
 obtain ⟨J,I,_⟩:=g
 obtain ⟨Z,D1⟩:=hd2 J I
 clear R h0 h1 J I
 go_enter Tryz.func109,Tryz.ntmps109
 go_wp2_with fail
 refine (pE q u j x.nodes _ _ (R0.out.below Q.out) (by omega) (by omega) Z.out).mono ?_
 rintro _ w1 ⟨rfl,B⟩
 have D:=Hd (aA Q.out B)
 have H:=Hd B
 clear B
 by_cases U:((szC (aG x.nodes):Nat):Int)<=L
 ·rw [bF U]
  have e0:decide (L - ((szC (aG x.nodes):Nat):Int)<0)=false:=by simp;omega
  obtain ⟨-,x1,lx⟩:=fZ (aC H.out HX.out)
  go_wp2_with fail
  refine (pE A1 n1 c1 x.from_ _ _ (Y.out.below D.out) (by omega) (by omega) D1.out).mono ?_
  rintro _ w2 ⟨rfl,G⟩
  have V:=Hd (aA D.out G)
  have C2:=Hd (aA H.out G)
  clear G lx x1
  by_cases K:((szC (aG x.from_):Nat):Int)<=L - ((szC (aG x.nodes):Nat):Int)
  ·rw [bF K]
   have e1:decide (L - ((szC (aG x.nodes):Nat):Int) - ((szC (aG x.from_):Nat):Int)<0)=false:=by simp;omega
   go_wp2_with fail
   go_ret
   exact ⟨aL (by rw [z.out,bF (by omega)] <;> omega),V.out⟩
  rw [aZ K]
  go_wp2_with fail
  go_ret
  exact ⟨aL (by rw [z.out,aZ (by omega)]),V.out⟩
 rw [aZ U]
 go_wp2_with fail
 go_ret
 exact ⟨aL (by rw [z.out,aZ (by omega)]),D.out⟩
theorem xf (A:Option Addr) (n c:Nat) (xs:List Rou) (L:Int) (w:World) (h:RdC w w.heap.size (bE xs) (.slice A n c)) (hL:0<=L) (ad:L<=1099511627776) (q:BdC (bE xs)) :
  Calls Tryz.prog 34 #[.slice A n c,.int .i64 L] w fun e w'=>e = .returned (.int .i64 (jS L (szC (bE xs))))/\Below w.heap.size w w':=by
 have B:Hid (xs.length=n):=h.rouN
 have K:Hid (szC (bE xs)=n+af (xs.flatMap Rou.cells)):=by show _=_;unfold bE;rw [bv Rou.cells_length (by omega),B.out]
 have HD:Hid (∀x∈xs,BdL x.cells):=by
  show ∀x∈xs,BdL x.cells
  unfold bE at q
  exact ol.1 (oG.1 q).2
 have HR:=Hd h
 have W:n<=9223372036854775807:=by
  unfold bE at q
  rw [nP Rou.cells_length (by omega),B.out] at q
  have:=q.1
  unfold maxLen at this
  omega
 clear h q
 by_cases h0:(n:Int)<=L
 ·have hd:decide (L - (n:Int)<0)=false:=by simp;omega
  go_enter Tryz.func34,Tryz.ntmps34
  go_wp2_with fail
  go_loopw [1,5] (fun v i wr=>∃k:Nat,k<=n/\i = .int .i64 k/\v = .int .i64 (L - n - (af ((xs.take k).flatMap Rou.cells):Nat))/\((af ((xs.take k).flatMap Rou.cells):Nat):Int)<=L - n/\Below w.heap.size w wr) (fun _ i _=>n - (intOf i).toNat)
  ·exact ⟨0,Nat.zero_le _,rfl,by simp [bM],by simp [bM];omega,Below.refl _ _⟩
  obtain ⟨k,hk,rfl,rfl,Q,u⟩:=hrel
  have g:=Hd u
  clear u
  by_cases J:k<n
  ·have G:=dT (by omega:k<n)
   have j:k<xs.length:=by rw [B.out];exact J
   obtain ⟨b,o,S0,m0,p0,S1,m1,p1,rfl,q,V,c1,Y,Z⟩:=HR.out.rou (k:=k) j
   have am:b<wr.heap.size:=by have:=g.out.size;omega
   obtain ⟨i0,i1⟩:=ib (by omega:k<n)
   rw [←g.out.cell (p:=⟨b,o+k * 2,none⟩) q] at V
   rw [←g.out.cell (p:=⟨b,o+k * 2+1,none⟩) q] at c1
   have Q0:=Hd (Y.below g.out)
   have Q1:=Hd (Z.below g.out)
   have R:Hid (BdL (xs[k]?.getD Rou.zero).cells):=by show BdL _;rw [List.getElem?_eq_getElem j];exact HD.out _ (List.getElem_mem j)
   have D:Hid (af ((xs.take (k+1)).flatMap Rou.cells)=af ((xs.take k).flatMap Rou.cells)+af (xs[k]?.getD Rou.zero).cells):=mh j
   have HF:Hid (af ((xs.take (k+1)).flatMap Rou.cells)<=af (xs.flatMap Rou.cells)):=jh xs (k+1)
   clear Y Z j
   generalize af ((xs.take k).flatMap Rou.cells)=s at *
   generalize xs[k]?.getD Rou.zero=x at *
   go_wp2_with fail
   refine (zI S0 S1 m0 p0 m1 p1 x _ _ Q0.out Q1.out (by omega) (by omega) R.out).mono ?_
   rintro e w' ⟨rfl,U⟩
   have z:=Hd (aA g.out U)
   clear U V c1
   by_cases h1:((af x.cells:Nat):Int)<=L - n - s
   ·rw [bF h1]
    have hd2:decide (L - (n:Int) - s - ((af x.cells:Nat):Int)<0)=false:=by simp;omega
    go_wp2_with fail
    go_roundw
    ·exact ⟨k+1,by omega,by go_num,by rw [D.out];congr 1;omega,by rw [D.out];omega,z.out⟩
    simp [intOf];omega
   rw [aZ h1]
   go_wp2_with fail
   go_ret
   exact ⟨aL (by rw [aZ];have h2:=HF.out;rw [D.out] at h2;rw [K.out];omega),z.out⟩
  have H:k=n:=by omega
  subst H
  have G:decide ((k:Int)<(k:Int))=false:=by simp
  have I:Hid (xs.take k=xs):=List.take_of_length_le (by rw [B.out];exact Nat.le_refl _)
  go_wp2_with fail
  go_ret
  rw [I.out] at Q ⊢
  exact ⟨aL (by rw [K.out,bF (by omega)];omega),g.out⟩
 have hd:decide (L - (n:Int)<0)=true:=by simp;omega
 go_enter Tryz.func34,Tryz.ntmps34
 go_wp2_with fail
 go_ret
 exact ⟨aL (by rw [aZ];rw [K.out];omega),Below.refl _ _⟩
theorem xg (K A1 A2 A3 D I z:Option Addr) (Q B n1 c1 n2 c2 n3 c3 H V G W J U:Nat) (x:Lay) (L:Int) (w:World) (h0:RdC w w.heap.size (bD x.net.seqs) (.slice K Q B)) (h1:RdC w w.heap.size (bK x.net.luts) (.slice A1 n1 c1)) (h2:RdC w w.heap.size (aG x.net.outs) (.slice A2 n2 c2)) (h3:RdC w w.heap.size (aa x.blocks) (.slice A3 n3 c3)) (h4:RdC w w.heap.size (ag x.conns) (.slice D H V)) (h5:RdC w w.heap.size (aG x.place) (.slice I G W)) (h6:RdC w w.heap.size (bE x.routes) (.slice z J U)) (hL:0<=L) (a5:L<=1099511627776) (hb:BdL x.cells) :
  Calls Tryz.prog 7 #[.agg #[.int .i64 x.net.inputs,.slice K Q B,.slice A1 n1 c1,.slice A2 n2 c2,.slice A3 n3 c3,.slice D H V,.slice I G W,.slice z J U],.int .i64 L] w fun e w'=>e = .returned (.int .i64 (jS L (af x.cells)))/\Below w.heap.size w w':=by
 have Z:=Hd (aD (Below.refl w.heap.size w) (.cells #[.int .i64 x.net.inputs,.slice K Q B,.slice A1 n1 c1,.slice A2 n2 c2,.slice A3 n3 c3,.slice D H V,.slice I G W,.slice z J U] 33))
 have Y:=Hd (aI w (.cells #[.int .i64 x.net.inputs,.slice K Q B,.slice A1 n1 c1,.slice A2 n2 c2,.slice A3 n3 c3,.slice D H V,.slice I G W,.slice z J U] 33))
 obtain ⟨R0,R1,R2,R3,R4,R5,R6⟩:=hd7 h0 h1 h2 h3 h4 h5 h6
 have u:Hid (af x.cells=af x.net.cells+szC (aa x.blocks)+szC (ag x.conns)+szC (aG x.place)+szC (bE x.routes)):=by show _=_;unfold Lay.cells;simp only [iA,au,bM] <;> omega
 have j:=hb
 unfold Lay.cells ai.cells at j
 simp only [List.cons_append,List.nil_append,ja] at j
 obtain ⟨d0,d1,d2,d3,d4,d5,d6,d7,_⟩:=j
 have D0:Hid (BdL x.net.cells):=by show BdL _;unfold ai.cells;simp only [ja];exact ⟨d0,d1,d2,d3,r9⟩
 obtain ⟨D1,D2,D3,D4⟩:=hd4 d4 d5 d6 d7
 clear hb h0 h1 h2 h3 h4 h5 h6 d0 d1 d2 d3 d4 d5 d6 d7
 go_enter Tryz.func7,Tryz.ntmps7
 go_wp2_with fail
 refine (xZ K A1 A2 Q B n1 c1 n2 c2 x.net _ _ (R0.out.below Z.out) (R1.out.below Z.out) (R2.out.below Z.out) (by omega) (by omega) D0.out).mono ?_
 rintro _ w1 ⟨rfl,b1⟩
 have B1:=Hd (aA Z.out b1)
 have C1:=Hd b1
 clear b1
 by_cases g0:((af x.net.cells:Nat):Int)<=L
 ·rw [bF g0]
  have e0:decide (L - ((af x.net.cells:Nat):Int)<0)=false:=by simp;omega
  obtain ⟨-,-,-,-,x4,x5,R,g,q⟩:=j6 (aC C1.out Y.out)
  go_wp2_with fail
  refine (xe A3 n3 c3 x.blocks _ _ (R3.out.below B1.out) (by omega) (by omega) D1.out).mono ?_
  rintro _ w2 ⟨rfl,b2⟩
  have B2:=Hd (aA B1.out b2)
  have C2:=Hd (aA C1.out b2)
  clear b2 q x4 x5 R g
  by_cases g1:((szC (aa x.blocks):Nat):Int)<=L - ((af x.net.cells:Nat):Int)
  ·rw [bF g1]
   have e1:decide (L - ((af x.net.cells:Nat):Int) - ((szC (aa x.blocks):Nat):Int)<0)=false:=by simp;omega
   obtain ⟨-,-,-,-,-,x5,R,g,q⟩:=j6 (aC C2.out Y.out)
   go_wp2_with fail
   refine (zH D H V x.conns _ _ (R4.out.below B2.out) (by omega) (by omega) D2.out).mono ?_
   rintro _ w3 ⟨rfl,b3⟩
   have B3:=Hd (aA B2.out b3)
   have C3:=Hd (aA C2.out b3)
   clear b3 q x5 R g
   by_cases g2:((szC (ag x.conns):Nat):Int)<=L - ((af x.net.cells:Nat):Int) - ((szC (aa x.blocks):Nat):Int)
   ·rw [bF g2]
    have e2:decide (L - ((af x.net.cells:Nat):Int) - ((szC (aa x.blocks):Nat):Int) - ((szC (ag x.conns):Nat):Int)<0)=false:=by simp;omega
    obtain ⟨-,-,-,-,-,-,R,g,q⟩:=j6 (aC C3.out Y.out)
    go_wp2_with fail
    refine (pE I G W x.place _ _ (R5.out.below B3.out) (by omega) (by omega) D3.out).mono ?_
    rintro _ w4 ⟨rfl,b4⟩
    have B4:=Hd (aA B3.out b4)
    have C4:=Hd (aA C3.out b4)
    clear b4 q R g
    by_cases g3:((szC (aG x.place):Nat):Int)<=L - ((af x.net.cells:Nat):Int) - ((szC (aa x.blocks):Nat):Int) - ((szC (ag x.conns):Nat):Int)
    ·rw [bF g3]
     have e3:decide (L - ((af x.net.cells:Nat):Int) - ((szC (aa x.blocks):Nat):Int) - ((szC (ag x.conns):Nat):Int) - ((szC (aG x.place):Nat):Int)<0)=false:=by simp;omega
     obtain ⟨-,-,-,-,-,-,-,g,q⟩:=j6 (aC C4.out Y.out)
     go_wp2_with fail
     refine (xf z J U x.routes _ _ (R6.out.below B4.out) (by omega) (by omega) D4.out).mono ?_
     rintro _ w5 ⟨rfl,b5⟩
     have B5:=Hd (aA B4.out b5)
     have C5:=Hd (aA C4.out b5)
     clear b5 q g
     by_cases g4:((szC (bE x.routes):Nat):Int)<=L - ((af x.net.cells:Nat):Int) - ((szC (aa x.blocks):Nat):Int) - ((szC (ag x.conns):Nat):Int) - ((szC (aG x.place):Nat):Int)
     ·rw [bF g4]
      have e4:decide (L - ((af x.net.cells:Nat):Int) - ((szC (aa x.blocks):Nat):Int) - ((szC (ag x.conns):Nat):Int) - ((szC (aG x.place):Nat):Int) - ((szC (bE x.routes):Nat):Int)<0)=false:=by simp;omega
      go_wp2_with fail
      go_ret
      exact ⟨aL (by rw [u.out,bF (by omega)] <;> omega),B5.out⟩
     rw [aZ g4]
     go_wp2_with fail
     go_ret
     exact ⟨aL (by rw [u.out,aZ (by omega)]),B5.out⟩
    rw [aZ g3]
    go_wp2_with fail
    go_ret
    exact ⟨aL (by rw [u.out,aZ (by omega)]),B4.out⟩
   rw [aZ g2]
   go_wp2_with fail
   go_ret
   exact ⟨aL (by rw [u.out,aZ (by omega)]),B3.out⟩
  rw [aZ g1]
  go_wp2_with fail
  go_ret
  exact ⟨aL (by rw [u.out,aZ (by omega)]),B2.out⟩
 rw [aZ g0]
 go_wp2_with fail
 go_ret
 exact ⟨aL (by rw [u.out,aZ (by omega)]),B1.out⟩
end Go.Proofs.YtofihjoanjkdmaaGreat
