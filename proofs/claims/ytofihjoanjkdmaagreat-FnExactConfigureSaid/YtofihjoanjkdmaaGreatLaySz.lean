/- The laws' counts of nested data (printed by mksz.py). -/
import Derived.Test.YtofihjoanjkdmaaGreatLayArg
namespace Go.Proofs.YtofihjoanjkdmaaGreat
set_option maxHeartbeats 2000000
set_option maxRecDepth 100000
open Go.RowKit
theorem pF (A:Option Addr) (n c:Nat) (xs:List Int) (L:Int) (w:World) (h:RdC w w.heap.size (aH xs) (.slice A n c)) (q:0<=L) (j:L<=1099511627776) (u:BdC (aH xs)) :
  Calls Tryz.prog 33 #[.slice A n c,.int .i64 L] w fun e w'=>e = .returned (.int .i64 (jS L (szC (aH xs))))/\Below w.heap.size w w':=by
 have hn:=h.ints.1
 have g:=u
 unfold aH at g
 rw [oU,List.length_map,Nat.div_one,hn] at g
 rw [nZ,hn]
 refine (AO A n c L w q j (by have:=g.1;unfold maxLen at this;omega)).mono ?_
 rintro e w' ⟨he,rfl⟩
 exact ⟨he,Below.refl _ _⟩
theorem DN (q:Option Addr) (u j:Nat) (x:Lt) (L:Int) (w:World) (h0:RdC w w.heap.size (aH x.ins) (.slice q u j)) (Z:0<=L) (Q:L<=1099511627776) (I:BdL x.cells) :
  Calls Tryz.prog 152 #[.agg #[.slice q u j,.int .i64 x.mask],.int .i64 L] w fun e w'=>e = .returned (.int .i64 (jS L (af x.cells)))/\Below w.heap.size w w':=by
 have G:=Hd (aB (Below.refl w.heap.size w) (.cells #[.slice q u j,.int .i64 x.mask] 184))
 have W:=Hd (aI w (.cells #[.slice q u j,.int .i64 x.mask] 184))
 have K:=Hd h0
 have J:Hid (af x.cells=szC (aH x.ins)):=by show _=_;unfold Lt.cells;simp only [au,bP,fM] <;> omega
 have g:=I
 unfold Lt.cells at g
 simp only [jf] at g
 obtain ⟨D,U,_⟩:=g
 have R:=Hd D
 clear I h0 D U
 go_enter Tryz.func152,Tryz.ntmps152
 go_wp2_with fail
 refine (pF q u j x.ins _ _ (K.out.below G.out) (by omega) (by omega) R.out).mono ?_
 rintro _ w1 ⟨rfl,z⟩
 have H:=Hd (aA G.out z)
 have V:=Hd z
 clear z
 by_cases B:((szC (aH x.ins):Nat):Int)<=L
 ·rw [bI B]
  have Y:decide (L - ((szC (aH x.ins):Nat):Int)<0)=false:=by simp;omega
  go_wp2_with fail
  go_ret
  exact ⟨aL (by rw [J.out,bI (by omega)] <;> omega),H.out⟩
 rw [aZ B]
 go_wp2_with fail
 go_ret
 exact ⟨aL (by rw [J.out,aZ (by omega)]),H.out⟩
theorem Ao (A:Option Addr) (n c:Nat) (xs:List Lt) (L:Int) (w:World) (h:RdC w w.heap.size (bM xs) (.slice A n c)) (hL:0<=L) (aj:L<=1099511627776) (q:BdC (bM xs)) :
  Calls Tryz.prog 80 #[.slice A n c,.int .i64 L] w fun e w'=>e = .returned (.int .i64 (jS L (szC (bM xs))))/\Below w.heap.size w w':=by
 have B:Hid (xs.length=n):=h.lutN'
 have Q:Hid (szC (bM xs)=n+af (xs.flatMap Lt.cells)):=by show _=_;unfold bM;rw [cK Lt.cells_length (by omega),B.out]
 have HD:Hid (∀x∈xs,BdL x.cells):=by
  show ∀x∈xs,BdL x.cells
  unfold bM at q
  exact pU.1 (oU.1 q).2
 have HR:=Hd h
 have W:n<=9223372036854775807:=by
  unfold bM at q
  rw [ng Lt.cells_length (by omega),B.out] at q
  have:=q.1
  unfold maxLen at this
  omega
 clear h q
 by_cases h0:(n:Int)<=L
 ·have hd:decide (L - (n:Int)<0)=false:=by simp;omega
  go_enter Tryz.func80,Tryz.ntmps80
  go_wp2_with fail
  go_loopw [1,5] (fun v i wr=>∃k:Nat,k<=n/\i = .int .i64 k/\v = .int .i64 (L - n - (af ((xs.take k).flatMap Lt.cells):Nat))/\((af ((xs.take k).flatMap Lt.cells):Nat):Int)<=L - n/\Below w.heap.size w wr) (fun _ i _=>n - (intOf i).toNat)
  ·exact ⟨0,Nat.zero_le _,rfl,by simp [bP],by simp [bP];omega,Below.refl _ _⟩
  obtain ⟨k,hk,rfl,rfl,H,u⟩:=hrel
  have g:=Hd u
  clear u
  by_cases J:k<n
  ·have K:=dT (by omega:k<n)
   have j:k<xs.length:=by rw [B.out];exact J
   obtain ⟨b,o,S0,Z,p0,rfl,q,U,c1,Y⟩:=HR.out.lut' (k:=k) j
   have ak:b<wr.heap.size:=by have:=g.out.size;omega
   obtain ⟨i0,i1⟩:=ib (by omega:k<n)
   rw [←g.out.cell (p:=⟨b,o+k * 2,none⟩) q] at U
   rw [←g.out.cell (p:=⟨b,o+k * 2+1,none⟩) q] at c1
   have Q0:=Hd (Y.below g.out)
   have I:Hid (BdL (xs[k]?.getD Lt.zero).cells):=by show BdL _;rw [List.getElem?_eq_getElem j];exact HD.out _ (List.getElem_mem j)
   have R:Hid (af ((xs.take (k+1)).flatMap Lt.cells)=af ((xs.take k).flatMap Lt.cells)+af (xs[k]?.getD Lt.zero).cells):=nE j
   have HF:Hid (af ((xs.take (k+1)).flatMap Lt.cells)<=af (xs.flatMap Lt.cells)):=jm xs (k+1)
   clear Y j
   generalize af ((xs.take k).flatMap Lt.cells)=s at *
   generalize xs[k]?.getD Lt.zero=x at *
   go_wp2_with fail
   refine (DN S0 Z p0 x _ _ Q0.out (by omega) (by omega) I.out).mono ?_
   rintro e w' ⟨rfl,V⟩
   have z:=Hd (aA g.out V)
   clear V U c1
   by_cases h1:((af x.cells:Nat):Int)<=L - n - s
   ·rw [bI h1]
    have hd2:decide (L - (n:Int) - s - ((af x.cells:Nat):Int)<0)=false:=by simp;omega
    go_wp2_with fail
    go_roundw
    ·exact ⟨k+1,by omega,by go_num,by rw [R.out];congr 1;omega,by rw [R.out];omega,z.out⟩
    simp [intOf];omega
   rw [aZ h1]
   go_wp2_with fail
   go_ret
   exact ⟨aL (by rw [aZ];have h2:=HF.out;rw [R.out] at h2;rw [Q.out];omega),z.out⟩
  have D:k=n:=by omega
  subst D
  have K:decide ((k:Int)<(k:Int))=false:=by simp
  have G:Hid (xs.take k=xs):=List.take_of_length_le (by rw [B.out];exact Nat.le_refl _)
  go_wp2_with fail
  go_ret
  rw [G.out] at H ⊢
  exact ⟨aL (by rw [Q.out,bI (by omega)];omega),g.out⟩
 have hd:decide (L - (n:Int)<0)=true:=by simp;omega
 go_enter Tryz.func80,Tryz.ntmps80
 go_wp2_with fail
 go_ret
 exact ⟨aL (by rw [aZ];rw [Q.out];omega),Below.refl _ _⟩
theorem DR (q:Option Addr) (u j:Nat) (x:Sq) (L:Int) (w:World) (h0:RdC w w.heap.size (aH x.ins) (.slice q u j)) (hL:0<=L) (Q:L<=1099511627776) (I:BdL x.cells) :
  Calls Tryz.prog 151 #[.agg #[.int .i64 x.kind,.int .i64 x.init,.slice q u j],.int .i64 L] w fun e w'=>e = .returned (.int .i64 (jS L (af x.cells)))/\Below w.heap.size w w':=by
 have D:=Hd (aB (Below.refl w.heap.size w) (.cells #[.int .i64 x.kind,.int .i64 x.init,.slice q u j] 182))
 have Y:=Hd (aI w (.cells #[.int .i64 x.kind,.int .i64 x.init,.slice q u j] 182))
 have K:=Hd h0
 have J:Hid (af x.cells=szC (aH x.ins)):=by show _=_;unfold Sq.cells;simp only [au,bP,fM] <;> omega
 have g:=I
 unfold Sq.cells at g
 simp only [jf] at g
 obtain ⟨R,V,G,_⟩:=g
 have U:=Hd G
 clear I h0 R V G
 go_enter Tryz.func151,Tryz.ntmps151
 go_wp2_with fail
 refine (pF q u j x.ins _ _ (K.out.below D.out) (by omega) (by omega) U.out).mono ?_
 rintro _ w1 ⟨rfl,z⟩
 have H:=Hd (aA D.out z)
 have W:=Hd z
 clear z
 by_cases B:((szC (aH x.ins):Nat):Int)<=L
 ·rw [bI B]
  have Z:decide (L - ((szC (aH x.ins):Nat):Int)<0)=false:=by simp;omega
  go_wp2_with fail
  go_ret
  exact ⟨aL (by rw [J.out,bI (by omega)] <;> omega),H.out⟩
 rw [aZ B]
 go_wp2_with fail
 go_ret
 exact ⟨aL (by rw [J.out,aZ (by omega)]),H.out⟩
theorem Aq (A:Option Addr) (n c:Nat) (xs:List Sq) (L:Int) (w:World) (h:RdC w w.heap.size (bD xs) (.slice A n c)) (hL:0<=L) (aj:L<=1099511627776) (q:BdC (bD xs)) :
  Calls Tryz.prog 79 #[.slice A n c,.int .i64 L] w fun e w'=>e = .returned (.int .i64 (jS L (szC (bD xs))))/\Below w.heap.size w w':=by
 have B:Hid (xs.length=n):=h.sqN'
 have Q:Hid (szC (bD xs)=n+af (xs.flatMap Sq.cells)):=by show _=_;unfold bD;rw [cK Sq.cells_length (by omega),B.out]
 have HD:Hid (∀x∈xs,BdL x.cells):=by
  show ∀x∈xs,BdL x.cells
  unfold bD at q
  exact pU.1 (oU.1 q).2
 have HR:=Hd h
 have W:n<=9223372036854775807:=by
  unfold bD at q
  rw [ng Sq.cells_length (by omega),B.out] at q
  have:=q.1
  unfold maxLen at this
  omega
 clear h q
 by_cases h0:(n:Int)<=L
 ·have hd:decide (L - (n:Int)<0)=false:=by simp;omega
  go_enter Tryz.func79,Tryz.ntmps79
  go_wp2_with fail
  go_loopw [1,5] (fun v i wr=>∃k:Nat,k<=n/\i = .int .i64 k/\v = .int .i64 (L - n - (af ((xs.take k).flatMap Sq.cells):Nat))/\((af ((xs.take k).flatMap Sq.cells):Nat):Int)<=L - n/\Below w.heap.size w wr) (fun _ i _=>n - (intOf i).toNat)
  ·exact ⟨0,Nat.zero_le _,rfl,by simp [bP],by simp [bP];omega,Below.refl _ _⟩
  obtain ⟨k,hk,rfl,rfl,H,u⟩:=hrel
  have g:=Hd u
  clear u
  by_cases J:k<n
  ·have K:=dT (by omega:k<n)
   have j:k<xs.length:=by rw [B.out];exact J
   obtain ⟨b,o,S0,Z,p0,rfl,q,U,c1,c2,Y⟩:=HR.out.sq' (k:=k) j
   have ak:b<wr.heap.size:=by have:=g.out.size;omega
   obtain ⟨i0,i1⟩:=ib (by omega:k<n)
   rw [←g.out.cell (p:=⟨b,o+k * 3,none⟩) q] at U
   rw [←g.out.cell (p:=⟨b,o+k * 3+1,none⟩) q] at c1
   rw [←g.out.cell (p:=⟨b,o+k * 3+2,none⟩) q] at c2
   have Q0:=Hd (Y.below g.out)
   have I:Hid (BdL (xs[k]?.getD Sq.zero).cells):=by show BdL _;rw [List.getElem?_eq_getElem j];exact HD.out _ (List.getElem_mem j)
   have R:Hid (af ((xs.take (k+1)).flatMap Sq.cells)=af ((xs.take k).flatMap Sq.cells)+af (xs[k]?.getD Sq.zero).cells):=nE j
   have HF:Hid (af ((xs.take (k+1)).flatMap Sq.cells)<=af (xs.flatMap Sq.cells)):=jm xs (k+1)
   clear Y j
   generalize af ((xs.take k).flatMap Sq.cells)=s at *
   generalize xs[k]?.getD Sq.zero=x at *
   go_wp2_with fail
   refine (DR S0 Z p0 x _ _ Q0.out (by omega) (by omega) I.out).mono ?_
   rintro e w' ⟨rfl,V⟩
   have z:=Hd (aA g.out V)
   clear V U c1 c2
   by_cases h1:((af x.cells:Nat):Int)<=L - n - s
   ·rw [bI h1]
    have hd2:decide (L - (n:Int) - s - ((af x.cells:Nat):Int)<0)=false:=by simp;omega
    go_wp2_with fail
    go_roundw
    ·exact ⟨k+1,by omega,by go_num,by rw [R.out];congr 1;omega,by rw [R.out];omega,z.out⟩
    simp [intOf];omega
   rw [aZ h1]
   go_wp2_with fail
   go_ret
   exact ⟨aL (by rw [aZ];have h2:=HF.out;rw [R.out] at h2;rw [Q.out];omega),z.out⟩
  have D:k=n:=by omega
  subst D
  have K:decide ((k:Int)<(k:Int))=false:=by simp
  have G:Hid (xs.take k=xs):=List.take_of_length_le (by rw [B.out];exact Nat.le_refl _)
  go_wp2_with fail
  go_ret
  rw [G.out] at H ⊢
  exact ⟨aL (by rw [Q.out,bI (by omega)];omega),g.out⟩
 have hd:decide (L - (n:Int)<0)=true:=by simp;omega
 go_enter Tryz.func79,Tryz.ntmps79
 go_wp2_with fail
 go_ret
 exact ⟨aL (by rw [aZ];rw [Q.out];omega),Below.refl _ _⟩
theorem xX (q A1 A2:Option Addr) (u j n1 c1 n2 c2:Nat) (x:ag) (L:Int) (w:World) (h0:RdC w w.heap.size (bD x.seqs) (.slice q u j)) (h1:RdC w w.heap.size (bM x.luts) (.slice A1 n1 c1)) (h2:RdC w w.heap.size (aH x.outs) (.slice A2 n2 c2)) (hL:0<=L) (am:L<=1099511627776) (hb:BdL x.cells) :
  Calls Tryz.prog 24 #[.agg #[.int .i64 x.inputs,.slice q u j,.slice A1 n1 c1,.slice A2 n2 c2],.int .i64 L] w fun e w'=>e = .returned (.int .i64 (jS L (af x.cells)))/\Below w.heap.size w w':=by
 have Z:=Hd (aB (Below.refl w.heap.size w) (.cells #[.int .i64 x.inputs,.slice q u j,.slice A1 n1 c1,.slice A2 n2 c2] 28))
 have U:=Hd (aI w (.cells #[.int .i64 x.inputs,.slice q u j,.slice A1 n1 c1,.slice A2 n2 c2] 28))
 obtain ⟨R0,R1,R2⟩:=hd3 h0 h1 h2
 have z:Hid (af x.cells=szC (bD x.seqs)+szC (bM x.luts)+szC (aH x.outs)):=by show _=_;unfold ag.cells;simp only [au,bP,fM] <;> omega
 have g:=hb
 unfold ag.cells at g
 simp only [jf] at g
 obtain ⟨d0,d1,d2,d3,_⟩:=g
 obtain ⟨D0,D1,D2⟩:=hd3 d1 d2 d3
 clear hb h0 h1 h2 d0 d1 d2 d3
 go_enter Tryz.func24,Tryz.ntmps24
 go_wp2_with fail
 refine (Aq q u j x.seqs _ _ (R0.out.below Z.out) (by omega) (by omega) D0.out).mono ?_
 rintro _ w1 ⟨rfl,J⟩
 have I:=Hd (aA Z.out J)
 have R:=Hd J
 clear J
 by_cases Q:((szC (bD x.seqs):Nat):Int)<=L
 ·rw [bI Q]
  have e0:decide (L - ((szC (bD x.seqs):Nat):Int)<0)=false:=by simp;omega
  obtain ⟨-,-,x2,H,B⟩:=cO (aD R.out U.out)
  go_wp2_with fail
  refine (Ao A1 n1 c1 x.luts _ _ (R1.out.below I.out) (by omega) (by omega) D1.out).mono ?_
  rintro _ w2 ⟨rfl,G⟩
  have D:=Hd (aA I.out G)
  have Y:=Hd (aA R.out G)
  clear G B x2 H
  by_cases V:((szC (bM x.luts):Nat):Int)<=L - ((szC (bD x.seqs):Nat):Int)
  ·rw [bI V]
   have e1:decide (L - ((szC (bD x.seqs):Nat):Int) - ((szC (bM x.luts):Nat):Int)<0)=false:=by simp;omega
   obtain ⟨-,-,-,H,B⟩:=cO (aD Y.out U.out)
   go_wp2_with fail
   refine (pF A2 n2 c2 x.outs _ _ (R2.out.below D.out) (by omega) (by omega) D2.out).mono ?_
   rintro _ w3 ⟨rfl,K⟩
   have B3:=Hd (aA D.out K)
   have C3:=Hd (aA Y.out K)
   clear K B H
   by_cases W:((szC (aH x.outs):Nat):Int)<=L - ((szC (bD x.seqs):Nat):Int) - ((szC (bM x.luts):Nat):Int)
   ·rw [bI W]
    have e2:decide (L - ((szC (bD x.seqs):Nat):Int) - ((szC (bM x.luts):Nat):Int) - ((szC (aH x.outs):Nat):Int)<0)=false:=by simp;omega
    go_wp2_with fail
    go_ret
    exact ⟨aL (by rw [z.out,bI (by omega)] <;> omega),B3.out⟩
   rw [aZ W]
   go_wp2_with fail
   go_ret
   exact ⟨aL (by rw [z.out,aZ (by omega)]),B3.out⟩
  rw [aZ V]
  go_wp2_with fail
  go_ret
  exact ⟨aL (by rw [z.out,aZ (by omega)]),D.out⟩
 rw [aZ Q]
 go_wp2_with fail
 go_ret
 exact ⟨aL (by rw [z.out,aZ (by omega)]),I.out⟩
theorem DT (A:Option Addr) (n c:Nat) (xs:List LeT) (L:Int) (w:World) (h:RdC w w.heap.size (cZ xs) (.slice A n c)) (z:0<=L) (u:L<=1099511627776) (g:BdC (cZ xs)) :
  Calls Tryz.prog 201 #[.slice A n c,.int .i64 L] w fun e w'=>e = .returned (.int .i64 (jS L (szC (cZ xs))))/\Below w.heap.size w w':=by
 have hn:xs.length=n:=h.esN
 have hs:szC (cZ xs)=n:=by
  unfold cZ
  rw [cK LeT.cells_length (by omega),hn]
  have:af (xs.flatMap LeT.cells)=0:=by
   clear h g hn
   induction xs with
   | nil=>rw [List.flatMap_nil,bP]
   | cons x xs ih=>rw [List.flatMap_cons,iD,ih];unfold LeT.cells;simp only [au,bP,fM]
  omega
 have j:n<=9223372036854775807:=by
  unfold cZ at g
  rw [ng LeT.cells_length (by omega),hn] at g
  have:=g.1
  unfold maxLen at this
  omega
 rw [hs]
 clear hs h g hn
 by_cases h:(n:Int)<=L
 ·have q:decide (L - (n:Int)<0)=false:=by simp;omega
  have hl:=Hd (bI h)
  go_enter Tryz.func201,Tryz.ntmps201
  go_wp2_with fail
  go_ret
  exact ⟨aL hl.out.symm,Below.refl _ _⟩
 have q:decide (L - (n:Int)<0)=true:=by simp;omega
 have hl:=Hd (aZ h)
 go_enter Tryz.func201,Tryz.ntmps201
 go_wp2_with fail
 go_ret
 exact ⟨aL hl.out.symm,Below.refl _ _⟩
theorem zQ (q:Option Addr) (u j:Nat) (x:Blk) (L:Int) (w:World) (h0:RdC w w.heap.size (cZ x.les) (.slice q u j)) (hL:0<=L) (Q:L<=1099511627776) (I:BdL x.cells) :
  Calls Tryz.prog 107 #[.agg #[.int .i64 x.kind,.int .i64 x.item,.slice q u j],.int .i64 L] w fun e w'=>e = .returned (.int .i64 (jS L (af x.cells)))/\Below w.heap.size w w':=by
 have D:=Hd (aB (Below.refl w.heap.size w) (.cells #[.int .i64 x.kind,.int .i64 x.item,.slice q u j] 147))
 have Y:=Hd (aI w (.cells #[.int .i64 x.kind,.int .i64 x.item,.slice q u j] 147))
 have K:=Hd h0
 have J:Hid (af x.cells=szC (cZ x.les)):=by show _=_;unfold Blk.cells;simp only [au,bP,fM] <;> omega
 have g:=I
 unfold Blk.cells at g
 simp only [jf] at g
 obtain ⟨R,V,G,_⟩:=g
 have U:=Hd G
 clear I h0 R V G
 go_enter Tryz.func107,Tryz.ntmps107
 go_wp2_with fail
 refine (DT q u j x.les _ _ (K.out.below D.out) (by omega) (by omega) U.out).mono ?_
 rintro _ w1 ⟨rfl,z⟩
 have H:=Hd (aA D.out z)
 have W:=Hd z
 clear z
 by_cases B:((szC (cZ x.les):Nat):Int)<=L
 ·rw [bI B]
  have Z:decide (L - ((szC (cZ x.les):Nat):Int)<0)=false:=by simp;omega
  go_wp2_with fail
  go_ret
  exact ⟨aL (by rw [J.out,bI (by omega)] <;> omega),H.out⟩
 rw [aZ B]
 go_wp2_with fail
 go_ret
 exact ⟨aL (by rw [J.out,aZ (by omega)]),H.out⟩
theorem xY (A:Option Addr) (n c:Nat) (xs:List Blk) (L:Int) (w:World) (h:RdC w w.heap.size (aa xs) (.slice A n c)) (hL:0<=L) (aj:L<=1099511627776) (q:BdC (aa xs)) :
  Calls Tryz.prog 31 #[.slice A n c,.int .i64 L] w fun e w'=>e = .returned (.int .i64 (jS L (szC (aa xs))))/\Below w.heap.size w w':=by
 have B:Hid (xs.length=n):=h.blkN
 have Q:Hid (szC (aa xs)=n+af (xs.flatMap Blk.cells)):=by show _=_;unfold aa;rw [cK Blk.cells_length (by omega),B.out]
 have HD:Hid (∀x∈xs,BdL x.cells):=by
  show ∀x∈xs,BdL x.cells
  unfold aa at q
  exact pU.1 (oU.1 q).2
 have HR:=Hd h
 have W:n<=9223372036854775807:=by
  unfold aa at q
  rw [ng Blk.cells_length (by omega),B.out] at q
  have:=q.1
  unfold maxLen at this
  omega
 clear h q
 by_cases h0:(n:Int)<=L
 ·have hd:decide (L - (n:Int)<0)=false:=by simp;omega
  go_enter Tryz.func31,Tryz.ntmps31
  go_wp2_with fail
  go_loopw [1,5] (fun v i wr=>∃k:Nat,k<=n/\i = .int .i64 k/\v = .int .i64 (L - n - (af ((xs.take k).flatMap Blk.cells):Nat))/\((af ((xs.take k).flatMap Blk.cells):Nat):Int)<=L - n/\Below w.heap.size w wr) (fun _ i _=>n - (intOf i).toNat)
  ·exact ⟨0,Nat.zero_le _,rfl,by simp [bP],by simp [bP];omega,Below.refl _ _⟩
  obtain ⟨k,hk,rfl,rfl,H,u⟩:=hrel
  have g:=Hd u
  clear u
  by_cases J:k<n
  ·have K:=dT (by omega:k<n)
   have j:k<xs.length:=by rw [B.out];exact J
   obtain ⟨b,o,S0,Z,p0,rfl,q,U,c1,c2,Y⟩:=HR.out.blk (k:=k) j
   have ak:b<wr.heap.size:=by have:=g.out.size;omega
   obtain ⟨i0,i1⟩:=ib (by omega:k<n)
   rw [←g.out.cell (p:=⟨b,o+k * 3,none⟩) q] at U
   rw [←g.out.cell (p:=⟨b,o+k * 3+1,none⟩) q] at c1
   rw [←g.out.cell (p:=⟨b,o+k * 3+2,none⟩) q] at c2
   have Q0:=Hd (Y.below g.out)
   have I:Hid (BdL (xs[k]?.getD Blk.zero).cells):=by show BdL _;rw [List.getElem?_eq_getElem j];exact HD.out _ (List.getElem_mem j)
   have R:Hid (af ((xs.take (k+1)).flatMap Blk.cells)=af ((xs.take k).flatMap Blk.cells)+af (xs[k]?.getD Blk.zero).cells):=nE j
   have HF:Hid (af ((xs.take (k+1)).flatMap Blk.cells)<=af (xs.flatMap Blk.cells)):=jm xs (k+1)
   clear Y j
   generalize af ((xs.take k).flatMap Blk.cells)=s at *
   generalize xs[k]?.getD Blk.zero=x at *
   go_wp2_with fail
   refine (zQ S0 Z p0 x _ _ Q0.out (by omega) (by omega) I.out).mono ?_
   rintro e w' ⟨rfl,V⟩
   have z:=Hd (aA g.out V)
   clear V U c1 c2
   by_cases h1:((af x.cells:Nat):Int)<=L - n - s
   ·rw [bI h1]
    have hd2:decide (L - (n:Int) - s - ((af x.cells:Nat):Int)<0)=false:=by simp;omega
    go_wp2_with fail
    go_roundw
    ·exact ⟨k+1,by omega,by go_num,by rw [R.out];congr 1;omega,by rw [R.out];omega,z.out⟩
    simp [intOf];omega
   rw [aZ h1]
   go_wp2_with fail
   go_ret
   exact ⟨aL (by rw [aZ];have h2:=HF.out;rw [R.out] at h2;rw [Q.out];omega),z.out⟩
  have D:k=n:=by omega
  subst D
  have K:decide ((k:Int)<(k:Int))=false:=by simp
  have G:Hid (xs.take k=xs):=List.take_of_length_le (by rw [B.out];exact Nat.le_refl _)
  go_wp2_with fail
  go_ret
  rw [G.out] at H ⊢
  exact ⟨aL (by rw [Q.out,bI (by omega)];omega),g.out⟩
 have hd:decide (L - (n:Int)<0)=true:=by simp;omega
 go_enter Tryz.func31,Tryz.ntmps31
 go_wp2_with fail
 go_ret
 exact ⟨aL (by rw [aZ];rw [Q.out];omega),Below.refl _ _⟩
theorem Ar (A:Option Addr) (n c:Nat) (xs:List bS) (L:Int) (w:World) (h:RdC w w.heap.size (bR xs) (.slice A n c)) (z:0<=L) (u:L<=1099511627776) (g:BdC (bR xs)) :
  Calls Tryz.prog 202 #[.slice A n c,.int .i64 L] w fun e w'=>e = .returned (.int .i64 (jS L (szC (bR xs))))/\Below w.heap.size w w':=by
 have hn:xs.length=n:=h.pinN
 have hs:szC (bR xs)=n:=by
  unfold bR
  rw [cK bS.cells_length (by omega),hn]
  have:af (xs.flatMap bS.cells)=0:=by
   clear h g hn
   induction xs with
   | nil=>rw [List.flatMap_nil,bP]
   | cons x xs ih=>rw [List.flatMap_cons,iD,ih];unfold bS.cells;simp only [au,bP,fM]
  omega
 have j:n<=9223372036854775807:=by
  unfold bR at g
  rw [ng bS.cells_length (by omega),hn] at g
  have:=g.1
  unfold maxLen at this
  omega
 rw [hs]
 clear hs h g hn
 by_cases h:(n:Int)<=L
 ·have q:decide (L - (n:Int)<0)=false:=by simp;omega
  have hl:=Hd (bI h)
  go_enter Tryz.func202,Tryz.ntmps202
  go_wp2_with fail
  go_ret
  exact ⟨aL hl.out.symm,Below.refl _ _⟩
 have q:decide (L - (n:Int)<0)=true:=by simp;omega
 have hl:=Hd (aZ h)
 go_enter Tryz.func202,Tryz.ntmps202
 go_wp2_with fail
 go_ret
 exact ⟨aL hl.out.symm,Below.refl _ _⟩
theorem Au (q:Option Addr) (u j:Nat) (x:Cn) (L:Int) (w:World) (h0:RdC w w.heap.size (bR x.sinks) (.slice q u j)) (hL:0<=L) (Q:L<=1099511627776) (H:BdL x.cells) :
  Calls Tryz.prog 108 #[.agg #[.int .i64 x.node,.int .i64 x.src.block,.int .i64 x.src.pin,.slice q u j],.int .i64 L] w fun e w'=>e = .returned (.int .i64 (jS L (af x.cells)))/\Below w.heap.size w w':=by
 have D:=Hd (aB (Below.refl w.heap.size w) (.cells #[.int .i64 x.node,.int .i64 x.src.block,.int .i64 x.src.pin,.slice q u j] 152))
 have Z:=Hd (aI w (.cells #[.int .i64 x.node,.int .i64 x.src.block,.int .i64 x.src.pin,.slice q u j] 152))
 have K:=Hd h0
 have J:Hid (af x.cells=szC (bR x.sinks)):=by show _=_;unfold Cn.cells;simp only [au,bP,fM] <;> omega
 have g:=H
 unfold Cn.cells at g
 simp only [jf] at g
 obtain ⟨R,W,U,I,_⟩:=g
 have V:=Hd I
 clear H h0 R W U I
 go_enter Tryz.func108,Tryz.ntmps108
 go_wp2_with fail
 refine (Ar q u j x.sinks _ _ (K.out.below D.out) (by omega) (by omega) V.out).mono ?_
 rintro _ w1 ⟨rfl,z⟩
 have G:=Hd (aA D.out z)
 have Y:=Hd z
 clear z
 by_cases B:((szC (bR x.sinks):Nat):Int)<=L
 ·rw [bI B]
  have e0:decide (L - ((szC (bR x.sinks):Nat):Int)<0)=false:=by simp;omega
  go_wp2_with fail
  go_ret
  exact ⟨aL (by rw [J.out,bI (by omega)] <;> omega),G.out⟩
 rw [aZ B]
 go_wp2_with fail
 go_ret
 exact ⟨aL (by rw [J.out,aZ (by omega)]),G.out⟩
theorem zR (A:Option Addr) (n c:Nat) (xs:List Cn) (L:Int) (w:World) (h:RdC w w.heap.size (ah xs) (.slice A n c)) (hL:0<=L) (ak:L<=1099511627776) (q:BdC (ah xs)) :
  Calls Tryz.prog 32 #[.slice A n c,.int .i64 L] w fun e w'=>e = .returned (.int .i64 (jS L (szC (ah xs))))/\Below w.heap.size w w':=by
 have B:Hid (xs.length=n):=h.cnN
 have Q:Hid (szC (ah xs)=n+af (xs.flatMap Cn.cells)):=by show _=_;unfold ah;rw [cK Cn.cells_length (by omega),B.out]
 have HD:Hid (∀x∈xs,BdL x.cells):=by
  show ∀x∈xs,BdL x.cells
  unfold ah at q
  exact pU.1 (oU.1 q).2
 have HR:=Hd h
 have W:n<=9223372036854775807:=by
  unfold ah at q
  rw [ng Cn.cells_length (by omega),B.out] at q
  have:=q.1
  unfold maxLen at this
  omega
 clear h q
 by_cases h0:(n:Int)<=L
 ·have hd:decide (L - (n:Int)<0)=false:=by simp;omega
  go_enter Tryz.func32,Tryz.ntmps32
  go_wp2_with fail
  go_loopw [1,5] (fun v i wr=>∃k:Nat,k<=n/\i = .int .i64 k/\v = .int .i64 (L - n - (af ((xs.take k).flatMap Cn.cells):Nat))/\((af ((xs.take k).flatMap Cn.cells):Nat):Int)<=L - n/\Below w.heap.size w wr) (fun _ i _=>n - (intOf i).toNat)
  ·exact ⟨0,Nat.zero_le _,rfl,by simp [bP],by simp [bP];omega,Below.refl _ _⟩
  obtain ⟨k,hk,rfl,rfl,H,u⟩:=hrel
  have g:=Hd u
  clear u
  by_cases J:k<n
  ·have K:=dT (by omega:k<n)
   have j:k<xs.length:=by rw [B.out];exact J
   obtain ⟨b,o,S0,Z,p0,rfl,q,U,c1,c2,c3,Y⟩:=HR.out.cn (k:=k) j
   have al:b<wr.heap.size:=by have:=g.out.size;omega
   obtain ⟨i0,i1⟩:=ib (by omega:k<n)
   rw [←g.out.cell (p:=⟨b,o+k * 4,none⟩) q] at U
   rw [←g.out.cell (p:=⟨b,o+k * 4+1,none⟩) q] at c1
   rw [←g.out.cell (p:=⟨b,o+k * 4+2,none⟩) q] at c2
   rw [←g.out.cell (p:=⟨b,o+k * 4+3,none⟩) q] at c3
   have Q0:=Hd (Y.below g.out)
   have I:Hid (BdL (xs[k]?.getD Cn.zero).cells):=by show BdL _;rw [List.getElem?_eq_getElem j];exact HD.out _ (List.getElem_mem j)
   have R:Hid (af ((xs.take (k+1)).flatMap Cn.cells)=af ((xs.take k).flatMap Cn.cells)+af (xs[k]?.getD Cn.zero).cells):=nE j
   have HF:Hid (af ((xs.take (k+1)).flatMap Cn.cells)<=af (xs.flatMap Cn.cells)):=jm xs (k+1)
   clear Y j
   generalize af ((xs.take k).flatMap Cn.cells)=s at *
   generalize xs[k]?.getD Cn.zero=x at *
   go_wp2_with fail
   refine (Au S0 Z p0 x _ _ Q0.out (by omega) (by omega) I.out).mono ?_
   rintro e w' ⟨rfl,V⟩
   have z:=Hd (aA g.out V)
   clear V U c1 c2 c3
   by_cases h1:((af x.cells:Nat):Int)<=L - n - s
   ·rw [bI h1]
    have hd2:decide (L - (n:Int) - s - ((af x.cells:Nat):Int)<0)=false:=by simp;omega
    go_wp2_with fail
    go_roundw
    ·exact ⟨k+1,by omega,by go_num,by rw [R.out];congr 1;omega,by rw [R.out];omega,z.out⟩
    simp [intOf];omega
   rw [aZ h1]
   go_wp2_with fail
   go_ret
   exact ⟨aL (by rw [aZ];have h2:=HF.out;rw [R.out] at h2;rw [Q.out];omega),z.out⟩
  have D:k=n:=by omega
  subst D
  have K:decide ((k:Int)<(k:Int))=false:=by simp
  have G:Hid (xs.take k=xs):=List.take_of_length_le (by rw [B.out];exact Nat.le_refl _)
  go_wp2_with fail
  go_ret
  rw [G.out] at H ⊢
  exact ⟨aL (by rw [Q.out,bI (by omega)];omega),g.out⟩
 have hd:decide (L - (n:Int)<0)=true:=by simp;omega
 go_enter Tryz.func32,Tryz.ntmps32
 go_wp2_with fail
 go_ret
 exact ⟨aL (by rw [aZ];rw [Q.out];omega),Below.refl _ _⟩
theorem zS (q A1:Option Addr) (u j n1 c1:Nat) (x:Rou) (L:Int) (w:World) (h0:RdC w w.heap.size (aH x.nodes) (.slice q u j)) (h1:RdC w w.heap.size (aH x.from_) (.slice A1 n1 c1)) (hL:0<=L) (ad:L<=1099511627776) (U:BdL x.cells) :
  Calls Tryz.prog 109 #[.agg #[.slice q u j,.slice A1 n1 c1],.int .i64 L] w fun e w'=>e = .returned (.int .i64 (jS L (af x.cells)))/\Below w.heap.size w w':=by
 have R:=Hd (aB (Below.refl w.heap.size w) (.cells #[.slice q u j,.slice A1 n1 c1] 154))
 have Y:=Hd (aI w (.cells #[.slice q u j,.slice A1 n1 c1] 154))
 obtain ⟨Z,W⟩:=hd2 h0 h1
 have G:Hid (af x.cells=szC (aH x.nodes)+szC (aH x.from_)):=by show _=_;unfold Rou.cells;simp only [au,bP] <;> omega
 have g:=U
 unfold Rou.cells at g
 simp only [jf] at g
 obtain ⟨Q,V,_⟩:=g
 obtain ⟨D0,D1⟩:=hd2 Q V
 clear U h0 h1 Q V
 go_enter Tryz.func109,Tryz.ntmps109
 go_wp2_with fail
 refine (pF q u j x.nodes _ _ (Z.out.below R.out) (by omega) (by omega) D0.out).mono ?_
 rintro _ w1 ⟨rfl,D⟩
 have B:=Hd (aA R.out D)
 have J:=Hd D
 clear D
 by_cases H:((szC (aH x.nodes):Nat):Int)<=L
 ·rw [bI H]
  have e0:decide (L - ((szC (aH x.nodes):Nat):Int)<0)=false:=by simp;omega
  obtain ⟨-,x1,lx⟩:=jv (aD J.out Y.out)
  go_wp2_with fail
  refine (pF A1 n1 c1 x.from_ _ _ (W.out.below B.out) (by omega) (by omega) D1.out).mono ?_
  rintro _ w2 ⟨rfl,z⟩
  have I:=Hd (aA B.out z)
  have C2:=Hd (aA J.out z)
  clear z lx x1
  by_cases K:((szC (aH x.from_):Nat):Int)<=L - ((szC (aH x.nodes):Nat):Int)
  ·rw [bI K]
   have e1:decide (L - ((szC (aH x.nodes):Nat):Int) - ((szC (aH x.from_):Nat):Int)<0)=false:=by simp;omega
   go_wp2_with fail
   go_ret
   exact ⟨aL (by rw [G.out,bI (by omega)] <;> omega),I.out⟩
  rw [aZ K]
  go_wp2_with fail
  go_ret
  exact ⟨aL (by rw [G.out,aZ (by omega)]),I.out⟩
 rw [aZ H]
 go_wp2_with fail
 go_ret
 exact ⟨aL (by rw [G.out,aZ (by omega)]),B.out⟩
theorem xZ (A:Option Addr) (n c:Nat) (xs:List Rou) (L:Int) (w:World) (h:RdC w w.heap.size (bH xs) (.slice A n c)) (hL:0<=L) (am:L<=1099511627776) (q:BdC (bH xs)) :
  Calls Tryz.prog 34 #[.slice A n c,.int .i64 L] w fun e w'=>e = .returned (.int .i64 (jS L (szC (bH xs))))/\Below w.heap.size w w':=by
 have B:Hid (xs.length=n):=h.rouN
 have Q:Hid (szC (bH xs)=n+af (xs.flatMap Rou.cells)):=by show _=_;unfold bH;rw [cK Rou.cells_length (by omega),B.out]
 have HD:Hid (∀x∈xs,BdL x.cells):=by
  show ∀x∈xs,BdL x.cells
  unfold bH at q
  exact pU.1 (oU.1 q).2
 have HR:=Hd h
 have Y:n<=9223372036854775807:=by
  unfold bH at q
  rw [ng Rou.cells_length (by omega),B.out] at q
  have:=q.1
  unfold maxLen at this
  omega
 clear h q
 by_cases h0:(n:Int)<=L
 ·have hd:decide (L - (n:Int)<0)=false:=by simp;omega
  go_enter Tryz.func34,Tryz.ntmps34
  go_wp2_with fail
  go_loopw [1,5] (fun v i wr=>∃k:Nat,k<=n/\i = .int .i64 k/\v = .int .i64 (L - n - (af ((xs.take k).flatMap Rou.cells):Nat))/\((af ((xs.take k).flatMap Rou.cells):Nat):Int)<=L - n/\Below w.heap.size w wr) (fun _ i _=>n - (intOf i).toNat)
  ·exact ⟨0,Nat.zero_le _,rfl,by simp [bP],by simp [bP];omega,Below.refl _ _⟩
  obtain ⟨k,hk,rfl,rfl,H,u⟩:=hrel
  have g:=Hd u
  clear u
  by_cases J:k<n
  ·have K:=dT (by omega:k<n)
   have j:k<xs.length:=by rw [B.out];exact J
   obtain ⟨b,o,S0,m0,p0,S1,m1,p1,rfl,q,U,c1,Z,W⟩:=HR.out.rou (k:=k) j
   have ap:b<wr.heap.size:=by have:=g.out.size;omega
   obtain ⟨i0,i1⟩:=ib (by omega:k<n)
   rw [←g.out.cell (p:=⟨b,o+k * 2,none⟩) q] at U
   rw [←g.out.cell (p:=⟨b,o+k * 2+1,none⟩) q] at c1
   have Q0:=Hd (Z.below g.out)
   have Q1:=Hd (W.below g.out)
   have I:Hid (BdL (xs[k]?.getD Rou.zero).cells):=by show BdL _;rw [List.getElem?_eq_getElem j];exact HD.out _ (List.getElem_mem j)
   have R:Hid (af ((xs.take (k+1)).flatMap Rou.cells)=af ((xs.take k).flatMap Rou.cells)+af (xs[k]?.getD Rou.zero).cells):=nE j
   have HF:Hid (af ((xs.take (k+1)).flatMap Rou.cells)<=af (xs.flatMap Rou.cells)):=jm xs (k+1)
   clear Z W j
   generalize af ((xs.take k).flatMap Rou.cells)=s at *
   generalize xs[k]?.getD Rou.zero=x at *
   go_wp2_with fail
   refine (zS S0 S1 m0 p0 m1 p1 x _ _ Q0.out Q1.out (by omega) (by omega) I.out).mono ?_
   rintro e w' ⟨rfl,V⟩
   have z:=Hd (aA g.out V)
   clear V U c1
   by_cases h1:((af x.cells:Nat):Int)<=L - n - s
   ·rw [bI h1]
    have hd2:decide (L - (n:Int) - s - ((af x.cells:Nat):Int)<0)=false:=by simp;omega
    go_wp2_with fail
    go_roundw
    ·exact ⟨k+1,by omega,by go_num,by rw [R.out];congr 1;omega,by rw [R.out];omega,z.out⟩
    simp [intOf];omega
   rw [aZ h1]
   go_wp2_with fail
   go_ret
   exact ⟨aL (by rw [aZ];have h2:=HF.out;rw [R.out] at h2;rw [Q.out];omega),z.out⟩
  have D:k=n:=by omega
  subst D
  have K:decide ((k:Int)<(k:Int))=false:=by simp
  have G:Hid (xs.take k=xs):=List.take_of_length_le (by rw [B.out];exact Nat.le_refl _)
  go_wp2_with fail
  go_ret
  rw [G.out] at H ⊢
  exact ⟨aL (by rw [Q.out,bI (by omega)];omega),g.out⟩
 have hd:decide (L - (n:Int)<0)=true:=by simp;omega
 go_enter Tryz.func34,Tryz.ntmps34
 go_wp2_with fail
 go_ret
 exact ⟨aL (by rw [aZ];rw [Q.out];omega),Below.refl _ _⟩
theorem xe (Q A1 A2 A3 D U B:Option Addr) (W z n1 c1 n2 c2 n3 c3 G H J K R V:Nat) (x:Lay) (L:Int) (w:World) (h0:RdC w w.heap.size (bD x.net.seqs) (.slice Q W z)) (h1:RdC w w.heap.size (bM x.net.luts) (.slice A1 n1 c1)) (h2:RdC w w.heap.size (aH x.net.outs) (.slice A2 n2 c2)) (h3:RdC w w.heap.size (aa x.blocks) (.slice A3 n3 c3)) (h4:RdC w w.heap.size (ah x.conns) (.slice D G H)) (h5:RdC w w.heap.size (aH x.place) (.slice U J K)) (h6:RdC w w.heap.size (bH x.routes) (.slice B R V)) (hL:0<=L) (a3:L<=1099511627776) (hb:BdL x.cells) :
  Calls Tryz.prog 7 #[.agg #[.int .i64 x.net.inputs,.slice Q W z,.slice A1 n1 c1,.slice A2 n2 c2,.slice A3 n3 c3,.slice D G H,.slice U J K,.slice B R V],.int .i64 L] w fun e w'=>e = .returned (.int .i64 (jS L (af x.cells)))/\Below w.heap.size w w':=by
 have Y:=Hd (aB (Below.refl w.heap.size w) (.cells #[.int .i64 x.net.inputs,.slice Q W z,.slice A1 n1 c1,.slice A2 n2 c2,.slice A3 n3 c3,.slice D G H,.slice U J K,.slice B R V] 33))
 have Z:=Hd (aI w (.cells #[.int .i64 x.net.inputs,.slice Q W z,.slice A1 n1 c1,.slice A2 n2 c2,.slice A3 n3 c3,.slice D G H,.slice U J K,.slice B R V] 33))
 obtain ⟨R0,R1,R2,R3,R4,R5,R6⟩:=hd7 h0 h1 h2 h3 h4 h5 h6
 have u:Hid (af x.cells=af x.net.cells+szC (aa x.blocks)+szC (ah x.conns)+szC (aH x.place)+szC (bH x.routes)):=by show _=_;unfold Lay.cells;simp only [iD,au,bP] <;> omega
 have g:=hb
 unfold Lay.cells ag.cells at g
 simp only [List.cons_append,List.nil_append,jf] at g
 obtain ⟨d0,d1,d2,d3,d4,d5,d6,d7,_⟩:=g
 have D0:Hid (BdL x.net.cells):=by show BdL _;unfold ag.cells;simp only [jf];exact ⟨d0,d1,d2,d3,su⟩
 obtain ⟨D1,D2,D3,D4⟩:=hd4 d4 d5 d6 d7
 clear hb h0 h1 h2 h3 h4 h5 h6 d0 d1 d2 d3 d4 d5 d6 d7
 go_enter Tryz.func7,Tryz.ntmps7
 go_wp2_with fail
 refine (xX Q A1 A2 W z n1 c1 n2 c2 x.net _ _ (R0.out.below Y.out) (R1.out.below Y.out) (R2.out.below Y.out) (by omega) (by omega) D0.out).mono ?_
 rintro _ w1 ⟨rfl,b1⟩
 have B1:=Hd (aA Y.out b1)
 have C1:=Hd b1
 clear b1
 by_cases g0:((af x.net.cells:Nat):Int)<=L
 ·rw [bI g0]
  have e0:decide (L - ((af x.net.cells:Nat):Int)<0)=false:=by simp;omega
  obtain ⟨-,-,-,-,x4,x5,I,j,q⟩:=mK (aD C1.out Z.out)
  go_wp2_with fail
  refine (xY A3 n3 c3 x.blocks _ _ (R3.out.below B1.out) (by omega) (by omega) D1.out).mono ?_
  rintro _ w2 ⟨rfl,b2⟩
  have B2:=Hd (aA B1.out b2)
  have C2:=Hd (aA C1.out b2)
  clear b2 q x4 x5 I j
  by_cases g1:((szC (aa x.blocks):Nat):Int)<=L - ((af x.net.cells:Nat):Int)
  ·rw [bI g1]
   have e1:decide (L - ((af x.net.cells:Nat):Int) - ((szC (aa x.blocks):Nat):Int)<0)=false:=by simp;omega
   obtain ⟨-,-,-,-,-,x5,I,j,q⟩:=mK (aD C2.out Z.out)
   go_wp2_with fail
   refine (zR D G H x.conns _ _ (R4.out.below B2.out) (by omega) (by omega) D2.out).mono ?_
   rintro _ w3 ⟨rfl,b3⟩
   have B3:=Hd (aA B2.out b3)
   have C3:=Hd (aA C2.out b3)
   clear b3 q x5 I j
   by_cases g2:((szC (ah x.conns):Nat):Int)<=L - ((af x.net.cells:Nat):Int) - ((szC (aa x.blocks):Nat):Int)
   ·rw [bI g2]
    have e2:decide (L - ((af x.net.cells:Nat):Int) - ((szC (aa x.blocks):Nat):Int) - ((szC (ah x.conns):Nat):Int)<0)=false:=by simp;omega
    obtain ⟨-,-,-,-,-,-,I,j,q⟩:=mK (aD C3.out Z.out)
    go_wp2_with fail
    refine (pF U J K x.place _ _ (R5.out.below B3.out) (by omega) (by omega) D3.out).mono ?_
    rintro _ w4 ⟨rfl,b4⟩
    have B4:=Hd (aA B3.out b4)
    have C4:=Hd (aA C3.out b4)
    clear b4 q I j
    by_cases g3:((szC (aH x.place):Nat):Int)<=L - ((af x.net.cells:Nat):Int) - ((szC (aa x.blocks):Nat):Int) - ((szC (ah x.conns):Nat):Int)
    ·rw [bI g3]
     have e3:decide (L - ((af x.net.cells:Nat):Int) - ((szC (aa x.blocks):Nat):Int) - ((szC (ah x.conns):Nat):Int) - ((szC (aH x.place):Nat):Int)<0)=false:=by simp;omega
     obtain ⟨-,-,-,-,-,-,-,j,q⟩:=mK (aD C4.out Z.out)
     go_wp2_with fail
     refine (xZ B R V x.routes _ _ (R6.out.below B4.out) (by omega) (by omega) D4.out).mono ?_
     rintro _ w5 ⟨rfl,b5⟩
     have B5:=Hd (aA B4.out b5)
     have C5:=Hd (aA C4.out b5)
     clear b5 q j
     by_cases g4:((szC (bH x.routes):Nat):Int)<=L - ((af x.net.cells:Nat):Int) - ((szC (aa x.blocks):Nat):Int) - ((szC (ah x.conns):Nat):Int) - ((szC (aH x.place):Nat):Int)
     ·rw [bI g4]
      have e4:decide (L - ((af x.net.cells:Nat):Int) - ((szC (aa x.blocks):Nat):Int) - ((szC (ah x.conns):Nat):Int) - ((szC (aH x.place):Nat):Int) - ((szC (bH x.routes):Nat):Int)<0)=false:=by simp;omega
      go_wp2_with fail
      go_ret
      exact ⟨aL (by rw [u.out,bI (by omega)] <;> omega),B5.out⟩
     rw [aZ g4]
     go_wp2_with fail
     go_ret
     exact ⟨aL (by rw [u.out,aZ (by omega)]),B5.out⟩
    rw [aZ g3]
    go_wp2_with fail
    go_ret
    exact ⟨aL (by rw [u.out,aZ (by omega)]),B4.out⟩
   rw [aZ g2]
   go_wp2_with fail
   go_ret
   exact ⟨aL (by rw [u.out,aZ (by omega)]),B3.out⟩
  rw [aZ g1]
  go_wp2_with fail
  go_ret
  exact ⟨aL (by rw [u.out,aZ (by omega)]),B2.out⟩
 rw [aZ g0]
 go_wp2_with fail
 go_ret
 exact ⟨aL (by rw [u.out,aZ (by omega)]),B1.out⟩
end Go.Proofs.YtofihjoanjkdmaaGreat
