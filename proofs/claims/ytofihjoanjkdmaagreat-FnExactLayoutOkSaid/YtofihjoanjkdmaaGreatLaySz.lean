/- The laws' counts of nested data (printed by mksz.py). -/
import Derived.Test.YtofihjoanjkdmaaGreatLayArg
namespace Go.Proofs.YtofihjoanjkdmaaGreat
set_option maxHeartbeats 2000000
set_option maxRecDepth 100000
open Go.RowKit
theorem l5 (A:Option Addr) (n c:Nat) (xs:List Int) (L:Int) (w:World) (h:RdC w w.heap.size (aJ xs) (.slice A n c)) (hL:0<=L) (hL':L<=1099511627776) (hb:BdC (aJ xs)) :
  Calls Tryz.prog 33 #[.slice A n c,.int .i64 L] w fun e w'=>e = .returned (.int .i64 (iB L (szC (aJ xs))))/\Below w.heap.size w w':=by
 have hn:=h.ints.1
 have hb2:=hb
 unfold aJ at hb2
 rw [lJ,List.length_map,Nat.div_one,hn] at hb2
 rw [lu,hn]
 refine (vH A n c L w hL hL' (by have:=hb2.1;unfold maxLen at this;omega)).mono ?_
 rintro e w' ⟨he,rfl⟩
 exact ⟨he,Below.refl _ _⟩
theorem xN (A0:Option Addr) (n0 c0:Nat) (x:Lt) (L:Int) (w:World) (h0:RdC w w.heap.size (aJ x.ins) (.slice A0 n0 c0)) (hL:0<=L) (hL':L<=1099511627776) (hb:BdL x.cells) :
  Calls Tryz.prog 152 #[.agg #[.slice A0 n0 c0,.int .i64 x.mask],.int .i64 L] w fun e w'=>e = .returned (.int .i64 (iB L (ae x.cells)))/\Below w.heap.size w w':=by
 have B0:=Hd (aF (Below.refl w.heap.size w) (.cells #[.slice A0 n0 c0,.int .i64 x.mask] 184))
 have HX:=Hd (aK w (.cells #[.slice A0 n0 c0,.int .i64 x.mask] 184))
 have R0:=Hd h0
 have HS:Hid (ae x.cells=szC (aJ x.ins)):=by show _=_;unfold Lt.cells;simp only [az,bK,fZ] <;> omega
 have hb2:=hb
 unfold Lt.cells at hb2
 simp only [iK] at hb2
 obtain ⟨d0,d1,_⟩:=hb2
 have D0:=Hd d0
 clear hb h0 d0 d1
 go_enter Tryz.func152,Tryz.ntmps152
 go_wp2_with fail
 refine (l5 A0 n0 c0 x.ins _ _ (R0.out.below B0.out) (by omega) (by omega) D0.out).mono ?_
 rintro _ w1 ⟨rfl,b1⟩
 have B1:=Hd (aB B0.out b1)
 have C1:=Hd b1
 clear b1
 by_cases g0:((szC (aJ x.ins):Nat):Int)<=L
 ·rw [ax g0]
  have e0:decide (L - ((szC (aJ x.ins):Nat):Int)<0)=false:=by simp;omega
  go_wp2_with fail
  go_ret
  exact ⟨aQ (by rw [HS.out,ax (by omega)] <;> omega),B1.out⟩
 ·rw [aY g0]
  go_wp2_with fail
  go_ret
  exact ⟨aQ (by rw [HS.out,aY (by omega)]),B1.out⟩
theorem vU (A:Option Addr) (n c:Nat) (xs:List Lt) (L:Int) (w:World) (h:RdC w w.heap.size (dR xs) (.slice A n c)) (hL:0<=L) (hL':L<=1099511627776) (hb:BdC (dR xs)) :
  Calls Tryz.prog 80 #[.slice A n c,.int .i64 L] w fun e w'=>e = .returned (.int .i64 (iB L (szC (dR xs))))/\Below w.heap.size w w':=by
 have HX:Hid (xs.length=n):=h.lutN'
 have HT:Hid (szC (dR xs)=n+ae (xs.flatMap Lt.cells)):=by show _=_;unfold dR;rw [cK Lt.cells_length (by omega),HX.out]
 have HD:Hid (∀x∈xs,BdL x.cells):=by
  show ∀x∈xs,BdL x.cells
  unfold dR at hb
  exact lv.1 (lJ.1 hb).2
 have HR:=Hd h
 have hn63:n<=9223372036854775807:=by
  unfold dR at hb
  rw [kW Lt.cells_length (by omega),HX.out] at hb
  have:=hb.1
  unfold maxLen at this
  omega
 clear h hb
 by_cases h0:(n:Int)<=L
 ·have hd:decide (L - (n:Int)<0)=false:=by simp;omega
  go_enter Tryz.func80,Tryz.ntmps80
  go_wp2_with fail
  go_loopw [1,5] (fun v i wr=>∃k:Nat,k<=n/\i = .int .i64 k/\v = .int .i64 (L - n - (ae ((xs.take k).flatMap Lt.cells):Nat))/\((ae ((xs.take k).flatMap Lt.cells):Nat):Int)<=L - n/\Below w.heap.size w wr) (fun _ i _=>n - (intOf i).toNat)
  case atStart=>exact ⟨0,Nat.zero_le _,rfl,by simp [bK],by simp [bK];omega,Below.refl _ _⟩
  case round =>
   obtain ⟨k,hk,rfl,rfl,hle,hbe⟩:=hrel
   have HBE:=Hd hbe
   clear hbe
   by_cases hlt:k<n
   ·have hdk:decide ((k:Int)<(n:Int))=true:=by simp;omega
    have hkx:k<xs.length:=by rw [HX.out];exact hlt
    obtain ⟨b,o,S0,m0,p0,rfl,hb,c0,c1,r0⟩:=HR.out.lut' (k:=k) hkx
    have hbr:b<wr.heap.size:=by have:=HBE.out.size;omega
    have i0:(0:Int)<=(k:Int):=by omega
    have i1:(k:Int)<(n:Int):=by omega
    rw [←HBE.out.cell (p:=⟨b,o+k * 2,none⟩) hb] at c0
    rw [←HBE.out.cell (p:=⟨b,o+k * 2+1,none⟩) hb] at c1
    have Q0:=Hd (r0.below HBE.out)
    have HBD:Hid (BdL (xs[k]?.getD Lt.zero).cells):=by show BdL _;rw [List.getElem?_eq_getElem hkx];exact HD.out _ (List.getElem_mem hkx)
    have HS:Hid (ae ((xs.take (k+1)).flatMap Lt.cells)=ae ((xs.take k).flatMap Lt.cells)+ae (xs[k]?.getD Lt.zero).cells):=kN hkx
    have HF:Hid (ae ((xs.take (k+1)).flatMap Lt.cells)<=ae (xs.flatMap Lt.cells)):=iR xs (k+1)
    clear r0 hkx
    generalize ae ((xs.take k).flatMap Lt.cells)=s at *
    generalize xs[k]?.getD Lt.zero=x at *
    go_wp2_with fail
    refine (xN S0 m0 p0 x _ _ Q0.out (by omega) (by omega) HBD.out).mono ?_
    rintro e w' ⟨rfl,b'⟩
    have HB2:=Hd (aB HBE.out b')
    clear b' c0 c1
    by_cases h1:((ae x.cells:Nat):Int)<=L - n - s
    ·rw [ax h1]
     have hd2:decide (L - (n:Int) - s - ((ae x.cells:Nat):Int)<0)=false:=by simp;omega
     go_wp2_with fail
     go_roundw
     case rel=>exact ⟨k+1,by omega,by go_num,by rw [HS.out];congr 1;omega,by rw [HS.out];omega,HB2.out⟩
     case measure=>simp [intOf];omega
    ·rw [aY h1]
     go_wp2_with fail
     go_ret
     exact ⟨aQ (by rw [aY];have h2:=HF.out;rw [HS.out] at h2;rw [HT.out];omega),HB2.out⟩
   ·have hkn:k=n:=by omega
    subst hkn
    have hdk:decide ((k:Int)<(k:Int))=false:=by simp
    have HTK:Hid (xs.take k=xs):=List.take_of_length_le (by rw [HX.out];exact Nat.le_refl _)
    go_wp2_with fail
    go_ret
    rw [HTK.out] at hle ⊢
    exact ⟨aQ (by rw [HT.out,ax (by omega)];omega),HBE.out⟩
 ·have hd:decide (L - (n:Int)<0)=true:=by simp;omega
  go_enter Tryz.func80,Tryz.ntmps80
  go_wp2_with fail
  go_ret
  exact ⟨aQ (by rw [aY];rw [HT.out];omega),Below.refl _ _⟩
theorem xO (A0:Option Addr) (n0 c0:Nat) (x:Sq) (L:Int) (w:World) (h0:RdC w w.heap.size (aJ x.ins) (.slice A0 n0 c0)) (hL:0<=L) (hL':L<=1099511627776) (hb:BdL x.cells) :
  Calls Tryz.prog 151 #[.agg #[.int .i64 x.kind,.int .i64 x.init,.slice A0 n0 c0],.int .i64 L] w fun e w'=>e = .returned (.int .i64 (iB L (ae x.cells)))/\Below w.heap.size w w':=by
 have B0:=Hd (aF (Below.refl w.heap.size w) (.cells #[.int .i64 x.kind,.int .i64 x.init,.slice A0 n0 c0] 182))
 have HX:=Hd (aK w (.cells #[.int .i64 x.kind,.int .i64 x.init,.slice A0 n0 c0] 182))
 have R0:=Hd h0
 have HS:Hid (ae x.cells=szC (aJ x.ins)):=by show _=_;unfold Sq.cells;simp only [az,bK,fZ] <;> omega
 have hb2:=hb
 unfold Sq.cells at hb2
 simp only [iK] at hb2
 obtain ⟨d0,d1,d2,_⟩:=hb2
 have D0:=Hd d2
 clear hb h0 d0 d1 d2
 go_enter Tryz.func151,Tryz.ntmps151
 go_wp2_with fail
 refine (l5 A0 n0 c0 x.ins _ _ (R0.out.below B0.out) (by omega) (by omega) D0.out).mono ?_
 rintro _ w1 ⟨rfl,b1⟩
 have B1:=Hd (aB B0.out b1)
 have C1:=Hd b1
 clear b1
 by_cases g0:((szC (aJ x.ins):Nat):Int)<=L
 ·rw [ax g0]
  have e0:decide (L - ((szC (aJ x.ins):Nat):Int)<0)=false:=by simp;omega
  go_wp2_with fail
  go_ret
  exact ⟨aQ (by rw [HS.out,ax (by omega)] <;> omega),B1.out⟩
 ·rw [aY g0]
  go_wp2_with fail
  go_ret
  exact ⟨aQ (by rw [HS.out,aY (by omega)]),B1.out⟩
theorem vV (A:Option Addr) (n c:Nat) (xs:List Sq) (L:Int) (w:World) (h:RdC w w.heap.size (dE xs) (.slice A n c)) (hL:0<=L) (hL':L<=1099511627776) (hb:BdC (dE xs)) :
  Calls Tryz.prog 79 #[.slice A n c,.int .i64 L] w fun e w'=>e = .returned (.int .i64 (iB L (szC (dE xs))))/\Below w.heap.size w w':=by
 have HX:Hid (xs.length=n):=h.sqN'
 have HT:Hid (szC (dE xs)=n+ae (xs.flatMap Sq.cells)):=by show _=_;unfold dE;rw [cK Sq.cells_length (by omega),HX.out]
 have HD:Hid (∀x∈xs,BdL x.cells):=by
  show ∀x∈xs,BdL x.cells
  unfold dE at hb
  exact lv.1 (lJ.1 hb).2
 have HR:=Hd h
 have hn63:n<=9223372036854775807:=by
  unfold dE at hb
  rw [kW Sq.cells_length (by omega),HX.out] at hb
  have:=hb.1
  unfold maxLen at this
  omega
 clear h hb
 by_cases h0:(n:Int)<=L
 ·have hd:decide (L - (n:Int)<0)=false:=by simp;omega
  go_enter Tryz.func79,Tryz.ntmps79
  go_wp2_with fail
  go_loopw [1,5] (fun v i wr=>∃k:Nat,k<=n/\i = .int .i64 k/\v = .int .i64 (L - n - (ae ((xs.take k).flatMap Sq.cells):Nat))/\((ae ((xs.take k).flatMap Sq.cells):Nat):Int)<=L - n/\Below w.heap.size w wr) (fun _ i _=>n - (intOf i).toNat)
  case atStart=>exact ⟨0,Nat.zero_le _,rfl,by simp [bK],by simp [bK];omega,Below.refl _ _⟩
  case round =>
   obtain ⟨k,hk,rfl,rfl,hle,hbe⟩:=hrel
   have HBE:=Hd hbe
   clear hbe
   by_cases hlt:k<n
   ·have hdk:decide ((k:Int)<(n:Int))=true:=by simp;omega
    have hkx:k<xs.length:=by rw [HX.out];exact hlt
    obtain ⟨b,o,S0,m0,p0,rfl,hb,c0,c1,c2,r0⟩:=HR.out.sq' (k:=k) hkx
    have hbr:b<wr.heap.size:=by have:=HBE.out.size;omega
    have i0:(0:Int)<=(k:Int):=by omega
    have i1:(k:Int)<(n:Int):=by omega
    rw [←HBE.out.cell (p:=⟨b,o+k * 3,none⟩) hb] at c0
    rw [←HBE.out.cell (p:=⟨b,o+k * 3+1,none⟩) hb] at c1
    rw [←HBE.out.cell (p:=⟨b,o+k * 3+2,none⟩) hb] at c2
    have Q0:=Hd (r0.below HBE.out)
    have HBD:Hid (BdL (xs[k]?.getD Sq.zero).cells):=by show BdL _;rw [List.getElem?_eq_getElem hkx];exact HD.out _ (List.getElem_mem hkx)
    have HS:Hid (ae ((xs.take (k+1)).flatMap Sq.cells)=ae ((xs.take k).flatMap Sq.cells)+ae (xs[k]?.getD Sq.zero).cells):=kN hkx
    have HF:Hid (ae ((xs.take (k+1)).flatMap Sq.cells)<=ae (xs.flatMap Sq.cells)):=iR xs (k+1)
    clear r0 hkx
    generalize ae ((xs.take k).flatMap Sq.cells)=s at *
    generalize xs[k]?.getD Sq.zero=x at *
    go_wp2_with fail
    refine (xO S0 m0 p0 x _ _ Q0.out (by omega) (by omega) HBD.out).mono ?_
    rintro e w' ⟨rfl,b'⟩
    have HB2:=Hd (aB HBE.out b')
    clear b' c0 c1 c2
    by_cases h1:((ae x.cells:Nat):Int)<=L - n - s
    ·rw [ax h1]
     have hd2:decide (L - (n:Int) - s - ((ae x.cells:Nat):Int)<0)=false:=by simp;omega
     go_wp2_with fail
     go_roundw
     case rel=>exact ⟨k+1,by omega,by go_num,by rw [HS.out];congr 1;omega,by rw [HS.out];omega,HB2.out⟩
     case measure=>simp [intOf];omega
    ·rw [aY h1]
     go_wp2_with fail
     go_ret
     exact ⟨aQ (by rw [aY];have h2:=HF.out;rw [HS.out] at h2;rw [HT.out];omega),HB2.out⟩
   ·have hkn:k=n:=by omega
    subst hkn
    have hdk:decide ((k:Int)<(k:Int))=false:=by simp
    have HTK:Hid (xs.take k=xs):=List.take_of_length_le (by rw [HX.out];exact Nat.le_refl _)
    go_wp2_with fail
    go_ret
    rw [HTK.out] at hle ⊢
    exact ⟨aQ (by rw [HT.out,ax (by omega)];omega),HBE.out⟩
 ·have hd:decide (L - (n:Int)<0)=true:=by simp;omega
  go_enter Tryz.func79,Tryz.ntmps79
  go_wp2_with fail
  go_ret
  exact ⟨aQ (by rw [aY];rw [HT.out];omega),Below.refl _ _⟩
theorem rz (A0 A1 A2:Option Addr) (n0 c0 n1 c1 n2 c2:Nat) (x:ai) (L:Int) (w:World) (h0:RdC w w.heap.size (dE x.seqs) (.slice A0 n0 c0)) (h1:RdC w w.heap.size (dR x.luts) (.slice A1 n1 c1)) (h2:RdC w w.heap.size (aJ x.outs) (.slice A2 n2 c2)) (hL:0<=L) (hL':L<=1099511627776) (hb:BdL x.cells) :
  Calls Tryz.prog 24 #[.agg #[.int .i64 x.inputs,.slice A0 n0 c0,.slice A1 n1 c1,.slice A2 n2 c2],.int .i64 L] w fun e w'=>e = .returned (.int .i64 (iB L (ae x.cells)))/\Below w.heap.size w w':=by
 have B0:=Hd (aF (Below.refl w.heap.size w) (.cells #[.int .i64 x.inputs,.slice A0 n0 c0,.slice A1 n1 c1,.slice A2 n2 c2] 28))
 have HX:=Hd (aK w (.cells #[.int .i64 x.inputs,.slice A0 n0 c0,.slice A1 n1 c1,.slice A2 n2 c2] 28))
 have R0:=Hd h0
 have R1:=Hd h1
 have R2:=Hd h2
 have HS:Hid (ae x.cells=szC (dE x.seqs)+szC (dR x.luts)+szC (aJ x.outs)):=by show _=_;unfold ai.cells;simp only [az,bK,fZ] <;> omega
 have hb2:=hb
 unfold ai.cells at hb2
 simp only [iK] at hb2
 obtain ⟨d0,d1,d2,d3,_⟩:=hb2
 have D0:=Hd d1
 have D1:=Hd d2
 have D2:=Hd d3
 clear hb h0 h1 h2 d0 d1 d2 d3
 go_enter Tryz.func24,Tryz.ntmps24
 go_wp2_with fail
 refine (vV A0 n0 c0 x.seqs _ _ (R0.out.below B0.out) (by omega) (by omega) D0.out).mono ?_
 rintro _ w1 ⟨rfl,b1⟩
 have B1:=Hd (aB B0.out b1)
 have C1:=Hd b1
 clear b1
 by_cases g0:((szC (dE x.seqs):Nat):Int)<=L
 ·rw [ax g0]
  have e0:decide (L - ((szC (dE x.seqs):Nat):Int)<0)=false:=by simp;omega
  have hx:=aD C1.out HX.out
  have x2:=aA (k:=2) hx rfl
  have x3:=aA (k:=3) hx rfl
  have lx:=aC hx
  clear hx
  go_wp2_with fail
  refine (vU A1 n1 c1 x.luts _ _ (R1.out.below B1.out) (by omega) (by omega) D1.out).mono ?_
  rintro _ w2 ⟨rfl,b2⟩
  have B2:=Hd (aB B1.out b2)
  have C2:=Hd (aB C1.out b2)
  clear b2 lx x2 x3
  by_cases g1:((szC (dR x.luts):Nat):Int)<=L - ((szC (dE x.seqs):Nat):Int)
  ·rw [ax g1]
   have e1:decide (L - ((szC (dE x.seqs):Nat):Int) - ((szC (dR x.luts):Nat):Int)<0)=false:=by simp;omega
   have hx:=aD C2.out HX.out
   have x3:=aA (k:=3) hx rfl
   have lx:=aC hx
   clear hx
   go_wp2_with fail
   refine (l5 A2 n2 c2 x.outs _ _ (R2.out.below B2.out) (by omega) (by omega) D2.out).mono ?_
   rintro _ w3 ⟨rfl,b3⟩
   have B3:=Hd (aB B2.out b3)
   have C3:=Hd (aB C2.out b3)
   clear b3 lx x3
   by_cases g2:((szC (aJ x.outs):Nat):Int)<=L - ((szC (dE x.seqs):Nat):Int) - ((szC (dR x.luts):Nat):Int)
   ·rw [ax g2]
    have e2:decide (L - ((szC (dE x.seqs):Nat):Int) - ((szC (dR x.luts):Nat):Int) - ((szC (aJ x.outs):Nat):Int)<0)=false:=by simp;omega
    go_wp2_with fail
    go_ret
    exact ⟨aQ (by rw [HS.out,ax (by omega)] <;> omega),B3.out⟩
   ·rw [aY g2]
    go_wp2_with fail
    go_ret
    exact ⟨aQ (by rw [HS.out,aY (by omega)]),B3.out⟩
  ·rw [aY g1]
   go_wp2_with fail
   go_ret
   exact ⟨aQ (by rw [HS.out,aY (by omega)]),B2.out⟩
 ·rw [aY g0]
  go_wp2_with fail
  go_ret
  exact ⟨aQ (by rw [HS.out,aY (by omega)]),B1.out⟩
theorem xP (A:Option Addr) (n c:Nat) (xs:List LeT) (L:Int) (w:World) (h:RdC w w.heap.size (dF xs) (.slice A n c)) (hL:0<=L) (hL':L<=1099511627776) (hb:BdC (dF xs)) :
  Calls Tryz.prog 201 #[.slice A n c,.int .i64 L] w fun e w'=>e = .returned (.int .i64 (iB L (szC (dF xs))))/\Below w.heap.size w w':=by
 have hn:xs.length=n:=h.esN
 have hs:szC (dF xs)=n:=by
  unfold dF
  rw [cK LeT.cells_length (by omega),hn]
  have:ae (xs.flatMap LeT.cells)=0:=by
   clear h hb hn
   induction xs with
   | nil=>rw [List.flatMap_nil,bK]
   | cons x xs ih=>rw [List.flatMap_cons,fo,ih];unfold LeT.cells;simp only [az,bK,fZ]
  omega
 have hn63:n<=9223372036854775807:=by
  unfold dF at hb
  rw [kW LeT.cells_length (by omega),hn] at hb
  have:=hb.1
  unfold maxLen at this
  omega
 rw [hs]
 clear hs h hb hn
 by_cases h:(n:Int)<=L
 ·have hd:decide (L - (n:Int)<0)=false:=by simp;omega
  have hl:=Hd (ax h)
  go_enter Tryz.func201,Tryz.ntmps201
  go_wp2_with fail
  go_ret
  exact ⟨aQ hl.out.symm,Below.refl _ _⟩
 ·have hd:decide (L - (n:Int)<0)=true:=by simp;omega
  have hl:=Hd (aY h)
  go_enter Tryz.func201,Tryz.ntmps201
  go_wp2_with fail
  go_ret
  exact ⟨aQ hl.out.symm,Below.refl _ _⟩
theorem uM (A0:Option Addr) (n0 c0:Nat) (x:Blk) (L:Int) (w:World) (h0:RdC w w.heap.size (dF x.les) (.slice A0 n0 c0)) (hL:0<=L) (hL':L<=1099511627776) (hb:BdL x.cells) :
  Calls Tryz.prog 107 #[.agg #[.int .i64 x.kind,.int .i64 x.item,.slice A0 n0 c0],.int .i64 L] w fun e w'=>e = .returned (.int .i64 (iB L (ae x.cells)))/\Below w.heap.size w w':=by
 have B0:=Hd (aF (Below.refl w.heap.size w) (.cells #[.int .i64 x.kind,.int .i64 x.item,.slice A0 n0 c0] 147))
 have HX:=Hd (aK w (.cells #[.int .i64 x.kind,.int .i64 x.item,.slice A0 n0 c0] 147))
 have R0:=Hd h0
 have HS:Hid (ae x.cells=szC (dF x.les)):=by show _=_;unfold Blk.cells;simp only [az,bK,fZ] <;> omega
 have hb2:=hb
 unfold Blk.cells at hb2
 simp only [iK] at hb2
 obtain ⟨d0,d1,d2,_⟩:=hb2
 have D0:=Hd d2
 clear hb h0 d0 d1 d2
 go_enter Tryz.func107,Tryz.ntmps107
 go_wp2_with fail
 refine (xP A0 n0 c0 x.les _ _ (R0.out.below B0.out) (by omega) (by omega) D0.out).mono ?_
 rintro _ w1 ⟨rfl,b1⟩
 have B1:=Hd (aB B0.out b1)
 have C1:=Hd b1
 clear b1
 by_cases g0:((szC (dF x.les):Nat):Int)<=L
 ·rw [ax g0]
  have e0:decide (L - ((szC (dF x.les):Nat):Int)<0)=false:=by simp;omega
  go_wp2_with fail
  go_ret
  exact ⟨aQ (by rw [HS.out,ax (by omega)] <;> omega),B1.out⟩
 ·rw [aY g0]
  go_wp2_with fail
  go_ret
  exact ⟨aQ (by rw [HS.out,aY (by omega)]),B1.out⟩
theorem sD (A:Option Addr) (n c:Nat) (xs:List Blk) (L:Int) (w:World) (h:RdC w w.heap.size (bE xs) (.slice A n c)) (hL:0<=L) (hL':L<=1099511627776) (hb:BdC (bE xs)) :
  Calls Tryz.prog 31 #[.slice A n c,.int .i64 L] w fun e w'=>e = .returned (.int .i64 (iB L (szC (bE xs))))/\Below w.heap.size w w':=by
 have HX:Hid (xs.length=n):=h.blkN
 have HT:Hid (szC (bE xs)=n+ae (xs.flatMap Blk.cells)):=by show _=_;unfold bE;rw [cK Blk.cells_length (by omega),HX.out]
 have HD:Hid (∀x∈xs,BdL x.cells):=by
  show ∀x∈xs,BdL x.cells
  unfold bE at hb
  exact lv.1 (lJ.1 hb).2
 have HR:=Hd h
 have hn63:n<=9223372036854775807:=by
  unfold bE at hb
  rw [kW Blk.cells_length (by omega),HX.out] at hb
  have:=hb.1
  unfold maxLen at this
  omega
 clear h hb
 by_cases h0:(n:Int)<=L
 ·have hd:decide (L - (n:Int)<0)=false:=by simp;omega
  go_enter Tryz.func31,Tryz.ntmps31
  go_wp2_with fail
  go_loopw [1,5] (fun v i wr=>∃k:Nat,k<=n/\i = .int .i64 k/\v = .int .i64 (L - n - (ae ((xs.take k).flatMap Blk.cells):Nat))/\((ae ((xs.take k).flatMap Blk.cells):Nat):Int)<=L - n/\Below w.heap.size w wr) (fun _ i _=>n - (intOf i).toNat)
  case atStart=>exact ⟨0,Nat.zero_le _,rfl,by simp [bK],by simp [bK];omega,Below.refl _ _⟩
  case round =>
   obtain ⟨k,hk,rfl,rfl,hle,hbe⟩:=hrel
   have HBE:=Hd hbe
   clear hbe
   by_cases hlt:k<n
   ·have hdk:decide ((k:Int)<(n:Int))=true:=by simp;omega
    have hkx:k<xs.length:=by rw [HX.out];exact hlt
    obtain ⟨b,o,S0,m0,p0,rfl,hb,c0,c1,c2,r0⟩:=HR.out.blk (k:=k) hkx
    have hbr:b<wr.heap.size:=by have:=HBE.out.size;omega
    have i0:(0:Int)<=(k:Int):=by omega
    have i1:(k:Int)<(n:Int):=by omega
    rw [←HBE.out.cell (p:=⟨b,o+k * 3,none⟩) hb] at c0
    rw [←HBE.out.cell (p:=⟨b,o+k * 3+1,none⟩) hb] at c1
    rw [←HBE.out.cell (p:=⟨b,o+k * 3+2,none⟩) hb] at c2
    have Q0:=Hd (r0.below HBE.out)
    have HBD:Hid (BdL (xs[k]?.getD Blk.zero).cells):=by show BdL _;rw [List.getElem?_eq_getElem hkx];exact HD.out _ (List.getElem_mem hkx)
    have HS:Hid (ae ((xs.take (k+1)).flatMap Blk.cells)=ae ((xs.take k).flatMap Blk.cells)+ae (xs[k]?.getD Blk.zero).cells):=kN hkx
    have HF:Hid (ae ((xs.take (k+1)).flatMap Blk.cells)<=ae (xs.flatMap Blk.cells)):=iR xs (k+1)
    clear r0 hkx
    generalize ae ((xs.take k).flatMap Blk.cells)=s at *
    generalize xs[k]?.getD Blk.zero=x at *
    go_wp2_with fail
    refine (uM S0 m0 p0 x _ _ Q0.out (by omega) (by omega) HBD.out).mono ?_
    rintro e w' ⟨rfl,b'⟩
    have HB2:=Hd (aB HBE.out b')
    clear b' c0 c1 c2
    by_cases h1:((ae x.cells:Nat):Int)<=L - n - s
    ·rw [ax h1]
     have hd2:decide (L - (n:Int) - s - ((ae x.cells:Nat):Int)<0)=false:=by simp;omega
     go_wp2_with fail
     go_roundw
     case rel=>exact ⟨k+1,by omega,by go_num,by rw [HS.out];congr 1;omega,by rw [HS.out];omega,HB2.out⟩
     case measure=>simp [intOf];omega
    ·rw [aY h1]
     go_wp2_with fail
     go_ret
     exact ⟨aQ (by rw [aY];have h2:=HF.out;rw [HS.out] at h2;rw [HT.out];omega),HB2.out⟩
   ·have hkn:k=n:=by omega
    subst hkn
    have hdk:decide ((k:Int)<(k:Int))=false:=by simp
    have HTK:Hid (xs.take k=xs):=List.take_of_length_le (by rw [HX.out];exact Nat.le_refl _)
    go_wp2_with fail
    go_ret
    rw [HTK.out] at hle ⊢
    exact ⟨aQ (by rw [HT.out,ax (by omega)];omega),HBE.out⟩
 ·have hd:decide (L - (n:Int)<0)=true:=by simp;omega
  go_enter Tryz.func31,Tryz.ntmps31
  go_wp2_with fail
  go_ret
  exact ⟨aQ (by rw [aY];rw [HT.out];omega),Below.refl _ _⟩
theorem vW (A:Option Addr) (n c:Nat) (xs:List bQ) (L:Int) (w:World) (h:RdC w w.heap.size (bM xs) (.slice A n c)) (hL:0<=L) (hL':L<=1099511627776) (hb:BdC (bM xs)) :
  Calls Tryz.prog 202 #[.slice A n c,.int .i64 L] w fun e w'=>e = .returned (.int .i64 (iB L (szC (bM xs))))/\Below w.heap.size w w':=by
 have hn:xs.length=n:=h.pinN
 have hs:szC (bM xs)=n:=by
  unfold bM
  rw [cK bQ.cells_length (by omega),hn]
  have:ae (xs.flatMap bQ.cells)=0:=by
   clear h hb hn
   induction xs with
   | nil=>rw [List.flatMap_nil,bK]
   | cons x xs ih=>rw [List.flatMap_cons,fo,ih];unfold bQ.cells;simp only [az,bK,fZ]
  omega
 have hn63:n<=9223372036854775807:=by
  unfold bM at hb
  rw [kW bQ.cells_length (by omega),hn] at hb
  have:=hb.1
  unfold maxLen at this
  omega
 rw [hs]
 clear hs h hb hn
 by_cases h:(n:Int)<=L
 ·have hd:decide (L - (n:Int)<0)=false:=by simp;omega
  have hl:=Hd (ax h)
  go_enter Tryz.func202,Tryz.ntmps202
  go_wp2_with fail
  go_ret
  exact ⟨aQ hl.out.symm,Below.refl _ _⟩
 ·have hd:decide (L - (n:Int)<0)=true:=by simp;omega
  have hl:=Hd (aY h)
  go_enter Tryz.func202,Tryz.ntmps202
  go_wp2_with fail
  go_ret
  exact ⟨aQ hl.out.symm,Below.refl _ _⟩
theorem vX (A0:Option Addr) (n0 c0:Nat) (x:Cn) (L:Int) (w:World) (h0:RdC w w.heap.size (bM x.sinks) (.slice A0 n0 c0)) (hL:0<=L) (hL':L<=1099511627776) (hb:BdL x.cells) :
  Calls Tryz.prog 108 #[.agg #[.int .i64 x.node,.int .i64 x.src.block,.int .i64 x.src.pin,.slice A0 n0 c0],.int .i64 L] w fun e w'=>e = .returned (.int .i64 (iB L (ae x.cells)))/\Below w.heap.size w w':=by
 have B0:=Hd (aF (Below.refl w.heap.size w) (.cells #[.int .i64 x.node,.int .i64 x.src.block,.int .i64 x.src.pin,.slice A0 n0 c0] 152))
 have HX:=Hd (aK w (.cells #[.int .i64 x.node,.int .i64 x.src.block,.int .i64 x.src.pin,.slice A0 n0 c0] 152))
 have R0:=Hd h0
 have HS:Hid (ae x.cells=szC (bM x.sinks)):=by show _=_;unfold Cn.cells;simp only [az,bK,fZ] <;> omega
 have hb2:=hb
 unfold Cn.cells at hb2
 simp only [iK] at hb2
 obtain ⟨d0,d1,d2,d3,_⟩:=hb2
 have D0:=Hd d3
 clear hb h0 d0 d1 d2 d3
 go_enter Tryz.func108,Tryz.ntmps108
 go_wp2_with fail
 refine (vW A0 n0 c0 x.sinks _ _ (R0.out.below B0.out) (by omega) (by omega) D0.out).mono ?_
 rintro _ w1 ⟨rfl,b1⟩
 have B1:=Hd (aB B0.out b1)
 have C1:=Hd b1
 clear b1
 by_cases g0:((szC (bM x.sinks):Nat):Int)<=L
 ·rw [ax g0]
  have e0:decide (L - ((szC (bM x.sinks):Nat):Int)<0)=false:=by simp;omega
  go_wp2_with fail
  go_ret
  exact ⟨aQ (by rw [HS.out,ax (by omega)] <;> omega),B1.out⟩
 ·rw [aY g0]
  go_wp2_with fail
  go_ret
  exact ⟨aQ (by rw [HS.out,aY (by omega)]),B1.out⟩
theorem uN (A:Option Addr) (n c:Nat) (xs:List Cn) (L:Int) (w:World) (h:RdC w w.heap.size (bD xs) (.slice A n c)) (hL:0<=L) (hL':L<=1099511627776) (hb:BdC (bD xs)) :
  Calls Tryz.prog 32 #[.slice A n c,.int .i64 L] w fun e w'=>e = .returned (.int .i64 (iB L (szC (bD xs))))/\Below w.heap.size w w':=by
 have HX:Hid (xs.length=n):=h.cnN
 have HT:Hid (szC (bD xs)=n+ae (xs.flatMap Cn.cells)):=by show _=_;unfold bD;rw [cK Cn.cells_length (by omega),HX.out]
 have HD:Hid (∀x∈xs,BdL x.cells):=by
  show ∀x∈xs,BdL x.cells
  unfold bD at hb
  exact lv.1 (lJ.1 hb).2
 have HR:=Hd h
 have hn63:n<=9223372036854775807:=by
  unfold bD at hb
  rw [kW Cn.cells_length (by omega),HX.out] at hb
  have:=hb.1
  unfold maxLen at this
  omega
 clear h hb
 by_cases h0:(n:Int)<=L
 ·have hd:decide (L - (n:Int)<0)=false:=by simp;omega
  go_enter Tryz.func32,Tryz.ntmps32
  go_wp2_with fail
  go_loopw [1,5] (fun v i wr=>∃k:Nat,k<=n/\i = .int .i64 k/\v = .int .i64 (L - n - (ae ((xs.take k).flatMap Cn.cells):Nat))/\((ae ((xs.take k).flatMap Cn.cells):Nat):Int)<=L - n/\Below w.heap.size w wr) (fun _ i _=>n - (intOf i).toNat)
  case atStart=>exact ⟨0,Nat.zero_le _,rfl,by simp [bK],by simp [bK];omega,Below.refl _ _⟩
  case round =>
   obtain ⟨k,hk,rfl,rfl,hle,hbe⟩:=hrel
   have HBE:=Hd hbe
   clear hbe
   by_cases hlt:k<n
   ·have hdk:decide ((k:Int)<(n:Int))=true:=by simp;omega
    have hkx:k<xs.length:=by rw [HX.out];exact hlt
    obtain ⟨b,o,S0,m0,p0,rfl,hb,c0,c1,c2,c3,r0⟩:=HR.out.cn (k:=k) hkx
    have hbr:b<wr.heap.size:=by have:=HBE.out.size;omega
    have i0:(0:Int)<=(k:Int):=by omega
    have i1:(k:Int)<(n:Int):=by omega
    rw [←HBE.out.cell (p:=⟨b,o+k * 4,none⟩) hb] at c0
    rw [←HBE.out.cell (p:=⟨b,o+k * 4+1,none⟩) hb] at c1
    rw [←HBE.out.cell (p:=⟨b,o+k * 4+2,none⟩) hb] at c2
    rw [←HBE.out.cell (p:=⟨b,o+k * 4+3,none⟩) hb] at c3
    have Q0:=Hd (r0.below HBE.out)
    have HBD:Hid (BdL (xs[k]?.getD Cn.zero).cells):=by show BdL _;rw [List.getElem?_eq_getElem hkx];exact HD.out _ (List.getElem_mem hkx)
    have HS:Hid (ae ((xs.take (k+1)).flatMap Cn.cells)=ae ((xs.take k).flatMap Cn.cells)+ae (xs[k]?.getD Cn.zero).cells):=kN hkx
    have HF:Hid (ae ((xs.take (k+1)).flatMap Cn.cells)<=ae (xs.flatMap Cn.cells)):=iR xs (k+1)
    clear r0 hkx
    generalize ae ((xs.take k).flatMap Cn.cells)=s at *
    generalize xs[k]?.getD Cn.zero=x at *
    go_wp2_with fail
    refine (vX S0 m0 p0 x _ _ Q0.out (by omega) (by omega) HBD.out).mono ?_
    rintro e w' ⟨rfl,b'⟩
    have HB2:=Hd (aB HBE.out b')
    clear b' c0 c1 c2 c3
    by_cases h1:((ae x.cells:Nat):Int)<=L - n - s
    ·rw [ax h1]
     have hd2:decide (L - (n:Int) - s - ((ae x.cells:Nat):Int)<0)=false:=by simp;omega
     go_wp2_with fail
     go_roundw
     case rel=>exact ⟨k+1,by omega,by go_num,by rw [HS.out];congr 1;omega,by rw [HS.out];omega,HB2.out⟩
     case measure=>simp [intOf];omega
    ·rw [aY h1]
     go_wp2_with fail
     go_ret
     exact ⟨aQ (by rw [aY];have h2:=HF.out;rw [HS.out] at h2;rw [HT.out];omega),HB2.out⟩
   ·have hkn:k=n:=by omega
    subst hkn
    have hdk:decide ((k:Int)<(k:Int))=false:=by simp
    have HTK:Hid (xs.take k=xs):=List.take_of_length_le (by rw [HX.out];exact Nat.le_refl _)
    go_wp2_with fail
    go_ret
    rw [HTK.out] at hle ⊢
    exact ⟨aQ (by rw [HT.out,ax (by omega)];omega),HBE.out⟩
 ·have hd:decide (L - (n:Int)<0)=true:=by simp;omega
  go_enter Tryz.func32,Tryz.ntmps32
  go_wp2_with fail
  go_ret
  exact ⟨aQ (by rw [aY];rw [HT.out];omega),Below.refl _ _⟩
theorem uO (A0 A1:Option Addr) (n0 c0 n1 c1:Nat) (x:Rou) (L:Int) (w:World) (h0:RdC w w.heap.size (aJ x.nodes) (.slice A0 n0 c0)) (h1:RdC w w.heap.size (aJ x.from_) (.slice A1 n1 c1)) (hL:0<=L) (hL':L<=1099511627776) (hb:BdL x.cells) :
  Calls Tryz.prog 109 #[.agg #[.slice A0 n0 c0,.slice A1 n1 c1],.int .i64 L] w fun e w'=>e = .returned (.int .i64 (iB L (ae x.cells)))/\Below w.heap.size w w':=by
 have B0:=Hd (aF (Below.refl w.heap.size w) (.cells #[.slice A0 n0 c0,.slice A1 n1 c1] 154))
 have HX:=Hd (aK w (.cells #[.slice A0 n0 c0,.slice A1 n1 c1] 154))
 have R0:=Hd h0
 have R1:=Hd h1
 have HS:Hid (ae x.cells=szC (aJ x.nodes)+szC (aJ x.from_)):=by show _=_;unfold Rou.cells;simp only [az,bK] <;> omega
 have hb2:=hb
 unfold Rou.cells at hb2
 simp only [iK] at hb2
 obtain ⟨d0,d1,_⟩:=hb2
 have D0:=Hd d0
 have D1:=Hd d1
 clear hb h0 h1 d0 d1
 go_enter Tryz.func109,Tryz.ntmps109
 go_wp2_with fail
 refine (l5 A0 n0 c0 x.nodes _ _ (R0.out.below B0.out) (by omega) (by omega) D0.out).mono ?_
 rintro _ w1 ⟨rfl,b1⟩
 have B1:=Hd (aB B0.out b1)
 have C1:=Hd b1
 clear b1
 by_cases g0:((szC (aJ x.nodes):Nat):Int)<=L
 ·rw [ax g0]
  have e0:decide (L - ((szC (aJ x.nodes):Nat):Int)<0)=false:=by simp;omega
  have hx:=aD C1.out HX.out
  have x1:=aA (k:=1) hx rfl
  have lx:=aC hx
  clear hx
  go_wp2_with fail
  refine (l5 A1 n1 c1 x.from_ _ _ (R1.out.below B1.out) (by omega) (by omega) D1.out).mono ?_
  rintro _ w2 ⟨rfl,b2⟩
  have B2:=Hd (aB B1.out b2)
  have C2:=Hd (aB C1.out b2)
  clear b2 lx x1
  by_cases g1:((szC (aJ x.from_):Nat):Int)<=L - ((szC (aJ x.nodes):Nat):Int)
  ·rw [ax g1]
   have e1:decide (L - ((szC (aJ x.nodes):Nat):Int) - ((szC (aJ x.from_):Nat):Int)<0)=false:=by simp;omega
   go_wp2_with fail
   go_ret
   exact ⟨aQ (by rw [HS.out,ax (by omega)] <;> omega),B2.out⟩
  ·rw [aY g1]
   go_wp2_with fail
   go_ret
   exact ⟨aQ (by rw [HS.out,aY (by omega)]),B2.out⟩
 ·rw [aY g0]
  go_wp2_with fail
  go_ret
  exact ⟨aQ (by rw [HS.out,aY (by omega)]),B1.out⟩
theorem sF (A:Option Addr) (n c:Nat) (xs:List Rou) (L:Int) (w:World) (h:RdC w w.heap.size (bR xs) (.slice A n c)) (hL:0<=L) (hL':L<=1099511627776) (hb:BdC (bR xs)) :
  Calls Tryz.prog 34 #[.slice A n c,.int .i64 L] w fun e w'=>e = .returned (.int .i64 (iB L (szC (bR xs))))/\Below w.heap.size w w':=by
 have HX:Hid (xs.length=n):=h.rouN
 have HT:Hid (szC (bR xs)=n+ae (xs.flatMap Rou.cells)):=by show _=_;unfold bR;rw [cK Rou.cells_length (by omega),HX.out]
 have HD:Hid (∀x∈xs,BdL x.cells):=by
  show ∀x∈xs,BdL x.cells
  unfold bR at hb
  exact lv.1 (lJ.1 hb).2
 have HR:=Hd h
 have hn63:n<=9223372036854775807:=by
  unfold bR at hb
  rw [kW Rou.cells_length (by omega),HX.out] at hb
  have:=hb.1
  unfold maxLen at this
  omega
 clear h hb
 by_cases h0:(n:Int)<=L
 ·have hd:decide (L - (n:Int)<0)=false:=by simp;omega
  go_enter Tryz.func34,Tryz.ntmps34
  go_wp2_with fail
  go_loopw [1,5] (fun v i wr=>∃k:Nat,k<=n/\i = .int .i64 k/\v = .int .i64 (L - n - (ae ((xs.take k).flatMap Rou.cells):Nat))/\((ae ((xs.take k).flatMap Rou.cells):Nat):Int)<=L - n/\Below w.heap.size w wr) (fun _ i _=>n - (intOf i).toNat)
  case atStart=>exact ⟨0,Nat.zero_le _,rfl,by simp [bK],by simp [bK];omega,Below.refl _ _⟩
  case round =>
   obtain ⟨k,hk,rfl,rfl,hle,hbe⟩:=hrel
   have HBE:=Hd hbe
   clear hbe
   by_cases hlt:k<n
   ·have hdk:decide ((k:Int)<(n:Int))=true:=by simp;omega
    have hkx:k<xs.length:=by rw [HX.out];exact hlt
    obtain ⟨b,o,S0,m0,p0,S1,m1,p1,rfl,hb,c0,c1,r0,r1⟩:=HR.out.rou (k:=k) hkx
    have hbr:b<wr.heap.size:=by have:=HBE.out.size;omega
    have i0:(0:Int)<=(k:Int):=by omega
    have i1:(k:Int)<(n:Int):=by omega
    rw [←HBE.out.cell (p:=⟨b,o+k * 2,none⟩) hb] at c0
    rw [←HBE.out.cell (p:=⟨b,o+k * 2+1,none⟩) hb] at c1
    have Q0:=Hd (r0.below HBE.out)
    have Q1:=Hd (r1.below HBE.out)
    have HBD:Hid (BdL (xs[k]?.getD Rou.zero).cells):=by show BdL _;rw [List.getElem?_eq_getElem hkx];exact HD.out _ (List.getElem_mem hkx)
    have HS:Hid (ae ((xs.take (k+1)).flatMap Rou.cells)=ae ((xs.take k).flatMap Rou.cells)+ae (xs[k]?.getD Rou.zero).cells):=kN hkx
    have HF:Hid (ae ((xs.take (k+1)).flatMap Rou.cells)<=ae (xs.flatMap Rou.cells)):=iR xs (k+1)
    clear r0 r1 hkx
    generalize ae ((xs.take k).flatMap Rou.cells)=s at *
    generalize xs[k]?.getD Rou.zero=x at *
    go_wp2_with fail
    refine (uO S0 S1 m0 p0 m1 p1 x _ _ Q0.out Q1.out (by omega) (by omega) HBD.out).mono ?_
    rintro e w' ⟨rfl,b'⟩
    have HB2:=Hd (aB HBE.out b')
    clear b' c0 c1
    by_cases h1:((ae x.cells:Nat):Int)<=L - n - s
    ·rw [ax h1]
     have hd2:decide (L - (n:Int) - s - ((ae x.cells:Nat):Int)<0)=false:=by simp;omega
     go_wp2_with fail
     go_roundw
     case rel=>exact ⟨k+1,by omega,by go_num,by rw [HS.out];congr 1;omega,by rw [HS.out];omega,HB2.out⟩
     case measure=>simp [intOf];omega
    ·rw [aY h1]
     go_wp2_with fail
     go_ret
     exact ⟨aQ (by rw [aY];have h2:=HF.out;rw [HS.out] at h2;rw [HT.out];omega),HB2.out⟩
   ·have hkn:k=n:=by omega
    subst hkn
    have hdk:decide ((k:Int)<(k:Int))=false:=by simp
    have HTK:Hid (xs.take k=xs):=List.take_of_length_le (by rw [HX.out];exact Nat.le_refl _)
    go_wp2_with fail
    go_ret
    rw [HTK.out] at hle ⊢
    exact ⟨aQ (by rw [HT.out,ax (by omega)];omega),HBE.out⟩
 ·have hd:decide (L - (n:Int)<0)=true:=by simp;omega
  go_enter Tryz.func34,Tryz.ntmps34
  go_wp2_with fail
  go_ret
  exact ⟨aQ (by rw [aY];rw [HT.out];omega),Below.refl _ _⟩
theorem sG (A0 A1 A2 A3 A4 A5 A6:Option Addr) (n0 c0 n1 c1 n2 c2 n3 c3 n4 c4 n5 c5 n6 c6:Nat) (x:Lay) (L:Int) (w:World) (h0:RdC w w.heap.size (dE x.net.seqs) (.slice A0 n0 c0)) (h1:RdC w w.heap.size (dR x.net.luts) (.slice A1 n1 c1)) (h2:RdC w w.heap.size (aJ x.net.outs) (.slice A2 n2 c2)) (h3:RdC w w.heap.size (bE x.blocks) (.slice A3 n3 c3)) (h4:RdC w w.heap.size (bD x.conns) (.slice A4 n4 c4)) (h5:RdC w w.heap.size (aJ x.place) (.slice A5 n5 c5)) (h6:RdC w w.heap.size (bR x.routes) (.slice A6 n6 c6)) (hL:0<=L) (hL':L<=1099511627776) (hb:BdL x.cells) :
  Calls Tryz.prog 7 #[.agg #[.int .i64 x.net.inputs,.slice A0 n0 c0,.slice A1 n1 c1,.slice A2 n2 c2,.slice A3 n3 c3,.slice A4 n4 c4,.slice A5 n5 c5,.slice A6 n6 c6],.int .i64 L] w fun e w'=>e = .returned (.int .i64 (iB L (ae x.cells)))/\Below w.heap.size w w':=by
 have B0:=Hd (aF (Below.refl w.heap.size w) (.cells #[.int .i64 x.net.inputs,.slice A0 n0 c0,.slice A1 n1 c1,.slice A2 n2 c2,.slice A3 n3 c3,.slice A4 n4 c4,.slice A5 n5 c5,.slice A6 n6 c6] 33))
 have HX:=Hd (aK w (.cells #[.int .i64 x.net.inputs,.slice A0 n0 c0,.slice A1 n1 c1,.slice A2 n2 c2,.slice A3 n3 c3,.slice A4 n4 c4,.slice A5 n5 c5,.slice A6 n6 c6] 33))
 have R0:=Hd h0
 have R1:=Hd h1
 have R2:=Hd h2
 have R3:=Hd h3
 have R4:=Hd h4
 have R5:=Hd h5
 have R6:=Hd h6
 have HS:Hid (ae x.cells=ae x.net.cells+szC (bE x.blocks)+szC (bD x.conns)+szC (aJ x.place)+szC (bR x.routes)):=by show _=_;unfold Lay.cells;simp only [fo,az,bK] <;> omega
 have hb2:=hb
 unfold Lay.cells ai.cells at hb2
 simp only [List.cons_append,List.nil_append,iK] at hb2
 obtain ⟨d0,d1,d2,d3,d4,d5,d6,d7,_⟩:=hb2
 have D0:Hid (BdL x.net.cells):=by show BdL _;unfold ai.cells;simp only [iK];exact ⟨d0,d1,d2,d3,nu⟩
 have D1:=Hd d4
 have D2:=Hd d5
 have D3:=Hd d6
 have D4:=Hd d7
 clear hb h0 h1 h2 h3 h4 h5 h6 d0 d1 d2 d3 d4 d5 d6 d7
 go_enter Tryz.func7,Tryz.ntmps7
 go_wp2_with fail
 refine (rz A0 A1 A2 n0 c0 n1 c1 n2 c2 x.net _ _ (R0.out.below B0.out) (R1.out.below B0.out) (R2.out.below B0.out) (by omega) (by omega) D0.out).mono ?_
 rintro _ w1 ⟨rfl,b1⟩
 have B1:=Hd (aB B0.out b1)
 have C1:=Hd b1
 clear b1
 by_cases g0:((ae x.net.cells:Nat):Int)<=L
 ·rw [ax g0]
  have e0:decide (L - ((ae x.net.cells:Nat):Int)<0)=false:=by simp;omega
  have hx:=aD C1.out HX.out
  have x4:=aA (k:=4) hx rfl
  have x5:=aA (k:=5) hx rfl
  have x6:=aA (k:=6) hx rfl
  have x7:=aA (k:=7) hx rfl
  have lx:=aC hx
  clear hx
  go_wp2_with fail
  refine (sD A3 n3 c3 x.blocks _ _ (R3.out.below B1.out) (by omega) (by omega) D1.out).mono ?_
  rintro _ w2 ⟨rfl,b2⟩
  have B2:=Hd (aB B1.out b2)
  have C2:=Hd (aB C1.out b2)
  clear b2 lx x4 x5 x6 x7
  by_cases g1:((szC (bE x.blocks):Nat):Int)<=L - ((ae x.net.cells:Nat):Int)
  ·rw [ax g1]
   have e1:decide (L - ((ae x.net.cells:Nat):Int) - ((szC (bE x.blocks):Nat):Int)<0)=false:=by simp;omega
   have hx:=aD C2.out HX.out
   have x5:=aA (k:=5) hx rfl
   have x6:=aA (k:=6) hx rfl
   have x7:=aA (k:=7) hx rfl
   have lx:=aC hx
   clear hx
   go_wp2_with fail
   refine (uN A4 n4 c4 x.conns _ _ (R4.out.below B2.out) (by omega) (by omega) D2.out).mono ?_
   rintro _ w3 ⟨rfl,b3⟩
   have B3:=Hd (aB B2.out b3)
   have C3:=Hd (aB C2.out b3)
   clear b3 lx x5 x6 x7
   by_cases g2:((szC (bD x.conns):Nat):Int)<=L - ((ae x.net.cells:Nat):Int) - ((szC (bE x.blocks):Nat):Int)
   ·rw [ax g2]
    have e2:decide (L - ((ae x.net.cells:Nat):Int) - ((szC (bE x.blocks):Nat):Int) - ((szC (bD x.conns):Nat):Int)<0)=false:=by simp;omega
    have hx:=aD C3.out HX.out
    have x6:=aA (k:=6) hx rfl
    have x7:=aA (k:=7) hx rfl
    have lx:=aC hx
    clear hx
    go_wp2_with fail
    refine (l5 A5 n5 c5 x.place _ _ (R5.out.below B3.out) (by omega) (by omega) D3.out).mono ?_
    rintro _ w4 ⟨rfl,b4⟩
    have B4:=Hd (aB B3.out b4)
    have C4:=Hd (aB C3.out b4)
    clear b4 lx x6 x7
    by_cases g3:((szC (aJ x.place):Nat):Int)<=L - ((ae x.net.cells:Nat):Int) - ((szC (bE x.blocks):Nat):Int) - ((szC (bD x.conns):Nat):Int)
    ·rw [ax g3]
     have e3:decide (L - ((ae x.net.cells:Nat):Int) - ((szC (bE x.blocks):Nat):Int) - ((szC (bD x.conns):Nat):Int) - ((szC (aJ x.place):Nat):Int)<0)=false:=by simp;omega
     have hx:=aD C4.out HX.out
     have x7:=aA (k:=7) hx rfl
     have lx:=aC hx
     clear hx
     go_wp2_with fail
     refine (sF A6 n6 c6 x.routes _ _ (R6.out.below B4.out) (by omega) (by omega) D4.out).mono ?_
     rintro _ w5 ⟨rfl,b5⟩
     have B5:=Hd (aB B4.out b5)
     have C5:=Hd (aB C4.out b5)
     clear b5 lx x7
     by_cases g4:((szC (bR x.routes):Nat):Int)<=L - ((ae x.net.cells:Nat):Int) - ((szC (bE x.blocks):Nat):Int) - ((szC (bD x.conns):Nat):Int) - ((szC (aJ x.place):Nat):Int)
     ·rw [ax g4]
      have e4:decide (L - ((ae x.net.cells:Nat):Int) - ((szC (bE x.blocks):Nat):Int) - ((szC (bD x.conns):Nat):Int) - ((szC (aJ x.place):Nat):Int) - ((szC (bR x.routes):Nat):Int)<0)=false:=by simp;omega
      go_wp2_with fail
      go_ret
      exact ⟨aQ (by rw [HS.out,ax (by omega)] <;> omega),B5.out⟩
     ·rw [aY g4]
      go_wp2_with fail
      go_ret
      exact ⟨aQ (by rw [HS.out,aY (by omega)]),B5.out⟩
    ·rw [aY g3]
     go_wp2_with fail
     go_ret
     exact ⟨aQ (by rw [HS.out,aY (by omega)]),B4.out⟩
   ·rw [aY g2]
    go_wp2_with fail
    go_ret
    exact ⟨aQ (by rw [HS.out,aY (by omega)]),B3.out⟩
  ·rw [aY g1]
   go_wp2_with fail
   go_ret
   exact ⟨aQ (by rw [HS.out,aY (by omega)]),B2.out⟩
 ·rw [aY g0]
  go_wp2_with fail
  go_ret
  exact ⟨aQ (by rw [HS.out,aY (by omega)]),B1.out⟩
end Go.Proofs.YtofihjoanjkdmaaGreat
