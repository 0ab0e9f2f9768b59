/- The laws' comparisons of nested data (printed by mkeq.py). -/
import Derived.Test.YtofihjoanjkdmaaGreatLayArg
import Derived.Test.YtofihjoanjkdmaaGreatQb
import Derived.Test.YtofihjoanjkdmaaGreatTileHar
namespace Go.Proofs.YtofihjoanjkdmaaGreat
set_option maxHeartbeats 2000000
set_option maxRecDepth 100000
open Go.RowKit
theorem l6 (A B:Option Addr) (n c m d:Nat) (xs:List Int) (w:World) (hA:RdC w w.heap.size (aJ xs) (.slice A n c)) (hB:RdC w w.heap.size (aJ xs) (.slice B m d)) (hz:szC (aJ xs)<=1099511627776) :
  Calls Tryz.prog 53 #[.slice A n c,.slice B m d] w fun e w'=>e = .returned (.bool true)/\Below w.heap.size w w' :=
 uq A B n m c d xs w hA.ints hB.ints (by rw [lu] at hz;have:=hA.ints.1;omega)
theorem uZ (A0 B0:Option Addr) (n0 c0 m0 d0:Nat) (x:Lt) (w:World) (h0:RdC w w.heap.size (aJ x.ins) (.slice A0 n0 c0)) (k0:RdC w w.heap.size (aJ x.ins) (.slice B0 m0 d0)) (hz:ae x.cells<=1099511627776) :
  Calls Tryz.prog 196 #[.agg #[.slice A0 n0 c0,.int .i64 x.mask],.agg #[.slice B0 m0 d0,.int .i64 x.mask]] w fun e w'=>e = .returned (.bool true)/\Below w.heap.size w w':=by
 have HB0:=Hd (aF (aF (Below.refl w.heap.size w) (.cells #[.slice A0 n0 c0,.int .i64 x.mask] 96)) (.cells #[.slice B0 m0 d0,.int .i64 x.mask] 96))
 have hy:=aK (w.alloc (.cells #[.slice A0 n0 c0,.int .i64 x.mask] 96)) (.cells #[.slice B0 m0 d0,.int .i64 x.mask] 96)
 have hx:=bg (.cells #[.slice B0 m0 d0,.int .i64 x.mask] 96) (aK w (.cells #[.slice A0 n0 c0,.int .i64 x.mask] 96))
 simp only [World.size_alloc] at hy
 have HXB:=Hd hx
 have HYB:=Hd hy
 clear hx hy
 have R0:=Hd h0
 have K0:=Hd k0
 have q1:(x.mask != x.mask)=false:=by simp
 have hz2:=hz
 unfold Lt.cells at hz2
 simp only [az,bK,fZ] at hz2
 have Z0:Hid (szC (aJ x.ins)<=1099511627776):=by show _<=_;omega
 clear hz hz2 h0 k0
 go_enter Tryz.func196,Tryz.ntmps196
 go_wp2_with fail
 refine (l6 A0 B0 n0 c0 m0 d0 x.ins _ (R0.out.below HB0.out) (K0.out.below HB0.out) Z0.out).mono ?_
 rintro _ w1 ⟨rfl,b1⟩
 have HB1:=Hd (aB HB0.out b1)
 have C1:=Hd b1
 clear b1
 have hx:=aD C1.out HXB.out
 have hy:=aD C1.out HYB.out
 have x1:=aA (k:=1) hx rfl
 have y1:=aA (k:=1) hy rfl
 have lx:=aC hx
 have ly:=aC hy
 clear hx hy
 go_wp2_with fail
 go_ret
 exact ⟨rfl,HB1.out⟩
theorem sQ (A B:Option Addr) (n c m d:Nat) (xs:List Lt) (w:World) (hA:RdC w w.heap.size (dR xs) (.slice A n c)) (hB:RdC w w.heap.size (dR xs) (.slice B m d)) (hz:szC (dR xs)<=1099511627776) :
  Calls Tryz.prog 100 #[.slice A n c,.slice B m d] w fun e w'=>e = .returned (.bool true)/\Below w.heap.size w w':=by
 have hx:=hA.lutN'
 have hy:=hB.lutN'
 obtain rfl:m=n:=by omega
 unfold dR at hz
 rw [cK Lt.cells_length (by omega)] at hz
 have hn:m<=1099511627776:=by omega
 have HZ:Hid (ae (xs.flatMap Lt.cells)<=1099511627776):=by show _<=_;omega
 have HA:=Hd hA
 have HB:=Hd hB
 have HX:=Hd hx
 clear hx hy hA hB hz
 go_enter Tryz.func100,Tryz.ntmps100
 go_wp2_with fail
 go_loopw [5] (fun i wr=>∃k:Nat,k<=m/\i = .int .i64 k/\Below w.heap.size w wr) (fun i _=>m - (intOf i).toNat)
 case atStart=>exact ⟨0,Nat.zero_le _,rfl,Below.refl _ _⟩
 case round =>
  obtain ⟨k,hk,rfl,hbe⟩:=hrel
  have HBE:=Hd hbe
  clear hbe
  by_cases hlt:k<m
  ·have hdk:decide ((k:Int)<(m:Int))=true:=by simp;omega
   obtain ⟨b,o,S0,l0,p0,rfl,hb,c0,c1,r0⟩:=(HA.out.below HBE.out).lut' (k:=k) (by rw [HX.out];exact hlt)
   obtain ⟨b',o',S0',l0',p0',rfl,hb',d0,d1,r0'⟩:=(HB.out.below HBE.out).lut' (k:=k) (by rw [HX.out];exact hlt)
   have HZE:Hid (ae (xs[k]?.getD Lt.zero).cells<=1099511627776):=Nat.le_trans (gU (cells:=Lt.cells) (by rw [HX.out];exact hlt)) HZ.out
   generalize xs[k]?.getD Lt.zero=x at *
   have J0:=Hd r0
   have J0':=Hd r0'
   clear r0 r0'
   have i0:(0:Int)<=(k:Int):=by omega
   have i1:(k:Int)<(m:Int):=by omega
   go_wp2_with fail
   have HEQ:=Hd (fun (v:Sub wr)=>uZ S0 S0' l0 p0 l0' p0' x v.v (J0.out.below v.h) (J0'.out.below v.h) HZE.out)
   have hsub:=aZ wr
   have hsc:=aR wr
   refine aI wr (by kernel_rfl) (by kernel_rfl) (Below.refl _ _) ?_
   repeat (go_big_quiet_step ((first
    | (go_at_call 196;with_reducible exact aO (HEQ.out _)))))
   refine wpQuiet_nil ?_
   rintro _ ⟨⟨w5,hD⟩,rfl⟩
   clear hsub hsc HEQ
   have HD:=Hd (aB HBE.out hD)
   clear hD
   go_wp2_with fail
   go_roundw
   case rel=>exact ⟨k+1,by omega,by go_num,HD.out⟩
   case measure=>simp [intOf];omega
  ·have hkn:k=m:=by omega
   subst hkn
   have hdk:decide ((k:Int)<(k:Int))=false:=by simp
   go_wp2_with fail
   go_ret
   exact ⟨rfl,HBE.out⟩
theorem uf (A0 B0:Option Addr) (n0 c0 m0 d0:Nat) (x:Sq) (w:World) (h0:RdC w w.heap.size (aJ x.ins) (.slice A0 n0 c0)) (k0:RdC w w.heap.size (aJ x.ins) (.slice B0 m0 d0)) (hz:ae x.cells<=1099511627776) :
  Calls Tryz.prog 195 #[.agg #[.int .i64 x.kind,.int .i64 x.init,.slice A0 n0 c0],.agg #[.int .i64 x.kind,.int .i64 x.init,.slice B0 m0 d0]] w fun e w'=>e = .returned (.bool true)/\Below w.heap.size w w':=by
 have HB0:=Hd (aF (aF (Below.refl w.heap.size w) (.cells #[.int .i64 x.kind,.int .i64 x.init,.slice A0 n0 c0] 91)) (.cells #[.int .i64 x.kind,.int .i64 x.init,.slice B0 m0 d0] 91))
 have hy:=aK (w.alloc (.cells #[.int .i64 x.kind,.int .i64 x.init,.slice A0 n0 c0] 91)) (.cells #[.int .i64 x.kind,.int .i64 x.init,.slice B0 m0 d0] 91)
 have hx:=bg (.cells #[.int .i64 x.kind,.int .i64 x.init,.slice B0 m0 d0] 91) (aK w (.cells #[.int .i64 x.kind,.int .i64 x.init,.slice A0 n0 c0] 91))
 simp only [World.size_alloc] at hy
 have HXB:=Hd hx
 have HYB:=Hd hy
 clear hx hy
 have R0:=Hd h0
 have K0:=Hd k0
 have q0:(x.kind != x.kind)=false:=by simp
 have q1:(x.init != x.init)=false:=by simp
 have hz2:=hz
 unfold Sq.cells at hz2
 simp only [az,bK,fZ] at hz2
 have Z0:Hid (szC (aJ x.ins)<=1099511627776):=by show _<=_;omega
 clear hz hz2 h0 k0
 go_enter Tryz.func195,Tryz.ntmps195
 go_wp2_with fail
 refine (l6 A0 B0 n0 c0 m0 d0 x.ins _ (R0.out.below HB0.out) (K0.out.below HB0.out) Z0.out).mono ?_
 rintro _ w1 ⟨rfl,b1⟩
 have HB1:=Hd (aB HB0.out b1)
 have C1:=Hd b1
 clear b1
 go_wp2_with fail
 go_ret
 exact ⟨rfl,HB1.out⟩
theorem sS (A B:Option Addr) (n c m d:Nat) (xs:List Sq) (w:World) (hA:RdC w w.heap.size (dE xs) (.slice A n c)) (hB:RdC w w.heap.size (dE xs) (.slice B m d)) (hz:szC (dE xs)<=1099511627776) :
  Calls Tryz.prog 99 #[.slice A n c,.slice B m d] w fun e w'=>e = .returned (.bool true)/\Below w.heap.size w w':=by
 have hx:=hA.sqN'
 have hy:=hB.sqN'
 obtain rfl:m=n:=by omega
 unfold dE at hz
 rw [cK Sq.cells_length (by omega)] at hz
 have hn:m<=1099511627776:=by omega
 have HZ:Hid (ae (xs.flatMap Sq.cells)<=1099511627776):=by show _<=_;omega
 have HA:=Hd hA
 have HB:=Hd hB
 have HX:=Hd hx
 clear hx hy hA hB hz
 go_enter Tryz.func99,Tryz.ntmps99
 go_wp2_with fail
 go_loopw [5] (fun i wr=>∃k:Nat,k<=m/\i = .int .i64 k/\Below w.heap.size w wr) (fun i _=>m - (intOf i).toNat)
 case atStart=>exact ⟨0,Nat.zero_le _,rfl,Below.refl _ _⟩
 case round =>
  obtain ⟨k,hk,rfl,hbe⟩:=hrel
  have HBE:=Hd hbe
  clear hbe
  by_cases hlt:k<m
  ·have hdk:decide ((k:Int)<(m:Int))=true:=by simp;omega
   obtain ⟨b,o,S0,l0,p0,rfl,hb,c0,c1,c2,r0⟩:=(HA.out.below HBE.out).sq' (k:=k) (by rw [HX.out];exact hlt)
   obtain ⟨b',o',S0',l0',p0',rfl,hb',d0,d1,d2,r0'⟩:=(HB.out.below HBE.out).sq' (k:=k) (by rw [HX.out];exact hlt)
   have HZE:Hid (ae (xs[k]?.getD Sq.zero).cells<=1099511627776):=Nat.le_trans (gU (cells:=Sq.cells) (by rw [HX.out];exact hlt)) HZ.out
   generalize xs[k]?.getD Sq.zero=x at *
   have J0:=Hd r0
   have J0':=Hd r0'
   clear r0 r0'
   have i0:(0:Int)<=(k:Int):=by omega
   have i1:(k:Int)<(m:Int):=by omega
   go_wp2_with fail
   have HEQ:=Hd (fun (v:Sub wr)=>uf S0 S0' l0 p0 l0' p0' x v.v (J0.out.below v.h) (J0'.out.below v.h) HZE.out)
   have hsub:=aZ wr
   have hsc:=aR wr
   refine aI wr (by kernel_rfl) (by kernel_rfl) (Below.refl _ _) ?_
   repeat (go_big_quiet_step ((first
    | (go_at_call 195;with_reducible exact aO (HEQ.out _)))))
   refine wpQuiet_nil ?_
   rintro _ ⟨⟨w5,hD⟩,rfl⟩
   clear hsub hsc HEQ
   have HD:=Hd (aB HBE.out hD)
   clear hD
   go_wp2_with fail
   go_roundw
   case rel=>exact ⟨k+1,by omega,by go_num,HD.out⟩
   case measure=>simp [intOf];omega
  ·have hkn:k=m:=by omega
   subst hkn
   have hdk:decide ((k:Int)<(k:Int))=false:=by simp
   go_wp2_with fail
   go_ret
   exact ⟨rfl,HBE.out⟩
theorem qM (A0 B0 A1 B1 A2 B2:Option Addr) (n0 c0 m0 d0 n1 c1 m1 d1 n2 c2 m2 d2:Nat) (x:ai) (w:World) (h0:RdC w w.heap.size (dE x.seqs) (.slice A0 n0 c0)) (k0:RdC w w.heap.size (dE x.seqs) (.slice B0 m0 d0)) (h1:RdC w w.heap.size (dR x.luts) (.slice A1 n1 c1)) (k1:RdC w w.heap.size (dR x.luts) (.slice B1 m1 d1)) (h2:RdC w w.heap.size (aJ x.outs) (.slice A2 n2 c2)) (k2:RdC w w.heap.size (aJ x.outs) (.slice B2 m2 d2)) (hz:ae x.cells<=1099511627776) :
  Calls Tryz.prog 28 #[.agg #[.int .i64 x.inputs,.slice A0 n0 c0,.slice A1 n1 c1,.slice A2 n2 c2],.agg #[.int .i64 x.inputs,.slice B0 m0 d0,.slice B1 m1 d1,.slice B2 m2 d2]] w fun e w'=>e = .returned (.bool true)/\Below w.heap.size w w':=by
 have HB0:=Hd (aF (aF (Below.refl w.heap.size w) (.cells #[.int .i64 x.inputs,.slice A0 n0 c0,.slice A1 n1 c1,.slice A2 n2 c2] 41)) (.cells #[.int .i64 x.inputs,.slice B0 m0 d0,.slice B1 m1 d1,.slice B2 m2 d2] 41))
 have hy:=aK (w.alloc (.cells #[.int .i64 x.inputs,.slice A0 n0 c0,.slice A1 n1 c1,.slice A2 n2 c2] 41)) (.cells #[.int .i64 x.inputs,.slice B0 m0 d0,.slice B1 m1 d1,.slice B2 m2 d2] 41)
 have hx:=bg (.cells #[.int .i64 x.inputs,.slice B0 m0 d0,.slice B1 m1 d1,.slice B2 m2 d2] 41) (aK w (.cells #[.int .i64 x.inputs,.slice A0 n0 c0,.slice A1 n1 c1,.slice A2 n2 c2] 41))
 simp only [World.size_alloc] at hy
 have HXB:=Hd hx
 have HYB:=Hd hy
 clear hx hy
 have R0:=Hd h0
 have K0:=Hd k0
 have R1:=Hd h1
 have K1:=Hd k1
 have R2:=Hd h2
 have K2:=Hd k2
 have q0:(x.inputs != x.inputs)=false:=by simp
 have hz2:=hz
 unfold ai.cells at hz2
 simp only [az,bK,fZ] at hz2
 have Z0:Hid (szC (dE x.seqs)<=1099511627776):=by show _<=_;omega
 have Z1:Hid (szC (dR x.luts)<=1099511627776):=by show _<=_;omega
 have Z2:Hid (szC (aJ x.outs)<=1099511627776):=by show _<=_;omega
 clear hz hz2 h0 k0 h1 k1 h2 k2
 go_enter Tryz.func28,Tryz.ntmps28
 go_wp2_with fail
 refine (sS A0 B0 n0 c0 m0 d0 x.seqs _ (R0.out.below HB0.out) (K0.out.below HB0.out) Z0.out).mono ?_
 rintro _ w1 ⟨rfl,b1⟩
 have HB1:=Hd (aB HB0.out b1)
 have C1:=Hd b1
 clear b1
 have hx:=aD C1.out HXB.out
 have hy:=aD C1.out HYB.out
 have x2:=aA (k:=2) hx rfl
 have y2:=aA (k:=2) hy rfl
 have x3:=aA (k:=3) hx rfl
 have y3:=aA (k:=3) hy rfl
 have lx:=aC hx
 have ly:=aC hy
 clear hx hy
 go_wp2_with fail
 refine (sQ A1 B1 n1 c1 m1 d1 x.luts _ (R1.out.below HB1.out) (K1.out.below HB1.out) Z1.out).mono ?_
 rintro _ w2 ⟨rfl,b2⟩
 have HB2:=Hd (aB HB1.out b2)
 have C2:=Hd (aB C1.out b2)
 clear b2 x2 y2 x3 y3 lx ly
 have hx:=aD C2.out HXB.out
 have hy:=aD C2.out HYB.out
 have x3:=aA (k:=3) hx rfl
 have y3:=aA (k:=3) hy rfl
 have lx:=aC hx
 have ly:=aC hy
 clear hx hy
 go_wp2_with fail
 refine (l6 A2 B2 n2 c2 m2 d2 x.outs _ (R2.out.below HB2.out) (K2.out.below HB2.out) Z2.out).mono ?_
 rintro _ w3 ⟨rfl,b3⟩
 have HB3:=Hd (aB HB2.out b3)
 have C3:=Hd (aB C2.out b3)
 clear b3 x3 y3 lx ly
 go_wp2_with fail
 go_ret
 exact ⟨rfl,HB3.out⟩
theorem vo (x:LeT) (w:World)  :
  Calls Tryz.prog 261 #[.agg #[.int .i64 x.lut,.int .i64 x.ff],.agg #[.int .i64 x.lut,.int .i64 x.ff]] w fun e w'=>e = .returned (.bool true)/\Below w.heap.size w w':=by
 have HB0:=Hd (aF (aF (Below.refl w.heap.size w) (.cells #[.int .i64 x.lut,.int .i64 x.ff] 94)) (.cells #[.int .i64 x.lut,.int .i64 x.ff] 94))
 have hy:=aK (w.alloc (.cells #[.int .i64 x.lut,.int .i64 x.ff] 94)) (.cells #[.int .i64 x.lut,.int .i64 x.ff] 94)
 have hx:=bg (.cells #[.int .i64 x.lut,.int .i64 x.ff] 94) (aK w (.cells #[.int .i64 x.lut,.int .i64 x.ff] 94))
 simp only [World.size_alloc] at hy
 have HXB:=Hd hx
 have HYB:=Hd hy
 clear hx hy
 have q0:(x.lut != x.lut)=false:=by simp
 have q1:(x.ff != x.ff)=false:=by simp
 go_enter Tryz.func261,Tryz.ntmps261
 go_wp2_with fail
 go_ret
 exact ⟨rfl,HB0.out⟩
theorem ug (A B:Option Addr) (n c m d:Nat) (xs:List LeT) (w:World) (hA:RdC w w.heap.size (dF xs) (.slice A n c)) (hB:RdC w w.heap.size (dF xs) (.slice B m d)) (hz:szC (dF xs)<=1099511627776) :
  Calls Tryz.prog 225 #[.slice A n c,.slice B m d] w fun e w'=>e = .returned (.bool true)/\Below w.heap.size w w':=by
 have hx:=hA.esN
 have hy:=hB.esN
 obtain rfl:m=n:=by omega
 unfold dF at hz
 rw [cK LeT.cells_length (by omega)] at hz
 have hn:m<=1099511627776:=by omega
 have HZ:Hid (ae (xs.flatMap LeT.cells)<=1099511627776):=by show _<=_;omega
 have HA:=Hd hA
 have HB:=Hd hB
 have HX:=Hd hx
 clear hx hy hA hB hz
 go_enter Tryz.func225,Tryz.ntmps225
 go_wp2_with fail
 go_loopw [5] (fun i wr=>∃k:Nat,k<=m/\i = .int .i64 k/\Below w.heap.size w wr) (fun i _=>m - (intOf i).toNat)
 case atStart=>exact ⟨0,Nat.zero_le _,rfl,Below.refl _ _⟩
 case round =>
  obtain ⟨k,hk,rfl,hbe⟩:=hrel
  have HBE:=Hd hbe
  clear hbe
  by_cases hlt:k<m
  ·have hdk:decide ((k:Int)<(m:Int))=true:=by simp;omega
   obtain ⟨b,o,rfl,hb,c0,c1⟩:=(HA.out.below HBE.out).es (k:=k) (by rw [HX.out];exact hlt)
   obtain ⟨b',o',rfl,hb',d0,d1⟩:=(HB.out.below HBE.out).es (k:=k) (by rw [HX.out];exact hlt)
   skip
   generalize xs[k]?.getD LeT.zero=x at *
   skip
   have i0:(0:Int)<=(k:Int):=by omega
   have i1:(k:Int)<(m:Int):=by omega
   go_wp2_with fail
   have HEQ:=Hd (fun (v:Sub wr)=>vo x v.v)
   have hsub:=aZ wr
   have hsc:=aR wr
   refine aI wr (by kernel_rfl) (by kernel_rfl) (Below.refl _ _) ?_
   repeat (go_big_quiet_step ((first
    | (go_at_call 261;with_reducible exact aO (HEQ.out _)))))
   refine wpQuiet_nil ?_
   rintro _ ⟨⟨w5,hD⟩,rfl⟩
   clear hsub hsc HEQ
   have HD:=Hd (aB HBE.out hD)
   clear hD
   go_wp2_with fail
   go_roundw
   case rel=>exact ⟨k+1,by omega,by go_num,HD.out⟩
   case measure=>simp [intOf];omega
  ·have hkn:k=m:=by omega
   subst hkn
   have hdk:decide ((k:Int)<(k:Int))=false:=by simp
   go_wp2_with fail
   go_ret
   exact ⟨rfl,HBE.out⟩
theorem qo (A0 B0:Option Addr) (n0 c0 m0 d0:Nat) (x:Blk) (w:World) (h0:RdC w w.heap.size (dF x.les) (.slice A0 n0 c0)) (k0:RdC w w.heap.size (dF x.les) (.slice B0 m0 d0)) (hz:ae x.cells<=1099511627776) :
  Calls Tryz.prog 134 #[.agg #[.int .i64 x.kind,.int .i64 x.item,.slice A0 n0 c0],.agg #[.int .i64 x.kind,.int .i64 x.item,.slice B0 m0 d0]] w fun e w'=>e = .returned (.bool true)/\Below w.heap.size w w':=by
 have HB0:=Hd (aF (aF (Below.refl w.heap.size w) (.cells #[.int .i64 x.kind,.int .i64 x.item,.slice A0 n0 c0] 89)) (.cells #[.int .i64 x.kind,.int .i64 x.item,.slice B0 m0 d0] 89))
 have hy:=aK (w.alloc (.cells #[.int .i64 x.kind,.int .i64 x.item,.slice A0 n0 c0] 89)) (.cells #[.int .i64 x.kind,.int .i64 x.item,.slice B0 m0 d0] 89)
 have hx:=bg (.cells #[.int .i64 x.kind,.int .i64 x.item,.slice B0 m0 d0] 89) (aK w (.cells #[.int .i64 x.kind,.int .i64 x.item,.slice A0 n0 c0] 89))
 simp only [World.size_alloc] at hy
 have HXB:=Hd hx
 have HYB:=Hd hy
 clear hx hy
 have R0:=Hd h0
 have K0:=Hd k0
 have q0:(x.kind != x.kind)=false:=by simp
 have q1:(x.item != x.item)=false:=by simp
 have hz2:=hz
 unfold Blk.cells at hz2
 simp only [az,bK,fZ] at hz2
 have Z0:Hid (szC (dF x.les)<=1099511627776):=by show _<=_;omega
 clear hz hz2 h0 k0
 go_enter Tryz.func134,Tryz.ntmps134
 go_wp2_with fail
 refine (ug A0 B0 n0 c0 m0 d0 x.les _ (R0.out.below HB0.out) (K0.out.below HB0.out) Z0.out).mono ?_
 rintro _ w1 ⟨rfl,b1⟩
 have HB1:=Hd (aB HB0.out b1)
 have C1:=Hd b1
 clear b1
 go_wp2_with fail
 go_ret
 exact ⟨rfl,HB1.out⟩
theorem qN (A B:Option Addr) (n c m d:Nat) (xs:List Blk) (w:World) (hA:RdC w w.heap.size (bE xs) (.slice A n c)) (hB:RdC w w.heap.size (bE xs) (.slice B m d)) (hz:szC (bE xs)<=1099511627776) :
  Calls Tryz.prog 51 #[.slice A n c,.slice B m d] w fun e w'=>e = .returned (.bool true)/\Below w.heap.size w w':=by
 have hx:=hA.blkN
 have hy:=hB.blkN
 obtain rfl:m=n:=by omega
 unfold bE at hz
 rw [cK Blk.cells_length (by omega)] at hz
 have hn:m<=1099511627776:=by omega
 have HZ:Hid (ae (xs.flatMap Blk.cells)<=1099511627776):=by show _<=_;omega
 have HA:=Hd hA
 have HB:=Hd hB
 have HX:=Hd hx
 clear hx hy hA hB hz
 go_enter Tryz.func51,Tryz.ntmps51
 go_wp2_with fail
 go_loopw [5] (fun i wr=>∃k:Nat,k<=m/\i = .int .i64 k/\Below w.heap.size w wr) (fun i _=>m - (intOf i).toNat)
 case atStart=>exact ⟨0,Nat.zero_le _,rfl,Below.refl _ _⟩
 case round =>
  obtain ⟨k,hk,rfl,hbe⟩:=hrel
  have HBE:=Hd hbe
  clear hbe
  by_cases hlt:k<m
  ·have hdk:decide ((k:Int)<(m:Int))=true:=by simp;omega
   obtain ⟨b,o,S0,l0,p0,rfl,hb,c0,c1,c2,r0⟩:=(HA.out.below HBE.out).blk (k:=k) (by rw [HX.out];exact hlt)
   obtain ⟨b',o',S0',l0',p0',rfl,hb',d0,d1,d2,r0'⟩:=(HB.out.below HBE.out).blk (k:=k) (by rw [HX.out];exact hlt)
   have HZE:Hid (ae (xs[k]?.getD Blk.zero).cells<=1099511627776):=Nat.le_trans (gU (cells:=Blk.cells) (by rw [HX.out];exact hlt)) HZ.out
   generalize xs[k]?.getD Blk.zero=x at *
   have J0:=Hd r0
   have J0':=Hd r0'
   clear r0 r0'
   have i0:(0:Int)<=(k:Int):=by omega
   have i1:(k:Int)<(m:Int):=by omega
   go_wp2_with fail
   have HEQ:=Hd (fun (v:Sub wr)=>qo S0 S0' l0 p0 l0' p0' x v.v (J0.out.below v.h) (J0'.out.below v.h) HZE.out)
   have hsub:=aZ wr
   have hsc:=aR wr
   refine aI wr (by kernel_rfl) (by kernel_rfl) (Below.refl _ _) ?_
   repeat (go_big_quiet_step ((first
    | (go_at_call 134;with_reducible exact aO (HEQ.out _)))))
   refine wpQuiet_nil ?_
   rintro _ ⟨⟨w5,hD⟩,rfl⟩
   clear hsub hsc HEQ
   have HD:=Hd (aB HBE.out hD)
   clear hD
   go_wp2_with fail
   go_roundw
   case rel=>exact ⟨k+1,by omega,by go_num,HD.out⟩
   case measure=>simp [intOf];omega
  ·have hkn:k=m:=by omega
   subst hkn
   have hdk:decide ((k:Int)<(k:Int))=false:=by simp
   go_wp2_with fail
   go_ret
   exact ⟨rfl,HBE.out⟩
theorem pJ (x:bQ) (w:World)  :
  Calls Tryz.prog 226 #[.agg #[.int .i64 x.block,.int .i64 x.pin],.agg #[.int .i64 x.block,.int .i64 x.pin]] w fun e w'=>e = .returned (.bool true)/\Below w.heap.size w w':=by
 have HB0:=Hd (aF (aF (Below.refl w.heap.size w) (.cells #[.int .i64 x.block,.int .i64 x.pin] 100)) (.cells #[.int .i64 x.block,.int .i64 x.pin] 100))
 have hy:=aK (w.alloc (.cells #[.int .i64 x.block,.int .i64 x.pin] 100)) (.cells #[.int .i64 x.block,.int .i64 x.pin] 100)
 have hx:=bg (.cells #[.int .i64 x.block,.int .i64 x.pin] 100) (aK w (.cells #[.int .i64 x.block,.int .i64 x.pin] 100))
 simp only [World.size_alloc] at hy
 have HXB:=Hd hx
 have HYB:=Hd hy
 clear hx hy
 have q0:(x.block != x.block)=false:=by simp
 have q1:(x.pin != x.pin)=false:=by simp
 go_enter Tryz.func226,Tryz.ntmps226
 go_wp2_with fail
 go_ret
 exact ⟨rfl,HB0.out⟩
theorem sU (A B:Option Addr) (n c m d:Nat) (xs:List bQ) (w:World) (hA:RdC w w.heap.size (bM xs) (.slice A n c)) (hB:RdC w w.heap.size (bM xs) (.slice B m d)) (hz:szC (bM xs)<=1099511627776) :
  Calls Tryz.prog 227 #[.slice A n c,.slice B m d] w fun e w'=>e = .returned (.bool true)/\Below w.heap.size w w':=by
 have hx:=hA.pinN
 have hy:=hB.pinN
 obtain rfl:m=n:=by omega
 unfold bM at hz
 rw [cK bQ.cells_length (by omega)] at hz
 have hn:m<=1099511627776:=by omega
 have HZ:Hid (ae (xs.flatMap bQ.cells)<=1099511627776):=by show _<=_;omega
 have HA:=Hd hA
 have HB:=Hd hB
 have HX:=Hd hx
 clear hx hy hA hB hz
 go_enter Tryz.func227,Tryz.ntmps227
 go_wp2_with fail
 go_loopw [5] (fun i wr=>∃k:Nat,k<=m/\i = .int .i64 k/\Below w.heap.size w wr) (fun i _=>m - (intOf i).toNat)
 case atStart=>exact ⟨0,Nat.zero_le _,rfl,Below.refl _ _⟩
 case round =>
  obtain ⟨k,hk,rfl,hbe⟩:=hrel
  have HBE:=Hd hbe
  clear hbe
  by_cases hlt:k<m
  ·have hdk:decide ((k:Int)<(m:Int))=true:=by simp;omega
   obtain ⟨b,o,rfl,hb,c0,c1⟩:=(HA.out.below HBE.out).pin (k:=k) (by rw [HX.out];exact hlt)
   obtain ⟨b',o',rfl,hb',d0,d1⟩:=(HB.out.below HBE.out).pin (k:=k) (by rw [HX.out];exact hlt)
   skip
   generalize xs[k]?.getD bQ.zero=x at *
   skip
   have i0:(0:Int)<=(k:Int):=by omega
   have i1:(k:Int)<(m:Int):=by omega
   go_wp2_with fail
   have HEQ:=Hd (fun (v:Sub wr)=>pJ x v.v)
   have hsub:=aZ wr
   have hsc:=aR wr
   refine aI wr (by kernel_rfl) (by kernel_rfl) (Below.refl _ _) ?_
   repeat (go_big_quiet_step ((first
    | (go_at_call 226;with_reducible exact aO (HEQ.out _)))))
   refine wpQuiet_nil ?_
   rintro _ ⟨⟨w5,hD⟩,rfl⟩
   clear hsub hsc HEQ
   have HD:=Hd (aB HBE.out hD)
   clear hD
   go_wp2_with fail
   go_roundw
   case rel=>exact ⟨k+1,by omega,by go_num,HD.out⟩
   case measure=>simp [intOf];omega
  ·have hkn:k=m:=by omega
   subst hkn
   have hdk:decide ((k:Int)<(k:Int))=false:=by simp
   go_wp2_with fail
   go_ret
   exact ⟨rfl,HBE.out⟩
theorem sV (A0 B0:Option Addr) (n0 c0 m0 d0:Nat) (x:Cn) (w:World) (h0:RdC w w.heap.size (bM x.sinks) (.slice A0 n0 c0)) (k0:RdC w w.heap.size (bM x.sinks) (.slice B0 m0 d0)) (hz:ae x.cells<=1099511627776) :
  Calls Tryz.prog 135 #[.agg #[.int .i64 x.node,.int .i64 x.src.block,.int .i64 x.src.pin,.slice A0 n0 c0],.agg #[.int .i64 x.node,.int .i64 x.src.block,.int .i64 x.src.pin,.slice B0 m0 d0]] w fun e w'=>e = .returned (.bool true)/\Below w.heap.size w w':=by
 have HB0:=Hd (aF (aF (Below.refl w.heap.size w) (.cells #[.int .i64 x.node,.int .i64 x.src.block,.int .i64 x.src.pin,.slice A0 n0 c0] 158)) (.cells #[.int .i64 x.node,.int .i64 x.src.block,.int .i64 x.src.pin,.slice B0 m0 d0] 158))
 have hy:=aK (w.alloc (.cells #[.int .i64 x.node,.int .i64 x.src.block,.int .i64 x.src.pin,.slice A0 n0 c0] 158)) (.cells #[.int .i64 x.node,.int .i64 x.src.block,.int .i64 x.src.pin,.slice B0 m0 d0] 158)
 have hx:=bg (.cells #[.int .i64 x.node,.int .i64 x.src.block,.int .i64 x.src.pin,.slice B0 m0 d0] 158) (aK w (.cells #[.int .i64 x.node,.int .i64 x.src.block,.int .i64 x.src.pin,.slice A0 n0 c0] 158))
 simp only [World.size_alloc] at hy
 have HXB:=Hd hx
 have HYB:=Hd hy
 clear hx hy
 have R0:=Hd h0
 have K0:=Hd k0
 have q0:(x.node != x.node)=false:=by simp
 have q1:(x.src.block != x.src.block)=false:=by simp
 have q2:(x.src.pin != x.src.pin)=false:=by simp
 have hz2:=hz
 unfold Cn.cells at hz2
 simp only [az,bK,fZ] at hz2
 have Z1:Hid (szC (bM x.sinks)<=1099511627776):=by show _<=_;omega
 clear hz hz2 h0 k0
 go_enter Tryz.func135,Tryz.ntmps135
 go_wp2_with fail
 refine (pJ   x.src _  ).mono ?_
 rintro _ w1 ⟨rfl,b1⟩
 have HB1:=Hd (aB HB0.out b1)
 have C1:=Hd b1
 clear b1
 have hx:=aD C1.out HXB.out
 have hy:=aD C1.out HYB.out
 have x3:=aA (k:=3) hx rfl
 have y3:=aA (k:=3) hy rfl
 have lx:=aC hx
 have ly:=aC hy
 clear hx hy
 go_wp2_with fail
 refine (sU A0 B0 n0 c0 m0 d0 x.sinks _ (R0.out.below HB1.out) (K0.out.below HB1.out) Z1.out).mono ?_
 rintro _ w2 ⟨rfl,b2⟩
 have HB2:=Hd (aB HB1.out b2)
 have C2:=Hd (aB C1.out b2)
 clear b2 x3 y3 lx ly
 go_wp2_with fail
 go_ret
 exact ⟨rfl,HB2.out⟩
theorem qp (A B:Option Addr) (n c m d:Nat) (xs:List Cn) (w:World) (hA:RdC w w.heap.size (bD xs) (.slice A n c)) (hB:RdC w w.heap.size (bD xs) (.slice B m d)) (hz:szC (bD xs)<=1099511627776) :
  Calls Tryz.prog 52 #[.slice A n c,.slice B m d] w fun e w'=>e = .returned (.bool true)/\Below w.heap.size w w':=by
 have hx:=hA.cnN
 have hy:=hB.cnN
 obtain rfl:m=n:=by omega
 unfold bD at hz
 rw [cK Cn.cells_length (by omega)] at hz
 have hn:m<=1099511627776:=by omega
 have HZ:Hid (ae (xs.flatMap Cn.cells)<=1099511627776):=by show _<=_;omega
 have HA:=Hd hA
 have HB:=Hd hB
 have HX:=Hd hx
 clear hx hy hA hB hz
 go_enter Tryz.func52,Tryz.ntmps52
 go_wp2_with fail
 go_loopw [5] (fun i wr=>∃k:Nat,k<=m/\i = .int .i64 k/\Below w.heap.size w wr) (fun i _=>m - (intOf i).toNat)
 case atStart=>exact ⟨0,Nat.zero_le _,rfl,Below.refl _ _⟩
 case round =>
  obtain ⟨k,hk,rfl,hbe⟩:=hrel
  have HBE:=Hd hbe
  clear hbe
  by_cases hlt:k<m
  ·have hdk:decide ((k:Int)<(m:Int))=true:=by simp;omega
   obtain ⟨b,o,S0,l0,p0,rfl,hb,c0,c1,c2,c3,r0⟩:=(HA.out.below HBE.out).cn (k:=k) (by rw [HX.out];exact hlt)
   obtain ⟨b',o',S0',l0',p0',rfl,hb',d0,d1,d2,d3,r0'⟩:=(HB.out.below HBE.out).cn (k:=k) (by rw [HX.out];exact hlt)
   have HZE:Hid (ae (xs[k]?.getD Cn.zero).cells<=1099511627776):=Nat.le_trans (gU (cells:=Cn.cells) (by rw [HX.out];exact hlt)) HZ.out
   generalize xs[k]?.getD Cn.zero=x at *
   have J0:=Hd r0
   have J0':=Hd r0'
   clear r0 r0'
   have i0:(0:Int)<=(k:Int):=by omega
   have i1:(k:Int)<(m:Int):=by omega
   go_wp2_with fail
   have HEQ:=Hd (fun (v:Sub wr)=>sV S0 S0' l0 p0 l0' p0' x v.v (J0.out.below v.h) (J0'.out.below v.h) HZE.out)
   have hsub:=aZ wr
   have hsc:=aR wr
   refine aI wr (by kernel_rfl) (by kernel_rfl) (Below.refl _ _) ?_
   repeat (go_big_quiet_step ((first
    | (go_at_call 135;with_reducible exact aO (HEQ.out _)))))
   refine wpQuiet_nil ?_
   rintro _ ⟨⟨w5,hD⟩,rfl⟩
   clear hsub hsc HEQ
   have HD:=Hd (aB HBE.out hD)
   clear hD
   go_wp2_with fail
   go_roundw
   case rel=>exact ⟨k+1,by omega,by go_num,HD.out⟩
   case measure=>simp [intOf];omega
  ·have hkn:k=m:=by omega
   subst hkn
   have hdk:decide ((k:Int)<(k:Int))=false:=by simp
   go_wp2_with fail
   go_ret
   exact ⟨rfl,HBE.out⟩
theorem qw (A0 B0 A1 B1:Option Addr) (n0 c0 m0 d0 n1 c1 m1 d1:Nat) (x:Rou) (w:World) (h0:RdC w w.heap.size (aJ x.nodes) (.slice A0 n0 c0)) (k0:RdC w w.heap.size (aJ x.nodes) (.slice B0 m0 d0)) (h1:RdC w w.heap.size (aJ x.from_) (.slice A1 n1 c1)) (k1:RdC w w.heap.size (aJ x.from_) (.slice B1 m1 d1)) (hz:ae x.cells<=1099511627776) :
  Calls Tryz.prog 136 #[.agg #[.slice A0 n0 c0,.slice A1 n1 c1],.agg #[.slice B0 m0 d0,.slice B1 m1 d1]] w fun e w'=>e = .returned (.bool true)/\Below w.heap.size w w':=by
 have HB0:=Hd (aF (aF (Below.refl w.heap.size w) (.cells #[.slice A0 n0 c0,.slice A1 n1 c1] 114)) (.cells #[.slice B0 m0 d0,.slice B1 m1 d1] 114))
 have hy:=aK (w.alloc (.cells #[.slice A0 n0 c0,.slice A1 n1 c1] 114)) (.cells #[.slice B0 m0 d0,.slice B1 m1 d1] 114)
 have hx:=bg (.cells #[.slice B0 m0 d0,.slice B1 m1 d1] 114) (aK w (.cells #[.slice A0 n0 c0,.slice A1 n1 c1] 114))
 simp only [World.size_alloc] at hy
 have HXB:=Hd hx
 have HYB:=Hd hy
 clear hx hy
 have R0:=Hd h0
 have K0:=Hd k0
 have R1:=Hd h1
 have K1:=Hd k1
 have hz2:=hz
 unfold Rou.cells at hz2
 simp only [az,bK] at hz2
 have Z0:Hid (szC (aJ x.nodes)<=1099511627776):=by show _<=_;omega
 have Z1:Hid (szC (aJ x.from_)<=1099511627776):=by show _<=_;omega
 clear hz hz2 h0 k0 h1 k1
 go_enter Tryz.func136,Tryz.ntmps136
 go_wp2_with fail
 refine (l6 A0 B0 n0 c0 m0 d0 x.nodes _ (R0.out.below HB0.out) (K0.out.below HB0.out) Z0.out).mono ?_
 rintro _ w1 ⟨rfl,b1⟩
 have HB1:=Hd (aB HB0.out b1)
 have C1:=Hd b1
 clear b1
 have hx:=aD C1.out HXB.out
 have hy:=aD C1.out HYB.out
 have x1:=aA (k:=1) hx rfl
 have y1:=aA (k:=1) hy rfl
 have lx:=aC hx
 have ly:=aC hy
 clear hx hy
 go_wp2_with fail
 refine (l6 A1 B1 n1 c1 m1 d1 x.from_ _ (R1.out.below HB1.out) (K1.out.below HB1.out) Z1.out).mono ?_
 rintro _ w2 ⟨rfl,b2⟩
 have HB2:=Hd (aB HB1.out b2)
 have C2:=Hd (aB C1.out b2)
 clear b2 x1 y1 lx ly
 go_wp2_with fail
 go_ret
 exact ⟨rfl,HB2.out⟩
theorem qO (A B:Option Addr) (n c m d:Nat) (xs:List Rou) (w:World) (hA:RdC w w.heap.size (bR xs) (.slice A n c)) (hB:RdC w w.heap.size (bR xs) (.slice B m d)) (hz:szC (bR xs)<=1099511627776) :
  Calls Tryz.prog 54 #[.slice A n c,.slice B m d] w fun e w'=>e = .returned (.bool true)/\Below w.heap.size w w':=by
 have hx:=hA.rouN
 have hy:=hB.rouN
 obtain rfl:m=n:=by omega
 unfold bR at hz
 rw [cK Rou.cells_length (by omega)] at hz
 have hn:m<=1099511627776:=by omega
 have HZ:Hid (ae (xs.flatMap Rou.cells)<=1099511627776):=by show _<=_;omega
 have HA:=Hd hA
 have HB:=Hd hB
 have HX:=Hd hx
 clear hx hy hA hB hz
 go_enter Tryz.func54,Tryz.ntmps54
 go_wp2_with fail
 go_loopw [5] (fun i wr=>∃k:Nat,k<=m/\i = .int .i64 k/\Below w.heap.size w wr) (fun i _=>m - (intOf i).toNat)
 case atStart=>exact ⟨0,Nat.zero_le _,rfl,Below.refl _ _⟩
 case round =>
  obtain ⟨k,hk,rfl,hbe⟩:=hrel
  have HBE:=Hd hbe
  clear hbe
  by_cases hlt:k<m
  ·have hdk:decide ((k:Int)<(m:Int))=true:=by simp;omega
   obtain ⟨b,o,S0,l0,p0,S1,l1,p1,rfl,hb,c0,c1,r0,r1⟩:=(HA.out.below HBE.out).rou (k:=k) (by rw [HX.out];exact hlt)
   obtain ⟨b',o',S0',l0',p0',S1',l1',p1',rfl,hb',d0,d1,r0',r1'⟩:=(HB.out.below HBE.out).rou (k:=k) (by rw [HX.out];exact hlt)
   have HZE:Hid (ae (xs[k]?.getD Rou.zero).cells<=1099511627776):=Nat.le_trans (gU (cells:=Rou.cells) (by rw [HX.out];exact hlt)) HZ.out
   generalize xs[k]?.getD Rou.zero=x at *
   have J0:=Hd r0
   have J0':=Hd r0'
   have J1:=Hd r1
   have J1':=Hd r1'
   clear r0 r0' r1 r1'
   have i0:(0:Int)<=(k:Int):=by omega
   have i1:(k:Int)<(m:Int):=by omega
   go_wp2_with fail
   have HEQ:=Hd (fun (v:Sub wr)=>qw S0 S0' S1 S1' l0 p0 l0' p0' l1 p1 l1' p1' x v.v (J0.out.below v.h) (J0'.out.below v.h) (J1.out.below v.h) (J1'.out.below v.h) HZE.out)
   have hsub:=aZ wr
   have hsc:=aR wr
   refine aI wr (by kernel_rfl) (by kernel_rfl) (Below.refl _ _) ?_
   repeat (go_big_quiet_step ((first
    | (go_at_call 136;with_reducible exact aO (HEQ.out _)))))
   refine wpQuiet_nil ?_
   rintro _ ⟨⟨w5,hD⟩,rfl⟩
   clear hsub hsc HEQ
   have HD:=Hd (aB HBE.out hD)
   clear hD
   go_wp2_with fail
   go_roundw
   case rel=>exact ⟨k+1,by omega,by go_num,HD.out⟩
   case measure=>simp [intOf];omega
  ·have hkn:k=m:=by omega
   subst hkn
   have hdk:decide ((k:Int)<(k:Int))=false:=by simp
   go_wp2_with fail
   go_ret
   exact ⟨rfl,HBE.out⟩
theorem qP (A0 B0 A1 B1 A2 B2 A3 B3 A4 B4 A5 B5 A6 B6:Option Addr) (n0 c0 m0 d0 n1 c1 m1 d1 n2 c2 m2 d2 n3 c3 m3 d3 n4 c4 m4 d4 n5 c5 m5 d5 n6 c6 m6 d6:Nat) (x:Lay) (w:World) (h0:RdC w w.heap.size (dE x.net.seqs) (.slice A0 n0 c0)) (k0:RdC w w.heap.size (dE x.net.seqs) (.slice B0 m0 d0)) (h1:RdC w w.heap.size (dR x.net.luts) (.slice A1 n1 c1)) (k1:RdC w w.heap.size (dR x.net.luts) (.slice B1 m1 d1)) (h2:RdC w w.heap.size (aJ x.net.outs) (.slice A2 n2 c2)) (k2:RdC w w.heap.size (aJ x.net.outs) (.slice B2 m2 d2)) (h3:RdC w w.heap.size (bE x.blocks) (.slice A3 n3 c3)) (k3:RdC w w.heap.size (bE x.blocks) (.slice B3 m3 d3)) (h4:RdC w w.heap.size (bD x.conns) (.slice A4 n4 c4)) (k4:RdC w w.heap.size (bD x.conns) (.slice B4 m4 d4)) (h5:RdC w w.heap.size (aJ x.place) (.slice A5 n5 c5)) (k5:RdC w w.heap.size (aJ x.place) (.slice B5 m5 d5)) (h6:RdC w w.heap.size (bR x.routes) (.slice A6 n6 c6)) (k6:RdC w w.heap.size (bR x.routes) (.slice B6 m6 d6)) (hz:ae x.cells<=1099511627776) :
  Calls Tryz.prog 12 #[.agg #[.int .i64 x.net.inputs,.slice A0 n0 c0,.slice A1 n1 c1,.slice A2 n2 c2,.slice A3 n3 c3,.slice A4 n4 c4,.slice A5 n5 c5,.slice A6 n6 c6],.agg #[.int .i64 x.net.inputs,.slice B0 m0 d0,.slice B1 m1 d1,.slice B2 m2 d2,.slice B3 m3 d3,.slice B4 m4 d4,.slice B5 m5 d5,.slice B6 m6 d6]] w fun e w'=>e = .returned (.bool true)/\Below w.heap.size w w':=by
 have HB0:=Hd (aF (aF (Below.refl w.heap.size w) (.cells #[.int .i64 x.net.inputs,.slice A0 n0 c0,.slice A1 n1 c1,.slice A2 n2 c2,.slice A3 n3 c3,.slice A4 n4 c4,.slice A5 n5 c5,.slice A6 n6 c6] 46)) (.cells #[.int .i64 x.net.inputs,.slice B0 m0 d0,.slice B1 m1 d1,.slice B2 m2 d2,.slice B3 m3 d3,.slice B4 m4 d4,.slice B5 m5 d5,.slice B6 m6 d6] 46))
 have hy:=aK (w.alloc (.cells #[.int .i64 x.net.inputs,.slice A0 n0 c0,.slice A1 n1 c1,.slice A2 n2 c2,.slice A3 n3 c3,.slice A4 n4 c4,.slice A5 n5 c5,.slice A6 n6 c6] 46)) (.cells #[.int .i64 x.net.inputs,.slice B0 m0 d0,.slice B1 m1 d1,.slice B2 m2 d2,.slice B3 m3 d3,.slice B4 m4 d4,.slice B5 m5 d5,.slice B6 m6 d6] 46)
 have hx:=bg (.cells #[.int .i64 x.net.inputs,.slice B0 m0 d0,.slice B1 m1 d1,.slice B2 m2 d2,.slice B3 m3 d3,.slice B4 m4 d4,.slice B5 m5 d5,.slice B6 m6 d6] 46) (aK w (.cells #[.int .i64 x.net.inputs,.slice A0 n0 c0,.slice A1 n1 c1,.slice A2 n2 c2,.slice A3 n3 c3,.slice A4 n4 c4,.slice A5 n5 c5,.slice A6 n6 c6] 46))
 simp only [World.size_alloc] at hy
 have HXB:=Hd hx
 have HYB:=Hd hy
 clear hx hy
 have R0:=Hd h0
 have K0:=Hd k0
 have R1:=Hd h1
 have K1:=Hd k1
 have R2:=Hd h2
 have K2:=Hd k2
 have R3:=Hd h3
 have K3:=Hd k3
 have R4:=Hd h4
 have K4:=Hd k4
 have R5:=Hd h5
 have K5:=Hd k5
 have R6:=Hd h6
 have K6:=Hd k6
 have q0:(x.net.inputs != x.net.inputs)=false:=by simp
 have hz2:=hz
 unfold Lay.cells at hz2
 simp only [fo,az,bK] at hz2
 have Z0:Hid (ae x.net.cells<=1099511627776):=by show _<=_;omega
 have Z1:Hid (szC (bE x.blocks)<=1099511627776):=by show _<=_;omega
 have Z2:Hid (szC (bD x.conns)<=1099511627776):=by show _<=_;omega
 have Z3:Hid (szC (aJ x.place)<=1099511627776):=by show _<=_;omega
 have Z4:Hid (szC (bR x.routes)<=1099511627776):=by show _<=_;omega
 clear hz hz2 h0 k0 h1 k1 h2 k2 h3 k3 h4 k4 h5 k5 h6 k6
 go_enter Tryz.func12,Tryz.ntmps12
 go_wp2_with fail
 refine (qM A0 B0 A1 B1 A2 B2 n0 c0 m0 d0 n1 c1 m1 d1 n2 c2 m2 d2 x.net _ (R0.out.below HB0.out) (K0.out.below HB0.out) (R1.out.below HB0.out) (K1.out.below HB0.out) (R2.out.below HB0.out) (K2.out.below HB0.out) Z0.out).mono ?_
 rintro _ w1 ⟨rfl,b1⟩
 have HB1:=Hd (aB HB0.out b1)
 have C1:=Hd b1
 clear b1
 have hx:=aD C1.out HXB.out
 have hy:=aD C1.out HYB.out
 have x4:=aA (k:=4) hx rfl
 have y4:=aA (k:=4) hy rfl
 have x5:=aA (k:=5) hx rfl
 have y5:=aA (k:=5) hy rfl
 have x6:=aA (k:=6) hx rfl
 have y6:=aA (k:=6) hy rfl
 have x7:=aA (k:=7) hx rfl
 have y7:=aA (k:=7) hy rfl
 have lx:=aC hx
 have ly:=aC hy
 clear hx hy
 go_wp2_with fail
 refine (qN A3 B3 n3 c3 m3 d3 x.blocks _ (R3.out.below HB1.out) (K3.out.below HB1.out) Z1.out).mono ?_
 rintro _ w2 ⟨rfl,b2⟩
 have HB2:=Hd (aB HB1.out b2)
 have C2:=Hd (aB C1.out b2)
 clear b2 x4 y4 x5 y5 x6 y6 x7 y7 lx ly
 have hx:=aD C2.out HXB.out
 have hy:=aD C2.out HYB.out
 have x5:=aA (k:=5) hx rfl
 have y5:=aA (k:=5) hy rfl
 have x6:=aA (k:=6) hx rfl
 have y6:=aA (k:=6) hy rfl
 have x7:=aA (k:=7) hx rfl
 have y7:=aA (k:=7) hy rfl
 have lx:=aC hx
 have ly:=aC hy
 clear hx hy
 go_wp2_with fail
 refine (qp A4 B4 n4 c4 m4 d4 x.conns _ (R4.out.below HB2.out) (K4.out.below HB2.out) Z2.out).mono ?_
 rintro _ w3 ⟨rfl,b3⟩
 have HB3:=Hd (aB HB2.out b3)
 have C3:=Hd (aB C2.out b3)
 clear b3 x5 y5 x6 y6 x7 y7 lx ly
 have hx:=aD C3.out HXB.out
 have hy:=aD C3.out HYB.out
 have x6:=aA (k:=6) hx rfl
 have y6:=aA (k:=6) hy rfl
 have x7:=aA (k:=7) hx rfl
 have y7:=aA (k:=7) hy rfl
 have lx:=aC hx
 have ly:=aC hy
 clear hx hy
 go_wp2_with fail
 refine (l6 A5 B5 n5 c5 m5 d5 x.place _ (R5.out.below HB3.out) (K5.out.below HB3.out) Z3.out).mono ?_
 rintro _ w4 ⟨rfl,b4⟩
 have HB4:=Hd (aB HB3.out b4)
 have C4:=Hd (aB C3.out b4)
 clear b4 x6 y6 x7 y7 lx ly
 have hx:=aD C4.out HXB.out
 have hy:=aD C4.out HYB.out
 have x7:=aA (k:=7) hx rfl
 have y7:=aA (k:=7) hy rfl
 have lx:=aC hx
 have ly:=aC hy
 clear hx hy
 go_wp2_with fail
 refine (qO A6 B6 n6 c6 m6 d6 x.routes _ (R6.out.below HB4.out) (K6.out.below HB4.out) Z4.out).mono ?_
 rintro _ w5 ⟨rfl,b5⟩
 have HB5:=Hd (aB HB4.out b5)
 have C5:=Hd (aB C4.out b5)
 clear b5 x7 y7 lx ly
 go_wp2_with fail
 go_ret
 exact ⟨rfl,HB5.out⟩
end Go.Proofs.YtofihjoanjkdmaaGreat
