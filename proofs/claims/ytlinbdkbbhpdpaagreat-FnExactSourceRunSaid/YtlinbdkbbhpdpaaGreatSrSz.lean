/- The laws' counts of nested data (printed by mksz.py). -/
import Derived.Test.YtlinbdkbbhpdpaaGreatRow2W
import Derived.Test.YtlinbdkbbhpdpaaGreatSep
import Derived.Test.YtlinbdkbbhpdpaaGreatSrArg
namespace Go.Proofs.YtlinbdkbbhpdpaaGreat
set_option maxRecDepth 100000
open Go.RowKit

theorem szInts_c (A:Option Addr) (n c:Nat) (xs:List Int) (L:Int) (w:World) (h:RdC w w.heap.size (celI xs) (.slice A n c)) (hL:0≤L) (hL':L≤1099511627776) (hb:BdC (celI xs)) :
  Calls Tryz.prog 220 #[.slice A n c,.int .i64 L] w fun e w'=>e = .returned (.int .i64 (leftOf L (szC (celI xs))))∧Below w.heap.size w w':=by
 have hn:=h.ints.1
 have hb2:=hb
 unfold celI at hb2
 rw [bdC_row,List.length_map,Nat.div_one,hn] at hb2
 rw [szC_ints,hn]
 refine (szIntS_any A n c L w hL hL' (by have:=hb2.1;unfold maxLen at this;omega)).mono ?_
 rintro e w' ⟨he,rfl⟩
 exact ⟨he,Below.refl _ _⟩
set_option maxHeartbeats 1000000 in
theorem szSignalS_any (A:Option Addr) (n c:Nat) (xs:List SgT) (L:Int) (w:World) (h:RdC w w.heap.size (celSg xs) (.slice A n c)) (hL:0≤L) (hL':L≤1099511627776) (hb:BdC (celSg xs)) :
  Calls Tryz.prog 147 #[.slice A n c,.int .i64 L] w fun e w'=>e = .returned (.int .i64 (leftOf L (szC (celSg xs))))∧Below w.heap.size w w':=by
 have hn:xs.length=n:=h.sgN
 have hs:szC (celSg xs)=n:=by
  unfold celSg
  rw [szC_flat SgT.cells_length (by omega),hn]
  have:szCL (xs.flatMap SgT.cells)=0:=by
   clear h hb hn
   induction xs with
   | nil=>rw [List.flatMap_nil,szCL_nil]
   | cons x xs ih=>rw [List.flatMap_cons,szCL_append,ih];unfold SgT.cells;simp only [szCL_cons,szCL_nil,szC_int]
  omega
 have hn63:n≤9223372036854775807:=by
  unfold celSg at hb
  rw [bdC_flat SgT.cells_length (by omega),hn] at hb
  have:=hb.1
  unfold maxLen at this
  omega
 rw [hs]
 clear hs h hb hn
 by_cases h:(n:Int)≤L
 ·have hd:decide (L - (n:Int)<0)=false:=by simp;omega
  have hl:=Lib.hid (leftOf_pos h)
  go_enter Tryz.func147,Tryz.ntmps147
  go_wp2_with fail
  go_ret
  exact ⟨ret_int hl.out.symm,Below.refl _ _⟩
 ·have hd:decide (L - (n:Int)<0)=true:=by simp;omega
  have hl:=Lib.hid (leftOf_neg h)
  go_enter Tryz.func147,Tryz.ntmps147
  go_wp2_with fail
  go_ret
  exact ⟨ret_int hl.out.symm,Below.refl _ _⟩
set_option maxHeartbeats 1000000 in
theorem szOpS_any (A:Option Addr) (n c:Nat) (xs:List OpT) (L:Int) (w:World) (h:RdC w w.heap.size (celOp xs) (.slice A n c)) (hL:0≤L) (hL':L≤1099511627776) (hb:BdC (celOp xs)) :
  Calls Tryz.prog 219 #[.slice A n c,.int .i64 L] w fun e w'=>e = .returned (.int .i64 (leftOf L (szC (celOp xs))))∧Below w.heap.size w w':=by
 have hn:xs.length=n:=h.opN
 have hs:szC (celOp xs)=n:=by
  unfold celOp
  rw [szC_flat OpT.cells_length (by omega),hn]
  have:szCL (xs.flatMap OpT.cells)=0:=by
   clear h hb hn
   induction xs with
   | nil=>rw [List.flatMap_nil,szCL_nil]
   | cons x xs ih=>rw [List.flatMap_cons,szCL_append,ih];unfold OpT.cells;simp only [szCL_cons,szCL_nil,szC_int]
  omega
 have hn63:n≤9223372036854775807:=by
  unfold celOp at hb
  rw [bdC_flat OpT.cells_length (by omega),hn] at hb
  have:=hb.1
  unfold maxLen at this
  omega
 rw [hs]
 clear hs h hb hn
 by_cases h:(n:Int)≤L
 ·have hd:decide (L - (n:Int)<0)=false:=by simp;omega
  have hl:=Lib.hid (leftOf_pos h)
  go_enter Tryz.func219,Tryz.ntmps219
  go_wp2_with fail
  go_ret
  exact ⟨ret_int hl.out.symm,Below.refl _ _⟩
 ·have hd:decide (L - (n:Int)<0)=true:=by simp;omega
  have hl:=Lib.hid (leftOf_neg h)
  go_enter Tryz.func219,Tryz.ntmps219
  go_wp2_with fail
  go_ret
  exact ⟨ret_int hl.out.symm,Below.refl _ _⟩
set_option maxHeartbeats 2000000 in
theorem szAssign_any (A0:Option Addr) (n0 c0:Nat) (x:AsT) (L:Int) (w:World) (h0:RdC w w.heap.size (celOp x.ops) (.slice A0 n0 c0)) (hL:0≤L) (hL':L≤1099511627776) (hb:BdL x.cells) :
  Calls Tryz.prog 189 #[.agg #[.int .i64 x.target,.slice A0 n0 c0],.int .i64 L] w fun e w'=>e = .returned (.int .i64 (leftOf L (szCL x.cells)))∧Below w.heap.size w w':=by
 have B0:=Lib.hid (below_new (Below.refl w.heap.size w) (.cells #[.int .i64 x.target,.slice A0 n0 c0] 231))
 have HX:=Lib.hid (heap_new w (.cells #[.int .i64 x.target,.slice A0 n0 c0] 231))
 have R0:=Lib.hid h0
 have HS:Hid (szCL x.cells=szC (celOp x.ops)):=by show _=_;unfold AsT.cells;simp only [szCL_cons,szCL_nil,szC_int] <;> omega
 have hb2:=hb
 unfold AsT.cells at hb2
 simp only [bdL_cons] at hb2
 obtain ⟨d0,d1,_⟩:=hb2
 have D0:=Lib.hid d1
 clear hb h0 d0 d1
 go_enter Tryz.func189,Tryz.ntmps189
 go_wp2_with fail
 refine (szOpS_any A0 n0 c0 x.ops _ _ (R0.out.below B0.out) (by omega) (by omega) D0.out).mono ?_
 rintro _ w1 ⟨rfl,b1⟩
 have B1:=Lib.hid (below_tr B0.out b1)
 have C1:=Lib.hid b1
 clear b1
 by_cases g0:((szC (celOp x.ops):Nat):Int)≤L
 ·rw [leftOf_pos g0]
  have e0:decide (L - ((szC (celOp x.ops):Nat):Int)<0)=false:=by simp;omega
  go_wp2_with fail
  go_ret
  exact ⟨ret_int (by rw [HS.out,leftOf_pos (by omega)] <;> omega),B1.out⟩
 ·rw [leftOf_neg g0]
  go_wp2_with fail
  go_ret
  exact ⟨ret_int (by rw [HS.out,leftOf_neg (by omega)]),B1.out⟩
set_option maxHeartbeats 2000000 in
theorem szAssignS_any (A:Option Addr) (n c:Nat) (xs:List AsT) (L:Int) (w:World) (h:RdC w w.heap.size (celAs xs) (.slice A n c)) (hL:0≤L) (hL':L≤1099511627776) (hb:BdC (celAs xs)) :
  Calls Tryz.prog 148 #[.slice A n c,.int .i64 L] w fun e w'=>e = .returned (.int .i64 (leftOf L (szC (celAs xs))))∧Below w.heap.size w w':=by
 have HX:Hid (xs.length=n):=h.asN
 have HT:Hid (szC (celAs xs)=n+szCL (xs.flatMap AsT.cells)):=by show _=_;unfold celAs;rw [szC_flat AsT.cells_length (by omega),HX.out]
 have HD:Hid (∀x∈xs,BdL x.cells):=by
  show ∀x∈xs,BdL x.cells
  unfold celAs at hb
  exact bdL_flat.1 (bdC_row.1 hb).2
 have HR:=Lib.hid h
 have hn63:n≤9223372036854775807:=by
  unfold celAs at hb
  rw [bdC_flat AsT.cells_length (by omega),HX.out] at hb
  have:=hb.1
  unfold maxLen at this
  omega
 clear h hb
 by_cases h0:(n:Int)≤L
 ·have hd:decide (L - (n:Int)<0)=false:=by simp;omega
  go_enter Tryz.func148,Tryz.ntmps148
  go_wp2_with fail
  go_loopw [1,5] (fun v i wr=>∃k:Nat,k≤n∧i = .int .i64 k∧v = .int .i64 (L - n - (szCL ((xs.take k).flatMap AsT.cells):Nat))∧((szCL ((xs.take k).flatMap AsT.cells):Nat):Int)≤L - n∧Below w.heap.size w wr) (fun _ i _=>n - (intOf i).toNat)
  case atStart=>exact ⟨0,Nat.zero_le _,rfl,by simp [szCL_nil],by simp [szCL_nil];omega,Below.refl _ _⟩
  case round =>
   obtain ⟨k,hk,rfl,rfl,hle,hbe⟩:=hrel
   have HBE:=Lib.hid hbe
   clear hbe
   by_cases hlt:k<n
   ·have hdk:decide ((k:Int)<(n:Int))=true:=by simp;omega
    have hkx:k<xs.length:=by rw [HX.out];exact hlt
    obtain ⟨b,o,S0,m0,p0,rfl,hb,c0,c1,r0⟩:=HR.out.asE (k:=k) hkx
    have hbr:b<wr.heap.size:=by have:=HBE.out.size;omega
    have i0:(0:Int)≤(k:Int):=by omega
    have i1:(k:Int)<(n:Int):=by omega
    rw [←HBE.out.cell (p:=⟨b,o+k * 2,none⟩) hb] at c0
    rw [←HBE.out.cell (p:=⟨b,o+k * 2+1,none⟩) hb] at c1
    have Q0:=Lib.hid (r0.below HBE.out)
    have HBD:Hid (BdL (xs[k]?.getD AsT.zero).cells):=by show BdL _;rw [List.getElem?_eq_getElem hkx];exact HD.out _ (List.getElem_mem hkx)
    have HS:Hid (szCL ((xs.take (k+1)).flatMap AsT.cells)=szCL ((xs.take k).flatMap AsT.cells)+szCL (xs[k]?.getD AsT.zero).cells):=szCL_take hkx
    have HF:Hid (szCL ((xs.take (k+1)).flatMap AsT.cells)≤szCL (xs.flatMap AsT.cells)):=szCL_take_le xs (k+1)
    clear r0 hkx
    generalize szCL ((xs.take k).flatMap AsT.cells)=s at *
    generalize xs[k]?.getD AsT.zero=x at *
    go_wp2_with fail
    refine (szAssign_any S0 m0 p0 x _ _ Q0.out (by omega) (by omega) HBD.out).mono ?_
    rintro e w' ⟨rfl,b'⟩
    have HB2:=Lib.hid (below_tr HBE.out b')
    clear b' c0 c1
    by_cases h1:((szCL x.cells:Nat):Int)≤L - n - s
    ·rw [leftOf_pos h1]
     have hd2:decide (L - (n:Int) - s - ((szCL x.cells:Nat):Int)<0)=false:=by simp;omega
     go_wp2_with fail
     go_roundw
     case rel=>exact ⟨k+1,by omega,by go_num,by rw [HS.out];congr 1;omega,by rw [HS.out];omega,HB2.out⟩
     case measure=>simp [intOf];omega
    ·rw [leftOf_neg h1]
     go_wp2_with fail
     go_ret
     exact ⟨ret_int (by rw [leftOf_neg];have h2:=HF.out;rw [HS.out] at h2;rw [HT.out];omega),HB2.out⟩
   ·have hkn:k=n:=by omega
    subst hkn
    have hdk:decide ((k:Int)<(k:Int))=false:=by simp
    have HTK:Hid (xs.take k=xs):=List.take_of_length_le (by rw [HX.out];exact Nat.le_refl _)
    go_wp2_with fail
    go_ret
    rw [HTK.out] at hle ⊢
    exact ⟨ret_int (by rw [HT.out,leftOf_pos (by omega)];omega),HBE.out⟩
 ·have hd:decide (L - (n:Int)<0)=true:=by simp;omega
  go_enter Tryz.func148,Tryz.ntmps148
  go_wp2_with fail
  go_ret
  exact ⟨ret_int (by rw [leftOf_neg];rw [HT.out];omega),Below.refl _ _⟩
set_option maxHeartbeats 2000000 in
theorem szInst_any (A0:Option Addr) (n0 c0:Nat) (x:InT) (L:Int) (w:World) (h0:RdC w w.heap.size (celI x.ports) (.slice A0 n0 c0)) (hL:0≤L) (hL':L≤1099511627776) (hb:BdL x.cells) :
  Calls Tryz.prog 190 #[.agg #[.int .i64 x.module,.int .i64 x.param,.slice A0 n0 c0],.int .i64 L] w fun e w'=>e = .returned (.int .i64 (leftOf L (szCL x.cells)))∧Below w.heap.size w w':=by
 have B0:=Lib.hid (below_new (Below.refl w.heap.size w) (.cells #[.int .i64 x.module,.int .i64 x.param,.slice A0 n0 c0] 233))
 have HX:=Lib.hid (heap_new w (.cells #[.int .i64 x.module,.int .i64 x.param,.slice A0 n0 c0] 233))
 have R0:=Lib.hid h0
 have HS:Hid (szCL x.cells=szC (celI x.ports)):=by show _=_;unfold InT.cells;simp only [szCL_cons,szCL_nil,szC_int] <;> omega
 have hb2:=hb
 unfold InT.cells at hb2
 simp only [bdL_cons] at hb2
 obtain ⟨d0,d1,d2,_⟩:=hb2
 have D0:=Lib.hid d2
 clear hb h0 d0 d1 d2
 go_enter Tryz.func190,Tryz.ntmps190
 go_wp2_with fail
 refine (szInts_c A0 n0 c0 x.ports _ _ (R0.out.below B0.out) (by omega) (by omega) D0.out).mono ?_
 rintro _ w1 ⟨rfl,b1⟩
 have B1:=Lib.hid (below_tr B0.out b1)
 have C1:=Lib.hid b1
 clear b1
 by_cases g0:((szC (celI x.ports):Nat):Int)≤L
 ·rw [leftOf_pos g0]
  have e0:decide (L - ((szC (celI x.ports):Nat):Int)<0)=false:=by simp;omega
  go_wp2_with fail
  go_ret
  exact ⟨ret_int (by rw [HS.out,leftOf_pos (by omega)] <;> omega),B1.out⟩
 ·rw [leftOf_neg g0]
  go_wp2_with fail
  go_ret
  exact ⟨ret_int (by rw [HS.out,leftOf_neg (by omega)]),B1.out⟩
set_option maxHeartbeats 2000000 in
theorem szInstS_any (A:Option Addr) (n c:Nat) (xs:List InT) (L:Int) (w:World) (h:RdC w w.heap.size (celIn xs) (.slice A n c)) (hL:0≤L) (hL':L≤1099511627776) (hb:BdC (celIn xs)) :
  Calls Tryz.prog 149 #[.slice A n c,.int .i64 L] w fun e w'=>e = .returned (.int .i64 (leftOf L (szC (celIn xs))))∧Below w.heap.size w w':=by
 have HX:Hid (xs.length=n):=h.inN
 have HT:Hid (szC (celIn xs)=n+szCL (xs.flatMap InT.cells)):=by show _=_;unfold celIn;rw [szC_flat InT.cells_length (by omega),HX.out]
 have HD:Hid (∀x∈xs,BdL x.cells):=by
  show ∀x∈xs,BdL x.cells
  unfold celIn at hb
  exact bdL_flat.1 (bdC_row.1 hb).2
 have HR:=Lib.hid h
 have hn63:n≤9223372036854775807:=by
  unfold celIn at hb
  rw [bdC_flat InT.cells_length (by omega),HX.out] at hb
  have:=hb.1
  unfold maxLen at this
  omega
 clear h hb
 by_cases h0:(n:Int)≤L
 ·have hd:decide (L - (n:Int)<0)=false:=by simp;omega
  go_enter Tryz.func149,Tryz.ntmps149
  go_wp2_with fail
  go_loopw [1,5] (fun v i wr=>∃k:Nat,k≤n∧i = .int .i64 k∧v = .int .i64 (L - n - (szCL ((xs.take k).flatMap InT.cells):Nat))∧((szCL ((xs.take k).flatMap InT.cells):Nat):Int)≤L - n∧Below w.heap.size w wr) (fun _ i _=>n - (intOf i).toNat)
  case atStart=>exact ⟨0,Nat.zero_le _,rfl,by simp [szCL_nil],by simp [szCL_nil];omega,Below.refl _ _⟩
  case round =>
   obtain ⟨k,hk,rfl,rfl,hle,hbe⟩:=hrel
   have HBE:=Lib.hid hbe
   clear hbe
   by_cases hlt:k<n
   ·have hdk:decide ((k:Int)<(n:Int))=true:=by simp;omega
    have hkx:k<xs.length:=by rw [HX.out];exact hlt
    obtain ⟨b,o,S0,m0,p0,rfl,hb,c0,c1,c2,r0⟩:=HR.out.inE (k:=k) hkx
    have hbr:b<wr.heap.size:=by have:=HBE.out.size;omega
    have i0:(0:Int)≤(k:Int):=by omega
    have i1:(k:Int)<(n:Int):=by omega
    rw [←HBE.out.cell (p:=⟨b,o+k * 3,none⟩) hb] at c0
    rw [←HBE.out.cell (p:=⟨b,o+k * 3+1,none⟩) hb] at c1
    rw [←HBE.out.cell (p:=⟨b,o+k * 3+2,none⟩) hb] at c2
    have Q0:=Lib.hid (r0.below HBE.out)
    have HBD:Hid (BdL (xs[k]?.getD InT.zero).cells):=by show BdL _;rw [List.getElem?_eq_getElem hkx];exact HD.out _ (List.getElem_mem hkx)
    have HS:Hid (szCL ((xs.take (k+1)).flatMap InT.cells)=szCL ((xs.take k).flatMap InT.cells)+szCL (xs[k]?.getD InT.zero).cells):=szCL_take hkx
    have HF:Hid (szCL ((xs.take (k+1)).flatMap InT.cells)≤szCL (xs.flatMap InT.cells)):=szCL_take_le xs (k+1)
    clear r0 hkx
    generalize szCL ((xs.take k).flatMap InT.cells)=s at *
    generalize xs[k]?.getD InT.zero=x at *
    go_wp2_with fail
    refine (szInst_any S0 m0 p0 x _ _ Q0.out (by omega) (by omega) HBD.out).mono ?_
    rintro e w' ⟨rfl,b'⟩
    have HB2:=Lib.hid (below_tr HBE.out b')
    clear b' c0 c1 c2
    by_cases h1:((szCL x.cells:Nat):Int)≤L - n - s
    ·rw [leftOf_pos h1]
     have hd2:decide (L - (n:Int) - s - ((szCL x.cells:Nat):Int)<0)=false:=by simp;omega
     go_wp2_with fail
     go_roundw
     case rel=>exact ⟨k+1,by omega,by go_num,by rw [HS.out];congr 1;omega,by rw [HS.out];omega,HB2.out⟩
     case measure=>simp [intOf];omega
    ·rw [leftOf_neg h1]
     go_wp2_with fail
     go_ret
     exact ⟨ret_int (by rw [leftOf_neg];have h2:=HF.out;rw [HS.out] at h2;rw [HT.out];omega),HB2.out⟩
   ·have hkn:k=n:=by omega
    subst hkn
    have hdk:decide ((k:Int)<(k:Int))=false:=by simp
    have HTK:Hid (xs.take k=xs):=List.take_of_length_le (by rw [HX.out];exact Nat.le_refl _)
    go_wp2_with fail
    go_ret
    rw [HTK.out] at hle ⊢
    exact ⟨ret_int (by rw [HT.out,leftOf_pos (by omega)];omega),HBE.out⟩
 ·have hd:decide (L - (n:Int)<0)=true:=by simp;omega
  go_enter Tryz.func149,Tryz.ntmps149
  go_wp2_with fail
  go_ret
  exact ⟨ret_int (by rw [leftOf_neg];rw [HT.out];omega),Below.refl _ _⟩
set_option maxHeartbeats 1000000 in
theorem szMemS_any (A:Option Addr) (n c:Nat) (xs:List MmT) (L:Int) (w:World) (h:RdC w w.heap.size (celMm xs) (.slice A n c)) (hL:0≤L) (hL':L≤1099511627776) (hb:BdC (celMm xs)) :
  Calls Tryz.prog 150 #[.slice A n c,.int .i64 L] w fun e w'=>e = .returned (.int .i64 (leftOf L (szC (celMm xs))))∧Below w.heap.size w w':=by
 have hn:xs.length=n:=h.mmN
 have hs:szC (celMm xs)=n:=by
  unfold celMm
  rw [szC_flat MmT.cells_length (by omega),hn]
  have:szCL (xs.flatMap MmT.cells)=0:=by
   clear h hb hn
   induction xs with
   | nil=>rw [List.flatMap_nil,szCL_nil]
   | cons x xs ih=>rw [List.flatMap_cons,szCL_append,ih];unfold MmT.cells;simp only [szCL_cons,szCL_nil,szC_int]
  omega
 have hn63:n≤9223372036854775807:=by
  unfold celMm at hb
  rw [bdC_flat MmT.cells_length (by omega),hn] at hb
  have:=hb.1
  unfold maxLen at this
  omega
 rw [hs]
 clear hs h hb hn
 by_cases h:(n:Int)≤L
 ·have hd:decide (L - (n:Int)<0)=false:=by simp;omega
  have hl:=Lib.hid (leftOf_pos h)
  go_enter Tryz.func150,Tryz.ntmps150
  go_wp2_with fail
  go_ret
  exact ⟨ret_int hl.out.symm,Below.refl _ _⟩
 ·have hd:decide (L - (n:Int)<0)=true:=by simp;omega
  have hl:=Lib.hid (leftOf_neg h)
  go_enter Tryz.func150,Tryz.ntmps150
  go_wp2_with fail
  go_ret
  exact ⟨ret_int hl.out.symm,Below.refl _ _⟩
set_option maxHeartbeats 2000000 in
theorem szModule_any (A0 A1 A2 A3:Option Addr) (n0 c0 n1 c1 n2 c2 n3 c3:Nat) (x:MdT) (L:Int) (w:World) (h0:RdC w w.heap.size (celSg x.sigs) (.slice A0 n0 c0)) (h1:RdC w w.heap.size (celAs x.asgs) (.slice A1 n1 c1)) (h2:RdC w w.heap.size (celIn x.insts) (.slice A2 n2 c2)) (h3:RdC w w.heap.size (celMm x.mems) (.slice A3 n3 c3)) (hL:0≤L) (hL':L≤1099511627776) (hb:BdL x.cells) :
  Calls Tryz.prog 96 #[.agg #[.slice A0 n0 c0,.slice A1 n1 c1,.slice A2 n2 c2,.slice A3 n3 c3],.int .i64 L] w fun e w'=>e = .returned (.int .i64 (leftOf L (szCL x.cells)))∧Below w.heap.size w w':=by
 have B0:=Lib.hid (below_new (Below.refl w.heap.size w) (.cells #[.slice A0 n0 c0,.slice A1 n1 c1,.slice A2 n2 c2,.slice A3 n3 c3] 149))
 have HX:=Lib.hid (heap_new w (.cells #[.slice A0 n0 c0,.slice A1 n1 c1,.slice A2 n2 c2,.slice A3 n3 c3] 149))
 have R0:=Lib.hid h0
 have R1:=Lib.hid h1
 have R2:=Lib.hid h2
 have R3:=Lib.hid h3
 have HS:Hid (szCL x.cells=szC (celSg x.sigs)+szC (celAs x.asgs)+szC (celIn x.insts)+szC (celMm x.mems)):=by show _=_;unfold MdT.cells;simp only [szCL_cons,szCL_nil] <;> omega
 have hb2:=hb
 unfold MdT.cells at hb2
 simp only [bdL_cons] at hb2
 obtain ⟨d0,d1,d2,d3,_⟩:=hb2
 have D0:=Lib.hid d0
 have D1:=Lib.hid d1
 have D2:=Lib.hid d2
 have D3:=Lib.hid d3
 clear hb h0 h1 h2 h3 d0 d1 d2 d3
 go_enter Tryz.func96,Tryz.ntmps96
 go_wp2_with fail
 refine (szSignalS_any A0 n0 c0 x.sigs _ _ (R0.out.below B0.out) (by omega) (by omega) D0.out).mono ?_
 rintro _ w1 ⟨rfl,b1⟩
 have B1:=Lib.hid (below_tr B0.out b1)
 have C1:=Lib.hid b1
 clear b1
 by_cases g0:((szC (celSg x.sigs):Nat):Int)≤L
 ·rw [leftOf_pos g0]
  have e0:decide (L - ((szC (celSg x.sigs):Nat):Int)<0)=false:=by simp;omega
  have hx:=heap_tr C1.out HX.out
  have x1:=cell_heap (k:=1) hx rfl
  have x2:=cell_heap (k:=2) hx rfl
  have x3:=cell_heap (k:=3) hx rfl
  have lx:=heap_lt0 hx
  clear hx
  go_wp2_with fail
  refine (szAssignS_any A1 n1 c1 x.asgs _ _ (R1.out.below B1.out) (by omega) (by omega) D1.out).mono ?_
  rintro _ w2 ⟨rfl,b2⟩
  have B2:=Lib.hid (below_tr B1.out b2)
  have C2:=Lib.hid (below_tr C1.out b2)
  clear b2 lx x1 x2 x3
  by_cases g1:((szC (celAs x.asgs):Nat):Int)≤L - ((szC (celSg x.sigs):Nat):Int)
  ·rw [leftOf_pos g1]
   have e1:decide (L - ((szC (celSg x.sigs):Nat):Int) - ((szC (celAs x.asgs):Nat):Int)<0)=false:=by simp;omega
   have hx:=heap_tr C2.out HX.out
   have x2:=cell_heap (k:=2) hx rfl
   have x3:=cell_heap (k:=3) hx rfl
   have lx:=heap_lt0 hx
   clear hx
   go_wp2_with fail
   refine (szInstS_any A2 n2 c2 x.insts _ _ (R2.out.below B2.out) (by omega) (by omega) D2.out).mono ?_
   rintro _ w3 ⟨rfl,b3⟩
   have B3:=Lib.hid (below_tr B2.out b3)
   have C3:=Lib.hid (below_tr C2.out b3)
   clear b3 lx x2 x3
   by_cases g2:((szC (celIn x.insts):Nat):Int)≤L - ((szC (celSg x.sigs):Nat):Int) - ((szC (celAs x.asgs):Nat):Int)
   ·rw [leftOf_pos g2]
    have e2:decide (L - ((szC (celSg x.sigs):Nat):Int) - ((szC (celAs x.asgs):Nat):Int) - ((szC (celIn x.insts):Nat):Int)<0)=false:=by simp;omega
    have hx:=heap_tr C3.out HX.out
    have x3:=cell_heap (k:=3) hx rfl
    have lx:=heap_lt0 hx
    clear hx
    go_wp2_with fail
    refine (szMemS_any A3 n3 c3 x.mems _ _ (R3.out.below B3.out) (by omega) (by omega) D3.out).mono ?_
    rintro _ w4 ⟨rfl,b4⟩
    have B4:=Lib.hid (below_tr B3.out b4)
    have C4:=Lib.hid (below_tr C3.out b4)
    clear b4 lx x3
    by_cases g3:((szC (celMm x.mems):Nat):Int)≤L - ((szC (celSg x.sigs):Nat):Int) - ((szC (celAs x.asgs):Nat):Int) - ((szC (celIn x.insts):Nat):Int)
    ·rw [leftOf_pos g3]
     have e3:decide (L - ((szC (celSg x.sigs):Nat):Int) - ((szC (celAs x.asgs):Nat):Int) - ((szC (celIn x.insts):Nat):Int) - ((szC (celMm x.mems):Nat):Int)<0)=false:=by simp;omega
     go_wp2_with fail
     go_ret
     exact ⟨ret_int (by rw [HS.out,leftOf_pos (by omega)] <;> omega),B4.out⟩
    ·rw [leftOf_neg g3]
     go_wp2_with fail
     go_ret
     exact ⟨ret_int (by rw [HS.out,leftOf_neg (by omega)]),B4.out⟩
   ·rw [leftOf_neg g2]
    go_wp2_with fail
    go_ret
    exact ⟨ret_int (by rw [HS.out,leftOf_neg (by omega)]),B3.out⟩
  ·rw [leftOf_neg g1]
   go_wp2_with fail
   go_ret
   exact ⟨ret_int (by rw [HS.out,leftOf_neg (by omega)]),B2.out⟩
 ·rw [leftOf_neg g0]
  go_wp2_with fail
  go_ret
  exact ⟨ret_int (by rw [HS.out,leftOf_neg (by omega)]),B1.out⟩
set_option maxHeartbeats 2000000 in
theorem szModuleS_any (A:Option Addr) (n c:Nat) (xs:List MdT) (L:Int) (w:World) (h:RdC w w.heap.size (celMd xs) (.slice A n c)) (hL:0≤L) (hL':L≤1099511627776) (hb:BdC (celMd xs)) :
  Calls Tryz.prog 52 #[.slice A n c,.int .i64 L] w fun e w'=>e = .returned (.int .i64 (leftOf L (szC (celMd xs))))∧Below w.heap.size w w':=by
 have HX:Hid (xs.length=n):=h.mdN
 have HT:Hid (szC (celMd xs)=n+szCL (xs.flatMap MdT.cells)):=by show _=_;unfold celMd;rw [szC_flat MdT.cells_length (by omega),HX.out]
 have HD:Hid (∀x∈xs,BdL x.cells):=by
  show ∀x∈xs,BdL x.cells
  unfold celMd at hb
  exact bdL_flat.1 (bdC_row.1 hb).2
 have HR:=Lib.hid h
 have hn63:n≤9223372036854775807:=by
  unfold celMd at hb
  rw [bdC_flat MdT.cells_length (by omega),HX.out] at hb
  have:=hb.1
  unfold maxLen at this
  omega
 clear h hb
 by_cases h0:(n:Int)≤L
 ·have hd:decide (L - (n:Int)<0)=false:=by simp;omega
  go_enter Tryz.func52,Tryz.ntmps52
  go_wp2_with fail
  go_loopw [1,5] (fun v i wr=>∃k:Nat,k≤n∧i = .int .i64 k∧v = .int .i64 (L - n - (szCL ((xs.take k).flatMap MdT.cells):Nat))∧((szCL ((xs.take k).flatMap MdT.cells):Nat):Int)≤L - n∧Below w.heap.size w wr) (fun _ i _=>n - (intOf i).toNat)
  case atStart=>exact ⟨0,Nat.zero_le _,rfl,by simp [szCL_nil],by simp [szCL_nil];omega,Below.refl _ _⟩
  case round =>
   obtain ⟨k,hk,rfl,rfl,hle,hbe⟩:=hrel
   have HBE:=Lib.hid hbe
   clear hbe
   by_cases hlt:k<n
   ·have hdk:decide ((k:Int)<(n:Int))=true:=by simp;omega
    have hkx:k<xs.length:=by rw [HX.out];exact hlt
    obtain ⟨b,o,S0,m0,p0,S1,m1,p1,S2,m2,p2,S3,m3,p3,rfl,hb,c0,c1,c2,c3,r0,r1,r2,r3⟩:=HR.out.mdE (k:=k) hkx
    have hbr:b<wr.heap.size:=by have:=HBE.out.size;omega
    have i0:(0:Int)≤(k:Int):=by omega
    have i1:(k:Int)<(n:Int):=by omega
    rw [←HBE.out.cell (p:=⟨b,o+k * 4,none⟩) hb] at c0
    rw [←HBE.out.cell (p:=⟨b,o+k * 4+1,none⟩) hb] at c1
    rw [←HBE.out.cell (p:=⟨b,o+k * 4+2,none⟩) hb] at c2
    rw [←HBE.out.cell (p:=⟨b,o+k * 4+3,none⟩) hb] at c3
    have Q0:=Lib.hid (r0.below HBE.out)
    have Q1:=Lib.hid (r1.below HBE.out)
    have Q2:=Lib.hid (r2.below HBE.out)
    have Q3:=Lib.hid (r3.below HBE.out)
    have HBD:Hid (BdL (xs[k]?.getD MdT.zero).cells):=by show BdL _;rw [List.getElem?_eq_getElem hkx];exact HD.out _ (List.getElem_mem hkx)
    have HS:Hid (szCL ((xs.take (k+1)).flatMap MdT.cells)=szCL ((xs.take k).flatMap MdT.cells)+szCL (xs[k]?.getD MdT.zero).cells):=szCL_take hkx
    have HF:Hid (szCL ((xs.take (k+1)).flatMap MdT.cells)≤szCL (xs.flatMap MdT.cells)):=szCL_take_le xs (k+1)
    clear r0 r1 r2 r3 hkx
    generalize szCL ((xs.take k).flatMap MdT.cells)=s at *
    generalize xs[k]?.getD MdT.zero=x at *
    go_wp2_with fail
    refine (szModule_any S0 S1 S2 S3 m0 p0 m1 p1 m2 p2 m3 p3 x _ _ Q0.out Q1.out Q2.out Q3.out (by omega) (by omega) HBD.out).mono ?_
    rintro e w' ⟨rfl,b'⟩
    have HB2:=Lib.hid (below_tr HBE.out b')
    clear b' c0 c1 c2 c3
    by_cases h1:((szCL x.cells:Nat):Int)≤L - n - s
    ·rw [leftOf_pos h1]
     have hd2:decide (L - (n:Int) - s - ((szCL x.cells:Nat):Int)<0)=false:=by simp;omega
     go_wp2_with fail
     go_roundw
     case rel=>exact ⟨k+1,by omega,by go_num,by rw [HS.out];congr 1;omega,by rw [HS.out];omega,HB2.out⟩
     case measure=>simp [intOf];omega
    ·rw [leftOf_neg h1]
     go_wp2_with fail
     go_ret
     exact ⟨ret_int (by rw [leftOf_neg];have h2:=HF.out;rw [HS.out] at h2;rw [HT.out];omega),HB2.out⟩
   ·have hkn:k=n:=by omega
    subst hkn
    have hdk:decide ((k:Int)<(k:Int))=false:=by simp
    have HTK:Hid (xs.take k=xs):=List.take_of_length_le (by rw [HX.out];exact Nat.le_refl _)
    go_wp2_with fail
    go_ret
    rw [HTK.out] at hle ⊢
    exact ⟨ret_int (by rw [HT.out,leftOf_pos (by omega)];omega),HBE.out⟩
 ·have hd:decide (L - (n:Int)<0)=true:=by simp;omega
  go_enter Tryz.func52,Tryz.ntmps52
  go_wp2_with fail
  go_ret
  exact ⟨ret_int (by rw [leftOf_neg];rw [HT.out];omega),Below.refl _ _⟩
set_option maxHeartbeats 2000000 in
theorem szDesign_any (A0:Option Addr) (n0 c0:Nat) (x:DsT) (L:Int) (w:World) (h0:RdC w w.heap.size (celMd x.mods) (.slice A0 n0 c0)) (hL:0≤L) (hL':L≤1099511627776) (hb:BdL x.cells) :
  Calls Tryz.prog 14 #[.agg #[.slice A0 n0 c0],.int .i64 L] w fun e w'=>e = .returned (.int .i64 (leftOf L (szCL x.cells)))∧Below w.heap.size w w':=by
 have B0:=Lib.hid (below_new (Below.refl w.heap.size w) (.cells #[.slice A0 n0 c0] 43))
 have HX:=Lib.hid (heap_new w (.cells #[.slice A0 n0 c0] 43))
 have R0:=Lib.hid h0
 have HS:Hid (szCL x.cells=szC (celMd x.mods)):=by show _=_;unfold DsT.cells;simp only [szCL_cons,szCL_nil] <;> omega
 have hb2:=hb
 unfold DsT.cells at hb2
 simp only [bdL_cons] at hb2
 obtain ⟨d0,_⟩:=hb2
 have D0:=Lib.hid d0
 clear hb h0 d0
 go_enter Tryz.func14,Tryz.ntmps14
 go_wp2_with fail
 refine (szModuleS_any A0 n0 c0 x.mods _ _ (R0.out.below B0.out) (by omega) (by omega) D0.out).mono ?_
 rintro _ w1 ⟨rfl,b1⟩
 have B1:=Lib.hid (below_tr B0.out b1)
 have C1:=Lib.hid b1
 clear b1
 by_cases g0:((szC (celMd x.mods):Nat):Int)≤L
 ·rw [leftOf_pos g0]
  have e0:decide (L - ((szC (celMd x.mods):Nat):Int)<0)=false:=by simp;omega
  go_wp2_with fail
  go_ret
  exact ⟨ret_int (by rw [HS.out,leftOf_pos (by omega)] <;> omega),B1.out⟩
 ·rw [leftOf_neg g0]
  go_wp2_with fail
  go_ret
  exact ⟨ret_int (by rw [HS.out,leftOf_neg (by omega)]),B1.out⟩
end Go.Proofs.YtlinbdkbbhpdpaaGreat
