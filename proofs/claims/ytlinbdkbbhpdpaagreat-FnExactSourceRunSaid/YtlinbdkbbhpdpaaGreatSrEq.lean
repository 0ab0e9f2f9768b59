/- The laws' comparisons of nested data (printed by mkeq.py). -/
import Derived.Test.YtlinbdkbbhpdpaaGreatQb
import Derived.Test.YtlinbdkbbhpdpaaGreatSep
import Derived.Test.YtlinbdkbbhpdpaaGreatSrArg
import Derived.Test.YtlinbdkbbhpdpaaGreatTileHar
namespace Go.Proofs.YtlinbdkbbhpdpaaGreat
set_option maxRecDepth 100000
open Go.RowKit

theorem eqInts_c (A B:Option Addr) (n c m d:Nat) (xs:List Int) (w:World) (hA:RdC w w.heap.size (celI xs) (.slice A n c)) (hB:RdC w w.heap.size (celI xs) (.slice B m d)) (hz:szC (celI xs)≤1099511627776) :
  Calls Tryz.prog 19 #[.slice A n c,.slice B m d] w fun e w'=>e = .returned (.bool true)∧Below w.heap.size w w' :=
 eqIntS_same A B n m c d xs w hA.ints hB.ints (by rw [szC_ints] at hz;have:=hA.ints.1;omega)
set_option maxHeartbeats 2000000 in
theorem eqSignal_alike (x:SgT) (w:World)  :
  Calls Tryz.prog 214 #[.agg #[.int .i64 x.kind,.int .i64 x.width,.int .i64 x.init],.agg #[.int .i64 x.kind,.int .i64 x.width,.int .i64 x.init]] w fun e w'=>e = .returned (.bool true)∧Below w.heap.size w w':=by
 have HB0:=Lib.hid (below_new (below_new (Below.refl w.heap.size w) (.cells #[.int .i64 x.kind,.int .i64 x.width,.int .i64 x.init] 155)) (.cells #[.int .i64 x.kind,.int .i64 x.width,.int .i64 x.init] 155))
 have hy:=heap_new (w.alloc (.cells #[.int .i64 x.kind,.int .i64 x.width,.int .i64 x.init] 155)) (.cells #[.int .i64 x.kind,.int .i64 x.width,.int .i64 x.init] 155)
 have hx:=heap_al (.cells #[.int .i64 x.kind,.int .i64 x.width,.int .i64 x.init] 155) (heap_new w (.cells #[.int .i64 x.kind,.int .i64 x.width,.int .i64 x.init] 155))
 simp only [World.size_alloc] at hy
 have HXB:=Lib.hid hx
 have HYB:=Lib.hid hy
 clear hx hy
 have q0:(x.kind != x.kind)=false:=by simp
 have q1:(x.width != x.width)=false:=by simp
 have q2:(x.init != x.init)=false:=by simp
 go_enter Tryz.func214,Tryz.ntmps214
 go_wp2_with fail
 go_ret
 exact ⟨rfl,HB0.out⟩
set_option maxHeartbeats 2000000 in
theorem eqSignalS_alike (A B:Option Addr) (n c m d:Nat) (xs:List SgT) (w:World) (hA:RdC w w.heap.size (celSg xs) (.slice A n c)) (hB:RdC w w.heap.size (celSg xs) (.slice B m d)) (hz:szC (celSg xs)≤1099511627776) :
  Calls Tryz.prog 169 #[.slice A n c,.slice B m d] w fun e w'=>e = .returned (.bool true)∧Below w.heap.size w w':=by
 have hx:=hA.sgN
 have hy:=hB.sgN
 obtain rfl:m=n:=by omega
 unfold celSg at hz
 rw [szC_flat SgT.cells_length (by omega)] at hz
 have hn:m≤1099511627776:=by omega
 have HZ:Hid (szCL (xs.flatMap SgT.cells)≤1099511627776):=by show _≤_;omega
 have HA:=Lib.hid hA
 have HB:=Lib.hid hB
 have HX:=Lib.hid hx
 clear hx hy hA hB hz
 go_enter Tryz.func169,Tryz.ntmps169
 go_wp2_with fail
 go_loopw [5] (fun i wr=>∃k:Nat,k≤m∧i = .int .i64 k∧Below w.heap.size w wr) (fun i _=>m - (intOf i).toNat)
 case atStart=>exact ⟨0,Nat.zero_le _,rfl,Below.refl _ _⟩
 case round =>
  obtain ⟨k,hk,rfl,hbe⟩:=hrel
  have HBE:=Lib.hid hbe
  clear hbe
  by_cases hlt:k<m
  ·have hdk:decide ((k:Int)<(m:Int))=true:=by simp;omega
   obtain ⟨b,o,rfl,hb,c0,c1,c2⟩:=(HA.out.below HBE.out).sgE (k:=k) (by rw [HX.out];exact hlt)
   obtain ⟨b',o',rfl,hb',d0,d1,d2⟩:=(HB.out.below HBE.out).sgE (k:=k) (by rw [HX.out];exact hlt)
   skip
   generalize xs[k]?.getD SgT.zero=x at *
   skip
   have i0:(0:Int)≤(k:Int):=by omega
   have i1:(k:Int)<(m:Int):=by omega
   go_wp2_with fail
   have HEQ:=Lib.hid (fun (v:Sub wr)=>eqSignal_alike x v.v)
   have hsub:=sub_ne wr
   have hsc:=sub_cell wr
   refine wp_region_below wr (by kernel_rfl) (by kernel_rfl) (Below.refl _ _) ?_
   repeat (go_big_quiet_step ((first
    | (go_at_call 214;with_reducible exact calls_sub (HEQ.out _)))))
   refine wpQuiet_nil ?_
   rintro _ ⟨⟨w5,hD⟩,rfl⟩
   clear hsub hsc HEQ
   have HD:=Lib.hid (below_tr HBE.out hD)
   clear hD
   go_wp2_with fail
   go_roundw
   case rel=>exact ⟨k+1,by omega,by go_num,HD.out⟩
   case measure=>simp [intOf];omega
  ·have hkn:k=m:=by omega
   subst hkn
   have hdk:decide ((k:Int)<(k:Int))=false:=by simp
   go_wp2_with fail
   go_ret
   exact ⟨rfl,HBE.out⟩
set_option maxHeartbeats 2000000 in
theorem eqOp_alike (x:OpT) (w:World)  :
  Calls Tryz.prog 229 #[.agg #[.int .i64 x.kind,.int .i64 x.a,.int .i64 x.b],.agg #[.int .i64 x.kind,.int .i64 x.a,.int .i64 x.b]] w fun e w'=>e = .returned (.bool true)∧Below w.heap.size w w':=by
 have HB0:=Lib.hid (below_new (below_new (Below.refl w.heap.size w) (.cells #[.int .i64 x.kind,.int .i64 x.a,.int .i64 x.b] 198)) (.cells #[.int .i64 x.kind,.int .i64 x.a,.int .i64 x.b] 198))
 have hy:=heap_new (w.alloc (.cells #[.int .i64 x.kind,.int .i64 x.a,.int .i64 x.b] 198)) (.cells #[.int .i64 x.kind,.int .i64 x.a,.int .i64 x.b] 198)
 have hx:=heap_al (.cells #[.int .i64 x.kind,.int .i64 x.a,.int .i64 x.b] 198) (heap_new w (.cells #[.int .i64 x.kind,.int .i64 x.a,.int .i64 x.b] 198))
 simp only [World.size_alloc] at hy
 have HXB:=Lib.hid hx
 have HYB:=Lib.hid hy
 clear hx hy
 have q0:(x.kind != x.kind)=false:=by simp
 have q1:(x.a != x.a)=false:=by simp
 have q2:(x.b != x.b)=false:=by simp
 go_enter Tryz.func229,Tryz.ntmps229
 go_wp2_with fail
 go_ret
 exact ⟨rfl,HB0.out⟩
set_option maxHeartbeats 2000000 in
theorem eqOpS_alike (A B:Option Addr) (n c m d:Nat) (xs:List OpT) (w:World) (hA:RdC w w.heap.size (celOp xs) (.slice A n c)) (hB:RdC w w.heap.size (celOp xs) (.slice B m d)) (hz:szC (celOp xs)≤1099511627776) :
  Calls Tryz.prog 227 #[.slice A n c,.slice B m d] w fun e w'=>e = .returned (.bool true)∧Below w.heap.size w w':=by
 have hx:=hA.opN
 have hy:=hB.opN
 obtain rfl:m=n:=by omega
 unfold celOp at hz
 rw [szC_flat OpT.cells_length (by omega)] at hz
 have hn:m≤1099511627776:=by omega
 have HZ:Hid (szCL (xs.flatMap OpT.cells)≤1099511627776):=by show _≤_;omega
 have HA:=Lib.hid hA
 have HB:=Lib.hid hB
 have HX:=Lib.hid hx
 clear hx hy hA hB hz
 go_enter Tryz.func227,Tryz.ntmps227
 go_wp2_with fail
 go_loopw [5] (fun i wr=>∃k:Nat,k≤m∧i = .int .i64 k∧Below w.heap.size w wr) (fun i _=>m - (intOf i).toNat)
 case atStart=>exact ⟨0,Nat.zero_le _,rfl,Below.refl _ _⟩
 case round =>
  obtain ⟨k,hk,rfl,hbe⟩:=hrel
  have HBE:=Lib.hid hbe
  clear hbe
  by_cases hlt:k<m
  ·have hdk:decide ((k:Int)<(m:Int))=true:=by simp;omega
   obtain ⟨b,o,rfl,hb,c0,c1,c2⟩:=(HA.out.below HBE.out).opE (k:=k) (by rw [HX.out];exact hlt)
   obtain ⟨b',o',rfl,hb',d0,d1,d2⟩:=(HB.out.below HBE.out).opE (k:=k) (by rw [HX.out];exact hlt)
   skip
   generalize xs[k]?.getD OpT.zero=x at *
   skip
   have i0:(0:Int)≤(k:Int):=by omega
   have i1:(k:Int)<(m:Int):=by omega
   go_wp2_with fail
   have HEQ:=Lib.hid (fun (v:Sub wr)=>eqOp_alike x v.v)
   have hsub:=sub_ne wr
   have hsc:=sub_cell wr
   refine wp_region_below wr (by kernel_rfl) (by kernel_rfl) (Below.refl _ _) ?_
   repeat (go_big_quiet_step ((first
    | (go_at_call 229;with_reducible exact calls_sub (HEQ.out _)))))
   refine wpQuiet_nil ?_
   rintro _ ⟨⟨w5,hD⟩,rfl⟩
   clear hsub hsc HEQ
   have HD:=Lib.hid (below_tr HBE.out hD)
   clear hD
   go_wp2_with fail
   go_roundw
   case rel=>exact ⟨k+1,by omega,by go_num,HD.out⟩
   case measure=>simp [intOf];omega
  ·have hkn:k=m:=by omega
   subst hkn
   have hdk:decide ((k:Int)<(k:Int))=false:=by simp
   go_wp2_with fail
   go_ret
   exact ⟨rfl,HBE.out⟩
set_option maxHeartbeats 2000000 in
theorem eqAssign_alike (A0 B0:Option Addr) (n0 c0 m0 d0:Nat) (x:AsT) (w:World) (h0:RdC w w.heap.size (celOp x.ops) (.slice A0 n0 c0)) (k0:RdC w w.heap.size (celOp x.ops) (.slice B0 m0 d0)) (hz:szCL x.cells≤1099511627776) :
  Calls Tryz.prog 215 #[.agg #[.int .i64 x.target,.slice A0 n0 c0],.agg #[.int .i64 x.target,.slice B0 m0 d0]] w fun e w'=>e = .returned (.bool true)∧Below w.heap.size w w':=by
 have HB0:=Lib.hid (below_new (below_new (Below.refl w.heap.size w) (.cells #[.int .i64 x.target,.slice A0 n0 c0] 196)) (.cells #[.int .i64 x.target,.slice B0 m0 d0] 196))
 have hy:=heap_new (w.alloc (.cells #[.int .i64 x.target,.slice A0 n0 c0] 196)) (.cells #[.int .i64 x.target,.slice B0 m0 d0] 196)
 have hx:=heap_al (.cells #[.int .i64 x.target,.slice B0 m0 d0] 196) (heap_new w (.cells #[.int .i64 x.target,.slice A0 n0 c0] 196))
 simp only [World.size_alloc] at hy
 have HXB:=Lib.hid hx
 have HYB:=Lib.hid hy
 clear hx hy
 have R0:=Lib.hid h0
 have K0:=Lib.hid k0
 have q0:(x.target != x.target)=false:=by simp
 have hz2:=hz
 unfold AsT.cells at hz2
 simp only [szCL_cons,szCL_nil,szC_int] at hz2
 have Z0:Hid (szC (celOp x.ops)≤1099511627776):=by show _≤_;omega
 clear hz hz2 h0 k0
 go_enter Tryz.func215,Tryz.ntmps215
 go_wp2_with fail
 refine (eqOpS_alike A0 B0 n0 c0 m0 d0 x.ops _ (R0.out.below HB0.out) (K0.out.below HB0.out) Z0.out).mono ?_
 rintro _ w1 ⟨rfl,b1⟩
 have HB1:=Lib.hid (below_tr HB0.out b1)
 have C1:=Lib.hid b1
 clear b1
 go_wp2_with fail
 go_ret
 exact ⟨rfl,HB1.out⟩
set_option maxHeartbeats 2000000 in
theorem eqAssignS_alike (A B:Option Addr) (n c m d:Nat) (xs:List AsT) (w:World) (hA:RdC w w.heap.size (celAs xs) (.slice A n c)) (hB:RdC w w.heap.size (celAs xs) (.slice B m d)) (hz:szC (celAs xs)≤1099511627776) :
  Calls Tryz.prog 170 #[.slice A n c,.slice B m d] w fun e w'=>e = .returned (.bool true)∧Below w.heap.size w w':=by
 have hx:=hA.asN
 have hy:=hB.asN
 obtain rfl:m=n:=by omega
 unfold celAs at hz
 rw [szC_flat AsT.cells_length (by omega)] at hz
 have hn:m≤1099511627776:=by omega
 have HZ:Hid (szCL (xs.flatMap AsT.cells)≤1099511627776):=by show _≤_;omega
 have HA:=Lib.hid hA
 have HB:=Lib.hid hB
 have HX:=Lib.hid hx
 clear hx hy hA hB hz
 go_enter Tryz.func170,Tryz.ntmps170
 go_wp2_with fail
 go_loopw [5] (fun i wr=>∃k:Nat,k≤m∧i = .int .i64 k∧Below w.heap.size w wr) (fun i _=>m - (intOf i).toNat)
 case atStart=>exact ⟨0,Nat.zero_le _,rfl,Below.refl _ _⟩
 case round =>
  obtain ⟨k,hk,rfl,hbe⟩:=hrel
  have HBE:=Lib.hid hbe
  clear hbe
  by_cases hlt:k<m
  ·have hdk:decide ((k:Int)<(m:Int))=true:=by simp;omega
   obtain ⟨b,o,S0,l0,p0,rfl,hb,c0,c1,r0⟩:=(HA.out.below HBE.out).asE (k:=k) (by rw [HX.out];exact hlt)
   obtain ⟨b',o',S0',l0',p0',rfl,hb',d0,d1,r0'⟩:=(HB.out.below HBE.out).asE (k:=k) (by rw [HX.out];exact hlt)
   have HZE:Hid (szCL (xs[k]?.getD AsT.zero).cells≤1099511627776):=Nat.le_trans (szCL_elem (cells:=AsT.cells) (by rw [HX.out];exact hlt)) HZ.out
   generalize xs[k]?.getD AsT.zero=x at *
   have J0:=Lib.hid r0
   have J0':=Lib.hid r0'
   clear r0 r0'
   have i0:(0:Int)≤(k:Int):=by omega
   have i1:(k:Int)<(m:Int):=by omega
   go_wp2_with fail
   have HEQ:=Lib.hid (fun (v:Sub wr)=>eqAssign_alike S0 S0' l0 p0 l0' p0' x v.v (J0.out.below v.h) (J0'.out.below v.h) HZE.out)
   have hsub:=sub_ne wr
   have hsc:=sub_cell wr
   refine wp_region_below wr (by kernel_rfl) (by kernel_rfl) (Below.refl _ _) ?_
   repeat (go_big_quiet_step ((first
    | (go_at_call 215;with_reducible exact calls_sub (HEQ.out _)))))
   refine wpQuiet_nil ?_
   rintro _ ⟨⟨w5,hD⟩,rfl⟩
   clear hsub hsc HEQ
   have HD:=Lib.hid (below_tr HBE.out hD)
   clear hD
   go_wp2_with fail
   go_roundw
   case rel=>exact ⟨k+1,by omega,by go_num,HD.out⟩
   case measure=>simp [intOf];omega
  ·have hkn:k=m:=by omega
   subst hkn
   have hdk:decide ((k:Int)<(k:Int))=false:=by simp
   go_wp2_with fail
   go_ret
   exact ⟨rfl,HBE.out⟩
set_option maxHeartbeats 2000000 in
theorem eqInst_alike (A0 B0:Option Addr) (n0 c0 m0 d0:Nat) (x:InT) (w:World) (h0:RdC w w.heap.size (celI x.ports) (.slice A0 n0 c0)) (k0:RdC w w.heap.size (celI x.ports) (.slice B0 m0 d0)) (hz:szCL x.cells≤1099511627776) :
  Calls Tryz.prog 216 #[.agg #[.int .i64 x.module,.int .i64 x.param,.slice A0 n0 c0],.agg #[.int .i64 x.module,.int .i64 x.param,.slice B0 m0 d0]] w fun e w'=>e = .returned (.bool true)∧Below w.heap.size w w':=by
 have HB0:=Lib.hid (below_new (below_new (Below.refl w.heap.size w) (.cells #[.int .i64 x.module,.int .i64 x.param,.slice A0 n0 c0] 202)) (.cells #[.int .i64 x.module,.int .i64 x.param,.slice B0 m0 d0] 202))
 have hy:=heap_new (w.alloc (.cells #[.int .i64 x.module,.int .i64 x.param,.slice A0 n0 c0] 202)) (.cells #[.int .i64 x.module,.int .i64 x.param,.slice B0 m0 d0] 202)
 have hx:=heap_al (.cells #[.int .i64 x.module,.int .i64 x.param,.slice B0 m0 d0] 202) (heap_new w (.cells #[.int .i64 x.module,.int .i64 x.param,.slice A0 n0 c0] 202))
 simp only [World.size_alloc] at hy
 have HXB:=Lib.hid hx
 have HYB:=Lib.hid hy
 clear hx hy
 have R0:=Lib.hid h0
 have K0:=Lib.hid k0
 have q0:(x.module != x.module)=false:=by simp
 have q1:(x.param != x.param)=false:=by simp
 have hz2:=hz
 unfold InT.cells at hz2
 simp only [szCL_cons,szCL_nil,szC_int] at hz2
 have Z0:Hid (szC (celI x.ports)≤1099511627776):=by show _≤_;omega
 clear hz hz2 h0 k0
 go_enter Tryz.func216,Tryz.ntmps216
 go_wp2_with fail
 refine (eqInts_c A0 B0 n0 c0 m0 d0 x.ports _ (R0.out.below HB0.out) (K0.out.below HB0.out) Z0.out).mono ?_
 rintro _ w1 ⟨rfl,b1⟩
 have HB1:=Lib.hid (below_tr HB0.out b1)
 have C1:=Lib.hid b1
 clear b1
 go_wp2_with fail
 go_ret
 exact ⟨rfl,HB1.out⟩
set_option maxHeartbeats 2000000 in
theorem eqInstS_alike (A B:Option Addr) (n c m d:Nat) (xs:List InT) (w:World) (hA:RdC w w.heap.size (celIn xs) (.slice A n c)) (hB:RdC w w.heap.size (celIn xs) (.slice B m d)) (hz:szC (celIn xs)≤1099511627776) :
  Calls Tryz.prog 171 #[.slice A n c,.slice B m d] w fun e w'=>e = .returned (.bool true)∧Below w.heap.size w w':=by
 have hx:=hA.inN
 have hy:=hB.inN
 obtain rfl:m=n:=by omega
 unfold celIn at hz
 rw [szC_flat InT.cells_length (by omega)] at hz
 have hn:m≤1099511627776:=by omega
 have HZ:Hid (szCL (xs.flatMap InT.cells)≤1099511627776):=by show _≤_;omega
 have HA:=Lib.hid hA
 have HB:=Lib.hid hB
 have HX:=Lib.hid hx
 clear hx hy hA hB hz
 go_enter Tryz.func171,Tryz.ntmps171
 go_wp2_with fail
 go_loopw [5] (fun i wr=>∃k:Nat,k≤m∧i = .int .i64 k∧Below w.heap.size w wr) (fun i _=>m - (intOf i).toNat)
 case atStart=>exact ⟨0,Nat.zero_le _,rfl,Below.refl _ _⟩
 case round =>
  obtain ⟨k,hk,rfl,hbe⟩:=hrel
  have HBE:=Lib.hid hbe
  clear hbe
  by_cases hlt:k<m
  ·have hdk:decide ((k:Int)<(m:Int))=true:=by simp;omega
   obtain ⟨b,o,S0,l0,p0,rfl,hb,c0,c1,c2,r0⟩:=(HA.out.below HBE.out).inE (k:=k) (by rw [HX.out];exact hlt)
   obtain ⟨b',o',S0',l0',p0',rfl,hb',d0,d1,d2,r0'⟩:=(HB.out.below HBE.out).inE (k:=k) (by rw [HX.out];exact hlt)
   have HZE:Hid (szCL (xs[k]?.getD InT.zero).cells≤1099511627776):=Nat.le_trans (szCL_elem (cells:=InT.cells) (by rw [HX.out];exact hlt)) HZ.out
   generalize xs[k]?.getD InT.zero=x at *
   have J0:=Lib.hid r0
   have J0':=Lib.hid r0'
   clear r0 r0'
   have i0:(0:Int)≤(k:Int):=by omega
   have i1:(k:Int)<(m:Int):=by omega
   go_wp2_with fail
   have HEQ:=Lib.hid (fun (v:Sub wr)=>eqInst_alike S0 S0' l0 p0 l0' p0' x v.v (J0.out.below v.h) (J0'.out.below v.h) HZE.out)
   have hsub:=sub_ne wr
   have hsc:=sub_cell wr
   refine wp_region_below wr (by kernel_rfl) (by kernel_rfl) (Below.refl _ _) ?_
   repeat (go_big_quiet_step ((first
    | (go_at_call 216;with_reducible exact calls_sub (HEQ.out _)))))
   refine wpQuiet_nil ?_
   rintro _ ⟨⟨w5,hD⟩,rfl⟩
   clear hsub hsc HEQ
   have HD:=Lib.hid (below_tr HBE.out hD)
   clear hD
   go_wp2_with fail
   go_roundw
   case rel=>exact ⟨k+1,by omega,by go_num,HD.out⟩
   case measure=>simp [intOf];omega
  ·have hkn:k=m:=by omega
   subst hkn
   have hdk:decide ((k:Int)<(k:Int))=false:=by simp
   go_wp2_with fail
   go_ret
   exact ⟨rfl,HBE.out⟩
set_option maxHeartbeats 2000000 in
theorem eqMem_alike (x:MmT) (w:World)  :
  Calls Tryz.prog 217 #[.agg #[.int .i64 x.addr,.int .i64 x.data,.int .i64 x.write,.int .i64 x.out],.agg #[.int .i64 x.addr,.int .i64 x.data,.int .i64 x.write,.int .i64 x.out]] w fun e w'=>e = .returned (.bool true)∧Below w.heap.size w w':=by
 have HB0:=Lib.hid (below_new (below_new (Below.refl w.heap.size w) (.cells #[.int .i64 x.addr,.int .i64 x.data,.int .i64 x.write,.int .i64 x.out] 200)) (.cells #[.int .i64 x.addr,.int .i64 x.data,.int .i64 x.write,.int .i64 x.out] 200))
 have hy:=heap_new (w.alloc (.cells #[.int .i64 x.addr,.int .i64 x.data,.int .i64 x.write,.int .i64 x.out] 200)) (.cells #[.int .i64 x.addr,.int .i64 x.data,.int .i64 x.write,.int .i64 x.out] 200)
 have hx:=heap_al (.cells #[.int .i64 x.addr,.int .i64 x.data,.int .i64 x.write,.int .i64 x.out] 200) (heap_new w (.cells #[.int .i64 x.addr,.int .i64 x.data,.int .i64 x.write,.int .i64 x.out] 200))
 simp only [World.size_alloc] at hy
 have HXB:=Lib.hid hx
 have HYB:=Lib.hid hy
 clear hx hy
 have q0:(x.addr != x.addr)=false:=by simp
 have q1:(x.data != x.data)=false:=by simp
 have q2:(x.write != x.write)=false:=by simp
 have q3:(x.out != x.out)=false:=by simp
 go_enter Tryz.func217,Tryz.ntmps217
 go_wp2_with fail
 go_ret
 exact ⟨rfl,HB0.out⟩
set_option maxHeartbeats 2000000 in
theorem eqMemS_alike (A B:Option Addr) (n c m d:Nat) (xs:List MmT) (w:World) (hA:RdC w w.heap.size (celMm xs) (.slice A n c)) (hB:RdC w w.heap.size (celMm xs) (.slice B m d)) (hz:szC (celMm xs)≤1099511627776) :
  Calls Tryz.prog 172 #[.slice A n c,.slice B m d] w fun e w'=>e = .returned (.bool true)∧Below w.heap.size w w':=by
 have hx:=hA.mmN
 have hy:=hB.mmN
 obtain rfl:m=n:=by omega
 unfold celMm at hz
 rw [szC_flat MmT.cells_length (by omega)] at hz
 have hn:m≤1099511627776:=by omega
 have HZ:Hid (szCL (xs.flatMap MmT.cells)≤1099511627776):=by show _≤_;omega
 have HA:=Lib.hid hA
 have HB:=Lib.hid hB
 have HX:=Lib.hid hx
 clear hx hy hA hB hz
 go_enter Tryz.func172,Tryz.ntmps172
 go_wp2_with fail
 go_loopw [5] (fun i wr=>∃k:Nat,k≤m∧i = .int .i64 k∧Below w.heap.size w wr) (fun i _=>m - (intOf i).toNat)
 case atStart=>exact ⟨0,Nat.zero_le _,rfl,Below.refl _ _⟩
 case round =>
  obtain ⟨k,hk,rfl,hbe⟩:=hrel
  have HBE:=Lib.hid hbe
  clear hbe
  by_cases hlt:k<m
  ·have hdk:decide ((k:Int)<(m:Int))=true:=by simp;omega
   obtain ⟨b,o,rfl,hb,c0,c1,c2,c3⟩:=(HA.out.below HBE.out).mmE (k:=k) (by rw [HX.out];exact hlt)
   obtain ⟨b',o',rfl,hb',d0,d1,d2,d3⟩:=(HB.out.below HBE.out).mmE (k:=k) (by rw [HX.out];exact hlt)
   skip
   generalize xs[k]?.getD MmT.zero=x at *
   skip
   have i0:(0:Int)≤(k:Int):=by omega
   have i1:(k:Int)<(m:Int):=by omega
   go_wp2_with fail
   have HEQ:=Lib.hid (fun (v:Sub wr)=>eqMem_alike x v.v)
   have hsub:=sub_ne wr
   have hsc:=sub_cell wr
   refine wp_region_below wr (by kernel_rfl) (by kernel_rfl) (Below.refl _ _) ?_
   repeat (go_big_quiet_step ((first
    | (go_at_call 217;with_reducible exact calls_sub (HEQ.out _)))))
   refine wpQuiet_nil ?_
   rintro _ ⟨⟨w5,hD⟩,rfl⟩
   clear hsub hsc HEQ
   have HD:=Lib.hid (below_tr HBE.out hD)
   clear hD
   go_wp2_with fail
   go_roundw
   case rel=>exact ⟨k+1,by omega,by go_num,HD.out⟩
   case measure=>simp [intOf];omega
  ·have hkn:k=m:=by omega
   subst hkn
   have hdk:decide ((k:Int)<(k:Int))=false:=by simp
   go_wp2_with fail
   go_ret
   exact ⟨rfl,HBE.out⟩
set_option maxHeartbeats 2000000 in
theorem eqModule_alike (A0 B0 A1 B1 A2 B2 A3 B3:Option Addr) (n0 c0 m0 d0 n1 c1 m1 d1 n2 c2 m2 d2 n3 c3 m3 d3:Nat) (x:MdT) (w:World) (h0:RdC w w.heap.size (celSg x.sigs) (.slice A0 n0 c0)) (k0:RdC w w.heap.size (celSg x.sigs) (.slice B0 m0 d0)) (h1:RdC w w.heap.size (celAs x.asgs) (.slice A1 n1 c1)) (k1:RdC w w.heap.size (celAs x.asgs) (.slice B1 m1 d1)) (h2:RdC w w.heap.size (celIn x.insts) (.slice A2 n2 c2)) (k2:RdC w w.heap.size (celIn x.insts) (.slice B2 m2 d2)) (h3:RdC w w.heap.size (celMm x.mems) (.slice A3 n3 c3)) (k3:RdC w w.heap.size (celMm x.mems) (.slice B3 m3 d3)) (hz:szCL x.cells≤1099511627776) :
  Calls Tryz.prog 113 #[.agg #[.slice A0 n0 c0,.slice A1 n1 c1,.slice A2 n2 c2,.slice A3 n3 c3],.agg #[.slice B0 m0 d0,.slice B1 m1 d1,.slice B2 m2 d2,.slice B3 m3 d3]] w fun e w'=>e = .returned (.bool true)∧Below w.heap.size w w':=by
 have HB0:=Lib.hid (below_new (below_new (Below.refl w.heap.size w) (.cells #[.slice A0 n0 c0,.slice A1 n1 c1,.slice A2 n2 c2,.slice A3 n3 c3] 108)) (.cells #[.slice B0 m0 d0,.slice B1 m1 d1,.slice B2 m2 d2,.slice B3 m3 d3] 108))
 have hy:=heap_new (w.alloc (.cells #[.slice A0 n0 c0,.slice A1 n1 c1,.slice A2 n2 c2,.slice A3 n3 c3] 108)) (.cells #[.slice B0 m0 d0,.slice B1 m1 d1,.slice B2 m2 d2,.slice B3 m3 d3] 108)
 have hx:=heap_al (.cells #[.slice B0 m0 d0,.slice B1 m1 d1,.slice B2 m2 d2,.slice B3 m3 d3] 108) (heap_new w (.cells #[.slice A0 n0 c0,.slice A1 n1 c1,.slice A2 n2 c2,.slice A3 n3 c3] 108))
 simp only [World.size_alloc] at hy
 have HXB:=Lib.hid hx
 have HYB:=Lib.hid hy
 clear hx hy
 have R0:=Lib.hid h0
 have K0:=Lib.hid k0
 have R1:=Lib.hid h1
 have K1:=Lib.hid k1
 have R2:=Lib.hid h2
 have K2:=Lib.hid k2
 have R3:=Lib.hid h3
 have K3:=Lib.hid k3
 have hz2:=hz
 unfold MdT.cells at hz2
 simp only [szCL_cons,szCL_nil] at hz2
 have Z0:Hid (szC (celSg x.sigs)≤1099511627776):=by show _≤_;omega
 have Z1:Hid (szC (celAs x.asgs)≤1099511627776):=by show _≤_;omega
 have Z2:Hid (szC (celIn x.insts)≤1099511627776):=by show _≤_;omega
 have Z3:Hid (szC (celMm x.mems)≤1099511627776):=by show _≤_;omega
 clear hz hz2 h0 k0 h1 k1 h2 k2 h3 k3
 go_enter Tryz.func113,Tryz.ntmps113
 go_wp2_with fail
 refine (eqSignalS_alike A0 B0 n0 c0 m0 d0 x.sigs _ (R0.out.below HB0.out) (K0.out.below HB0.out) Z0.out).mono ?_
 rintro _ w1 ⟨rfl,b1⟩
 have HB1:=Lib.hid (below_tr HB0.out b1)
 have C1:=Lib.hid b1
 clear b1
 have hx:=heap_tr C1.out HXB.out
 have hy:=heap_tr C1.out HYB.out
 have x1:=cell_heap (k:=1) hx rfl
 have y1:=cell_heap (k:=1) hy rfl
 have x2:=cell_heap (k:=2) hx rfl
 have y2:=cell_heap (k:=2) hy rfl
 have x3:=cell_heap (k:=3) hx rfl
 have y3:=cell_heap (k:=3) hy rfl
 have lx:=heap_lt0 hx
 have ly:=heap_lt0 hy
 clear hx hy
 go_wp2_with fail
 refine (eqAssignS_alike A1 B1 n1 c1 m1 d1 x.asgs _ (R1.out.below HB1.out) (K1.out.below HB1.out) Z1.out).mono ?_
 rintro _ w2 ⟨rfl,b2⟩
 have HB2:=Lib.hid (below_tr HB1.out b2)
 have C2:=Lib.hid (below_tr C1.out b2)
 clear b2 x1 y1 x2 y2 x3 y3 lx ly
 have hx:=heap_tr C2.out HXB.out
 have hy:=heap_tr C2.out HYB.out
 have x2:=cell_heap (k:=2) hx rfl
 have y2:=cell_heap (k:=2) hy rfl
 have x3:=cell_heap (k:=3) hx rfl
 have y3:=cell_heap (k:=3) hy rfl
 have lx:=heap_lt0 hx
 have ly:=heap_lt0 hy
 clear hx hy
 go_wp2_with fail
 refine (eqInstS_alike A2 B2 n2 c2 m2 d2 x.insts _ (R2.out.below HB2.out) (K2.out.below HB2.out) Z2.out).mono ?_
 rintro _ w3 ⟨rfl,b3⟩
 have HB3:=Lib.hid (below_tr HB2.out b3)
 have C3:=Lib.hid (below_tr C2.out b3)
 clear b3 x2 y2 x3 y3 lx ly
 have hx:=heap_tr C3.out HXB.out
 have hy:=heap_tr C3.out HYB.out
 have x3:=cell_heap (k:=3) hx rfl
 have y3:=cell_heap (k:=3) hy rfl
 have lx:=heap_lt0 hx
 have ly:=heap_lt0 hy
 clear hx hy
 go_wp2_with fail
 refine (eqMemS_alike A3 B3 n3 c3 m3 d3 x.mems _ (R3.out.below HB3.out) (K3.out.below HB3.out) Z3.out).mono ?_
 rintro _ w4 ⟨rfl,b4⟩
 have HB4:=Lib.hid (below_tr HB3.out b4)
 have C4:=Lib.hid (below_tr C3.out b4)
 clear b4 x3 y3 lx ly
 go_wp2_with fail
 go_ret
 exact ⟨rfl,HB4.out⟩
set_option maxHeartbeats 2000000 in
theorem eqModuleS_alike (A B:Option Addr) (n c m d:Nat) (xs:List MdT) (w:World) (hA:RdC w w.heap.size (celMd xs) (.slice A n c)) (hB:RdC w w.heap.size (celMd xs) (.slice B m d)) (hz:szC (celMd xs)≤1099511627776) :
  Calls Tryz.prog 64 #[.slice A n c,.slice B m d] w fun e w'=>e = .returned (.bool true)∧Below w.heap.size w w':=by
 have hx:=hA.mdN
 have hy:=hB.mdN
 obtain rfl:m=n:=by omega
 unfold celMd at hz
 rw [szC_flat MdT.cells_length (by omega)] at hz
 have hn:m≤1099511627776:=by omega
 have HZ:Hid (szCL (xs.flatMap MdT.cells)≤1099511627776):=by show _≤_;omega
 have HA:=Lib.hid hA
 have HB:=Lib.hid hB
 have HX:=Lib.hid hx
 clear hx hy hA hB hz
 go_enter Tryz.func64,Tryz.ntmps64
 go_wp2_with fail
 go_loopw [5] (fun i wr=>∃k:Nat,k≤m∧i = .int .i64 k∧Below w.heap.size w wr) (fun i _=>m - (intOf i).toNat)
 case atStart=>exact ⟨0,Nat.zero_le _,rfl,Below.refl _ _⟩
 case round =>
  obtain ⟨k,hk,rfl,hbe⟩:=hrel
  have HBE:=Lib.hid hbe
  clear hbe
  by_cases hlt:k<m
  ·have hdk:decide ((k:Int)<(m:Int))=true:=by simp;omega
   obtain ⟨b,o,S0,l0,p0,S1,l1,p1,S2,l2,p2,S3,l3,p3,rfl,hb,c0,c1,c2,c3,r0,r1,r2,r3⟩:=(HA.out.below HBE.out).mdE (k:=k) (by rw [HX.out];exact hlt)
   obtain ⟨b',o',S0',l0',p0',S1',l1',p1',S2',l2',p2',S3',l3',p3',rfl,hb',d0,d1,d2,d3,r0',r1',r2',r3'⟩:=(HB.out.below HBE.out).mdE (k:=k) (by rw [HX.out];exact hlt)
   have HZE:Hid (szCL (xs[k]?.getD MdT.zero).cells≤1099511627776):=Nat.le_trans (szCL_elem (cells:=MdT.cells) (by rw [HX.out];exact hlt)) HZ.out
   generalize xs[k]?.getD MdT.zero=x at *
   have J0:=Lib.hid r0
   have J0':=Lib.hid r0'
   have J1:=Lib.hid r1
   have J1':=Lib.hid r1'
   have J2:=Lib.hid r2
   have J2':=Lib.hid r2'
   have J3:=Lib.hid r3
   have J3':=Lib.hid r3'
   clear r0 r0' r1 r1' r2 r2' r3 r3'
   have i0:(0:Int)≤(k:Int):=by omega
   have i1:(k:Int)<(m:Int):=by omega
   go_wp2_with fail
   have HEQ:=Lib.hid (fun (v:Sub wr)=>eqModule_alike S0 S0' S1 S1' S2 S2' S3 S3' l0 p0 l0' p0' l1 p1 l1' p1' l2 p2 l2' p2' l3 p3 l3' p3' x v.v (J0.out.below v.h) (J0'.out.below v.h) (J1.out.below v.h) (J1'.out.below v.h) (J2.out.below v.h) (J2'.out.below v.h) (J3.out.below v.h) (J3'.out.below v.h) HZE.out)
   have hsub:=sub_ne wr
   have hsc:=sub_cell wr
   refine wp_region_below wr (by kernel_rfl) (by kernel_rfl) (Below.refl _ _) ?_
   repeat (go_big_quiet_step ((first
    | (go_at_call 113;with_reducible exact calls_sub (HEQ.out _)))))
   refine wpQuiet_nil ?_
   rintro _ ⟨⟨w5,hD⟩,rfl⟩
   clear hsub hsc HEQ
   have HD:=Lib.hid (below_tr HBE.out hD)
   clear hD
   go_wp2_with fail
   go_roundw
   case rel=>exact ⟨k+1,by omega,by go_num,HD.out⟩
   case measure=>simp [intOf];omega
  ·have hkn:k=m:=by omega
   subst hkn
   have hdk:decide ((k:Int)<(k:Int))=false:=by simp
   go_wp2_with fail
   go_ret
   exact ⟨rfl,HBE.out⟩
set_option maxHeartbeats 2000000 in
theorem eqDesign_alike (A0 B0:Option Addr) (n0 c0 m0 d0:Nat) (x:DsT) (w:World) (h0:RdC w w.heap.size (celMd x.mods) (.slice A0 n0 c0)) (k0:RdC w w.heap.size (celMd x.mods) (.slice B0 m0 d0)) (hz:szCL x.cells≤1099511627776) :
  Calls Tryz.prog 20 #[.agg #[.slice A0 n0 c0],.agg #[.slice B0 m0 d0]] w fun e w'=>e = .returned (.bool true)∧Below w.heap.size w w':=by
 have HB0:=Lib.hid (below_new (below_new (Below.refl w.heap.size w) (.cells #[.slice A0 n0 c0] 48)) (.cells #[.slice B0 m0 d0] 48))
 have hy:=heap_new (w.alloc (.cells #[.slice A0 n0 c0] 48)) (.cells #[.slice B0 m0 d0] 48)
 have hx:=heap_al (.cells #[.slice B0 m0 d0] 48) (heap_new w (.cells #[.slice A0 n0 c0] 48))
 simp only [World.size_alloc] at hy
 have HXB:=Lib.hid hx
 have HYB:=Lib.hid hy
 clear hx hy
 have R0:=Lib.hid h0
 have K0:=Lib.hid k0
 have hz2:=hz
 unfold DsT.cells at hz2
 simp only [szCL_cons,szCL_nil] at hz2
 have Z0:Hid (szC (celMd x.mods)≤1099511627776):=by show _≤_;omega
 clear hz hz2 h0 k0
 go_enter Tryz.func20,Tryz.ntmps20
 go_wp2_with fail
 refine (eqModuleS_alike A0 B0 n0 c0 m0 d0 x.mods _ (R0.out.below HB0.out) (K0.out.below HB0.out) Z0.out).mono ?_
 rintro _ w1 ⟨rfl,b1⟩
 have HB1:=Lib.hid (below_tr HB0.out b1)
 have C1:=Lib.hid b1
 clear b1
 go_wp2_with fail
 go_ret
 exact ⟨rfl,HB1.out⟩
end Go.Proofs.YtlinbdkbbhpdpaaGreat
