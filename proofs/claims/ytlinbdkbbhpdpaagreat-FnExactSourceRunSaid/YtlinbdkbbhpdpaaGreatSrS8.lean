/- Words packed into numbers and unpacked, in both programs (printed by mksg2.py). Rows of rows of numbers; runs that may be made, in the reference (printed by mksg3.py). Which signals of a flat module are stored, in the reference (printed by mkss7.py). Valid states in the reference (printed by mkss8.py). -/
import Derived.Test.YtlinbdkbbhpdpaaGreatSrE1
import Derived.Test.YtlinbdkbbhpdpaaGreatSrG1
import Derived.Test.YtlinbdkbbhpdpaaGreatSrS6
namespace Go.Proofs.YtlinbdkbbhpdpaaGreat
set_option maxRecDepth 100000
open Go.RowKit

theorem mod2_nat (Y:Nat):mod2 (Y:Int)=2 ^ Y:=by unfold mod2;rw [Int.toNat_natCast]
set_option maxHeartbeats 2000000 in
theorem unpackBits_any (A:Option Addr) (n c:Nat) (ws:List Int) (x:Int) (w:World) (h:Ints w A n ws) (hw:Wds ws) (hs:sumI ws≤20) (hn:n≤30) :
  Calls Tryz.prog 60 #[.slice A n c,.int .i64 x] w fun e w'=>∃B d,e = .returned (.slice B n d)∧Sepa w w' [.cel (celI (unp ws x)) (.slice B n d)]:=by
 have HI:=Lib.hid h
 have HW:=Lib.hid hw
 have HWO:=Lib.hid (widthsOk_yes A n c ws w h hw hs hn)
 clear h hw
 go_enter Tryz.func60,Tryz.ntmps60
 go_wp2_with fail
 refine HWO.out.mono ?_
 rintro _ w' ⟨rfl,rfl⟩
 go_wp2_with fail
 go_loopw [1,5,13] (fun b v i wr=>∃(k:Nat) (B:Option Addr) (d:Nat),k≤n∧i = .int .i64 (k:Int)∧b = .int .i64 (x / mod2 (atW ws k))∧v = .slice B k d∧Sepa w wr [.cel (celI (unTo ws x k)) (.slice B k d)]) (fun _ _ i _=>n - (intOf i).toNat)
 case atStart=>exact ⟨0,none,0,by omega,rfl,by rw [atW_zero];simp [mod2],rfl,(Sepa.refl w).pushNil 3 1⟩
 case round =>
  obtain ⟨k,B,d,hk,rfl,rfl,rfl,hs2⟩:=hrel
  have HS:=Lib.hid hs2
  clear hs2
  have ha0:=atW_nn HW.out (k:=k) (by rw [HI.out.1];exact hk)
  by_cases hlt:k<n
  ·have hdk:decide ((k:Int)<(n:Int))=true:=by simp;omega
   obtain ⟨b,o,rfl,hb,hc⟩:=HI.out.2 (by omega)
   have hck:=hc k hlt
   have hkl:k<ws.length:=by rw [HI.out.1];exact hlt
   have hx:=HW.out k hkl
   have hle:=atW_le HW.out (k+1)
   have HSN:=Lib.hid (atW_succ hkl)
   rw [HSN.out] at hle
   obtain ⟨Y,hY⟩:∃Y:Nat,ws[k]?.getD 0=(Y:Int):=⟨(ws[k]?.getD 0).toNat,by omega⟩
   have HY:=Lib.hid hY
   rw [hY] at hx hck hle HSN
   have hY4:Y≤4:=by omega
   have hY1:1≤Y:=by omega
   have f2:IntKind.u64.wrap (Y:Int)=(Y:Int):=by rw [IntKind.wrap_u64];omega
   have i0:(0:Int)≤(k:Int):=by omega
   have i1:(k:Int)<(n:Int):=by omega
   clear hc hkl hY
   have HTK:Hid (unTo ws x (k+1)=unTo ws x k++[(x / mod2 (atW ws k)) % mod2 (Y:Int)]):=by show _=_;rw [unTo,HY.out]
   have HDV:Hid (x / mod2 (atW ws k) / 2 ^ Y=x / mod2 (atW ws (k+1))):=by show _=_;rw [←mod2_nat,div_mod2 x ha0 (by omega),HSN.out]
   have hcw:=(HS.out.bel.cell (p:=⟨b,o+k,none⟩) hb).trans hck
   have lb:=below_lt HS.out.bel hb
   have HAW:=Lib.hid (andW (wd:=(Y:Int)) (by omega) (by omega) (x / mod2 (atW ws k)))
   generalize hQ:x / mod2 (atW ws k)=q at *
   have HQ:=Lib.hid hQ
   clear hQ hck hle ha0
   go_wp2_with fail
   refine (widthMask_any (Y:Int) _ (by omega) (by omega)).mono ?_
   rintro _ w' ⟨rfl,rfl⟩
   go_wp2_with (at_builtin;refine wpList_sepPush rfl _ _ rfl _ (HS.out.alloc _) 0 B k d (unTo ws x k) (bits .and .i64 q (mod2 (Y:Int) - 1)) _ (0,0) rfl rfl rfl (heap_new _ _) (by omega) ?_;intro g9 cap w9 S9 hz9;have HS9:=Lib.hid S9;clear S9 hz9)
   go_roundw
   case rel=>exact ⟨k+1,_,_,by omega,by go_num,by rw [←HDV.out],rfl,by rw [HTK.out,←HAW.out];exact HS9.out⟩
   case measure=>simp [intOf];omega
  ·have hkn:k=n:=by omega
   have hdk:decide ((k:Int)<(n:Int))=false:=by simp;omega
   clear hlt
   subst k
   have HE:Hid (unp ws x=unTo ws x n):=by show _=_;unfold unp;rw [HI.out.1]
   go_wp2_with fail
   go_ret
   exact ⟨_,_,rfl,by rw [HE.out];exact HS.out⟩
set_option maxHeartbeats 2000000 in
theorem packBits_any (A:Option Addr) (n c:Nat) (ws vs:List Int) (VA:Option Addr) (vc:Nat) (w:World) (h:Ints w A n ws) (hv:Ints w VA n vs) (hw:Wds ws) (hs:sumI ws≤20) (hn:n≤30) :
  Calls Tryz.prog 63 #[.slice A n c,.slice VA n vc] w fun e w'=>e = .returned (.int .i64 (pck ws vs))∧Below w.heap.size w w':=by
 have HI:=Lib.hid h
 have HV:=Lib.hid hv
 have HW:=Lib.hid hw
 have HWO:=Lib.hid (widthsOk_yes A n c ws w h hw hs hn)
 clear h hw hv
 go_enter Tryz.func63,Tryz.ntmps63
 go_wp2_with fail
 refine HWO.out.mono ?_
 rintro _ w' ⟨rfl,rfl⟩
 go_wp2_with fail
 go_loopw [5,6,21] (fun v a i wr=>∃k:Nat,k≤n∧i = .int .i64 (k:Int)∧a = .int .i64 (atW ws k)∧v = .int .i64 (pkTo ws vs k)∧Below w.heap.size w wr) (fun _ _ i _=>n - (intOf i).toNat)
 case atStart=>exact ⟨0,by omega,rfl,rfl,rfl,Below.refl _ _⟩
 case round =>
  obtain ⟨k,hk,rfl,rfl,rfl,hb2⟩:=hrel
  have HB:=Lib.hid hb2
  clear hb2
  have ha0:=atW_nn HW.out (k:=k) (by rw [HI.out.1];exact hk)
  by_cases hlt:k<n
  ·have hdk:decide ((k:Int)<(n:Int))=true:=by simp;omega
   obtain ⟨b,o,rfl,hb,hc⟩:=HI.out.2 (by omega)
   have hck:=hc k hlt
   have hkl:k<ws.length:=by rw [HI.out.1];exact hlt
   have hx:=HW.out k hkl
   have hle:=atW_le HW.out (k+1)
   have HSN:=Lib.hid (atW_succ hkl)
   rw [HSN.out] at hle
   obtain ⟨Y,hY⟩:∃Y:Nat,ws[k]?.getD 0=(Y:Int):=⟨(ws[k]?.getD 0).toNat,by omega⟩
   have HY:=Lib.hid hY
   rw [hY] at hx hck hle HSN
   have hY4:Y≤4:=by omega
   have hY1:1≤Y:=by omega
   have f2:IntKind.u64.wrap (Y:Int)=(Y:Int):=by rw [IntKind.wrap_u64];omega
   have i0:(0:Int)≤(k:Int):=by omega
   have i1:(k:Int)<(n:Int):=by omega
   clear hc hkl hY
   obtain ⟨b2,o2,rfl,hb2,hc2⟩:=HV.out.2 (by omega)
   have hcv:=(HB.out.cell (p:=⟨b2,o2+k,none⟩) hb2).trans (hc2 k hlt)
   have lb2:=below_lt HB.out hb2
   have hcw:=(HB.out.cell (p:=⟨b,o+k,none⟩) hb).trans hck
   have lb:=below_lt HB.out hb
   have hpk:=pkTo_in HW.out vs (k:=k) (by rw [HI.out.1];exact hk)
   have hpk1:=pkTo_in HW.out vs (k:=k+1) (by rw [HI.out.1];omega)
   have HPK:Hid (pkTo ws vs (k+1)=pkTo ws vs k+(vs[k]?.getD 0) % mod2 (Y:Int) * mod2 (atW ws k)):=by show _=_;rw [pkTo,HY.out]
   rw [HPK.out,HSN.out] at hpk1
   have hm1:=mod_in (vs[k]?.getD 0) (Y:Int)
   obtain ⟨T,hT⟩:∃T:Nat,atW ws k=(T:Int):=⟨(atW ws k).toNat,by omega⟩
   rw [hT,mod2_nat T] at HPK hpk1 hpk
   rw [hT] at hle ha0 HSN
   have HT:=Lib.hid hT
   rw [hT]
   have hT16:T≤19:=by omega
   have hbig:mod2 ((T:Int)+(Y:Int))≤2 ^ 20:=by
    unfold mod2
    have e:((T:Int)+(Y:Int)).toNat=T+Y:=by omega
    rw [e]
    exact_mod_cast Nat.pow_le_pow_right (n:=2) (by omega) (show T+Y≤20 by omega)
   have f3:IntKind.u64.wrap (T:Int)=(T:Int):=by rw [IntKind.wrap_u64];omega
   have HAW:=Lib.hid (andW (wd:=(Y:Int)) (by omega) (by omega) (vs[k]?.getD 0))
   generalize vs[k]?.getD 0=x at *
   generalize pkTo ws vs k=pk at *
   have HOR:Hid (bits .or .i64 pk (x % mod2 (Y:Int) * 2 ^ T)=pk+x % mod2 (Y:Int) * 2 ^ T):=or_join hpk hm1.1 (by omega)
   have hpr:0≤x % mod2 (Y:Int) * 2 ^ T:=Int.mul_nonneg hm1.1 (Int.le_of_lt (Int.pow_pos (by omega)))
   have HWR:Hid (wrap64 (x % mod2 (Y:Int) * 2 ^ T)=x % mod2 (Y:Int) * 2 ^ T):=IntWalk.wrap64_in _ ⟨by omega,by omega⟩
   have HWM:=Lib.hid (fun (v:Sub wr)=>widthMask_any (Y:Int) v.v (by omega) (by omega))
   clear hc2 hck hT
   go_upto_region 7 with fail
   have hsub:=sub_ne wr
   have hsc:=sub_cell wr
   refine wp_region_below wr (by kernel_rfl) (by kernel_rfl) (Below.refl _ _) ?_
   repeat (go_big_quiet_step ((first
    | (go_at_call 110;with_reducible exact calls_sub_same (HWM.out _)))))
   refine wpQuiet_nil ?_
   rintro _ ⟨⟨w5,hD⟩,rfl⟩
   clear hsub hsc
   have HB2:=Lib.hid (below_tr HB.out hD)
   clear hD
   go_wp2_with fail
   go_roundw
   case rel=>exact ⟨k+1,by omega,by go_num,by rw [HSN.out],by rw [HPK.out,HAW.out,HWR.out,HOR.out],HB2.out⟩
   case measure=>simp [intOf];omega
  ·have hkn:k=n:=by omega
   have hdk:decide ((k:Int)<(n:Int))=false:=by simp;omega
   clear hlt
   subst k
   have HE:Hid (pck ws vs=pkTo ws vs n):=by show _=_;unfold pck;rw [HI.out.1]
   go_wp2_with fail
   go_ret
   exact ⟨ret_int (by rw [HE.out]),HB.out⟩
set_option maxHeartbeats 2000000 in
theorem spackBits_any (A:Option Addr) (n c:Nat) (ws vs:List Int) (VA:Option Addr) (vc:Nat) (w:World) (h:Ints w A n ws) (hv:Ints w VA n vs) (hw:Wds ws) (hs:sumI ws≤20) (hn:n≤30) :
  Calls Tryz.prog 57 #[.slice A n c,.slice VA n vc] w fun e w'=>e = .returned (.int .i64 (pck ws vs))∧Below w.heap.size w w':=by
 have HI:=Lib.hid h
 have HV:=Lib.hid hv
 have HW:=Lib.hid hw
 have HWO:=Lib.hid (sl11Widths_yes A n c ws w h hw hs hn)
 clear h hw hv
 go_enter Tryz.func57,Tryz.ntmps57
 go_wp2_with fail
 refine HWO.out.mono ?_
 rintro _ w' ⟨rfl,rfl⟩
 go_wp2_with fail
 go_loopw [5,6,7] (fun v a i wr=>∃k:Nat,k≤n∧i = .int .i64 (k:Int)∧a = .int .i64 (atW ws k)∧v = .int .i64 (pkTo ws vs k)∧Below w.heap.size w wr) (fun _ _ i _=>n - (intOf i).toNat)
 case atStart=>exact ⟨0,by omega,rfl,rfl,rfl,Below.refl _ _⟩
 case round =>
  obtain ⟨k,hk,rfl,rfl,rfl,hb2⟩:=hrel
  have HB:=Lib.hid hb2
  clear hb2
  have ha0:=atW_nn HW.out (k:=k) (by rw [HI.out.1];exact hk)
  by_cases hlt:k<n
  ·have hdk:decide ((k:Int)<(n:Int))=true:=by simp;omega
   obtain ⟨b,o,rfl,hb,hc⟩:=HI.out.2 (by omega)
   have hck:=hc k hlt
   have hkl:k<ws.length:=by rw [HI.out.1];exact hlt
   have hx:=HW.out k hkl
   have hle:=atW_le HW.out (k+1)
   have HSN:=Lib.hid (atW_succ hkl)
   rw [HSN.out] at hle
   obtain ⟨Y,hY⟩:∃Y:Nat,ws[k]?.getD 0=(Y:Int):=⟨(ws[k]?.getD 0).toNat,by omega⟩
   have HY:=Lib.hid hY
   rw [hY] at hx hck hle HSN
   have hY4:Y≤4:=by omega
   have hY1:1≤Y:=by omega
   have f2:IntKind.u64.wrap (Y:Int)=(Y:Int):=by rw [IntKind.wrap_u64];omega
   have i0:(0:Int)≤(k:Int):=by omega
   have i1:(k:Int)<(n:Int):=by omega
   clear hc hkl hY
   obtain ⟨b2,o2,rfl,hb2,hc2⟩:=HV.out.2 (by omega)
   have hcv:=(HB.out.cell (p:=⟨b2,o2+k,none⟩) hb2).trans (hc2 k hlt)
   have lb2:=below_lt HB.out hb2
   have hcw:=(HB.out.cell (p:=⟨b,o+k,none⟩) hb).trans hck
   have lb:=below_lt HB.out hb
   have hpk:=pkTo_in HW.out vs (k:=k) (by rw [HI.out.1];exact hk)
   have hpk1:=pkTo_in HW.out vs (k:=k+1) (by rw [HI.out.1];omega)
   have HPK:Hid (pkTo ws vs (k+1)=pkTo ws vs k+(vs[k]?.getD 0) % mod2 (Y:Int) * mod2 (atW ws k)):=by show _=_;rw [pkTo,HY.out]
   rw [HPK.out,HSN.out] at hpk1
   have hm1:=mod_in (vs[k]?.getD 0) (Y:Int)
   obtain ⟨T,hT⟩:∃T:Nat,atW ws k=(T:Int):=⟨(atW ws k).toNat,by omega⟩
   rw [hT,mod2_nat T] at HPK hpk1 hpk
   rw [hT] at hle ha0 HSN
   have HT:=Lib.hid hT
   rw [hT]
   have hT16:T≤19:=by omega
   have hbig:mod2 ((T:Int)+(Y:Int))≤2 ^ 20:=by
    unfold mod2
    have e:((T:Int)+(Y:Int)).toNat=T+Y:=by omega
    rw [e]
    exact_mod_cast Nat.pow_le_pow_right (n:=2) (by omega) (show T+Y≤20 by omega)
   have f3:IntKind.u64.wrap (T:Int)=(T:Int):=by rw [IntKind.wrap_u64];omega
   have HAW:=Lib.hid (andW (wd:=(Y:Int)) (by omega) (by omega) (vs[k]?.getD 0))
   generalize vs[k]?.getD 0=x at *
   generalize pkTo ws vs k=pk at *
   have HOR:Hid (bits .or .i64 pk (x % mod2 (Y:Int) * 2 ^ T)=pk+x % mod2 (Y:Int) * 2 ^ T):=or_join hpk hm1.1 (by omega)
   have hpr:0≤x % mod2 (Y:Int) * 2 ^ T:=Int.mul_nonneg hm1.1 (Int.le_of_lt (Int.pow_pos (by omega)))
   have HWR:Hid (wrap64 (x % mod2 (Y:Int) * 2 ^ T)=x % mod2 (Y:Int) * 2 ^ T):=IntWalk.wrap64_in _ ⟨by omega,by omega⟩
   have hY16:=mod2_le (wd:=(Y:Int)) (by omega) (by omega)
   have hYp:=mod2_pos (Y:Int)
   have HVAL:Hid (wrap64 (pk+wrap64 (bits .and .i64 x (wrap64 (wrap64 (2 ^ Y) - 1)) * 2 ^ T))=pk+x % mod2 (Y:Int) * 2 ^ T):=by
    show _=_
    rw [wrap_pow (show Y≤62 by omega),←mod2_nat Y,IntWalk.wrap64_in (mod2 (Y:Int) - 1) ⟨by omega,by omega⟩,HAW.out,HWR.out,IntWalk.wrap64_in _ ⟨by omega,by omega⟩]
   clear hc2 hck hT
   go_upto_region 8 with fail
   have hsub:=sub_ne wr
   have hsc:=sub_cell wr
   refine wp_region_below wr (by kernel_rfl) (by kernel_rfl) (Below.refl _ _) ?_
   repeat (go_big_quiet_step (fail))
   refine wpQuiet_nil ?_
   rintro _ ⟨⟨w5,hD⟩,rfl⟩
   clear hsub hsc
   have HB2:=Lib.hid (below_tr HB.out hD)
   have hcw:=(hD.cell (p:=⟨b,o+k,none⟩) lb).trans hcw
   have lb:=below_lt hD lb
   clear hD
   go_wp2_with fail
   go_roundw
   case rel=>exact ⟨k+1,by omega,by go_num,by rw [HSN.out],by rw [HPK.out,HVAL.out],HB2.out⟩
   case measure=>simp [intOf];omega
  ·have hkn:k=n:=by omega
   have hdk:decide ((k:Int)<(n:Int))=false:=by simp;omega
   clear hlt
   subst k
   have HE:Hid (pck ws vs=pkTo ws vs n):=by show _=_;unfold pck;rw [HI.out.1]
   go_wp2_with fail
   go_ret
   exact ⟨ret_int (by rw [HE.out]),HB.out⟩
set_option maxHeartbeats 2000000 in
theorem sunpackBits_any (A:Option Addr) (n c:Nat) (ws:List Int) (x:Int) (w:World) (h:Ints w A n ws) (hw:Wds ws) (hs:sumI ws≤20) (hn:n≤30) :
  Calls Tryz.prog 54 #[.slice A n c,.int .i64 x] w fun e w'=>∃B d,e = .returned (.slice B n d)∧Sepa w w' [.cel (celI (unp ws x)) (.slice B n d)]:=by
 have HI:=Lib.hid h
 have HW:=Lib.hid hw
 have HS0:=Lib.hid ((Sepa.refl w).pushNew 3 1)
 have HWO:=Lib.hid (sl11Widths_yes A n c ws _ (h.below HS0.out.bel) hw hs hn)
 clear h hw
 go_enter Tryz.func54,Tryz.ntmps54
 go_wp2_with fail
 refine HWO.out.mono ?_
 rintro _ w' ⟨rfl,rfl⟩
 go_wp2_with fail
 go_loopw [5,6,7] (fun v a i wr=>∃(k:Nat) (B:Option Addr) (d:Nat),k≤n∧i = .int .i64 (k:Int)∧a = .int .i64 (atW ws k)∧v = .slice B k d∧Sepa w wr [.cel (celI (unTo ws x k)) (.slice B k d)]) (fun _ _ i _=>n - (intOf i).toNat)
 case atStart=>exact ⟨0,_,_,by omega,rfl,rfl,rfl,HS0.out⟩
 case round =>
  obtain ⟨k,B,d,hk,rfl,rfl,rfl,hs2⟩:=hrel
  have HS:=Lib.hid hs2
  clear hs2
  have ha0:=atW_nn HW.out (k:=k) (by rw [HI.out.1];exact hk)
  by_cases hlt:k<n
  ·have hdk:decide ((k:Int)<(n:Int))=true:=by simp;omega
   obtain ⟨b,o,rfl,hb,hc⟩:=HI.out.2 (by omega)
   have hck:=hc k hlt
   have hkl:k<ws.length:=by rw [HI.out.1];exact hlt
   have hx:=HW.out k hkl
   have hle:=atW_le HW.out (k+1)
   have HSN:=Lib.hid (atW_succ hkl)
   rw [HSN.out] at hle
   obtain ⟨Y,hY⟩:∃Y:Nat,ws[k]?.getD 0=(Y:Int):=⟨(ws[k]?.getD 0).toNat,by omega⟩
   have HY:=Lib.hid hY
   rw [hY] at hx hck hle HSN
   have hY4:Y≤4:=by omega
   have hY1:1≤Y:=by omega
   have f2:IntKind.u64.wrap (Y:Int)=(Y:Int):=by rw [IntKind.wrap_u64];omega
   have i0:(0:Int)≤(k:Int):=by omega
   have i1:(k:Int)<(n:Int):=by omega
   clear hc hkl hY
   have HTK:Hid (unTo ws x (k+1)=unTo ws x k++[(x / mod2 (atW ws k)) % mod2 (Y:Int)]):=by show _=_;rw [unTo,HY.out]
   have HKEEP:Hid (∀v,Below w.heap.size w v→v.cell? ⟨b,o+k,none⟩=some (.int .i64 (Y:Int))):=fun v hv=>(hv.cell (p:=⟨b,o+k,none⟩) hb).trans hck
   obtain ⟨T,hT⟩:∃T:Nat,atW ws k=(T:Int):=⟨(atW ws k).toNat,by omega⟩
   rw [hT] at hle ha0 HSN HTK
   have HT:=Lib.hid hT
   rw [hT]
   have hT16:T≤19:=by omega
   have hY16:=mod2_le (wd:=(Y:Int)) (by omega) (by omega)
   have hYp:=mod2_pos (Y:Int)
   have HVAL:Hid (bits .and .i64 (x / 2 ^ T) (IntKind.i64.wrap (IntKind.i64.wrap (2 ^ Y) - 1))=x / mod2 (T:Int) % mod2 (Y:Int)):=by
    show _=_
    rw [←mod2_nat Y,IntWalk.i64_in (mod2 (Y:Int)) (by omega),IntWalk.i64_in (mod2 (Y:Int) - 1) (by omega),andW (wd:=(Y:Int)) (by omega) (by omega),mod2_nat T]
   have cw:=HKEEP.out _ HS.out.bel
   have lb:=below_lt HS.out.bel hb
   have hS:=Lib.hid HS.out.drew
   have hD:=hS.out.bel
   clear hck hT hY16 hYp
   go_upto_region 8 with fail
   go_region_held3 (fun w'=>w'.cell? ⟨b,o+k,none⟩=some (.int .i64 (Y:Int)))
    (first|with_reducible exact HKEEP.out _ hD|with_reducible exact HKEEP.out _ (below_new HS.out.bel _).drew)
    ((first
     | (refine step_sepPush rfl _ _ (by rfl) _ (hS.out.alloc _) 0 B k d (unTo ws x k) _ _ (0,0) rfl (by rfl) (by rfl) (heap_new _ _) (by omega) ?_;intro g9 cap w9 S9 hz9;have HS9:=Lib.hid S9;replace hD:=S9.bel;clear S9 hz9)))
   clear cw lb
   have cw:=HKEEP.out _ HS9.out.bel
   have lb:=below_lt HS9.out.bel hb
   go_wp2_with fail
   go_roundw
   case rel=>exact ⟨k+1,_,_,by omega,by go_num,by rw [HSN.out],rfl,by rw [HTK.out,←HVAL.out];exact HS9.out⟩
   case measure=>simp [intOf];omega
  ·have hkn:k=n:=by omega
   have hdk:decide ((k:Int)<(n:Int))=false:=by simp;omega
   clear hlt
   subst k
   have HE:Hid (unp ws x=unTo ws x n):=by show _=_;unfold unp;rw [HI.out.1]
   go_wp2_with fail
   go_ret
   exact ⟨_,_,rfl,by rw [HE.out];exact HS.out⟩
end Go.Proofs.YtlinbdkbbhpdpaaGreat

namespace Go.Proofs.YtlinbdkbbhpdpaaGreat
set_option maxRecDepth 100000
open Go.RowKit

def celR (pss:List (List Int)):Cel := .row 29 1 (pss.map celI)
theorem celR_snoc (pss:List (List Int)) (ps:List Int):celR (pss++[ps]) = .row 29 1 (pss.map celI++[celI ps]):=by unfold celR;rw [List.map_append];rfl
theorem RdC.rowsR {w:World} {B n c k:Nat} {A:Option Addr} {pss:List (List Int)} (h:RdC w B (celR pss) (.slice A n c)) (hk:k<pss.length) :
  ∃b o S m p,A=some ⟨b,o,none⟩∧b<B∧w.cell? ⟨b,o+k,none⟩=some (.slice S m p)∧RdC w B (celI (pss[k]?.getD [])) (.slice S m p):=by
 unfold celR at h
 obtain ⟨b,o,rfl,hb,hc⟩:=h.cell (by simp;omega)
 obtain ⟨c0,v,e1,m1,r1⟩:=hc k (by simpa using hk)
 rw [List.getElem?_map,List.getElem?_eq_getElem hk] at e1
 simp only [Option.map_some,Option.some.injEq] at e1
 subst e1
 obtain ⟨S,m,p,rfl⟩:=rdC_slice (e:=3) (s:=1) r1
 exact ⟨b,o,S,m,p,rfl,hb,m1,by rw [List.getElem?_eq_getElem hk];exact r1⟩
theorem RdC.rowsRN {w:World} {B n c:Nat} {A:Option Addr} {pss:List (List Int)} (h:RdC w B (celR pss) (.slice A n c)):pss.length=n:=by
 unfold celR at h
 have h1:=h.len
 simpa using h1
set_option maxHeartbeats 2000000 in
theorem sl07RunOk_yes (m:MdT) (SA AA JA MA:Option Addr) (sn sc an ac jn jc mn mc:Nat) (rows:List (List Int)) (RA:Option Addr) (rn rc:Nat) (w:World) (h:MdRd w m SA AA JA MA sn sc an ac jn jc mn mc) (hr:RdC w w.heap.size (celR rows) (.slice RA rn rc)) (hf:FlatFit m) (h16:rn≤16) (hlen:∀k,k<rn→(rows[k]?.getD []).length=(pwOf m 0).length) :
  Calls Tryz.prog 102 #[.agg #[.slice SA sn sc,.slice AA an ac,.slice JA jn jc,.slice MA mn mc],.slice RA rn rc] w fun e w'=>e = .returned (.bool true)∧Below w.heap.size w w':=by
 have HB0:=Lib.hid (below_new (Below.refl w.heap.size w) (.cells #[.slice SA sn sc,.slice AA an ac,.slice JA jn jc,.slice MA mn mc] 108))
 have HXB:=Lib.hid (heap_new w (.cells #[.slice SA sn sc,.slice AA an ac,.slice JA jn jc,.slice MA mn mc] 108))
 have HM:=Lib.hid h
 have HRR:=Lib.hid hr
 have HT:=Lib.hid (tb_true hf)
 obtain ⟨pw,hpw⟩:∃p,(pwOf m 0).length=p:=⟨_,rfl⟩
 rw [hpw] at hlen
 have HPW:=Lib.hid hpw
 have HLE:=Lib.hid hlen
 have d16:decide ((16:Int)<(rn:Int))=false:=decide_eq_false (by omega)
 clear h hr hf hlen hpw
 go_enter Tryz.func102,Tryz.ntmps102
 go_upto_region 1 with fail
 generalize w.alloc (.cells #[.slice SA sn sc,.slice AA an ac,.slice JA jn jc,.slice MA mn mc] 108)=W9 at *
 have hx:=HXB.out
 have x0:=cell_heap (k:=0) hx rfl
 have x1:=cell_heap (k:=1) hx rfl
 have x2:=cell_heap (k:=2) hx rfl
 have x3:=cell_heap (k:=3) hx rfl
 have lx:=heap_lt0 hx
 clear hx
 go_wp2_with fail
 refine (sflatOk_any m SA AA JA MA sn sc an ac jn jc mn mc _ (HM.out.below HB0.out)).mono ?_
 rw [HT.out]
 rintro _ w1 ⟨rfl,b1⟩
 have HB1:=Lib.hid (below_tr HB0.out b1)
 have HX1:=Lib.hid (heap_tr b1 HXB.out)
 clear b1 x0 x1 x2 x3 lx
 have hx:=HX1.out
 have x0:=cell_heap (k:=0) hx rfl
 have x1:=cell_heap (k:=1) hx rfl
 have x2:=cell_heap (k:=2) hx rfl
 have x3:=cell_heap (k:=3) hx rfl
 have lx:=heap_lt0 hx
 clear hx
 go_wp2_with fail
 refine (sportWidths_any m SA AA JA MA sn sc an ac jn jc mn mc 0 _ (HM.out.below HB1.out)).mono ?_
 rw [HPW.out]
 rintro _ w2 ⟨A2,c2,rfl,S2⟩
 have HB8:=Lib.hid (below_tr HB1.out S2.bel)
 clear S2 x0 x1 x2 x3 lx
 go_wp2_with fail
 go_loopw [6] (fun i wr=>∃k:Nat,k≤rn∧i = .int .i64 (k:Int)∧Below w2.heap.size w2 wr∧(True)) (fun i _=>rn - (intOf i).toNat)
 case atStart=>exact ⟨0,by omega,rfl,Below.refl _ _,trivial⟩
 case round =>
  obtain ⟨k,hlek,rfl,hb,hall⟩:=hrel
  have HALL:=Lib.hid hall
  have HBW:=Lib.hid hb
  have HB:=Lib.hid (below_tr HB8.out hb)
  clear hb hall

  by_cases hlt:k<rn
  ·have hdk:decide ((k:Int)<(rn:Int))=true:=by simp;omega
   have i0:(0:Int)≤(k:Int):=by omega
   have i1:(k:Int)<(rn:Int):=by omega
   have hkl:k<rows.length:=by rw [HRR.out.rowsRN];exact hlt
   obtain ⟨br,orr,S,sm,sc',hRA,hbr,cr,rr⟩:=HRR.out.rowsR (k:=k) hkl
   subst hRA
   have cr:=(HB.out.cell (p:=⟨br,orr+k,none⟩) hbr).trans cr
   have lbr:=below_lt HB.out hbr
   have hsm:=rr.ints.1
   rw [HLE.out k hlt] at hsm
   have dne:((sm:Int) != (pw:Int))=false:=by simp;omega
   clear hkl hbr rr hsm
   go_wp2_with fail
   go_roundw
   case rel=>exact ⟨k+1,by omega,by go_num,HBW.out,trivial⟩
   case measure=>simp [intOf];omega
  ·have hkn:k=rn:=by omega
   have hdk:decide ((k:Int)<(rn:Int))=false:=by simp;omega
   clear hlt
   subst k
   go_wp2_with fail
   go_ret
   exact ⟨rfl,HB.out⟩
end Go.Proofs.YtlinbdkbbhpdpaaGreat

namespace Go.Proofs.YtlinbdkbbhpdpaaGreat
set_option maxRecDepth 100000
open Go.RowKit

/-- The registers among the first k signals. -/
def stoTo (sg:List SgT):Nat→List Int
 | 0=>[]
 | k+1=>stoTo sg k++if (sgK sg k).kind=3 then [(k:Int)] else []
theorem stoTo_iff {sg:List SgT}:∀{k:Nat} {i:Nat},(i:Int)∈stoTo sg k↔i<k∧(sgK sg i).kind=3
 | 0,i=>by simp [stoTo]
 | k+1,i=>by
  rw [stoTo,List.mem_append,stoTo_iff]
  by_cases h:(sgK sg k).kind=3
  ·rw [if_pos h,List.mem_singleton]
   constructor
   ·rintro (h1|h1)
    ·exact ⟨by omega,h1.2⟩
    ·have:i=k:=by omega
     subst this
     exact ⟨by omega,h⟩
   ·intro h1
    by_cases hi:i=k
    ·exact .inr (by omega)
    ·exact .inl ⟨by omega,h1.2⟩
  ·rw [if_neg h]
   constructor
   ·rintro (h1|h1)
    ·exact ⟨by omega,h1.2⟩
    ·simp at h1
   ·intro h1
    by_cases hi:i=k
    ·subst hi;exact absurd h1.2 h
    ·exact .inl ⟨by omega,h1.2⟩
/-- The signals that a flat module stores. -/
def stoL (m:MdT) (k:Nat):List Int:=stoTo m.sigs m.sigs.length++(m.mems.take k).map MmT.out
theorem stoL_iff {m:MdT} {i:Nat} (hi:i<m.sigs.length):(i:Int)∈stoL m m.mems.length↔Stored m i:=by
 unfold stoL Stored
 rw [List.mem_append,stoTo_iff,List.take_of_length_le (Nat.le_refl _),List.mem_map]
 constructor
 ·rintro (h|⟨x,hx,h⟩)
  ·exact .inl h.2
  ·obtain ⟨j,hj,rfl⟩:=List.getElem_of_mem hx
   exact .inr ⟨j,hj,by unfold mmK;rw [List.getElem?_eq_getElem hj];exact h⟩
 ·rintro (h|⟨j,hj,h⟩)
  ·exact .inl ⟨hi,h⟩
  ·refine .inr ⟨m.mems[j],List.getElem_mem hj,?_⟩
   unfold mmK at h
   rw [List.getElem?_eq_getElem hj] at h
   exact h
set_option maxHeartbeats 2000000 in
theorem sl07States_any (m:MdT) (SA AA JA MA:Option Addr) (sn sc an ac jn jc mn mc:Nat) (w:World) (h:MdRd w m SA AA JA MA sn sc an ac jn jc mn mc) (hn:sn≤30) (hm:mn≤2) (ho:∀k,k<m.mems.length→0≤(m.mems[k]?.getD MmT.zero).out∧(m.mems[k]?.getD MmT.zero).out<(sn:Int)) :
  Calls Tryz.prog 198 #[.agg #[.slice SA sn sc,.slice AA an ac,.slice JA jn jc,.slice MA mn mc]] w fun e w'=>∃g,e = .returned (.slice (some ⟨g,0,none⟩) sn sn)∧Sepa w w' [rowBPc g sn (stoL m mn)]:=by
 have HB0:=Lib.hid (below_new (Below.refl w.heap.size w) (.cells #[.slice SA sn sc,.slice AA an ac,.slice JA jn jc,.slice MA mn mc] 108))
 have HXB:=Lib.hid (heap_new w (.cells #[.slice SA sn sc,.slice AA an ac,.slice JA jn jc,.slice MA mn mc] 108))
 have HL1:=Lib.hid h.lens.1
 have HL4:=Lib.hid h.lens.2.2.2
 have HM:=Lib.hid h
 have HMO:=Lib.hid ho
 clear h ho
 have hmk:=fun W=>run_make_bools sn (by omega) W
 go_enter Tryz.func198,Tryz.ntmps198
 go_upto_region 1 with fail
 generalize w.alloc (.cells #[.slice SA sn sc,.slice AA an ac,.slice JA jn jc,.slice MA mn mc] 108)=W9 at *
 have hx:=HXB.out
 have x0:=cell_heap (k:=0) hx rfl
 have lx:=heap_lt0 hx
 clear hx
 have HS0:=Lib.hid ((Sepa.refl W9).pushRowB sn)
 go_upto_region 2 with fail
 obtain ⟨g,hg⟩:∃g,W9.heap.size=g:=⟨_,rfl⟩
 rw [hg] at HS0
 (try rw [hg])
 clear hg
 generalize W9.alloc (.cells (madeCells #[.bool false] sn) 4)=W7 at *
 clear x0 lx hmk
 go_wp2_with fail
 go_loopw [4] (fun i wr=>∃k:Nat,k≤sn∧i = .int .i64 (k:Int)∧Sepa W9 wr [rowBPc g sn (stoTo m.sigs k)]) (fun i _=>sn - (intOf i).toNat)
 case atStart=>exact ⟨0,by omega,rfl,HS0.out⟩
 case round =>
  obtain ⟨k,hk,rfl,hs⟩:=hrel
  have HS:=Lib.hid hs
  have HB:=Lib.hid (below_tr HB0.out hs.bel)
  clear hs
  have hx:=heap_tr HS.out.bel HXB.out
  have x0:=cell_heap (k:=0) hx rfl
  have lx:=heap_lt0 hx
  clear hx
  by_cases hlt:k<sn
  ·have hdk:decide ((k:Int)<(sn:Int))=true:=by simp;omega
   have i0:(0:Int)≤(k:Int):=by omega
   have i1:(k:Int)<(sn:Int):=by omega
   have hkl:k<m.sigs.length:=by rw [HL1.out];exact hlt
   obtain ⟨bs,os,hSA,hbs,c0,c1,c2⟩:=HM.out.sg.sgE (k:=k) hkl
   subst hSA
   have c0:=(HB.out.cell (p:=⟨bs,os+k * 3,none⟩) hbs).trans c0
   have lbs:=below_lt HB.out hbs
   have HTK:Hid (stoTo m.sigs (k+1)=stoTo m.sigs k++if (m.sigs[k]?.getD SgT.zero).kind=3 then [(k:Int)] else []):=rfl
   generalize (m.sigs[k]?.getD SgT.zero).kind=kd at *
   clear hkl hbs c1 c2
   obtain ⟨b0,f0,⟨-,lg⟩,hU⟩:=HS.out.truth 0 rfl hlt
   have hO:=HS.out.truthOff 0 (l':=stoTo m.sigs k) rfl hlt (fun j hj=>⟨fun h=>⟨h,fun e=>by have:=(stoTo_iff.1 h).1;omega⟩,fun h=>h.1⟩)
   by_cases h3:kd=3
   ·have d3:(kd==3)=true:=by simp [h3]
    rw [if_pos h3] at HTK
    have HU:=Lib.hid hU
    clear h3 hU hO
    go_wp2_with fail
    go_roundw
    case rel=>exact ⟨k+1,by omega,by go_num,by rw [HTK.out];exact HU.out⟩
    case measure=>simp [intOf];omega
   ·have d3:(kd==3)=false:=by simp [h3]
    rw [if_neg h3,List.append_nil] at HTK
    have HU:=Lib.hid hO
    clear h3 hU hO
    go_wp2_with fail
    go_roundw
    case rel=>exact ⟨k+1,by omega,by go_num,by rw [HTK.out];exact HU.out⟩
    case measure=>simp [intOf];omega
  ·have hkn:k=sn:=by omega
   have hdk:decide ((k:Int)<(sn:Int))=false:=by simp;omega
   clear hlt
   subst k
   have HE:Hid (stoTo m.sigs sn=stoL m 0):=by show _=_;unfold stoL;rw [HL1.out,List.take_zero,List.map_nil,List.append_nil]
   rw [HE.out] at HS
   go_wp2_with fail
   clear x0 lx
   go_loopw [5] (fun i wr=>∃k:Nat,k≤mn∧i = .int .i64 (k:Int)∧Sepa W9 wr [rowBPc g sn (stoL m k)]) (fun i _=>mn - (intOf i).toNat)
   case atStart=>exact ⟨0,by omega,rfl,HS.out⟩
   case round =>
    obtain ⟨k,hk,rfl,hs⟩:=hrel
    have HS:=Lib.hid hs
    have HB:=Lib.hid (below_tr HB0.out hs.bel)
    clear hs
    have hx:=heap_tr HS.out.bel HXB.out
    have x3:=cell_heap (k:=3) hx rfl
    have lx:=heap_lt0 hx
    clear hx
    by_cases hlt:k<mn
    ·have hdk:decide ((k:Int)<(mn:Int))=true:=by simp;omega
     have i0:(0:Int)≤(k:Int):=by omega
     have i1:(k:Int)<(mn:Int):=by omega
     have hkl:k<m.mems.length:=by rw [HL4.out];exact hlt
     obtain ⟨bm,om,hMA,hbm,c0,c1,c2,c3⟩:=HM.out.mm.mmE (k:=k) hkl
     subst hMA
     have c3:=(HB.out.cell (p:=⟨bm,om+k * 4+3,none⟩) hbm).trans c3
     have lbm:=below_lt HB.out hbm
     have ho:=HMO.out k hkl
     have HTK:Hid (stoL m (k+1)=stoL m k++[(m.mems[k]?.getD MmT.zero).out]):=by show _=_;unfold stoL;rw [take_snoc (z:=MmT.zero) hkl,List.map_append,←List.append_assoc];rfl
     generalize (m.mems[k]?.getD MmT.zero).out=mo at *
     obtain ⟨O,rfl⟩:∃O:Nat,mo=(O:Int):=⟨mo.toNat,by omega⟩
     have hO2:O<sn:=by omega
     obtain ⟨b0,f0,⟨-,lg⟩,hU⟩:=HS.out.truth 0 rfl hO2
     have HU:=Lib.hid hU
     have q0:(0:Int)≤(O:Int):=by omega
     have q1:(O:Int)<(sn:Int):=by omega
     clear hkl hbm c0 c1 c2 hU ho
     go_wp2_with fail
     go_roundw
     case rel=>exact ⟨k+1,by omega,by go_num,by rw [HTK.out];exact HU.out⟩
     case measure=>simp [intOf];omega
    ·have hkn:k=mn:=by omega
     have hdk:decide ((k:Int)<(mn:Int))=false:=by simp;omega
     clear hlt
     subst k
     go_wp2_with fail
     go_ret
     exact ⟨g,rfl,HS.out.low HB0.out⟩
end Go.Proofs.YtlinbdkbbhpdpaaGreat

namespace Go.Proofs.YtlinbdkbbhpdpaaGreat
set_option maxRecDepth 100000
open Go.RowKit

theorem mask_eq {Y:Nat} (h1:1≤Y) (h4:Y≤4):wrap64 (wrap64 (2 ^ Y) - 1)=mod2 (Y:Int) - 1:=by
 have hY16:=mod2_le (wd:=(Y:Int)) (by omega) (by omega)
 have hYp:=mod2_pos (Y:Int)
 rw [wrap_pow (show Y≤62 by omega),←mod2_nat Y,IntWalk.wrap64_in (mod2 (Y:Int) - 1) ⟨by omega,by omega⟩]
set_option maxHeartbeats 3000000 in
theorem swordStateOk_yes (m:MdT) (SA AA JA MA:Option Addr) (sn sc an ac jn jc mn mc:Nat) (vals words:List Int) (VA WA:Option Addr) (vc wc:Nat) (w:World) (h:MdRd w m SA AA JA MA sn sc an ac jn jc mn mc) (hv:Ints w VA sn vals) (hw:Ints w WA (4 * mn) words) (hf:FlatFit m) (hst:StFt m vals words) :
  Calls Tryz.prog 154 #[.agg #[.slice SA sn sc,.slice AA an ac,.slice JA jn jc,.slice MA mn mc],.agg #[.slice VA sn vc,.slice WA (4 * mn) wc]] w fun e w'=>e = .returned (.bool true)∧Below w.heap.size w w':=by
 have HL1:=Lib.hid h.lens.1
 have HL4:=Lib.hid h.lens.2.2.2
 have HM:=Lib.hid h
 have HV:=Lib.hid hv
 have HW:=Lib.hid hw
 have HF:=Lib.hid hf
 have HST:=Lib.hid hst
 have HT:=Lib.hid (tb_true hf)
 have hs30:sn≤30:=by have h1:=hf.cnt.sg;rw [HL1.out] at h1;exact h1
 have hm2:mn≤2:=by have h1:=hf.cnt.mm;rw [HL4.out] at h1;exact h1
 have hw8:(4 * mn)≤8:=by omega
 have dse:((sn:Int) != (sn:Int))=false:=by simp
 have dwe:(4 * (mn:Int) != 4 * (mn:Int))=false:=by simp
 clear h hv hw hf hst
 have HB0:=Lib.hid (below_new (below_new (Below.refl w.heap.size w) (.cells #[.slice SA sn sc,.slice AA an ac,.slice JA jn jc,.slice MA mn mc] 108)) (.cells #[.slice VA sn vc,.slice WA (4 * mn) wc] 158))
 have hx:=heap_al (.cells #[.slice VA sn vc,.slice WA (4 * mn) wc] 158) (heap_new w (.cells #[.slice SA sn sc,.slice AA an ac,.slice JA jn jc,.slice MA mn mc] 108))
 have hy:=heap_new (w.alloc (.cells #[.slice SA sn sc,.slice AA an ac,.slice JA jn jc,.slice MA mn mc] 108)) (.cells #[.slice VA sn vc,.slice WA (4 * mn) wc] 158)
 simp only [World.size_alloc] at hy
 have HXB:=Lib.hid hx
 have HYB:=Lib.hid hy
 clear hx hy
 go_enter Tryz.func154,Tryz.ntmps154
 go_upto_region 1 with fail
 generalize (w.alloc (.cells #[.slice SA sn sc,.slice AA an ac,.slice JA jn jc,.slice MA mn mc] 108)).alloc (.cells #[.slice VA sn vc,.slice WA (4 * mn) wc] 158)=W9 at *
 obtain ⟨g1,hg1⟩:∃g,w.heap.size=g:=⟨_,rfl⟩
 rw [hg1] at HXB HYB
 (try rw [hg1])
 clear hg1
 obtain ⟨g2,hg2⟩:∃g,g1+1=g:=⟨_,rfl⟩
 rw [hg2] at HYB
 (try rw [hg2])
 clear hg2
 have hx:=HXB.out
 have x0:=cell_heap (k:=0) hx rfl
 have x1:=cell_heap (k:=1) hx rfl
 have x2:=cell_heap (k:=2) hx rfl
 have x3:=cell_heap (k:=3) hx rfl
 have lx:=heap_lt0 hx
 clear hx
 go_wp2_with fail
 refine (sflatOk_any m SA AA JA MA sn sc an ac jn jc mn mc _ (HM.out.below HB0.out)).mono ?_
 rw [HT.out]
 rintro _ w1 ⟨rfl,b1⟩
 have HB1:=Lib.hid (below_tr HB0.out b1)
 have HX2:=Lib.hid (heap_tr b1 HXB.out)
 have HY2:=Lib.hid (heap_tr b1 HYB.out)
 clear b1 x0 x1 x2 x3 lx
 have hx:=HX2.out
 have x0:=cell_heap (k:=0) hx rfl
 have x1:=cell_heap (k:=1) hx rfl
 have x2:=cell_heap (k:=2) hx rfl
 have x3:=cell_heap (k:=3) hx rfl
 have lx:=heap_lt0 hx
 clear hx
 have hy:=HY2.out
 have y0:=cell_heap (k:=0) hy rfl
 have y1:=cell_heap (k:=1) hy rfl
 have ly:=heap_lt0 hy
 clear hy
 go_wp2_with fail
 refine (sl07States_any m SA AA JA MA sn sc an ac jn jc mn mc _ (HM.out.below HB1.out) hs30 hm2 (fun k hk=>by have h1:=(HF.out.mmf hk).2.2.2.1;rw [show InSg m (mmK m k).out↔0≤(mmK m k).out∧(mmK m k).out<m.sigs.length from Iff.rfl,HL1.out] at h1;exact h1)).mono ?_
 rintro _ w4 ⟨g,rfl,S4⟩
 have HB4:=Lib.hid (below_tr HB1.out S4.bel)
 have HX1:=Lib.hid (heap_tr S4.bel HX2.out)
 have HY1:=Lib.hid (heap_tr S4.bel HY2.out)
 have HS4:=Lib.hid S4
 clear S4 x0 x1 x2 x3 lx y0 y1 ly
 go_wp2_with fail
 go_loopw [6] (fun i wr=>∃k:Nat,k≤sn∧i = .int .i64 (k:Int)∧Below w4.heap.size w4 wr∧(True)) (fun i _=>sn - (intOf i).toNat)
 case atStart=>exact ⟨0,by omega,rfl,Below.refl _ _,trivial⟩
 case round =>
  obtain ⟨k,hlek,rfl,hb,hall⟩:=hrel
  have HALL:=Lib.hid hall
  have HBW:=Lib.hid hb
  have HB:=Lib.hid (below_tr HB4.out hb)
  clear hb hall
  have hx:=heap_tr HBW.out HX1.out
  have x0:=cell_heap (k:=0) hx rfl
  have lx:=heap_lt0 hx
  clear hx
  have hy:=heap_tr HBW.out HY1.out
  have y0:=cell_heap (k:=0) hy rfl
  have ly:=heap_lt0 hy
  clear hy
  by_cases hlt:k<sn
  ·have hdk:decide ((k:Int)<(sn:Int))=true:=by simp;omega
   have i0:(0:Int)≤(k:Int):=by omega
   have i1:(k:Int)<(sn:Int):=by omega
   have hkl:k<m.sigs.length:=by rw [HL1.out];exact hlt
   obtain ⟨bs,os,hSA,hbs,c0,c1,c2⟩:=HM.out.sg.sgE (k:=k) hkl
   subst hSA
   have c1:=(HB.out.cell (p:=⟨bs,os+k * 3+1,none⟩) hbs).trans c1
   have lbs:=below_lt HB.out hbs
   obtain ⟨bv,ov,hVA,hbv,hcv⟩:=HV.out.2 (by omega)
   have cv:=(HB.out.cell (p:=⟨bv,ov+k,none⟩) hbv).trans (hcv k hlt)
   have lbv:=below_lt HB.out hbv
   subst hVA
   have hval:=HST.out.val.2 k hkl
   have hwd:=HF.out.wd hkl
   have hz:=HST.out.zer k hkl
   rw [show (sgK m.sigs k).width=(m.sigs[k]?.getD SgT.zero).width from rfl] at hval hwd
   obtain ⟨Y,hY⟩:∃Y:Nat,(m.sigs[k]?.getD SgT.zero).width=(Y:Int):=⟨((m.sigs[k]?.getD SgT.zero).width).toNat,by omega⟩
   rw [hY] at hval hwd c1
   have HMK:=Lib.hid (mask_eq (Y:=Y) (by omega) (by omega))
   obtain ⟨b0,f0,⟨-,lg⟩,-⟩:=(HS4.out.below HBW.out).truth 0 rfl hlt
   have HSO:=Lib.hid (stoL_iff hkl)
   rw [HL4.out] at HSO
   generalize vals[k]?.getD 0=x at *
   clear hY c0 c2 hbs hcv hbv
   by_cases hst:(k:Int)∈stoL m mn
   ·rw [decide_eq_true hst] at b0
    have H1:=Lib.hid (inR_iff.2 (⟨hval.1,by omega⟩:0≤x∧x≤mod2 (Y:Int) - 1))
    rw [←HMK.out] at H1
    clear hst hz hkl
    go_wp2_with fail
    refine (l01In_any x 0 (wrap64 (wrap64 (2 ^ Y) - 1)) _).mono ?_
    rw [H1.out]
    rintro _ w' ⟨rfl,rfl⟩
    go_wp2_with fail
    go_roundw
    case rel=>exact ⟨k+1,by omega,by go_num,HBW.out,trivial⟩
    case measure=>simp [intOf];omega
   ·rw [decide_eq_false hst] at b0
    have hx0:=hz fun h=>hst (HSO.out.2 h)
    have H1:=Lib.hid (inR_iff.2 (⟨by omega,by omega⟩:0≤x∧x≤0))
    clear hst hz hx0 hkl
    go_wp2_with fail
    refine (l01In_any x 0 (0) _).mono ?_
    rw [H1.out]
    rintro _ w' ⟨rfl,rfl⟩
    go_wp2_with fail
    go_roundw
    case rel=>exact ⟨k+1,by omega,by go_num,HBW.out,trivial⟩
    case measure=>simp [intOf];omega
  ·have hkn:k=sn:=by omega
   have hdk:decide ((k:Int)<(sn:Int))=false:=by simp;omega
   clear hlt
   subst k
   go_wp2_with fail
   clear x0 lx y0 ly
   go_loopw [8] (fun i wr=>∃k:Nat,k≤(4 * mn)∧i = .int .i64 (k:Int)∧Below w4.heap.size w4 wr∧(True)) (fun i _=>(4 * mn) - (intOf i).toNat)
   case atStart=>exact ⟨0,by omega,rfl,HBW.out,trivial⟩
   case round =>
    obtain ⟨k,hlek,rfl,hb,hall⟩:=hrel
    have HALL:=Lib.hid hall
    have HBW:=Lib.hid hb
    have HB:=Lib.hid (below_tr HB4.out hb)
    clear hb hall
    have hy:=heap_tr HBW.out HY1.out
    have y1:=cell_heap (k:=1) hy rfl
    have ly:=heap_lt0 hy
    clear hy
    by_cases hlt:k<(4 * mn)
    ·have hdk:decide ((k:Int)<((4 * mn):Int))=true:=by simp;omega
     have i0:(0:Int)≤(k:Int):=by omega
     have i1:(k:Int)<((4 * mn):Int):=by omega
     obtain ⟨bv,ov,hWA,hbv,hcv⟩:=HW.out.2 (by omega)
     have cv:=(HB.out.cell (p:=⟨bv,ov+k,none⟩) hbv).trans (hcv k hlt)
     have lbv:=below_lt HB.out hbv
     subst hWA
     have hwr:=HST.out.wrd k (by rw [HW.out.1];exact hlt)
     have hj:k / 4<m.mems.length:=by rw [HL4.out];omega
     obtain ⟨bm,om,hMA,hbm,c0,c1,c2,c3⟩:=HM.out.mm.mmE (k:=k / 4) hj
     subst hMA
     have c1:=(HB.out.cell (p:=⟨bm,om+k / 4 * 4+1,none⟩) hbm).trans c1
     have lbm:=below_lt HB.out hbm
     have hdt:=(HF.out.mmf hj).2.1
     rw [show (m.mems[k / 4]?.getD MmT.zero).data=(mmK m (k / 4)).data from rfl] at c1
     generalize (mmK m (k / 4)).data=dt at *
     obtain ⟨D,rfl⟩:∃D:Nat,dt=(D:Int):=⟨dt.toNat,by have:=hdt.1;omega⟩
     have hD2:=hdt.2
     rw [HL1.out] at hD2
     obtain ⟨bs,os,hSA,hbs,z0,z1,z2⟩:=HM.out.sg.sgE (k:=D) (by rw [HL1.out];omega)
     subst hSA
     have z1:=(HB.out.cell (p:=⟨bs,os+D * 3+1,none⟩) hbs).trans z1
     have lbs:=below_lt HB.out hbs
     have hwd:=HF.out.wd (s:=D) (by rw [HL1.out];omega)
     rw [show (sgI m (D:Int)).width=(m.sigs[D]?.getD SgT.zero).width from rfl] at hwr
     rw [show (sgK m.sigs D).width=(m.sigs[D]?.getD SgT.zero).width from rfl] at hwd
     obtain ⟨Y,hY⟩:∃Y:Nat,(m.sigs[D]?.getD SgT.zero).width=(Y:Int):=⟨((m.sigs[D]?.getD SgT.zero).width).toNat,by omega⟩
     rw [hY] at hwr hwd z1
     have HMK:=Lib.hid (mask_eq (Y:=Y) (by omega) (by omega))
     have e2:IntKind.i64.wrap ((k:Int).tdiv 4)=((k / 4:Nat):Int):=by rw [IntWalk.i64_quo _ _ ⟨by omega,by omega,by omega⟩];omega
     generalize words[k]?.getD 0=x at *
     have H1:=Lib.hid (inR_iff.2 (⟨hwr.1,by omega⟩:0≤x∧x≤mod2 (Y:Int) - 1))
     rw [←HMK.out] at H1
     have HIN:=Lib.hid (fun (v:Sub wr)=>(by have h:=l01In_any x 0 (wrap64 (wrap64 (2 ^ Y) - 1)) v.v;rwa [H1.out] at h:Calls Tryz.prog 98 #[.int .i64 x,.int .i64 0,.int .i64 (wrap64 (wrap64 (2 ^ Y) - 1))] v.v fun e w'=>e = .returned (.bool true)∧v.v=w'))
     have q0:(0:Int)≤(D:Int):=by omega
     have r0:(0:Int)≤((k / 4:Nat):Int):=by omega
     have r1:((k / 4:Nat):Int)<(mn:Int):=by omega
     clear hY c0 c2 c3 z0 z2 hbs hbm hcv hbv hdt hj
     clear y1 ly
     have hx:=heap_tr HBW.out HX1.out
     have x0:=cell_heap (k:=0) hx rfl
     have x3:=cell_heap (k:=3) hx rfl
     have lx:=heap_lt0 hx
     clear hx
     have hy:=heap_tr HBW.out HY1.out
     have y1:=cell_heap (k:=1) hy rfl
     have ly:=heap_lt0 hy
     clear hy
     go_upto_region 15 with fail
     have hsub:=sub_ne wr
     have hsc:=sub_cell wr
     refine wp_region_below wr (by kernel_rfl) (by kernel_rfl) (Below.refl _ _) ?_
     repeat (go_big_quiet_step ((first
      | (go_at_call 98;with_reducible exact calls_sub_same (HIN.out _)))))
     refine wpQuiet_nil ?_
     rintro _ ⟨⟨w5,hD⟩,rfl⟩
     clear hsub hsc
     have HB2:=Lib.hid (below_tr HBW.out hD)
     clear hD
     go_wp2_with fail
     go_roundw
     case rel=>exact ⟨k+1,by omega,by go_num,HB2.out,trivial⟩
     case measure=>simp [intOf];omega
    ·have hkn:k=(4 * mn):=by omega
     have hdk:decide ((k:Int)<((4 * mn):Int))=false:=by simp;omega
     clear hlt
     subst k
     go_wp2_with fail
     go_ret
     exact ⟨rfl,HB.out⟩
end Go.Proofs.YtlinbdkbbhpdpaaGreat
