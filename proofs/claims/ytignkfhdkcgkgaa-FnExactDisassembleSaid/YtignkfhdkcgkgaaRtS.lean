/- Routing nodes of the reference: pins, wires, which nodes exist. -/
import Derived.Test.YtignkfhdkcgkgaaRt5
namespace Go.Proofs.Ytignkfhdkcgkgaa
set_option maxRecDepth 100000
open Go.RowKit

theorem l01_call {n lo hi:Int} {b:Bool} (h:inR n lo hi=b) (w:World):Calls Try.prog 60 #[.int .i64 n,.int .i64 lo,.int .i64 hi] w fun e w'=>e = .returned (.bool b)∧w=w':=by
 have:=l01In_any n lo hi w
 rwa [h] at this
theorem wrap_add2 {a b:Int} (hb:-9223372036854775808≤b∧b≤9223372036854775807) (h:-9223372036854775808≤a+b∧a+b≤9223372036854775807):IntKind.i64.wrap (a+IntKind.i64.wrap b)=a+b:=by rw [IntWalk.i64_in b hb,IntWalk.i64_in _ h]
/-- Behind a region: a number in a slot, and memory as it was. -/
def CutN (X:Int) (w1:World) (s:Value) (wx:World):Prop:=s = .int .i64 X∧Below w1.heap.size w1 wx
theorem stileKind_in (d:Dev) (t:Int) (w:World) (ht:tileIn d t=true) :
  Calls Try.prog 22 #[.agg #[.int .i64 d.W,.int .i64 d.H,.int .i64 d.T,.int .i64 d.R],.int .i64 t] w fun e w'=>e = .returned (.int .i64 (kindOf d t))∧Below w.heap.size w w':=by
 obtain ⟨hd,h0,h1⟩:=tileIn_iff.1 ht
 have hWH:=dev_WH hd
 have:=stileKind_any d t w (by omega)
 rwa [tileKind_in hd h0 h1] at this
theorem stileKind_out (d:Dev) (t:Int) (w:World) (ht:tileIn d t=false) (hb:t≤1099511627776) :
  Calls Try.prog 22 #[.agg #[.int .i64 d.W,.int .i64 d.H,.int .i64 d.T,.int .i64 d.R],.int .i64 t] w fun e w'=>e = .returned (.int .i64 (-1))∧Below w.heap.size w w':=by
 have:=stileKind_any d t w hb
 have e:tileKind d t=-1:=by
  unfold tileKind
  rw [if_neg]
  intro h
  rw [tileIn_iff.2 h] at ht
  cases ht
 rwa [e] at this

set_option maxHeartbeats 400000 in
theorem l27Per_any (d:Dev) (w:World) (h0:0≤d.T) (h1:d.T≤1099511627776) :
  Calls Try.prog 19 #[.agg #[.int .i64 d.W,.int .i64 d.H,.int .i64 d.T,.int .i64 d.R]] w fun e w'=>e = .returned (.int .i64 (perT d))∧Below w.heap.size w w':=by
 unfold perT
 go_enter Try.func19,Try.ntmps19
 go_wp2
 go_ret
 exact ⟨rfl,below_new (Below.refl _ _) _⟩
def rnOf (d:Dev):Int:=if devOk d=true then nodesOf d else 0
set_option maxHeartbeats 1000000 in
theorem sRouteNodes_any (d:Dev) (w:World) :
  Calls Try.prog 21 #[.agg #[.int .i64 d.W,.int .i64 d.H,.int .i64 d.T,.int .i64 d.R]] w fun e w'=>e = .returned (.int .i64 (rnOf d))∧Below w.heap.size w w':=by
 go_enter Try.func21,Try.ntmps21
 go_wp2_with fail
 refine (sdeviceOk_any d _).mono ?_
 rintro e w1 ⟨rfl,b1⟩
 have B1:=Lib.hid (below_tr (below_new (Below.refl _ _) _) b1)
 have hs1:=b1.size
 simp only [World.size_alloc] at hs1
 obtain ⟨hcc,hff⟩:=bcell b1
 clear b1
 cases hd:devOk d with
 | false =>
  have HD:=Lib.hid hd
  clear hd
  go_wp2_with fail
  go_ret
  exact ⟨ret_int (by rw [rnOf,HD.out];rfl),B1.out⟩
 | true =>
  have hT:=devOk_bd hd
  have hWH:=dev_WH hd
  have hp:=perT_bd hd
  have hn:=nodesOf_bd hd
  have HD:=Lib.hid hd
  have HN:=Lib.hid (show nodesOf d=d.W * d.H * perT d from rfl)
  rw [HN.out] at hn
  have HR:Hid (rnOf d=d.W * d.H * perT d):=by show _=_;rw [rnOf,if_pos hd];rfl
  clear hd
  go_wp2_with fail
  have hwW:w.heap.size<w1.heap.size:=by omega
  have hsub:=sub_ne w1
  have hsc:=sub_cell w1
  refine wp_region_below w1 (by kernel_rfl) (by kernel_rfl) (Below.refl _ _) ?_
  repeat (go_big_quiet_step ((first
   | (go_at_call 19;with_reducible exact calls_sub (l27Per_any d _ (by omega) (by omega))))))
  refine wpQuiet_nil ?_
  rintro _ ⟨⟨w2,hD⟩,rfl⟩
  clear hsub hsc
  go_wp2_with fail
  go_ret
  exact ⟨ret_int (by rw [HR.out]),below_tr B1.out hD⟩

set_option maxHeartbeats 1000000 in
theorem stileStep_0 (d:Dev) (t s:Int) (w:World) (ht:tileIn d t=true) (h0:0≤s) (h1:s≤6) :
  Calls Try.prog 69 #[.agg #[.int .i64 d.W,.int .i64 d.H,.int .i64 d.T,.int .i64 d.R],.int .i64 t,.int .i64 0,.int .i64 s] w fun e w'=>e = .returned (.int .i64 (stepOf d t 0 s))∧Below w.heap.size w w':=by
 have hd:=(tileIn_iff.1 ht).1
 have ht0:=(tileIn_iff.1 ht).2.1
 have ht1:=(tileIn_iff.1 ht).2.2
 have hWH:=dev_WH hd
 obtain ⟨hw1,hw2,hh1,hh2,-⟩:=devOk_bd hd
 obtain ⟨x0,x1,y0,y1,-⟩:=tile_xy ht
 have e0:¬d.W=0:=by omega
 have e1:t.tmod d.W=t % d.W:=Int.tmod_eq_emod_of_nonneg ht0
 have e2:IntKind.i64.wrap (t.tdiv d.W)=t / d.W:=IntWalk.i64_quo _ _ ⟨ht0,by omega,by omega⟩
 have HTI:=Lib.hid ht
 have HM:=Lib.hid (fun (h:0≤stY d t 0 s∧stY d t 0 s≤d.H - 1)=>mul_bd h.1 (show stY d t 0 s≤5 by omega) (show 0≤d.W by omega) (show d.W≤6 by omega))
 have HS:=Lib.hid (show stIn d t 0 s=(inR (stX d t 0 s) 0 (d.W - 1) && inR (stY d t 0 s) 0 (d.H - 1)) from rfl)
 have HT:=Lib.hid (show stepOf d t 0 s=if stIn d t 0 s=true then stY d t 0 s * d.W+stX d t 0 s else -1 from rfl)
 generalize hX:stX d t 0 s=X at *
 generalize hY:stY d t 0 s=Y at *
 generalize stepOf d t 0 s=P at *
 generalize stIn d t 0 s=B at *
 obtain rfl:t % d.W+s=X:=by rw [←hX];simp [stX]
 obtain rfl:t / d.W=Y:=by rw [←hY];simp [stY]
 have hL1:=l01_call (n:=0) (lo:=0) (hi:=3) (b:=true) (by decide)
 have hL2:=l01_call (n:=s) (lo:=0) (hi:=6) (b:=true) (inR_iff.2 ⟨h0,h1⟩)
 have HL1:=Lib.hid hL1
 have HL2:=Lib.hid hL2
 clear ht hd hX hY hL1 hL2
 go_enter Try.func69,Try.ntmps69
 go_wp2_with fail
 refine (stileKind_in d t _ HTI.out).mono ?_
 rintro e w1 ⟨rfl,b1⟩
 have hk3:=kindOf_bd d t
 generalize kindOf d t=K at *
 have B1:=Lib.hid (below_tr (below_new (Below.refl _ _) _) b1)
 have hs1:=b1.size
 simp only [World.size_alloc] at hs1
 obtain ⟨hcc,hff⟩:=bcell b1
 have hkk:decide (K<0)=false:=by simp;omega
 clear b1
 have hwW:w.heap.size<w1.heap.size:=by omega
 go_wp2_with (go_at_call 60;(first|((with_reducible refine (HL1.out _).mono ?_);rintro e w' ⟨rfl,rfl⟩)|((with_reducible refine (HL2.out _).mono ?_);rintro e w' ⟨rfl,rfl⟩)))
 have HXW:Hid (IntKind.i64.wrap (t % d.W+IntKind.i64.wrap s)=t % d.W+s):=(wrap_add2 (by omega) (by omega)).trans (by omega)
 have HYW:Hid (IntKind.i64.wrap (t / d.W+IntKind.i64.wrap 0)=t / d.W):=(wrap_add2 (by omega) (by omega)).trans (by omega)
 go_cut [9] (fun s9 wx=>CutN (t % d.W+s) w1 s9 wx)
 case first =>
  clear hk3 hkk h0 h1 ht0 ht1 hh1 hh2 hWH
  go_region_with (fail)
  all_goals
   go_wp2_with fail
   go_meet
   exact ⟨by rw [HXW.out],below_new (Below.refl _ _).drew _⟩
 obtain ⟨rfl,hD1⟩:=hcut
 have hwx:=below_lt hD1 hwW
 have hcx:=(bcell hD1).1
 go_wp2_with fail
 go_cut [10] (fun s10 wy=>CutN (t / d.W) w1 s10 wy)
 case first =>
  clear hk3 hkk h0 h1 ht0 ht1 hh1 hh2 hWH
  go_region_with (fail)
  all_goals
   go_wp2_with fail
   go_meet
   exact ⟨by rw [HYW.out],below_tr hD1 (below_new (Below.refl _ _).drew _)⟩
 obtain ⟨rfl,hD⟩:=hcut
 have hwy:=below_lt hD hwW
 have hcy:=(bcell hD).1
 clear e1 e2 hcx
 cases hX:inR (t % d.W+s) 0 (d.W - 1) with
 | false =>
  have HXX:=Lib.hid (l01_call hX)
  have HXX':=Lib.hid hX
  clear hX
  go_wp2_with (go_at_call 60;(with_reducible refine (HXX.out _).mono ?_);rintro e w' ⟨rfl,rfl⟩)
  go_ret
  exact ⟨ret_int (by rw [HT.out,HS.out,HXX'.out];rfl),below_tr B1.out hD⟩
 | true =>
  have HXX:=Lib.hid (l01_call hX)
  have HXX':=Lib.hid hX
  clear hX
  cases hY:inR (t / d.W) 0 (d.H - 1) with
  | false =>
   have HYY:=Lib.hid (l01_call hY)
   have HYY':=Lib.hid hY
   clear hY
   go_wp2_with (go_at_call 60;(first|((with_reducible refine (HXX.out _).mono ?_);rintro e w' ⟨rfl,rfl⟩)|((with_reducible refine (HYY.out _).mono ?_);rintro e w' ⟨rfl,rfl⟩)))
   go_ret
   exact ⟨ret_int (by rw [HT.out,HS.out,HXX'.out,HYY'.out];rfl),below_tr B1.out hD⟩
  | true =>
   have HYY:=Lib.hid (l01_call hY)
   have HYY':=Lib.hid hY
   have hM:=HM.out (inR_iff.1 hY)
   have hx2:=(inR_iff.1 HXX'.out)
   clear hY
   go_wp2_with (go_at_call 60;(first|((with_reducible refine (HXX.out _).mono ?_);rintro e w' ⟨rfl,rfl⟩)|((with_reducible refine (HYY.out _).mono ?_);rintro e w' ⟨rfl,rfl⟩)))
   go_ret
   exact ⟨ret_int (by rw [HT.out,HS.out,HXX'.out,HYY'.out];first|rfl|(simp;done)|(simp;omega)),below_tr B1.out hD⟩
set_option maxHeartbeats 1000000 in
theorem stileStep_1 (d:Dev) (t s:Int) (w:World) (ht:tileIn d t=true) (h0:0≤s) (h1:s≤6) :
  Calls Try.prog 69 #[.agg #[.int .i64 d.W,.int .i64 d.H,.int .i64 d.T,.int .i64 d.R],.int .i64 t,.int .i64 1,.int .i64 s] w fun e w'=>e = .returned (.int .i64 (stepOf d t 1 s))∧Below w.heap.size w w':=by
 have hd:=(tileIn_iff.1 ht).1
 have ht0:=(tileIn_iff.1 ht).2.1
 have ht1:=(tileIn_iff.1 ht).2.2
 have hWH:=dev_WH hd
 obtain ⟨hw1,hw2,hh1,hh2,-⟩:=devOk_bd hd
 obtain ⟨x0,x1,y0,y1,-⟩:=tile_xy ht
 have e0:¬d.W=0:=by omega
 have e1:t.tmod d.W=t % d.W:=Int.tmod_eq_emod_of_nonneg ht0
 have e2:IntKind.i64.wrap (t.tdiv d.W)=t / d.W:=IntWalk.i64_quo _ _ ⟨ht0,by omega,by omega⟩
 have HTI:=Lib.hid ht
 have HM:=Lib.hid (fun (h:0≤stY d t 1 s∧stY d t 1 s≤d.H - 1)=>mul_bd h.1 (show stY d t 1 s≤5 by omega) (show 0≤d.W by omega) (show d.W≤6 by omega))
 have HS:=Lib.hid (show stIn d t 1 s=(inR (stX d t 1 s) 0 (d.W - 1) && inR (stY d t 1 s) 0 (d.H - 1)) from rfl)
 have HT:=Lib.hid (show stepOf d t 1 s=if stIn d t 1 s=true then stY d t 1 s * d.W+stX d t 1 s else -1 from rfl)
 generalize hX:stX d t 1 s=X at *
 generalize hY:stY d t 1 s=Y at *
 generalize stepOf d t 1 s=P at *
 generalize stIn d t 1 s=B at *
 obtain rfl:t % d.W=X:=by rw [←hX];simp [stX]
 obtain rfl:t / d.W+s=Y:=by rw [←hY];simp [stY]
 have hL1:=l01_call (n:=1) (lo:=0) (hi:=3) (b:=true) (by decide)
 have hL2:=l01_call (n:=s) (lo:=0) (hi:=6) (b:=true) (inR_iff.2 ⟨h0,h1⟩)
 have HL1:=Lib.hid hL1
 have HL2:=Lib.hid hL2
 clear ht hd hX hY hL1 hL2
 go_enter Try.func69,Try.ntmps69
 go_wp2_with fail
 refine (stileKind_in d t _ HTI.out).mono ?_
 rintro e w1 ⟨rfl,b1⟩
 have hk3:=kindOf_bd d t
 generalize kindOf d t=K at *
 have B1:=Lib.hid (below_tr (below_new (Below.refl _ _) _) b1)
 have hs1:=b1.size
 simp only [World.size_alloc] at hs1
 obtain ⟨hcc,hff⟩:=bcell b1
 have hkk:decide (K<0)=false:=by simp;omega
 clear b1
 have hwW:w.heap.size<w1.heap.size:=by omega
 go_wp2_with (go_at_call 60;(first|((with_reducible refine (HL1.out _).mono ?_);rintro e w' ⟨rfl,rfl⟩)|((with_reducible refine (HL2.out _).mono ?_);rintro e w' ⟨rfl,rfl⟩)))
 have HXW:Hid (IntKind.i64.wrap (t % d.W+IntKind.i64.wrap 0)=t % d.W):=(wrap_add2 (by omega) (by omega)).trans (by omega)
 have HYW:Hid (IntKind.i64.wrap (t / d.W+IntKind.i64.wrap s)=t / d.W+s):=(wrap_add2 (by omega) (by omega)).trans (by omega)
 go_cut [9] (fun s9 wx=>CutN (t % d.W) w1 s9 wx)
 case first =>
  clear hk3 hkk h0 h1 ht0 ht1 hh1 hh2 hWH
  go_region_with (fail)
  all_goals
   go_wp2_with fail
   go_meet
   exact ⟨by rw [HXW.out],below_new (Below.refl _ _).drew _⟩
 obtain ⟨rfl,hD1⟩:=hcut
 have hwx:=below_lt hD1 hwW
 have hcx:=(bcell hD1).1
 go_wp2_with fail
 go_cut [10] (fun s10 wy=>CutN (t / d.W+s) w1 s10 wy)
 case first =>
  clear hk3 hkk h0 h1 ht0 ht1 hh1 hh2 hWH
  go_region_with (fail)
  all_goals
   go_wp2_with fail
   go_meet
   exact ⟨by rw [HYW.out],below_tr hD1 (below_new (Below.refl _ _).drew _)⟩
 obtain ⟨rfl,hD⟩:=hcut
 have hwy:=below_lt hD hwW
 have hcy:=(bcell hD).1
 clear e1 e2 hcx
 cases hX:inR (t % d.W) 0 (d.W - 1) with
 | false =>
  have HXX:=Lib.hid (l01_call hX)
  have HXX':=Lib.hid hX
  clear hX
  go_wp2_with (go_at_call 60;(with_reducible refine (HXX.out _).mono ?_);rintro e w' ⟨rfl,rfl⟩)
  go_ret
  exact ⟨ret_int (by rw [HT.out,HS.out,HXX'.out];rfl),below_tr B1.out hD⟩
 | true =>
  have HXX:=Lib.hid (l01_call hX)
  have HXX':=Lib.hid hX
  clear hX
  cases hY:inR (t / d.W+s) 0 (d.H - 1) with
  | false =>
   have HYY:=Lib.hid (l01_call hY)
   have HYY':=Lib.hid hY
   clear hY
   go_wp2_with (go_at_call 60;(first|((with_reducible refine (HXX.out _).mono ?_);rintro e w' ⟨rfl,rfl⟩)|((with_reducible refine (HYY.out _).mono ?_);rintro e w' ⟨rfl,rfl⟩)))
   go_ret
   exact ⟨ret_int (by rw [HT.out,HS.out,HXX'.out,HYY'.out];rfl),below_tr B1.out hD⟩
  | true =>
   have HYY:=Lib.hid (l01_call hY)
   have HYY':=Lib.hid hY
   have hM:=HM.out (inR_iff.1 hY)
   have hx2:=(inR_iff.1 HXX'.out)
   clear hY
   go_wp2_with (go_at_call 60;(first|((with_reducible refine (HXX.out _).mono ?_);rintro e w' ⟨rfl,rfl⟩)|((with_reducible refine (HYY.out _).mono ?_);rintro e w' ⟨rfl,rfl⟩)))
   go_ret
   exact ⟨ret_int (by rw [HT.out,HS.out,HXX'.out,HYY'.out];first|rfl|(simp;done)|(simp;omega)),below_tr B1.out hD⟩
set_option maxHeartbeats 1000000 in
theorem stileStep_2 (d:Dev) (t s:Int) (w:World) (ht:tileIn d t=true) (h0:0≤s) (h1:s≤6) :
  Calls Try.prog 69 #[.agg #[.int .i64 d.W,.int .i64 d.H,.int .i64 d.T,.int .i64 d.R],.int .i64 t,.int .i64 2,.int .i64 s] w fun e w'=>e = .returned (.int .i64 (stepOf d t 2 s))∧Below w.heap.size w w':=by
 have hd:=(tileIn_iff.1 ht).1
 have ht0:=(tileIn_iff.1 ht).2.1
 have ht1:=(tileIn_iff.1 ht).2.2
 have hWH:=dev_WH hd
 obtain ⟨hw1,hw2,hh1,hh2,-⟩:=devOk_bd hd
 obtain ⟨x0,x1,y0,y1,-⟩:=tile_xy ht
 have e0:¬d.W=0:=by omega
 have e1:t.tmod d.W=t % d.W:=Int.tmod_eq_emod_of_nonneg ht0
 have e2:IntKind.i64.wrap (t.tdiv d.W)=t / d.W:=IntWalk.i64_quo _ _ ⟨ht0,by omega,by omega⟩
 have HTI:=Lib.hid ht
 have HM:=Lib.hid (fun (h:0≤stY d t 2 s∧stY d t 2 s≤d.H - 1)=>mul_bd h.1 (show stY d t 2 s≤5 by omega) (show 0≤d.W by omega) (show d.W≤6 by omega))
 have HS:=Lib.hid (show stIn d t 2 s=(inR (stX d t 2 s) 0 (d.W - 1) && inR (stY d t 2 s) 0 (d.H - 1)) from rfl)
 have HT:=Lib.hid (show stepOf d t 2 s=if stIn d t 2 s=true then stY d t 2 s * d.W+stX d t 2 s else -1 from rfl)
 generalize hX:stX d t 2 s=X at *
 generalize hY:stY d t 2 s=Y at *
 generalize stepOf d t 2 s=P at *
 generalize stIn d t 2 s=B at *
 obtain rfl:t % d.W - s=X:=by rw [←hX];simp [stX]
 obtain rfl:t / d.W=Y:=by rw [←hY];simp [stY]
 have hL1:=l01_call (n:=2) (lo:=0) (hi:=3) (b:=true) (by decide)
 have hL2:=l01_call (n:=s) (lo:=0) (hi:=6) (b:=true) (inR_iff.2 ⟨h0,h1⟩)
 have HL1:=Lib.hid hL1
 have HL2:=Lib.hid hL2
 clear ht hd hX hY hL1 hL2
 go_enter Try.func69,Try.ntmps69
 go_wp2_with fail
 refine (stileKind_in d t _ HTI.out).mono ?_
 rintro e w1 ⟨rfl,b1⟩
 have hk3:=kindOf_bd d t
 generalize kindOf d t=K at *
 have B1:=Lib.hid (below_tr (below_new (Below.refl _ _) _) b1)
 have hs1:=b1.size
 simp only [World.size_alloc] at hs1
 obtain ⟨hcc,hff⟩:=bcell b1
 have hkk:decide (K<0)=false:=by simp;omega
 clear b1
 have hwW:w.heap.size<w1.heap.size:=by omega
 go_wp2_with (go_at_call 60;(first|((with_reducible refine (HL1.out _).mono ?_);rintro e w' ⟨rfl,rfl⟩)|((with_reducible refine (HL2.out _).mono ?_);rintro e w' ⟨rfl,rfl⟩)))
 have HXW:Hid (IntKind.i64.wrap (t % d.W+IntKind.i64.wrap (-s))=t % d.W - s):=(wrap_add2 (by omega) (by omega)).trans (by omega)
 have HYW:Hid (IntKind.i64.wrap (t / d.W+IntKind.i64.wrap 0)=t / d.W):=(wrap_add2 (by omega) (by omega)).trans (by omega)
 go_cut [9] (fun s9 wx=>CutN (t % d.W - s) w1 s9 wx)
 case first =>
  clear hk3 hkk h0 h1 ht0 ht1 hh1 hh2 hWH
  go_region_with (fail)
  all_goals
   go_wp2_with fail
   go_meet
   exact ⟨by rw [HXW.out],below_new (Below.refl _ _).drew _⟩
 obtain ⟨rfl,hD1⟩:=hcut
 have hwx:=below_lt hD1 hwW
 have hcx:=(bcell hD1).1
 go_wp2_with fail
 go_cut [10] (fun s10 wy=>CutN (t / d.W) w1 s10 wy)
 case first =>
  clear hk3 hkk h0 h1 ht0 ht1 hh1 hh2 hWH
  go_region_with (fail)
  all_goals
   go_wp2_with fail
   go_meet
   exact ⟨by rw [HYW.out],below_tr hD1 (below_new (Below.refl _ _).drew _)⟩
 obtain ⟨rfl,hD⟩:=hcut
 have hwy:=below_lt hD hwW
 have hcy:=(bcell hD).1
 clear e1 e2 hcx
 cases hX:inR (t % d.W - s) 0 (d.W - 1) with
 | false =>
  have HXX:=Lib.hid (l01_call hX)
  have HXX':=Lib.hid hX
  clear hX
  go_wp2_with (go_at_call 60;(with_reducible refine (HXX.out _).mono ?_);rintro e w' ⟨rfl,rfl⟩)
  go_ret
  exact ⟨ret_int (by rw [HT.out,HS.out,HXX'.out];rfl),below_tr B1.out hD⟩
 | true =>
  have HXX:=Lib.hid (l01_call hX)
  have HXX':=Lib.hid hX
  clear hX
  cases hY:inR (t / d.W) 0 (d.H - 1) with
  | false =>
   have HYY:=Lib.hid (l01_call hY)
   have HYY':=Lib.hid hY
   clear hY
   go_wp2_with (go_at_call 60;(first|((with_reducible refine (HXX.out _).mono ?_);rintro e w' ⟨rfl,rfl⟩)|((with_reducible refine (HYY.out _).mono ?_);rintro e w' ⟨rfl,rfl⟩)))
   go_ret
   exact ⟨ret_int (by rw [HT.out,HS.out,HXX'.out,HYY'.out];rfl),below_tr B1.out hD⟩
  | true =>
   have HYY:=Lib.hid (l01_call hY)
   have HYY':=Lib.hid hY
   have hM:=HM.out (inR_iff.1 hY)
   have hx2:=(inR_iff.1 HXX'.out)
   clear hY
   go_wp2_with (go_at_call 60;(first|((with_reducible refine (HXX.out _).mono ?_);rintro e w' ⟨rfl,rfl⟩)|((with_reducible refine (HYY.out _).mono ?_);rintro e w' ⟨rfl,rfl⟩)))
   go_ret
   exact ⟨ret_int (by rw [HT.out,HS.out,HXX'.out,HYY'.out];first|rfl|(simp;done)|(simp;omega)),below_tr B1.out hD⟩
set_option maxHeartbeats 1000000 in
theorem stileStep_3 (d:Dev) (t s:Int) (w:World) (ht:tileIn d t=true) (h0:0≤s) (h1:s≤6) :
  Calls Try.prog 69 #[.agg #[.int .i64 d.W,.int .i64 d.H,.int .i64 d.T,.int .i64 d.R],.int .i64 t,.int .i64 3,.int .i64 s] w fun e w'=>e = .returned (.int .i64 (stepOf d t 3 s))∧Below w.heap.size w w':=by
 have hd:=(tileIn_iff.1 ht).1
 have ht0:=(tileIn_iff.1 ht).2.1
 have ht1:=(tileIn_iff.1 ht).2.2
 have hWH:=dev_WH hd
 obtain ⟨hw1,hw2,hh1,hh2,-⟩:=devOk_bd hd
 obtain ⟨x0,x1,y0,y1,-⟩:=tile_xy ht
 have e0:¬d.W=0:=by omega
 have e1:t.tmod d.W=t % d.W:=Int.tmod_eq_emod_of_nonneg ht0
 have e2:IntKind.i64.wrap (t.tdiv d.W)=t / d.W:=IntWalk.i64_quo _ _ ⟨ht0,by omega,by omega⟩
 have HTI:=Lib.hid ht
 have HM:=Lib.hid (fun (h:0≤stY d t 3 s∧stY d t 3 s≤d.H - 1)=>mul_bd h.1 (show stY d t 3 s≤5 by omega) (show 0≤d.W by omega) (show d.W≤6 by omega))
 have HS:=Lib.hid (show stIn d t 3 s=(inR (stX d t 3 s) 0 (d.W - 1) && inR (stY d t 3 s) 0 (d.H - 1)) from rfl)
 have HT:=Lib.hid (show stepOf d t 3 s=if stIn d t 3 s=true then stY d t 3 s * d.W+stX d t 3 s else -1 from rfl)
 generalize hX:stX d t 3 s=X at *
 generalize hY:stY d t 3 s=Y at *
 generalize stepOf d t 3 s=P at *
 generalize stIn d t 3 s=B at *
 obtain rfl:t % d.W=X:=by rw [←hX];simp [stX]
 obtain rfl:t / d.W - s=Y:=by rw [←hY];simp [stY]
 have hL1:=l01_call (n:=3) (lo:=0) (hi:=3) (b:=true) (by decide)
 have hL2:=l01_call (n:=s) (lo:=0) (hi:=6) (b:=true) (inR_iff.2 ⟨h0,h1⟩)
 have HL1:=Lib.hid hL1
 have HL2:=Lib.hid hL2
 clear ht hd hX hY hL1 hL2
 go_enter Try.func69,Try.ntmps69
 go_wp2_with fail
 refine (stileKind_in d t _ HTI.out).mono ?_
 rintro e w1 ⟨rfl,b1⟩
 have hk3:=kindOf_bd d t
 generalize kindOf d t=K at *
 have B1:=Lib.hid (below_tr (below_new (Below.refl _ _) _) b1)
 have hs1:=b1.size
 simp only [World.size_alloc] at hs1
 obtain ⟨hcc,hff⟩:=bcell b1
 have hkk:decide (K<0)=false:=by simp;omega
 clear b1
 have hwW:w.heap.size<w1.heap.size:=by omega
 go_wp2_with (go_at_call 60;(first|((with_reducible refine (HL1.out _).mono ?_);rintro e w' ⟨rfl,rfl⟩)|((with_reducible refine (HL2.out _).mono ?_);rintro e w' ⟨rfl,rfl⟩)))
 have HXW:Hid (IntKind.i64.wrap (t % d.W+IntKind.i64.wrap 0)=t % d.W):=(wrap_add2 (by omega) (by omega)).trans (by omega)
 have HYW:Hid (IntKind.i64.wrap (t / d.W+IntKind.i64.wrap (-s))=t / d.W - s):=(wrap_add2 (by omega) (by omega)).trans (by omega)
 go_cut [9] (fun s9 wx=>CutN (t % d.W) w1 s9 wx)
 case first =>
  clear hk3 hkk h0 h1 ht0 ht1 hh1 hh2 hWH
  go_region_with (fail)
  all_goals
   go_wp2_with fail
   go_meet
   exact ⟨by rw [HXW.out],below_new (Below.refl _ _).drew _⟩
 obtain ⟨rfl,hD1⟩:=hcut
 have hwx:=below_lt hD1 hwW
 have hcx:=(bcell hD1).1
 go_wp2_with fail
 go_cut [10] (fun s10 wy=>CutN (t / d.W - s) w1 s10 wy)
 case first =>
  clear hk3 hkk h0 h1 ht0 ht1 hh1 hh2 hWH
  go_region_with (fail)
  all_goals
   go_wp2_with fail
   go_meet
   exact ⟨by rw [HYW.out],below_tr hD1 (below_new (Below.refl _ _).drew _)⟩
 obtain ⟨rfl,hD⟩:=hcut
 have hwy:=below_lt hD hwW
 have hcy:=(bcell hD).1
 clear e1 e2 hcx
 cases hX:inR (t % d.W) 0 (d.W - 1) with
 | false =>
  have HXX:=Lib.hid (l01_call hX)
  have HXX':=Lib.hid hX
  clear hX
  go_wp2_with (go_at_call 60;(with_reducible refine (HXX.out _).mono ?_);rintro e w' ⟨rfl,rfl⟩)
  go_ret
  exact ⟨ret_int (by rw [HT.out,HS.out,HXX'.out];rfl),below_tr B1.out hD⟩
 | true =>
  have HXX:=Lib.hid (l01_call hX)
  have HXX':=Lib.hid hX
  clear hX
  cases hY:inR (t / d.W - s) 0 (d.H - 1) with
  | false =>
   have HYY:=Lib.hid (l01_call hY)
   have HYY':=Lib.hid hY
   clear hY
   go_wp2_with (go_at_call 60;(first|((with_reducible refine (HXX.out _).mono ?_);rintro e w' ⟨rfl,rfl⟩)|((with_reducible refine (HYY.out _).mono ?_);rintro e w' ⟨rfl,rfl⟩)))
   go_ret
   exact ⟨ret_int (by rw [HT.out,HS.out,HXX'.out,HYY'.out];rfl),below_tr B1.out hD⟩
  | true =>
   have HYY:=Lib.hid (l01_call hY)
   have HYY':=Lib.hid hY
   have hM:=HM.out (inR_iff.1 hY)
   have hx2:=(inR_iff.1 HXX'.out)
   clear hY
   go_wp2_with (go_at_call 60;(first|((with_reducible refine (HXX.out _).mono ?_);rintro e w' ⟨rfl,rfl⟩)|((with_reducible refine (HYY.out _).mono ?_);rintro e w' ⟨rfl,rfl⟩)))
   go_ret
   exact ⟨ret_int (by rw [HT.out,HS.out,HXX'.out,HYY'.out];first|rfl|(simp;done)|(simp;omega)),below_tr B1.out hD⟩
theorem stileStep_any (d:Dev) (t r s:Int) (w:World) (ht:tileIn d t=true) (r0:0≤r) (r3:r≤3) (h0:0≤s) (h1:s≤6) :
 Calls Try.prog 69 #[.agg #[.int .i64 d.W,.int .i64 d.H,.int .i64 d.T,.int .i64 d.R],.int .i64 t,.int .i64 r,.int .i64 s] w fun e w'=>e = .returned (.int .i64 (stepOf d t r s))∧Below w.heap.size w w':=by
 have:r=0∨r=1∨r=2∨r=3:=by omega
 rcases this with rfl|rfl|rfl|rfl
 ·exact stileStep_0 d t s w ht h0 h1
 ·exact stileStep_1 d t s w ht h0 h1
 ·exact stileStep_2 d t s w ht h0 h1
 ·exact stileStep_3 d t s w ht h0 h1
end Go.Proofs.Ytignkfhdkcgkgaa
