/- Routing nodes of the reference: pins, wires, which nodes exist. Pins and wires as nodes, which nodes exist: the reference's functions. Sorting by insertion: the reference's l27Sort. The sources of a routing node: the reference's function. -/
import Derived.Test.YtignkfhdkcgkgaaGreatEmpty
import Derived.Test.YtignkfhdkcgkgaaGreatRt5
namespace Go.Proofs.YtignkfhdkcgkgaaGreat
set_option maxRecDepth 100000
open Go.RowKit

theorem l01_call {n lo hi:Int} {b:Bool} (h:inR n lo hi=b) (w:World):Calls Tryz.prog 175 #[.int .i64 n,.int .i64 lo,.int .i64 hi] w fun e w'=>e = .returned (.bool b)∧w=w':=by
 have:=l01In_any n lo hi w
 rwa [h] at this
theorem wrap_add2 {a b:Int} (hb:-9223372036854775808≤b∧b≤9223372036854775807) (h:-9223372036854775808≤a+b∧a+b≤9223372036854775807):IntKind.i64.wrap (a+IntKind.i64.wrap b)=a+b:=by rw [IntWalk.i64_in b hb,IntWalk.i64_in _ h]
/-- Behind a region: a number in a slot, and memory as it was. -/
def CutN (X:Int) (w1:World) (s:Value) (wx:World):Prop:=s = .int .i64 X∧Below w1.heap.size w1 wx
theorem stileKind_in (d:Dev) (t:Int) (w:World) (ht:tileIn d t=true) :
  Calls Tryz.prog 68 #[.agg #[.int .i64 d.W,.int .i64 d.H,.int .i64 d.T,.int .i64 d.R],.int .i64 t] w fun e w'=>e = .returned (.int .i64 (kindOf d t))∧Below w.heap.size w w':=by
 obtain ⟨hd,h0,h1⟩:=tileIn_iff.1 ht
 have hWH:=dev_WH hd
 have:=stileKind_any d t w (by omega)
 rwa [tileKind_in hd h0 h1] at this
theorem stileKind_out (d:Dev) (t:Int) (w:World) (ht:tileIn d t=false) (hb:t≤1099511627776) :
  Calls Tryz.prog 68 #[.agg #[.int .i64 d.W,.int .i64 d.H,.int .i64 d.T,.int .i64 d.R],.int .i64 t] w fun e w'=>e = .returned (.int .i64 (-1))∧Below w.heap.size w w':=by
 have:=stileKind_any d t w hb
 have e:tileKind d t=-1:=by
  unfold tileKind
  rw [if_neg]
  intro h
  rw [tileIn_iff.2 h] at ht
  cases ht
 rwa [e] at this

set_option maxHeartbeats 400000 in
theorem l27Per_any (d:Dev) (w:World) (h0:0≤d.T) (h1:d.T≤1099511627776) :
  Calls Tryz.prog 65 #[.agg #[.int .i64 d.W,.int .i64 d.H,.int .i64 d.T,.int .i64 d.R]] w fun e w'=>e = .returned (.int .i64 (perT d))∧Below w.heap.size w w':=by
 unfold perT
 go_enter Tryz.func65,Tryz.ntmps65
 go_wp2
 go_ret
 exact ⟨rfl,below_new (Below.refl _ _) _⟩
def rnOf (d:Dev):Int:=if devOk d=true then nodesOf d else 0
set_option maxHeartbeats 1000000 in
theorem sRouteNodes_any (d:Dev) (w:World) :
  Calls Tryz.prog 67 #[.agg #[.int .i64 d.W,.int .i64 d.H,.int .i64 d.T,.int .i64 d.R]] w fun e w'=>e = .returned (.int .i64 (rnOf d))∧Below w.heap.size w w':=by
 go_enter Tryz.func67,Tryz.ntmps67
 go_wp2_with fail
 refine (sdeviceOk_any d _).mono ?_
 rintro e w1 ⟨rfl,b1⟩
 have B1:=Lib.hid (below_tr (below_new (Below.refl _ _) _) b1)
 have hs1:=b1.size
 simp only [World.size_alloc] at hs1
 obtain ⟨hcc,hff⟩:=bcell b1
 clear b1
 cases hd:devOk d with
 | false =>
  have HD:=Lib.hid hd
  clear hd
  go_wp2_with fail
  go_ret
  exact ⟨ret_int (by rw [rnOf,HD.out];rfl),B1.out⟩
 | true =>
  have hT:=devOk_bd hd
  have hWH:=dev_WH hd
  have hp:=perT_bd hd
  have hn:=nodesOf_bd hd
  have HD:=Lib.hid hd
  have HN:=Lib.hid (show nodesOf d=d.W * d.H * perT d from rfl)
  rw [HN.out] at hn
  have HR:Hid (rnOf d=d.W * d.H * perT d):=by show _=_;rw [rnOf,if_pos hd];rfl
  clear hd
  go_wp2_with fail
  have hwW:w.heap.size<w1.heap.size:=by omega
  have hsub:=sub_ne w1
  have hsc:=sub_cell w1
  refine wp_region_below w1 (by kernel_rfl) (by kernel_rfl) (Below.refl _ _) ?_
  repeat (go_big_quiet_step ((first
   | (go_at_call 65;with_reducible exact calls_sub (l27Per_any d _ (by omega) (by omega))))))
  refine wpQuiet_nil ?_
  rintro _ ⟨⟨w2,hD⟩,rfl⟩
  clear hsub hsc
  go_wp2_with fail
  go_ret
  exact ⟨ret_int (by rw [HR.out]),below_tr B1.out hD⟩

set_option maxHeartbeats 1000000 in
theorem stileStep_0 (d:Dev) (t s:Int) (w:World) (ht:tileIn d t=true) (h0:0≤s) (h1:s≤6) :
  Calls Tryz.prog 189 #[.agg #[.int .i64 d.W,.int .i64 d.H,.int .i64 d.T,.int .i64 d.R],.int .i64 t,.int .i64 0,.int .i64 s] w fun e w'=>e = .returned (.int .i64 (stepOf d t 0 s))∧Below w.heap.size w w':=by
 have hd:=(tileIn_iff.1 ht).1
 have ht0:=(tileIn_iff.1 ht).2.1
 have ht1:=(tileIn_iff.1 ht).2.2
 have hWH:=dev_WH hd
 obtain ⟨hw1,hw2,hh1,hh2,-⟩:=devOk_bd hd
 obtain ⟨x0,x1,y0,y1,-⟩:=tile_xy ht
 have e0:¬d.W=0:=by omega
 have e1:t.tmod d.W=t % d.W:=Int.tmod_eq_emod_of_nonneg ht0
 have e2:IntKind.i64.wrap (t.tdiv d.W)=t / d.W:=IntWalk.i64_quo _ _ ⟨ht0,by omega,by omega⟩
 have HTI:=Lib.hid ht
 have HM:=Lib.hid (fun (h:0≤stY d t 0 s∧stY d t 0 s≤d.H - 1)=>mul_bd h.1 (show stY d t 0 s≤5 by omega) (show 0≤d.W by omega) (show d.W≤6 by omega))
 have HS:=Lib.hid (show stIn d t 0 s=(inR (stX d t 0 s) 0 (d.W - 1) && inR (stY d t 0 s) 0 (d.H - 1)) from rfl)
 have HT:=Lib.hid (show stepOf d t 0 s=if stIn d t 0 s=true then stY d t 0 s * d.W+stX d t 0 s else -1 from rfl)
 generalize hX:stX d t 0 s=X at *
 generalize hY:stY d t 0 s=Y at *
 generalize stepOf d t 0 s=P at *
 generalize stIn d t 0 s=B at *
 obtain rfl:t % d.W+s=X:=by rw [←hX];simp [stX]
 obtain rfl:t / d.W=Y:=by rw [←hY];simp [stY]
 have hL1:=l01_call (n:=0) (lo:=0) (hi:=3) (b:=true) (by decide)
 have hL2:=l01_call (n:=s) (lo:=0) (hi:=6) (b:=true) (inR_iff.2 ⟨h0,h1⟩)
 have HL1:=Lib.hid hL1
 have HL2:=Lib.hid hL2
 clear ht hd hX hY hL1 hL2
 go_enter Tryz.func189,Tryz.ntmps189
 go_wp2_with fail
 refine (stileKind_in d t _ HTI.out).mono ?_
 rintro e w1 ⟨rfl,b1⟩
 have hk3:=kindOf_bd d t
 generalize kindOf d t=K at *
 have B1:=Lib.hid (below_tr (below_new (Below.refl _ _) _) b1)
 have hs1:=b1.size
 simp only [World.size_alloc] at hs1
 obtain ⟨hcc,hff⟩:=bcell b1
 have hkk:decide (K<0)=false:=by simp;omega
 clear b1
 have hwW:w.heap.size<w1.heap.size:=by omega
 go_wp2_with (go_at_call 175;(first|((with_reducible refine (HL1.out _).mono ?_);rintro e w' ⟨rfl,rfl⟩)|((with_reducible refine (HL2.out _).mono ?_);rintro e w' ⟨rfl,rfl⟩)))
 have HXW:Hid (IntKind.i64.wrap (t % d.W+IntKind.i64.wrap s)=t % d.W+s):=(wrap_add2 (by omega) (by omega)).trans (by omega)
 have HYW:Hid (IntKind.i64.wrap (t / d.W+IntKind.i64.wrap 0)=t / d.W):=(wrap_add2 (by omega) (by omega)).trans (by omega)
 go_cut [9] (fun s9 wx=>CutN (t % d.W+s) w1 s9 wx)
 case first =>
  clear hk3 hkk h0 h1 ht0 ht1 hh1 hh2 hWH
  go_region_with (fail)
  all_goals
   go_wp2_with fail
   go_meet
   exact ⟨by rw [HXW.out],below_new (Below.refl _ _).drew _⟩
 obtain ⟨rfl,hD1⟩:=hcut
 have hwx:=below_lt hD1 hwW
 have hcx:=(bcell hD1).1
 go_wp2_with fail
 go_cut [10] (fun s10 wy=>CutN (t / d.W) w1 s10 wy)
 case first =>
  clear hk3 hkk h0 h1 ht0 ht1 hh1 hh2 hWH
  go_region_with (fail)
  all_goals
   go_wp2_with fail
   go_meet
   exact ⟨by rw [HYW.out],below_tr hD1 (below_new (Below.refl _ _).drew _)⟩
 obtain ⟨rfl,hD⟩:=hcut
 have hwy:=below_lt hD hwW
 have hcy:=(bcell hD).1
 clear e1 e2 hcx
 cases hX:inR (t % d.W+s) 0 (d.W - 1) with
 | false =>
  have HXX:=Lib.hid (l01_call hX)
  have HXX':=Lib.hid hX
  clear hX
  go_wp2_with (go_at_call 175;(with_reducible refine (HXX.out _).mono ?_);rintro e w' ⟨rfl,rfl⟩)
  go_ret
  exact ⟨ret_int (by rw [HT.out,HS.out,HXX'.out];rfl),below_tr B1.out hD⟩
 | true =>
  have HXX:=Lib.hid (l01_call hX)
  have HXX':=Lib.hid hX
  clear hX
  cases hY:inR (t / d.W) 0 (d.H - 1) with
  | false =>
   have HYY:=Lib.hid (l01_call hY)
   have HYY':=Lib.hid hY
   clear hY
   go_wp2_with (go_at_call 175;(first|((with_reducible refine (HXX.out _).mono ?_);rintro e w' ⟨rfl,rfl⟩)|((with_reducible refine (HYY.out _).mono ?_);rintro e w' ⟨rfl,rfl⟩)))
   go_ret
   exact ⟨ret_int (by rw [HT.out,HS.out,HXX'.out,HYY'.out];rfl),below_tr B1.out hD⟩
  | true =>
   have HYY:=Lib.hid (l01_call hY)
   have HYY':=Lib.hid hY
   have hM:=HM.out (inR_iff.1 hY)
   have hx2:=(inR_iff.1 HXX'.out)
   clear hY
   go_wp2_with (go_at_call 175;(first|((with_reducible refine (HXX.out _).mono ?_);rintro e w' ⟨rfl,rfl⟩)|((with_reducible refine (HYY.out _).mono ?_);rintro e w' ⟨rfl,rfl⟩)))
   go_ret
   exact ⟨ret_int (by rw [HT.out,HS.out,HXX'.out,HYY'.out];first|rfl|(simp;done)|(simp;omega)),below_tr B1.out hD⟩
set_option maxHeartbeats 1000000 in
theorem stileStep_1 (d:Dev) (t s:Int) (w:World) (ht:tileIn d t=true) (h0:0≤s) (h1:s≤6) :
  Calls Tryz.prog 189 #[.agg #[.int .i64 d.W,.int .i64 d.H,.int .i64 d.T,.int .i64 d.R],.int .i64 t,.int .i64 1,.int .i64 s] w fun e w'=>e = .returned (.int .i64 (stepOf d t 1 s))∧Below w.heap.size w w':=by
 have hd:=(tileIn_iff.1 ht).1
 have ht0:=(tileIn_iff.1 ht).2.1
 have ht1:=(tileIn_iff.1 ht).2.2
 have hWH:=dev_WH hd
 obtain ⟨hw1,hw2,hh1,hh2,-⟩:=devOk_bd hd
 obtain ⟨x0,x1,y0,y1,-⟩:=tile_xy ht
 have e0:¬d.W=0:=by omega
 have e1:t.tmod d.W=t % d.W:=Int.tmod_eq_emod_of_nonneg ht0
 have e2:IntKind.i64.wrap (t.tdiv d.W)=t / d.W:=IntWalk.i64_quo _ _ ⟨ht0,by omega,by omega⟩
 have HTI:=Lib.hid ht
 have HM:=Lib.hid (fun (h:0≤stY d t 1 s∧stY d t 1 s≤d.H - 1)=>mul_bd h.1 (show stY d t 1 s≤5 by omega) (show 0≤d.W by omega) (show d.W≤6 by omega))
 have HS:=Lib.hid (show stIn d t 1 s=(inR (stX d t 1 s) 0 (d.W - 1) && inR (stY d t 1 s) 0 (d.H - 1)) from rfl)
 have HT:=Lib.hid (show stepOf d t 1 s=if stIn d t 1 s=true then stY d t 1 s * d.W+stX d t 1 s else -1 from rfl)
 generalize hX:stX d t 1 s=X at *
 generalize hY:stY d t 1 s=Y at *
 generalize stepOf d t 1 s=P at *
 generalize stIn d t 1 s=B at *
 obtain rfl:t % d.W=X:=by rw [←hX];simp [stX]
 obtain rfl:t / d.W+s=Y:=by rw [←hY];simp [stY]
 have hL1:=l01_call (n:=1) (lo:=0) (hi:=3) (b:=true) (by decide)
 have hL2:=l01_call (n:=s) (lo:=0) (hi:=6) (b:=true) (inR_iff.2 ⟨h0,h1⟩)
 have HL1:=Lib.hid hL1
 have HL2:=Lib.hid hL2
 clear ht hd hX hY hL1 hL2
 go_enter Tryz.func189,Tryz.ntmps189
 go_wp2_with fail
 refine (stileKind_in d t _ HTI.out).mono ?_
 rintro e w1 ⟨rfl,b1⟩
 have hk3:=kindOf_bd d t
 generalize kindOf d t=K at *
 have B1:=Lib.hid (below_tr (below_new (Below.refl _ _) _) b1)
 have hs1:=b1.size
 simp only [World.size_alloc] at hs1
 obtain ⟨hcc,hff⟩:=bcell b1
 have hkk:decide (K<0)=false:=by simp;omega
 clear b1
 have hwW:w.heap.size<w1.heap.size:=by omega
 go_wp2_with (go_at_call 175;(first|((with_reducible refine (HL1.out _).mono ?_);rintro e w' ⟨rfl,rfl⟩)|((with_reducible refine (HL2.out _).mono ?_);rintro e w' ⟨rfl,rfl⟩)))
 have HXW:Hid (IntKind.i64.wrap (t % d.W+IntKind.i64.wrap 0)=t % d.W):=(wrap_add2 (by omega) (by omega)).trans (by omega)
 have HYW:Hid (IntKind.i64.wrap (t / d.W+IntKind.i64.wrap s)=t / d.W+s):=(wrap_add2 (by omega) (by omega)).trans (by omega)
 go_cut [9] (fun s9 wx=>CutN (t % d.W) w1 s9 wx)
 case first =>
  clear hk3 hkk h0 h1 ht0 ht1 hh1 hh2 hWH
  go_region_with (fail)
  all_goals
   go_wp2_with fail
   go_meet
   exact ⟨by rw [HXW.out],below_new (Below.refl _ _).drew _⟩
 obtain ⟨rfl,hD1⟩:=hcut
 have hwx:=below_lt hD1 hwW
 have hcx:=(bcell hD1).1
 go_wp2_with fail
 go_cut [10] (fun s10 wy=>CutN (t / d.W+s) w1 s10 wy)
 case first =>
  clear hk3 hkk h0 h1 ht0 ht1 hh1 hh2 hWH
  go_region_with (fail)
  all_goals
   go_wp2_with fail
   go_meet
   exact ⟨by rw [HYW.out],below_tr hD1 (below_new (Below.refl _ _).drew _)⟩
 obtain ⟨rfl,hD⟩:=hcut
 have hwy:=below_lt hD hwW
 have hcy:=(bcell hD).1
 clear e1 e2 hcx
 cases hX:inR (t % d.W) 0 (d.W - 1) with
 | false =>
  have HXX:=Lib.hid (l01_call hX)
  have HXX':=Lib.hid hX
  clear hX
  go_wp2_with (go_at_call 175;(with_reducible refine (HXX.out _).mono ?_);rintro e w' ⟨rfl,rfl⟩)
  go_ret
  exact ⟨ret_int (by rw [HT.out,HS.out,HXX'.out];rfl),below_tr B1.out hD⟩
 | true =>
  have HXX:=Lib.hid (l01_call hX)
  have HXX':=Lib.hid hX
  clear hX
  cases hY:inR (t / d.W+s) 0 (d.H - 1) with
  | false =>
   have HYY:=Lib.hid (l01_call hY)
   have HYY':=Lib.hid hY
   clear hY
   go_wp2_with (go_at_call 175;(first|((with_reducible refine (HXX.out _).mono ?_);rintro e w' ⟨rfl,rfl⟩)|((with_reducible refine (HYY.out _).mono ?_);rintro e w' ⟨rfl,rfl⟩)))
   go_ret
   exact ⟨ret_int (by rw [HT.out,HS.out,HXX'.out,HYY'.out];rfl),below_tr B1.out hD⟩
  | true =>
   have HYY:=Lib.hid (l01_call hY)
   have HYY':=Lib.hid hY
   have hM:=HM.out (inR_iff.1 hY)
   have hx2:=(inR_iff.1 HXX'.out)
   clear hY
   go_wp2_with (go_at_call 175;(first|((with_reducible refine (HXX.out _).mono ?_);rintro e w' ⟨rfl,rfl⟩)|((with_reducible refine (HYY.out _).mono ?_);rintro e w' ⟨rfl,rfl⟩)))
   go_ret
   exact ⟨ret_int (by rw [HT.out,HS.out,HXX'.out,HYY'.out];first|rfl|(simp;done)|(simp;omega)),below_tr B1.out hD⟩
set_option maxHeartbeats 1000000 in
theorem stileStep_2 (d:Dev) (t s:Int) (w:World) (ht:tileIn d t=true) (h0:0≤s) (h1:s≤6) :
  Calls Tryz.prog 189 #[.agg #[.int .i64 d.W,.int .i64 d.H,.int .i64 d.T,.int .i64 d.R],.int .i64 t,.int .i64 2,.int .i64 s] w fun e w'=>e = .returned (.int .i64 (stepOf d t 2 s))∧Below w.heap.size w w':=by
 have hd:=(tileIn_iff.1 ht).1
 have ht0:=(tileIn_iff.1 ht).2.1
 have ht1:=(tileIn_iff.1 ht).2.2
 have hWH:=dev_WH hd
 obtain ⟨hw1,hw2,hh1,hh2,-⟩:=devOk_bd hd
 obtain ⟨x0,x1,y0,y1,-⟩:=tile_xy ht
 have e0:¬d.W=0:=by omega
 have e1:t.tmod d.W=t % d.W:=Int.tmod_eq_emod_of_nonneg ht0
 have e2:IntKind.i64.wrap (t.tdiv d.W)=t / d.W:=IntWalk.i64_quo _ _ ⟨ht0,by omega,by omega⟩
 have HTI:=Lib.hid ht
 have HM:=Lib.hid (fun (h:0≤stY d t 2 s∧stY d t 2 s≤d.H - 1)=>mul_bd h.1 (show stY d t 2 s≤5 by omega) (show 0≤d.W by omega) (show d.W≤6 by omega))
 have HS:=Lib.hid (show stIn d t 2 s=(inR (stX d t 2 s) 0 (d.W - 1) && inR (stY d t 2 s) 0 (d.H - 1)) from rfl)
 have HT:=Lib.hid (show stepOf d t 2 s=if stIn d t 2 s=true then stY d t 2 s * d.W+stX d t 2 s else -1 from rfl)
 generalize hX:stX d t 2 s=X at *
 generalize hY:stY d t 2 s=Y at *
 generalize stepOf d t 2 s=P at *
 generalize stIn d t 2 s=B at *
 obtain rfl:t % d.W - s=X:=by rw [←hX];simp [stX]
 obtain rfl:t / d.W=Y:=by rw [←hY];simp [stY]
 have hL1:=l01_call (n:=2) (lo:=0) (hi:=3) (b:=true) (by decide)
 have hL2:=l01_call (n:=s) (lo:=0) (hi:=6) (b:=true) (inR_iff.2 ⟨h0,h1⟩)
 have HL1:=Lib.hid hL1
 have HL2:=Lib.hid hL2
 clear ht hd hX hY hL1 hL2
 go_enter Tryz.func189,Tryz.ntmps189
 go_wp2_with fail
 refine (stileKind_in d t _ HTI.out).mono ?_
 rintro e w1 ⟨rfl,b1⟩
 have hk3:=kindOf_bd d t
 generalize kindOf d t=K at *
 have B1:=Lib.hid (below_tr (below_new (Below.refl _ _) _) b1)
 have hs1:=b1.size
 simp only [World.size_alloc] at hs1
 obtain ⟨hcc,hff⟩:=bcell b1
 have hkk:decide (K<0)=false:=by simp;omega
 clear b1
 have hwW:w.heap.size<w1.heap.size:=by omega
 go_wp2_with (go_at_call 175;(first|((with_reducible refine (HL1.out _).mono ?_);rintro e w' ⟨rfl,rfl⟩)|((with_reducible refine (HL2.out _).mono ?_);rintro e w' ⟨rfl,rfl⟩)))
 have HXW:Hid (IntKind.i64.wrap (t % d.W+IntKind.i64.wrap (-s))=t % d.W - s):=(wrap_add2 (by omega) (by omega)).trans (by omega)
 have HYW:Hid (IntKind.i64.wrap (t / d.W+IntKind.i64.wrap 0)=t / d.W):=(wrap_add2 (by omega) (by omega)).trans (by omega)
 go_cut [9] (fun s9 wx=>CutN (t % d.W - s) w1 s9 wx)
 case first =>
  clear hk3 hkk h0 h1 ht0 ht1 hh1 hh2 hWH
  go_region_with (fail)
  all_goals
   go_wp2_with fail
   go_meet
   exact ⟨by rw [HXW.out],below_new (Below.refl _ _).drew _⟩
 obtain ⟨rfl,hD1⟩:=hcut
 have hwx:=below_lt hD1 hwW
 have hcx:=(bcell hD1).1
 go_wp2_with fail
 go_cut [10] (fun s10 wy=>CutN (t / d.W) w1 s10 wy)
 case first =>
  clear hk3 hkk h0 h1 ht0 ht1 hh1 hh2 hWH
  go_region_with (fail)
  all_goals
   go_wp2_with fail
   go_meet
   exact ⟨by rw [HYW.out],below_tr hD1 (below_new (Below.refl _ _).drew _)⟩
 obtain ⟨rfl,hD⟩:=hcut
 have hwy:=below_lt hD hwW
 have hcy:=(bcell hD).1
 clear e1 e2 hcx
 cases hX:inR (t % d.W - s) 0 (d.W - 1) with
 | false =>
  have HXX:=Lib.hid (l01_call hX)
  have HXX':=Lib.hid hX
  clear hX
  go_wp2_with (go_at_call 175;(with_reducible refine (HXX.out _).mono ?_);rintro e w' ⟨rfl,rfl⟩)
  go_ret
  exact ⟨ret_int (by rw [HT.out,HS.out,HXX'.out];rfl),below_tr B1.out hD⟩
 | true =>
  have HXX:=Lib.hid (l01_call hX)
  have HXX':=Lib.hid hX
  clear hX
  cases hY:inR (t / d.W) 0 (d.H - 1) with
  | false =>
   have HYY:=Lib.hid (l01_call hY)
   have HYY':=Lib.hid hY
   clear hY
   go_wp2_with (go_at_call 175;(first|((with_reducible refine (HXX.out _).mono ?_);rintro e w' ⟨rfl,rfl⟩)|((with_reducible refine (HYY.out _).mono ?_);rintro e w' ⟨rfl,rfl⟩)))
   go_ret
   exact ⟨ret_int (by rw [HT.out,HS.out,HXX'.out,HYY'.out];rfl),below_tr B1.out hD⟩
  | true =>
   have HYY:=Lib.hid (l01_call hY)
   have HYY':=Lib.hid hY
   have hM:=HM.out (inR_iff.1 hY)
   have hx2:=(inR_iff.1 HXX'.out)
   clear hY
   go_wp2_with (go_at_call 175;(first|((with_reducible refine (HXX.out _).mono ?_);rintro e w' ⟨rfl,rfl⟩)|((with_reducible refine (HYY.out _).mono ?_);rintro e w' ⟨rfl,rfl⟩)))
   go_ret
   exact ⟨ret_int (by rw [HT.out,HS.out,HXX'.out,HYY'.out];first|rfl|(simp;done)|(simp;omega)),below_tr B1.out hD⟩
set_option maxHeartbeats 1000000 in
theorem stileStep_3 (d:Dev) (t s:Int) (w:World) (ht:tileIn d t=true) (h0:0≤s) (h1:s≤6) :
  Calls Tryz.prog 189 #[.agg #[.int .i64 d.W,.int .i64 d.H,.int .i64 d.T,.int .i64 d.R],.int .i64 t,.int .i64 3,.int .i64 s] w fun e w'=>e = .returned (.int .i64 (stepOf d t 3 s))∧Below w.heap.size w w':=by
 have hd:=(tileIn_iff.1 ht).1
 have ht0:=(tileIn_iff.1 ht).2.1
 have ht1:=(tileIn_iff.1 ht).2.2
 have hWH:=dev_WH hd
 obtain ⟨hw1,hw2,hh1,hh2,-⟩:=devOk_bd hd
 obtain ⟨x0,x1,y0,y1,-⟩:=tile_xy ht
 have e0:¬d.W=0:=by omega
 have e1:t.tmod d.W=t % d.W:=Int.tmod_eq_emod_of_nonneg ht0
 have e2:IntKind.i64.wrap (t.tdiv d.W)=t / d.W:=IntWalk.i64_quo _ _ ⟨ht0,by omega,by omega⟩
 have HTI:=Lib.hid ht
 have HM:=Lib.hid (fun (h:0≤stY d t 3 s∧stY d t 3 s≤d.H - 1)=>mul_bd h.1 (show stY d t 3 s≤5 by omega) (show 0≤d.W by omega) (show d.W≤6 by omega))
 have HS:=Lib.hid (show stIn d t 3 s=(inR (stX d t 3 s) 0 (d.W - 1) && inR (stY d t 3 s) 0 (d.H - 1)) from rfl)
 have HT:=Lib.hid (show stepOf d t 3 s=if stIn d t 3 s=true then stY d t 3 s * d.W+stX d t 3 s else -1 from rfl)
 generalize hX:stX d t 3 s=X at *
 generalize hY:stY d t 3 s=Y at *
 generalize stepOf d t 3 s=P at *
 generalize stIn d t 3 s=B at *
 obtain rfl:t % d.W=X:=by rw [←hX];simp [stX]
 obtain rfl:t / d.W - s=Y:=by rw [←hY];simp [stY]
 have hL1:=l01_call (n:=3) (lo:=0) (hi:=3) (b:=true) (by decide)
 have hL2:=l01_call (n:=s) (lo:=0) (hi:=6) (b:=true) (inR_iff.2 ⟨h0,h1⟩)
 have HL1:=Lib.hid hL1
 have HL2:=Lib.hid hL2
 clear ht hd hX hY hL1 hL2
 go_enter Tryz.func189,Tryz.ntmps189
 go_wp2_with fail
 refine (stileKind_in d t _ HTI.out).mono ?_
 rintro e w1 ⟨rfl,b1⟩
 have hk3:=kindOf_bd d t
 generalize kindOf d t=K at *
 have B1:=Lib.hid (below_tr (below_new (Below.refl _ _) _) b1)
 have hs1:=b1.size
 simp only [World.size_alloc] at hs1
 obtain ⟨hcc,hff⟩:=bcell b1
 have hkk:decide (K<0)=false:=by simp;omega
 clear b1
 have hwW:w.heap.size<w1.heap.size:=by omega
 go_wp2_with (go_at_call 175;(first|((with_reducible refine (HL1.out _).mono ?_);rintro e w' ⟨rfl,rfl⟩)|((with_reducible refine (HL2.out _).mono ?_);rintro e w' ⟨rfl,rfl⟩)))
 have HXW:Hid (IntKind.i64.wrap (t % d.W+IntKind.i64.wrap 0)=t % d.W):=(wrap_add2 (by omega) (by omega)).trans (by omega)
 have HYW:Hid (IntKind.i64.wrap (t / d.W+IntKind.i64.wrap (-s))=t / d.W - s):=(wrap_add2 (by omega) (by omega)).trans (by omega)
 go_cut [9] (fun s9 wx=>CutN (t % d.W) w1 s9 wx)
 case first =>
  clear hk3 hkk h0 h1 ht0 ht1 hh1 hh2 hWH
  go_region_with (fail)
  all_goals
   go_wp2_with fail
   go_meet
   exact ⟨by rw [HXW.out],below_new (Below.refl _ _).drew _⟩
 obtain ⟨rfl,hD1⟩:=hcut
 have hwx:=below_lt hD1 hwW
 have hcx:=(bcell hD1).1
 go_wp2_with fail
 go_cut [10] (fun s10 wy=>CutN (t / d.W - s) w1 s10 wy)
 case first =>
  clear hk3 hkk h0 h1 ht0 ht1 hh1 hh2 hWH
  go_region_with (fail)
  all_goals
   go_wp2_with fail
   go_meet
   exact ⟨by rw [HYW.out],below_tr hD1 (below_new (Below.refl _ _).drew _)⟩
 obtain ⟨rfl,hD⟩:=hcut
 have hwy:=below_lt hD hwW
 have hcy:=(bcell hD).1
 clear e1 e2 hcx
 cases hX:inR (t % d.W) 0 (d.W - 1) with
 | false =>
  have HXX:=Lib.hid (l01_call hX)
  have HXX':=Lib.hid hX
  clear hX
  go_wp2_with (go_at_call 175;(with_reducible refine (HXX.out _).mono ?_);rintro e w' ⟨rfl,rfl⟩)
  go_ret
  exact ⟨ret_int (by rw [HT.out,HS.out,HXX'.out];rfl),below_tr B1.out hD⟩
 | true =>
  have HXX:=Lib.hid (l01_call hX)
  have HXX':=Lib.hid hX
  clear hX
  cases hY:inR (t / d.W - s) 0 (d.H - 1) with
  | false =>
   have HYY:=Lib.hid (l01_call hY)
   have HYY':=Lib.hid hY
   clear hY
   go_wp2_with (go_at_call 175;(first|((with_reducible refine (HXX.out _).mono ?_);rintro e w' ⟨rfl,rfl⟩)|((with_reducible refine (HYY.out _).mono ?_);rintro e w' ⟨rfl,rfl⟩)))
   go_ret
   exact ⟨ret_int (by rw [HT.out,HS.out,HXX'.out,HYY'.out];rfl),below_tr B1.out hD⟩
  | true =>
   have HYY:=Lib.hid (l01_call hY)
   have HYY':=Lib.hid hY
   have hM:=HM.out (inR_iff.1 hY)
   have hx2:=(inR_iff.1 HXX'.out)
   clear hY
   go_wp2_with (go_at_call 175;(first|((with_reducible refine (HXX.out _).mono ?_);rintro e w' ⟨rfl,rfl⟩)|((with_reducible refine (HYY.out _).mono ?_);rintro e w' ⟨rfl,rfl⟩)))
   go_ret
   exact ⟨ret_int (by rw [HT.out,HS.out,HXX'.out,HYY'.out];first|rfl|(simp;done)|(simp;omega)),below_tr B1.out hD⟩
theorem stileStep_any (d:Dev) (t r s:Int) (w:World) (ht:tileIn d t=true) (r0:0≤r) (r3:r≤3) (h0:0≤s) (h1:s≤6) :
 Calls Tryz.prog 189 #[.agg #[.int .i64 d.W,.int .i64 d.H,.int .i64 d.T,.int .i64 d.R],.int .i64 t,.int .i64 r,.int .i64 s] w fun e w'=>e = .returned (.int .i64 (stepOf d t r s))∧Below w.heap.size w w':=by
 have:r=0∨r=1∨r=2∨r=3:=by omega
 rcases this with rfl|rfl|rfl|rfl
 ·exact stileStep_0 d t s w ht h0 h1
 ·exact stileStep_1 d t s w ht h0 h1
 ·exact stileStep_2 d t s w ht h0 h1
 ·exact stileStep_3 d t s w ht h0 h1
end Go.Proofs.YtignkfhdkcgkgaaGreat

namespace Go.Proofs.YtignkfhdkcgkgaaGreat
set_option maxRecDepth 100000
open Go.RowKit

set_option maxHeartbeats 1000000 in
theorem soutPin_any (d:Dev) (t p:Int) (w:World) (ht:tileIn d t=true) (hp0:0≤p) (hp1:p≤10) :
  Calls Tryz.prog 186 #[.agg #[.int .i64 d.W,.int .i64 d.H,.int .i64 d.T,.int .i64 d.R],.int .i64 t,.int .i64 p] w fun e w'=>e = .returned (.int .i64 (outPin d t p))∧Below w.heap.size w w':=by
 have HO:Hid (outPin d t p=if tileIn d t=true∧0≤p∧p<outPins (kindOf d t) then t * perT d+5+p else -1):=rfl
 obtain ⟨hd,ht0,ht1⟩:=tileIn_iff.1 ht
 have hWH:=dev_WH hd
 have hT:=devOk_bd hd
 have hp:=perT_bd hd
 have hop:=outPins_bd d t
 have HM:=Lib.hid (mul_bd ht0 (show t≤35 by omega) (show 0≤perT d by omega) hp.2)
 have HT:=Lib.hid ht
 have hdp:decide (p<0)=false:=by simp;omega
 clear ht hd
 go_enter Tryz.func186,Tryz.ntmps186
 go_wp2_with fail
 refine (stileKind_in d t _ HT.out).mono ?_
 rintro e w2 ⟨rfl,b2⟩
 have B2:=Lib.hid (below_tr (below_new (Below.refl _ _) _) b2)
 have hs2:=b2.size
 simp only [World.size_alloc] at hs2
 obtain ⟨hcc,hff⟩:=bcell b2
 clear b2
 generalize hK:kindOf d t=K at *
 have HK:=Lib.hid hK
 clear hK
 have hQ:∃Q,outPins K=Q:=⟨_,rfl⟩
 obtain ⟨Q,hQ⟩:=hQ
 rw [hQ] at hop HO
 have HC:Hid (∀w,Calls Tryz.prog 187 #[.int .i64 K] w fun e w'=>e = .returned (.int .i64 Q)∧w=w'):=fun w=>by have:=soutPins_any K w;rwa [hQ] at this
 clear hQ
 by_cases hin:p<Q
 ·have hh:decide (p≥Q)=false:=by simp;omega
  go_wp2_with (go_at_call 187;refine (HC.out _).mono ?_;rintro e w' ⟨rfl,rfl⟩)
  refine (l27Per_any d _ (by omega) (by omega)).mono ?_
  rintro e w3 ⟨rfl,b3⟩
  have B3:=Lib.hid (below_tr B2.out b3)
  have hM:=HM.out
  clear b3 hcc hff
  go_wp2_with fail
  go_ret
  exact ⟨ret_int (by rw [HO.out,if_pos ⟨HT.out,by omega,by omega⟩]),B3.out⟩
 ·have hh:decide (p≥Q)=true:=by simp;omega
  go_wp2_with (go_at_call 187;refine (HC.out _).mono ?_;rintro e w' ⟨rfl,rfl⟩)
  go_ret
  exact ⟨ret_int (by rw [HO.out,if_neg];rintro ⟨_,h0,h1⟩;omega),B2.out⟩

set_option maxHeartbeats 1000000 in
theorem swireNode_any (d:Dev) (t r k:Int) (w:World) (hd:devOk d=true) (htb:t≤1099511627776) (hr0:0≤r) (hr3:r≤3) (hk0:0≤k) (hk1:k<d.T) :
  Calls Tryz.prog 188 #[.agg #[.int .i64 d.W,.int .i64 d.H,.int .i64 d.T,.int .i64 d.R],.int .i64 t,.int .i64 r,.int .i64 k] w fun e w'=>e = .returned (.int .i64 (wireNode d t r k))∧Below w.heap.size w w':=by
 have HO:Hid (wireNode d t r k=if tileIn d t=true∧(0≤r∧r≤3)∧(0≤k∧k<d.T)∧0≤stepOf d t r (wlen k) then t * perT d+7+r * d.T+k else -1):=rfl
 have hT:=devOk_bd hd
 have hWH:=dev_WH hd
 have hp:=perT_bd hd
 have HD:=Lib.hid hd
 clear hd
 cases ht:tileIn d t with
 | false =>
  have HT:=Lib.hid ht
  clear ht
  go_enter Tryz.func188,Tryz.ntmps188
  go_wp2_with fail
  refine (stileKind_out d t _ HT.out htb).mono ?_
  rintro e w2 ⟨rfl,b2⟩
  have B2:=Lib.hid (below_tr (below_new (Below.refl _ _) _) b2)
  clear b2
  go_wp2_with fail
  go_ret
  exact ⟨ret_int (by rw [HO.out,if_neg (by rw [HT.out];simp)]),B2.out⟩
 | true =>
  obtain ⟨_,ht0,ht1⟩:=tileIn_iff.1 ht
  have HT:=Lib.hid ht
  have hL:wlen k=1+k % 2:=rfl
  have hL2:1≤wlen k∧wlen k≤2:=by rw [hL];omega
  have HL:=Lib.hid hL.symm
  clear ht hL
  have hdk:decide (k<0)=false:=by simp;omega
  have hdk':decide (k≥d.T)=false:=by simp;omega
  go_enter Tryz.func188,Tryz.ntmps188
  go_wp2_with fail
  refine (stileKind_in d t _ HT.out).mono ?_
  rintro e w2 ⟨rfl,b2⟩
  have hk3:=kindOf_bd d t
  generalize kindOf d t=K at *
  have hdK:decide (K<0)=false:=by simp;omega
  have B2:=Lib.hid b2
  have hs2:=b2.size
  simp only [World.size_alloc] at hs2
  obtain ⟨hcc,hff⟩:=bcell b2
  clear b2
  go_wp2_with fail
  rw [HL.out]
  generalize hLL:wlen k=L at *
  generalize hP:stepOf d t r L=P at *
  have HP:=Lib.hid hP
  have HC:Hid (∀w,Calls Tryz.prog 189 #[.agg #[.int .i64 d.W,.int .i64 d.H,.int .i64 d.T,.int .i64 d.R],.int .i64 t,.int .i64 r,.int .i64 L] w fun e w'=>e = .returned (.int .i64 P)∧Below w.heap.size w w'):=fun w=>by have:=stileStep_any d t r L w HT.out hr0 hr3 (by omega) (by omega);rwa [hP] at this
  clear hP hLL
  refine (HC.out _).mono ?_
  rintro e w3 ⟨rfl,b3⟩
  have B3:=Lib.hid (below_tr B2.out b3)
  have hs3:=b3.size
  clear b3 hcc hff
  obtain ⟨hcc,hff⟩:=bcell B3.out
  by_cases hP0:P<0
  ·have hdP:decide (P<0)=true:=by simpa using hP0
   go_wp2_with fail
   go_ret
   exact ⟨ret_int (by rw [HO.out,if_neg];rintro ⟨_,_,_,h⟩;omega),below_tr (below_new (Below.refl _ _) _) B3.out⟩
  ·have hdP:decide (P<0)=false:=by simp;omega
   go_wp2_with fail
   have hwW:w.heap.size<w3.heap.size:=by omega
   have hsub:=sub_ne w3
   have hsc:=sub_cell w3
   refine wp_region_below w3 (by kernel_rfl) (by kernel_rfl) (Below.refl _ _) ?_
   repeat (go_big_quiet_step ((go_at_call 65;with_reducible exact calls_sub (l27Per_any d _ (by omega) (by omega)))))
   refine wpQuiet_nil ?_
   rintro _ ⟨⟨w4,hD⟩,rfl⟩
   clear hsub hsc
   have hM:=mul_bd ht0 (show t≤35 by omega) (show 0≤perT d by omega) hp.2
   have hM2:=mul_bd hr0 hr3 (show 0≤d.T by omega) (show d.T≤4 by omega)
   have HE:=Lib.hid (And.intro (IntWalk.i64_in (t * perT d) (by omega)) (And.intro (IntWalk.i64_in (t * perT d+7) (by omega)) (And.intro (IntWalk.i64_in (r * d.T) (by omega)) (And.intro (IntWalk.i64_in (t * perT d+7+r * d.T) (by omega)) (IntWalk.i64_in (t * perT d+7+r * d.T+k) (by omega))))))
   have HE':=Lib.hid (And.intro (IntWalk.wrap64_in (t * perT d) (by omega)) (And.intro (IntWalk.wrap64_in (t * perT d+7) (by omega)) (And.intro (IntWalk.wrap64_in (r * d.T) (by omega)) (And.intro (IntWalk.wrap64_in (t * perT d+7+r * d.T) (by omega)) (IntWalk.wrap64_in (t * perT d+7+r * d.T+k) (by omega))))))
   clear hM hM2
   go_wp2_with fail
   go_ret
   exact ⟨ret_int (by rw [HO.out,if_pos ⟨HT.out,⟨hr0,hr3⟩,⟨hk0,hk1⟩,by omega⟩];first|rfl|(rw [HE.out.1,HE.out.2.1,HE.out.2.2.1,HE.out.2.2.2.1,HE.out.2.2.2.2])|(rw [HE'.out.1,HE'.out.2.1,HE'.out.2.2.1,HE'.out.2.2.2.1,HE'.out.2.2.2.2])),below_tr (below_tr (below_new (Below.refl _ _) _) B3.out) hD⟩

set_option maxHeartbeats 1000000 in
theorem l27Wire_any (d:Dev) (n:Int) (w:World) (hn:nodeIn d n=true) (h7:7≤n % perT d) :
  Calls Tryz.prog 185 #[.agg #[.int .i64 d.W,.int .i64 d.H,.int .i64 d.T,.int .i64 d.R],.int .i64 n] w fun e w'=>e = .returned (.tuple #[.int .i64 ((n % perT d - 7) / d.T),.int .i64 ((n % perT d - 7) % d.T)])∧Below w.heap.size w w':=by
 obtain ⟨hd,n0,n1,hq0,hq1,hr0,hr1⟩:=node_tk hn
 have hT:=devOk_bd hd
 have hp:=perT_bd hd
 have e0:¬perT d=0:=by omega
 have e1:n.tmod (perT d)=n % perT d:=Int.tmod_eq_emod_of_nonneg n0
 clear hn hd
 go_enter Tryz.func185,Tryz.ntmps185
 go_wp2_with fail
 refine (l27Per_any d _ (by omega) (by omega)).mono ?_
 rintro e w1 ⟨rfl,b1⟩
 have hb1:=b1.size
 simp only [World.size_alloc] at hb1
 obtain ⟨hcc,hff⟩:=bcell b1
 have B1:=Lib.hid (below_tr (below_new (Below.refl _ _) _) b1)
 clear b1
 generalize hk:n % perT d=k at *
 have HK:=Lib.hid hk
 clear hk
 go_wp2_with fail
 clear e0 e1
 have e0:¬d.T=0:=by omega
 have e1:(k - 7).tmod d.T=(k - 7) % d.T:=Int.tmod_eq_emod_of_nonneg (by omega)
 have e2:IntKind.i64.wrap ((k - 7).tdiv d.T)=(k - 7) / d.T:=IntWalk.i64_quo _ _ ⟨by omega,by omega,by omega⟩
 go_quiet (fail)
 go_wp2_with fail
 go_ret2
 exact ⟨by rw [HK.out];rfl,below_drewN B1.out _⟩

theorem rn_pos {d:Dev} (h:devOk d=true):rnOf d=nodesOf d:=by unfold rnOf;rw [if_pos h]
theorem rn_bd (d:Dev):0≤rnOf d∧rnOf d≤828:=by
 unfold rnOf
 split
 ·rename_i h;have:=nodesOf_bd h;omega
 ·omega
theorem nodeIn_rn {d:Dev} {n:Int}:nodeIn d n=true↔0≤n∧n<rnOf d:=by
 unfold nodeIn rnOf
 simp only [Bool.and_eq_true,decide_eq_true_eq]
 split
 ·rename_i h;simp [h]
 ·rename_i h;simp [h] <;> omega

set_option maxHeartbeats 1000000 in
theorem srouteNodeOk_any (d:Dev) (n:Int) (w:World) :
  Calls Tryz.prog 184 #[.agg #[.int .i64 d.W,.int .i64 d.H,.int .i64 d.T,.int .i64 d.R],.int .i64 n] w fun e w'=>e = .returned (.bool (nodeOk d n))∧Below w.heap.size w w':=by
 have hrn:=rn_bd d
 by_cases h0:n<0
 ·have HR:Hid (nodeOk d n=false):=by
   show _=false
   unfold nodeOk
   cases h:nodeIn d n with
   | false=>rfl
   | true=>have:=nodeIn_rn.1 h;omega
  have hd0:decide (n<0)=true:=by simpa using h0
  go_enter Tryz.func184,Tryz.ntmps184
  go_wp2_with fail
  go_ret
  exact ⟨ret_bool HR.out.symm,below_new (Below.refl _ _) _⟩
 ·have hd0:decide (n<0)=false:=by simp;omega
  by_cases h1:n<rnOf d
  ·have hni:nodeIn d n=true:=nodeIn_rn.2 ⟨by omega,h1⟩
   have hd1:decide (n≥rnOf d)=false:=by simp;omega
   have HR:Hid (nodeOk d n=nodeOkK d (n / perT d) (n % perT d)):=by show _=_;unfold nodeOk;rw [hni];rfl
   have HN:=Lib.hid hni
   obtain ⟨hd,n0,n1,hq0,hq1,hr0,hr1⟩:=node_tk hni
   have hT:=devOk_bd hd
   have hp:=perT_bd hd
   have hWH:=dev_WH hd
   have HTI:=Lib.hid (node_tile hni)
   have e0:¬perT d=0:=by omega
   have e1:n.tmod (perT d)=n % perT d:=Int.tmod_eq_emod_of_nonneg n0
   have e2:IntKind.i64.wrap (n.tdiv (perT d))=n / perT d:=IntWalk.i64_quo _ _ ⟨n0,by omega,by omega⟩
   clear hni hd
   go_enter Tryz.func184,Tryz.ntmps184
   go_wp2_with fail
   refine (sRouteNodes_any d _).mono ?_
   rintro e w1 ⟨rfl,b1⟩
   have B1:=Lib.hid b1
   have hb1:=b1.size
   simp only [World.size_alloc] at hb1
   obtain ⟨hcc,hff⟩:=bcell b1
   clear b1
   go_wp2_with fail
   refine (l27Per_any d _ (by omega) (by omega)).mono ?_
   rintro e w2 ⟨rfl,b2⟩
   have B2:=Lib.hid (below_tr B1.out b2)
   have hb2:=b2.size
   clear b2 hcc hff
   obtain ⟨hcc,hff⟩:=bcell B2.out
   go_wp2_with fail
   refine (l27Per_any d _ (by omega) (by omega)).mono ?_
   rintro e w3 ⟨rfl,b3⟩
   have B3:=Lib.hid (below_tr B2.out b3)
   have hb3:=b3.size
   clear b3 hcc hff
   obtain ⟨hcc,hff⟩:=bcell B3.out
   have hWIRE:=Lib.hid (fun (h7:7≤n % perT d) (w:World)=>l27Wire_any d n w HN.out h7)
   generalize hk:n % perT d=k at *
   generalize hq:n / perT d=q at *
   have hK:nodeOkK d q k=if k<5 then decide (k<inPins (kindOf d q)) else if k<7 then decide (k - 5<outPins (kindOf d q)) else decide (0≤stepOf d q ((k - 7) / d.T) (wlen ((k - 7) % d.T))):=rfl
   have HK:=Lib.hid hK
   have hip:=inPins_bd d q
   have hop:=outPins_bd d q
   have HKT:=Lib.hid (fun w=>stileKind_in d q w HTI.out)
   generalize kindOf d q=K at *
   clear hK hk hq
   have h3:k<5∨(¬k<5∧k<7)∨(¬k<5∧¬k<7):=by omega
   rcases h3 with h|⟨h,h'⟩|⟨h,h'⟩
   ·go_wp2_with fail
    refine (HKT.out _).mono ?_
    rintro e w4 ⟨rfl,b4⟩
    have B4:=Lib.hid (below_tr B3.out b4)
    clear b4 hcc hff
    generalize hQ:inPins K=Q at *
    have HQ:=Lib.hid hQ
    clear hQ
    go_wp2_with (go_at_call 222;refine (sinPins_any _ _).mono ?_;rw [HQ.out];rintro e w' ⟨rfl,rfl⟩)
    go_ret
    exact ⟨ret_bool (by rw [HR.out,HK.out,if_pos (by omega)]),below_tr (below_new (Below.refl _ _) _) B4.out⟩
   ·go_wp2_with fail
    refine (HKT.out _).mono ?_
    rintro e w4 ⟨rfl,b4⟩
    have B4:=Lib.hid (below_tr B3.out b4)
    clear b4 hcc hff
    generalize hQ:outPins K=Q at *
    have HQ:=Lib.hid hQ
    clear hQ
    go_wp2_with (go_at_call 187;refine (soutPins_any _ _).mono ?_;rw [HQ.out];rintro e w' ⟨rfl,rfl⟩)
    go_ret
    exact ⟨ret_bool (by rw [HR.out,HK.out,if_neg (by omega),if_pos (by omega)]),below_tr (below_new (Below.refl _ _) _) B4.out⟩
   ·have hT0:=Int.ediv_nonneg (show 0≤k - 7 by omega) (show 0≤d.T by omega)
    have hT1:=Int.emod_nonneg (k - 7) (show d.T≠0 by omega)
    have hT2:=Int.emod_lt_of_pos (k - 7) (show 0<d.T by omega)
    have hT3:(k - 7) / d.T≤3:=by
     have:(k - 7) / d.T<4:=Int.ediv_lt_of_lt_mul (by omega) (by unfold perT at hr1;omega)
     omega
    go_wp2_with fail
    refine (hWIRE.out (by omega) _).mono ?_
    rintro e w4 ⟨rfl,b4⟩
    have B4:=Lib.hid (below_tr B3.out b4)
    have hb4:=b4.size
    clear b4 hcc hff
    obtain ⟨hcc,hff⟩:=bcell B4.out
    generalize (k - 7) / d.T=r at *
    generalize (k - 7) % d.T=m at *
    have hL:wlen m=1+m % 2:=rfl
    have hL2:1≤wlen m∧wlen m≤2:=by rw [hL];omega
    have HL:=Lib.hid hL.symm
    clear hL
    go_wp2_with fail
    rw [HL.out]
    generalize hLL:wlen m=L at *
    generalize hP:stepOf d q r L=P at *
    have HC:Hid (∀w,Calls Tryz.prog 189 #[.agg #[.int .i64 d.W,.int .i64 d.H,.int .i64 d.T,.int .i64 d.R],.int .i64 q,.int .i64 r,.int .i64 L] w fun e w'=>e = .returned (.int .i64 P)∧Below w.heap.size w w'):=fun w=>by have:=stileStep_any d q r L w HTI.out (by omega) (by omega) (by omega) (by omega);rwa [hP] at this
    clear hP hLL
    refine (HC.out _).mono ?_
    rintro e w5 ⟨rfl,b5⟩
    have B5:=Lib.hid (below_tr B4.out b5)
    clear b5 hcc hff
    go_wp2_with fail
    go_ret
    exact ⟨ret_bool (by rw [HR.out,HK.out,if_neg (by omega),if_neg (by omega)]),below_tr (below_new (Below.refl _ _) _) B5.out⟩
  ·have HR:Hid (nodeOk d n=false):=by
    show _=false
    unfold nodeOk
    cases h:nodeIn d n with
    | false=>rfl
    | true=>have:=nodeIn_rn.1 h;omega
   have hd1:decide (n≥rnOf d)=true:=by simp;omega
   go_enter Tryz.func184,Tryz.ntmps184
   go_wp2_with fail
   refine (sRouteNodes_any d _).mono ?_
   rintro e w1 ⟨rfl,b1⟩
   have B1:=Lib.hid (below_tr (below_new (Below.refl _ _) _) b1)
   clear b1
   go_wp2_with fail
   go_ret
   exact ⟨ret_bool HR.out.symm,B1.out⟩
end Go.Proofs.YtignkfhdkcgkgaaGreat

namespace Go.Proofs.YtignkfhdkcgkgaaGreat
set_option maxRecDepth 100000
open Go.RowKit

/-- The place k of the number that moves down, in a list sorted apart from it up to place i. -/
def SInv (ys:List Int) (i k:Nat):Prop:=∃a x b rest,ys=a++x :: (b++rest)∧a.length=k∧k+b.length=i∧(a++b).Pairwise (·≤·)∧∀y∈b,x≤y
theorem sinv_start {ys:List Int} {i:Nat} (h:(ys.take i).Pairwise (·≤·)) (hi:i<ys.length):SInv ys i i:=by
 have e:ys=ys.take i++ys[i] :: ([]++ys.drop (i+1)):=by simp
 exact ⟨ys.take i,ys[i],[],ys.drop (i+1),e,by simp;omega,by simp,by simpa using h,by simp⟩
theorem sinv_done {ys:List Int} {i k:Nat} (h:SInv ys i k) (hk:k=0∨ys[k - 1]?.getD 0≤ys[k]?.getD 0):(ys.take (i+1)).Pairwise (·≤·):=by
 obtain ⟨a,x,b,rest,rfl,rfl,rfl,hp,hb⟩:=h
 have e:(a++x :: (b++rest)).take (a.length+b.length+1)=a++x :: b:=by
  rw [show a++x :: (b++rest)=(a++x :: b)++rest by simp,List.take_left' (by simp;omega)]
 rw [e]
 rw [List.pairwise_append] at hp ⊢
 rw [List.pairwise_cons]
 refine ⟨hp.1,⟨hb,hp.2.1⟩,fun u hu v hv=>?_⟩
 have hux:u≤x:=by
  rcases hk with h0|h0
  ·have:=List.eq_nil_of_length_eq_zero h0;subst this;simp at hu
  ·have hl:0<a.length:=List.length_pos_of_mem hu
   rw [List.getElem?_append_left (by omega),List.getElem?_append_right (Nat.le_refl _),Nat.sub_self,List.getElem?_cons_zero,Option.getD_some,List.getElem?_eq_getElem (by omega),Option.getD_some] at h0
   obtain ⟨j,hj,rfl⟩:=List.getElem_of_mem hu
   rcases Nat.lt_or_ge j (a.length - 1) with hlt|hge
   ·have:=List.pairwise_iff_getElem.1 hp.1 j (a.length - 1) hj (by omega) hlt
    omega
   ·have:j=a.length - 1:=by omega
    subst this
    exact h0
 rcases List.mem_cons.1 hv with rfl|hv
 ·exact hux
 ·exact hp.2.2 u hu v hv
theorem sinv_swap {ys:List Int} {i k:Nat} (h:SInv ys i k) (h0:0<k) (hlt:ys[k]?.getD 0<ys[k - 1]?.getD 0) :
  SInv ((ys.set k (ys[k - 1]?.getD 0)).set (k - 1) (ys[k]?.getD 0)) i (k - 1)∧((ys.set k (ys[k - 1]?.getD 0)).set (k - 1) (ys[k]?.getD 0)).Perm ys:=by
 obtain ⟨a,x,b,rest,rfl,rfl,rfl,hp,hb⟩:=h
 obtain ⟨a,y,rfl⟩:∃a' y,a=a'++[y]:=⟨a.dropLast,a.getLast (by rintro rfl;simp at h0),(List.dropLast_concat_getLast _).symm⟩
 have e1:(a++[y]++x :: (b++rest))[(a++[y]).length]?.getD 0=x:=by
  rw [List.getElem?_append_right (Nat.le_refl _),Nat.sub_self];rfl
 have e2:(a++[y]++x :: (b++rest))[(a++[y]).length - 1]?.getD 0=y:=by
  rw [List.getElem?_append_left (by simp)];simp
 rw [e1,e2] at hlt ⊢
 have e3:((a++[y]++x :: (b++rest)).set (a++[y]).length y).set ((a++[y]).length - 1) x=a++x :: (y :: b++rest):=by
  rw [List.set_append,if_neg (by omega),Nat.sub_self,List.set_cons_zero,List.append_assoc,List.set_append,if_neg (by simp)]
  simp
 rw [e3]
 refine ⟨⟨a,x,y :: b,rest,rfl,by simp,by simp;omega,by simpa using hp,fun z hz=>?_⟩,?_⟩
 ·rcases List.mem_cons.1 hz with rfl|hz
  ·omega
  ·exact hb z hz
 ·rw [List.append_assoc]
  refine List.Perm.append_left a ?_
  simp only [List.cons_append]
  exact List.Perm.swap y x (b++rest)

set_option maxHeartbeats 1000000 in
theorem l27Sort_any (A:Option Addr) (n c:Nat) (xs:List Int) (w:World) (h:Ints w A n xs) (hn:n≤1048576) :
  Calls Tryz.prog 190 #[.slice A n c] w fun e w'=>∃A' c',e = .returned (.slice A' n c')∧(∃ys,Own w.heap.size w' A' n c' ys∧ys.Perm xs∧ys.Pairwise (·≤·))∧Below w.heap.size w w':=by
 have HI:=Lib.hid h
 have HXL:=Lib.hid h.1
 clear h
 go_enter Tryz.func190,Tryz.ntmps190
 go_wp2_with (at_builtin;refine wpList_append_ints rfl _ _ rfl w.heap.size _ 0 0 [] rfl (Own.new0 (Nat.le_refl _)) A n c _ rfl (HI.out.below (below_new (Below.refl _ _) _)) (by omega) (by simp) (below_new (Below.refl _ _) _) ?_;rintro A1 c1 w1 o1 b1 -;rw [Nat.zero_add,List.nil_append] at o1)
 by_cases h1:n≤1
 ·have O1:=Lib.hid o1
  have hd:decide ((1:Int)<(n:Int))=false:=by simp;omega
  clear o1
  go_loopw [4] (fun i wr=>i = .int .i64 1∧wr=w1) (fun _ _=>0)
  case atStart=>exact ⟨rfl,rfl⟩
  case round =>
   obtain ⟨rfl,rfl⟩:=hrel
   go_wp2_with fail
   go_ret
   refine ⟨A1,c1,rfl,⟨xs,O1.out,List.Perm.refl _,?_⟩,b1⟩
   match xs,HXL.out with
   | [],_=>exact List.Pairwise.nil
   | [x],_=>simp
   | x :: y :: l,hl=>simp at hl;omega
 ·obtain ⟨g,cur,rfl,hgb,_⟩:=o1.block (by omega)
  have O1:=Lib.hid o1
  have B1:=Lib.hid b1
  have hgl:=(o1.lt _ rfl).2
  clear o1 b1
  go_loopw [4] (fun i wr=>∃(m:Nat) (ys:List Int),1≤m∧m≤n∧i = .int .i64 m∧Own w.heap.size wr (some ⟨g,0,none⟩) n c1 ys∧ys.Perm xs∧(ys.take m).Pairwise (·≤·)∧Below w.heap.size w wr) (fun i _=>n - (intOf i).toNat)
  case atStart=>exact ⟨1,xs,by omega,by omega,rfl,O1.out,List.Perm.refl _,by cases xs <;> simp,B1.out⟩
  case round =>
   obtain ⟨m,ys,hm1,hm,rfl,ho,hp,hs,hb⟩:=hrel
   have HO:=Lib.hid ho
   have HP:=Lib.hid hp
   have HS:=Lib.hid hs
   have HB:=Lib.hid hb
   have HYL:=Lib.hid ho.len
   clear ho hp hs hb
   by_cases hlt:m<n
   ·have hdm:decide ((m:Int)<(n:Int))=true:=by simp;omega
    go_wp2_with fail
    go_loopw [5] (fun i wr=>∃(k:Nat) (ys:List Int),k≤m∧i = .int .i64 k∧Own w.heap.size wr (some ⟨g,0,none⟩) n c1 ys∧ys.Perm xs∧SInv ys m k∧Below w.heap.size w wr) (fun i _=>(intOf i).toNat)
    case atStart=>exact ⟨m,ys,Nat.le_refl _,rfl,HO.out,HP.out,sinv_start HS.out (by rw [HYL.out];exact hlt),HB.out⟩
    case round =>
     obtain ⟨k,ys,hk,rfl,ho,hp,hs,hb⟩:=hrel
     have HO:=Lib.hid ho
     have HP:=Lib.hid hp
     have HS:=Lib.hid hs
     have HB:=Lib.hid hb
     by_cases hk0:k=0
     ·have HK0:=Lib.hid hk0
      have hdk:decide ((k:Int)>0)=false:=by simp;omega
      have hdk2:decide ((0:Int)<(k:Int))=false:=by simp;omega
      have hdk3:decide (0<k)=false:=by simp;omega
      clear ho hp hs hb hk0
      go_wp2_with fail
      go_quiet (fail)
      go_wp2_with fail
      go_roundw
      case rel=>exact ⟨m+1,ys,by omega,by omega,by go_num,HO.out,HP.out,sinv_done HS.out (.inl HK0.out),below_drewN HB.out _⟩
      case measure=>simp [intOf];omega
     ·have hdk:decide ((k:Int)>0)=true:=by simp;omega
      have hdk2:decide ((0:Int)<(k:Int))=true:=by simp;omega
      have hdk3:decide (0<k)=true:=by simp;omega
      obtain ⟨ca,fa⟩:=ho.cellAt (k:=k) (by omega)
      obtain ⟨cb,fb⟩:=ho.cellAt (k:=k - 1) (by omega)
      have hgl2:=(ho.lt _ rfl).2
      have HSW:=Lib.hid (fun h=>sinv_swap hs (by omega) h)
      have HSD:=Lib.hid (fun h=>sinv_done hs (.inr h))
      have HST:=Lib.hid (fun x y=>(ho.stored (k:=k) (by omega) y).stored (k:=k - 1) (by omega) x)
      generalize ys[k]?.getD 0=x at *
      generalize ys[k - 1]?.getD 0=y at *
      have e4:IntKind.i64.wrap ((k:Int) - 1)=(k:Int) - 1:=IntWalk.i64_in _ (by omega)
      have e5:((k:Int) - 1).toNat=k - 1:=by omega
      have i0:(0:Int)≤(k:Int):=by omega
      have i1:(k:Int)<(n:Int):=by omega
      have i2:(0:Int)≤(k:Int) - 1:=by omega
      have i3:(k:Int) - 1<(n:Int):=by omega
      have hkn:¬k=k - 1:=by omega
      clear ho hp hs hb
      by_cases hxy:x<y
      ·have hdx:decide (x<y)=true:=by simpa using hxy
       go_wp2_with fail
       go_quiet (fail)
       go_wp2_with fail
       go_roundw
       case rel=>exact ⟨k - 1,_,by omega,by first|rfl|go_num|(congr 1;omega),(HST.out x y).drewd,(HSW.out hxy).2.trans HP.out,(HSW.out hxy).1,below_drewN ((HB.out.setCell (p:=⟨g,k,none⟩) hgb _).setCell (p:=⟨g,k - 1,none⟩) hgb _) _⟩
       case measure=>simp [intOf];omega
      ·have hdx:decide (x<y)=false:=by simp;omega
       have hxy':y≤x:=by omega
       go_wp2_with fail
       go_quiet (fail)
       go_wp2_with fail
       go_roundw
       case rel=>exact ⟨m+1,ys,by omega,by omega,by go_num,HO.out,HP.out,HSD.out hxy',below_drewN HB.out _⟩
       case measure=>simp [intOf];omega
   ·have hmn:m=n:=by omega
    have HMN:=Lib.hid hmn
    have hdm:decide ((m:Int)<(n:Int))=false:=by simp;omega
    clear hmn
    go_wp2_with fail
    go_ret
    exact ⟨_,c1,rfl,⟨ys,HO.out,HP.out,by have:=HS.out;rwa [HMN.out,List.take_of_length_le (by rw [HYL.out];exact Nat.le_refl _)] at this⟩,HB.out⟩
end Go.Proofs.YtignkfhdkcgkgaaGreat

namespace Go.Proofs.YtignkfhdkcgkgaaGreat
set_option maxRecDepth 100000
open Go.RowKit

theorem candK_none {d:Dev} {t pin r k:Int} {s:Nat} (h:∀s,useOf d pin r k s=false):candK d t pin r k s=[]:=by
 unfold candK
 rw [List.flatMap_eq_nil_iff]
 intro j _
 unfold candS
 rw [h]
 rfl
theorem candS_true {d:Dev} {t pin r k s:Int} (h:useOf d pin r k s=true):candS d t pin r k s=oneOf (cand d t r k s):=by unfold candS;rw [if_pos h]
theorem candS_false {d:Dev} {t pin r k s:Int} (h:useOf d pin r k s=false):candS d t pin r k s=[]:=by unfold candS;rw [h];rfl
theorem useOf_wire {d:Dev} {pin:Int} (h7:7≤pin) (r k s:Int):useOf d pin r k s=(decide (r≠((pin - 7) / d.T+2) % 4) && ((decide (k=(pin - 7) % d.T) || decide (k=((pin - 7) % d.T+1) % d.T)) && decide (s=wlen k))):=by unfold useOf wireUse;rw [if_pos h7]
theorem useOf_pin {d:Dev} {pin:Int} (h7:pin<7) (r k s:Int):useOf d pin r k s=!(decide (d.T>1) && decide ((k+pin) % 2=1)):=by unfold useOf pinUse;rw [if_neg (by omega)]
set_option maxHeartbeats 4000000 in
theorem ssources_pin (d:Dev) (n:Int) (w:World) (hno:nodeOk d n=true) (h5:n % perT d<5) :
  Calls Tryz.prog 137 #[.agg #[.int .i64 d.W,.int .i64 d.H,.int .i64 d.T,.int .i64 d.R],.int .i64 n] w fun e w'=>∃A m c,e = .returned (.slice A m c)∧Own w.heap.size w' A m c (srcs d n)∧Below w.heap.size w w':=by
 have HB0:=Lib.hid (below_new (Below.refl w.heap.size w) (.cells #[.int .i64 d.W,.int .i64 d.H,.int .i64 d.T,.int .i64 d.R] 25))
 have hni:nodeIn d n=true:=by unfold nodeOk at hno;rw [Bool.and_eq_true] at hno;exact hno.1
 have HTI:=Lib.hid (node_tile hni)
 obtain ⟨hd,n0,n1,hq0,hq1,hr0,hr1⟩:=node_tk hni
 have hT:=devOk_bd hd
 have hp:=perT_bd hd
 have hWH:=dev_WH hd
 have HD:=Lib.hid hd
 have HSORT:=Lib.hid (fun l hp hs=>sorted_srcs (l:=l) hno (by omega) hp hs)
 have HNO:Hid (∀w,Calls Tryz.prog 184 #[.agg #[.int .i64 d.W,.int .i64 d.H,.int .i64 d.T,.int .i64 d.R],.int .i64 n] w fun e w'=>e = .returned (.bool true)∧Below w.heap.size w w'):=fun w=>by have h:=srouteNodeOk_any d n w;rwa [hno] at h
 have e0:¬perT d=0:=by omega
 have e1:n.tmod (perT d)=n % perT d:=Int.tmod_eq_emod_of_nonneg n0
 have e2:IntKind.i64.wrap (n.tdiv (perT d))=n / perT d:=IntWalk.i64_quo _ _ ⟨n0,by omega,by omega⟩
 have HUSE0:=Lib.hid (fun r k s=>useOf_pin (d:=d) (pin:=n % perT d) (by omega) r k s)
 clear hno hni hd
 go_enter Tryz.func137,Tryz.ntmps137
 go_wp2_with fail
 refine (HNO.out _).mono ?_
 rintro e w1 ⟨rfl,b1⟩
 have N1:=Lib.hid ((Own.newAt (w:=(w.alloc (.cells #[.int .i64 d.W,.int .i64 d.H,.int .i64 d.T,.int .i64 d.R] 25))) (base:=(w.alloc (.cells #[.int .i64 d.W,.int .i64 d.H,.int .i64 d.T,.int .i64 d.R] 25)).heap.size) (g:=w.heap.size+1) (by simp) (by simp)).below b1)
 have HB1:=Lib.hid (below_tr (below_new (Below.refl _ _) _) b1:Below (w.alloc (.cells #[.int .i64 d.W,.int .i64 d.H,.int .i64 d.T,.int .i64 d.R] 25)).heap.size (w.alloc (.cells #[.int .i64 d.W,.int .i64 d.H,.int .i64 d.T,.int .i64 d.R] 25)) w1)
 have hs1:=b1.size
 simp only [World.size_alloc] at hs1
 clear b1
 obtain ⟨hcc,hff⟩:=bcell HB1.out
 go_wp2_with fail
 refine (l27Per_any d _ (by omega) (by omega)).mono ?_
 rintro e w2 ⟨rfl,b2⟩
 have HB2:=Lib.hid (below_tr HB1.out b2)
 have N2:=Lib.hid (N1.out.below b2)
 have hs2:=b2.size
 clear b2 hcc hff
 obtain ⟨hcc,hff⟩:=bcell HB2.out
 go_wp2_with fail
 refine (l27Per_any d _ (by omega) (by omega)).mono ?_
 rintro e w3 ⟨rfl,b3⟩
 have HB3:=Lib.hid (below_tr HB2.out b3)
 have N3:=Lib.hid (N2.out.below b3)
 have hs3:=b3.size
 clear b3 hcc hff
 obtain ⟨hcc,hff⟩:=bcell HB3.out
 generalize n % perT d=pin at *
 generalize n / perT d=t at *
 clear HNO
 have hdp:decide (pin≥7)=false:=by simp;omega
 have hdp2:decide (pin<7)=true:=by simp;omega
 have hp5:(pin==5)=false:=by simp;omega
 have hp6:(pin==6)=false:=by simp;omega
 have NS:=N3
 have HBS:=HB3
 clear hcc hff
 go_wp2_with fail
 go_loopw [5,10] (fun v i wr=>∃(r:Nat) (A:Option Addr) (m c:Nat),r≤4∧i = .int .i64 r∧v = .slice A m c∧m≤2+8 * r∧Own (w.alloc (.cells #[.int .i64 d.W,.int .i64 d.H,.int .i64 d.T,.int .i64 d.R] 25)).heap.size wr A m c (candA d t pin r)∧Below (w.alloc (.cells #[.int .i64 d.W,.int .i64 d.H,.int .i64 d.T,.int .i64 d.R] 25)).heap.size (w.alloc (.cells #[.int .i64 d.W,.int .i64 d.H,.int .i64 d.T,.int .i64 d.R] 25)) wr) (fun _ i _=>4 - (intOf i).toNat)
 case atStart=>exact ⟨0,_,_,_,by omega,rfl,rfl,by omega,by simpa [candA] using NS.out,HBS.out⟩
 case round =>
  obtain ⟨r,A,m,c,hr,rfl,rfl,hn,ho,hb⟩:=hrel
  have HO:=Lib.hid ho
  have HB:=Lib.hid hb
  have hs:=hb.size
  simp only [World.size_alloc] at hs
  obtain ⟨hcc,hff⟩:=bcell hb
  clear ho hb
  by_cases hlt:r<4
  ·have hdr:decide ((r:Int)<4)=true:=by simp;omega
   have HAR:=Lib.hid (candA_succ d t pin r)
   clear hcc hff
   go_wp2_with fail
   go_loopw [5,11] (fun v i wr=>∃(k:Nat) (A:Option Addr) (m c:Nat),(k:Int)≤d.T∧i = .int .i64 k∧v = .slice A m c∧m≤2+8 * r+2 * k∧Own (w.alloc (.cells #[.int .i64 d.W,.int .i64 d.H,.int .i64 d.T,.int .i64 d.R] 25)).heap.size wr A m c (candA d t pin r++candR d t pin (r:Int) k)∧Below (w.alloc (.cells #[.int .i64 d.W,.int .i64 d.H,.int .i64 d.T,.int .i64 d.R] 25)).heap.size (w.alloc (.cells #[.int .i64 d.W,.int .i64 d.H,.int .i64 d.T,.int .i64 d.R] 25)) wr) (fun _ i _=>d.T.toNat - (intOf i).toNat)
   case atStart=>exact ⟨0,A,m,c,by omega,rfl,rfl,by omega,by simpa [candR] using HO.out,HB.out⟩
   case round =>
    obtain ⟨k,A,m,c,hk,rfl,rfl,hn,ho,hb⟩:=hrel
    have HO:=Lib.hid ho
    have HB:=Lib.hid hb
    have hs:=hb.size
    simp only [World.size_alloc] at hs
    obtain ⟨hcc,hff⟩:=bcell hb
    have HCR:=Lib.hid (candR_succ d t pin (r:Int) k)
    clear ho hb
    by_cases hlk:(k:Int)<d.T
    ·have hdk:decide ((k:Int)<d.T)=true:=by simpa using hlk
     have hL:wlen (k:Int)=1+(k:Int) % 2:=rfl
     have hL2:1≤wlen (k:Int)∧wlen (k:Int)≤2:=by rw [hL];omega
     have HL:=Lib.hid hL.symm
     have HKS:=fun s=>Lib.hid (candK_succ d t pin (r:Int) (k:Int) s)
     clear hL
     have HUSE:=HUSE0.out (r:Int) (k:Int)
     have HUSE:=Lib.hid HUSE
     have hz0:0≤((k:Int)+pin) % 2∧((k:Int)+pin) % 2≤1:=by omega
     have e1:((k:Int)+pin).tmod 2=((k:Int)+pin) % 2:=Int.tmod_eq_emod_of_nonneg (by omega)
     generalize ((k:Int)+pin) % 2=z at *
     by_cases hskip:d.T>1∧z=1
     ·have HOFF:=Lib.hid (candK_none (d:=d) (t:=t) (pin:=pin) (r:=(r:Int)) (k:=(k:Int)) (s:=(wlen (k:Int)).toNat) (fun s=>by rw [HUSE.out,decide_eq_true hskip.1,decide_eq_true hskip.2];rfl))
      obtain ⟨hs1,rfl⟩:=hskip
      have hdT:decide (d.T>1)=true:=by simpa using hs1
      go_wp2_with fail
      go_roundw
      case rel=>exact ⟨k+1,A,m,c,by omega,by go_num,rfl,by omega,by rw [HCR.out,HOFF.out,List.append_nil];exact HO.out,HB.out⟩
      case measure=>simp [intOf];omega
     ·have hcs:(d.T>1∧z=0)∨¬d.T>1:=by omega
      have HSO:Hid (∀s,useOf d pin (r:Int) (k:Int) s=true):=by
       intro s
       rw [HUSE.out]
       simp
       omega
      clear HUSE
      rcases hcs with ⟨hs1,rfl⟩|hs1
      all_goals
       go_wp2_with fail
       go_loopw [5,12] (fun v i wr=>∃(s:Nat) (A:Option Addr) (m c:Nat),(s:Int)≤wlen (k:Int)∧i = .int .i64 ((s:Int)+1)∧v = .slice A m c∧m≤2+8 * r+2 * k+s∧Own (w.alloc (.cells #[.int .i64 d.W,.int .i64 d.H,.int .i64 d.T,.int .i64 d.R] 25)).heap.size wr A m c (candA d t pin r++candR d t pin (r:Int) k++candK d t pin (r:Int) (k:Int) s)∧Below (w.alloc (.cells #[.int .i64 d.W,.int .i64 d.H,.int .i64 d.T,.int .i64 d.R] 25)).heap.size (w.alloc (.cells #[.int .i64 d.W,.int .i64 d.H,.int .i64 d.T,.int .i64 d.R] 25)) wr) (fun _ i _=>4 - (intOf i).toNat)
       case atStart=>exact ⟨0,A,m,c,by omega,rfl,rfl,by omega,by simpa [candK] using HO.out,HB.out⟩
       case round =>
        obtain ⟨s,A,m,c,hsw,rfl,rfl,hn,ho,hb⟩:=hrel
        have HO:=Lib.hid ho
        have HB:=Lib.hid hb
        have hs:=hb.size
        simp only [World.size_alloc] at hs
        clear hcc hff
        obtain ⟨hcc,hff⟩:=bcell hb
        clear ho hb
        have hZ:1+(k:Int) % 2=wlen (k:Int):=HL.out
        by_cases hls:(s:Int)+1≤wlen (k:Int)
        ·have hlsW:=hls
         rw [←hZ] at hls
         have hdl:decide ((s:Int)+1≤1+(k:Int) % 2)=true:=by simpa using hls
         clear hZ
         have HSN:=Lib.hid (candS_true (t:=t) (HSO.out ((s:Int)+1)))
         generalize hP:stepOf d t (((r:Int)+2) % 4) ((s:Int)+1)=P at *
         have HP:=Lib.hid hP
         have hPr:=step_range (d:=d) (t:=t) (r:=((r:Int)+2) % 4) (s:=(s:Int)+1) HD.out
         rw [hP] at hPr
         clear hP
         generalize hC:cand d t (r:Int) (k:Int) ((s:Int)+1)=C at *
         have HC:Hid (∀w,Calls Tryz.prog 188 #[.agg #[.int .i64 d.W,.int .i64 d.H,.int .i64 d.T,.int .i64 d.R],.int .i64 P,.int .i64 (r:Int),.int .i64 (k:Int)] w fun e w'=>e = .returned (.int .i64 C)∧Below w.heap.size w w'):=fun w=>by
          have h:=swireNode_any d P (r:Int) (k:Int) w HD.out (by omega) (by omega) (by omega) (by omega) (by omega)
          rwa [show wireNode d P (r:Int) (k:Int)=C from by rw [←hC,cand,HP.out]] at h
         have HSC:Hid (∀w,Calls Tryz.prog 189 #[.agg #[.int .i64 d.W,.int .i64 d.H,.int .i64 d.T,.int .i64 d.R],.int .i64 t,.int .i64 (((r:Int)+2) % 4),.int .i64 ((s:Int)+1)] w fun e w'=>e = .returned (.int .i64 P)∧Below w.heap.size w w'):=fun w=>by
          have h:=stileStep_any d t (((r:Int)+2) % 4) ((s:Int)+1) w HTI.out (by omega) (by omega) (by omega) (by omega)
          rwa [HP.out] at h
         have HCC:=Lib.hid hC
         clear hC
         have e3:((r:Int)+2).tmod 4=((r:Int)+2) % 4:=Int.tmod_eq_emod_of_nonneg (by omega)
         have e4:IntKind.i64.wrap ((r:Int)+2)=(r:Int)+2:=IntWalk.i64_in _ (by omega)
         have hwW:w.heap.size<wr.heap.size:=by omega
         go_wp2_with fail
         have hsub:=sub_ne wr
         have hsc:=sub_cell wr
         refine wp_region_below wr (by kernel_rfl) (by kernel_rfl) (Below.refl _ _) ?_
         repeat (go_big_quiet_step ((first
          | (go_at_call 189;with_reducible exact calls_sub (HSC.out _))
          | (go_at_call 188;with_reducible exact calls_sub (HC.out _)))))
         refine wpQuiet_nil ?_
         rintro _ ⟨⟨w2,hD⟩,rfl⟩
         clear hsub hsc hcc hff e3 e4
         have HB2:=Lib.hid (below_tr HB.out hD)
         have HO2:=Lib.hid (HO.out.below hD)
         have hs2:=hD.size
         clear hD
         by_cases hC0:C≥0
         ·have HC1:=Lib.hid (oneOf_pos (x:=C) (by omega))
          go_wp2_with (at_builtin;refine wpList_push rfl _ _ rfl (w.alloc (.cells #[.int .i64 d.W,.int .i64 d.H,.int .i64 d.T,.int .i64 d.R] 25)).heap.size A m c _ C rfl HO2.out rfl (by omega) (by simp;omega) HB2.out ?_;rintro g4 c4 w4 o4 b4 - -)
          go_roundw
          case rel=>exact ⟨s+1,_,m+1,c4,by omega,by go_num,rfl,by omega,by rw [(HKS s).out,HSN.out,HC1.out,←List.append_assoc];exact o4,b4⟩
          case measure=>simp [intOf];omega
         ·have HC1:=Lib.hid (oneOf_neg (x:=C) (by omega))
          go_wp2_with fail
          go_roundw
          case rel=>exact ⟨s+1,A,m,c,by omega,by go_num,rfl,by omega,by rw [(HKS s).out,HSN.out,HC1.out,List.append_nil];exact HO2.out,HB2.out⟩
          case measure=>simp [intOf];omega
        ·have hLS:(wlen (k:Int)).toNat=s:=by omega
         have HLS:=Lib.hid hLS
         rw [←hZ] at hls
         have hdl:decide ((s:Int)+1≤1+(k:Int) % 2)=false:=by simp;omega
         clear hLS hZ
         go_wp2_with fail
         go_roundw
         case rel=>exact ⟨k+1,A,m,c,by omega,by go_num,rfl,by omega,by rw [HCR.out,HLS.out,←List.append_assoc];exact HO.out,HB.out⟩
         case measure=>simp [intOf];omega
    ·have hkT:d.T=(k:Int):=by omega
     have HKT:=Lib.hid hkT
     have hdk:decide ((k:Int)<d.T)=false:=by simp;omega
     clear hkT
     go_wp2_with fail
     go_roundw
     case rel=>exact ⟨r+1,A,m,c,by omega,by go_num,rfl,by omega,by rw [HAR.out,show d.T.toNat=k by have:=HKT.out;omega];exact HO.out,HB.out⟩
     case measure=>simp [intOf];omega
  ·have hr4:r=4:=by omega
   have HR4:=Lib.hid hr4
   have hdr:decide ((r:Int)<4)=false:=by simp;omega
   have HLEN:=Lib.hid HO.out.len
   clear hr4 hcc hff
   go_wp2_with fail
   refine (l27Sort_any A m c _ _ HO.out.ints (by omega)).mono ?_
   rintro e w9 ⟨A9,c9,rfl,⟨ys,oy,py,sy⟩,b9⟩
   have HY:=Lib.hid oy
   have HB9:=Lib.hid (below_tr HB0.out (below_tr HB.out b9))
   have HE:=Lib.hid (HSORT.out ys (by rw [HR4.out] at py;unfold itemsOf;rw [if_neg (by omega),List.nil_append];exact py) sy)
   clear oy py sy b9
   go_wp2_with fail
   go_ret
   exact ⟨A9,m,c9,rfl,by rw [←HE.out];exact HY.out.more (by omega),HB9.out⟩
end Go.Proofs.YtignkfhdkcgkgaaGreat
