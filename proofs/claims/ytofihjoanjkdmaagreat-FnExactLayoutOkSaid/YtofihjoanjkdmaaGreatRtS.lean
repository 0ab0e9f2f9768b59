/- Routing nodes of the reference: pins, wires, which nodes exist. -/
import Derived.Test.YtofihjoanjkdmaaGreatRt5
namespace Go.Proofs.YtofihjoanjkdmaaGreat
set_option maxHeartbeats 1000000
set_option maxRecDepth 100000
open Go.RowKit
theorem dI {n lo hi:Int} {b:Bool} (h:inR n lo hi=b) (w:World):Calls Tryz.prog 83 #[.int .i64 n,.int .i64 lo,.int .i64 hi] w fun e w'=>e = .returned (.bool b)/\w=w':=by
 have:=af n lo hi w
 rwa [h] at this
theorem jK {a b:Int} (hb:-9223372036854775808<=b/\b<=9223372036854775807) (h:-9223372036854775808<=a+b/\a+b<=9223372036854775807):IntKind.i64.wrap (a+IntKind.i64.wrap b)=a+b:=by rw [IntWalk.i64_in b hb,IntWalk.i64_in _ h]
def uH (X:Int) (w1:World) (s:Value) (wx:World):Prop:=s = .int .i64 X/\Below w1.heap.size w1 wx
theorem fM (d:Dev) (t:Int) (w:World) (ht:au d t=true) :
  Calls Tryz.prog 113 #[.agg #[.int .i64 d.W,.int .i64 d.H,.int .i64 d.T,.int .i64 d.R],.int .i64 t] w fun e w'=>e = .returned (.int .i64 (bA d t))/\Below w.heap.size w w':=by
 obtain ⟨hd,h0,h1⟩:=aW.1 ht
 have hWH:=eG hd
 have:=nP d t w (by omega)
 rwa [uh hd h0 h1] at this
theorem nM (d:Dev) (t:Int) (w:World) (ht:au d t=false) (hb:t<=1099511627776) :
  Calls Tryz.prog 113 #[.agg #[.int .i64 d.W,.int .i64 d.H,.int .i64 d.T,.int .i64 d.R],.int .i64 t] w fun e w'=>e = .returned (.int .i64 (-1))/\Below w.heap.size w w':=by
 have:=nP d t w hb
 have e:jA d t=-1:=by
  unfold jA
  rw [if_neg]
  intro h
  rw [aW.2 h] at ht
  cases ht
 rwa [e] at this
theorem dh (d:Dev) (w:World) (h0:0<=d.T) (h1:d.T<=1099511627776) :
  Calls Tryz.prog 68 #[.agg #[.int .i64 d.W,.int .i64 d.H,.int .i64 d.T,.int .i64 d.R]] w fun e w'=>e = .returned (.int .i64 (aX d))/\Below w.heap.size w w':=by
 unfold aX
 go_enter Tryz.func68,Tryz.ntmps68
 go_wp2
 go_ret
 exact ⟨rfl,aF (Below.refl _ _) _⟩
def gK (d:Dev):Int:=if dQ d=true then fe d else 0
theorem fE (d:Dev) (w:World) :
  Calls Tryz.prog 116 #[.agg #[.int .i64 d.W,.int .i64 d.H,.int .i64 d.T,.int .i64 d.R]] w fun e w'=>e = .returned (.int .i64 (gK d))/\Below w.heap.size w w':=by
 go_enter Tryz.func116,Tryz.ntmps116
 go_wp2_with fail
 refine (gH d _).mono ?_
 rintro e w1 ⟨rfl,b1⟩
 have B1:=Hd (aB (aF (Below.refl _ _) _) b1)
 have hs1:=b1.size
 simp only [World.size_alloc] at hs1
 obtain ⟨hcc,hff⟩:=bI b1
 clear b1
 cases hd:dQ d with
 | false =>
  have HD:=Hd hd
  clear hd
  go_wp2_with fail
  go_ret
  exact ⟨aQ (by rw [gK,HD.out];rfl),B1.out⟩
 | true =>
  have hT:=bC hd
  have hWH:=eG hd
  have hp:=dw hd
  have hn:=fT hd
  have HD:=Hd hd
  have HN:=Hd (show fe d=d.W * d.H * aX d from rfl)
  rw [HN.out] at hn
  have HR:Hid (gK d=d.W * d.H * aX d):=by show _=_;rw [gK,if_pos hd];rfl
  clear hd
  go_wp2_with fail
  have hwW:w.heap.size<w1.heap.size:=by omega
  have hsub:=aZ w1
  have hsc:=aR w1
  refine aI w1 (by kernel_rfl) (by kernel_rfl) (Below.refl _ _) ?_
  repeat (go_big_quiet_step ((first
   | (go_at_call 68;with_reducible exact aO (dh d _ (by omega) (by omega))))))
  refine wpQuiet_nil ?_
  rintro _ ⟨⟨w2,hD⟩,rfl⟩
  clear hsub hsc
  go_wp2_with fail
  go_ret
  exact ⟨aQ (by rw [HR.out]),aB B1.out hD⟩
theorem uI (d:Dev) (t s:Int) (w:World) (ht:au d t=true) (h0:0<=s) (h1:s<=6) :
  Calls Tryz.prog 230 #[.agg #[.int .i64 d.W,.int .i64 d.H,.int .i64 d.T,.int .i64 d.R],.int .i64 t,.int .i64 0,.int .i64 s] w fun e w'=>e = .returned (.int .i64 (ah d t 0 s))/\Below w.heap.size w w':=by
 have hd:=(aW.1 ht).1
 have ht0:=(aW.1 ht).2.1
 have ht1:=(aW.1 ht).2.2
 have hWH:=eG hd
 obtain ⟨hw1,hw2,hh1,hh2,-⟩:=bC hd
 obtain ⟨x0,x1,y0,y1,-⟩:=mK ht
 have e0:¬d.W=0:=by omega
 have e1:t.tmod d.W=t % d.W:=Int.tmod_eq_emod_of_nonneg ht0
 have e2:IntKind.i64.wrap (t.tdiv d.W)=t / d.W:=IntWalk.i64_quo _ _ ⟨ht0,by omega,by omega⟩
 have HTI:=Hd ht
 have HM:=Hd (fun (h:0<=stY d t 0 s/\stY d t 0 s<=d.H - 1)=>iM h.1 (show stY d t 0 s<=5 by omega) (show 0<=d.W by omega) (show d.W<=6 by omega))
 have HS:=Hd (show kz d t 0 s=(inR (stX d t 0 s) 0 (d.W - 1) && inR (stY d t 0 s) 0 (d.H - 1)) from rfl)
 have HT:=Hd (show ah d t 0 s=if kz d t 0 s=true then stY d t 0 s * d.W+stX d t 0 s else -1 from rfl)
 generalize hX:stX d t 0 s=X at *
 generalize hY:stY d t 0 s=Y at *
 generalize ah d t 0 s=P at *
 generalize kz d t 0 s=B at *
 obtain rfl:t % d.W+s=X:=by rw [←hX];simp [stX]
 obtain rfl:t / d.W=Y:=by rw [←hY];simp [stY]
 have hL1:=dI (n:=0) (lo:=0) (hi:=3) (b:=true) (by decide)
 have hL2:=dI (n:=s) (lo:=0) (hi:=6) (b:=true) (aV.2 ⟨h0,h1⟩)
 have HL1:=Hd hL1
 have HL2:=Hd hL2
 clear ht hd hX hY hL1 hL2
 go_enter Tryz.func230,Tryz.ntmps230
 go_wp2_with fail
 refine (fM d t _ HTI.out).mono ?_
 rintro e w1 ⟨rfl,b1⟩
 have hk3:=ji d t
 generalize bA d t=K at *
 have B1:=Hd (aB (aF (Below.refl _ _) _) b1)
 have hs1:=b1.size
 simp only [World.size_alloc] at hs1
 obtain ⟨hcc,hff⟩:=bI b1
 have hkk:decide (K<0)=false:=by simp;omega
 clear b1
 have hwW:w.heap.size<w1.heap.size:=by omega
 go_wp2_with (go_at_call 83;(first|((with_reducible refine (HL1.out _).mono ?_);rintro e w' ⟨rfl,rfl⟩)|((with_reducible refine (HL2.out _).mono ?_);rintro e w' ⟨rfl,rfl⟩)))
 have HXW:Hid (IntKind.i64.wrap (t % d.W+IntKind.i64.wrap s)=t % d.W+s):=(jK (by omega) (by omega)).trans (by omega)
 have HYW:Hid (IntKind.i64.wrap (t / d.W+IntKind.i64.wrap 0)=t / d.W):=(jK (by omega) (by omega)).trans (by omega)
 go_cut [9] (fun s9 wx=>uH (t % d.W+s) w1 s9 wx)
 case first =>
  clear hk3 hkk h0 h1 ht0 ht1 hh1 hh2 hWH
  go_region_with (fail)
  all_goals
   go_wp2_with fail
   go_meet
   exact ⟨by rw [HXW.out],aF (Below.refl _ _).drew _⟩
 obtain ⟨rfl,hD1⟩:=hcut
 have hwx:=aL hD1 hwW
 have hcx:=(bI hD1).1
 go_wp2_with fail
 go_cut [10] (fun s10 wy=>uH (t / d.W) w1 s10 wy)
 case first =>
  clear hk3 hkk h0 h1 ht0 ht1 hh1 hh2 hWH
  go_region_with (fail)
  all_goals
   go_wp2_with fail
   go_meet
   exact ⟨by rw [HYW.out],aB hD1 (aF (Below.refl _ _).drew _)⟩
 obtain ⟨rfl,hD⟩:=hcut
 have hwy:=aL hD hwW
 have hcy:=(bI hD).1
 clear e1 e2 hcx
 cases hX:inR (t % d.W+s) 0 (d.W - 1) with
 | false =>
  have HXX:=Hd (dI hX)
  have HXX':=Hd hX
  clear hX
  go_wp2_with (go_at_call 83;(with_reducible refine (HXX.out _).mono ?_);rintro e w' ⟨rfl,rfl⟩)
  go_ret
  exact ⟨aQ (by rw [HT.out,HS.out,HXX'.out];rfl),aB B1.out hD⟩
 | true =>
  have HXX:=Hd (dI hX)
  have HXX':=Hd hX
  clear hX
  cases hY:inR (t / d.W) 0 (d.H - 1) with
  | false =>
   have HYY:=Hd (dI hY)
   have HYY':=Hd hY
   clear hY
   go_wp2_with (go_at_call 83;(first|((with_reducible refine (HXX.out _).mono ?_);rintro e w' ⟨rfl,rfl⟩)|((with_reducible refine (HYY.out _).mono ?_);rintro e w' ⟨rfl,rfl⟩)))
   go_ret
   exact ⟨aQ (by rw [HT.out,HS.out,HXX'.out,HYY'.out];rfl),aB B1.out hD⟩
  | true =>
   have HYY:=Hd (dI hY)
   have HYY':=Hd hY
   have hM:=HM.out (aV.1 hY)
   have hx2:=(aV.1 HXX'.out)
   clear hY
   go_wp2_with (go_at_call 83;(first|((with_reducible refine (HXX.out _).mono ?_);rintro e w' ⟨rfl,rfl⟩)|((with_reducible refine (HYY.out _).mono ?_);rintro e w' ⟨rfl,rfl⟩)))
   go_ret
   exact ⟨aQ (by rw [HT.out,HS.out,HXX'.out,HYY'.out];first|rfl|(simp;done)|(simp;omega)),aB B1.out hD⟩
theorem uJ (d:Dev) (t s:Int) (w:World) (ht:au d t=true) (h0:0<=s) (h1:s<=6) :
  Calls Tryz.prog 230 #[.agg #[.int .i64 d.W,.int .i64 d.H,.int .i64 d.T,.int .i64 d.R],.int .i64 t,.int .i64 1,.int .i64 s] w fun e w'=>e = .returned (.int .i64 (ah d t 1 s))/\Below w.heap.size w w':=by
 have hd:=(aW.1 ht).1
 have ht0:=(aW.1 ht).2.1
 have ht1:=(aW.1 ht).2.2
 have hWH:=eG hd
 obtain ⟨hw1,hw2,hh1,hh2,-⟩:=bC hd
 obtain ⟨x0,x1,y0,y1,-⟩:=mK ht
 have e0:¬d.W=0:=by omega
 have e1:t.tmod d.W=t % d.W:=Int.tmod_eq_emod_of_nonneg ht0
 have e2:IntKind.i64.wrap (t.tdiv d.W)=t / d.W:=IntWalk.i64_quo _ _ ⟨ht0,by omega,by omega⟩
 have HTI:=Hd ht
 have HM:=Hd (fun (h:0<=stY d t 1 s/\stY d t 1 s<=d.H - 1)=>iM h.1 (show stY d t 1 s<=5 by omega) (show 0<=d.W by omega) (show d.W<=6 by omega))
 have HS:=Hd (show kz d t 1 s=(inR (stX d t 1 s) 0 (d.W - 1) && inR (stY d t 1 s) 0 (d.H - 1)) from rfl)
 have HT:=Hd (show ah d t 1 s=if kz d t 1 s=true then stY d t 1 s * d.W+stX d t 1 s else -1 from rfl)
 generalize hX:stX d t 1 s=X at *
 generalize hY:stY d t 1 s=Y at *
 generalize ah d t 1 s=P at *
 generalize kz d t 1 s=B at *
 obtain rfl:t % d.W=X:=by rw [←hX];simp [stX]
 obtain rfl:t / d.W+s=Y:=by rw [←hY];simp [stY]
 have hL1:=dI (n:=1) (lo:=0) (hi:=3) (b:=true) (by decide)
 have hL2:=dI (n:=s) (lo:=0) (hi:=6) (b:=true) (aV.2 ⟨h0,h1⟩)
 have HL1:=Hd hL1
 have HL2:=Hd hL2
 clear ht hd hX hY hL1 hL2
 go_enter Tryz.func230,Tryz.ntmps230
 go_wp2_with fail
 refine (fM d t _ HTI.out).mono ?_
 rintro e w1 ⟨rfl,b1⟩
 have hk3:=ji d t
 generalize bA d t=K at *
 have B1:=Hd (aB (aF (Below.refl _ _) _) b1)
 have hs1:=b1.size
 simp only [World.size_alloc] at hs1
 obtain ⟨hcc,hff⟩:=bI b1
 have hkk:decide (K<0)=false:=by simp;omega
 clear b1
 have hwW:w.heap.size<w1.heap.size:=by omega
 go_wp2_with (go_at_call 83;(first|((with_reducible refine (HL1.out _).mono ?_);rintro e w' ⟨rfl,rfl⟩)|((with_reducible refine (HL2.out _).mono ?_);rintro e w' ⟨rfl,rfl⟩)))
 have HXW:Hid (IntKind.i64.wrap (t % d.W+IntKind.i64.wrap 0)=t % d.W):=(jK (by omega) (by omega)).trans (by omega)
 have HYW:Hid (IntKind.i64.wrap (t / d.W+IntKind.i64.wrap s)=t / d.W+s):=(jK (by omega) (by omega)).trans (by omega)
 go_cut [9] (fun s9 wx=>uH (t % d.W) w1 s9 wx)
 case first =>
  clear hk3 hkk h0 h1 ht0 ht1 hh1 hh2 hWH
  go_region_with (fail)
  all_goals
   go_wp2_with fail
   go_meet
   exact ⟨by rw [HXW.out],aF (Below.refl _ _).drew _⟩
 obtain ⟨rfl,hD1⟩:=hcut
 have hwx:=aL hD1 hwW
 have hcx:=(bI hD1).1
 go_wp2_with fail
 go_cut [10] (fun s10 wy=>uH (t / d.W+s) w1 s10 wy)
 case first =>
  clear hk3 hkk h0 h1 ht0 ht1 hh1 hh2 hWH
  go_region_with (fail)
  all_goals
   go_wp2_with fail
   go_meet
   exact ⟨by rw [HYW.out],aB hD1 (aF (Below.refl _ _).drew _)⟩
 obtain ⟨rfl,hD⟩:=hcut
 have hwy:=aL hD hwW
 have hcy:=(bI hD).1
 clear e1 e2 hcx
 cases hX:inR (t % d.W) 0 (d.W - 1) with
 | false =>
  have HXX:=Hd (dI hX)
  have HXX':=Hd hX
  clear hX
  go_wp2_with (go_at_call 83;(with_reducible refine (HXX.out _).mono ?_);rintro e w' ⟨rfl,rfl⟩)
  go_ret
  exact ⟨aQ (by rw [HT.out,HS.out,HXX'.out];rfl),aB B1.out hD⟩
 | true =>
  have HXX:=Hd (dI hX)
  have HXX':=Hd hX
  clear hX
  cases hY:inR (t / d.W+s) 0 (d.H - 1) with
  | false =>
   have HYY:=Hd (dI hY)
   have HYY':=Hd hY
   clear hY
   go_wp2_with (go_at_call 83;(first|((with_reducible refine (HXX.out _).mono ?_);rintro e w' ⟨rfl,rfl⟩)|((with_reducible refine (HYY.out _).mono ?_);rintro e w' ⟨rfl,rfl⟩)))
   go_ret
   exact ⟨aQ (by rw [HT.out,HS.out,HXX'.out,HYY'.out];rfl),aB B1.out hD⟩
  | true =>
   have HYY:=Hd (dI hY)
   have HYY':=Hd hY
   have hM:=HM.out (aV.1 hY)
   have hx2:=(aV.1 HXX'.out)
   clear hY
   go_wp2_with (go_at_call 83;(first|((with_reducible refine (HXX.out _).mono ?_);rintro e w' ⟨rfl,rfl⟩)|((with_reducible refine (HYY.out _).mono ?_);rintro e w' ⟨rfl,rfl⟩)))
   go_ret
   exact ⟨aQ (by rw [HT.out,HS.out,HXX'.out,HYY'.out];first|rfl|(simp;done)|(simp;omega)),aB B1.out hD⟩
theorem uK (d:Dev) (t s:Int) (w:World) (ht:au d t=true) (h0:0<=s) (h1:s<=6) :
  Calls Tryz.prog 230 #[.agg #[.int .i64 d.W,.int .i64 d.H,.int .i64 d.T,.int .i64 d.R],.int .i64 t,.int .i64 2,.int .i64 s] w fun e w'=>e = .returned (.int .i64 (ah d t 2 s))/\Below w.heap.size w w':=by
 have hd:=(aW.1 ht).1
 have ht0:=(aW.1 ht).2.1
 have ht1:=(aW.1 ht).2.2
 have hWH:=eG hd
 obtain ⟨hw1,hw2,hh1,hh2,-⟩:=bC hd
 obtain ⟨x0,x1,y0,y1,-⟩:=mK ht
 have e0:¬d.W=0:=by omega
 have e1:t.tmod d.W=t % d.W:=Int.tmod_eq_emod_of_nonneg ht0
 have e2:IntKind.i64.wrap (t.tdiv d.W)=t / d.W:=IntWalk.i64_quo _ _ ⟨ht0,by omega,by omega⟩
 have HTI:=Hd ht
 have HM:=Hd (fun (h:0<=stY d t 2 s/\stY d t 2 s<=d.H - 1)=>iM h.1 (show stY d t 2 s<=5 by omega) (show 0<=d.W by omega) (show d.W<=6 by omega))
 have HS:=Hd (show kz d t 2 s=(inR (stX d t 2 s) 0 (d.W - 1) && inR (stY d t 2 s) 0 (d.H - 1)) from rfl)
 have HT:=Hd (show ah d t 2 s=if kz d t 2 s=true then stY d t 2 s * d.W+stX d t 2 s else -1 from rfl)
 generalize hX:stX d t 2 s=X at *
 generalize hY:stY d t 2 s=Y at *
 generalize ah d t 2 s=P at *
 generalize kz d t 2 s=B at *
 obtain rfl:t % d.W - s=X:=by rw [←hX];simp [stX]
 obtain rfl:t / d.W=Y:=by rw [←hY];simp [stY]
 have hL1:=dI (n:=2) (lo:=0) (hi:=3) (b:=true) (by decide)
 have hL2:=dI (n:=s) (lo:=0) (hi:=6) (b:=true) (aV.2 ⟨h0,h1⟩)
 have HL1:=Hd hL1
 have HL2:=Hd hL2
 clear ht hd hX hY hL1 hL2
 go_enter Tryz.func230,Tryz.ntmps230
 go_wp2_with fail
 refine (fM d t _ HTI.out).mono ?_
 rintro e w1 ⟨rfl,b1⟩
 have hk3:=ji d t
 generalize bA d t=K at *
 have B1:=Hd (aB (aF (Below.refl _ _) _) b1)
 have hs1:=b1.size
 simp only [World.size_alloc] at hs1
 obtain ⟨hcc,hff⟩:=bI b1
 have hkk:decide (K<0)=false:=by simp;omega
 clear b1
 have hwW:w.heap.size<w1.heap.size:=by omega
 go_wp2_with (go_at_call 83;(first|((with_reducible refine (HL1.out _).mono ?_);rintro e w' ⟨rfl,rfl⟩)|((with_reducible refine (HL2.out _).mono ?_);rintro e w' ⟨rfl,rfl⟩)))
 have HXW:Hid (IntKind.i64.wrap (t % d.W+IntKind.i64.wrap (-s))=t % d.W - s):=(jK (by omega) (by omega)).trans (by omega)
 have HYW:Hid (IntKind.i64.wrap (t / d.W+IntKind.i64.wrap 0)=t / d.W):=(jK (by omega) (by omega)).trans (by omega)
 go_cut [9] (fun s9 wx=>uH (t % d.W - s) w1 s9 wx)
 case first =>
  clear hk3 hkk h0 h1 ht0 ht1 hh1 hh2 hWH
  go_region_with (fail)
  all_goals
   go_wp2_with fail
   go_meet
   exact ⟨by rw [HXW.out],aF (Below.refl _ _).drew _⟩
 obtain ⟨rfl,hD1⟩:=hcut
 have hwx:=aL hD1 hwW
 have hcx:=(bI hD1).1
 go_wp2_with fail
 go_cut [10] (fun s10 wy=>uH (t / d.W) w1 s10 wy)
 case first =>
  clear hk3 hkk h0 h1 ht0 ht1 hh1 hh2 hWH
  go_region_with (fail)
  all_goals
   go_wp2_with fail
   go_meet
   exact ⟨by rw [HYW.out],aB hD1 (aF (Below.refl _ _).drew _)⟩
 obtain ⟨rfl,hD⟩:=hcut
 have hwy:=aL hD hwW
 have hcy:=(bI hD).1
 clear e1 e2 hcx
 cases hX:inR (t % d.W - s) 0 (d.W - 1) with
 | false =>
  have HXX:=Hd (dI hX)
  have HXX':=Hd hX
  clear hX
  go_wp2_with (go_at_call 83;(with_reducible refine (HXX.out _).mono ?_);rintro e w' ⟨rfl,rfl⟩)
  go_ret
  exact ⟨aQ (by rw [HT.out,HS.out,HXX'.out];rfl),aB B1.out hD⟩
 | true =>
  have HXX:=Hd (dI hX)
  have HXX':=Hd hX
  clear hX
  cases hY:inR (t / d.W) 0 (d.H - 1) with
  | false =>
   have HYY:=Hd (dI hY)
   have HYY':=Hd hY
   clear hY
   go_wp2_with (go_at_call 83;(first|((with_reducible refine (HXX.out _).mono ?_);rintro e w' ⟨rfl,rfl⟩)|((with_reducible refine (HYY.out _).mono ?_);rintro e w' ⟨rfl,rfl⟩)))
   go_ret
   exact ⟨aQ (by rw [HT.out,HS.out,HXX'.out,HYY'.out];rfl),aB B1.out hD⟩
  | true =>
   have HYY:=Hd (dI hY)
   have HYY':=Hd hY
   have hM:=HM.out (aV.1 hY)
   have hx2:=(aV.1 HXX'.out)
   clear hY
   go_wp2_with (go_at_call 83;(first|((with_reducible refine (HXX.out _).mono ?_);rintro e w' ⟨rfl,rfl⟩)|((with_reducible refine (HYY.out _).mono ?_);rintro e w' ⟨rfl,rfl⟩)))
   go_ret
   exact ⟨aQ (by rw [HT.out,HS.out,HXX'.out,HYY'.out];first|rfl|(simp;done)|(simp;omega)),aB B1.out hD⟩
theorem uL (d:Dev) (t s:Int) (w:World) (ht:au d t=true) (h0:0<=s) (h1:s<=6) :
  Calls Tryz.prog 230 #[.agg #[.int .i64 d.W,.int .i64 d.H,.int .i64 d.T,.int .i64 d.R],.int .i64 t,.int .i64 3,.int .i64 s] w fun e w'=>e = .returned (.int .i64 (ah d t 3 s))/\Below w.heap.size w w':=by
 have hd:=(aW.1 ht).1
 have ht0:=(aW.1 ht).2.1
 have ht1:=(aW.1 ht).2.2
 have hWH:=eG hd
 obtain ⟨hw1,hw2,hh1,hh2,-⟩:=bC hd
 obtain ⟨x0,x1,y0,y1,-⟩:=mK ht
 have e0:¬d.W=0:=by omega
 have e1:t.tmod d.W=t % d.W:=Int.tmod_eq_emod_of_nonneg ht0
 have e2:IntKind.i64.wrap (t.tdiv d.W)=t / d.W:=IntWalk.i64_quo _ _ ⟨ht0,by omega,by omega⟩
 have HTI:=Hd ht
 have HM:=Hd (fun (h:0<=stY d t 3 s/\stY d t 3 s<=d.H - 1)=>iM h.1 (show stY d t 3 s<=5 by omega) (show 0<=d.W by omega) (show d.W<=6 by omega))
 have HS:=Hd (show kz d t 3 s=(inR (stX d t 3 s) 0 (d.W - 1) && inR (stY d t 3 s) 0 (d.H - 1)) from rfl)
 have HT:=Hd (show ah d t 3 s=if kz d t 3 s=true then stY d t 3 s * d.W+stX d t 3 s else -1 from rfl)
 generalize hX:stX d t 3 s=X at *
 generalize hY:stY d t 3 s=Y at *
 generalize ah d t 3 s=P at *
 generalize kz d t 3 s=B at *
 obtain rfl:t % d.W=X:=by rw [←hX];simp [stX]
 obtain rfl:t / d.W - s=Y:=by rw [←hY];simp [stY]
 have hL1:=dI (n:=3) (lo:=0) (hi:=3) (b:=true) (by decide)
 have hL2:=dI (n:=s) (lo:=0) (hi:=6) (b:=true) (aV.2 ⟨h0,h1⟩)
 have HL1:=Hd hL1
 have HL2:=Hd hL2
 clear ht hd hX hY hL1 hL2
 go_enter Tryz.func230,Tryz.ntmps230
 go_wp2_with fail
 refine (fM d t _ HTI.out).mono ?_
 rintro e w1 ⟨rfl,b1⟩
 have hk3:=ji d t
 generalize bA d t=K at *
 have B1:=Hd (aB (aF (Below.refl _ _) _) b1)
 have hs1:=b1.size
 simp only [World.size_alloc] at hs1
 obtain ⟨hcc,hff⟩:=bI b1
 have hkk:decide (K<0)=false:=by simp;omega
 clear b1
 have hwW:w.heap.size<w1.heap.size:=by omega
 go_wp2_with (go_at_call 83;(first|((with_reducible refine (HL1.out _).mono ?_);rintro e w' ⟨rfl,rfl⟩)|((with_reducible refine (HL2.out _).mono ?_);rintro e w' ⟨rfl,rfl⟩)))
 have HXW:Hid (IntKind.i64.wrap (t % d.W+IntKind.i64.wrap 0)=t % d.W):=(jK (by omega) (by omega)).trans (by omega)
 have HYW:Hid (IntKind.i64.wrap (t / d.W+IntKind.i64.wrap (-s))=t / d.W - s):=(jK (by omega) (by omega)).trans (by omega)
 go_cut [9] (fun s9 wx=>uH (t % d.W) w1 s9 wx)
 case first =>
  clear hk3 hkk h0 h1 ht0 ht1 hh1 hh2 hWH
  go_region_with (fail)
  all_goals
   go_wp2_with fail
   go_meet
   exact ⟨by rw [HXW.out],aF (Below.refl _ _).drew _⟩
 obtain ⟨rfl,hD1⟩:=hcut
 have hwx:=aL hD1 hwW
 have hcx:=(bI hD1).1
 go_wp2_with fail
 go_cut [10] (fun s10 wy=>uH (t / d.W - s) w1 s10 wy)
 case first =>
  clear hk3 hkk h0 h1 ht0 ht1 hh1 hh2 hWH
  go_region_with (fail)
  all_goals
   go_wp2_with fail
   go_meet
   exact ⟨by rw [HYW.out],aB hD1 (aF (Below.refl _ _).drew _)⟩
 obtain ⟨rfl,hD⟩:=hcut
 have hwy:=aL hD hwW
 have hcy:=(bI hD).1
 clear e1 e2 hcx
 cases hX:inR (t % d.W) 0 (d.W - 1) with
 | false =>
  have HXX:=Hd (dI hX)
  have HXX':=Hd hX
  clear hX
  go_wp2_with (go_at_call 83;(with_reducible refine (HXX.out _).mono ?_);rintro e w' ⟨rfl,rfl⟩)
  go_ret
  exact ⟨aQ (by rw [HT.out,HS.out,HXX'.out];rfl),aB B1.out hD⟩
 | true =>
  have HXX:=Hd (dI hX)
  have HXX':=Hd hX
  clear hX
  cases hY:inR (t / d.W - s) 0 (d.H - 1) with
  | false =>
   have HYY:=Hd (dI hY)
   have HYY':=Hd hY
   clear hY
   go_wp2_with (go_at_call 83;(first|((with_reducible refine (HXX.out _).mono ?_);rintro e w' ⟨rfl,rfl⟩)|((with_reducible refine (HYY.out _).mono ?_);rintro e w' ⟨rfl,rfl⟩)))
   go_ret
   exact ⟨aQ (by rw [HT.out,HS.out,HXX'.out,HYY'.out];rfl),aB B1.out hD⟩
  | true =>
   have HYY:=Hd (dI hY)
   have HYY':=Hd hY
   have hM:=HM.out (aV.1 hY)
   have hx2:=(aV.1 HXX'.out)
   clear hY
   go_wp2_with (go_at_call 83;(first|((with_reducible refine (HXX.out _).mono ?_);rintro e w' ⟨rfl,rfl⟩)|((with_reducible refine (HYY.out _).mono ?_);rintro e w' ⟨rfl,rfl⟩)))
   go_ret
   exact ⟨aQ (by rw [HT.out,HS.out,HXX'.out,HYY'.out];first|rfl|(simp;done)|(simp;omega)),aB B1.out hD⟩
theorem gF (d:Dev) (t r s:Int) (w:World) (ht:au d t=true) (r0:0<=r) (r3:r<=3) (h0:0<=s) (h1:s<=6) :
 Calls Tryz.prog 230 #[.agg #[.int .i64 d.W,.int .i64 d.H,.int .i64 d.T,.int .i64 d.R],.int .i64 t,.int .i64 r,.int .i64 s] w fun e w'=>e = .returned (.int .i64 (ah d t r s))/\Below w.heap.size w w':=by
 have:r=0∨r=1∨r=2∨r=3:=by omega
 rcases this with rfl|rfl|rfl|rfl
 ·exact uI d t s w ht h0 h1
 ·exact uJ d t s w ht h0 h1
 ·exact uK d t s w ht h0 h1
 ·exact uL d t s w ht h0 h1
end Go.Proofs.YtofihjoanjkdmaaGreat
