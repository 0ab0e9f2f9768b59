/- Routing nodes of the program: pins, wires, which nodes exist. -/
import Derived.Test.YtofihjoanjkdmaaGreatEmpty
import Derived.Test.YtofihjoanjkdmaaGreatQb
import Derived.Test.YtofihjoanjkdmaaGreatRt4
namespace Go.Proofs.YtofihjoanjkdmaaGreat
set_option maxHeartbeats 2000000
set_option maxRecDepth 100000
open Go.RowKit
theorem pF (k:Int) (w:World) :
  Calls Tryz.prog 258 #[.int .i64 k] w fun e w'=>e = .returned (.int .i64 (iC k))/\w=w':=by
 by_cases h0:k=0
 ·subst h0
  go_enter Tryz.func258,Tryz.ntmps258
  go_wp2
  go_ret
  exact ⟨rfl,rfl⟩
 by_cases h1:k=1
 ·subst h1
  go_enter Tryz.func258,Tryz.ntmps258
  go_wp2
  go_ret
  exact ⟨rfl,rfl⟩
 by_cases h2:k=2
 ·subst h2
  go_enter Tryz.func258,Tryz.ntmps258
  go_wp2
  go_ret
  exact ⟨rfl,rfl⟩
 have e0:(k==0)=false:=by simpa using h0
 have e1:(k==1)=false:=by simpa using h1
 have e2:(k==2)=false:=by simpa using h2
 go_enter Tryz.func258,Tryz.ntmps258
 go_wp2
 go_ret
 exact ⟨aQ (by simp [iC,h0,h1,h2]),rfl⟩
theorem mq (k:Int) (w:World) :
  Calls Tryz.prog 255 #[.int .i64 k] w fun e w'=>e = .returned (.int .i64 (iC k))/\w=w':=by
 by_cases h0:k=0
 ·subst h0
  go_enter Tryz.func255,Tryz.ntmps255
  go_wp2
  go_ret
  exact ⟨rfl,rfl⟩
 by_cases h1:k=1
 ·subst h1
  go_enter Tryz.func255,Tryz.ntmps255
  go_wp2
  go_ret
  exact ⟨rfl,rfl⟩
 by_cases h2:k=2
 ·subst h2
  go_enter Tryz.func255,Tryz.ntmps255
  go_wp2
  go_ret
  exact ⟨rfl,rfl⟩
 have e0:(k==0)=false:=by simpa using h0
 have e1:(k==1)=false:=by simpa using h1
 have e2:(k==2)=false:=by simpa using h2
 go_enter Tryz.func255,Tryz.ntmps255
 go_wp2
 go_ret
 exact ⟨aQ (by simp [iC,h0,h1,h2]),rfl⟩
theorem oG (k:Int) (w:World) :
  Calls Tryz.prog 259 #[.int .i64 k] w fun e w'=>e = .returned (.int .i64 (dV k))/\w=w':=by
 by_cases h0:k=0
 ·subst h0
  go_enter Tryz.func259,Tryz.ntmps259
  go_wp2
  go_ret
  exact ⟨rfl,rfl⟩
 by_cases h1:k=1
 ·subst h1
  go_enter Tryz.func259,Tryz.ntmps259
  go_wp2
  go_ret
  exact ⟨rfl,rfl⟩
 by_cases h2:k=2
 ·subst h2
  go_enter Tryz.func259,Tryz.ntmps259
  go_wp2
  go_ret
  exact ⟨rfl,rfl⟩
 have e0:(k==0)=false:=by simpa using h0
 have e1:(k==1)=false:=by simpa using h1
 have e2:(k==2)=false:=by simpa using h2
 go_enter Tryz.func259,Tryz.ntmps259
 go_wp2
 go_ret
 exact ⟨aQ (by simp [dV,h0,h1,h2]),rfl⟩
theorem jX (k:Int) (w:World) :
  Calls Tryz.prog 233 #[.int .i64 k] w fun e w'=>e = .returned (.int .i64 (dV k))/\w=w':=by
 by_cases h0:k=0
 ·subst h0
  go_enter Tryz.func233,Tryz.ntmps233
  go_wp2
  go_ret
  exact ⟨rfl,rfl⟩
 by_cases h1:k=1
 ·subst h1
  go_enter Tryz.func233,Tryz.ntmps233
  go_wp2
  go_ret
  exact ⟨rfl,rfl⟩
 by_cases h2:k=2
 ·subst h2
  go_enter Tryz.func233,Tryz.ntmps233
  go_wp2
  go_ret
  exact ⟨rfl,rfl⟩
 have e0:(k==0)=false:=by simpa using h0
 have e1:(k==1)=false:=by simpa using h1
 have e2:(k==2)=false:=by simpa using h2
 go_enter Tryz.func233,Tryz.ntmps233
 go_wp2
 go_ret
 exact ⟨aQ (by simp [dV,h0,h1,h2]),rfl⟩
theorem dY (k:Int) (w:World) (h0:0<=k) (h1:k<=1099511627776) :
  Calls Tryz.prog 232 #[.int .i64 k] w fun e w'=>e = .returned (.int .i64 (bP k))/\w=w':=by
 unfold bP
 go_enter Tryz.func232,Tryz.ntmps232
 go_wp2
 go_ret
 exact ⟨rfl,rfl⟩
theorem nX (d:Dev) (t:Int) (w:World) :
  Calls Tryz.prog 216 #[.agg #[.int .i64 d.W,.int .i64 d.H,.int .i64 d.T,.int .i64 d.R],.int .i64 t] w fun e w'=>e = .returned (.bool (au d t))/\Below w.heap.size w w':=by
 go_enter Tryz.func216,Tryz.ntmps216
 go_wp2_with fail
 refine (fO d _).mono ?_
 rintro e w1 ⟨rfl,b1⟩
 have B1:=Hd (aB (aF (Below.refl _ _) _) b1)
 obtain ⟨hcc,hff⟩:=bI b1
 clear b1
 cases hd:dQ d with
 | false =>
  have HD:=Hd hd
  clear hd
  go_wp2_with fail
  go_ret
  exact ⟨bT (by simp [au,HD.out]),B1.out⟩
 | true =>
  obtain ⟨hN,hN1,hN2⟩:=mF hd
  have HD:=Hd hd
  have HN:=Hd hN
  clear hd
  go_wp2_with (go_at_call 93;refine (aN _ _ _ _).mono ?_;rintro e w' ⟨rfl,rfl⟩)
  go_ret
  refine ⟨bT ?_,B1.out⟩
  rw [Bool.eq_iff_iff,aV,aW,HD.out,HN.out]
  simp only [true_and]
  omega
theorem bL {n lo hi:Int} {b:Bool} (h:inR n lo hi=b) (w:World):Calls Tryz.prog 93 #[.int .i64 n,.int .i64 lo,.int .i64 hi] w fun e w'=>e = .returned (.bool b)/\w=w':=by
 have:=aN n lo hi w
 rwa [h] at this
theorem zU {d:Dev} {t r s:Int} (ht:au d t=true) (h0:0<=s) (h1:s<=6):-6<=stX d t r s/\stX d t r s<=12/\-6<=stY d t r s/\stY d t r s<=12:=by
 obtain ⟨a,b,c,e,_⟩:=mK ht
 have:=bC (aW.1 ht).1
 unfold stX stY
 refine ⟨?_,?_,?_,?_⟩ <;> repeat' split
 all_goals omega
theorem sM (d:Dev) (t r s:Int) (w:World) (ht:au d t=true) (h0:0<=s) (h1:s<=6) :
  Calls Tryz.prog 260 #[.agg #[.int .i64 d.W,.int .i64 d.H,.int .i64 d.T,.int .i64 d.R],.int .i64 t,.int .i64 r,.int .i64 s] w fun e w'=>e = .returned (.int .i64 (ah d t r s))/\Below w.heap.size w w':=by
 have hd:=(aW.1 ht).1
 have ht0:=(aW.1 ht).2.1
 have ht1:=(aW.1 ht).2.2
 have hWH:=eG hd
 obtain ⟨hw1,hw2,hh1,hh2,_⟩:=bC hd
 obtain ⟨x0,x1,y0,y1,-⟩:=mK ht
 have hst:=zU (r:=r) ht h0 h1
 have e0:¬d.W=0:=by omega
 have e1:t.tmod d.W=t % d.W:=Int.tmod_eq_emod_of_nonneg ht0
 have e2:IntKind.i64.wrap (t.tdiv d.W)=t / d.W:=IntWalk.i64_quo _ _ ⟨ht0,by omega,by omega⟩
 have HS:=Hd (show kz d t r s=(inR (stX d t r s) 0 (d.W - 1) && inR (stY d t r s) 0 (d.H - 1)) from rfl)
 have HT:=Hd (show ah d t r s=if kz d t r s=true then stY d t r s * d.W+stX d t r s else -1 from rfl)
 have HX:Hid (stX d t r s=if r=0 then t % d.W+s else if r=2 then t % d.W - s else t % d.W):=rfl
 have HY:Hid (stY d t r s=if r=1 then t / d.W+s else if r=0 then t / d.W else if r=2 then t / d.W else t / d.W - s):=rfl
 have HM:=Hd (fun (h:0<=stY d t r s/\stY d t r s<=d.H - 1)=>iM h.1 (show stY d t r s<=5 by omega) (show 0<=d.W by omega) (show d.W<=6 by omega))
 generalize stX d t r s=X at *
 generalize stY d t r s=Y at *
 generalize ah d t r s=P at *
 generalize kz d t r s=B at *
 clear ht hd
 have hcase:r=0∨r=1∨r=2∨(¬r=0/\¬r=1/\¬r=2):=by omega
 have hX1:(r=0→X=t % d.W+s)/\(r=2→X=t % d.W - s)/\(¬r=0/\¬r=2→X=t % d.W):=by
  rw [HX.out]
  refine ⟨fun h=>if_pos h,fun h=>by rw [if_neg (by omega),if_pos h],fun h=>by rw [if_neg h.1,if_neg h.2]⟩
 have hY1:(r=1→Y=t / d.W+s)/\(r=0∨r=2→Y=t / d.W)/\(¬r=0/\¬r=1/\¬r=2→Y=t / d.W - s):=by
  rw [HY.out]
  refine ⟨fun h=>if_pos h,fun h=>?_,fun h=>by rw [if_neg h.2.1,if_neg h.1,if_neg h.2.2]⟩
  rcases h with h|h
  ·rw [if_neg (by omega),if_pos h]
  ·rw [if_neg (by omega),if_neg (by omega),if_pos h]
 clear HX HY
 rcases hcase with h|h|h|⟨g0,g1,g2⟩
 ·obtain rfl:=hX1.1 h
  obtain rfl:=hY1.2.1 (.inl h)
  subst h
  clear hX1 hY1
  go_enter Tryz.func260,Tryz.ntmps260
  go_wp2_with fail
  go_quiet (fail)
  clear e1 e2
  cases hX:inR (t % d.W+s) 0 (d.W - 1) with
  | false =>
   have HXX:=Hd hX
   clear hX
   go_wp2_with (go_at_call 93;refine (bL HXX.out _).mono ?_;rintro e w' ⟨rfl,rfl⟩)
   go_ret
   exact ⟨aQ (by rw [HT.out,HS.out,HXX.out];rfl),ay (aF (Below.refl _ _) _) _⟩
  | true =>
   have HXX:=Hd hX
   clear hX
   cases hY:inR (t / d.W) 0 (d.H - 1) with
   | false =>
    have HYY:=Hd hY
    clear hY
    go_wp2_with (go_at_call 93;(first|((with_reducible refine (bL HXX.out _).mono ?_);rintro e w' ⟨rfl,rfl⟩)|((with_reducible refine (bL HYY.out _).mono ?_);rintro e w' ⟨rfl,rfl⟩)))
    go_ret
    exact ⟨aQ (by rw [HT.out,HS.out,HXX.out,HYY.out];rfl),ay (aF (Below.refl _ _) _) _⟩
   | true =>
    have HYY:=Hd hY
    have hM:=HM.out (aV.1 hY)
    have hx2:=(aV.1 HXX.out)
    clear hY
    go_wp2_with (go_at_call 93;(first|((with_reducible refine (bL HXX.out _).mono ?_);rintro e w' ⟨rfl,rfl⟩)|((with_reducible refine (bL HYY.out _).mono ?_);rintro e w' ⟨rfl,rfl⟩)))
    go_ret
    exact ⟨aQ (by rw [HT.out,HS.out,HXX.out,HYY.out];first|rfl|(simp;done)|(simp;omega)),ay (aF (Below.refl _ _) _) _⟩
 ·obtain rfl:=hX1.2.2 ⟨by omega,by omega⟩
  obtain rfl:=hY1.1 h
  subst h
  clear hX1 hY1
  go_enter Tryz.func260,Tryz.ntmps260
  go_wp2_with fail
  go_quiet (fail)
  clear e1 e2
  cases hX:inR (t % d.W) 0 (d.W - 1) with
  | false =>
   have HXX:=Hd hX
   clear hX
   go_wp2_with (go_at_call 93;refine (bL HXX.out _).mono ?_;rintro e w' ⟨rfl,rfl⟩)
   go_ret
   exact ⟨aQ (by rw [HT.out,HS.out,HXX.out];rfl),ay (aF (Below.refl _ _) _) _⟩
  | true =>
   have HXX:=Hd hX
   clear hX
   cases hY:inR (t / d.W+s) 0 (d.H - 1) with
   | false =>
    have HYY:=Hd hY
    clear hY
    go_wp2_with (go_at_call 93;(first|((with_reducible refine (bL HXX.out _).mono ?_);rintro e w' ⟨rfl,rfl⟩)|((with_reducible refine (bL HYY.out _).mono ?_);rintro e w' ⟨rfl,rfl⟩)))
    go_ret
    exact ⟨aQ (by rw [HT.out,HS.out,HXX.out,HYY.out];rfl),ay (aF (Below.refl _ _) _) _⟩
   | true =>
    have HYY:=Hd hY
    have hM:=HM.out (aV.1 hY)
    have hx2:=(aV.1 HXX.out)
    clear hY
    go_wp2_with (go_at_call 93;(first|((with_reducible refine (bL HXX.out _).mono ?_);rintro e w' ⟨rfl,rfl⟩)|((with_reducible refine (bL HYY.out _).mono ?_);rintro e w' ⟨rfl,rfl⟩)))
    go_ret
    exact ⟨aQ (by rw [HT.out,HS.out,HXX.out,HYY.out];first|rfl|(simp;done)|(simp;omega)),ay (aF (Below.refl _ _) _) _⟩
 ·obtain rfl:=hX1.2.1 h
  obtain rfl:=hY1.2.1 (.inr h)
  subst h
  clear hX1 hY1
  go_enter Tryz.func260,Tryz.ntmps260
  go_wp2_with fail
  go_quiet (fail)
  clear e1 e2
  cases hX:inR (t % d.W - s) 0 (d.W - 1) with
  | false =>
   have HXX:=Hd hX
   clear hX
   go_wp2_with (go_at_call 93;refine (bL HXX.out _).mono ?_;rintro e w' ⟨rfl,rfl⟩)
   go_ret
   exact ⟨aQ (by rw [HT.out,HS.out,HXX.out];rfl),ay (aF (Below.refl _ _) _) _⟩
  | true =>
   have HXX:=Hd hX
   clear hX
   cases hY:inR (t / d.W) 0 (d.H - 1) with
   | false =>
    have HYY:=Hd hY
    clear hY
    go_wp2_with (go_at_call 93;(first|((with_reducible refine (bL HXX.out _).mono ?_);rintro e w' ⟨rfl,rfl⟩)|((with_reducible refine (bL HYY.out _).mono ?_);rintro e w' ⟨rfl,rfl⟩)))
    go_ret
    exact ⟨aQ (by rw [HT.out,HS.out,HXX.out,HYY.out];rfl),ay (aF (Below.refl _ _) _) _⟩
   | true =>
    have HYY:=Hd hY
    have hM:=HM.out (aV.1 hY)
    have hx2:=(aV.1 HXX.out)
    clear hY
    go_wp2_with (go_at_call 93;(first|((with_reducible refine (bL HXX.out _).mono ?_);rintro e w' ⟨rfl,rfl⟩)|((with_reducible refine (bL HYY.out _).mono ?_);rintro e w' ⟨rfl,rfl⟩)))
    go_ret
    exact ⟨aQ (by rw [HT.out,HS.out,HXX.out,HYY.out];first|rfl|(simp;done)|(simp;omega)),ay (aF (Below.refl _ _) _) _⟩
 ·obtain rfl:=hX1.2.2 ⟨g0,g2⟩
  obtain rfl:=hY1.2.2 ⟨g0,g1,g2⟩
  clear hX1 hY1
  have q0:(r==0)=false:=by simpa using g0
  have q1:(r==1)=false:=by simpa using g1
  have q2:(r==2)=false:=by simpa using g2
  clear g0 g1 g2
  go_enter Tryz.func260,Tryz.ntmps260
  go_wp2_with fail
  go_quiet (fail)
  clear e1 e2
  cases hX:inR (t % d.W) 0 (d.W - 1) with
  | false =>
   have HXX:=Hd hX
   clear hX
   go_wp2_with (go_at_call 93;refine (bL HXX.out _).mono ?_;rintro e w' ⟨rfl,rfl⟩)
   go_ret
   exact ⟨aQ (by rw [HT.out,HS.out,HXX.out];rfl),ay (aF (Below.refl _ _) _) _⟩
  | true =>
   have HXX:=Hd hX
   clear hX
   cases hY:inR (t / d.W - s) 0 (d.H - 1) with
   | false =>
    have HYY:=Hd hY
    clear hY
    go_wp2_with (go_at_call 93;(first|((with_reducible refine (bL HXX.out _).mono ?_);rintro e w' ⟨rfl,rfl⟩)|((with_reducible refine (bL HYY.out _).mono ?_);rintro e w' ⟨rfl,rfl⟩)))
    go_ret
    exact ⟨aQ (by rw [HT.out,HS.out,HXX.out,HYY.out];rfl),ay (aF (Below.refl _ _) _) _⟩
   | true =>
    have HYY:=Hd hY
    have hM:=HM.out (aV.1 hY)
    have hx2:=(aV.1 HXX.out)
    clear hY
    go_wp2_with (go_at_call 93;(first|((with_reducible refine (bL HXX.out _).mono ?_);rintro e w' ⟨rfl,rfl⟩)|((with_reducible refine (bL HYY.out _).mono ?_);rintro e w' ⟨rfl,rfl⟩)))
    go_ret
    exact ⟨aQ (by rw [HT.out,HS.out,HXX.out,HYY.out];first|rfl|(simp;done)|(simp;omega)),ay (aF (Below.refl _ _) _) _⟩
theorem fP (d:Dev) (w:World) (h0:0<=d.T) (h1:d.T<=1099511627776) :
  Calls Tryz.prog 148 #[.agg #[.int .i64 d.W,.int .i64 d.H,.int .i64 d.T,.int .i64 d.R]] w fun e w'=>e = .returned (.int .i64 (aX d))/\Below w.heap.size w w':=by
 unfold aX
 go_enter Tryz.func148,Tryz.ntmps148
 go_wp2
 go_ret
 exact ⟨rfl,aF (Below.refl _ _) _⟩
theorem ko (d:Dev) (w:World) (hd:dQ d=true) :
  Calls Tryz.prog 190 #[.agg #[.int .i64 d.W,.int .i64 d.H,.int .i64 d.T,.int .i64 d.R]] w fun e w'=>e = .returned (.int .i64 (fe d))/\Below w.heap.size w w':=by
 have hT:=bC hd
 have hWH:=eG hd
 have hp:=dw hd
 have hn:=fT hd
 have HN:=Hd (show fe d=d.W * d.H * aX d from rfl)
 rw [HN.out] at hn
 have hD:Below (w.alloc (.cells #[.int .i64 d.W,.int .i64 d.H,.int .i64 d.T,.int .i64 d.R] 36)).heap.size (w.alloc (.cells #[.int .i64 d.W,.int .i64 d.H,.int .i64 d.T,.int .i64 d.R] 36)) (w.alloc (.cells #[.int .i64 d.W,.int .i64 d.H,.int .i64 d.T,.int .i64 d.R] 36)):=Below.refl _ _
 go_enter Tryz.func190,Tryz.ntmps190
 go_wp2_with fail
 go_region_held3 (fun w'=>Below (w.alloc (.cells #[.int .i64 d.W,.int .i64 d.H,.int .i64 d.T,.int .i64 d.R] 36)).heap.size (w.alloc (.cells #[.int .i64 d.W,.int .i64 d.H,.int .i64 d.T,.int .i64 d.R] 36)) w'/\∀b o,b<(w.alloc (.cells #[.int .i64 d.W,.int .i64 d.H,.int .i64 d.T,.int .i64 d.R] 36)).heap.size→w'.cell? ⟨b,o,none⟩=(w.alloc (.cells #[.int .i64 d.W,.int .i64 d.H,.int .i64 d.T,.int .i64 d.R] 36)).cell? ⟨b,o,none⟩)
  (first|exact ⟨hD,(bI hD).1⟩|exact ⟨hD.drew,(bI hD.drew).1⟩)
  (first
   | (go_at_call 148;(with_reducible refine (fP d _ (by omega) (by omega)).mono ?_);rintro e w2 ⟨rfl,b2⟩;(first|(with_reducible replace hD:=aB hD b2)|(with_reducible replace hD:=aB hD.drew b2));clear b2))
 all_goals
  go_wp2_with fail
  go_ret
  exact ⟨aQ (by rw [IntWalk.i64_in (d.W * d.H) (by omega),IntWalk.i64_in _ (by omega),HN.out]),aB (aF (Below.refl _ _) _) hD⟩
theorem iy (d:Dev) (n:Int) (w:World) (hn:fF d n=true) :
  Calls Tryz.prog 72 #[.agg #[.int .i64 d.W,.int .i64 d.H,.int .i64 d.T,.int .i64 d.R],.int .i64 n] w fun e w'=>e = .returned (.tuple #[.int .i64 (n / aX d),.int .i64 (n % aX d)])/\Below w.heap.size w w':=by
 obtain ⟨hd,n0,n1,hq0,hq1,hr0,hr1⟩:=jF hn
 have hT:=bC hd
 have hWH:=eG hd
 have hp:=dw hd
 have e0:¬aX d=0:=by omega
 have e1:n.tmod (aX d)=n % aX d:=Int.tmod_eq_emod_of_nonneg n0
 have e2:IntKind.i64.wrap (n.tdiv (aX d))=n / aX d:=IntWalk.i64_quo _ _ ⟨n0,by omega,by omega⟩
 have hD:Below (w.alloc (.cells #[.int .i64 d.W,.int .i64 d.H,.int .i64 d.T,.int .i64 d.R] 36)).heap.size (w.alloc (.cells #[.int .i64 d.W,.int .i64 d.H,.int .i64 d.T,.int .i64 d.R] 36)) (w.alloc (.cells #[.int .i64 d.W,.int .i64 d.H,.int .i64 d.T,.int .i64 d.R] 36)):=Below.refl _ _
 clear hd hn
 go_enter Tryz.func72,Tryz.ntmps72
 go_wp2_with fail
 go_region_held3 (fun w'=>Below (w.alloc (.cells #[.int .i64 d.W,.int .i64 d.H,.int .i64 d.T,.int .i64 d.R] 36)).heap.size (w.alloc (.cells #[.int .i64 d.W,.int .i64 d.H,.int .i64 d.T,.int .i64 d.R] 36)) w'/\∀b o,b<(w.alloc (.cells #[.int .i64 d.W,.int .i64 d.H,.int .i64 d.T,.int .i64 d.R] 36)).heap.size→w'.cell? ⟨b,o,none⟩=(w.alloc (.cells #[.int .i64 d.W,.int .i64 d.H,.int .i64 d.T,.int .i64 d.R] 36)).cell? ⟨b,o,none⟩)
  (first|exact ⟨hD,(bI hD).1⟩|exact ⟨hD.drew,(bI hD.drew).1⟩)
  (first
   | (go_at_call 148;(with_reducible refine (fP d _ (by omega) (by omega)).mono ?_);rintro e w2 ⟨rfl,b2⟩;(first|(with_reducible replace hD:=aB hD b2)|(with_reducible replace hD:=aB hD.drew b2));clear b2))
 all_goals
  go_wp2_with fail
  go_ret2
  exact ⟨rfl,aB (aF (Below.refl _ _) _) hD⟩
theorem qI (d:Dev) (n:Int) (w:World) (hn:fF d n=true) (h7:7<=n % aX d) :
  Calls Tryz.prog 231 #[.agg #[.int .i64 d.W,.int .i64 d.H,.int .i64 d.T,.int .i64 d.R],.int .i64 n] w fun e w'=>e = .returned (.tuple #[.int .i64 (n / aX d),.int .i64 ((n % aX d - 7) / d.T),.int .i64 ((n % aX d - 7) % d.T),.bool true])/\Below w.heap.size w w':=by
 obtain ⟨hd,n0,n1,hq0,hq1,hr0,hr1⟩:=jF hn
 have HN:=Hd hn
 have hT:=bC hd
 have hp:=dw hd
 clear hn
 go_enter Tryz.func231,Tryz.ntmps231
 go_wp2_with fail
 refine (iy d n _ HN.out).mono ?_
 rintro e w1 ⟨rfl,b1⟩
 have hb1:=b1.size
 simp only [World.size_alloc] at hb1
 obtain ⟨hcc,hff⟩:=bI b1
 have B1:=Hd (aB (aF (Below.refl _ _) _) b1)
 clear b1
 generalize hk:n % aX d=k at *
 generalize hq:n / aX d=q at *
 have HK:=Hd hk
 have HQ:=Hd hq
 clear hk hq HN
 have e0:¬d.T=0:=by omega
 have e1:(k - 7).tmod d.T=(k - 7) % d.T:=Int.tmod_eq_emod_of_nonneg (by omega)
 have e2:IntKind.i64.wrap ((k - 7).tdiv d.T)=(k - 7) / d.T:=IntWalk.i64_quo _ _ ⟨by omega,by omega,by omega⟩
 have e3:IntKind.i64.wrap (k - 7)=k - 7:=IntWalk.i64_in _ (by omega)
 have hh:decide (k≥7)=true:=by simpa using h7
 go_wp2_with fail
 go_quiet (fail)
 go_wp2_with fail
 exact bodyPost_ret (v := .tuple #[.int .i64 q,.int .i64 ((k - 7) / d.T),.int .i64 ((k - 7) % d.T),.bool true]) (by simp [results,Tryz.results231,go_sem]) rfl ⟨by rw [HK.out,HQ.out],ay B1.out _⟩
theorem gy {d:Dev} {t:Int} {b:Bool} (h:au d t=b) (w:World):Calls Tryz.prog 216 #[.agg #[.int .i64 d.W,.int .i64 d.H,.int .i64 d.T,.int .i64 d.R],.int .i64 t] w fun e w'=>e = .returned (.bool b)/\Below w.heap.size w w':=by
 have:=nX d t w
 rwa [h] at this
theorem fw {d:Dev} {t r s p:Int} (h:ah d t r s=p) (ht:au d t=true) (h0:0<=s) (h1:s<=6) (w:World):Calls Tryz.prog 260 #[.agg #[.int .i64 d.W,.int .i64 d.H,.int .i64 d.T,.int .i64 d.R],.int .i64 t,.int .i64 r,.int .i64 s] w fun e w'=>e = .returned (.int .i64 p)/\Below w.heap.size w w':=by
 have:=sM d t r s w ht h0 h1
 rwa [h] at this
theorem pG (d:Dev) (t p:Int) (w:World) :
  Calls Tryz.prog 224 #[.agg #[.int .i64 d.W,.int .i64 d.H,.int .i64 d.T,.int .i64 d.R],.int .i64 t,.int .i64 p] w fun e w'=>e = .returned (.int .i64 (dZ d t p))/\Below w.heap.size w w':=by
 have HO:Hid (dZ d t p=if au d t=true/\0<=p/\p<dV (bA d t) then t * aX d+5+p else -1):=rfl
 go_enter Tryz.func224,Tryz.ntmps224
 go_wp2_with fail
 cases ht:au d t with
 | false =>
  refine (gy ht _).mono ?_
  rintro e w1 ⟨rfl,b1⟩
  have B1:=Hd (aB (aF (Below.refl _ _) _) b1)
  have HT:=Hd ht
  clear b1 ht
  go_wp2_with fail
  go_ret
  exact ⟨aQ (by rw [HO.out,if_neg (by rw [HT.out];simp)]),B1.out⟩
 | true =>
  refine (gy ht _).mono ?_
  rintro e w1 ⟨rfl,b1⟩
  have B1:=Hd (aB (aF (Below.refl _ _) _) b1)
  have D1:=Hd b1
  obtain ⟨hcc,hff⟩:=bI b1
  have hs1:=b1.size
  simp only [World.size_alloc] at hs1
  obtain ⟨hd,ht0,ht1⟩:=aW.1 ht
  have hWH:=eG hd
  have hT:=bC hd
  have hp:=dw hd
  have hop:=gG d t
  have HM:=Hd (iM ht0 (show t<=35 by omega) (show 0<=aX d by omega) hp.2)
  have HT:=Hd ht
  have HD:=Hd hd
  clear b1 ht hd
  go_wp2_with fail
  refine (kG d t _ HD.out ht0 (by omega)).mono ?_
  rintro e w2 ⟨rfl,b2⟩
  have B2:=Hd (aB B1.out b2)
  have D2:=Hd (aB D1.out b2)
  have hs2:=b2.size
  clear b2 hcc hff
  obtain ⟨hcc,hff⟩:=bI D2.out
  generalize hK:bA d t=K at *
  have HK:=Hd hK
  clear hK
  go_wp2_with (go_at_call 259;refine (oG _ _).mono ?_;rintro e w' ⟨rfl,rfl⟩)
  generalize hQ:dV K=Q at *
  have HQ:=Hd hQ
  clear hQ
  have e3:IntKind.i64.wrap (Q - 1)=Q - 1:=IntWalk.i64_in _ (by omega)
  cases hin:inR p 0 (Q - 1) with
  | false =>
   have HI:=Hd hin
   clear hin
   go_wp2_with (go_at_call 93;refine (bL HI.out _).mono ?_;rintro e w' ⟨rfl,rfl⟩)
   go_ret
   exact ⟨aQ (by rw [HO.out,if_neg];rintro ⟨_,h0,h1⟩;have:=nI.1 HI.out;omega),B2.out⟩
  | true =>
   have HI:=Hd hin
   have hi:=aV.1 hin
   clear hin
   go_wp2_with (go_at_call 93;refine (bL HI.out _).mono ?_;rintro e w' ⟨rfl,rfl⟩)
   refine (fP d _ (by omega) (by omega)).mono ?_
   rintro e w3 ⟨rfl,b3⟩
   have B3:=Hd (aB B2.out b3)
   have hM:=HM.out
   clear b3 hcc hff e3
   go_wp2_with fail
   go_ret
   exact ⟨aQ (by rw [HO.out,if_pos ⟨HT.out,by omega,by omega⟩]),B3.out⟩
theorem zB {d:Dev} {t r k:Int} (h:au d t=false):Hid (¬(au d t=true/\(0<=r/\r<=3)/\(0<=k/\k<d.T)/\0<=ah d t r (bP k))):=by
 show ¬_
 rw [h];simp
theorem uR (d:Dev) (t r k:Int) (w:World) (ht:au d t=false) :
  Calls Tryz.prog 262 #[.agg #[.int .i64 d.W,.int .i64 d.H,.int .i64 d.T,.int .i64 d.R],.int .i64 t,.int .i64 r,.int .i64 k] w fun e w'=>e = .returned (.int .i64 (dJ d t r k))/\Below w.heap.size w w':=by
 have HO:Hid (dJ d t r k=if au d t=true/\(0<=r/\r<=3)/\(0<=k/\k<d.T)/\0<=ah d t r (bP k) then t * aX d+7+r * d.T+k else -1):=rfl
 have hbad:=zB (r:=r) (k:=k) ht
 have HT:=Hd ht
 have HR:=Hd hbad
 have HK:=HR
 have HS:=HR
 clear ht
 go_enter Tryz.func262,Tryz.ntmps262
 go_wp2_with fail
 have hsub:=aZ (w.alloc (.cells #[.int .i64 d.W,.int .i64 d.H,.int .i64 d.T,.int .i64 d.R] 36))
 have hsc:=aR (w.alloc (.cells #[.int .i64 d.W,.int .i64 d.H,.int .i64 d.T,.int .i64 d.R] 36))
 refine aI (w.alloc (.cells #[.int .i64 d.W,.int .i64 d.H,.int .i64 d.T,.int .i64 d.R] 36)) (by kernel_rfl) (by kernel_rfl) (by first|exact Below.refl _ _|exact hD) ?_
 repeat (go_big_quiet_step ((first
  | (go_at_call 216;with_reducible exact aO (gy HT.out _))
   | (go_at_call 93;(first|with_reducible exact aU (bL HR.out _)|with_reducible exact aU (bL HK.out _)))
   | (go_at_call 232;with_reducible exact aU (dY k _ (by omega) (by omega)))
   | (go_at_call 260;with_reducible exact aO (fw HS.out HT.out (by omega) (by omega) _))
   | (go_at_call 148;with_reducible exact aO (fP d _ (by omega) (by omega))))))
 refine wpQuiet_nil ?_
 rintro _ ⟨⟨w2,hD⟩,rfl⟩
 (try dsimp only)
 clear hsub hsc
 all_goals
  go_wp2_with fail
  go_ret
  exact ⟨aQ (by rw [HO.out,if_neg hbad.out]),aB (aF (Below.refl _ _) _) hD⟩
theorem uS (d:Dev) (t r k:Int) (w:World) (ht:au d t=true) (hr:inR r 0 3=false) :
  Calls Tryz.prog 262 #[.agg #[.int .i64 d.W,.int .i64 d.H,.int .i64 d.T,.int .i64 d.R],.int .i64 t,.int .i64 r,.int .i64 k] w fun e w'=>e = .returned (.int .i64 (dJ d t r k))/\Below w.heap.size w w':=by
 have HO:Hid (dJ d t r k=if au d t=true/\(0<=r/\r<=3)/\(0<=k/\k<d.T)/\0<=ah d t r (bP k) then t * aX d+7+r * d.T+k else -1):=rfl
 have hbad:Hid (¬(au d t=true/\(0<=r/\r<=3)/\(0<=k/\k<d.T)/\0<=ah d t r (bP k))):=by rintro ⟨_,h,_⟩;have:=nI.1 hr;omega
 have hd:=(aW.1 ht).1
 have hT:=bC hd
 have HT:=Hd ht
 have HR:=Hd hr
 have HK:=hbad
 have HS:=hbad
 clear ht hr hd
 go_enter Tryz.func262,Tryz.ntmps262
 go_wp2_with fail
 have hsub:=aZ (w.alloc (.cells #[.int .i64 d.W,.int .i64 d.H,.int .i64 d.T,.int .i64 d.R] 36))
 have hsc:=aR (w.alloc (.cells #[.int .i64 d.W,.int .i64 d.H,.int .i64 d.T,.int .i64 d.R] 36))
 refine aI (w.alloc (.cells #[.int .i64 d.W,.int .i64 d.H,.int .i64 d.T,.int .i64 d.R] 36)) (by kernel_rfl) (by kernel_rfl) (by first|exact Below.refl _ _|exact hD) ?_
 repeat (go_big_quiet_step ((first
  | (go_at_call 216;with_reducible exact aO (gy HT.out _))
   | (go_at_call 93;(first|with_reducible exact aU (bL HR.out _)|with_reducible exact aU (bL HK.out _)))
   | (go_at_call 232;with_reducible exact aU (dY k _ (by omega) (by omega)))
   | (go_at_call 260;with_reducible exact aO (fw HS.out HT.out (by omega) (by omega) _))
   | (go_at_call 148;with_reducible exact aO (fP d _ (by omega) (by omega))))))
 refine wpQuiet_nil ?_
 rintro _ ⟨⟨w2,hD⟩,rfl⟩
 (try dsimp only)
 clear hsub hsc
 all_goals
  go_wp2_with fail
  go_ret
  exact ⟨aQ (by rw [HO.out,if_neg hbad.out]),aB (aF (Below.refl _ _) _) hD⟩
theorem uT (d:Dev) (t r k:Int) (w:World) (ht:au d t=true) (hr:inR r 0 3=true) (hk:inR k 0 (d.T - 1)=false) :
  Calls Tryz.prog 262 #[.agg #[.int .i64 d.W,.int .i64 d.H,.int .i64 d.T,.int .i64 d.R],.int .i64 t,.int .i64 r,.int .i64 k] w fun e w'=>e = .returned (.int .i64 (dJ d t r k))/\Below w.heap.size w w':=by
 have HO:Hid (dJ d t r k=if au d t=true/\(0<=r/\r<=3)/\(0<=k/\k<d.T)/\0<=ah d t r (bP k) then t * aX d+7+r * d.T+k else -1):=rfl
 have hbad:Hid (¬(au d t=true/\(0<=r/\r<=3)/\(0<=k/\k<d.T)/\0<=ah d t r (bP k))):=by rintro ⟨_,_,h,_⟩;have:=nI.1 hk;omega
 have hd:=(aW.1 ht).1
 have hT:=bC hd
 have e3:IntKind.i64.wrap (d.T - 1)=d.T - 1:=IntWalk.i64_in _ (by omega)
 have HT:=Hd ht
 have HR:=Hd hr
 have HK:=Hd hk
 have HS:=hbad
 clear ht hr hd hk
 go_enter Tryz.func262,Tryz.ntmps262
 go_wp2_with fail
 have hsub:=aZ (w.alloc (.cells #[.int .i64 d.W,.int .i64 d.H,.int .i64 d.T,.int .i64 d.R] 36))
 have hsc:=aR (w.alloc (.cells #[.int .i64 d.W,.int .i64 d.H,.int .i64 d.T,.int .i64 d.R] 36))
 refine aI (w.alloc (.cells #[.int .i64 d.W,.int .i64 d.H,.int .i64 d.T,.int .i64 d.R] 36)) (by kernel_rfl) (by kernel_rfl) (by first|exact Below.refl _ _|exact hD) ?_
 repeat (go_big_quiet_step ((first
  | (go_at_call 216;with_reducible exact aO (gy HT.out _))
   | (go_at_call 93;(first|with_reducible exact aU (bL HR.out _)|with_reducible exact aU (bL HK.out _)))
   | (go_at_call 232;with_reducible exact aU (dY k _ (by omega) (by omega)))
   | (go_at_call 260;with_reducible exact aO (fw HS.out HT.out (by omega) (by omega) _))
   | (go_at_call 148;with_reducible exact aO (fP d _ (by omega) (by omega))))))
 refine wpQuiet_nil ?_
 rintro _ ⟨⟨w2,hD⟩,rfl⟩
 (try dsimp only)
 clear hsub hsc
 all_goals
  go_wp2_with fail
  go_ret
  exact ⟨aQ (by rw [HO.out,if_neg hbad.out]),aB (aF (Below.refl _ _) _) hD⟩
theorem uU (d:Dev) (t r k:Int) (w:World) (ht:au d t=true) (hr:inR r 0 3=true) (hk:inR k 0 (d.T - 1)=true) (hs:ah d t r (bP k)<0) :
  Calls Tryz.prog 262 #[.agg #[.int .i64 d.W,.int .i64 d.H,.int .i64 d.T,.int .i64 d.R],.int .i64 t,.int .i64 r,.int .i64 k] w fun e w'=>e = .returned (.int .i64 (dJ d t r k))/\Below w.heap.size w w':=by
 have HO:Hid (dJ d t r k=if au d t=true/\(0<=r/\r<=3)/\(0<=k/\k<d.T)/\0<=ah d t r (bP k) then t * aX d+7+r * d.T+k else -1):=rfl
 have hbad:Hid (¬(au d t=true/\(0<=r/\r<=3)/\(0<=k/\k<d.T)/\0<=ah d t r (bP k))):=by rintro ⟨_,_,_,h⟩;omega
 have hd:=(aW.1 ht).1
 have hT:=bC hd
 have hki:=aV.1 hk
 have hL:0<=bP k/\bP k<=6:=by unfold bP;omega
 have e3:IntKind.i64.wrap (d.T - 1)=d.T - 1:=IntWalk.i64_in _ (by omega)
 obtain ⟨P,hP⟩:∃P,ah d t r (bP k)=P:=⟨_,rfl⟩
 rw [hP] at hs
 have HT:=Hd ht
 have HR:=Hd hr
 have HK:=Hd hk
 have HS:=Hd hP
 clear ht hr hd hk hP
 go_enter Tryz.func262,Tryz.ntmps262
 go_wp2_with fail
 have hsub:=aZ (w.alloc (.cells #[.int .i64 d.W,.int .i64 d.H,.int .i64 d.T,.int .i64 d.R] 36))
 have hsc:=aR (w.alloc (.cells #[.int .i64 d.W,.int .i64 d.H,.int .i64 d.T,.int .i64 d.R] 36))
 refine aI (w.alloc (.cells #[.int .i64 d.W,.int .i64 d.H,.int .i64 d.T,.int .i64 d.R] 36)) (by kernel_rfl) (by kernel_rfl) (by first|exact Below.refl _ _|exact hD) ?_
 repeat (go_big_quiet_step ((first
  | (go_at_call 216;with_reducible exact aO (gy HT.out _))
   | (go_at_call 93;(first|with_reducible exact aU (bL HR.out _)|with_reducible exact aU (bL HK.out _)))
   | (go_at_call 232;with_reducible exact aU (dY k _ (by omega) (by omega)))
   | (go_at_call 260;with_reducible exact aO (fw HS.out HT.out (by omega) (by omega) _))
   | (go_at_call 148;with_reducible exact aO (fP d _ (by omega) (by omega))))))
 refine wpQuiet_nil ?_
 rintro _ ⟨⟨w2,hD⟩,rfl⟩
 (try dsimp only)
 clear hsub hsc
 all_goals
  go_wp2_with fail
  go_ret
  exact ⟨aQ (by rw [HO.out,if_neg hbad.out]),aB (aF (Below.refl _ _) _) hD⟩
theorem uV (d:Dev) (t r k:Int) (w:World) (ht:au d t=true) (hr:inR r 0 3=true) (hk:inR k 0 (d.T - 1)=true) (hs:0<=ah d t r (bP k)) :
  Calls Tryz.prog 262 #[.agg #[.int .i64 d.W,.int .i64 d.H,.int .i64 d.T,.int .i64 d.R],.int .i64 t,.int .i64 r,.int .i64 k] w fun e w'=>e = .returned (.int .i64 (dJ d t r k))/\Below w.heap.size w w':=by
 have HO:Hid (dJ d t r k=if au d t=true/\(0<=r/\r<=3)/\(0<=k/\k<d.T)/\0<=ah d t r (bP k) then t * aX d+7+r * d.T+k else -1):=rfl
 have hd:=(aW.1 ht).1
 have ht0:=(aW.1 ht).2
 have hT:=bC hd
 have hWH:=eG hd
 have hp:=dw hd
 have hki:=aV.1 hk
 have hri:=aV.1 hr
 have hgood:Hid (au d t=true/\(0<=r/\r<=3)/\(0<=k/\k<d.T)/\0<=ah d t r (bP k)):=⟨ht,hri,by omega,hs⟩
 have hL:0<=bP k/\bP k<=6:=by unfold bP;omega
 have e3:IntKind.i64.wrap (d.T - 1)=d.T - 1:=IntWalk.i64_in _ (by omega)
 have hM:=iM ht0.1 (show t<=35 by omega) (show 0<=aX d by omega) hp.2
 have hM2:=iM hri.1 hri.2 (show 0<=d.T by omega) (show d.T<=4 by omega)
 have HE:=Hd (And.intro (IntWalk.wrap64_in (t * aX d) (by omega)) (And.intro (IntWalk.wrap64_in (t * aX d+7) (by omega)) (And.intro (IntWalk.wrap64_in (r * d.T) (by omega)) (And.intro (IntWalk.wrap64_in (t * aX d+7+r * d.T) (by omega)) (IntWalk.wrap64_in (t * aX d+7+r * d.T+k) (by omega))))))
 obtain ⟨P,hP⟩:∃P,ah d t r (bP k)=P:=⟨_,rfl⟩
 rw [hP] at hs
 have HT:=Hd ht
 have HR:=Hd hr
 have HK:=Hd hk
 have HS:=Hd hP
 have HG:=hgood
 clear ht hr hd hk hP hM hM2
 go_enter Tryz.func262,Tryz.ntmps262
 go_wp2_with fail
 have hsub:=aZ (w.alloc (.cells #[.int .i64 d.W,.int .i64 d.H,.int .i64 d.T,.int .i64 d.R] 36))
 have hsc:=aR (w.alloc (.cells #[.int .i64 d.W,.int .i64 d.H,.int .i64 d.T,.int .i64 d.R] 36))
 refine aI (w.alloc (.cells #[.int .i64 d.W,.int .i64 d.H,.int .i64 d.T,.int .i64 d.R] 36)) (by kernel_rfl) (by kernel_rfl) (by first|exact Below.refl _ _|exact hD) ?_
 repeat (go_big_quiet_step ((first
  | (go_at_call 216;with_reducible exact aO (gy HT.out _))
   | (go_at_call 93;(first|with_reducible exact aU (bL HR.out _)|with_reducible exact aU (bL HK.out _)))
   | (go_at_call 232;with_reducible exact aU (dY k _ (by omega) (by omega)))
   | (go_at_call 260;with_reducible exact aO (fw HS.out HT.out (by omega) (by omega) _))
   | (go_at_call 148;with_reducible exact aO (fP d _ (by omega) (by omega))))))
 refine wpQuiet_nil ?_
 rintro _ ⟨⟨w2,hD⟩,rfl⟩
 (try dsimp only)
 clear hsub hsc
 all_goals
  go_wp2_with fail
  have hsub:=aZ (w.alloc (.cells #[.int .i64 d.W,.int .i64 d.H,.int .i64 d.T,.int .i64 d.R] 36))
 have hsc:=aR (w.alloc (.cells #[.int .i64 d.W,.int .i64 d.H,.int .i64 d.T,.int .i64 d.R] 36))
 refine aI (w.alloc (.cells #[.int .i64 d.W,.int .i64 d.H,.int .i64 d.T,.int .i64 d.R] 36)) (by kernel_rfl) (by kernel_rfl) (by first|exact Below.refl _ _|exact hD) ?_
 repeat (go_big_quiet_step ((first
  | (go_at_call 216;with_reducible exact aO (gy HT.out _))
   | (go_at_call 93;(first|with_reducible exact aU (bL HR.out _)|with_reducible exact aU (bL HK.out _)))
   | (go_at_call 232;with_reducible exact aU (dY k _ (by omega) (by omega)))
   | (go_at_call 260;with_reducible exact aO (fw HS.out HT.out (by omega) (by omega) _))
   | (go_at_call 148;with_reducible exact aO (fP d _ (by omega) (by omega))))))
 refine wpQuiet_nil ?_
 rintro _ ⟨⟨w2,hD⟩,rfl⟩
 (try dsimp only)
 clear hsub hsc
 all_goals
  go_wp2_with fail
  go_ret
  exact ⟨aQ (by rw [HO.out,if_pos HG.out];first|rfl|(rw [HE.out.1,HE.out.2.1,HE.out.2.2.1,HE.out.2.2.2.1,HE.out.2.2.2.2])),aB (aF (Below.refl _ _) _) hD⟩
theorem nO (d:Dev) (t r k:Int) (w:World) :
  Calls Tryz.prog 262 #[.agg #[.int .i64 d.W,.int .i64 d.H,.int .i64 d.T,.int .i64 d.R],.int .i64 t,.int .i64 r,.int .i64 k] w fun e w'=>e = .returned (.int .i64 (dJ d t r k))/\Below w.heap.size w w':=by
 cases ht:au d t with
 | false=>exact uR d t r k w ht
 | true =>
  cases hr:inR r 0 3 with
  | false=>exact uS d t r k w ht hr
  | true =>
   cases hk:inR k 0 (d.T - 1) with
   | false=>exact uT d t r k w ht hr hk
   | true =>
    rcases Int.lt_or_le (ah d t r (bP k)) 0 with h|h
    ·exact uU d t r k w ht hr hk h
    ·exact uV d t r k w ht hr hk h
/-! ### which nodes exist -/
theorem oW (d:Dev) (n:Int) (w:World) (hn:fF d n=false) :
  Calls Tryz.prog 222 #[.agg #[.int .i64 d.W,.int .i64 d.H,.int .i64 d.T,.int .i64 d.R],.int .i64 n] w fun e w'=>e = .returned (.bool (bH d n))/\Below w.heap.size w w':=by
 have HR:Hid (bH d n=false):=by show _=false;unfold bH;rw [hn];rfl
 have HN:=Hd hn
 clear hn
 go_enter Tryz.func222,Tryz.ntmps222
 go_wp2_with fail
 refine (fO d _).mono ?_
 rintro e w1 ⟨rfl,b1⟩
 have B1:=Hd (aB (aF (Below.refl _ _) _) b1)
 have hb1:=b1.size
 simp only [World.size_alloc] at hb1
 obtain ⟨hcc,hff⟩:=bI b1
 clear b1
 cases hd:dQ d with
 | false =>
  go_wp2_with fail
  go_ret
  exact ⟨bT HR.out.symm,B1.out⟩
 | true =>
  have hh:=fT hd
  have HD:=Hd hd
  clear hd
  go_wp2_with fail
  refine (ko d _ HD.out).mono ?_
  rintro e w2 ⟨rfl,b2⟩
  have B2:=Hd (aB B1.out b2)
  clear b2 hcc hff
  have e3:IntKind.i64.wrap (fe d - 1)=fe d - 1:=IntWalk.i64_in _ (by omega)
  have hin:inR n 0 (fe d - 1)=false:=by
   cases h:inR n 0 (fe d - 1) with
   | false=>rfl
   | true =>
    have h1:=HN.out
    have h2:=aV.1 h
    rw [fF,HD.out,decide_eq_true (by omega),decide_eq_true (by omega)] at h1
    cases h1
  have HI:=Hd hin
  clear hin
  go_wp2_with (go_at_call 93;refine (bL HI.out _).mono ?_;rintro e w' ⟨rfl,rfl⟩)
  go_ret
  exact ⟨bT HR.out.symm,B2.out⟩
theorem pM (d:Dev) (n:Int) (w:World) (hn:fF d n=true) :
  Calls Tryz.prog 222 #[.agg #[.int .i64 d.W,.int .i64 d.H,.int .i64 d.T,.int .i64 d.R],.int .i64 n] w fun e w'=>e = .returned (.bool (bH d n))/\Below w.heap.size w w':=by
 have HR:Hid (bH d n=oH d (n / aX d) (n % aX d)):=by show _=_;unfold bH;rw [hn];rfl
 have HN:=Hd hn
 obtain ⟨hd,n0,n1,hq0,hq1,hr0,hr1⟩:=jF hn
 have hT:=bC hd
 have hp:=dw hd
 have hWH:=eG hd
 have hh:=fT hd
 have HTI:=Hd (jk hn)
 have HD:=Hd hd
 have e3:IntKind.i64.wrap (fe d - 1)=fe d - 1:=IntWalk.i64_in _ (by omega)
 have HI:Hid (inR n 0 (fe d - 1)=true):=by
  show _=true
  unfold fF at hn
  simp only [Bool.and_eq_true,decide_eq_true_eq] at hn
  rw [aV]
  omega
 clear hn hd
 go_enter Tryz.func222,Tryz.ntmps222
 go_wp2_with fail
 refine (fO d _).mono ?_
 rintro e w1 ⟨rfl,b1⟩
 rw [HD.out]
 have B1:=Hd b1
 have hb1:=b1.size
 simp only [World.size_alloc] at hb1
 obtain ⟨hcc,hff⟩:=bI b1
 clear b1
 go_wp2_with fail
 refine (ko d _ HD.out).mono ?_
 rintro e w2 ⟨rfl,b2⟩
 have B2:=Hd (aB B1.out b2)
 have hb2:=b2.size
 clear b2 hcc hff
 obtain ⟨hcc,hff⟩:=bI B2.out
 go_wp2_with (go_at_call 93;refine (bL HI.out _).mono ?_;rintro e w' ⟨rfl,rfl⟩)
 refine (iy d n _ HN.out).mono ?_
 rintro e w3 ⟨rfl,b3⟩
 have B3:=Hd (aB B2.out b3)
 have hb3:=b3.size
 clear b3 hcc hff e3
 obtain ⟨hcc,hff⟩:=bI B3.out
 have hWIRE:=Hd (fun (h7:7<=n % aX d) (w:World)=>qI d n w HN.out h7)
 generalize hk:n % aX d=k at *
 generalize hq:n / aX d=q at *
 have hK:oH d q k=if k<5 then decide (k<iC (bA d q)) else if k<7 then decide (k - 5<dV (bA d q)) else decide (0<=ah d q ((k - 7) / d.T) (bP ((k - 7) % d.T))):=rfl
 have HK:=Hd hK
 have HKQ:=Hd (And.intro hk hq)
 have hip:=mD d q
 have hop:=gG d q
 have hKT:=(fun w=>kG d q w HD.out (by omega) (by omega))
 have HKT:=Hd hKT
 generalize bA d q=K at *
 clear hK hk hq hKT
 have h3:k<5∨(¬k<5/\k<7)∨(¬k<5/\¬k<7):=by omega
 rcases h3 with h|⟨h,h'⟩|⟨h,h'⟩
 ·go_wp2_with fail
  refine (HKT.out _).mono ?_
  rintro e w4 ⟨rfl,b4⟩
  have B4:=Hd (aB B3.out b4)
  clear b4 hcc hff
  generalize hQ:iC K=Q at *
  have HQ:=Hd hQ
  clear hQ
  go_wp2_with (go_at_call 258;refine (pF _ _).mono ?_;rw [HQ.out];rintro e w' ⟨rfl,rfl⟩)
  go_ret
  exact ⟨bT (by rw [HR.out,HK.out,if_pos (by omega)]),aB (aF (Below.refl _ _) _) B4.out⟩
 ·go_wp2_with fail
  refine (HKT.out _).mono ?_
  rintro e w4 ⟨rfl,b4⟩
  have B4:=Hd (aB B3.out b4)
  clear b4 hcc hff
  generalize hQ:dV K=Q at *
  have HQ:=Hd hQ
  clear hQ
  go_wp2_with (go_at_call 259;refine (oG _ _).mono ?_;rw [HQ.out];rintro e w' ⟨rfl,rfl⟩)
  go_ret
  exact ⟨bT (by rw [HR.out,HK.out,if_neg (by omega),if_pos (by omega)]),aB (aF (Below.refl _ _) _) B4.out⟩
 ·have hT0:=Int.ediv_nonneg (show 0<=k - 7 by omega) (show 0<=d.T by omega)
  have hT1:=Int.emod_nonneg (k - 7) (show d.T≠0 by omega)
  have hT2:=Int.emod_lt_of_pos (k - 7) (show 0<d.T by omega)
  go_wp2_with fail
  refine (hWIRE.out (by omega) _).mono ?_
  rintro e w4 ⟨rfl,b4⟩
  have hD:=aB B3.out b4
  have hb4:=b4.size
  clear b4 hcc hff
  obtain ⟨hcc,hff⟩:=bI hD
  generalize (k - 7) / d.T=r at *
  generalize (k - 7) % d.T=m at *
  have hL:0<=bP m/\bP m<=6:=by unfold bP;omega
  have HS:Hid (∃P,ah d q r (bP m)=P):=⟨_,rfl⟩
  obtain ⟨P,hP⟩:=HS.out
  have HP:=Hd hP
  clear hP
  go_wp2_with fail
  clear hcc hff
  have hsub:=aZ (w.alloc (.cells #[.int .i64 d.W,.int .i64 d.H,.int .i64 d.T,.int .i64 d.R] 36))
  have hsc:=aR (w.alloc (.cells #[.int .i64 d.W,.int .i64 d.H,.int .i64 d.T,.int .i64 d.R] 36))
  refine aI (w.alloc (.cells #[.int .i64 d.W,.int .i64 d.H,.int .i64 d.T,.int .i64 d.R] 36)) (by kernel_rfl) (by kernel_rfl) (by first|exact Below.refl _ _|exact hD) ?_
  repeat (go_big_quiet_step ((first
   | (go_at_call 232;with_reducible exact aU (dY m _ (by omega) (by omega)))
   | (go_at_call 260;with_reducible exact aO (fw HP.out HTI.out (by omega) (by omega) _)))))
  refine wpQuiet_nil ?_
  rintro _ ⟨⟨w2,hD⟩,rfl⟩
  (try dsimp only)
  clear hsub hsc
  go_wp2_with fail
  go_ret
  exact ⟨bT (by rw [HR.out,HK.out,if_neg (by omega),if_neg (by omega),HP.out]),aB (aF (Below.refl _ _) _) hD⟩
theorem eU (d:Dev) (n:Int) (w:World) :
  Calls Tryz.prog 222 #[.agg #[.int .i64 d.W,.int .i64 d.H,.int .i64 d.T,.int .i64 d.R],.int .i64 n] w fun e w'=>e = .returned (.bool (bH d n))/\Below w.heap.size w w':=by
 cases hn:fF d n with
 | false=>exact oW d n w hn
 | true=>exact pM d n w hn
theorem uW {d:Dev} {t r k s:Int} (h:ah d t ((r+2) % 4) s<0):j5 (iV d t r k s)=[]:=by
 have:iV d t r k s=-1:=by
  unfold iV dJ
  rw [if_neg]
  rintro ⟨h1,_⟩
  have:=(aW.1 h1).2.1
  omega
 rw [this];rfl
theorem jL {x:Int} (h:0<=x):j5 x=[x]:=by unfold j5;rw [if_pos h]
theorem jh {x:Int} (h:x<0):j5 x=[]:=by unfold j5;rw [if_neg (by omega)]
theorem sN {b b':Nat} {w w':World} {A A':Option Addr} {n c n' c':Nat} {xs:List Int} {x:Int} (h:Own b w A n c xs) (k:Own b' w' A' n' c' (ins xs x)):n'<=n+1:=by
 have:=nQ xs x
 rw [h.len,k.len] at this
 exact this
theorem kr (d:Dev) (t pin r k:Int) (s:Nat):gB d t pin r k (s+1)=gB d t pin r k s++jw d t pin r k ((s:Int)+1):=by simp [gB,List.range_succ]
theorem ku (d:Dev) (t pin r:Int) (k:Nat):gX d t pin r (k+1)=gX d t pin r k++gB d t pin r (k:Int) (bP (k:Int)).toNat:=by simp [gX,List.range_succ]
theorem kw (d:Dev) (t pin:Int) (r:Nat):fU d t pin (r+1)=fU d t pin r++gX d t pin (r:Int) d.T.toNat:=by simp [fU,List.range_succ]
theorem xQ {d:Dev} {t pin r k:Int} {s:Nat} (h7:pin<7) (h:oZ d pin k=false):gB d t pin r k s=[]:=by
 unfold gB
 rw [List.flatMap_eq_nil_iff]
 intro j _
 unfold jw jv
 rw [if_neg (show ¬7<=pin by omega),h]
 rfl
theorem yJ {d:Dev} {t pin r k s:Int} (h7:pin<7) (h:oZ d pin k=true):jw d t pin r k s=j5 (iV d t r k s):=by
 unfold jw jv
 rw [if_neg (show ¬7<=pin by omega),h,if_pos rfl]
theorem qJ (d:Dev) (t pin:Int) (w:World) (ht:au d t=true) (p0:0<=pin) (p5:pin<5) :
  Calls Tryz.prog 236 #[.agg #[.int .i64 d.W,.int .i64 d.H,.int .i64 d.T,.int .i64 d.R],.int .i64 t,.int .i64 pin] w fun e w'=>∃A n c,e = .returned (.slice A n c)/\Own w.heap.size w' A n c (asc (fU d t pin 4))/\Below w.heap.size w w':=by
 have HT:=Hd ht
 have hTT:=bC (aW.1 ht).1
 have HB0:=Hd (aF (Below.refl w.heap.size w) (.cells #[.int .i64 d.W,.int .i64 d.H,.int .i64 d.T,.int .i64 d.R] 36))
 have HAR:=fun r=>Hd (kw d t pin r)
 clear ht
 go_enter Tryz.func236,Tryz.ntmps236
 go_wp2_with fail
 go_loopw [7,8] (fun v i wr=>∃(r:Nat) (A:Option Addr) (n c:Nat),r<=4/\i = .int .i64 r/\v = .slice A n c/\n<=8 * r/\Own w.heap.size wr A n c (asc (fU d t pin r))/\Below (w.alloc (.cells #[.int .i64 d.W,.int .i64 d.H,.int .i64 d.T,.int .i64 d.R] 36)).heap.size (w.alloc (.cells #[.int .i64 d.W,.int .i64 d.H,.int .i64 d.T,.int .i64 d.R] 36)) wr) (fun _ i _=>4 - (intOf i).toNat)
 case atStart=>exact ⟨0,none,0,0,by omega,rfl,rfl,by omega,by simpa [fU,asc] using Own.nil,Below.refl _ _⟩
 case round =>
  obtain ⟨r,A,n,c,hr,rfl,rfl,hn,ho,hb⟩:=hrel
  have HO:=Hd ho
  have HB:=Hd hb
  have hs:=hb.size
  simp only [World.size_alloc] at hs
  clear ho hb
  by_cases hlt:r<4
  ·have hdr:decide ((r:Int)<4)=true:=by simp;omega
   go_wp2_with fail
   go_loopw [7,9] (fun v i wr=>∃(k:Nat) (A:Option Addr) (n c:Nat),(k:Int)<=d.T/\i = .int .i64 k/\v = .slice A n c/\n<=8 * r+2 * k/\Own w.heap.size wr A n c (asc (fU d t pin r++gX d t pin (r:Int) k))/\Below (w.alloc (.cells #[.int .i64 d.W,.int .i64 d.H,.int .i64 d.T,.int .i64 d.R] 36)).heap.size (w.alloc (.cells #[.int .i64 d.W,.int .i64 d.H,.int .i64 d.T,.int .i64 d.R] 36)) wr) (fun _ i _=>d.T.toNat - (intOf i).toNat)
   case atStart=>exact ⟨0,A,n,c,by omega,rfl,rfl,by omega,by simpa [gX] using HO.out,HB.out⟩
   case round =>
    obtain ⟨k,A,n,c,hk,rfl,rfl,hn,ho,hb⟩:=hrel
    have HO:=Hd ho
    have HB:=Hd hb
    have hs:=hb.size
    simp only [World.size_alloc] at hs
    obtain ⟨hcc,hff⟩:=bI hb
    have HCR:=Hd (ku d t pin (r:Int) k)
    clear ho hb
    by_cases hlk:(k:Int)<d.T
    ·have hdk:decide ((k:Int)<d.T)=true:=by simpa using hlk
     have hL:bP (k:Int)=1+(k:Int) % 2:=rfl
     have HWL:=Hd hL
     have hL2:1<=bP (k:Int)/\bP (k:Int)<=2:=by rw [hL];omega
     clear hL
     have e1:((k:Int)+pin).tmod 2=((k:Int)+pin) % 2:=Int.tmod_eq_emod_of_nonneg (by omega)
     have hPU:oZ d pin (k:Int)=!(decide (d.T>1) && decide (((k:Int)+pin) % 2=1)):=rfl
     have HPU:=Hd hPU
     clear hPU
     have hz0:0<=((k:Int)+pin) % 2/\((k:Int)+pin) % 2<=1:=by omega
     generalize ((k:Int)+pin) % 2=z at *
     by_cases hskip:d.T>1/\z=1
     ·obtain ⟨hs1,rfl⟩:=hskip
      have HOFF:=Hd (xQ (d:=d) (t:=t) (pin:=pin) (r:=(r:Int)) (k:=(k:Int)) (s:=(bP (k:Int)).toNat) (by omega) (by rw [HPU.out,decide_eq_true hs1];rfl))
      go_wp2_with fail
      go_roundw
      case rel=>exact ⟨k+1,A,n,c,by omega,by go_num,rfl,by omega,by rw [HCR.out,HOFF.out,List.append_nil];exact HO.out,HB.out⟩
      case measure=>simp [intOf];omega
     ·have HON:Hid (oZ d pin (k:Int)=true):=by
       show _=true
       rw [HPU.out]
       simp
       omega
      have hcs:(d.T>1/\z=0)∨¬d.T>1:=by omega
      have HKS:=fun s=>Hd (kr d t pin (r:Int) (k:Int) s)
      have HSON:=fun s=>Hd (yJ (d:=d) (t:=t) (r:=(r:Int)) (k:=(k:Int)) (s:=s) (show pin<7 by omega) HON.out)
      clear HPU
      rcases hcs with ⟨hs1,rfl⟩|hs1
      all_goals
       go_wp2_with fail
       go_loopw [7,10] (fun v i wr=>∃(s:Nat) (A:Option Addr) (n c:Nat),(s:Int)<=bP (k:Int)/\i = .int .i64 ((s:Int)+1)/\v = .slice A n c/\n<=8 * r+2 * k+s/\Own w.heap.size wr A n c (asc (fU d t pin r++gX d t pin (r:Int) k++gB d t pin (r:Int) (k:Int) s))/\Below (w.alloc (.cells #[.int .i64 d.W,.int .i64 d.H,.int .i64 d.T,.int .i64 d.R] 36)).heap.size (w.alloc (.cells #[.int .i64 d.W,.int .i64 d.H,.int .i64 d.T,.int .i64 d.R] 36)) wr) (fun _ i _=>4 - (intOf i).toNat)
       case atStart=>exact ⟨0,A,n,c,by omega,rfl,rfl,by omega,by simpa [gB] using HO.out,HB.out⟩
       case round =>
        obtain ⟨s,A,n,c,hsw,rfl,rfl,hn,ho,hb⟩:=hrel
        have HO:=Hd ho
        have HB:=Hd hb
        have hs:=hb.size
        simp only [World.size_alloc] at hs
        clear hcc hff
        obtain ⟨hcc,hff⟩:=bI hb
        clear ho hb
        by_cases hls:(s:Int)+1<=bP (k:Int)
        ·generalize hP:ah d t (((r:Int)+2) % 4) ((s:Int)+1)=P at *
         have HP:=Hd hP
         have hPr:=jH (d:=d) (t:=t) (r:=((r:Int)+2) % 4) (s:=(s:Int)+1) (aW.1 HT.out).1
         rw [hP] at hPr
         have hWH:=eG (aW.1 HT.out).1
         clear hP
         generalize hwlk:bP (k:Int)=L at *
         have HLK:=Hd hwlk
         clear hwlk
         go_wp2_with (go_at_call 232;refine (dY (k:Int) _ (by omega) (by omega)).mono ?_;rw [HLK.out];rintro e w' ⟨rfl,rfl⟩)
         refine (fw HP.out HT.out (by omega) (by omega) _).mono ?_
         rintro e w2 ⟨rfl,b2⟩
         have HB2:=Hd (aB HB.out b2)
         have HO2:=Hd (HO.out.below b2)
         have hs2:=b2.size
         clear b2 hcc hff
         obtain ⟨hcc,hff⟩:=bI HB2.out
         by_cases hP0:P<0
         ·have HC:=Hd (uW (d:=d) (t:=t) (r:=(r:Int)) (k:=(k:Int)) (s:=(s:Int)+1) (by rw [HP.out];exact hP0))
          go_wp2_with fail
          go_roundw
          case rel=>exact ⟨s+1,A,n,c,by omega,by go_num,rfl,by omega,by rw [(HKS s).out,(HSON _).out,HC.out,List.append_nil];exact HO2.out,HB2.out⟩
          case measure=>simp [intOf];omega
         ·generalize hC:iV d t (r:Int) (k:Int) ((s:Int)+1)=C at *
          have HC:Hid (dJ d P (r:Int) (k:Int)=C):=by show _=C;rw [←hC,iV,HP.out]
          have HCC:=Hd hC
          clear hC
          go_wp2_with fail
          refine (nO d P (r:Int) (k:Int) _).mono ?_
          rw [HC.out]
          rintro e w3 ⟨rfl,b3⟩
          have HB3:=Hd (aB HB2.out b3)
          have HO3:=Hd (HO2.out.below b3)
          have hs3:=b3.size
          clear b3 hcc hff
          by_cases hC0:C≥0
          ·have HC1:=Hd (jL (x:=C) (by omega))
           go_wp2_with fail
           refine (iA w.heap.size A n c _ C _ HO3.out (by omega) (by omega)).mono ?_
           rintro e w4 ⟨A4,n4,c4,rfl,o4,b4⟩
           have hn4:=sN HO3.out o4
           have HO4:=Hd o4
           have HB4:=Hd (aB HB3.out b4)
           clear o4 b4
           go_wp2_with fail
           go_roundw
           case rel=>exact ⟨s+1,A4,n4,c4,by omega,by go_num,rfl,by omega,by rw [(HKS s).out,(HSON _).out,HCC.out,HC1.out,←List.append_assoc,mM];exact HO4.out,HB4.out⟩
           case measure=>simp [intOf];omega
          ·have HC1:=Hd (jh (x:=C) (by omega))
           go_wp2_with fail
           go_roundw
           case rel=>exact ⟨s+1,A,n,c,by omega,by go_num,rfl,by omega,by rw [(HKS s).out,(HSON _).out,HCC.out,HC1.out,List.append_nil];exact HO3.out,HB3.out⟩
           case measure=>simp [intOf];omega
        ·have hLS:(bP (k:Int)).toNat=s:=by omega
         have HLS:=Hd hLS
         clear hLS
         generalize hwlk:bP (k:Int)=L at *
         have HLK:=Hd hwlk
         clear hwlk
         go_wp2_with (go_at_call 232;refine (dY (k:Int) _ (by omega) (by omega)).mono ?_;rw [HLK.out];rintro e w' ⟨rfl,rfl⟩)
         go_roundw
         case rel=>exact ⟨k+1,A,n,c,by omega,by go_num,rfl,by omega,by rw [HCR.out,HLS.out,←List.append_assoc];exact HO.out,HB.out⟩
         case measure=>simp [intOf];omega
    ·have hkT:d.T=(k:Int):=by omega
     have HKT:=Hd hkT
     have hkT2:¬(k:Int)<d.T:=hlk
     clear hkT
     go_wp2_with fail
     go_roundw
     case rel=>exact ⟨r+1,A,n,c,by omega,by go_num,rfl,by omega,by rw [(HAR r).out,show d.T.toNat=k by have:=HKT.out;omega];exact HO.out,HB.out⟩
     case measure=>simp [intOf];omega
  ·have hr4:r=4:=by omega
   subst hr4
   go_wp2_with fail
   go_ret
   exact ⟨A,n,c,rfl,HO.out,aB HB0.out HB.out⟩
def mZ (d:Dev) (t:Int) (p:Nat):List Int:=(List.range p).flatMap fun (j:Nat)=>j5 (dZ d t (j:Int))
def nY (d:Dev) (track:Int) (i:Nat):Int:=if i=0 then track else (track+1) % d.T
def wRi (d:Dev) (t r track:Int) (i:Nat):List Int:=(List.range i).flatMap fun (j:Nat)=>j5 (iV d t r (nY d track j) (bP (nY d track j)))
def wR (d:Dev) (t dir track r:Int):List Int:=if r=(dir+2) % 4 then [] else wRi d t r track 2
def wA (d:Dev) (t dir track:Int) (r:Nat):List Int:=(List.range r).flatMap fun (j:Nat)=>wR d t dir track (j:Int)
theorem vY (d:Dev) (t:Int) (p:Nat):mZ d t (p+1)=mZ d t p++j5 (dZ d t (p:Int)):=by simp [mZ,List.range_succ]
theorem yK (d:Dev) (t r track:Int) (i:Nat):wRi d t r track (i+1)=wRi d t r track i++j5 (iV d t r (nY d track i) (bP (nY d track i))):=by simp [wRi,List.range_succ]
theorem zC (d:Dev) (t dir track:Int) (r:Nat):wA d t dir track (r+1)=wA d t dir track r++wR d t dir track (r:Int):=by simp [wA,List.range_succ]
theorem xR {d:Dev} {t y:Int} (ht:au d t=true):y∈mZ d t 2↔y∈gW d t:=by
 rw [qU]
 have hop:=gG d t
 simp only [mZ,List.mem_flatMap,List.mem_range,nG]
 constructor
 ·rintro ⟨j,hj,rfl,h0⟩
  refine ⟨(j:Int),?_,rfl⟩
  unfold dZ at h0
  split at h0
  ·rename_i h;exact h.2
  ·omega
 ·rintro ⟨p,hp,rfl⟩
  refine ⟨p.toNat,by omega,by rw [show ((p.toNat:Nat):Int)=p by omega],?_⟩
  rw [show ((p.toNat:Nat):Int)=p by omega]
  exact (mQ ht hp.1 hp.2).2.2
theorem wQ {d:Dev} {track:Int} (hd:dQ d=true) (h0:0<=track) (h1:track<d.T) (i:Nat):0<=nY d track i/\nY d track i<d.T:=by
 have:=bC hd
 unfold nY
 split
 ·omega
 ·exact ⟨Int.emod_nonneg _ (by omega),Int.emod_lt_of_pos _ (by omega)⟩
theorem vZ {d:Dev} {t pin:Int} (ht:au d t=true) (h7:7<=pin):asc (mZ d t 2++wA d t ((pin - 7) / d.T) ((pin - 7) % d.T) 4)=asc (iW d t pin):=by
 have hd:=(aW.1 ht).1
 have hT:=bC hd
 have k0:=Int.emod_nonneg (pin - 7) (show d.T≠0 by omega)
 have k1:=Int.emod_lt_of_pos (pin - 7) (show 0<d.T by omega)
 have hkk:=fun i=>wQ hd k0 k1 i
 refine xV fun y=>?_
 unfold iW
 rw [List.mem_append,List.mem_append,xR ht,if_pos h7,qQ hd]
 refine or_congr Iff.rfl ?_
 simp only [wA,List.mem_flatMap,List.mem_range]
 constructor
 ·rintro ⟨r,hr,h⟩
  unfold wR at h
  split at h
  ·simp at h
  ·rename_i hne
   simp only [wRi,List.mem_flatMap,List.mem_range,nG] at h
   obtain ⟨i,hi,rfl,h0⟩:=h
   refine ⟨(r:Int),_,bP _,by omega,hkk i,⟨by unfold bP;have:=hkk i;omega,Int.le_refl _⟩,?_,rfl,h0⟩
   unfold jv pg
   rw [if_pos h7]
   simp only [Bool.and_eq_true,Bool.or_eq_true,decide_eq_true_eq]
   refine ⟨hne,?_⟩
   unfold nY
   split <;> simp
 ·rintro ⟨r,k,s,hr,hk,hs,hu,rfl,h0⟩
  unfold jv pg at hu
  rw [if_pos h7] at hu
  simp only [Bool.and_eq_true,Bool.or_eq_true,decide_eq_true_eq] at hu
  obtain ⟨hne,hkt,rfl⟩:=hu
  refine ⟨r.toNat,by omega,?_⟩
  rw [show ((r.toNat:Nat):Int)=r by omega]
  unfold wR
  rw [if_neg hne]
  simp only [wRi,List.mem_flatMap,List.mem_range,nG]
  rcases hkt with rfl|rfl
  ·exact ⟨0,by omega,by simp [nY],by simpa [nY] using h0⟩
  ·exact ⟨1,by omega,by simp [nY],by simpa [nY] using h0⟩
theorem yL {d:Dev} {t r k:Int} (ht:au d t=true) (hr:0<=r/\r<=3) (hk:0<=k/\k<d.T) (h:0<=ah d t ((r+2) % 4) (bP k)):0<=iV d t r k (bP k):=by
 have hd:=(aW.1 ht).1
 have hT:=bC hd
 have hp:=dw hd
 have hti:=(l8 hd h).2.1
 have hb:=xU ht hr.1 hr.2 h
 unfold iV dJ
 rw [if_pos ⟨hti,hr,hk,by rw [hb];exact (aW.1 ht).2.1⟩]
 have h1:=Int.mul_nonneg (aW.1 hti).2.1 (show 0<=aX d by omega)
 have h2:=Int.mul_nonneg hr.1 (show 0<=d.T by omega)
 omega
theorem pO (d:Dev) (t dir track:Int) (w:World) (ht:au d t=true) (r0:0<=dir) (r3:dir<=3) (k0:0<=track) (k1:track<d.T) :
  Calls Tryz.prog 237 #[.agg #[.int .i64 d.W,.int .i64 d.H,.int .i64 d.T,.int .i64 d.R],.int .i64 t,.int .i64 dir,.int .i64 track] w fun e w'=>∃A n c,e = .returned (.slice A n c)/\Own w.heap.size w' A n c (asc (mZ d t 2++wA d t dir track 4))/\Below w.heap.size w w':=by
 have HT:=Hd ht
 have hTT:=bC (aW.1 ht).1
 have hWH:=eG (aW.1 ht).1
 have HKB:=Hd (fun i=>wQ (aW.1 ht).1 k0 k1 i)
 have HB0:=Hd (aF (Below.refl w.heap.size w) (.cells #[.int .i64 d.W,.int .i64 d.H,.int .i64 d.T,.int .i64 d.R] 36))
 have HAR:=fun r=>Hd (zC d t dir track r)
 have HOS:=fun p=>Hd (vY d t p)
 clear ht
 go_enter Tryz.func237,Tryz.ntmps237
 go_wp2_with fail
 go_loopw [9,10] (fun v i wr=>∃(p:Nat) (A:Option Addr) (n c:Nat),p<=2/\i = .int .i64 p/\v = .slice A n c/\n<=p/\Own w.heap.size wr A n c (asc (mZ d t p))/\Below (w.alloc (.cells #[.int .i64 d.W,.int .i64 d.H,.int .i64 d.T,.int .i64 d.R] 36)).heap.size (w.alloc (.cells #[.int .i64 d.W,.int .i64 d.H,.int .i64 d.T,.int .i64 d.R] 36)) wr) (fun _ i _=>2 - (intOf i).toNat)
 case atStart=>exact ⟨0,none,0,0,by omega,rfl,rfl,by omega,by simpa [mZ,asc] using Own.nil,Below.refl _ _⟩
 case round =>
  obtain ⟨p,A,n,c,hp,rfl,rfl,hn,ho,hb⟩:=hrel
  have HO:=Hd ho
  have HB:=Hd hb
  have hs:=hb.size
  simp only [World.size_alloc] at hs
  obtain ⟨hcc,hff⟩:=bI hb
  clear ho hb
  by_cases hlt:p<2
  ·have hdp:decide ((p:Int)<2)=true:=by simp;omega
   generalize hC:dZ d t (p:Int)=C at *
   have HC:=Hd hC
   clear hC
   go_wp2_with fail
   refine (pG d t (p:Int) _).mono ?_
   rw [HC.out]
   rintro e w2 ⟨rfl,b2⟩
   have HB2:=Hd (aB HB.out b2)
   have HO2:=Hd (HO.out.below b2)
   have hs2:=b2.size
   clear b2 hcc hff
   by_cases hC0:C≥0
   ·have HC1:=Hd (jL (x:=C) (by omega))
    go_wp2_with fail
    refine (iA w.heap.size A n c _ C _ HO2.out (by omega) (by omega)).mono ?_
    rintro e w4 ⟨A4,n4,c4,rfl,o4,b4⟩
    have hn4:=sN HO2.out o4
    have HO4:=Hd o4
    have HB4:=Hd (aB HB2.out b4)
    clear o4 b4
    go_wp2_with fail
    go_roundw
    case rel=>exact ⟨p+1,A4,n4,c4,by omega,by go_num,rfl,by omega,by rw [(HOS p).out,HC.out,HC1.out,mM];exact HO4.out,HB4.out⟩
    case measure=>simp [intOf];omega
   ·have HC1:=Hd (jh (x:=C) (by omega))
    go_wp2_with fail
    go_roundw
    case rel=>exact ⟨p+1,A,n,c,by omega,by go_num,rfl,by omega,by rw [(HOS p).out,HC.out,HC1.out,List.append_nil];exact HO2.out,HB2.out⟩
    case measure=>simp [intOf];omega
  ·have hp2:p=2:=by omega
   have HP2:=Hd hp2
   have hn2:n<=2:=by omega
   have hdp:decide ((p:Int)<2)=false:=by simp;omega
   clear hp2
   clear hcc hff
   go_wp2_with fail
   go_loopw [9,12] (fun v i wr=>∃(r:Nat) (A:Option Addr) (n c:Nat),r<=4/\i = .int .i64 r/\v = .slice A n c/\n<=2+2 * r/\Own w.heap.size wr A n c (asc (mZ d t 2++wA d t dir track r))/\Below (w.alloc (.cells #[.int .i64 d.W,.int .i64 d.H,.int .i64 d.T,.int .i64 d.R] 36)).heap.size (w.alloc (.cells #[.int .i64 d.W,.int .i64 d.H,.int .i64 d.T,.int .i64 d.R] 36)) wr) (fun _ i _=>4 - (intOf i).toNat)
   case atStart=>exact ⟨0,A,n,c,by omega,rfl,rfl,by omega,by rw [←HP2.out];simpa [wA] using HO.out,HB.out⟩
   case round =>
    obtain ⟨r,A,n,c,hr,rfl,rfl,hn,ho,hb⟩:=hrel
    obtain ⟨wo,rfl⟩:∃x,x=wr:=⟨wr,rfl⟩
    have HO:=Hd ho
    have HB:=Hd hb
    have hs:=hb.size
    simp only [World.size_alloc] at hs
    obtain ⟨hcc,hff⟩:=bI hb
    clear ho hb
    by_cases hlt:r<4
    ·have hdr:decide ((r:Int)<4)=true:=by simp;omega
     by_cases hopp:(r:Int)=(dir+2) % 4
     ·have HW:Hid (wR d t dir track (r:Int)=[]):=by show _=_;unfold wR;rw [if_pos hopp]
      have HOPP:=Hd hopp
      have e1:((r:Int)==(dir+2) % 4)=true:=by simpa using hopp
      clear hopp
      go_wp2_with fail
      go_roundw
      case rel=>exact ⟨r+1,A,n,c,by omega,by go_num,rfl,by omega,by rw [(HAR r).out,HW.out,List.append_nil];exact HO.out,HB.out⟩
      case measure=>simp [intOf];omega
     ·have HW:Hid (wR d t dir track (r:Int)=wRi d t (r:Int) track 2):=by show _=_;unfold wR;rw [if_neg hopp]
      have e1:((r:Int)==(dir+2) % 4)=false:=by simpa using hopp
      have e0:¬d.T=0:=by omega
      have e2:(track+1).tmod d.T=(track+1) % d.T:=Int.tmod_eq_emod_of_nonneg (by omega)
      have HWS:=fun i=>Hd (yK d t (r:Int) track i)
      have HK0:Hid (nY d track 0=track):=rfl
      have HK1:Hid (nY d track 1=(track+1) % d.T):=rfl
      have hkb:=(HKB.out 1)
      rw [HK1.out] at hkb
      clear hopp
      generalize (track+1) % d.T=track' at *
      have hba:=aF HB.out (.cells #[.int .i64 track,.int .i64 track'] 3)
      have HBA:=Hd hba
      have HNW:=Hd (aK wo (.cells #[.int .i64 track,.int .i64 track'] 3))
      have HOA:=Hd (HO.out.below (aF (Below.refl _ _) (.cells #[.int .i64 track,.int .i64 track'] 3)))
      clear hba
      go_wp2_with fail
      clear hcc hff
      go_loopw [9,46] (fun v i wi=>∃(i':Nat) (A:Option Addr) (n c:Nat),i'<=2/\i = .int .i64 i'/\v = .slice A n c/\n<=2+2 * r+i'/\wi.heap[wo.heap.size]?=some (.cells #[.int .i64 track,.int .i64 track'] 3 (0,0))/\Own w.heap.size wi A n c (asc (mZ d t 2++wA d t dir track r++wRi d t (r:Int) track i'))/\Below (w.alloc (.cells #[.int .i64 d.W,.int .i64 d.H,.int .i64 d.T,.int .i64 d.R] 36)).heap.size (w.alloc (.cells #[.int .i64 d.W,.int .i64 d.H,.int .i64 d.T,.int .i64 d.R] 36)) wi) (fun _ i _=>2 - (intOf i).toNat)
      case atStart=>exact ⟨0,A,n,c,by omega,rfl,rfl,by omega,HNW.out,by simpa [wRi] using HOA.out,HBA.out⟩
      case round =>
       obtain ⟨i,A,n,c,hi,rfl,rfl,hn,hx,ho,hb⟩:=hrel
       have HO:=Hd ho
       have HB:=Hd hb
       have HX:=Hd hx
       have hs:=hb.size
       simp only [World.size_alloc] at hs
       obtain ⟨hcc,hff⟩:=bI hb
       have x0:=aA (k:=0) hx rfl
       have x1:=aA (k:=1) hx rfl
       have hxl:=aC hx
       clear ho hb hx
       by_cases hlt:i<2
       ·have hdi:decide ((i:Int)<2)=true:=by simp;omega
        have hKK:∃K:Int,nY d track i=K/\wr.cell? ⟨wo.heap.size,i,none⟩=some (.int .i64 K)/\0<=K/\K<d.T:=by
         have:i=0∨i=1:=by omega
         rcases this with rfl|rfl
         ·exact ⟨track,HK0.out,x0,k0,k1⟩
         ·exact ⟨track',HK1.out,x1,hkb.1,hkb.2⟩
        obtain ⟨K,hKE,hck,hK0,hK1⟩:=hKK
        have HKE:=Hd hKE
        have hL:bP K=1+K % 2:=rfl
        have hL2:1<=bP K/\bP K<=2:=by rw [hL];omega
        have HCP:=Hd (fun h=>yL (d:=d) (t:=t) (r:=(r:Int)) (k:=K) HT.out (by omega) ⟨hK0,hK1⟩ h)
        have HCN:=Hd (fun h=>uW (d:=d) (t:=t) (r:=(r:Int)) (k:=K) (s:=bP K) h)
        generalize hP:ah d t (((r:Int)+2) % 4) (bP K)=P at *
        have HP:=Hd hP
        have hPr:=jH (d:=d) (t:=t) (r:=((r:Int)+2) % 4) (s:=bP K) (aW.1 HT.out).1
        rw [hP] at hPr
        have i0:(0:Int)<=(i:Int):=by omega
        have HWL:=Hd (fun w=>dY K w (by omega) (by omega))
        generalize hLL:bP K=L at *
        have HLL:=Hd hLL
        clear hKE hL hP x0 x1 hLL
        have e3:((r:Int)+2).tmod 4=((r:Int)+2) % 4:=Int.tmod_eq_emod_of_nonneg (by omega)
        have e4:IntKind.i64.wrap ((r:Int)+2)=(r:Int)+2:=IntWalk.i64_in _ (by omega)
        go_wp2_with fail
        have hwW:w.heap.size<wr.heap.size:=by omega
        have hsub:=aZ wr
        have hsc:=aR wr
        refine aI wr (by kernel_rfl) (by kernel_rfl) (Below.refl _ _) ?_
        repeat (go_big_quiet_step ((first
         | (go_at_call 232;with_reducible exact aU (HWL.out _))
         | (go_at_call 260;with_reducible exact aO (fw HP.out HT.out (by omega) (by omega) _)))))
        refine wpQuiet_nil ?_
        rintro _ ⟨⟨w2,hD⟩,rfl⟩
        clear hsub hsc hcc hff
        have HB2:=Hd (aB HB.out hD)
        have HO2:=Hd (HO.out.below hD)
        have HX2:=Hd (aD hD HX.out)
        have hs2:=hD.size
        obtain ⟨hcc,hff⟩:=bI HB2.out
        clear e3 e4 hD hck
        by_cases hP0:P≥0
        ·have hC0:=HCP.out (by omega)
         generalize hC:iV d t (r:Int) K L=C at *
         have HC:Hid (dJ d P (r:Int) K=C):=by show _=C;rw [←hC,iV,HP.out]
         have HCC:=Hd hC
         clear hC
         have HC1:=Hd (jL (x:=C) (by omega))
         go_wp2_with fail
         refine (nO d P (r:Int) K _).mono ?_
         rw [HC.out]
         rintro e w3 ⟨rfl,b3⟩
         have HB3:=Hd (aB HB2.out b3)
         have HO3:=Hd (HO2.out.below b3)
         have HX3:=Hd (aD b3 HX2.out)
         have hs3:=b3.size
         clear b3 hcc hff
         go_wp2_with fail
         refine (iA w.heap.size A n c _ C _ HO3.out (by omega) (by omega)).mono ?_
         rintro e w4 ⟨A4,n4,c4,rfl,o4,b4⟩
         have hn4:=sN HO3.out o4
         have HO4:=Hd o4
         have HB4:=Hd (aB HB3.out b4)
         have HX4:=Hd (aD b4 HX3.out)
         clear o4 b4
         go_wp2_with fail
         go_roundw
         case rel=>exact ⟨i+1,A4,n4,c4,by omega,by go_num,rfl,by omega,HX4.out,by rw [(HWS i).out,HKE.out,HLL.out,HCC.out,HC1.out,←List.append_assoc,mM];exact HO4.out,HB4.out⟩
         case measure=>simp [intOf];omega
        ·have HC:=Hd (HCN.out (by omega))
         go_wp2_with fail
         go_roundw
         case rel=>exact ⟨i+1,A,n,c,by omega,by go_num,rfl,by omega,HX2.out,by rw [(HWS i).out,HKE.out,HLL.out,HC.out,List.append_nil];exact HO2.out,HB2.out⟩
         case measure=>simp [intOf];omega
       ·obtain rfl:i=2:=by omega
        have hdi:decide ((2:Int)<2)=false:=by decide
        clear x0 x1
        go_wp2_with fail
        go_roundw
        case rel=>exact ⟨r+1,A,n,c,by omega,by go_num,rfl,by omega,by rw [(HAR r).out,HW.out,←List.append_assoc];exact HO.out,HB.out⟩
        case measure=>simp [intOf];omega
    ·obtain rfl:r=4:=by omega
     go_wp2_with fail
     go_ret
     exact ⟨A,n,c,rfl,HO.out,aB HB0.out HB.out⟩
theorem yM {d:Dev} {n:Int} (h:bH d n=true) (hk:n % aX d<5):iE d n=asc (fU d (n / aX d) (n % aX d) 4):=by
 rw [iE,if_pos ⟨h,by omega⟩,iW,if_neg (by omega)]
 rfl
theorem uX {d:Dev} {n:Int} (hk:n % aX d=5∨n % aX d=6):iE d n=[]:=by rw [iE,if_neg (by rintro ⟨_,h⟩;exact h hk)]
theorem wS {d:Dev} {n:Int} (h:bH d n=false):iE d n=[]:=by rw [iE,h];simp
theorem xS {d:Dev} {n:Int} (h:bH d n=true) (hk:7<=n % aX d):iE d n=asc (mZ d (n / aX d) 2++wA d (n / aX d) ((n % aX d - 7) / d.T) ((n % aX d - 7) % d.T) 4):=by
 have h':=h
 unfold bH at h'
 rw [Bool.and_eq_true] at h'
 rw [iE,if_pos ⟨h,by omega⟩,vZ (jk h'.1) hk]
theorem sO (d:Dev) (n:Int) (w:World) :
  Calls Tryz.prog 149 #[.agg #[.int .i64 d.W,.int .i64 d.H,.int .i64 d.T,.int .i64 d.R],.int .i64 n] w fun e w'=>∃A m c,e = .returned (.slice A m c)/\Own w.heap.size w' A m c (iE d n)/\Below w.heap.size w w':=by
 have HB0:=Hd (aF (Below.refl w.heap.size w) (.cells #[.int .i64 d.W,.int .i64 d.H,.int .i64 d.T,.int .i64 d.R] 36))
 go_enter Tryz.func149,Tryz.ntmps149
 go_wp2_with fail
 cases hno:bH d n with
 | false =>
  have HS:=Hd (wS hno)
  refine (eU d n _).mono ?_
  rw [hno]
  rintro e w1 ⟨rfl,b1⟩
  have HB1:=Hd (aB HB0.out b1)
  clear b1 hno
  go_wp2_with fail
  go_ret
  exact ⟨none,0,0,rfl,by rw [HS.out];exact Own.nil,HB1.out⟩
 | true =>
  have hni:fF d n=true:=by unfold bH at hno;rw [Bool.and_eq_true] at hno;exact hno.1
  have HTI:=Hd (jk hni)
  have HNI:=Hd hni
  obtain ⟨hd,n0,n1,hq0,hq1,hr0,hr1⟩:=jF hni
  have hT:=bC hd
  have hp:=dw hd
  have HSP:=Hd (fun h=>yM hno h)
  have HSW:=Hd (fun h=>xS hno h)
  have HSO:=Hd (fun h=>uX (d:=d) (n:=n) h)
  have HWO:=Hd (fun h w=>qI d n w hni h)
  refine (eU d n _).mono ?_
  rw [hno]
  rintro e w1 ⟨rfl,b1⟩
  have HB1:=Hd b1
  have hs1:=b1.size
  simp only [World.size_alloc] at hs1
  obtain ⟨hcc,hff⟩:=bI b1
  clear b1 hno hni hd
  go_wp2_with fail
  refine (iy d n _ HNI.out).mono ?_
  rintro e w2 ⟨rfl,b2⟩
  have HB2:=Hd (aB HB1.out b2)
  have hs2:=b2.size
  clear b2 hcc hff
  obtain ⟨hcc,hff⟩:=bI HB2.out
  generalize n % aX d=k at *
  generalize n / aX d=q at *
  have h3:k<5∨(¬k<5/\k<7)∨(¬k<5/\¬k<7):=by omega
  rcases h3 with h|⟨h,h'⟩|⟨h,h'⟩
  ·go_wp2_with fail
   refine (qJ d q k _ HTI.out (by omega) (by omega)).mono ?_
   rintro e w3 ⟨A3,n3,c3,rfl,o3,b3⟩
   have HS:=Hd (HSP.out (by omega))
   have HB3:=Hd (aB HB0.out (aB HB2.out b3))
   have HO3:=Hd o3
   clear b3 o3 hcc hff
   go_wp2_with fail
   go_ret
   exact ⟨A3,n3,c3,rfl,by rw [HS.out];exact HO3.out.more (by omega),HB3.out⟩
  ·have HS:=Hd (HSO.out (by omega))
   have HB3:=Hd (aB HB0.out HB2.out)
   clear hcc hff
   go_wp2_with fail
   go_ret
   exact ⟨none,0,0,rfl,by rw [HS.out];exact Own.nil,HB3.out⟩
  ·have hT0:=Int.ediv_nonneg (show 0<=k - 7 by omega) (show 0<=d.T by omega)
   have hT1:=Int.emod_nonneg (k - 7) (show d.T≠0 by omega)
   have hT2:=Int.emod_lt_of_pos (k - 7) (show 0<d.T by omega)
   have hT3:(k - 7) / d.T<=3:=by
    have:(k - 7) / d.T<4:=Int.ediv_lt_of_lt_mul (by omega) (by unfold aX at hr1;omega)
    omega
   go_wp2_with fail
   refine (HWO.out (by omega) _).mono ?_
   rintro e w4 ⟨rfl,b4⟩
   have HB4:=Hd (aB HB2.out b4)
   have hs4:=b4.size
   have HS:=Hd (HSW.out (by omega))
   clear b4 hcc hff
   obtain ⟨hcc,hff⟩:=bI HB4.out
   generalize (k - 7) / d.T=r at *
   generalize (k - 7) % d.T=m at *
   go_wp2_with fail
   refine (pO d q r m _ HTI.out (by omega) (by omega) (by omega) (by omega)).mono ?_
   rintro e w3 ⟨A3,n3,c3,rfl,o3,b3⟩
   have HB3:=Hd (aB HB0.out (aB HB4.out b3))
   have HO3:=Hd o3
   clear b3 o3 hcc hff
   go_wp2_with fail
   go_ret
   exact ⟨A3,n3,c3,rfl,by rw [HS.out];exact HO3.out.more (by omega),HB3.out⟩
end Go.Proofs.YtofihjoanjkdmaaGreat
