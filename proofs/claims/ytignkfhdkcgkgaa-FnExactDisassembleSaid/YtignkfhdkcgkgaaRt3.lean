/- Routing nodes of the program: pins, wires, which nodes exist. Places of routing nodes; pins and wires as nodes; which nodes exist: the program's functions. A region that draws its order and whose calls make memory but return numbers: one walk in the order of the text serves every order. Wires as nodes, which nodes exist, ascending insertion: the program's functions. -/
import Derived.Test.YtignkfhdkcgkgaaBase
import Derived.Test.YtignkfhdkcgkgaaCopy
import Derived.Test.YtignkfhdkcgkgaaRtPure
namespace Go.Proofs.Ytignkfhdkcgkgaa
set_option maxRecDepth 100000
open Go.RowKit

set_option maxHeartbeats 400000 in
theorem pinPins_any (k:Int) (w:World) :
  Calls Try.prog 75 #[.int .i64 k] w fun e w'=>e = .returned (.int .i64 (inPins k))∧w=w':=by
 by_cases h0:k=0
 ·subst h0
  go_enter Try.func75,Try.ntmps75
  go_wp2
  go_ret
  exact ⟨rfl,rfl⟩
 by_cases h1:k=1
 ·subst h1
  go_enter Try.func75,Try.ntmps75
  go_wp2
  go_ret
  exact ⟨rfl,rfl⟩
 by_cases h2:k=2
 ·subst h2
  go_enter Try.func75,Try.ntmps75
  go_wp2
  go_ret
  exact ⟨rfl,rfl⟩
 have e0:(k==0)=false:=by simpa using h0
 have e1:(k==1)=false:=by simpa using h1
 have e2:(k==2)=false:=by simpa using h2
 go_enter Try.func75,Try.ntmps75
 go_wp2
 go_ret
 exact ⟨ret_int (by simp [inPins,h0,h1,h2]),rfl⟩
set_option maxHeartbeats 400000 in
theorem sinPins_any (k:Int) (w:World) :
  Calls Try.prog 85 #[.int .i64 k] w fun e w'=>e = .returned (.int .i64 (inPins k))∧w=w':=by
 by_cases h0:k=0
 ·subst h0
  go_enter Try.func85,Try.ntmps85
  go_wp2
  go_ret
  exact ⟨rfl,rfl⟩
 by_cases h1:k=1
 ·subst h1
  go_enter Try.func85,Try.ntmps85
  go_wp2
  go_ret
  exact ⟨rfl,rfl⟩
 by_cases h2:k=2
 ·subst h2
  go_enter Try.func85,Try.ntmps85
  go_wp2
  go_ret
  exact ⟨rfl,rfl⟩
 have e0:(k==0)=false:=by simpa using h0
 have e1:(k==1)=false:=by simpa using h1
 have e2:(k==2)=false:=by simpa using h2
 go_enter Try.func85,Try.ntmps85
 go_wp2
 go_ret
 exact ⟨ret_int (by simp [inPins,h0,h1,h2]),rfl⟩
set_option maxHeartbeats 400000 in
theorem poutPins_any (k:Int) (w:World) :
  Calls Try.prog 76 #[.int .i64 k] w fun e w'=>e = .returned (.int .i64 (outPins k))∧w=w':=by
 by_cases h0:k=0
 ·subst h0
  go_enter Try.func76,Try.ntmps76
  go_wp2
  go_ret
  exact ⟨rfl,rfl⟩
 by_cases h1:k=1
 ·subst h1
  go_enter Try.func76,Try.ntmps76
  go_wp2
  go_ret
  exact ⟨rfl,rfl⟩
 by_cases h2:k=2
 ·subst h2
  go_enter Try.func76,Try.ntmps76
  go_wp2
  go_ret
  exact ⟨rfl,rfl⟩
 have e0:(k==0)=false:=by simpa using h0
 have e1:(k==1)=false:=by simpa using h1
 have e2:(k==2)=false:=by simpa using h2
 go_enter Try.func76,Try.ntmps76
 go_wp2
 go_ret
 exact ⟨ret_int (by simp [outPins,h0,h1,h2]),rfl⟩
set_option maxHeartbeats 400000 in
theorem soutPins_any (k:Int) (w:World) :
  Calls Try.prog 67 #[.int .i64 k] w fun e w'=>e = .returned (.int .i64 (outPins k))∧w=w':=by
 by_cases h0:k=0
 ·subst h0
  go_enter Try.func67,Try.ntmps67
  go_wp2
  go_ret
  exact ⟨rfl,rfl⟩
 by_cases h1:k=1
 ·subst h1
  go_enter Try.func67,Try.ntmps67
  go_wp2
  go_ret
  exact ⟨rfl,rfl⟩
 by_cases h2:k=2
 ·subst h2
  go_enter Try.func67,Try.ntmps67
  go_wp2
  go_ret
  exact ⟨rfl,rfl⟩
 have e0:(k==0)=false:=by simpa using h0
 have e1:(k==1)=false:=by simpa using h1
 have e2:(k==2)=false:=by simpa using h2
 go_enter Try.func67,Try.ntmps67
 go_wp2
 go_ret
 exact ⟨ret_int (by simp [outPins,h0,h1,h2]),rfl⟩

set_option maxHeartbeats 400000 in
theorem wireLength_any (k:Int) (w:World) (h0:0≤k) (h1:k≤1099511627776) :
  Calls Try.prog 79 #[.int .i64 k] w fun e w'=>e = .returned (.int .i64 (wlen k))∧w=w':=by
 unfold wlen
 go_enter Try.func79,Try.ntmps79
 go_wp2
 go_ret
 exact ⟨rfl,rfl⟩

set_option maxHeartbeats 1000000 in
theorem tileOk_any (d:Dev) (t:Int) (w:World) :
  Calls Try.prog 92 #[.agg #[.int .i64 d.W,.int .i64 d.H,.int .i64 d.T,.int .i64 d.R],.int .i64 t] w fun e w'=>e = .returned (.bool (tileIn d t))∧Below w.heap.size w w':=by
 go_enter Try.func92,Try.ntmps92
 go_wp2_with fail
 refine (deviceOk_any d _).mono ?_
 rintro e w1 ⟨rfl,b1⟩
 have B1:=Lib.hid (below_tr (below_new (Below.refl _ _) _) b1)
 obtain ⟨hcc,hff⟩:=bcell b1
 clear b1
 cases hd:devOk d with
 | false =>
  have HD:=Lib.hid hd
  clear hd
  go_wp2_with fail
  go_ret
  exact ⟨ret_bool (by simp [tileIn,HD.out]),B1.out⟩
 | true =>
  obtain ⟨hN,hN1,hN2⟩:=tiles_eq hd
  have HD:=Lib.hid hd
  have HN:=Lib.hid hN
  clear hd
  go_wp2_with (go_at_call 71;refine (inRange_any _ _ _ _).mono ?_;rintro e w' ⟨rfl,rfl⟩)
  go_ret
  refine ⟨ret_bool ?_,B1.out⟩
  rw [Bool.eq_iff_iff,inR_iff,tileIn_iff,HD.out,HN.out]
  simp only [true_and]
  omega

theorem inR_call {n lo hi:Int} {b:Bool} (h:inR n lo hi=b) (w:World):Calls Try.prog 71 #[.int .i64 n,.int .i64 lo,.int .i64 hi] w fun e w'=>e = .returned (.bool b)∧w=w':=by
 have:=inRange_any n lo hi w
 rwa [h] at this

theorem st_bd {d:Dev} {t r s:Int} (ht:tileIn d t=true) (h0:0≤s) (h1:s≤6):-6≤stX d t r s∧stX d t r s≤12∧-6≤stY d t r s∧stY d t r s≤12:=by
 obtain ⟨a,b,c,e,_⟩:=tile_xy ht
 have:=devOk_bd (tileIn_iff.1 ht).1
 unfold stX stY
 refine ⟨?_,?_,?_,?_⟩ <;> repeat' split
 all_goals omega

set_option maxHeartbeats 1000000 in
theorem tileStep_any (d:Dev) (t r s:Int) (w:World) (ht:tileIn d t=true) (h0:0≤s) (h1:s≤6) :
  Calls Try.prog 78 #[.agg #[.int .i64 d.W,.int .i64 d.H,.int .i64 d.T,.int .i64 d.R],.int .i64 t,.int .i64 r,.int .i64 s] w fun e w'=>e = .returned (.int .i64 (stepOf d t r s))∧Below w.heap.size w w':=by
 have hd:=(tileIn_iff.1 ht).1
 have ht0:=(tileIn_iff.1 ht).2.1
 have ht1:=(tileIn_iff.1 ht).2.2
 have hWH:=dev_WH hd
 obtain ⟨hw1,hw2,hh1,hh2,_⟩:=devOk_bd hd
 obtain ⟨x0,x1,y0,y1,-⟩:=tile_xy ht
 have hst:=st_bd (r:=r) ht h0 h1
 have e0:¬d.W=0:=by omega
 have e1:t.tmod d.W=t % d.W:=Int.tmod_eq_emod_of_nonneg ht0
 have e2:IntKind.i64.wrap (t.tdiv d.W)=t / d.W:=IntWalk.i64_quo _ _ ⟨ht0,by omega,by omega⟩
 have HS:=Lib.hid (show stIn d t r s=(inR (stX d t r s) 0 (d.W - 1) && inR (stY d t r s) 0 (d.H - 1)) from rfl)
 have HT:=Lib.hid (show stepOf d t r s=if stIn d t r s=true then stY d t r s * d.W+stX d t r s else -1 from rfl)
 have HX:Hid (stX d t r s=if r=0 then t % d.W+s else if r=2 then t % d.W - s else t % d.W):=rfl
 have HY:Hid (stY d t r s=if r=1 then t / d.W+s else if r=0 then t / d.W else if r=2 then t / d.W else t / d.W - s):=rfl
 have HM:=Lib.hid (fun (h:0≤stY d t r s∧stY d t r s≤d.H - 1)=>mul_bd h.1 (show stY d t r s≤5 by omega) (show 0≤d.W by omega) (show d.W≤6 by omega))
 generalize stX d t r s=X at *
 generalize stY d t r s=Y at *
 generalize stepOf d t r s=P at *
 generalize stIn d t r s=B at *
 clear ht hd
 have hcase:r=0∨r=1∨r=2∨(¬r=0∧¬r=1∧¬r=2):=by omega
 have hX1:(r=0→X=t % d.W+s)∧(r=2→X=t % d.W - s)∧(¬r=0∧¬r=2→X=t % d.W):=by
  rw [HX.out]
  refine ⟨fun h=>if_pos h,fun h=>by rw [if_neg (by omega),if_pos h],fun h=>by rw [if_neg h.1,if_neg h.2]⟩
 have hY1:(r=1→Y=t / d.W+s)∧(r=0∨r=2→Y=t / d.W)∧(¬r=0∧¬r=1∧¬r=2→Y=t / d.W - s):=by
  rw [HY.out]
  refine ⟨fun h=>if_pos h,fun h=>?_,fun h=>by rw [if_neg h.2.1,if_neg h.1,if_neg h.2.2]⟩
  rcases h with h|h
  ·rw [if_neg (by omega),if_pos h]
  ·rw [if_neg (by omega),if_neg (by omega),if_pos h]
 clear HX HY
 rcases hcase with h|h|h|⟨g0,g1,g2⟩
 ·obtain rfl:=hX1.1 h
  obtain rfl:=hY1.2.1 (.inl h)
  subst h
  clear hX1 hY1
  go_enter Try.func78,Try.ntmps78
  go_wp2_with fail
  go_quiet (fail)
  clear e1 e2
  cases hX:inR (t % d.W+s) 0 (d.W - 1) with
  | false =>
   have HXX:=Lib.hid hX
   clear hX
   go_wp2_with (go_at_call 71;refine (inR_call HXX.out _).mono ?_;rintro e w' ⟨rfl,rfl⟩)
   go_ret
   exact ⟨ret_int (by rw [HT.out,HS.out,HXX.out];rfl),below_drewN (below_new (Below.refl _ _) _) _⟩
  | true =>
   have HXX:=Lib.hid hX
   clear hX
   cases hY:inR (t / d.W) 0 (d.H - 1) with
   | false =>
    have HYY:=Lib.hid hY
    clear hY
    go_wp2_with (go_at_call 71;(first|((with_reducible refine (inR_call HXX.out _).mono ?_);rintro e w' ⟨rfl,rfl⟩)|((with_reducible refine (inR_call HYY.out _).mono ?_);rintro e w' ⟨rfl,rfl⟩)))
    go_ret
    exact ⟨ret_int (by rw [HT.out,HS.out,HXX.out,HYY.out];rfl),below_drewN (below_new (Below.refl _ _) _) _⟩
   | true =>
    have HYY:=Lib.hid hY
    have hM:=HM.out (inR_iff.1 hY)
    have hx2:=(inR_iff.1 HXX.out)
    clear hY
    go_wp2_with (go_at_call 71;(first|((with_reducible refine (inR_call HXX.out _).mono ?_);rintro e w' ⟨rfl,rfl⟩)|((with_reducible refine (inR_call HYY.out _).mono ?_);rintro e w' ⟨rfl,rfl⟩)))
    go_ret
    exact ⟨ret_int (by rw [HT.out,HS.out,HXX.out,HYY.out];first|rfl|(simp;done)|(simp;omega)),below_drewN (below_new (Below.refl _ _) _) _⟩
 ·obtain rfl:=hX1.2.2 ⟨by omega,by omega⟩
  obtain rfl:=hY1.1 h
  subst h
  clear hX1 hY1
  go_enter Try.func78,Try.ntmps78
  go_wp2_with fail
  go_quiet (fail)
  clear e1 e2
  cases hX:inR (t % d.W) 0 (d.W - 1) with
  | false =>
   have HXX:=Lib.hid hX
   clear hX
   go_wp2_with (go_at_call 71;refine (inR_call HXX.out _).mono ?_;rintro e w' ⟨rfl,rfl⟩)
   go_ret
   exact ⟨ret_int (by rw [HT.out,HS.out,HXX.out];rfl),below_drewN (below_new (Below.refl _ _) _) _⟩
  | true =>
   have HXX:=Lib.hid hX
   clear hX
   cases hY:inR (t / d.W+s) 0 (d.H - 1) with
   | false =>
    have HYY:=Lib.hid hY
    clear hY
    go_wp2_with (go_at_call 71;(first|((with_reducible refine (inR_call HXX.out _).mono ?_);rintro e w' ⟨rfl,rfl⟩)|((with_reducible refine (inR_call HYY.out _).mono ?_);rintro e w' ⟨rfl,rfl⟩)))
    go_ret
    exact ⟨ret_int (by rw [HT.out,HS.out,HXX.out,HYY.out];rfl),below_drewN (below_new (Below.refl _ _) _) _⟩
   | true =>
    have HYY:=Lib.hid hY
    have hM:=HM.out (inR_iff.1 hY)
    have hx2:=(inR_iff.1 HXX.out)
    clear hY
    go_wp2_with (go_at_call 71;(first|((with_reducible refine (inR_call HXX.out _).mono ?_);rintro e w' ⟨rfl,rfl⟩)|((with_reducible refine (inR_call HYY.out _).mono ?_);rintro e w' ⟨rfl,rfl⟩)))
    go_ret
    exact ⟨ret_int (by rw [HT.out,HS.out,HXX.out,HYY.out];first|rfl|(simp;done)|(simp;omega)),below_drewN (below_new (Below.refl _ _) _) _⟩
 ·obtain rfl:=hX1.2.1 h
  obtain rfl:=hY1.2.1 (.inr h)
  subst h
  clear hX1 hY1
  go_enter Try.func78,Try.ntmps78
  go_wp2_with fail
  go_quiet (fail)
  clear e1 e2
  cases hX:inR (t % d.W - s) 0 (d.W - 1) with
  | false =>
   have HXX:=Lib.hid hX
   clear hX
   go_wp2_with (go_at_call 71;refine (inR_call HXX.out _).mono ?_;rintro e w' ⟨rfl,rfl⟩)
   go_ret
   exact ⟨ret_int (by rw [HT.out,HS.out,HXX.out];rfl),below_drewN (below_new (Below.refl _ _) _) _⟩
  | true =>
   have HXX:=Lib.hid hX
   clear hX
   cases hY:inR (t / d.W) 0 (d.H - 1) with
   | false =>
    have HYY:=Lib.hid hY
    clear hY
    go_wp2_with (go_at_call 71;(first|((with_reducible refine (inR_call HXX.out _).mono ?_);rintro e w' ⟨rfl,rfl⟩)|((with_reducible refine (inR_call HYY.out _).mono ?_);rintro e w' ⟨rfl,rfl⟩)))
    go_ret
    exact ⟨ret_int (by rw [HT.out,HS.out,HXX.out,HYY.out];rfl),below_drewN (below_new (Below.refl _ _) _) _⟩
   | true =>
    have HYY:=Lib.hid hY
    have hM:=HM.out (inR_iff.1 hY)
    have hx2:=(inR_iff.1 HXX.out)
    clear hY
    go_wp2_with (go_at_call 71;(first|((with_reducible refine (inR_call HXX.out _).mono ?_);rintro e w' ⟨rfl,rfl⟩)|((with_reducible refine (inR_call HYY.out _).mono ?_);rintro e w' ⟨rfl,rfl⟩)))
    go_ret
    exact ⟨ret_int (by rw [HT.out,HS.out,HXX.out,HYY.out];first|rfl|(simp;done)|(simp;omega)),below_drewN (below_new (Below.refl _ _) _) _⟩
 ·obtain rfl:=hX1.2.2 ⟨g0,g2⟩
  obtain rfl:=hY1.2.2 ⟨g0,g1,g2⟩
  clear hX1 hY1
  have q0:(r==0)=false:=by simpa using g0
  have q1:(r==1)=false:=by simpa using g1
  have q2:(r==2)=false:=by simpa using g2
  clear g0 g1 g2
  go_enter Try.func78,Try.ntmps78
  go_wp2_with fail
  go_quiet (fail)
  clear e1 e2
  cases hX:inR (t % d.W) 0 (d.W - 1) with
  | false =>
   have HXX:=Lib.hid hX
   clear hX
   go_wp2_with (go_at_call 71;refine (inR_call HXX.out _).mono ?_;rintro e w' ⟨rfl,rfl⟩)
   go_ret
   exact ⟨ret_int (by rw [HT.out,HS.out,HXX.out];rfl),below_drewN (below_new (Below.refl _ _) _) _⟩
  | true =>
   have HXX:=Lib.hid hX
   clear hX
   cases hY:inR (t / d.W - s) 0 (d.H - 1) with
   | false =>
    have HYY:=Lib.hid hY
    clear hY
    go_wp2_with (go_at_call 71;(first|((with_reducible refine (inR_call HXX.out _).mono ?_);rintro e w' ⟨rfl,rfl⟩)|((with_reducible refine (inR_call HYY.out _).mono ?_);rintro e w' ⟨rfl,rfl⟩)))
    go_ret
    exact ⟨ret_int (by rw [HT.out,HS.out,HXX.out,HYY.out];rfl),below_drewN (below_new (Below.refl _ _) _) _⟩
   | true =>
    have HYY:=Lib.hid hY
    have hM:=HM.out (inR_iff.1 hY)
    have hx2:=(inR_iff.1 HXX.out)
    clear hY
    go_wp2_with (go_at_call 71;(first|((with_reducible refine (inR_call HXX.out _).mono ?_);rintro e w' ⟨rfl,rfl⟩)|((with_reducible refine (inR_call HYY.out _).mono ?_);rintro e w' ⟨rfl,rfl⟩)))
    go_ret
    exact ⟨ret_int (by rw [HT.out,HS.out,HXX.out,HYY.out];first|rfl|(simp;done)|(simp;omega)),below_drewN (below_new (Below.refl _ _) _) _⟩
end Go.Proofs.Ytignkfhdkcgkgaa

namespace Go.Proofs.Ytignkfhdkcgkgaa
set_option maxRecDepth 100000
open Go.RowKit

set_option maxHeartbeats 400000 in
theorem perTile_any (d:Dev) (w:World) (h0:0≤d.T) (h1:d.T≤1099511627776) :
  Calls Try.prog 32 #[.agg #[.int .i64 d.W,.int .i64 d.H,.int .i64 d.T,.int .i64 d.R]] w fun e w'=>e = .returned (.int .i64 (perT d))∧Below w.heap.size w w':=by
 unfold perT
 go_enter Try.func32,Try.ntmps32
 go_wp2
 go_ret
 exact ⟨rfl,below_new (Below.refl _ _) _⟩

set_option maxHeartbeats 1000000 in
theorem routeNodes_any (d:Dev) (w:World) (hd:devOk d=true) :
  Calls Try.prog 48 #[.agg #[.int .i64 d.W,.int .i64 d.H,.int .i64 d.T,.int .i64 d.R]] w fun e w'=>e = .returned (.int .i64 (nodesOf d))∧Below w.heap.size w w':=by
 have hT:=devOk_bd hd
 have hWH:=dev_WH hd
 have hp:=perT_bd hd
 have hn:=nodesOf_bd hd
 have HN:=Lib.hid (show nodesOf d=d.W * d.H * perT d from rfl)
 rw [HN.out] at hn
 have hD:Below (w.alloc (.cells #[.int .i64 d.W,.int .i64 d.H,.int .i64 d.T,.int .i64 d.R] 33)).heap.size (w.alloc (.cells #[.int .i64 d.W,.int .i64 d.H,.int .i64 d.T,.int .i64 d.R] 33)) (w.alloc (.cells #[.int .i64 d.W,.int .i64 d.H,.int .i64 d.T,.int .i64 d.R] 33)):=Below.refl _ _
 go_enter Try.func48,Try.ntmps48
 go_wp2_with fail
 go_region_held3 (fun w'=>Below (w.alloc (.cells #[.int .i64 d.W,.int .i64 d.H,.int .i64 d.T,.int .i64 d.R] 33)).heap.size (w.alloc (.cells #[.int .i64 d.W,.int .i64 d.H,.int .i64 d.T,.int .i64 d.R] 33)) w'∧∀b o,b<(w.alloc (.cells #[.int .i64 d.W,.int .i64 d.H,.int .i64 d.T,.int .i64 d.R] 33)).heap.size→w'.cell? ⟨b,o,none⟩=(w.alloc (.cells #[.int .i64 d.W,.int .i64 d.H,.int .i64 d.T,.int .i64 d.R] 33)).cell? ⟨b,o,none⟩)
  (first|exact ⟨hD,(bcell hD).1⟩|exact ⟨hD.drew,(bcell hD.drew).1⟩)
  (first
   | (go_at_call 32;(with_reducible refine (perTile_any d _ (by omega) (by omega)).mono ?_);rintro e w2 ⟨rfl,b2⟩;(first|(with_reducible replace hD:=below_tr hD b2)|(with_reducible replace hD:=below_tr hD.drew b2));clear b2))
 all_goals
  go_wp2_with fail
  go_ret
  exact ⟨ret_int (by rw [IntWalk.i64_in (d.W * d.H) (by omega),IntWalk.i64_in _ (by omega),HN.out]),below_tr (below_new (Below.refl _ _) _) hD⟩

set_option maxHeartbeats 1000000 in
theorem nodePlace_any (d:Dev) (n:Int) (w:World) (hn:nodeIn d n=true) :
  Calls Try.prog 55 #[.agg #[.int .i64 d.W,.int .i64 d.H,.int .i64 d.T,.int .i64 d.R],.int .i64 n] w fun e w'=>e = .returned (.tuple #[.int .i64 (n / perT d),.int .i64 (n % perT d)])∧Below w.heap.size w w':=by
 obtain ⟨hd,n0,n1,hq0,hq1,hr0,hr1⟩:=node_tk hn
 have hT:=devOk_bd hd
 have hWH:=dev_WH hd
 have hp:=perT_bd hd
 have e0:¬perT d=0:=by omega
 have e1:n.tmod (perT d)=n % perT d:=Int.tmod_eq_emod_of_nonneg n0
 have e2:IntKind.i64.wrap (n.tdiv (perT d))=n / perT d:=IntWalk.i64_quo _ _ ⟨n0,by omega,by omega⟩
 have hD:Below (w.alloc (.cells #[.int .i64 d.W,.int .i64 d.H,.int .i64 d.T,.int .i64 d.R] 33)).heap.size (w.alloc (.cells #[.int .i64 d.W,.int .i64 d.H,.int .i64 d.T,.int .i64 d.R] 33)) (w.alloc (.cells #[.int .i64 d.W,.int .i64 d.H,.int .i64 d.T,.int .i64 d.R] 33)):=Below.refl _ _
 clear hd hn
 go_enter Try.func55,Try.ntmps55
 go_wp2_with fail
 go_region_held3 (fun w'=>Below (w.alloc (.cells #[.int .i64 d.W,.int .i64 d.H,.int .i64 d.T,.int .i64 d.R] 33)).heap.size (w.alloc (.cells #[.int .i64 d.W,.int .i64 d.H,.int .i64 d.T,.int .i64 d.R] 33)) w'∧∀b o,b<(w.alloc (.cells #[.int .i64 d.W,.int .i64 d.H,.int .i64 d.T,.int .i64 d.R] 33)).heap.size→w'.cell? ⟨b,o,none⟩=(w.alloc (.cells #[.int .i64 d.W,.int .i64 d.H,.int .i64 d.T,.int .i64 d.R] 33)).cell? ⟨b,o,none⟩)
  (first|exact ⟨hD,(bcell hD).1⟩|exact ⟨hD.drew,(bcell hD.drew).1⟩)
  (first
   | (go_at_call 32;(with_reducible refine (perTile_any d _ (by omega) (by omega)).mono ?_);rintro e w2 ⟨rfl,b2⟩;(first|(with_reducible replace hD:=below_tr hD b2)|(with_reducible replace hD:=below_tr hD.drew b2));clear b2))
 all_goals
  go_wp2_with fail
  go_ret2
  exact ⟨rfl,below_tr (below_new (Below.refl _ _) _) hD⟩
set_option maxHeartbeats 1000000 in
theorem wireOf_any (d:Dev) (n:Int) (w:World) (hn:nodeIn d n=true) (h7:7≤n % perT d) :
  Calls Try.prog 77 #[.agg #[.int .i64 d.W,.int .i64 d.H,.int .i64 d.T,.int .i64 d.R],.int .i64 n] w fun e w'=>e = .returned (.tuple #[.int .i64 (n / perT d),.int .i64 ((n % perT d - 7) / d.T),.int .i64 ((n % perT d - 7) % d.T),.bool true])∧Below w.heap.size w w':=by
 obtain ⟨hd,n0,n1,hq0,hq1,hr0,hr1⟩:=node_tk hn
 have HN:=Lib.hid hn
 have hT:=devOk_bd hd
 have hp:=perT_bd hd
 clear hn
 go_enter Try.func77,Try.ntmps77
 go_wp2_with fail
 refine (nodePlace_any d n _ HN.out).mono ?_
 rintro e w1 ⟨rfl,b1⟩
 have hb1:=b1.size
 simp only [World.size_alloc] at hb1
 obtain ⟨hcc,hff⟩:=bcell b1
 have B1:=Lib.hid (below_tr (below_new (Below.refl _ _) _) b1)
 clear b1
 generalize hk:n % perT d=k at *
 generalize hq:n / perT d=q at *
 have HK:=Lib.hid hk
 have HQ:=Lib.hid hq
 clear hk hq HN
 have e0:¬d.T=0:=by omega
 have e1:(k - 7).tmod d.T=(k - 7) % d.T:=Int.tmod_eq_emod_of_nonneg (by omega)
 have e2:IntKind.i64.wrap ((k - 7).tdiv d.T)=(k - 7) / d.T:=IntWalk.i64_quo _ _ ⟨by omega,by omega,by omega⟩
 have e3:IntKind.i64.wrap (k - 7)=k - 7:=IntWalk.i64_in _ (by omega)
 have hh:decide (k≥7)=true:=by simpa using h7
 go_wp2_with fail
 go_quiet (fail)
 go_wp2_with fail
 exact bodyPost_ret (v := .tuple #[.int .i64 q,.int .i64 ((k - 7) / d.T),.int .i64 ((k - 7) % d.T),.bool true]) (by simp [results,Try.results77,go_sem]) rfl ⟨by rw [HK.out,HQ.out],below_drewN B1.out _⟩

theorem tileOk_is {d:Dev} {t:Int} {b:Bool} (h:tileIn d t=b) (w:World):Calls Try.prog 92 #[.agg #[.int .i64 d.W,.int .i64 d.H,.int .i64 d.T,.int .i64 d.R],.int .i64 t] w fun e w'=>e = .returned (.bool b)∧Below w.heap.size w w':=by
 have:=tileOk_any d t w
 rwa [h] at this
theorem tileStep_is {d:Dev} {t r s p:Int} (h:stepOf d t r s=p) (ht:tileIn d t=true) (h0:0≤s) (h1:s≤6) (w:World):Calls Try.prog 78 #[.agg #[.int .i64 d.W,.int .i64 d.H,.int .i64 d.T,.int .i64 d.R],.int .i64 t,.int .i64 r,.int .i64 s] w fun e w'=>e = .returned (.int .i64 p)∧Below w.heap.size w w':=by
 have:=tileStep_any d t r s w ht h0 h1
 rwa [h] at this

set_option maxHeartbeats 1000000 in
theorem poutPin_any (d:Dev) (t p:Int) (w:World) :
  Calls Try.prog 91 #[.agg #[.int .i64 d.W,.int .i64 d.H,.int .i64 d.T,.int .i64 d.R],.int .i64 t,.int .i64 p] w fun e w'=>e = .returned (.int .i64 (outPin d t p))∧Below w.heap.size w w':=by
 have HO:Hid (outPin d t p=if tileIn d t=true∧0≤p∧p<outPins (kindOf d t) then t * perT d+5+p else -1):=rfl
 go_enter Try.func91,Try.ntmps91
 go_wp2_with fail
 cases ht:tileIn d t with
 | false =>
  refine (tileOk_is ht _).mono ?_
  rintro e w1 ⟨rfl,b1⟩
  have B1:=Lib.hid (below_tr (below_new (Below.refl _ _) _) b1)
  have HT:=Lib.hid ht
  clear b1 ht
  go_wp2_with fail
  go_ret
  exact ⟨ret_int (by rw [HO.out,if_neg (by rw [HT.out];simp)]),B1.out⟩
 | true =>
  refine (tileOk_is ht _).mono ?_
  rintro e w1 ⟨rfl,b1⟩
  have B1:=Lib.hid (below_tr (below_new (Below.refl _ _) _) b1)
  have D1:=Lib.hid b1
  obtain ⟨hcc,hff⟩:=bcell b1
  have hs1:=b1.size
  simp only [World.size_alloc] at hs1
  obtain ⟨hd,ht0,ht1⟩:=tileIn_iff.1 ht
  have hWH:=dev_WH hd
  have hT:=devOk_bd hd
  have hp:=perT_bd hd
  have hop:=outPins_bd d t
  have HM:=Lib.hid (mul_bd ht0 (show t≤35 by omega) (show 0≤perT d by omega) hp.2)
  have HT:=Lib.hid ht
  have HD:=Lib.hid hd
  clear b1 ht hd
  go_wp2_with fail
  refine (tileKind_any d t _ HD.out ht0 (by omega)).mono ?_
  rintro e w2 ⟨rfl,b2⟩
  have B2:=Lib.hid (below_tr B1.out b2)
  have D2:=Lib.hid (below_tr D1.out b2)
  have hs2:=b2.size
  clear b2 hcc hff
  obtain ⟨hcc,hff⟩:=bcell D2.out
  generalize hK:kindOf d t=K at *
  have HK:=Lib.hid hK
  clear hK
  go_wp2_with (go_at_call 76;refine (poutPins_any _ _).mono ?_;rintro e w' ⟨rfl,rfl⟩)
  generalize hQ:outPins K=Q at *
  have HQ:=Lib.hid hQ
  clear hQ
  have e3:IntKind.i64.wrap (Q - 1)=Q - 1:=IntWalk.i64_in _ (by omega)
  cases hin:inR p 0 (Q - 1) with
  | false =>
   have HI:=Lib.hid hin
   clear hin
   go_wp2_with (go_at_call 71;refine (inR_call HI.out _).mono ?_;rintro e w' ⟨rfl,rfl⟩)
   go_ret
   exact ⟨ret_int (by rw [HO.out,if_neg];rintro ⟨_,h0,h1⟩;have:=inR_false.1 HI.out;omega),B2.out⟩
  | true =>
   have HI:=Lib.hid hin
   have hi:=inR_iff.1 hin
   clear hin
   go_wp2_with (go_at_call 71;refine (inR_call HI.out _).mono ?_;rintro e w' ⟨rfl,rfl⟩)
   refine (perTile_any d _ (by omega) (by omega)).mono ?_
   rintro e w3 ⟨rfl,b3⟩
   have B3:=Lib.hid (below_tr B2.out b3)
   have hM:=HM.out
   clear b3 hcc hff e3
   go_wp2_with fail
   go_ret
   exact ⟨ret_int (by rw [HO.out,if_pos ⟨HT.out,by omega,by omega⟩]),B3.out⟩
end Go.Proofs.Ytignkfhdkcgkgaa

namespace Go.Proofs.Ytignkfhdkcgkgaa
set_option maxRecDepth 100000
open Go.RowKit

/-- A world that holds what W holds: only memory was made. -/
structure Sub (W:World) where
 v:World
 h:Below W.heap.size W v
theorem sub_ne (W:World):Nonempty (Sub W):=⟨⟨W,Below.refl _ _⟩⟩
theorem sub_cell (W:World) (x:Sub W) (b o:Nat) (h:b<W.heap.size):x.v.cell? ⟨b,o,none⟩=W.cell? ⟨b,o,none⟩:=(bcell x.h).1 b o h
theorem wp_region_below {P:Program} (W:World) {id:Nat} {Q:Exit→Act→World→Prop} {a:Act} {w:World} {l:List Oper} (hm:P.follows .mixedOrders=true) (hB:Region.lexB .any l.toArray=true) (hC:Below W.heap.size W w)
  (h:wpQuiet P l.toArray (fun w'=>∃x:Sub W,w'=x.v) (fun a'=>∀w',(∃x:Sub W,w'=x.v)→Q .normal a' w') l a):(Code.region id l.toArray true).wp P Q a w :=
 wp_region_quiet (C:=fun w'=>∃x:Sub W,w'=x.v) hm hB ⟨⟨_,hC.drew⟩,rfl⟩ (by simpa using h)
/-- A callee's contract in such a region. -/
theorem calls_sub {P:Program} {f:FuncId} {args:Array Value} {W:World} {x:Sub W} {v:Value} (h:Calls P f args x.v fun e w'=>e = .returned v∧Below x.v.heap.size x.v w') :
  Calls P f args x.v fun e w''=>e = .returned v∧∃y:Sub W,w''=y.v :=
 h.mono fun _ w' ⟨he,hb⟩=>⟨he,⟨w',below_tr x.h hb⟩,rfl⟩
theorem calls_sub_same {P:Program} {f:FuncId} {args:Array Value} {W:World} {x:Sub W} {v:Value} (h:Calls P f args x.v fun e w'=>e = .returned v∧x.v=w') :
  Calls P f args x.v fun e w''=>e = .returned v∧∃y:Sub W,w''=y.v :=
 h.mono fun _ w' ⟨he,hb⟩=>⟨he,⟨w',hb ▸ x.h⟩,rfl⟩
end Go.Proofs.Ytignkfhdkcgkgaa

namespace Go.Proofs.Ytignkfhdkcgkgaa
set_option maxRecDepth 100000
open Go.RowKit

theorem wire_no {d:Dev} {t r k:Int} (h:tileIn d t=false):Hid (¬(tileIn d t=true∧(0≤r∧r≤3)∧(0≤k∧k<d.T)∧0≤stepOf d t r (wlen k))):=by
 show ¬_
 rw [h];simp
set_option maxHeartbeats 1000000 in
theorem pwireNode_1 (d:Dev) (t r k:Int) (w:World) (ht:tileIn d t=false) :
  Calls Try.prog 89 #[.agg #[.int .i64 d.W,.int .i64 d.H,.int .i64 d.T,.int .i64 d.R],.int .i64 t,.int .i64 r,.int .i64 k] w fun e w'=>e = .returned (.int .i64 (wireNode d t r k))∧Below w.heap.size w w':=by
 have HO:Hid (wireNode d t r k=if tileIn d t=true∧(0≤r∧r≤3)∧(0≤k∧k<d.T)∧0≤stepOf d t r (wlen k) then t * perT d+7+r * d.T+k else -1):=rfl
 have hbad:=wire_no (r:=r) (k:=k) ht
 have HT:=Lib.hid ht
 have HR:=Lib.hid hbad
 have HK:=HR
 have HS:=HR
 clear ht
 go_enter Try.func89,Try.ntmps89
 go_wp2_with fail
 have hsub:=sub_ne (w.alloc (.cells #[.int .i64 d.W,.int .i64 d.H,.int .i64 d.T,.int .i64 d.R] 33))
 have hsc:=sub_cell (w.alloc (.cells #[.int .i64 d.W,.int .i64 d.H,.int .i64 d.T,.int .i64 d.R] 33))
 refine wp_region_below (w.alloc (.cells #[.int .i64 d.W,.int .i64 d.H,.int .i64 d.T,.int .i64 d.R] 33)) (by kernel_rfl) (by kernel_rfl) (by first|exact Below.refl _ _|exact hD) ?_
 repeat (go_big_quiet_step ((first
  | (go_at_call 92;with_reducible exact calls_sub (tileOk_is HT.out _))
   | (go_at_call 71;(first|with_reducible exact calls_sub_same (inR_call HR.out _)|with_reducible exact calls_sub_same (inR_call HK.out _)))
   | (go_at_call 79;with_reducible exact calls_sub_same (wireLength_any k _ (by omega) (by omega)))
   | (go_at_call 78;with_reducible exact calls_sub (tileStep_is HS.out HT.out (by omega) (by omega) _))
   | (go_at_call 32;with_reducible exact calls_sub (perTile_any d _ (by omega) (by omega))))))
 refine wpQuiet_nil ?_
 rintro _ ⟨⟨w2,hD⟩,rfl⟩
 (try dsimp only)
 clear hsub hsc
 all_goals
  go_wp2_with fail
  go_ret
  exact ⟨ret_int (by rw [HO.out,if_neg hbad.out]),below_tr (below_new (Below.refl _ _) _) hD⟩
set_option maxHeartbeats 1000000 in
theorem pwireNode_2 (d:Dev) (t r k:Int) (w:World) (ht:tileIn d t=true) (hr:inR r 0 3=false) :
  Calls Try.prog 89 #[.agg #[.int .i64 d.W,.int .i64 d.H,.int .i64 d.T,.int .i64 d.R],.int .i64 t,.int .i64 r,.int .i64 k] w fun e w'=>e = .returned (.int .i64 (wireNode d t r k))∧Below w.heap.size w w':=by
 have HO:Hid (wireNode d t r k=if tileIn d t=true∧(0≤r∧r≤3)∧(0≤k∧k<d.T)∧0≤stepOf d t r (wlen k) then t * perT d+7+r * d.T+k else -1):=rfl
 have hbad:Hid (¬(tileIn d t=true∧(0≤r∧r≤3)∧(0≤k∧k<d.T)∧0≤stepOf d t r (wlen k))):=by rintro ⟨_,h,_⟩;have:=inR_false.1 hr;omega
 have hd:=(tileIn_iff.1 ht).1
 have hT:=devOk_bd hd
 have HT:=Lib.hid ht
 have HR:=Lib.hid hr
 have HK:=hbad
 have HS:=hbad
 clear ht hr hd
 go_enter Try.func89,Try.ntmps89
 go_wp2_with fail
 have hsub:=sub_ne (w.alloc (.cells #[.int .i64 d.W,.int .i64 d.H,.int .i64 d.T,.int .i64 d.R] 33))
 have hsc:=sub_cell (w.alloc (.cells #[.int .i64 d.W,.int .i64 d.H,.int .i64 d.T,.int .i64 d.R] 33))
 refine wp_region_below (w.alloc (.cells #[.int .i64 d.W,.int .i64 d.H,.int .i64 d.T,.int .i64 d.R] 33)) (by kernel_rfl) (by kernel_rfl) (by first|exact Below.refl _ _|exact hD) ?_
 repeat (go_big_quiet_step ((first
  | (go_at_call 92;with_reducible exact calls_sub (tileOk_is HT.out _))
   | (go_at_call 71;(first|with_reducible exact calls_sub_same (inR_call HR.out _)|with_reducible exact calls_sub_same (inR_call HK.out _)))
   | (go_at_call 79;with_reducible exact calls_sub_same (wireLength_any k _ (by omega) (by omega)))
   | (go_at_call 78;with_reducible exact calls_sub (tileStep_is HS.out HT.out (by omega) (by omega) _))
   | (go_at_call 32;with_reducible exact calls_sub (perTile_any d _ (by omega) (by omega))))))
 refine wpQuiet_nil ?_
 rintro _ ⟨⟨w2,hD⟩,rfl⟩
 (try dsimp only)
 clear hsub hsc
 all_goals
  go_wp2_with fail
  go_ret
  exact ⟨ret_int (by rw [HO.out,if_neg hbad.out]),below_tr (below_new (Below.refl _ _) _) hD⟩
set_option maxHeartbeats 1000000 in
theorem pwireNode_3 (d:Dev) (t r k:Int) (w:World) (ht:tileIn d t=true) (hr:inR r 0 3=true) (hk:inR k 0 (d.T - 1)=false) :
  Calls Try.prog 89 #[.agg #[.int .i64 d.W,.int .i64 d.H,.int .i64 d.T,.int .i64 d.R],.int .i64 t,.int .i64 r,.int .i64 k] w fun e w'=>e = .returned (.int .i64 (wireNode d t r k))∧Below w.heap.size w w':=by
 have HO:Hid (wireNode d t r k=if tileIn d t=true∧(0≤r∧r≤3)∧(0≤k∧k<d.T)∧0≤stepOf d t r (wlen k) then t * perT d+7+r * d.T+k else -1):=rfl
 have hbad:Hid (¬(tileIn d t=true∧(0≤r∧r≤3)∧(0≤k∧k<d.T)∧0≤stepOf d t r (wlen k))):=by rintro ⟨_,_,h,_⟩;have:=inR_false.1 hk;omega
 have hd:=(tileIn_iff.1 ht).1
 have hT:=devOk_bd hd
 have e3:IntKind.i64.wrap (d.T - 1)=d.T - 1:=IntWalk.i64_in _ (by omega)
 have HT:=Lib.hid ht
 have HR:=Lib.hid hr
 have HK:=Lib.hid hk
 have HS:=hbad
 clear ht hr hd hk
 go_enter Try.func89,Try.ntmps89
 go_wp2_with fail
 have hsub:=sub_ne (w.alloc (.cells #[.int .i64 d.W,.int .i64 d.H,.int .i64 d.T,.int .i64 d.R] 33))
 have hsc:=sub_cell (w.alloc (.cells #[.int .i64 d.W,.int .i64 d.H,.int .i64 d.T,.int .i64 d.R] 33))
 refine wp_region_below (w.alloc (.cells #[.int .i64 d.W,.int .i64 d.H,.int .i64 d.T,.int .i64 d.R] 33)) (by kernel_rfl) (by kernel_rfl) (by first|exact Below.refl _ _|exact hD) ?_
 repeat (go_big_quiet_step ((first
  | (go_at_call 92;with_reducible exact calls_sub (tileOk_is HT.out _))
   | (go_at_call 71;(first|with_reducible exact calls_sub_same (inR_call HR.out _)|with_reducible exact calls_sub_same (inR_call HK.out _)))
   | (go_at_call 79;with_reducible exact calls_sub_same (wireLength_any k _ (by omega) (by omega)))
   | (go_at_call 78;with_reducible exact calls_sub (tileStep_is HS.out HT.out (by omega) (by omega) _))
   | (go_at_call 32;with_reducible exact calls_sub (perTile_any d _ (by omega) (by omega))))))
 refine wpQuiet_nil ?_
 rintro _ ⟨⟨w2,hD⟩,rfl⟩
 (try dsimp only)
 clear hsub hsc
 all_goals
  go_wp2_with fail
  go_ret
  exact ⟨ret_int (by rw [HO.out,if_neg hbad.out]),below_tr (below_new (Below.refl _ _) _) hD⟩
set_option maxHeartbeats 1000000 in
theorem pwireNode_4 (d:Dev) (t r k:Int) (w:World) (ht:tileIn d t=true) (hr:inR r 0 3=true) (hk:inR k 0 (d.T - 1)=true) (hs:stepOf d t r (wlen k)<0) :
  Calls Try.prog 89 #[.agg #[.int .i64 d.W,.int .i64 d.H,.int .i64 d.T,.int .i64 d.R],.int .i64 t,.int .i64 r,.int .i64 k] w fun e w'=>e = .returned (.int .i64 (wireNode d t r k))∧Below w.heap.size w w':=by
 have HO:Hid (wireNode d t r k=if tileIn d t=true∧(0≤r∧r≤3)∧(0≤k∧k<d.T)∧0≤stepOf d t r (wlen k) then t * perT d+7+r * d.T+k else -1):=rfl
 have hbad:Hid (¬(tileIn d t=true∧(0≤r∧r≤3)∧(0≤k∧k<d.T)∧0≤stepOf d t r (wlen k))):=by rintro ⟨_,_,_,h⟩;omega
 have hd:=(tileIn_iff.1 ht).1
 have hT:=devOk_bd hd
 have hki:=inR_iff.1 hk
 have hL:0≤wlen k∧wlen k≤6:=by unfold wlen;omega
 have e3:IntKind.i64.wrap (d.T - 1)=d.T - 1:=IntWalk.i64_in _ (by omega)
 obtain ⟨P,hP⟩:∃P,stepOf d t r (wlen k)=P:=⟨_,rfl⟩
 rw [hP] at hs
 have HT:=Lib.hid ht
 have HR:=Lib.hid hr
 have HK:=Lib.hid hk
 have HS:=Lib.hid hP
 clear ht hr hd hk hP
 go_enter Try.func89,Try.ntmps89
 go_wp2_with fail
 have hsub:=sub_ne (w.alloc (.cells #[.int .i64 d.W,.int .i64 d.H,.int .i64 d.T,.int .i64 d.R] 33))
 have hsc:=sub_cell (w.alloc (.cells #[.int .i64 d.W,.int .i64 d.H,.int .i64 d.T,.int .i64 d.R] 33))
 refine wp_region_below (w.alloc (.cells #[.int .i64 d.W,.int .i64 d.H,.int .i64 d.T,.int .i64 d.R] 33)) (by kernel_rfl) (by kernel_rfl) (by first|exact Below.refl _ _|exact hD) ?_
 repeat (go_big_quiet_step ((first
  | (go_at_call 92;with_reducible exact calls_sub (tileOk_is HT.out _))
   | (go_at_call 71;(first|with_reducible exact calls_sub_same (inR_call HR.out _)|with_reducible exact calls_sub_same (inR_call HK.out _)))
   | (go_at_call 79;with_reducible exact calls_sub_same (wireLength_any k _ (by omega) (by omega)))
   | (go_at_call 78;with_reducible exact calls_sub (tileStep_is HS.out HT.out (by omega) (by omega) _))
   | (go_at_call 32;with_reducible exact calls_sub (perTile_any d _ (by omega) (by omega))))))
 refine wpQuiet_nil ?_
 rintro _ ⟨⟨w2,hD⟩,rfl⟩
 (try dsimp only)
 clear hsub hsc
 all_goals
  go_wp2_with fail
  go_ret
  exact ⟨ret_int (by rw [HO.out,if_neg hbad.out]),below_tr (below_new (Below.refl _ _) _) hD⟩
set_option maxHeartbeats 1000000 in
theorem pwireNode_5 (d:Dev) (t r k:Int) (w:World) (ht:tileIn d t=true) (hr:inR r 0 3=true) (hk:inR k 0 (d.T - 1)=true) (hs:0≤stepOf d t r (wlen k)) :
  Calls Try.prog 89 #[.agg #[.int .i64 d.W,.int .i64 d.H,.int .i64 d.T,.int .i64 d.R],.int .i64 t,.int .i64 r,.int .i64 k] w fun e w'=>e = .returned (.int .i64 (wireNode d t r k))∧Below w.heap.size w w':=by
 have HO:Hid (wireNode d t r k=if tileIn d t=true∧(0≤r∧r≤3)∧(0≤k∧k<d.T)∧0≤stepOf d t r (wlen k) then t * perT d+7+r * d.T+k else -1):=rfl
 have hd:=(tileIn_iff.1 ht).1
 have ht0:=(tileIn_iff.1 ht).2
 have hT:=devOk_bd hd
 have hWH:=dev_WH hd
 have hp:=perT_bd hd
 have hki:=inR_iff.1 hk
 have hri:=inR_iff.1 hr
 have hgood:Hid (tileIn d t=true∧(0≤r∧r≤3)∧(0≤k∧k<d.T)∧0≤stepOf d t r (wlen k)):=⟨ht,hri,by omega,hs⟩
 have hL:0≤wlen k∧wlen k≤6:=by unfold wlen;omega
 have e3:IntKind.i64.wrap (d.T - 1)=d.T - 1:=IntWalk.i64_in _ (by omega)
 have hM:=mul_bd ht0.1 (show t≤35 by omega) (show 0≤perT d by omega) hp.2
 have hM2:=mul_bd hri.1 hri.2 (show 0≤d.T by omega) (show d.T≤4 by omega)
 have HE:=Lib.hid (And.intro (IntWalk.wrap64_in (t * perT d) (by omega)) (And.intro (IntWalk.wrap64_in (t * perT d+7) (by omega)) (And.intro (IntWalk.wrap64_in (r * d.T) (by omega)) (And.intro (IntWalk.wrap64_in (t * perT d+7+r * d.T) (by omega)) (IntWalk.wrap64_in (t * perT d+7+r * d.T+k) (by omega))))))
 obtain ⟨P,hP⟩:∃P,stepOf d t r (wlen k)=P:=⟨_,rfl⟩
 rw [hP] at hs
 have HT:=Lib.hid ht
 have HR:=Lib.hid hr
 have HK:=Lib.hid hk
 have HS:=Lib.hid hP
 have HG:=hgood
 clear ht hr hd hk hP hM hM2
 go_enter Try.func89,Try.ntmps89
 go_wp2_with fail
 have hsub:=sub_ne (w.alloc (.cells #[.int .i64 d.W,.int .i64 d.H,.int .i64 d.T,.int .i64 d.R] 33))
 have hsc:=sub_cell (w.alloc (.cells #[.int .i64 d.W,.int .i64 d.H,.int .i64 d.T,.int .i64 d.R] 33))
 refine wp_region_below (w.alloc (.cells #[.int .i64 d.W,.int .i64 d.H,.int .i64 d.T,.int .i64 d.R] 33)) (by kernel_rfl) (by kernel_rfl) (by first|exact Below.refl _ _|exact hD) ?_
 repeat (go_big_quiet_step ((first
  | (go_at_call 92;with_reducible exact calls_sub (tileOk_is HT.out _))
   | (go_at_call 71;(first|with_reducible exact calls_sub_same (inR_call HR.out _)|with_reducible exact calls_sub_same (inR_call HK.out _)))
   | (go_at_call 79;with_reducible exact calls_sub_same (wireLength_any k _ (by omega) (by omega)))
   | (go_at_call 78;with_reducible exact calls_sub (tileStep_is HS.out HT.out (by omega) (by omega) _))
   | (go_at_call 32;with_reducible exact calls_sub (perTile_any d _ (by omega) (by omega))))))
 refine wpQuiet_nil ?_
 rintro _ ⟨⟨w2,hD⟩,rfl⟩
 (try dsimp only)
 clear hsub hsc
 all_goals
  go_wp2_with fail
  have hsub:=sub_ne (w.alloc (.cells #[.int .i64 d.W,.int .i64 d.H,.int .i64 d.T,.int .i64 d.R] 33))
 have hsc:=sub_cell (w.alloc (.cells #[.int .i64 d.W,.int .i64 d.H,.int .i64 d.T,.int .i64 d.R] 33))
 refine wp_region_below (w.alloc (.cells #[.int .i64 d.W,.int .i64 d.H,.int .i64 d.T,.int .i64 d.R] 33)) (by kernel_rfl) (by kernel_rfl) (by first|exact Below.refl _ _|exact hD) ?_
 repeat (go_big_quiet_step ((first
  | (go_at_call 92;with_reducible exact calls_sub (tileOk_is HT.out _))
   | (go_at_call 71;(first|with_reducible exact calls_sub_same (inR_call HR.out _)|with_reducible exact calls_sub_same (inR_call HK.out _)))
   | (go_at_call 79;with_reducible exact calls_sub_same (wireLength_any k _ (by omega) (by omega)))
   | (go_at_call 78;with_reducible exact calls_sub (tileStep_is HS.out HT.out (by omega) (by omega) _))
   | (go_at_call 32;with_reducible exact calls_sub (perTile_any d _ (by omega) (by omega))))))
 refine wpQuiet_nil ?_
 rintro _ ⟨⟨w2,hD⟩,rfl⟩
 (try dsimp only)
 clear hsub hsc
 all_goals
  go_wp2_with fail
  go_ret
  exact ⟨ret_int (by rw [HO.out,if_pos HG.out];first|rfl|(rw [HE.out.1,HE.out.2.1,HE.out.2.2.1,HE.out.2.2.2.1,HE.out.2.2.2.2])),below_tr (below_new (Below.refl _ _) _) hD⟩
theorem pwireNode_any (d:Dev) (t r k:Int) (w:World) :
  Calls Try.prog 89 #[.agg #[.int .i64 d.W,.int .i64 d.H,.int .i64 d.T,.int .i64 d.R],.int .i64 t,.int .i64 r,.int .i64 k] w fun e w'=>e = .returned (.int .i64 (wireNode d t r k))∧Below w.heap.size w w':=by
 cases ht:tileIn d t with
 | false=>exact pwireNode_1 d t r k w ht
 | true =>
  cases hr:inR r 0 3 with
  | false=>exact pwireNode_2 d t r k w ht hr
  | true =>
   cases hk:inR k 0 (d.T - 1) with
   | false=>exact pwireNode_3 d t r k w ht hr hk
   | true =>
    rcases Int.lt_or_le (stepOf d t r (wlen k)) 0 with h|h
    ·exact pwireNode_4 d t r k w ht hr hk h
    ·exact pwireNode_5 d t r k w ht hr hk h

/-! ### which nodes exist -/
set_option maxHeartbeats 1000000 in
theorem prouteNodeOk_out (d:Dev) (n:Int) (w:World) (hn:nodeIn d n=false) :
  Calls Try.prog 49 #[.agg #[.int .i64 d.W,.int .i64 d.H,.int .i64 d.T,.int .i64 d.R],.int .i64 n] w fun e w'=>e = .returned (.bool (nodeOk d n))∧Below w.heap.size w w':=by
 have HR:Hid (nodeOk d n=false):=by show _=false;unfold nodeOk;rw [hn];rfl
 have HN:=Lib.hid hn
 clear hn
 go_enter Try.func49,Try.ntmps49
 go_wp2_with fail
 refine (deviceOk_any d _).mono ?_
 rintro e w1 ⟨rfl,b1⟩
 have B1:=Lib.hid (below_tr (below_new (Below.refl _ _) _) b1)
 have hb1:=b1.size
 simp only [World.size_alloc] at hb1
 obtain ⟨hcc,hff⟩:=bcell b1
 clear b1
 cases hd:devOk d with
 | false =>
  go_wp2_with fail
  go_ret
  exact ⟨ret_bool HR.out.symm,B1.out⟩
 | true =>
  have hh:=nodesOf_bd hd
  have HD:=Lib.hid hd
  clear hd
  go_wp2_with fail
  refine (routeNodes_any d _ HD.out).mono ?_
  rintro e w2 ⟨rfl,b2⟩
  have B2:=Lib.hid (below_tr B1.out b2)
  clear b2 hcc hff
  have e3:IntKind.i64.wrap (nodesOf d - 1)=nodesOf d - 1:=IntWalk.i64_in _ (by omega)
  have hin:inR n 0 (nodesOf d - 1)=false:=by
   cases h:inR n 0 (nodesOf d - 1) with
   | false=>rfl
   | true =>
    have h1:=HN.out
    have h2:=inR_iff.1 h
    rw [nodeIn,HD.out,decide_eq_true (by omega),decide_eq_true (by omega)] at h1
    cases h1
  have HI:=Lib.hid hin
  clear hin
  go_wp2_with (go_at_call 71;refine (inR_call HI.out _).mono ?_;rintro e w' ⟨rfl,rfl⟩)
  go_ret
  exact ⟨ret_bool HR.out.symm,B2.out⟩

set_option maxHeartbeats 1000000 in
theorem prouteNodeOk_in (d:Dev) (n:Int) (w:World) (hn:nodeIn d n=true) :
  Calls Try.prog 49 #[.agg #[.int .i64 d.W,.int .i64 d.H,.int .i64 d.T,.int .i64 d.R],.int .i64 n] w fun e w'=>e = .returned (.bool (nodeOk d n))∧Below w.heap.size w w':=by
 have HR:Hid (nodeOk d n=nodeOkK d (n / perT d) (n % perT d)):=by show _=_;unfold nodeOk;rw [hn];rfl
 have HN:=Lib.hid hn
 obtain ⟨hd,n0,n1,hq0,hq1,hr0,hr1⟩:=node_tk hn
 have hT:=devOk_bd hd
 have hp:=perT_bd hd
 have hWH:=dev_WH hd
 have hh:=nodesOf_bd hd
 have HTI:=Lib.hid (node_tile hn)
 have HD:=Lib.hid hd
 have e3:IntKind.i64.wrap (nodesOf d - 1)=nodesOf d - 1:=IntWalk.i64_in _ (by omega)
 have HI:Hid (inR n 0 (nodesOf d - 1)=true):=by
  show _=true
  unfold nodeIn at hn
  simp only [Bool.and_eq_true,decide_eq_true_eq] at hn
  rw [inR_iff]
  omega
 clear hn hd
 go_enter Try.func49,Try.ntmps49
 go_wp2_with fail
 refine (deviceOk_any d _).mono ?_
 rintro e w1 ⟨rfl,b1⟩
 rw [HD.out]
 have B1:=Lib.hid b1
 have hb1:=b1.size
 simp only [World.size_alloc] at hb1
 obtain ⟨hcc,hff⟩:=bcell b1
 clear b1
 go_wp2_with fail
 refine (routeNodes_any d _ HD.out).mono ?_
 rintro e w2 ⟨rfl,b2⟩
 have B2:=Lib.hid (below_tr B1.out b2)
 have hb2:=b2.size
 clear b2 hcc hff
 obtain ⟨hcc,hff⟩:=bcell B2.out
 go_wp2_with (go_at_call 71;refine (inR_call HI.out _).mono ?_;rintro e w' ⟨rfl,rfl⟩)
 refine (nodePlace_any d n _ HN.out).mono ?_
 rintro e w3 ⟨rfl,b3⟩
 have B3:=Lib.hid (below_tr B2.out b3)
 have hb3:=b3.size
 clear b3 hcc hff e3
 obtain ⟨hcc,hff⟩:=bcell B3.out
 have hWIRE:=Lib.hid (fun (h7:7≤n % perT d) (w:World)=>wireOf_any d n w HN.out h7)
 generalize hk:n % perT d=k at *
 generalize hq:n / perT d=q at *
 have hK:nodeOkK d q k=if k<5 then decide (k<inPins (kindOf d q)) else if k<7 then decide (k - 5<outPins (kindOf d q)) else decide (0≤stepOf d q ((k - 7) / d.T) (wlen ((k - 7) % d.T))):=rfl
 have HK:=Lib.hid hK
 have HKQ:=Lib.hid (And.intro hk hq)
 have hip:=inPins_bd d q
 have hop:=outPins_bd d q
 have hKT:=(fun w=>tileKind_any d q w HD.out (by omega) (by omega))
 have HKT:=Lib.hid hKT
 generalize kindOf d q=K at *
 clear hK hk hq hKT
 have h3:k<5∨(¬k<5∧k<7)∨(¬k<5∧¬k<7):=by omega
 rcases h3 with h|⟨h,h'⟩|⟨h,h'⟩
 ·go_wp2_with fail
  refine (HKT.out _).mono ?_
  rintro e w4 ⟨rfl,b4⟩
  have B4:=Lib.hid (below_tr B3.out b4)
  clear b4 hcc hff
  generalize hQ:inPins K=Q at *
  have HQ:=Lib.hid hQ
  clear hQ
  go_wp2_with (go_at_call 75;refine (pinPins_any _ _).mono ?_;rw [HQ.out];rintro e w' ⟨rfl,rfl⟩)
  go_ret
  exact ⟨ret_bool (by rw [HR.out,HK.out,if_pos (by omega)]),below_tr (below_new (Below.refl _ _) _) B4.out⟩
 ·go_wp2_with fail
  refine (HKT.out _).mono ?_
  rintro e w4 ⟨rfl,b4⟩
  have B4:=Lib.hid (below_tr B3.out b4)
  clear b4 hcc hff
  generalize hQ:outPins K=Q at *
  have HQ:=Lib.hid hQ
  clear hQ
  go_wp2_with (go_at_call 76;refine (poutPins_any _ _).mono ?_;rw [HQ.out];rintro e w' ⟨rfl,rfl⟩)
  go_ret
  exact ⟨ret_bool (by rw [HR.out,HK.out,if_neg (by omega),if_pos (by omega)]),below_tr (below_new (Below.refl _ _) _) B4.out⟩
 ·have hT0:=Int.ediv_nonneg (show 0≤k - 7 by omega) (show 0≤d.T by omega)
  have hT1:=Int.emod_nonneg (k - 7) (show d.T≠0 by omega)
  have hT2:=Int.emod_lt_of_pos (k - 7) (show 0<d.T by omega)
  go_wp2_with fail
  refine (hWIRE.out (by omega) _).mono ?_
  rintro e w4 ⟨rfl,b4⟩
  have hD:=below_tr B3.out b4
  have hb4:=b4.size
  clear b4 hcc hff
  obtain ⟨hcc,hff⟩:=bcell hD
  generalize (k - 7) / d.T=r at *
  generalize (k - 7) % d.T=m at *
  have hL:0≤wlen m∧wlen m≤6:=by unfold wlen;omega
  have HS:Hid (∃P,stepOf d q r (wlen m)=P):=⟨_,rfl⟩
  obtain ⟨P,hP⟩:=HS.out
  have HP:=Lib.hid hP
  clear hP
  go_wp2_with fail
  clear hcc hff
  have hsub:=sub_ne (w.alloc (.cells #[.int .i64 d.W,.int .i64 d.H,.int .i64 d.T,.int .i64 d.R] 33))
  have hsc:=sub_cell (w.alloc (.cells #[.int .i64 d.W,.int .i64 d.H,.int .i64 d.T,.int .i64 d.R] 33))
  refine wp_region_below (w.alloc (.cells #[.int .i64 d.W,.int .i64 d.H,.int .i64 d.T,.int .i64 d.R] 33)) (by kernel_rfl) (by kernel_rfl) (by first|exact Below.refl _ _|exact hD) ?_
  repeat (go_big_quiet_step ((first
   | (go_at_call 79;with_reducible exact calls_sub_same (wireLength_any m _ (by omega) (by omega)))
   | (go_at_call 78;with_reducible exact calls_sub (tileStep_is HP.out HTI.out (by omega) (by omega) _)))))
  refine wpQuiet_nil ?_
  rintro _ ⟨⟨w2,hD⟩,rfl⟩
  (try dsimp only)
  clear hsub hsc
  go_wp2_with fail
  go_ret
  exact ⟨ret_bool (by rw [HR.out,HK.out,if_neg (by omega),if_neg (by omega),HP.out]),below_tr (below_new (Below.refl _ _) _) hD⟩
theorem prouteNodeOk_any (d:Dev) (n:Int) (w:World) :
  Calls Try.prog 49 #[.agg #[.int .i64 d.W,.int .i64 d.H,.int .i64 d.T,.int .i64 d.R],.int .i64 n] w fun e w'=>e = .returned (.bool (nodeOk d n))∧Below w.heap.size w w':=by
 cases hn:nodeIn d n with
 | false=>exact prouteNodeOk_out d n w hn
 | true=>exact prouteNodeOk_in d n w hn
end Go.Proofs.Ytignkfhdkcgkgaa
