/- Routing nodes of the program: pins, wires, which nodes exist. -/
import Derived.Test.YtofihjoanjkdmaaGreatEmpty
import Derived.Test.YtofihjoanjkdmaaGreatQb
import Derived.Test.YtofihjoanjkdmaaGreatRt4
namespace Go.Proofs.YtofihjoanjkdmaaGreat
set_option maxHeartbeats 2000000
set_option maxRecDepth 100000
open Go.RowKit
theorem uB (k:Int) (w:World) :
  Calls Tryz.prog 258 #[.int .i64 k] w fun e w'=>e = .returned (.int .i64 (jA k))/\w=w':=by
 by_cases h0:k=0
 ·subst h0
  go_enter Tryz.func258,Tryz.ntmps258
  go_wp2
  go_ret
  exact ⟨rfl,rfl⟩
 by_cases h1:k=1
 ·subst h1
  go_enter Tryz.func258,Tryz.ntmps258
  go_wp2
  go_ret
  exact ⟨rfl,rfl⟩
 by_cases h2:k=2
 ·subst h2
  go_enter Tryz.func258,Tryz.ntmps258
  go_wp2
  go_ret
  exact ⟨rfl,rfl⟩
 have g:(k==0)=false:=by simpa using h0
 have e1:(k==1)=false:=by simpa using h1
 have e2:(k==2)=false:=by simpa using h2
 go_enter Tryz.func258,Tryz.ntmps258
 go_wp2
 go_ret
 exact ⟨aL (by simp [jA,h0,h1,h2]),rfl⟩
theorem qQ (k:Int) (w:World) :
  Calls Tryz.prog 255 #[.int .i64 k] w fun e w'=>e = .returned (.int .i64 (jA k))/\w=w':=by
 by_cases h0:k=0
 ·subst h0
  go_enter Tryz.func255,Tryz.ntmps255
  go_wp2
  go_ret
  exact ⟨rfl,rfl⟩
 by_cases h1:k=1
 ·subst h1
  go_enter Tryz.func255,Tryz.ntmps255
  go_wp2
  go_ret
  exact ⟨rfl,rfl⟩
 by_cases h2:k=2
 ·subst h2
  go_enter Tryz.func255,Tryz.ntmps255
  go_wp2
  go_ret
  exact ⟨rfl,rfl⟩
 have g:(k==0)=false:=by simpa using h0
 have e1:(k==1)=false:=by simpa using h1
 have e2:(k==2)=false:=by simpa using h2
 go_enter Tryz.func255,Tryz.ntmps255
 go_wp2
 go_ret
 exact ⟨aL (by simp [jA,h0,h1,h2]),rfl⟩
theorem sM (k:Int) (w:World) :
  Calls Tryz.prog 259 #[.int .i64 k] w fun e w'=>e = .returned (.int .i64 (eQ k))/\w=w':=by
 by_cases h0:k=0
 ·subst h0
  go_enter Tryz.func259,Tryz.ntmps259
  go_wp2
  go_ret
  exact ⟨rfl,rfl⟩
 by_cases h1:k=1
 ·subst h1
  go_enter Tryz.func259,Tryz.ntmps259
  go_wp2
  go_ret
  exact ⟨rfl,rfl⟩
 by_cases h2:k=2
 ·subst h2
  go_enter Tryz.func259,Tryz.ntmps259
  go_wp2
  go_ret
  exact ⟨rfl,rfl⟩
 have g:(k==0)=false:=by simpa using h0
 have e1:(k==1)=false:=by simpa using h1
 have e2:(k==2)=false:=by simpa using h2
 go_enter Tryz.func259,Tryz.ntmps259
 go_wp2
 go_ret
 exact ⟨aL (by simp [eQ,h0,h1,h2]),rfl⟩
theorem ku (k:Int) (w:World) :
  Calls Tryz.prog 233 #[.int .i64 k] w fun e w'=>e = .returned (.int .i64 (eQ k))/\w=w':=by
 by_cases h0:k=0
 ·subst h0
  go_enter Tryz.func233,Tryz.ntmps233
  go_wp2
  go_ret
  exact ⟨rfl,rfl⟩
 by_cases h1:k=1
 ·subst h1
  go_enter Tryz.func233,Tryz.ntmps233
  go_wp2
  go_ret
  exact ⟨rfl,rfl⟩
 by_cases h2:k=2
 ·subst h2
  go_enter Tryz.func233,Tryz.ntmps233
  go_wp2
  go_ret
  exact ⟨rfl,rfl⟩
 have g:(k==0)=false:=by simpa using h0
 have e1:(k==1)=false:=by simpa using h1
 have e2:(k==2)=false:=by simpa using h2
 go_enter Tryz.func233,Tryz.ntmps233
 go_wp2
 go_ret
 exact ⟨aL (by simp [eQ,h0,h1,h2]),rfl⟩
theorem eH (k:Int) (w:World) (h0:0<=k) (h1:k<=1099511627776) :
  Calls Tryz.prog 232 #[.int .i64 k] w fun e w'=>e = .returned (.int .i64 (bR k))/\w=w':=by
 unfold bR
 go_enter Tryz.func232,Tryz.ntmps232
 go_wp2
 go_ret
 exact ⟨rfl,rfl⟩
theorem rM (d:Dev) (t:Int) (w:World) :
  Calls Tryz.prog 216 #[.agg (dv d),.int .i64 t] w fun e w'=>e = .returned (.bool (az d t))/\Below w.heap.size w w':=by
 go_enter Tryz.func216,Tryz.ntmps216
 go_wp2_with fail
 refine (gy d _).mono ?_
 rintro e I ⟨rfl,j⟩
 have u:=Hd (aA (aD (Below.refl _ _) _) j)
 obtain ⟨hcc,D⟩:=bG j
 clear j
 cases g:dZ d with
 | false =>
  have q:=Hd g
  clear g
  go_wp2_with fail
  go_ret
  exact ⟨cK (by simp [az,q.out]),u.out⟩
 | true =>
  obtain ⟨H,B,z⟩:=pM g
  obtain ⟨q,G⟩:=hd2 g H
  clear g
  go_wp2_with (go_at_call 93;refine (aM _ _ _ _).mono ?_;rintro e w' ⟨rfl,rfl⟩)
  go_ret
  refine ⟨cK ?_,u.out⟩
  rw [Bool.eq_iff_iff,aU,aV,q.out,G.out]
  simp only [true_and]
  omega
theorem bT {n lo hi:Int} {b:Bool} (h:inR n lo hi=b) (w:World):Calls Tryz.prog 93 #[.int .i64 n,.int .i64 lo,.int .i64 hi] w fun e w'=>e = .returned (.bool b)/\w=w':=by
 have:=aM n lo hi w
 rwa [h] at this
theorem FV {d:Dev} {t r s:Int} (ht:az d t=true) (h0:0<=s) (h1:s<=6):-6<=stX d t r s/\stX d t r s<=12/\-6<=stY d t r s/\stY d t r s<=12:=by
 obtain ⟨a,b,c,e,_⟩:=pX ht
 have:=ay (aV.1 ht).1
 unfold stX stY
 refine ⟨?_,?_,?_,?_⟩ <;> repeat' split
 all_goals omega
theorem xk (d:Dev) (t r s:Int) (w:World) (ht:az d t=true) (h0:0<=s) (h1:s<=6) :
  Calls Tryz.prog 260 #[.agg (dv d),.int .i64 t,.int .i64 r,.int .i64 s] w fun e w'=>e = .returned (.int .i64 (av d t r s))/\Below w.heap.size w w':=by
 have Z:=(aV.1 ht).1
 have Q:=(aV.1 ht).2.1
 have ak:=(aV.1 ht).2.2
 have ai:=fM Z
 obtain ⟨am,al,ao,ah,_⟩:=ay Z
 obtain ⟨x0,x1,y0,y1,-⟩:=pX ht
 have aj:=FV (r:=r) ht h0 h1
 have e0:¬d.W=0:=by omega
 have e1:t.tmod d.W=t % d.W:=Int.tmod_eq_emod_of_nonneg Q
 have e2:IntKind.i64.wrap (t.tdiv d.W)=t / d.W:=IntWalk.i64_quo _ _ ⟨Q,by omega,by omega⟩
 have G:=Hd (show nZ d t r s=(inR (stX d t r s) 0 (d.W - 1) && inR (stY d t r s) 0 (d.H - 1)) from rfl)
 have I:=Hd (show av d t r s=if nZ d t r s=true then stY d t r s * d.W+stX d t r s else -1 from rfl)
 have HX:Hid (stX d t r s=if r=0 then t % d.W+s else if r=2 then t % d.W - s else t % d.W):=rfl
 have HY:Hid (stY d t r s=if r=1 then t / d.W+s else if r=0 then t / d.W else if r=2 then t / d.W else t / d.W - s):=rfl
 have R:=Hd (fun (h:0<=stY d t r s/\stY d t r s<=d.H - 1)=>jc h.1 (show stY d t r s<=5 by omega) (show 0<=d.W by omega) (show d.W<=6 by omega))
 generalize stX d t r s=X at *
 generalize stY d t r s=Y at *
 generalize av d t r s=P at *
 generalize nZ d t r s=B at *
 clear ht Z
 have K:r=0∨r=1∨r=2∨(¬r=0/\¬r=1/\¬r=2):=by omega
 have D:(r=0→X=t % d.W+s)/\(r=2→X=t % d.W - s)/\(¬r=0/\¬r=2→X=t % d.W):=by
  rw [HX.out]
  refine ⟨fun h=>if_pos h,fun h=>by rw [if_neg (by omega),if_pos h],fun h=>by rw [if_neg h.1,if_neg h.2]⟩
 have z:(r=1→Y=t / d.W+s)/\(r=0∨r=2→Y=t / d.W)/\(¬r=0/\¬r=1/\¬r=2→Y=t / d.W - s):=by
  rw [HY.out]
  refine ⟨fun h=>if_pos h,fun h=>?_,fun h=>by rw [if_neg h.2.1,if_neg h.1,if_neg h.2.2]⟩
  rcases h with h|h
  ·rw [if_neg (by omega),if_pos h]
  rw [if_neg (by omega),if_neg (by omega),if_pos h]
 clear HX HY
 rcases K with h|h|h|⟨V,g1,U⟩
 ·obtain rfl:=D.1 h
  obtain rfl:=z.2.1 (.inl h)
  subst h
  clear D z
  go_enter Tryz.func260,Tryz.ntmps260
  go_wp2_with fail
  go_quiet (fail)
  clear e1 e2
  cases u:inR (t % d.W+s) 0 (d.W - 1) with
  | false =>
   have g:=Hd u
   clear u
   go_wp2_with (go_at_call 93;refine (bT g.out _).mono ?_;rintro e w' ⟨rfl,rfl⟩)
   go_ret
   exact ⟨aL (by rw [I.out,G.out,g.out];rfl),bB (aD (Below.refl _ _) _) _⟩
  | true =>
   have g:=Hd u
   clear u
   cases q:inR (t / d.W) 0 (d.H - 1) with
   | false =>
    have j:=Hd q
    clear q
    go_wp2_with (go_at_call 93;(first|((with_reducible refine (bT g.out _).mono ?_);rintro e w' ⟨rfl,rfl⟩)|((with_reducible refine (bT j.out _).mono ?_);rintro e w' ⟨rfl,rfl⟩)))
    go_ret
    exact ⟨aL (by rw [I.out,G.out,g.out,j.out];rfl),bB (aD (Below.refl _ _) _) _⟩
   | true =>
    have j:=Hd q
    have hM:=R.out (aU.1 q)
    have J:=(aU.1 g.out)
    clear q
    go_wp2_with (go_at_call 93;(first|((with_reducible refine (bT g.out _).mono ?_);rintro e w' ⟨rfl,rfl⟩)|((with_reducible refine (bT j.out _).mono ?_);rintro e w' ⟨rfl,rfl⟩)))
    go_ret
    exact ⟨aL (by rw [I.out,G.out,g.out,j.out];first|rfl|(simp;done)|(simp;omega)),bB (aD (Below.refl _ _) _) _⟩
 ·obtain rfl:=D.2.2 ⟨by omega,by omega⟩
  obtain rfl:=z.1 h
  subst h
  clear D z
  go_enter Tryz.func260,Tryz.ntmps260
  go_wp2_with fail
  go_quiet (fail)
  clear e1 e2
  cases u:inR (t % d.W) 0 (d.W - 1) with
  | false =>
   have g:=Hd u
   clear u
   go_wp2_with (go_at_call 93;refine (bT g.out _).mono ?_;rintro e w' ⟨rfl,rfl⟩)
   go_ret
   exact ⟨aL (by rw [I.out,G.out,g.out];rfl),bB (aD (Below.refl _ _) _) _⟩
  | true =>
   have g:=Hd u
   clear u
   cases q:inR (t / d.W+s) 0 (d.H - 1) with
   | false =>
    have j:=Hd q
    clear q
    go_wp2_with (go_at_call 93;(first|((with_reducible refine (bT g.out _).mono ?_);rintro e w' ⟨rfl,rfl⟩)|((with_reducible refine (bT j.out _).mono ?_);rintro e w' ⟨rfl,rfl⟩)))
    go_ret
    exact ⟨aL (by rw [I.out,G.out,g.out,j.out];rfl),bB (aD (Below.refl _ _) _) _⟩
   | true =>
    have j:=Hd q
    have hM:=R.out (aU.1 q)
    have J:=(aU.1 g.out)
    clear q
    go_wp2_with (go_at_call 93;(first|((with_reducible refine (bT g.out _).mono ?_);rintro e w' ⟨rfl,rfl⟩)|((with_reducible refine (bT j.out _).mono ?_);rintro e w' ⟨rfl,rfl⟩)))
    go_ret
    exact ⟨aL (by rw [I.out,G.out,g.out,j.out];first|rfl|(simp;done)|(simp;omega)),bB (aD (Below.refl _ _) _) _⟩
 ·obtain rfl:=D.2.1 h
  obtain rfl:=z.2.1 (.inr h)
  subst h
  clear D z
  go_enter Tryz.func260,Tryz.ntmps260
  go_wp2_with fail
  go_quiet (fail)
  clear e1 e2
  cases u:inR (t % d.W - s) 0 (d.W - 1) with
  | false =>
   have g:=Hd u
   clear u
   go_wp2_with (go_at_call 93;refine (bT g.out _).mono ?_;rintro e w' ⟨rfl,rfl⟩)
   go_ret
   exact ⟨aL (by rw [I.out,G.out,g.out];rfl),bB (aD (Below.refl _ _) _) _⟩
  | true =>
   have g:=Hd u
   clear u
   cases q:inR (t / d.W) 0 (d.H - 1) with
   | false =>
    have j:=Hd q
    clear q
    go_wp2_with (go_at_call 93;(first|((with_reducible refine (bT g.out _).mono ?_);rintro e w' ⟨rfl,rfl⟩)|((with_reducible refine (bT j.out _).mono ?_);rintro e w' ⟨rfl,rfl⟩)))
    go_ret
    exact ⟨aL (by rw [I.out,G.out,g.out,j.out];rfl),bB (aD (Below.refl _ _) _) _⟩
   | true =>
    have j:=Hd q
    have hM:=R.out (aU.1 q)
    have J:=(aU.1 g.out)
    clear q
    go_wp2_with (go_at_call 93;(first|((with_reducible refine (bT g.out _).mono ?_);rintro e w' ⟨rfl,rfl⟩)|((with_reducible refine (bT j.out _).mono ?_);rintro e w' ⟨rfl,rfl⟩)))
    go_ret
    exact ⟨aL (by rw [I.out,G.out,g.out,j.out];first|rfl|(simp;done)|(simp;omega)),bB (aD (Below.refl _ _) _) _⟩
 obtain rfl:=D.2.2 ⟨V,U⟩
 obtain rfl:=z.2.2 ⟨V,g1,U⟩
 clear D z
 have q0:(r==0)=false:=by simpa using V
 have q1:(r==1)=false:=by simpa using g1
 have q2:(r==2)=false:=by simpa using U
 clear V g1 U
 go_enter Tryz.func260,Tryz.ntmps260
 go_wp2_with fail
 go_quiet (fail)
 clear e1 e2
 cases u:inR (t % d.W) 0 (d.W - 1) with
 | false =>
  have g:=Hd u
  clear u
  go_wp2_with (go_at_call 93;refine (bT g.out _).mono ?_;rintro e w' ⟨rfl,rfl⟩)
  go_ret
  exact ⟨aL (by rw [I.out,G.out,g.out];rfl),bB (aD (Below.refl _ _) _) _⟩
 | true =>
  have g:=Hd u
  clear u
  cases q:inR (t / d.W - s) 0 (d.H - 1) with
  | false =>
   have j:=Hd q
   clear q
   go_wp2_with (go_at_call 93;(first|((with_reducible refine (bT g.out _).mono ?_);rintro e w' ⟨rfl,rfl⟩)|((with_reducible refine (bT j.out _).mono ?_);rintro e w' ⟨rfl,rfl⟩)))
   go_ret
   exact ⟨aL (by rw [I.out,G.out,g.out,j.out];rfl),bB (aD (Below.refl _ _) _) _⟩
  | true =>
   have j:=Hd q
   have hM:=R.out (aU.1 q)
   have J:=(aU.1 g.out)
   clear q
   go_wp2_with (go_at_call 93;(first|((with_reducible refine (bT g.out _).mono ?_);rintro e w' ⟨rfl,rfl⟩)|((with_reducible refine (bT j.out _).mono ?_);rintro e w' ⟨rfl,rfl⟩)))
   go_ret
   exact ⟨aL (by rw [I.out,G.out,g.out,j.out];first|rfl|(simp;done)|(simp;omega)),bB (aD (Below.refl _ _) _) _⟩
theorem iD (d:Dev) (w:World) (h0:0<=d.T) (h1:d.T<=1099511627776) :
  Calls Tryz.prog 148 #[.agg (dv d)] w fun e w'=>e = .returned (.int .i64 (aQ d))/\Below w.heap.size w w':=by
 unfold aQ
 go_enter Tryz.func148,Tryz.ntmps148
 go_wp2
 go_ret
 exact ⟨rfl,aD (Below.refl _ _) _⟩
theorem nU (d:Dev) (w:World) (j:dZ d=true) :
  Calls Tryz.prog 190 #[.agg (dv d)] w fun e w'=>e = .returned (.int .i64 (iJ d))/\Below w.heap.size w w':=by
 have B:=ay j
 have z:=fM j
 have D:=eT j
 have hn:=iG j
 have u:=Hd (show iJ d=d.W * d.H * aQ d from rfl)
 rw [u.out] at hn
 have g:Below (w.alloc (.cells (dv d) 36)).heap.size (w.alloc (.cells (dv d) 36)) (w.alloc (.cells (dv d) 36)):=Below.refl _ _
 go_enter Tryz.func190,Tryz.ntmps190
 go_wp2_with fail
 go_region_held3 (fun w'=>Below (w.alloc (.cells (dv d) 36)).heap.size (w.alloc (.cells (dv d) 36)) w'/\∀b o,b<(w.alloc (.cells (dv d) 36)).heap.size→w'.cell? ⟨b,o,none⟩=(w.alloc (.cells (dv d) 36)).cell? ⟨b,o,none⟩)
  (first|exact ⟨g,(bG g).1⟩|exact ⟨g.drew,(bG g.drew).1⟩)
  (first
   | (go_at_call 148;(with_reducible refine (iD d _ (by omega) (by omega)).mono ?_);rintro e G ⟨rfl,q⟩;(first|(with_reducible replace g:=aA g q)|(with_reducible replace g:=aA g.drew q));clear q))
 all_goals
  go_wp2_with fail
  go_ret
  exact ⟨aL (by rw [IntWalk.i64_in (d.W * d.H) (by omega),IntWalk.i64_in _ (by omega),u.out]),aA (aD (Below.refl _ _) _) g⟩
theorem jO (d:Dev) (n:Int) (w:World) (hn:fD d n=true) :
  Calls Tryz.prog 72 #[.agg (dv d),.int .i64 n] w fun e w'=>e = .returned (.tuple #[.int .i64 (n / aQ d),.int .i64 (n % aQ d)])/\Below w.heap.size w w':=by
 obtain ⟨j,u,n1,G,D,H,B⟩:=jG hn
 have K:=ay j
 have z:=fM j
 have I:=eT j
 have J:¬aQ d=0:=by omega
 have e1:n.tmod (aQ d)=n % aQ d:=Int.tmod_eq_emod_of_nonneg u
 have e2:IntKind.i64.wrap (n.tdiv (aQ d))=n / aQ d:=IntWalk.i64_quo _ _ ⟨u,by omega,by omega⟩
 have g:Below (w.alloc (.cells (dv d) 36)).heap.size (w.alloc (.cells (dv d) 36)) (w.alloc (.cells (dv d) 36)):=Below.refl _ _
 clear j hn
 go_enter Tryz.func72,Tryz.ntmps72
 go_wp2_with fail
 go_region_held3 (fun w'=>Below (w.alloc (.cells (dv d) 36)).heap.size (w.alloc (.cells (dv d) 36)) w'/\∀b o,b<(w.alloc (.cells (dv d) 36)).heap.size→w'.cell? ⟨b,o,none⟩=(w.alloc (.cells (dv d) 36)).cell? ⟨b,o,none⟩)
  (first|exact ⟨g,(bG g).1⟩|exact ⟨g.drew,(bG g.drew).1⟩)
  (first
   | (go_at_call 148;(with_reducible refine (iD d _ (by omega) (by omega)).mono ?_);rintro e Q ⟨rfl,q⟩;(first|(with_reducible replace g:=aA g q)|(with_reducible replace g:=aA g.drew q));clear q))
 all_goals
  go_wp2_with fail
  go_ret2
  exact ⟨rfl,aA (aD (Below.refl _ _) _) g⟩
theorem rO (d:Dev) (n:Int) (w:World) (hn:fD d n=true) (R:7<=n % aQ d) :
  Calls Tryz.prog 231 #[.agg (dv d),.int .i64 n] w fun e w'=>e = .returned (.tuple #[.int .i64 (n / aQ d),.int .i64 ((n % aQ d - 7) / d.T),.int .i64 ((n % aQ d - 7) % d.T),.bool true])/\Below w.heap.size w w':=by
 obtain ⟨u,n0,n1,J,H,Q,G⟩:=jG hn
 have z:=Hd hn
 have Y:=ay u
 have U:=eT u
 clear hn
 go_enter Tryz.func231,Tryz.ntmps231
 go_wp2_with fail
 refine (jO d n _ z.out).mono ?_
 rintro e W ⟨rfl,g⟩
 have j:=g.size
 simp only [World.size_alloc] at j
 obtain ⟨hcc,K⟩:=bG g
 have I:=Hd (aA (aD (Below.refl _ _) _) g)
 clear g
 generalize hk:n % aQ d=k at *
 generalize hq:n / aQ d=q at *
 obtain ⟨D,B⟩:=hd2 hk hq
 clear hk hq z
 have V:¬d.T=0:=by omega
 have e1:(k - 7).tmod d.T=(k - 7) % d.T:=Int.tmod_eq_emod_of_nonneg (by omega)
 have e2:IntKind.i64.wrap ((k - 7).tdiv d.T)=(k - 7) / d.T:=IntWalk.i64_quo _ _ ⟨by omega,by omega,by omega⟩
 have e3:IntKind.i64.wrap (k - 7)=k - 7:=IntWalk.i64_in _ (by omega)
 have Z:decide (k≥7)=true:=by simpa using R
 go_wp2_with fail
 go_quiet (fail)
 go_wp2_with fail
 exact bodyPost_ret (v := .tuple #[.int .i64 q,.int .i64 ((k - 7) / d.T),.int .i64 ((k - 7) % d.T),.bool true]) (by simp [results,Tryz.results231,go_sem]) rfl ⟨by rw [D.out,B.out],bB I.out _⟩
theorem jP {d:Dev} {t:Int} {b:Bool} (h:az d t=b) (w:World):Calls Tryz.prog 216 #[.agg (dv d),.int .i64 t] w fun e w'=>e = .returned (.bool b)/\Below w.heap.size w w':=by
 have:=rM d t w
 rwa [h] at this
theorem iL {d:Dev} {t r s p:Int} (h:av d t r s=p) (ht:az d t=true) (h0:0<=s) (h1:s<=6) (w:World):Calls Tryz.prog 260 #[.agg (dv d),.int .i64 t,.int .i64 r,.int .i64 s] w fun e w'=>e = .returned (.int .i64 p)/\Below w.heap.size w w':=by
 have:=xk d t r s w ht h0 h1
 rwa [h] at this
theorem uC (d:Dev) (t p:Int) (w:World) :
  Calls Tryz.prog 224 #[.agg (dv d),.int .i64 t,.int .i64 p] w fun e w'=>e = .returned (.int .i64 (ed d t p))/\Below w.heap.size w w':=by
 have H:Hid (ed d t p=if az d t=true/\0<=p/\p<eQ (bH d t) then t * aQ d+5+p else -1):=rfl
 go_enter Tryz.func224,Tryz.ntmps224
 go_wp2_with fail
 cases ht:az d t with
 | false =>
  refine (jP ht _).mono ?_
  rintro e w1 ⟨rfl,j⟩
  have G:=Hd (aA (aD (Below.refl _ _) _) j)
  have I:=Hd ht
  clear j ht
  go_wp2_with fail
  go_ret
  exact ⟨aL (by rw [H.out,if_neg (by rw [I.out];simp)]),G.out⟩
 | true =>
  refine (jP ht _).mono ?_
  rintro e w1 ⟨rfl,j⟩
  have G:=Hd (aA (aD (Below.refl _ _) _) j)
  have D1:=Hd j
  obtain ⟨hcc,q⟩:=bG j
  have J:=j.size
  simp only [World.size_alloc] at J
  obtain ⟨u,z,ai⟩:=aV.1 ht
  have Z:=fM u
  have hT:=ay u
  have hp:=eT u
  have al:=iR d t
  have HM:=Hd (jc z (show t<=35 by omega) (show 0<=aQ d by omega) hp.2)
  obtain ⟨I,HD⟩:=hd2 ht u
  clear j ht u
  go_wp2_with fail
  refine (mP d t _ HD.out z (by omega)).mono ?_
  rintro e w2 ⟨rfl,D⟩
  have W:=Hd (aA G.out D)
  have D2:=Hd (aA D1.out D)
  have ag:=D.size
  clear D hcc q
  obtain ⟨hcc,q⟩:=bG D2.out
  generalize R:bH d t=K at *
  have HK:=Hd R
  clear R
  go_wp2_with (go_at_call 259;refine (sM _ _).mono ?_;rintro e w' ⟨rfl,rfl⟩)
  generalize V:eQ K=Q at *
  have HQ:=Hd V
  clear V
  have e3:IntKind.i64.wrap (Q - 1)=Q - 1:=IntWalk.i64_in _ (by omega)
  cases g:inR p 0 (Q - 1) with
  | false =>
   have B:=Hd g
   clear g
   go_wp2_with (go_at_call 93;refine (bT B.out _).mono ?_;rintro e w' ⟨rfl,rfl⟩)
   go_ret
   exact ⟨aL (by rw [H.out,if_neg];rintro ⟨_,h0,h1⟩;have:=qc.1 B.out;omega),W.out⟩
  | true =>
   have B:=Hd g
   have hi:=aU.1 g
   clear g
   go_wp2_with (go_at_call 93;refine (bT B.out _).mono ?_;rintro e w' ⟨rfl,rfl⟩)
   refine (iD d _ (by omega) (by omega)).mono ?_
   rintro e w3 ⟨rfl,U⟩
   have Y:=Hd (aA W.out U)
   have hM:=HM.out
   clear U hcc q e3
   go_wp2_with fail
   go_ret
   exact ⟨aL (by rw [H.out,if_pos ⟨I.out,by omega,by omega⟩]),Y.out⟩
theorem Ep {d:Dev} {t r k:Int} (h:az d t=false):Hid (¬(az d t=true/\(0<=r/\r<=3)/\(0<=k/\k<d.T)/\0<=av d t r (bR k))):=by
 show ¬_
 rw [h];simp
theorem zL (d:Dev) (t r k:Int) (w:World) (ht:az d t=false) :
  Calls Tryz.prog 262 #[.agg (dv d),.int .i64 t,.int .i64 r,.int .i64 k] w fun e w'=>e = .returned (.int .i64 (eD d t r k))/\Below w.heap.size w w':=by
 have H:Hid (eD d t r k=if az d t=true/\(0<=r/\r<=3)/\(0<=k/\k<d.T)/\0<=av d t r (bR k) then t * aQ d+7+r * d.T+k else -1):=rfl
 have g:=Ep (r:=r) (k:=k) ht
 obtain ⟨B,u⟩:=hd2 ht g
 have G:=u
 have D:=u
 clear ht
 go_enter Tryz.func262,Tryz.ntmps262
 go_wp2_with fail
 have j:=aX (w.alloc (.cells (dv d) 36))
 have q:=aP (w.alloc (.cells (dv d) 36))
 refine fP (w.alloc (.cells (dv d) 36)) (by kernel_rfl) (by kernel_rfl) (by first|exact Below.refl _ _|exact z) ?_
 repeat (go_big_quiet_step ((first
  | (go_at_call 216;with_reducible exact aN (jP B.out _))
   | (go_at_call 93;(first|with_reducible exact aR (bT u.out _)|with_reducible exact aR (bT G.out _)))
   | (go_at_call 232;with_reducible exact aR (eH k _ (by omega) (by omega)))
   | (go_at_call 260;with_reducible exact aN (iL D.out B.out (by omega) (by omega) _))
   | (go_at_call 148;with_reducible exact aN (iD d _ (by omega) (by omega))))))
 refine wpQuiet_nil ?_
 rintro _ ⟨⟨I,z⟩,rfl⟩
 (try dsimp only)
 clear j q
 all_goals
  go_wp2_with fail
  go_ret
  exact ⟨aL (by rw [H.out,if_neg g.out]),aA (aD (Below.refl _ _) _) z⟩
theorem zM (d:Dev) (t r k:Int) (w:World) (ht:az d t=true) (hr:inR r 0 3=false) :
  Calls Tryz.prog 262 #[.agg (dv d),.int .i64 t,.int .i64 r,.int .i64 k] w fun e w'=>e = .returned (.int .i64 (eD d t r k))/\Below w.heap.size w w':=by
 have I:Hid (eD d t r k=if az d t=true/\(0<=r/\r<=3)/\(0<=k/\k<d.T)/\0<=av d t r (bR k) then t * aQ d+7+r * d.T+k else -1):=rfl
 have g:Hid (¬(az d t=true/\(0<=r/\r<=3)/\(0<=k/\k<d.T)/\0<=av d t r (bR k))):=by rintro ⟨_,h,_⟩;have:=qc.1 hr;omega
 have z:=(aV.1 ht).1
 have J:=ay z
 obtain ⟨B,H⟩:=hd2 ht hr
 have G:=g
 have D:=g
 clear ht hr z
 go_enter Tryz.func262,Tryz.ntmps262
 go_wp2_with fail
 have j:=aX (w.alloc (.cells (dv d) 36))
 have q:=aP (w.alloc (.cells (dv d) 36))
 refine fP (w.alloc (.cells (dv d) 36)) (by kernel_rfl) (by kernel_rfl) (by first|exact Below.refl _ _|exact u) ?_
 repeat (go_big_quiet_step ((first
  | (go_at_call 216;with_reducible exact aN (jP B.out _))
   | (go_at_call 93;(first|with_reducible exact aR (bT H.out _)|with_reducible exact aR (bT G.out _)))
   | (go_at_call 232;with_reducible exact aR (eH k _ (by omega) (by omega)))
   | (go_at_call 260;with_reducible exact aN (iL D.out B.out (by omega) (by omega) _))
   | (go_at_call 148;with_reducible exact aN (iD d _ (by omega) (by omega))))))
 refine wpQuiet_nil ?_
 rintro _ ⟨⟨K,u⟩,rfl⟩
 (try dsimp only)
 clear j q
 all_goals
  go_wp2_with fail
  go_ret
  exact ⟨aL (by rw [I.out,if_neg g.out]),aA (aD (Below.refl _ _) _) u⟩
theorem zN (d:Dev) (t r k:Int) (w:World) (ht:az d t=true) (hr:inR r 0 3=true) (hk:inR k 0 (d.T - 1)=false) :
  Calls Tryz.prog 262 #[.agg (dv d),.int .i64 t,.int .i64 r,.int .i64 k] w fun e w'=>e = .returned (.int .i64 (eD d t r k))/\Below w.heap.size w w':=by
 have I:Hid (eD d t r k=if az d t=true/\(0<=r/\r<=3)/\(0<=k/\k<d.T)/\0<=av d t r (bR k) then t * aQ d+7+r * d.T+k else -1):=rfl
 have g:Hid (¬(az d t=true/\(0<=r/\r<=3)/\(0<=k/\k<d.T)/\0<=av d t r (bR k))):=by rintro ⟨_,_,h,_⟩;have:=qc.1 hk;omega
 have z:=(aV.1 ht).1
 have J:=ay z
 have e3:IntKind.i64.wrap (d.T - 1)=d.T - 1:=IntWalk.i64_in _ (by omega)
 obtain ⟨B,H,G⟩:=hd3 ht hr hk
 have D:=g
 clear ht hr z hk
 go_enter Tryz.func262,Tryz.ntmps262
 go_wp2_with fail
 have j:=aX (w.alloc (.cells (dv d) 36))
 have q:=aP (w.alloc (.cells (dv d) 36))
 refine fP (w.alloc (.cells (dv d) 36)) (by kernel_rfl) (by kernel_rfl) (by first|exact Below.refl _ _|exact u) ?_
 repeat (go_big_quiet_step ((first
  | (go_at_call 216;with_reducible exact aN (jP B.out _))
   | (go_at_call 93;(first|with_reducible exact aR (bT H.out _)|with_reducible exact aR (bT G.out _)))
   | (go_at_call 232;with_reducible exact aR (eH k _ (by omega) (by omega)))
   | (go_at_call 260;with_reducible exact aN (iL D.out B.out (by omega) (by omega) _))
   | (go_at_call 148;with_reducible exact aN (iD d _ (by omega) (by omega))))))
 refine wpQuiet_nil ?_
 rintro _ ⟨⟨K,u⟩,rfl⟩
 (try dsimp only)
 clear j q
 all_goals
  go_wp2_with fail
  go_ret
  exact ⟨aL (by rw [I.out,if_neg g.out]),aA (aD (Below.refl _ _) _) u⟩
theorem zO (d:Dev) (t r k:Int) (w:World) (ht:az d t=true) (hr:inR r 0 3=true) (hk:inR k 0 (d.T - 1)=true) (hs:av d t r (bR k)<0) :
  Calls Tryz.prog 262 #[.agg (dv d),.int .i64 t,.int .i64 r,.int .i64 k] w fun e w'=>e = .returned (.int .i64 (eD d t r k))/\Below w.heap.size w w':=by
 have K:Hid (eD d t r k=if az d t=true/\(0<=r/\r<=3)/\(0<=k/\k<d.T)/\0<=av d t r (bR k) then t * aQ d+7+r * d.T+k else -1):=rfl
 have j:Hid (¬(az d t=true/\(0<=r/\r<=3)/\(0<=k/\k<d.T)/\0<=av d t r (bR k))):=by rintro ⟨_,_,_,h⟩;omega
 have B:=(aV.1 ht).1
 have Q:=ay B
 have J:=aU.1 hk
 have U:0<=bR k/\bR k<=6:=by unfold bR;omega
 have e3:IntKind.i64.wrap (d.T - 1)=d.T - 1:=IntWalk.i64_in _ (by omega)
 obtain ⟨P,u⟩:∃P,av d t r (bR k)=P:=⟨_,rfl⟩
 rw [u] at hs
 obtain ⟨D,I,H,G⟩:=hd4 ht hr hk u
 clear ht hr B hk u
 go_enter Tryz.func262,Tryz.ntmps262
 go_wp2_with fail
 have g:=aX (w.alloc (.cells (dv d) 36))
 have q:=aP (w.alloc (.cells (dv d) 36))
 refine fP (w.alloc (.cells (dv d) 36)) (by kernel_rfl) (by kernel_rfl) (by first|exact Below.refl _ _|exact z) ?_
 repeat (go_big_quiet_step ((first
  | (go_at_call 216;with_reducible exact aN (jP D.out _))
   | (go_at_call 93;(first|with_reducible exact aR (bT I.out _)|with_reducible exact aR (bT H.out _)))
   | (go_at_call 232;with_reducible exact aR (eH k _ (by omega) (by omega)))
   | (go_at_call 260;with_reducible exact aN (iL G.out D.out (by omega) (by omega) _))
   | (go_at_call 148;with_reducible exact aN (iD d _ (by omega) (by omega))))))
 refine wpQuiet_nil ?_
 rintro _ ⟨⟨R,z⟩,rfl⟩
 (try dsimp only)
 clear g q
 all_goals
  go_wp2_with fail
  go_ret
  exact ⟨aL (by rw [K.out,if_neg j.out]),aA (aD (Below.refl _ _) _) z⟩
theorem zP (d:Dev) (t r k:Int) (w:World) (ht:az d t=true) (hr:inR r 0 3=true) (hk:inR k 0 (d.T - 1)=true) (hs:0<=av d t r (bR k)) :
  Calls Tryz.prog 262 #[.agg (dv d),.int .i64 t,.int .i64 r,.int .i64 k] w fun e w'=>e = .returned (.int .i64 (eD d t r k))/\Below w.heap.size w w':=by
 have HO:Hid (eD d t r k=if az d t=true/\(0<=r/\r<=3)/\(0<=k/\k<d.T)/\0<=av d t r (bR k) then t * aQ d+7+r * d.T+k else -1):=rfl
 have D:=(aV.1 ht).1
 have J:=(aV.1 ht).2
 have hT:=ay D
 have U:=fM D
 have V:=eT D
 have Y:=aU.1 hk
 have q:=aU.1 hr
 have u:Hid (az d t=true/\(0<=r/\r<=3)/\(0<=k/\k<d.T)/\0<=av d t r (bR k)):=⟨ht,q,by omega,hs⟩
 have hL:0<=bR k/\bR k<=6:=by unfold bR;omega
 have e3:IntKind.i64.wrap (d.T - 1)=d.T - 1:=IntWalk.i64_in _ (by omega)
 have hM:=jc J.1 (show t<=35 by omega) (show 0<=aQ d by omega) V.2
 have I:=jc q.1 q.2 (show 0<=d.T by omega) (show d.T<=4 by omega)
 have z:=Hd (And.intro (IntWalk.wrap64_in (t * aQ d) (by omega)) (And.intro (IntWalk.wrap64_in (t * aQ d+7) (by omega)) (And.intro (IntWalk.wrap64_in (r * d.T) (by omega)) (And.intro (IntWalk.wrap64_in (t * aQ d+7+r * d.T) (by omega)) (IntWalk.wrap64_in (t * aQ d+7+r * d.T+k) (by omega))))))
 obtain ⟨P,H⟩:∃P,av d t r (bR k)=P:=⟨_,rfl⟩
 rw [H] at hs
 obtain ⟨G,R,K,Q⟩:=hd4 ht hr hk H
 have W:=u
 clear ht hr D hk H hM I
 go_enter Tryz.func262,Tryz.ntmps262
 go_wp2_with fail
 have g:=aX (w.alloc (.cells (dv d) 36))
 have j:=aP (w.alloc (.cells (dv d) 36))
 refine fP (w.alloc (.cells (dv d) 36)) (by kernel_rfl) (by kernel_rfl) (by first|exact Below.refl _ _|exact B) ?_
 repeat (go_big_quiet_step ((first
  | (go_at_call 216;with_reducible exact aN (jP G.out _))
   | (go_at_call 93;(first|with_reducible exact aR (bT R.out _)|with_reducible exact aR (bT K.out _)))
   | (go_at_call 232;with_reducible exact aR (eH k _ (by omega) (by omega)))
   | (go_at_call 260;with_reducible exact aN (iL Q.out G.out (by omega) (by omega) _))
   | (go_at_call 148;with_reducible exact aN (iD d _ (by omega) (by omega))))))
 refine wpQuiet_nil ?_
 rintro _ ⟨⟨Z,B⟩,rfl⟩
 (try dsimp only)
 clear g j
 all_goals
  go_wp2_with fail
  have g:=aX (w.alloc (.cells (dv d) 36))
 have j:=aP (w.alloc (.cells (dv d) 36))
 refine fP (w.alloc (.cells (dv d) 36)) (by kernel_rfl) (by kernel_rfl) (by first|exact Below.refl _ _|exact B) ?_
 repeat (go_big_quiet_step ((first
  | (go_at_call 216;with_reducible exact aN (jP G.out _))
   | (go_at_call 93;(first|with_reducible exact aR (bT R.out _)|with_reducible exact aR (bT K.out _)))
   | (go_at_call 232;with_reducible exact aR (eH k _ (by omega) (by omega)))
   | (go_at_call 260;with_reducible exact aN (iL Q.out G.out (by omega) (by omega) _))
   | (go_at_call 148;with_reducible exact aN (iD d _ (by omega) (by omega))))))
 refine wpQuiet_nil ?_
 rintro _ ⟨⟨Z,B⟩,rfl⟩
 (try dsimp only)
 clear g j
 all_goals
  go_wp2_with fail
  go_ret
  exact ⟨aL (by rw [HO.out,if_pos W.out];first|rfl|(rw [z.out.1,z.out.2.1,z.out.2.2.1,z.out.2.2.2.1,z.out.2.2.2.2])),aA (aD (Below.refl _ _) _) B⟩
theorem qm (d:Dev) (t r k:Int) (w:World) :
  Calls Tryz.prog 262 #[.agg (dv d),.int .i64 t,.int .i64 r,.int .i64 k] w fun e w'=>e = .returned (.int .i64 (eD d t r k))/\Below w.heap.size w w':=by
 cases ht:az d t with
 | false=>exact zL d t r k w ht
 | true =>
  cases hr:inR r 0 3 with
  | false=>exact zM d t r k w ht hr
  | true =>
   cases hk:inR k 0 (d.T - 1) with
   | false=>exact zN d t r k w ht hr hk
   | true =>
    rcases Int.lt_or_le (av d t r (bR k)) 0 with h|h
    ·exact zO d t r k w ht hr hk h
    exact zP d t r k w ht hr hk h
/-! ### which nodes exist -/
theorem tH (d:Dev) (n:Int) (w:World) (hn:fD d n=false) :
  Calls Tryz.prog 222 #[.agg (dv d),.int .i64 n] w fun e w'=>e = .returned (.bool (bI d n))/\Below w.heap.size w w':=by
 have D:Hid (bI d n=false):=by show _=false;unfold bI;rw [hn];rfl
 have I:=Hd hn
 clear hn
 go_enter Tryz.func222,Tryz.ntmps222
 go_wp2_with fail
 refine (gy d _).mono ?_
 rintro e Q ⟨rfl,j⟩
 have G:=Hd (aA (aD (Below.refl _ _) _) j)
 have q:=j.size
 simp only [World.size_alloc] at q
 obtain ⟨hcc,z⟩:=bG j
 clear j
 cases u:dZ d with
 | false =>
  go_wp2_with fail
  go_ret
  exact ⟨cK D.out.symm,G.out⟩
 | true =>
  have R:=iG u
  have B:=Hd u
  clear u
  go_wp2_with fail
  refine (nU d _ B.out).mono ?_
  rintro e U ⟨rfl,H⟩
  have K:=Hd (aA G.out H)
  clear H hcc z
  have e3:IntKind.i64.wrap (iJ d - 1)=iJ d - 1:=IntWalk.i64_in _ (by omega)
  have g:inR n 0 (iJ d - 1)=false:=by
   cases h:inR n 0 (iJ d - 1) with
   | false=>rfl
   | true =>
    have h1:=I.out
    have h2:=aU.1 h
    rw [fD,B.out,decide_eq_true (by omega),decide_eq_true (by omega)] at h1
    cases h1
  have J:=Hd g
  clear g
  go_wp2_with (go_at_call 93;refine (bT J.out _).mono ?_;rintro e w' ⟨rfl,rfl⟩)
  go_ret
  exact ⟨cK D.out.symm,K.out⟩
theorem uL (d:Dev) (n:Int) (w:World) (hn:fD d n=true) :
  Calls Tryz.prog 222 #[.agg (dv d),.int .i64 n] w fun e w'=>e = .returned (.bool (bI d n))/\Below w.heap.size w w':=by
 have HR:Hid (bI d n=sN d (n / aQ d) (n % aQ d)):=by show _=_;unfold bI;rw [hn];rfl
 have HN:=Hd hn
 obtain ⟨z,n0,n1,aF,au,aJ,ar⟩:=jG hn
 have hT:=ay z
 have hp:=eT z
 have ap:=fM z
 have hh:=iG z
 have ag:=Hd (lQ hn)
 have Y:=Hd z
 have e3:IntKind.i64.wrap (iJ d - 1)=iJ d - 1:=IntWalk.i64_in _ (by omega)
 have HI:Hid (inR n 0 (iJ d - 1)=true):=by
  show _=true
  unfold fD at hn
  simp only [Bool.and_eq_true,decide_eq_true_eq] at hn
  rw [aU]
  omega
 clear hn z
 go_enter Tryz.func222,Tryz.ntmps222
 go_wp2_with fail
 refine (gy d _).mono ?_
 rintro e w1 ⟨rfl,R⟩
 rw [Y.out]
 have B1:=Hd R
 have Z:=R.size
 simp only [World.size_alloc] at Z
 obtain ⟨hcc,g⟩:=bG R
 clear R
 go_wp2_with fail
 refine (nU d _ Y.out).mono ?_
 rintro e w2 ⟨rfl,b2⟩
 have B2:=Hd (aA B1.out b2)
 have aL:=b2.size
 clear b2 hcc g
 obtain ⟨hcc,g⟩:=bG B2.out
 go_wp2_with (go_at_call 93;refine (bT HI.out _).mono ?_;rintro e w' ⟨rfl,rfl⟩)
 refine (jO d n _ HN.out).mono ?_
 rintro e w3 ⟨rfl,b3⟩
 have I:=Hd (aA B2.out b3)
 have aS:=b3.size
 clear b3 hcc g e3
 obtain ⟨hcc,g⟩:=bG I.out
 have u:=Hd (fun (h7:7<=n % aQ d) (w:World)=>rO d n w HN.out h7)
 generalize hk:n % aQ d=k at *
 generalize hq:n / aQ d=q at *
 have hK:sN d q k=if k<5 then decide (k<jA (bH d q)) else if k<7 then decide (k - 5<eQ (bH d q)) else decide (0<=av d q ((k - 7) / d.T) (bR ((k - 7) % d.T))):=rfl
 have V:=Hd hK
 have aK:=Hd (And.intro hk hq)
 have az:=pJ d q
 have aM:=iR d q
 have D:=(fun w=>mP d q w Y.out (by omega) (by omega))
 have B:=Hd D
 generalize bH d q=K at *
 clear hK hk hq D
 have h3:k<5∨(¬k<5/\k<7)∨(¬k<5/\¬k<7):=by omega
 rcases h3 with h|⟨h,h'⟩|⟨h,h'⟩
 ·go_wp2_with fail
  refine (B.out _).mono ?_
  rintro e w4 ⟨rfl,j⟩
  have B4:=Hd (aA I.out j)
  clear j hcc g
  generalize H:jA K=Q at *
  have U:=Hd H
  clear H
  go_wp2_with (go_at_call 258;refine (uB _ _).mono ?_;rw [U.out];rintro e w' ⟨rfl,rfl⟩)
  go_ret
  exact ⟨cK (by rw [HR.out,V.out,if_pos (by omega)]),aA (aD (Below.refl _ _) _) B4.out⟩
 ·go_wp2_with fail
  refine (B.out _).mono ?_
  rintro e w4 ⟨rfl,j⟩
  have B4:=Hd (aA I.out j)
  clear j hcc g
  generalize H:eQ K=Q at *
  have U:=Hd H
  clear H
  go_wp2_with (go_at_call 259;refine (sM _ _).mono ?_;rw [U.out];rintro e w' ⟨rfl,rfl⟩)
  go_ret
  exact ⟨cK (by rw [HR.out,V.out,if_neg (by omega),if_pos (by omega)]),aA (aD (Below.refl _ _) _) B4.out⟩
 have aw:=Int.ediv_nonneg (show 0<=k - 7 by omega) (show 0<=d.T by omega)
 have ax:=Int.emod_nonneg (k - 7) (show d.T≠0 by omega)
 have aG:=Int.emod_lt_of_pos (k - 7) (show 0<d.T by omega)
 go_wp2_with fail
 refine (u.out (by omega) _).mono ?_
 rintro e w4 ⟨rfl,j⟩
 have J:=aA I.out j
 have aE:=j.size
 clear j hcc g
 obtain ⟨hcc,g⟩:=bG J
 generalize (k - 7) / d.T=r at *
 generalize (k - 7) % d.T=m at *
 have hL:0<=bR m/\bR m<=6:=by unfold bR;omega
 have HS:Hid (∃P,av d q r (bR m)=P):=⟨_,rfl⟩
 obtain ⟨P,hP⟩:=HS.out
 have HP:=Hd hP
 clear hP
 go_wp2_with fail
 clear hcc g
 have G:=aX (w.alloc (.cells (dv d) 36))
 have W:=aP (w.alloc (.cells (dv d) 36))
 refine fP (w.alloc (.cells (dv d) 36)) (by kernel_rfl) (by kernel_rfl) (by first|exact Below.refl _ _|exact J) ?_
 repeat (go_big_quiet_step ((first
  | (go_at_call 232;with_reducible exact aR (eH m _ (by omega) (by omega)))
  | (go_at_call 260;with_reducible exact aN (iL HP.out ag.out (by omega) (by omega) _)))))
 refine wpQuiet_nil ?_
 rintro _ ⟨⟨w2,J⟩,rfl⟩
 (try dsimp only)
 clear G W
 go_wp2_with fail
 go_ret
 exact ⟨cK (by rw [HR.out,V.out,if_neg (by omega),if_neg (by omega),HP.out]),aA (aD (Below.refl _ _) _) J⟩
theorem fV (d:Dev) (n:Int) (w:World) :
  Calls Tryz.prog 222 #[.agg (dv d),.int .i64 n] w fun e w'=>e = .returned (.bool (bI d n))/\Below w.heap.size w w':=by
 cases hn:fD d n with
 | false=>exact tH d n w hn
 | true=>exact uL d n w hn
theorem zQ {d:Dev} {t r k s:Int} (h:av d t ((r+2) % 4) s<0):mE (jk d t r k s)=[]:=by
 have:jk d t r k s=-1:=by
  unfold jk eD
  rw [if_neg]
  rintro ⟨h1,_⟩
  have:=(aV.1 h1).2.1
  omega
 rw [this];rfl
theorem kN {x:Int} (h:0<=x):mE x=[x]:=by unfold mE;rw [if_pos h]
theorem lL {x:Int} (h:x<0):mE x=[]:=by unfold mE;rw [if_neg (by omega)]
theorem xm {b q:Nat} {w w':World} {A j:Option Addr} {n c g u:Nat} {xs:List Int} {x:Int} (h:Own b w A n c xs) (k:Own q w' j g u (ins xs x)):g<=n+1:=by
 have:=qp xs x
 rw [h.len,k.len] at this
 exact this
theorem nV (d:Dev) (t pin r k:Int) (s:Nat):iM d t pin r k (s+1)=iM d t pin r k s++lv d t pin r k ((s:Int)+1):=by simp [iM,List.range_succ]
theorem nW (d:Dev) (t pin r:Int) (k:Nat):jC d t pin r (k+1)=jC d t pin r k++iM d t pin r (k:Int) (bR (k:Int)).toNat:=by simp [jC,List.range_succ]
theorem nX (d:Dev) (t pin:Int) (r:Nat):iH d t pin (r+1)=iH d t pin r++jC d t pin (r:Int) d.T.toNat:=by simp [iH,List.range_succ]
theorem Cf {d:Dev} {t pin r k:Int} {s:Nat} (g:pin<7) (h:tJ d pin k=false):iM d t pin r k s=[]:=by
 unfold iM
 rw [List.flatMap_eq_nil_iff]
 intro j _
 unfold lv lu
 rw [if_neg (show ¬7<=pin by omega),h]
 rfl
theorem Dy {d:Dev} {t pin r k s:Int} (g:pin<7) (h:tJ d pin k=true):lv d t pin r k s=mE (jk d t r k s):=by
 unfold lv lu
 rw [if_neg (show ¬7<=pin by omega),h,if_pos rfl]
theorem vI (d:Dev) (t pin:Int) (w:World) (ht:az d t=true) (p0:0<=pin) (p5:pin<5) :
  Calls Tryz.prog 236 #[.agg (dv d),.int .i64 t,.int .i64 pin] w fun e w'=>∃A n c,e = .returned (.slice A n c)/\Own w.heap.size w' A n c (asc (iH d t pin 4))/\Below w.heap.size w w':=by
 have HT:=Hd ht
 have aR:=ay (aV.1 ht).1
 have aE:=Hd (aD (Below.refl w.heap.size w) (.cells (dv d) 36))
 have aH:=fun r=>Hd (nX d t pin r)
 clear ht
 go_enter Tryz.func236,Tryz.ntmps236
 go_wp2_with fail
 go_loopw [7,8] (fun v i wr=>∃(r:Nat) (A:Option Addr) (n c:Nat),r<=4/\i = .int .i64 r/\v = .slice A n c/\n<=8 * r/\Own w.heap.size wr A n c (asc (iH d t pin r))/\Below (w.alloc (.cells (dv d) 36)).heap.size (w.alloc (.cells (dv d) 36)) wr) (fun _ i _=>4 - (intOf i).toNat)
 ·exact ⟨0,none,0,0,by omega,rfl,rfl,by omega,by simpa [iH,asc] using Own.nil,Below.refl _ _⟩
 obtain ⟨r,A,n,c,hr,rfl,rfl,hn,ho,j⟩:=hrel
 obtain ⟨D,B⟩:=hd2 ho j
 have hs:=j.size
 simp only [World.size_alloc] at hs
 clear ho j
 by_cases aQ:r<4
 ·have aP:decide ((r:Int)<4)=true:=by simp;omega
  go_wp2_with fail
  go_loopw [7,9] (fun v i wr=>∃(k:Nat) (A:Option Addr) (n c:Nat),(k:Int)<=d.T/\i = .int .i64 k/\v = .slice A n c/\n<=8 * r+2 * k/\Own w.heap.size wr A n c (asc (iH d t pin r++jC d t pin (r:Int) k))/\Below (w.alloc (.cells (dv d) 36)).heap.size (w.alloc (.cells (dv d) 36)) wr) (fun _ i _=>d.T.toNat - (intOf i).toNat)
  ·exact ⟨0,A,n,c,by omega,rfl,rfl,by omega,by simpa [jC] using D.out,B.out⟩
  obtain ⟨k,A,n,c,hk,rfl,rfl,hn,ho,j⟩:=hrel
  obtain ⟨D,B⟩:=hd2 ho j
  have hs:=j.size
  simp only [World.size_alloc] at hs
  obtain ⟨hcc,q⟩:=bG j
  have Z:=Hd (nW d t pin (r:Int) k)
  clear ho j
  by_cases ah:(k:Int)<d.T
  ·have a3:decide ((k:Int)<d.T)=true:=by simpa using ah
   have hL:bR (k:Int)=1+(k:Int) % 2:=rfl
   have aY:=Hd hL
   have aN:1<=bR (k:Int)/\bR (k:Int)<=2:=by rw [hL];omega
   clear hL
   have e1:((k:Int)+pin).tmod 2=((k:Int)+pin) % 2:=Int.tmod_eq_emod_of_nonneg (by omega)
   have ae:tJ d pin (k:Int)=!(decide (d.T>1) && decide (((k:Int)+pin) % 2=1)):=rfl
   have Q:=Hd ae
   clear ae
   have aX:0<=((k:Int)+pin) % 2/\((k:Int)+pin) % 2<=1:=by omega
   generalize ((k:Int)+pin) % 2=z at *
   by_cases J:d.T>1/\z=1
   ·obtain ⟨U,rfl⟩:=J
    have W:=Hd (Cf (d:=d) (t:=t) (pin:=pin) (r:=(r:Int)) (k:=(k:Int)) (s:=(bR (k:Int)).toNat) (by omega) (by rw [Q.out,decide_eq_true U];rfl))
    go_wp2_with fail
    go_roundw
    ·exact ⟨k+1,A,n,c,by omega,by go_num,rfl,by omega,by rw [Z.out,W.out,List.append_nil];exact D.out,B.out⟩
    simp [intOf];omega
   have al:Hid (tJ d pin (k:Int)=true):=by
    show _=true
    rw [Q.out]
    simp
    omega
   have aw:(d.T>1/\z=0)∨¬d.T>1:=by omega
   have I:=fun s=>Hd (nV d t pin (r:Int) (k:Int) s)
   have u:=fun s=>Hd (Dy (d:=d) (t:=t) (r:=(r:Int)) (k:=(k:Int)) (s:=s) (show pin<7 by omega) al.out)
   clear Q
   rcases aw with ⟨U,rfl⟩|U
   all_goals
    go_wp2_with fail
    go_loopw [7,10] (fun v i wr=>∃(s:Nat) (A:Option Addr) (n c:Nat),(s:Int)<=bR (k:Int)/\i = .int .i64 ((s:Int)+1)/\v = .slice A n c/\n<=8 * r+2 * k+s/\Own w.heap.size wr A n c (asc (iH d t pin r++jC d t pin (r:Int) k++iM d t pin (r:Int) (k:Int) s))/\Below (w.alloc (.cells (dv d) 36)).heap.size (w.alloc (.cells (dv d) 36)) wr) (fun _ i _=>4 - (intOf i).toNat)
    ·exact ⟨0,A,n,c,by omega,rfl,rfl,by omega,by simpa [iM] using D.out,B.out⟩
    obtain ⟨s,A,n,c,aO,rfl,rfl,hn,ho,j⟩:=hrel
    obtain ⟨D,B⟩:=hd2 ho j
    have hs:=j.size
    simp only [World.size_alloc] at hs
    clear hcc q
    obtain ⟨hcc,q⟩:=bG j
    clear ho j
    by_cases aU:(s:Int)+1<=bR (k:Int)
    ·generalize hP:av d t (((r:Int)+2) % 4) ((s:Int)+1)=P at *
     have HP:=Hd hP
     have aq:=kI (d:=d) (t:=t) (r:=((r:Int)+2) % 4) (s:=(s:Int)+1) (aV.1 HT.out).1
     rw [hP] at aq
     have a0:=fM (aV.1 HT.out).1
     clear hP
     generalize g:bR (k:Int)=L at *
     have H:=Hd g
     clear g
     go_wp2_with (go_at_call 232;refine (eH (k:Int) _ (by omega) (by omega)).mono ?_;rw [H.out];rintro e w' ⟨rfl,rfl⟩)
     refine (iL HP.out HT.out (by omega) (by omega) _).mono ?_
     rintro e w2 ⟨rfl,b2⟩
     have G:=Hd (aA B.out b2)
     have ag:=Hd (D.out.below b2)
     have a1:=b2.size
     clear b2 hcc q
     obtain ⟨hcc,q⟩:=bG G.out
     by_cases aC:P<0
     ·have HC:=Hd (zQ (d:=d) (t:=t) (r:=(r:Int)) (k:=(k:Int)) (s:=(s:Int)+1) (by rw [HP.out];exact aC))
      go_wp2_with fail
      go_roundw
      ·exact ⟨s+1,A,n,c,by omega,by go_num,rfl,by omega,by rw [(I s).out,(u _).out,HC.out,List.append_nil];exact ag.out,G.out⟩
      simp [intOf];omega
     generalize hC:jk d t (r:Int) (k:Int) ((s:Int)+1)=C at *
     have HC:Hid (eD d P (r:Int) (k:Int)=C):=by show _=C;rw [←hC,jk,HP.out]
     have ad:=Hd hC
     clear hC
     go_wp2_with fail
     refine (qm d P (r:Int) (k:Int) _).mono ?_
     rw [HC.out]
     rintro e w3 ⟨rfl,b3⟩
     have V:=Hd (aA G.out b3)
     have R:=Hd (ag.out.below b3)
     have aM:=b3.size
     clear b3 hcc q
     by_cases aT:C≥0
     ·have K:=Hd (kN (x:=C) (by omega))
      go_wp2_with fail
      refine (jR w.heap.size A n c _ C _ R.out (by omega) (by omega)).mono ?_
      rintro e w4 ⟨A4,n4,c4,rfl,o4,b4⟩
      have aZ:=xm R.out o4
      have am:=Hd o4
      have aB:=Hd (aA V.out b4)
      clear o4 b4
      go_wp2_with fail
      go_roundw
      ·exact ⟨s+1,A4,n4,c4,by omega,by go_num,rfl,by omega,by rw [(I s).out,(u _).out,ad.out,K.out,←List.append_assoc,pY];exact am.out,aB.out⟩
      simp [intOf];omega
     have K:=Hd (lL (x:=C) (by omega))
     go_wp2_with fail
     go_roundw
     ·exact ⟨s+1,A,n,c,by omega,by go_num,rfl,by omega,by rw [(I s).out,(u _).out,ad.out,K.out,List.append_nil];exact R.out,V.out⟩
     simp [intOf];omega
    have af:(bR (k:Int)).toNat=s:=by omega
    have ax:=Hd af
    clear af
    generalize g:bR (k:Int)=L at *
    have H:=Hd g
    clear g
    go_wp2_with (go_at_call 232;refine (eH (k:Int) _ (by omega) (by omega)).mono ?_;rw [H.out];rintro e w' ⟨rfl,rfl⟩)
    go_roundw
    ·exact ⟨k+1,A,n,c,by omega,by go_num,rfl,by omega,by rw [Z.out,ax.out,←List.append_assoc];exact D.out,B.out⟩
    simp [intOf];omega
  have Y:d.T=(k:Int):=by omega
  have ak:=Hd Y
  have aL:¬(k:Int)<d.T:=ah
  clear Y
  go_wp2_with fail
  go_roundw
  ·exact ⟨r+1,A,n,c,by omega,by go_num,rfl,by omega,by rw [(aH r).out,show d.T.toNat=k by have:=ak.out;omega];exact D.out,B.out⟩
  simp [intOf];omega
 have aG:r=4:=by omega
 subst aG
 go_wp2_with fail
 go_ret
 exact ⟨A,n,c,rfl,D.out,aA aE.out B.out⟩
def qG (d:Dev) (t:Int) (p:Nat):List Int:=(List.range p).flatMap fun (j:Nat)=>mE (ed d t (j:Int))
def rP (d:Dev) (g:Int) (i:Nat):Int:=if i=0 then g else (g+1) % d.T
def wRi (d:Dev) (t r g:Int) (i:Nat):List Int:=(List.range i).flatMap fun (j:Nat)=>mE (jk d t r (rP d g j) (bR (rP d g j)))
def wR (d:Dev) (t j g r:Int):List Int:=if r=(j+2) % 4 then [] else wRi d t r g 2
def wA (d:Dev) (t q g:Int) (r:Nat):List Int:=(List.range r).flatMap fun (j:Nat)=>wR d t q g (j:Int)
theorem Ag (d:Dev) (t:Int) (p:Nat):qG d t (p+1)=qG d t p++mE (ed d t (p:Int)):=by simp [qG,List.range_succ]
theorem Dz (d:Dev) (t r g:Int) (i:Nat):wRi d t r g (i+1)=wRi d t r g i++mE (jk d t r (rP d g i) (bR (rP d g i))):=by simp [wRi,List.range_succ]
theorem Es (d:Dev) (t j g:Int) (r:Nat):wA d t j g (r+1)=wA d t j g r++wR d t j g (r:Int):=by simp [wA,List.range_succ]
theorem Ci {d:Dev} {t y:Int} (ht:az d t=true):y∈qG d t 2↔y∈jB d t:=by
 rw [vR]
 have q:=iR d t
 simp only [qG,List.mem_flatMap,List.mem_range,qa]
 constructor
 ·rintro ⟨j,hj,rfl,h0⟩
  refine ⟨(j:Int),?_,rfl⟩
  unfold ed at h0
  split at h0
  ·rename_i h;exact h.2
  omega
 rintro ⟨p,g,rfl⟩
 refine ⟨p.toNat,by omega,by rw [show ((p.toNat:Nat):Int)=p by omega],?_⟩
 rw [show ((p.toNat:Nat):Int)=p by omega]
 exact (pu ht g.1 g.2).2.2
theorem BZ {d:Dev} {g:Int} (j:dZ d=true) (h0:0<=g) (h1:g<d.T) (i:Nat):0<=rP d g i/\rP d g i<d.T:=by
 have:=ay j
 unfold rP
 split
 ·omega
 exact ⟨Int.emod_nonneg _ (by omega),Int.emod_lt_of_pos _ (by omega)⟩
theorem Ah {d:Dev} {t pin:Int} (ht:az d t=true) (z:7<=pin):asc (qG d t 2++wA d t ((pin - 7) / d.T) ((pin - 7) % d.T) 4)=asc (jl d t pin):=by
 have u:=(aV.1 ht).1
 have G:=ay u
 have k0:=Int.emod_nonneg (pin - 7) (show d.T≠0 by omega)
 have D:=Int.emod_lt_of_pos (pin - 7) (show 0<d.T by omega)
 have j:=fun i=>BZ u k0 D i
 refine C8 fun y=>?_
 unfold jl
 rw [List.mem_append,List.mem_append,Ci ht,if_pos z,vP u]
 refine or_congr Iff.rfl ?_
 simp only [wA,List.mem_flatMap,List.mem_range]
 constructor
 ·rintro ⟨r,hr,h⟩
  unfold wR at h
  split at h
  ·simp at h
  rename_i g
  simp only [wRi,List.mem_flatMap,List.mem_range,qa] at h
  obtain ⟨i,hi,rfl,h0⟩:=h
  refine ⟨(r:Int),_,bR _,by omega,j i,⟨by unfold bR;have:=j i;omega,Int.le_refl _⟩,?_,rfl,h0⟩
  unfold lu uU
  rw [if_pos z]
  simp only [Bool.and_eq_true,Bool.or_eq_true,decide_eq_true_eq]
  refine ⟨g,?_⟩
  unfold rP
  split <;> simp
 rintro ⟨r,k,s,hr,hk,hs,q,rfl,h0⟩
 unfold lu uU at q
 rw [if_pos z] at q
 simp only [Bool.and_eq_true,Bool.or_eq_true,decide_eq_true_eq] at q
 obtain ⟨g,B,rfl⟩:=q
 refine ⟨r.toNat,by omega,?_⟩
 rw [show ((r.toNat:Nat):Int)=r by omega]
 unfold wR
 rw [if_neg g]
 simp only [wRi,List.mem_flatMap,List.mem_range,qa]
 rcases B with rfl|rfl
 ·exact ⟨0,by omega,by simp [rP],by simpa [rP] using h0⟩
 exact ⟨1,by omega,by simp [rP],by simpa [rP] using h0⟩
theorem D5 {d:Dev} {t r k:Int} (ht:az d t=true) (hr:0<=r/\r<=3) (hk:0<=k/\k<d.T) (h:0<=av d t ((r+2) % 4) (bR k)):0<=jk d t r k (bR k):=by
 have j:=(aV.1 ht).1
 have u:=ay j
 have z:=eT j
 have g:=(pI j h).2.1
 have q:=Cm ht hr.1 hr.2 h
 unfold jk eD
 rw [if_pos ⟨g,hr,hk,by rw [q];exact (aV.1 ht).2.1⟩]
 have h1:=Int.mul_nonneg (aV.1 g).2.1 (show 0<=aQ d by omega)
 have h2:=Int.mul_nonneg hr.1 (show 0<=d.T by omega)
 omega
theorem uM (d:Dev) (t q g:Int) (w:World) (ht:az d t=true) (r0:0<=q) (r3:q<=3) (k0:0<=g) (k1:g<d.T) :
  Calls Tryz.prog 237 #[.agg (dv d),.int .i64 t,.int .i64 q,.int .i64 g] w fun e w'=>∃A n c,e = .returned (.slice A n c)/\Own w.heap.size w' A n c (asc (qG d t 2++wA d t q g 4))/\Below w.heap.size w w':=by
 have HT:=Hd ht
 have bu:=ay (aV.1 ht).1
 have bB:=fM (aV.1 ht).1
 have aZ:=Hd (fun i=>BZ (aV.1 ht).1 k0 k1 i)
 have a5:=Hd (aD (Below.refl w.heap.size w) (.cells (dv d) 36))
 have am:=fun r=>Hd (Es d t q g r)
 have ai:=fun p=>Hd (Ag d t p)
 clear ht
 go_enter Tryz.func237,Tryz.ntmps237
 go_wp2_with fail
 go_loopw [9,10] (fun v i wr=>∃(p:Nat) (A:Option Addr) (n c:Nat),p<=2/\i = .int .i64 p/\v = .slice A n c/\n<=p/\Own w.heap.size wr A n c (asc (qG d t p))/\Below (w.alloc (.cells (dv d) 36)).heap.size (w.alloc (.cells (dv d) 36)) wr) (fun _ i _=>2 - (intOf i).toNat)
 ·exact ⟨0,none,0,0,by omega,rfl,rfl,by omega,by simpa [qG,asc] using Own.nil,Below.refl _ _⟩
 obtain ⟨p,A,n,c,hp,rfl,rfl,hn,ho,B⟩:=hrel
 obtain ⟨J,I⟩:=hd2 ho B
 have hs:=B.size
 simp only [World.size_alloc] at hs
 obtain ⟨hcc,z⟩:=bG B
 clear ho B
 by_cases ag:p<2
 ·have aY:decide ((p:Int)<2)=true:=by simp;omega
  generalize Z:ed d t (p:Int)=C at *
  have V:=Hd Z
  clear Z
  go_wp2_with fail
  refine (uC d t (p:Int) _).mono ?_
  rw [V.out]
  rintro e w2 ⟨rfl,b2⟩
  have D:=Hd (aA I.out b2)
  have G:=Hd (J.out.below b2)
  have bf:=b2.size
  clear b2 hcc z
  by_cases a1:C≥0
  ·have H:=Hd (kN (x:=C) (by omega))
   go_wp2_with fail
   refine (jR w.heap.size A n c _ C _ G.out (by omega) (by omega)).mono ?_
   rintro e w4 ⟨A4,n4,c4,rfl,W,Y⟩
   have a8:=xm G.out W
   have Q:=Hd W
   have U:=Hd (aA D.out Y)
   clear W Y
   go_wp2_with fail
   go_roundw
   ·exact ⟨p+1,A4,n4,c4,by omega,by go_num,rfl,by omega,by rw [(ai p).out,V.out,H.out,pY];exact Q.out,U.out⟩
   simp [intOf];omega
  have H:=Hd (lL (x:=C) (by omega))
  go_wp2_with fail
  go_roundw
  ·exact ⟨p+1,A,n,c,by omega,by go_num,rfl,by omega,by rw [(ai p).out,V.out,H.out,List.append_nil];exact G.out,D.out⟩
  simp [intOf];omega
 have ar:p=2:=by omega
 have aE:=Hd ar
 have bz:n<=2:=by omega
 have aY:decide ((p:Int)<2)=false:=by simp;omega
 clear ar hcc z
 go_wp2_with fail
 go_loopw [9,12] (fun v i wr=>∃(r:Nat) (A:Option Addr) (n c:Nat),r<=4/\i = .int .i64 r/\v = .slice A n c/\n<=2+2 * r/\Own w.heap.size wr A n c (asc (qG d t 2++wA d t q g r))/\Below (w.alloc (.cells (dv d) 36)).heap.size (w.alloc (.cells (dv d) 36)) wr) (fun _ i _=>4 - (intOf i).toNat)
 ·exact ⟨0,A,n,c,by omega,rfl,rfl,by omega,by rw [←aE.out];simpa [wA] using J.out,I.out⟩
 obtain ⟨r,A,n,c,hr,rfl,rfl,hn,ho,B⟩:=hrel
 obtain ⟨wo,rfl⟩:∃x,x=wr:=⟨wr,rfl⟩
 obtain ⟨J,I⟩:=hd2 ho B
 have hs:=B.size
 simp only [World.size_alloc] at hs
 obtain ⟨hcc,z⟩:=bG B
 clear ho B
 by_cases ag:r<4
 ·have bt:decide ((r:Int)<4)=true:=by simp;omega
  by_cases u:(r:Int)=(q+2) % 4
  ·have HW:Hid (wR d t q g (r:Int)=[]):=by show _=_;unfold wR;rw [if_pos u]
   have bo:=Hd u
   have e1:((r:Int)==(q+2) % 4)=true:=by simpa using u
   clear u
   go_wp2_with fail
   go_roundw
   ·exact ⟨r+1,A,n,c,by omega,by go_num,rfl,by omega,by rw [(am r).out,HW.out,List.append_nil];exact J.out,I.out⟩
   simp [intOf];omega
  have HW:Hid (wR d t q g (r:Int)=wRi d t (r:Int) g 2):=by show _=_;unfold wR;rw [if_neg u]
  have e1:((r:Int)==(q+2) % 4)=false:=by simpa using u
  have e0:¬d.T=0:=by omega
  have e2:(g+1).tmod d.T=(g+1) % d.T:=Int.tmod_eq_emod_of_nonneg (by omega)
  have aj:=fun i=>Hd (Dz d t (r:Int) g i)
  have a6:Hid (rP d g 0=g):=rfl
  have ao:Hid (rP d g 1=(g+1) % d.T):=rfl
  have R:=(aZ.out 1)
  rw [ao.out] at R
  clear u
  generalize (g+1) % d.T=j at *
  have al:=aD I.out (.cells #[.int .i64 g,.int .i64 j] 3)
  have aT:=Hd al
  have aH:=Hd (aI wo (.cells #[.int .i64 g,.int .i64 j] 3))
  have a0:=Hd (J.out.below (aD (Below.refl _ _) (.cells #[.int .i64 g,.int .i64 j] 3)))
  clear al
  go_wp2_with fail
  clear hcc z
  go_loopw [9,46] (fun v i wi=>∃(i':Nat) (A:Option Addr) (n c:Nat),i'<=2/\i = .int .i64 i'/\v = .slice A n c/\n<=2+2 * r+i'/\wi.heap[wo.heap.size]?=some (.cells #[.int .i64 g,.int .i64 j] 3 (0,0))/\Own w.heap.size wi A n c (asc (qG d t 2++wA d t q g r++wRi d t (r:Int) g i'))/\Below (w.alloc (.cells (dv d) 36)).heap.size (w.alloc (.cells (dv d) 36)) wi) (fun _ i _=>2 - (intOf i).toNat)
  ·exact ⟨0,A,n,c,by omega,rfl,rfl,by omega,aH.out,by simpa [wRi] using a0.out,aT.out⟩
  obtain ⟨i,A,n,c,hi,rfl,rfl,hn,hx,ho,B⟩:=hrel
  obtain ⟨J,I,HX⟩:=hd3 ho B hx
  have hs:=B.size
  simp only [World.size_alloc] at hs
  obtain ⟨hcc,z⟩:=bG B
  obtain ⟨x0,x1,bv⟩:=fZ hx
  clear ho B hx
  by_cases ag:i<2
  ·have aU:decide ((i:Int)<2)=true:=by simp;omega
   have bl:∃K:Int,rP d g i=K/\wr.cell? ⟨wo.heap.size,i,none⟩=some (.int .i64 K)/\0<=K/\K<d.T:=by
    have:i=0∨i=1:=by omega
    rcases this with rfl|rfl
    ·exact ⟨g,a6.out,x0,k0,k1⟩
    exact ⟨j,ao.out,x1,R.1,R.2⟩
   obtain ⟨K,aq,be,bh,a9⟩:=bl
   have au:=Hd aq
   have hL:bR K=1+K % 2:=rfl
   have bs:1<=bR K/\bR K<=2:=by rw [hL];omega
   have a3:=Hd (fun h=>D5 (d:=d) (t:=t) (r:=(r:Int)) (k:=K) HT.out (by omega) ⟨bh,a9⟩ h)
   have aK:=Hd (fun h=>zQ (d:=d) (t:=t) (r:=(r:Int)) (k:=K) (s:=bR K) h)
   generalize hP:av d t (((r:Int)+2) % 4) (bR K)=P at *
   have HP:=Hd hP
   have aO:=kI (d:=d) (t:=t) (r:=((r:Int)+2) % 4) (s:=bR K) (aV.1 HT.out).1
   rw [hP] at aO
   have i0:(0:Int)<=(i:Int):=by omega
   have a7:=Hd (fun w=>eH K w (by omega) (by omega))
   generalize af:bR K=L at *
   have ap:=Hd af
   clear aq hL hP x0 x1 af
   have e3:((r:Int)+2).tmod 4=((r:Int)+2) % 4:=Int.tmod_eq_emod_of_nonneg (by omega)
   have e4:IntKind.i64.wrap ((r:Int)+2)=(r:Int)+2:=IntWalk.i64_in _ (by omega)
   go_wp2_with fail
   have bw:w.heap.size<wr.heap.size:=by omega
   have ak:=aX wr
   have bd:=aP wr
   refine wpB wr ?_
   repeat (go_big_quiet_step ((first
    | (go_at_call 232;with_reducible exact aR (a7.out _))
    | (go_at_call 260;with_reducible exact aN (iL HP.out HT.out (by omega) (by omega) _)))))
   refine wpQuiet_nil ?_
   rintro _ ⟨⟨w2,hD⟩,rfl⟩
   clear ak bd hcc z
   have D:=Hd (aA I.out hD)
   have G:=Hd (J.out.below hD)
   have ah:=Hd (aC hD HX.out)
   have bf:=hD.size
   obtain ⟨hcc,z⟩:=bG D.out
   clear e3 e4 hD be
   by_cases bx:P≥0
   ·have a1:=a3.out (by omega)
    generalize Z:jk d t (r:Int) K L=C at *
    have V:Hid (eD d P (r:Int) K=C):=by show _=C;rw [←Z,jk,HP.out]
    have bb:=Hd Z
    clear Z
    have H:=Hd (kN (x:=C) (by omega))
    go_wp2_with fail
    refine (qm d P (r:Int) K _).mono ?_
    rw [V.out]
    rintro e w3 ⟨rfl,b3⟩
    have aJ:=Hd (aA D.out b3)
    have aw:=Hd (G.out.below b3)
    have aQ:=Hd (aC b3 ah.out)
    have bq:=b3.size
    clear b3 hcc z
    go_wp2_with fail
    refine (jR w.heap.size A n c _ C _ aw.out (by omega) (by omega)).mono ?_
    rintro e w4 ⟨A4,n4,c4,rfl,W,Y⟩
    have a8:=xm aw.out W
    have Q:=Hd W
    have U:=Hd (aA aJ.out Y)
    have bc:=Hd (aC Y aQ.out)
    clear W Y
    go_wp2_with fail
    go_roundw
    ·exact ⟨i+1,A4,n4,c4,by omega,by go_num,rfl,by omega,bc.out,by rw [(aj i).out,au.out,ap.out,bb.out,H.out,←List.append_assoc,pY];exact Q.out,U.out⟩
    simp [intOf];omega
   have V:=Hd (aK.out (by omega))
   go_wp2_with fail
   go_roundw
   ·exact ⟨i+1,A,n,c,by omega,by go_num,rfl,by omega,ah.out,by rw [(aj i).out,au.out,ap.out,V.out,List.append_nil];exact G.out,D.out⟩
   simp [intOf];omega
  obtain rfl:i=2:=by omega
  have aU:decide ((2:Int)<2)=false:=by decide
  clear x0 x1
  go_wp2_with fail
  go_roundw
  ·exact ⟨r+1,A,n,c,by omega,by go_num,rfl,by omega,by rw [(am r).out,HW.out,←List.append_assoc];exact J.out,I.out⟩
  simp [intOf];omega
 obtain rfl:r=4:=by omega
 go_wp2_with fail
 go_ret
 exact ⟨A,n,c,rfl,J.out,aA a5.out I.out⟩
theorem D6 {d:Dev} {n:Int} (h:bI d n=true) (hk:n % aQ d<5):jT d n=asc (iH d (n / aQ d) (n % aQ d) 4):=by
 rw [jT,if_pos ⟨h,by omega⟩,jl,if_neg (by omega)]
 rfl
theorem zR {d:Dev} {n:Int} (hk:n % aQ d=5∨n % aQ d=6):jT d n=[]:=by rw [jT,if_neg (by rintro ⟨_,h⟩;exact h hk)]
theorem Ba {d:Dev} {n:Int} (h:bI d n=false):jT d n=[]:=by rw [jT,h];simp
theorem Cj {d:Dev} {n:Int} (h:bI d n=true) (hk:7<=n % aQ d):jT d n=asc (qG d (n / aQ d) 2++wA d (n / aQ d) ((n % aQ d - 7) / d.T) ((n % aQ d - 7) % d.T) 4):=by
 have g:=h
 unfold bI at g
 rw [Bool.and_eq_true] at g
 rw [jT,if_pos ⟨h,by omega⟩,Ah (lQ g.1) hk]
theorem xq (d:Dev) (n:Int) (w:World) :
  Calls Tryz.prog 149 #[.agg (dv d),.int .i64 n] w fun e w'=>∃A m c,e = .returned (.slice A m c)/\Own w.heap.size w' A m c (jT d n)/\Below w.heap.size w w':=by
 have B:=Hd (aD (Below.refl w.heap.size w) (.cells (dv d) 36))
 go_enter Tryz.func149,Tryz.ntmps149
 go_wp2_with fail
 cases g:bI d n with
 | false =>
  have G:=Hd (Ba g)
  refine (fV d n _).mono ?_
  rw [g]
  rintro e w1 ⟨rfl,H⟩
  have I:=Hd (aA B.out H)
  clear H g
  go_wp2_with fail
  go_ret
  exact ⟨none,0,0,rfl,by rw [G.out];exact Own.nil,I.out⟩
 | true =>
  have u:fD d n=true:=by unfold bI at g;rw [Bool.and_eq_true] at g;exact g.1
  have U:=Hd (lQ u)
  have af:=Hd u
  obtain ⟨hd,n0,n1,ar,ak,av,V⟩:=jG u
  have hT:=ay hd
  have hp:=eT hd
  have ae:=Hd (fun h=>D6 g h)
  have Y:=Hd (fun h=>Cj g h)
  have ah:=Hd (fun h=>zR (d:=d) (n:=n) h)
  have Z:=Hd (fun h w=>rO d n w u h)
  refine (fV d n _).mono ?_
  rw [g]
  rintro e w1 ⟨rfl,H⟩
  have I:=Hd H
  have ag:=H.size
  simp only [World.size_alloc] at ag
  obtain ⟨hcc,j⟩:=bG H
  clear H g u hd
  go_wp2_with fail
  refine (jO d n _ af.out).mono ?_
  rintro e w2 ⟨rfl,b2⟩
  have D:=Hd (aA I.out b2)
  have am:=b2.size
  clear b2 hcc j
  obtain ⟨hcc,j⟩:=bG D.out
  generalize n % aQ d=k at *
  generalize n / aQ d=q at *
  have h3:k<5∨(¬k<5/\k<7)∨(¬k<5/\¬k<7):=by omega
  rcases h3 with h|⟨h,h'⟩|⟨h,h'⟩
  ·go_wp2_with fail
   refine (vI d q k _ U.out (by omega) (by omega)).mono ?_
   rintro e w3 ⟨A3,n3,c3,rfl,R,K⟩
   have G:=Hd (ae.out (by omega))
   have z:=Hd (aA B.out (aA D.out K))
   have J:=Hd R
   clear K R hcc j
   go_wp2_with fail
   go_ret
   exact ⟨A3,n3,c3,rfl,by rw [G.out];exact J.out.more (by omega),z.out⟩
  ·have G:=Hd (ah.out (by omega))
   have z:=Hd (aA B.out D.out)
   clear hcc j
   go_wp2_with fail
   go_ret
   exact ⟨none,0,0,rfl,by rw [G.out];exact Own.nil,z.out⟩
  have al:=Int.ediv_nonneg (show 0<=k - 7 by omega) (show 0<=d.T by omega)
  have ao:=Int.emod_nonneg (k - 7) (show d.T≠0 by omega)
  have au:=Int.emod_lt_of_pos (k - 7) (show 0<d.T by omega)
  have aj:(k - 7) / d.T<=3:=by
   have:(k - 7) / d.T<4:=Int.ediv_lt_of_lt_mul (by omega) (by unfold aQ at V;omega)
   omega
  go_wp2_with fail
  refine (Z.out (by omega) _).mono ?_
  rintro e w4 ⟨rfl,W⟩
  have Q:=Hd (aA D.out W)
  have aw:=W.size
  have G:=Hd (Y.out (by omega))
  clear W hcc j
  obtain ⟨hcc,j⟩:=bG Q.out
  generalize (k - 7) / d.T=r at *
  generalize (k - 7) % d.T=m at *
  go_wp2_with fail
  refine (uM d q r m _ U.out (by omega) (by omega) (by omega) (by omega)).mono ?_
  rintro e w3 ⟨A3,n3,c3,rfl,R,K⟩
  have z:=Hd (aA B.out (aA Q.out K))
  have J:=Hd R
  clear K R hcc j
  go_wp2_with fail
  go_ret
  exact ⟨A3,n3,c3,rfl,by rw [G.out];exact J.out.more (by omega),z.out⟩
end Go.Proofs.YtofihjoanjkdmaaGreat
