/- Routing nodes of the program: pins, wires, which nodes exist. -/
import Derived.Test.YtofihjoanjkdmaaGreatEmpty
import Derived.Test.YtofihjoanjkdmaaGreatQb
import Derived.Test.YtofihjoanjkdmaaGreatRt4
namespace Go.Proofs.YtofihjoanjkdmaaGreat
set_option maxHeartbeats 2000000
set_option maxRecDepth 100000
open Go.RowKit
theorem tu (k:Int) (w:World) :
  Calls Tryz.prog 258 #[.int .i64 k] w fun e w'=>e = .returned (.int .i64 (jT k))/\w=w':=by
 by_cases h0:k=0
 ·subst h0
  go_enter Tryz.func258,Tryz.ntmps258
  go_wp2
  go_ret
  exact ⟨rfl,rfl⟩
 by_cases h1:k=1
 ·subst h1
  go_enter Tryz.func258,Tryz.ntmps258
  go_wp2
  go_ret
  exact ⟨rfl,rfl⟩
 by_cases h2:k=2
 ·subst h2
  go_enter Tryz.func258,Tryz.ntmps258
  go_wp2
  go_ret
  exact ⟨rfl,rfl⟩
 have g:(k==0)=false:=by simpa using h0
 have e1:(k==1)=false:=by simpa using h1
 have e2:(k==2)=false:=by simpa using h2
 go_enter Tryz.func258,Tryz.ntmps258
 go_wp2
 go_ret
 exact ⟨aL (by simp [jT,h0,h1,h2]),rfl⟩
theorem qR (k:Int) (w:World) :
  Calls Tryz.prog 255 #[.int .i64 k] w fun e w'=>e = .returned (.int .i64 (jT k))/\w=w':=by
 by_cases h0:k=0
 ·subst h0
  go_enter Tryz.func255,Tryz.ntmps255
  go_wp2
  go_ret
  exact ⟨rfl,rfl⟩
 by_cases h1:k=1
 ·subst h1
  go_enter Tryz.func255,Tryz.ntmps255
  go_wp2
  go_ret
  exact ⟨rfl,rfl⟩
 by_cases h2:k=2
 ·subst h2
  go_enter Tryz.func255,Tryz.ntmps255
  go_wp2
  go_ret
  exact ⟨rfl,rfl⟩
 have g:(k==0)=false:=by simpa using h0
 have e1:(k==1)=false:=by simpa using h1
 have e2:(k==2)=false:=by simpa using h2
 go_enter Tryz.func255,Tryz.ntmps255
 go_wp2
 go_ret
 exact ⟨aL (by simp [jT,h0,h1,h2]),rfl⟩
theorem sM (k:Int) (w:World) :
  Calls Tryz.prog 259 #[.int .i64 k] w fun e w'=>e = .returned (.int .i64 (eF k))/\w=w':=by
 by_cases h0:k=0
 ·subst h0
  go_enter Tryz.func259,Tryz.ntmps259
  go_wp2
  go_ret
  exact ⟨rfl,rfl⟩
 by_cases h1:k=1
 ·subst h1
  go_enter Tryz.func259,Tryz.ntmps259
  go_wp2
  go_ret
  exact ⟨rfl,rfl⟩
 by_cases h2:k=2
 ·subst h2
  go_enter Tryz.func259,Tryz.ntmps259
  go_wp2
  go_ret
  exact ⟨rfl,rfl⟩
 have g:(k==0)=false:=by simpa using h0
 have e1:(k==1)=false:=by simpa using h1
 have e2:(k==2)=false:=by simpa using h2
 go_enter Tryz.func259,Tryz.ntmps259
 go_wp2
 go_ret
 exact ⟨aL (by simp [eF,h0,h1,h2]),rfl⟩
theorem ky (k:Int) (w:World) :
  Calls Tryz.prog 233 #[.int .i64 k] w fun e w'=>e = .returned (.int .i64 (eF k))/\w=w':=by
 by_cases h0:k=0
 ·subst h0
  go_enter Tryz.func233,Tryz.ntmps233
  go_wp2
  go_ret
  exact ⟨rfl,rfl⟩
 by_cases h1:k=1
 ·subst h1
  go_enter Tryz.func233,Tryz.ntmps233
  go_wp2
  go_ret
  exact ⟨rfl,rfl⟩
 by_cases h2:k=2
 ·subst h2
  go_enter Tryz.func233,Tryz.ntmps233
  go_wp2
  go_ret
  exact ⟨rfl,rfl⟩
 have g:(k==0)=false:=by simpa using h0
 have e1:(k==1)=false:=by simpa using h1
 have e2:(k==2)=false:=by simpa using h2
 go_enter Tryz.func233,Tryz.ntmps233
 go_wp2
 go_ret
 exact ⟨aL (by simp [eF,h0,h1,h2]),rfl⟩
theorem eU (k:Int) (w:World) (h0:0<=k) (h1:k<=1099511627776) :
  Calls Tryz.prog 232 #[.int .i64 k] w fun e w'=>e = .returned (.int .i64 (bg k))/\w=w':=by
 unfold bg
 go_enter Tryz.func232,Tryz.ntmps232
 go_wp2
 go_ret
 exact ⟨rfl,rfl⟩
theorem rR (d:Dev) (t:Int) (w:World) :
  Calls Tryz.prog 216 #[.agg (dv d),.int .i64 t] w fun e w'=>e = .returned (.bool (bB d t))/\Below w.heap.size w w':=by
 go_enter Tryz.func216,Tryz.ntmps216
 go_wp2_with fail
 refine (fu d _).mono ?_
 rintro e I ⟨rfl,q⟩
 have u:=Hd (aA (aB (Below.refl _ _) _) q)
 obtain ⟨hcc,H⟩:=bG q
 clear q
 cases g:dR d with
 | false =>
  have j:=Hd g
  clear g
  go_wp2_with fail
  go_ret
  exact ⟨dC (by simp [bB,j.out]),u.out⟩
 | true =>
  obtain ⟨B,G,D⟩:=lD g
  obtain ⟨j,z⟩:=hd2 g B
  clear g
  go_wp2_with (go_at_call 93;refine (aM _ _ _ _).mono ?_;rintro e w' ⟨rfl,rfl⟩)
  go_ret
  refine ⟨dC ?_,u.out⟩
  rw [Bool.eq_iff_iff,aR,aU,j.out,z.out]
  simp only [true_and]
  omega
theorem bV {n lo hi:Int} {b:Bool} (h:inR n lo hi=b) (w:World):Calls Tryz.prog 93 #[.int .i64 n,.int .i64 lo,.int .i64 hi] w fun e w'=>e = .returned (.bool b)/\w=w':=by
 have:=aM n lo hi w
 rwa [h] at this
theorem Fv {d:Dev} {t r s:Int} (ht:bB d t=true) (h0:0<=s) (h1:s<=6):-6<=stX d t r s/\stX d t r s<=12/\-6<=stY d t r s/\stY d t r s<=12:=by
 obtain ⟨a,b,c,e,_⟩:=p9 ht
 have:=ay (aU.1 ht).1
 unfold stX stY
 refine ⟨?_,?_,?_,?_⟩ <;> repeat' split
 all_goals omega
theorem xS (d:Dev) (t r s:Int) (w:World) (ht:bB d t=true) (h0:0<=s) (h1:s<=6) :
  Calls Tryz.prog 260 #[.agg (dv d),.int .i64 t,.int .i64 r,.int .i64 s] w fun e w'=>e = .returned (.int .i64 (ax d t r s))/\Below w.heap.size w w':=by
 have hd:=(aU.1 ht).1
 have Q:=(aU.1 ht).2.1
 have ai:=(aU.1 ht).2.2
 have am:=fJ hd
 obtain ⟨ao,al,aj,ah,_⟩:=ay hd
 obtain ⟨x0,x1,y0,y1,-⟩:=p9 ht
 have ak:=Fv (r:=r) ht h0 h1
 have e0:¬d.W=0:=by omega
 have e1:t.tmod d.W=t % d.W:=Int.tmod_eq_emod_of_nonneg Q
 have e2:IntKind.i64.wrap (t.tdiv d.W)=t / d.W:=IntWalk.i64_quo _ _ ⟨Q,by omega,by omega⟩
 have I:=Hd (show nW d t r s=(inR (stX d t r s) 0 (d.W - 1) && inR (stY d t r s) 0 (d.H - 1)) from rfl)
 have G:=Hd (show ax d t r s=if nW d t r s=true then stY d t r s * d.W+stX d t r s else -1 from rfl)
 have HX:Hid (stX d t r s=if r=0 then t % d.W+s else if r=2 then t % d.W - s else t % d.W):=rfl
 have HY:Hid (stY d t r s=if r=1 then t / d.W+s else if r=0 then t / d.W else if r=2 then t / d.W else t / d.W - s):=rfl
 have V:=Hd (fun (h:0<=stY d t r s/\stY d t r s<=d.H - 1)=>jc h.1 (show stY d t r s<=5 by omega) (show 0<=d.W by omega) (show d.W<=6 by omega))
 generalize stX d t r s=X at *
 generalize stY d t r s=Y at *
 generalize ax d t r s=P at *
 generalize nW d t r s=B at *
 clear ht hd
 have J:r=0∨r=1∨r=2∨(¬r=0/\¬r=1/\¬r=2):=by omega
 have D:(r=0→X=t % d.W+s)/\(r=2→X=t % d.W - s)/\(¬r=0/\¬r=2→X=t % d.W):=by
  rw [HX.out]
  refine ⟨fun h=>if_pos h,fun h=>by rw [if_neg (by omega),if_pos h],fun h=>by rw [if_neg h.1,if_neg h.2]⟩
 have z:(r=1→Y=t / d.W+s)/\(r=0∨r=2→Y=t / d.W)/\(¬r=0/\¬r=1/\¬r=2→Y=t / d.W - s):=by
  rw [HY.out]
  refine ⟨fun h=>if_pos h,fun h=>?_,fun h=>by rw [if_neg h.2.1,if_neg h.1,if_neg h.2.2]⟩
  rcases h with h|h
  ·rw [if_neg (by omega),if_pos h]
  rw [if_neg (by omega),if_neg (by omega),if_pos h]
 clear HX HY
 rcases J with h|h|h|⟨R,g1,U⟩
 ·obtain rfl:=D.1 h
  obtain rfl:=z.2.1 (.inl h)
  subst h
  clear D z
  go_enter Tryz.func260,Tryz.ntmps260
  go_wp2_with fail
  go_quiet (fail)
  clear e1 e2
  cases u:inR (t % d.W+s) 0 (d.W - 1) with
  | false =>
   have g:=Hd u
   clear u
   go_wp2_with (go_at_call 93;refine (bV g.out _).mono ?_;rintro e w' ⟨rfl,rfl⟩)
   go_ret
   exact ⟨aL (by rw [G.out,I.out,g.out];rfl),bE (aB (Below.refl _ _) _) _⟩
  | true =>
   have g:=Hd u
   clear u
   cases q:inR (t / d.W) 0 (d.H - 1) with
   | false =>
    have j:=Hd q
    clear q
    go_wp2_with (go_at_call 93;(first|((with_reducible refine (bV g.out _).mono ?_);rintro e w' ⟨rfl,rfl⟩)|((with_reducible refine (bV j.out _).mono ?_);rintro e w' ⟨rfl,rfl⟩)))
    go_ret
    exact ⟨aL (by rw [G.out,I.out,g.out,j.out];rfl),bE (aB (Below.refl _ _) _) _⟩
   | true =>
    have j:=Hd q
    have Z:=V.out (aR.1 q)
    have K:=(aR.1 g.out)
    clear q
    go_wp2_with (go_at_call 93;(first|((with_reducible refine (bV g.out _).mono ?_);rintro e w' ⟨rfl,rfl⟩)|((with_reducible refine (bV j.out _).mono ?_);rintro e w' ⟨rfl,rfl⟩)))
    go_ret
    exact ⟨aL (by rw [G.out,I.out,g.out,j.out];first|rfl|(simp;done)|(simp;omega)),bE (aB (Below.refl _ _) _) _⟩
 ·obtain rfl:=D.2.2 ⟨by omega,by omega⟩
  obtain rfl:=z.1 h
  subst h
  clear D z
  go_enter Tryz.func260,Tryz.ntmps260
  go_wp2_with fail
  go_quiet (fail)
  clear e1 e2
  cases u:inR (t % d.W) 0 (d.W - 1) with
  | false =>
   have g:=Hd u
   clear u
   go_wp2_with (go_at_call 93;refine (bV g.out _).mono ?_;rintro e w' ⟨rfl,rfl⟩)
   go_ret
   exact ⟨aL (by rw [G.out,I.out,g.out];rfl),bE (aB (Below.refl _ _) _) _⟩
  | true =>
   have g:=Hd u
   clear u
   cases q:inR (t / d.W+s) 0 (d.H - 1) with
   | false =>
    have j:=Hd q
    clear q
    go_wp2_with (go_at_call 93;(first|((with_reducible refine (bV g.out _).mono ?_);rintro e w' ⟨rfl,rfl⟩)|((with_reducible refine (bV j.out _).mono ?_);rintro e w' ⟨rfl,rfl⟩)))
    go_ret
    exact ⟨aL (by rw [G.out,I.out,g.out,j.out];rfl),bE (aB (Below.refl _ _) _) _⟩
   | true =>
    have j:=Hd q
    have Z:=V.out (aR.1 q)
    have K:=(aR.1 g.out)
    clear q
    go_wp2_with (go_at_call 93;(first|((with_reducible refine (bV g.out _).mono ?_);rintro e w' ⟨rfl,rfl⟩)|((with_reducible refine (bV j.out _).mono ?_);rintro e w' ⟨rfl,rfl⟩)))
    go_ret
    exact ⟨aL (by rw [G.out,I.out,g.out,j.out];first|rfl|(simp;done)|(simp;omega)),bE (aB (Below.refl _ _) _) _⟩
 ·obtain rfl:=D.2.1 h
  obtain rfl:=z.2.1 (.inr h)
  subst h
  clear D z
  go_enter Tryz.func260,Tryz.ntmps260
  go_wp2_with fail
  go_quiet (fail)
  clear e1 e2
  cases u:inR (t % d.W - s) 0 (d.W - 1) with
  | false =>
   have g:=Hd u
   clear u
   go_wp2_with (go_at_call 93;refine (bV g.out _).mono ?_;rintro e w' ⟨rfl,rfl⟩)
   go_ret
   exact ⟨aL (by rw [G.out,I.out,g.out];rfl),bE (aB (Below.refl _ _) _) _⟩
  | true =>
   have g:=Hd u
   clear u
   cases q:inR (t / d.W) 0 (d.H - 1) with
   | false =>
    have j:=Hd q
    clear q
    go_wp2_with (go_at_call 93;(first|((with_reducible refine (bV g.out _).mono ?_);rintro e w' ⟨rfl,rfl⟩)|((with_reducible refine (bV j.out _).mono ?_);rintro e w' ⟨rfl,rfl⟩)))
    go_ret
    exact ⟨aL (by rw [G.out,I.out,g.out,j.out];rfl),bE (aB (Below.refl _ _) _) _⟩
   | true =>
    have j:=Hd q
    have Z:=V.out (aR.1 q)
    have K:=(aR.1 g.out)
    clear q
    go_wp2_with (go_at_call 93;(first|((with_reducible refine (bV g.out _).mono ?_);rintro e w' ⟨rfl,rfl⟩)|((with_reducible refine (bV j.out _).mono ?_);rintro e w' ⟨rfl,rfl⟩)))
    go_ret
    exact ⟨aL (by rw [G.out,I.out,g.out,j.out];first|rfl|(simp;done)|(simp;omega)),bE (aB (Below.refl _ _) _) _⟩
 obtain rfl:=D.2.2 ⟨R,U⟩
 obtain rfl:=z.2.2 ⟨R,g1,U⟩
 clear D z
 have q0:(r==0)=false:=by simpa using R
 have q1:(r==1)=false:=by simpa using g1
 have q2:(r==2)=false:=by simpa using U
 clear R g1 U
 go_enter Tryz.func260,Tryz.ntmps260
 go_wp2_with fail
 go_quiet (fail)
 clear e1 e2
 cases u:inR (t % d.W) 0 (d.W - 1) with
 | false =>
  have g:=Hd u
  clear u
  go_wp2_with (go_at_call 93;refine (bV g.out _).mono ?_;rintro e w' ⟨rfl,rfl⟩)
  go_ret
  exact ⟨aL (by rw [G.out,I.out,g.out];rfl),bE (aB (Below.refl _ _) _) _⟩
 | true =>
  have g:=Hd u
  clear u
  cases q:inR (t / d.W - s) 0 (d.H - 1) with
  | false =>
   have j:=Hd q
   clear q
   go_wp2_with (go_at_call 93;(first|((with_reducible refine (bV g.out _).mono ?_);rintro e w' ⟨rfl,rfl⟩)|((with_reducible refine (bV j.out _).mono ?_);rintro e w' ⟨rfl,rfl⟩)))
   go_ret
   exact ⟨aL (by rw [G.out,I.out,g.out,j.out];rfl),bE (aB (Below.refl _ _) _) _⟩
  | true =>
   have j:=Hd q
   have Z:=V.out (aR.1 q)
   have K:=(aR.1 g.out)
   clear q
   go_wp2_with (go_at_call 93;(first|((with_reducible refine (bV g.out _).mono ?_);rintro e w' ⟨rfl,rfl⟩)|((with_reducible refine (bV j.out _).mono ?_);rintro e w' ⟨rfl,rfl⟩)))
   go_ret
   exact ⟨aL (by rw [G.out,I.out,g.out,j.out];first|rfl|(simp;done)|(simp;omega)),bE (aB (Below.refl _ _) _) _⟩
theorem iC (d:Dev) (w:World) (h0:0<=d.T) (h1:d.T<=1099511627776) :
  Calls Tryz.prog 148 #[.agg (dv d)] w fun e w'=>e = .returned (.int .i64 (aV d))/\Below w.heap.size w w':=by
 unfold aV
 go_enter Tryz.func148,Tryz.ntmps148
 go_wp2
 go_ret
 exact ⟨rfl,aB (Below.refl _ _) _⟩
theorem nQ (d:Dev) (w:World) (j:dR d=true) :
  Calls Tryz.prog 190 #[.agg (dv d)] w fun e w'=>e = .returned (.int .i64 (gH d))/\Below w.heap.size w w':=by
 have B:=ay j
 have z:=fJ j
 have D:=eP j
 have hn:=fZ j
 have u:=Hd (show gH d=d.W * d.H * aV d from rfl)
 rw [u.out] at hn
 have g:Below (w.alloc (.cells (dv d) 36)).heap.size (w.alloc (.cells (dv d) 36)) (w.alloc (.cells (dv d) 36)):=Below.refl _ _
 go_enter Tryz.func190,Tryz.ntmps190
 go_wp2_with fail
 go_region_held3 (fun w'=>Below (w.alloc (.cells (dv d) 36)).heap.size (w.alloc (.cells (dv d) 36)) w'/\∀b o,b<(w.alloc (.cells (dv d) 36)).heap.size→w'.cell? ⟨b,o,none⟩=(w.alloc (.cells (dv d) 36)).cell? ⟨b,o,none⟩)
  (first|exact ⟨g,(bG g).1⟩|exact ⟨g.drew,(bG g.drew).1⟩)
  (first
   | (go_at_call 148;(with_reducible refine (iC d _ (by omega) (by omega)).mono ?_);rintro e G ⟨rfl,q⟩;(first|(with_reducible replace g:=aA g q)|(with_reducible replace g:=aA g.drew q));clear q))
 all_goals
  go_wp2_with fail
  go_ret
  exact ⟨aL (by rw [IntWalk.i64_in (d.W * d.H) (by omega),IntWalk.i64_in _ (by omega),u.out]),aA (aB (Below.refl _ _) _) g⟩
theorem jO (d:Dev) (n:Int) (w:World) (hn:fP d n=true) :
  Calls Tryz.prog 72 #[.agg (dv d),.int .i64 n] w fun e w'=>e = .returned (.tuple #[.int .i64 (n / aV d),.int .i64 (n % aV d)])/\Below w.heap.size w w':=by
 obtain ⟨j,u,n1,z,B,H,D⟩:=il hn
 have I:=ay j
 have G:=fJ j
 have K:=eP j
 have J:¬aV d=0:=by omega
 have e1:n.tmod (aV d)=n % aV d:=Int.tmod_eq_emod_of_nonneg u
 have e2:IntKind.i64.wrap (n.tdiv (aV d))=n / aV d:=IntWalk.i64_quo _ _ ⟨u,by omega,by omega⟩
 have g:Below (w.alloc (.cells (dv d) 36)).heap.size (w.alloc (.cells (dv d) 36)) (w.alloc (.cells (dv d) 36)):=Below.refl _ _
 clear j hn
 go_enter Tryz.func72,Tryz.ntmps72
 go_wp2_with fail
 go_region_held3 (fun w'=>Below (w.alloc (.cells (dv d) 36)).heap.size (w.alloc (.cells (dv d) 36)) w'/\∀b o,b<(w.alloc (.cells (dv d) 36)).heap.size→w'.cell? ⟨b,o,none⟩=(w.alloc (.cells (dv d) 36)).cell? ⟨b,o,none⟩)
  (first|exact ⟨g,(bG g).1⟩|exact ⟨g.drew,(bG g.drew).1⟩)
  (first
   | (go_at_call 148;(with_reducible refine (iC d _ (by omega) (by omega)).mono ?_);rintro e Q ⟨rfl,q⟩;(first|(with_reducible replace g:=aA g q)|(with_reducible replace g:=aA g.drew q));clear q))
 all_goals
  go_wp2_with fail
  go_ret2
  exact ⟨rfl,aA (aB (Below.refl _ _) _) g⟩
theorem uu (d:Dev) (n:Int) (w:World) (hn:fP d n=true) (G:7<=n % aV d) :
  Calls Tryz.prog 231 #[.agg (dv d),.int .i64 n] w fun e w'=>e = .returned (.tuple #[.int .i64 (n / aV d),.int .i64 ((n % aV d - 7) / d.T),.int .i64 ((n % aV d - 7) % d.T),.bool true])/\Below w.heap.size w w':=by
 obtain ⟨z,Z,n1,B,D,R,I⟩:=il hn
 have u:=Hd hn
 have U:=ay z
 have W:=eP z
 clear hn
 go_enter Tryz.func231,Tryz.ntmps231
 go_wp2_with fail
 refine (jO d n _ u.out).mono ?_
 rintro e w1 ⟨rfl,g⟩
 have j:=g.size
 simp only [World.size_alloc] at j
 obtain ⟨hcc,H⟩:=bG g
 have J:=Hd (aA (aB (Below.refl _ _) _) g)
 clear g
 generalize hk:n % aV d=k at *
 generalize hq:n / aV d=q at *
 obtain ⟨Q,K⟩:=hd2 hk hq
 clear hk hq u
 have V:¬d.T=0:=by omega
 have e1:(k - 7).tmod d.T=(k - 7) % d.T:=Int.tmod_eq_emod_of_nonneg (by omega)
 have e2:IntKind.i64.wrap ((k - 7).tdiv d.T)=(k - 7) / d.T:=IntWalk.i64_quo _ _ ⟨by omega,by omega,by omega⟩
 have e3:IntKind.i64.wrap (k - 7)=k - 7:=IntWalk.i64_in _ (by omega)
 have Y:decide (k≥7)=true:=by simpa using G
 go_wp2_with fail
 go_quiet (fail)
 go_wp2_with fail
 exact bodyPost_ret (v := .tuple #[.int .i64 q,.int .i64 ((k - 7) / d.T),.int .i64 ((k - 7) % d.T),.bool true]) (by simp [results,Tryz.results231,go_sem]) rfl ⟨by rw [Q.out,K.out],bE J.out _⟩
theorem jP {d:Dev} {t:Int} {b:Bool} (h:bB d t=b) (w:World):Calls Tryz.prog 216 #[.agg (dv d),.int .i64 t] w fun e w'=>e = .returned (.bool b)/\Below w.heap.size w w':=by
 have:=rR d t w
 rwa [h] at this
theorem iP {d:Dev} {t r s p:Int} (h:ax d t r s=p) (ht:bB d t=true) (h0:0<=s) (h1:s<=6) (w:World):Calls Tryz.prog 260 #[.agg (dv d),.int .i64 t,.int .i64 r,.int .i64 s] w fun e w'=>e = .returned (.int .i64 p)/\Below w.heap.size w w':=by
 have:=xS d t r s w ht h0 h1
 rwa [h] at this
theorem uA (d:Dev) (t p:Int) (w:World) :
  Calls Tryz.prog 224 #[.agg (dv d),.int .i64 t,.int .i64 p] w fun e w'=>e = .returned (.int .i64 (eX d t p))/\Below w.heap.size w w':=by
 have H:Hid (eX d t p=if bB d t=true/\0<=p/\p<eF (bL d t) then t * aV d+5+p else -1):=rfl
 go_enter Tryz.func224,Tryz.ntmps224
 go_wp2_with fail
 cases ht:bB d t with
 | false =>
  refine (jP ht _).mono ?_
  rintro e w1 ⟨rfl,j⟩
  have I:=Hd (aA (aB (Below.refl _ _) _) j)
  have J:=Hd ht
  clear j ht
  go_wp2_with fail
  go_ret
  exact ⟨aL (by rw [H.out,if_neg (by rw [J.out];simp)]),I.out⟩
 | true =>
  refine (jP ht _).mono ?_
  rintro e w1 ⟨rfl,j⟩
  have I:=Hd (aA (aB (Below.refl _ _) _) j)
  have D1:=Hd j
  obtain ⟨hcc,q⟩:=bG j
  have G:=j.size
  simp only [World.size_alloc] at G
  obtain ⟨u,z,Z⟩:=aU.1 ht
  have ae:=fJ u
  have hT:=ay u
  have hp:=eP u
  have ai:=iZ d t
  have HM:=Hd (jc z (show t<=35 by omega) (show 0<=aV d by omega) hp.2)
  obtain ⟨J,Y⟩:=hd2 ht u
  clear j ht u
  go_wp2_with fail
  refine (mV d t _ Y.out z (by omega)).mono ?_
  rintro e w2 ⟨rfl,D⟩
  have R:=Hd (aA I.out D)
  have D2:=Hd (aA D1.out D)
  have ah:=D.size
  clear D hcc q
  obtain ⟨hcc,q⟩:=bG D2.out
  generalize V:bL d t=K at *
  have HK:=Hd V
  clear V
  go_wp2_with (go_at_call 259;refine (sM _ _).mono ?_;rintro e w' ⟨rfl,rfl⟩)
  generalize U:eF K=Q at *
  have HQ:=Hd U
  clear U
  have e3:IntKind.i64.wrap (Q - 1)=Q - 1:=IntWalk.i64_in _ (by omega)
  cases g:inR p 0 (Q - 1) with
  | false =>
   have B:=Hd g
   clear g
   go_wp2_with (go_at_call 93;refine (bV B.out _).mono ?_;rintro e w' ⟨rfl,rfl⟩)
   go_ret
   exact ⟨aL (by rw [H.out,if_neg];rintro ⟨_,h0,h1⟩;have:=qj.1 B.out;omega),R.out⟩
  | true =>
   have B:=Hd g
   have hi:=aR.1 g
   clear g
   go_wp2_with (go_at_call 93;refine (bV B.out _).mono ?_;rintro e w' ⟨rfl,rfl⟩)
   refine (iC d _ (by omega) (by omega)).mono ?_
   rintro e w3 ⟨rfl,W⟩
   have B3:=Hd (aA R.out W)
   have hM:=HM.out
   clear W hcc q e3
   go_wp2_with fail
   go_ret
   exact ⟨aL (by rw [H.out,if_pos ⟨J.out,by omega,by omega⟩]),B3.out⟩
theorem Eu {d:Dev} {t r k:Int} (h:bB d t=false):Hid (¬(bB d t=true/\(0<=r/\r<=3)/\(0<=k/\k<d.T)/\0<=ax d t r (bg k))):=by
 show ¬_
 rw [h];simp
theorem y8 (d:Dev) (t r k:Int) (w:World) (ht:bB d t=false) :
  Calls Tryz.prog 262 #[.agg (dv d),.int .i64 t,.int .i64 r,.int .i64 k] w fun e w'=>e = .returned (.int .i64 (d9 d t r k))/\Below w.heap.size w w':=by
 have D:Hid (d9 d t r k=if bB d t=true/\(0<=r/\r<=3)/\(0<=k/\k<d.T)/\0<=ax d t r (bg k) then t * aV d+7+r * d.T+k else -1):=rfl
 have g:=Eu (r:=r) (k:=k) ht
 obtain ⟨B,q⟩:=hd2 ht g
 have G:=q
 have H:=q
 clear ht
 go_enter Tryz.func262,Tryz.ntmps262
 go_wp2_with fail
 have j:=aY (w.alloc (.cells (dv d) 36))
 have u:=aP (w.alloc (.cells (dv d) 36))
 refine fO (w.alloc (.cells (dv d) 36)) (by kernel_rfl) (by kernel_rfl) (by first|exact Below.refl _ _|exact z) ?_
 repeat (go_big_quiet_step ((first
  | (go_at_call 216;with_reducible exact aN (jP B.out _))
   | (go_at_call 93;(first|with_reducible exact aQ (bV q.out _)|with_reducible exact aQ (bV G.out _)))
   | (go_at_call 232;with_reducible exact aQ (eU k _ (by omega) (by omega)))
   | (go_at_call 260;with_reducible exact aN (iP H.out B.out (by omega) (by omega) _))
   | (go_at_call 148;with_reducible exact aN (iC d _ (by omega) (by omega))))))
 refine wpQuiet_nil ?_
 rintro _ ⟨⟨I,z⟩,rfl⟩
 (try dsimp only)
 clear j u
 all_goals
  go_wp2_with fail
  go_ret
  exact ⟨aL (by rw [D.out,if_neg g.out]),aA (aB (Below.refl _ _) _) z⟩
theorem y9 (d:Dev) (t r k:Int) (w:World) (ht:bB d t=true) (hr:inR r 0 3=false) :
  Calls Tryz.prog 262 #[.agg (dv d),.int .i64 t,.int .i64 r,.int .i64 k] w fun e w'=>e = .returned (.int .i64 (d9 d t r k))/\Below w.heap.size w w':=by
 have G:Hid (d9 d t r k=if bB d t=true/\(0<=r/\r<=3)/\(0<=k/\k<d.T)/\0<=ax d t r (bg k) then t * aV d+7+r * d.T+k else -1):=rfl
 have g:Hid (¬(bB d t=true/\(0<=r/\r<=3)/\(0<=k/\k<d.T)/\0<=ax d t r (bg k))):=by rintro ⟨_,h,_⟩;have:=qj.1 hr;omega
 have z:=(aU.1 ht).1
 have J:=ay z
 obtain ⟨B,D⟩:=hd2 ht hr
 have H:=g
 have I:=g
 clear ht hr z
 go_enter Tryz.func262,Tryz.ntmps262
 go_wp2_with fail
 have j:=aY (w.alloc (.cells (dv d) 36))
 have q:=aP (w.alloc (.cells (dv d) 36))
 refine fO (w.alloc (.cells (dv d) 36)) (by kernel_rfl) (by kernel_rfl) (by first|exact Below.refl _ _|exact u) ?_
 repeat (go_big_quiet_step ((first
  | (go_at_call 216;with_reducible exact aN (jP B.out _))
   | (go_at_call 93;(first|with_reducible exact aQ (bV D.out _)|with_reducible exact aQ (bV H.out _)))
   | (go_at_call 232;with_reducible exact aQ (eU k _ (by omega) (by omega)))
   | (go_at_call 260;with_reducible exact aN (iP I.out B.out (by omega) (by omega) _))
   | (go_at_call 148;with_reducible exact aN (iC d _ (by omega) (by omega))))))
 refine wpQuiet_nil ?_
 rintro _ ⟨⟨K,u⟩,rfl⟩
 (try dsimp only)
 clear j q
 all_goals
  go_wp2_with fail
  go_ret
  exact ⟨aL (by rw [G.out,if_neg g.out]),aA (aB (Below.refl _ _) _) u⟩
theorem zA (d:Dev) (t r k:Int) (w:World) (ht:bB d t=true) (hr:inR r 0 3=true) (hk:inR k 0 (d.T - 1)=false) :
  Calls Tryz.prog 262 #[.agg (dv d),.int .i64 t,.int .i64 r,.int .i64 k] w fun e w'=>e = .returned (.int .i64 (d9 d t r k))/\Below w.heap.size w w':=by
 have G:Hid (d9 d t r k=if bB d t=true/\(0<=r/\r<=3)/\(0<=k/\k<d.T)/\0<=ax d t r (bg k) then t * aV d+7+r * d.T+k else -1):=rfl
 have g:Hid (¬(bB d t=true/\(0<=r/\r<=3)/\(0<=k/\k<d.T)/\0<=ax d t r (bg k))):=by rintro ⟨_,_,h,_⟩;have:=qj.1 hk;omega
 have z:=(aU.1 ht).1
 have J:=ay z
 have e3:IntKind.i64.wrap (d.T - 1)=d.T - 1:=IntWalk.i64_in _ (by omega)
 obtain ⟨B,D,H⟩:=hd3 ht hr hk
 have I:=g
 clear ht hr z hk
 go_enter Tryz.func262,Tryz.ntmps262
 go_wp2_with fail
 have j:=aY (w.alloc (.cells (dv d) 36))
 have q:=aP (w.alloc (.cells (dv d) 36))
 refine fO (w.alloc (.cells (dv d) 36)) (by kernel_rfl) (by kernel_rfl) (by first|exact Below.refl _ _|exact u) ?_
 repeat (go_big_quiet_step ((first
  | (go_at_call 216;with_reducible exact aN (jP B.out _))
   | (go_at_call 93;(first|with_reducible exact aQ (bV D.out _)|with_reducible exact aQ (bV H.out _)))
   | (go_at_call 232;with_reducible exact aQ (eU k _ (by omega) (by omega)))
   | (go_at_call 260;with_reducible exact aN (iP I.out B.out (by omega) (by omega) _))
   | (go_at_call 148;with_reducible exact aN (iC d _ (by omega) (by omega))))))
 refine wpQuiet_nil ?_
 rintro _ ⟨⟨K,u⟩,rfl⟩
 (try dsimp only)
 clear j q
 all_goals
  go_wp2_with fail
  go_ret
  exact ⟨aL (by rw [G.out,if_neg g.out]),aA (aB (Below.refl _ _) _) u⟩
theorem zB (d:Dev) (t r k:Int) (w:World) (ht:bB d t=true) (hr:inR r 0 3=true) (hk:inR k 0 (d.T - 1)=true) (hs:ax d t r (bg k)<0) :
  Calls Tryz.prog 262 #[.agg (dv d),.int .i64 t,.int .i64 r,.int .i64 k] w fun e w'=>e = .returned (.int .i64 (d9 d t r k))/\Below w.heap.size w w':=by
 have H:Hid (d9 d t r k=if bB d t=true/\(0<=r/\r<=3)/\(0<=k/\k<d.T)/\0<=ax d t r (bg k) then t * aV d+7+r * d.T+k else -1):=rfl
 have j:Hid (¬(bB d t=true/\(0<=r/\r<=3)/\(0<=k/\k<d.T)/\0<=ax d t r (bg k))):=by rintro ⟨_,_,_,h⟩;omega
 have B:=(aU.1 ht).1
 have Q:=ay B
 have I:=aR.1 hk
 have U:0<=bg k/\bg k<=6:=by unfold bg;omega
 have e3:IntKind.i64.wrap (d.T - 1)=d.T - 1:=IntWalk.i64_in _ (by omega)
 obtain ⟨P,q⟩:∃P,ax d t r (bg k)=P:=⟨_,rfl⟩
 rw [q] at hs
 obtain ⟨D,G,J,K⟩:=hd4 ht hr hk q
 clear ht hr B hk q
 go_enter Tryz.func262,Tryz.ntmps262
 go_wp2_with fail
 have g:=aY (w.alloc (.cells (dv d) 36))
 have u:=aP (w.alloc (.cells (dv d) 36))
 refine fO (w.alloc (.cells (dv d) 36)) (by kernel_rfl) (by kernel_rfl) (by first|exact Below.refl _ _|exact z) ?_
 repeat (go_big_quiet_step ((first
  | (go_at_call 216;with_reducible exact aN (jP D.out _))
   | (go_at_call 93;(first|with_reducible exact aQ (bV G.out _)|with_reducible exact aQ (bV J.out _)))
   | (go_at_call 232;with_reducible exact aQ (eU k _ (by omega) (by omega)))
   | (go_at_call 260;with_reducible exact aN (iP K.out D.out (by omega) (by omega) _))
   | (go_at_call 148;with_reducible exact aN (iC d _ (by omega) (by omega))))))
 refine wpQuiet_nil ?_
 rintro _ ⟨⟨R,z⟩,rfl⟩
 (try dsimp only)
 clear g u
 all_goals
  go_wp2_with fail
  go_ret
  exact ⟨aL (by rw [H.out,if_neg j.out]),aA (aB (Below.refl _ _) _) z⟩
theorem zC (d:Dev) (t r k:Int) (w:World) (ht:bB d t=true) (hr:inR r 0 3=true) (hk:inR k 0 (d.T - 1)=true) (hs:0<=ax d t r (bg k)) :
  Calls Tryz.prog 262 #[.agg (dv d),.int .i64 t,.int .i64 r,.int .i64 k] w fun e w'=>e = .returned (.int .i64 (d9 d t r k))/\Below w.heap.size w w':=by
 have V:Hid (d9 d t r k=if bB d t=true/\(0<=r/\r<=3)/\(0<=k/\k<d.T)/\0<=ax d t r (bg k) then t * aV d+7+r * d.T+k else -1):=rfl
 have D:=(aU.1 ht).1
 have I:=(aU.1 ht).2
 have hT:=ay D
 have ad:=fJ D
 have W:=eP D
 have Z:=aR.1 hk
 have j:=aR.1 hr
 have q:Hid (bB d t=true/\(0<=r/\r<=3)/\(0<=k/\k<d.T)/\0<=ax d t r (bg k)):=⟨ht,j,by omega,hs⟩
 have hL:0<=bg k/\bg k<=6:=by unfold bg;omega
 have e3:IntKind.i64.wrap (d.T - 1)=d.T - 1:=IntWalk.i64_in _ (by omega)
 have U:=jc I.1 (show t<=35 by omega) (show 0<=aV d by omega) W.2
 have J:=jc j.1 j.2 (show 0<=d.T by omega) (show d.T<=4 by omega)
 have z:=Hd (And.intro (IntWalk.wrap64_in (t * aV d) (by omega)) (And.intro (IntWalk.wrap64_in (t * aV d+7) (by omega)) (And.intro (IntWalk.wrap64_in (r * d.T) (by omega)) (And.intro (IntWalk.wrap64_in (t * aV d+7+r * d.T) (by omega)) (IntWalk.wrap64_in (t * aV d+7+r * d.T+k) (by omega))))))
 obtain ⟨P,H⟩:∃P,ax d t r (bg k)=P:=⟨_,rfl⟩
 rw [H] at hs
 obtain ⟨G,K,Q,R⟩:=hd4 ht hr hk H
 have HG:=q
 clear ht hr D hk H U J
 go_enter Tryz.func262,Tryz.ntmps262
 go_wp2_with fail
 have g:=aY (w.alloc (.cells (dv d) 36))
 have u:=aP (w.alloc (.cells (dv d) 36))
 refine fO (w.alloc (.cells (dv d) 36)) (by kernel_rfl) (by kernel_rfl) (by first|exact Below.refl _ _|exact B) ?_
 repeat (go_big_quiet_step ((first
  | (go_at_call 216;with_reducible exact aN (jP G.out _))
   | (go_at_call 93;(first|with_reducible exact aQ (bV K.out _)|with_reducible exact aQ (bV Q.out _)))
   | (go_at_call 232;with_reducible exact aQ (eU k _ (by omega) (by omega)))
   | (go_at_call 260;with_reducible exact aN (iP R.out G.out (by omega) (by omega) _))
   | (go_at_call 148;with_reducible exact aN (iC d _ (by omega) (by omega))))))
 refine wpQuiet_nil ?_
 rintro _ ⟨⟨Y,B⟩,rfl⟩
 (try dsimp only)
 clear g u
 all_goals
  go_wp2_with fail
  have g:=aY (w.alloc (.cells (dv d) 36))
 have u:=aP (w.alloc (.cells (dv d) 36))
 refine fO (w.alloc (.cells (dv d) 36)) (by kernel_rfl) (by kernel_rfl) (by first|exact Below.refl _ _|exact B) ?_
 repeat (go_big_quiet_step ((first
  | (go_at_call 216;with_reducible exact aN (jP G.out _))
   | (go_at_call 93;(first|with_reducible exact aQ (bV K.out _)|with_reducible exact aQ (bV Q.out _)))
   | (go_at_call 232;with_reducible exact aQ (eU k _ (by omega) (by omega)))
   | (go_at_call 260;with_reducible exact aN (iP R.out G.out (by omega) (by omega) _))
   | (go_at_call 148;with_reducible exact aN (iC d _ (by omega) (by omega))))))
 refine wpQuiet_nil ?_
 rintro _ ⟨⟨Y,B⟩,rfl⟩
 (try dsimp only)
 clear g u
 all_goals
  go_wp2_with fail
  go_ret
  exact ⟨aL (by rw [V.out,if_pos HG.out];first|rfl|(rw [z.out.1,z.out.2.1,z.out.2.2.1,z.out.2.2.2.1,z.out.2.2.2.2])),aA (aB (Below.refl _ _) _) B⟩
theorem qy (d:Dev) (t r k:Int) (w:World) :
  Calls Tryz.prog 262 #[.agg (dv d),.int .i64 t,.int .i64 r,.int .i64 k] w fun e w'=>e = .returned (.int .i64 (d9 d t r k))/\Below w.heap.size w w':=by
 cases ht:bB d t with
 | false=>exact y8 d t r k w ht
 | true =>
  cases hr:inR r 0 3 with
  | false=>exact y9 d t r k w ht hr
  | true =>
   cases hk:inR k 0 (d.T - 1) with
   | false=>exact zA d t r k w ht hr hk
   | true =>
    rcases Int.lt_or_le (ax d t r (bg k)) 0 with h|h
    ·exact zB d t r k w ht hr hk h
    exact zC d t r k w ht hr hk h
/-! ### which nodes exist -/
theorem tK (d:Dev) (n:Int) (w:World) (hn:fP d n=false) :
  Calls Tryz.prog 222 #[.agg (dv d),.int .i64 n] w fun e w'=>e = .returned (.bool (bQ d n))/\Below w.heap.size w w':=by
 have D:Hid (bQ d n=false):=by show _=false;unfold bQ;rw [hn];rfl
 have I:=Hd hn
 clear hn
 go_enter Tryz.func222,Tryz.ntmps222
 go_wp2_with fail
 refine (fu d _).mono ?_
 rintro e U ⟨rfl,j⟩
 have G:=Hd (aA (aB (Below.refl _ _) _) j)
 have q:=j.size
 simp only [World.size_alloc] at q
 obtain ⟨hcc,u⟩:=bG j
 clear j
 cases z:dR d with
 | false =>
  go_wp2_with fail
  go_ret
  exact ⟨dC D.out.symm,G.out⟩
 | true =>
  have R:=fZ z
  have B:=Hd z
  clear z
  go_wp2_with fail
  refine (nQ d _ B.out).mono ?_
  rintro e Q ⟨rfl,H⟩
  have J:=Hd (aA G.out H)
  clear H hcc u
  have e3:IntKind.i64.wrap (gH d - 1)=gH d - 1:=IntWalk.i64_in _ (by omega)
  have g:inR n 0 (gH d - 1)=false:=by
   cases h:inR n 0 (gH d - 1) with
   | false=>rfl
   | true =>
    have h1:=I.out
    have h2:=aR.1 h
    rw [fP,B.out,decide_eq_true (by omega),decide_eq_true (by omega)] at h1
    cases h1
  have K:=Hd g
  clear g
  go_wp2_with (go_at_call 93;refine (bV K.out _).mono ?_;rintro e w' ⟨rfl,rfl⟩)
  go_ret
  exact ⟨dC D.out.symm,J.out⟩
theorem uH (d:Dev) (n:Int) (w:World) (hn:fP d n=true) :
  Calls Tryz.prog 222 #[.agg (dv d),.int .i64 n] w fun e w'=>e = .returned (.bool (bQ d n))/\Below w.heap.size w w':=by
 have W:Hid (bQ d n=sS d (n / aV d) (n % aV d)):=by show _=_;unfold bQ;rw [hn];rfl
 have HN:=Hd hn
 obtain ⟨z,n0,n1,au,av,aO,aF⟩:=il hn
 have hT:=ay z
 have hp:=eP z
 have aG:=fJ z
 have hh:=fZ z
 have V:=Hd (lW hn)
 have U:=Hd z
 have e3:IntKind.i64.wrap (gH d - 1)=gH d - 1:=IntWalk.i64_in _ (by omega)
 have HI:Hid (inR n 0 (gH d - 1)=true):=by
  show _=true
  unfold fP at hn
  simp only [Bool.and_eq_true,decide_eq_true_eq] at hn
  rw [aR]
  omega
 clear hn z
 go_enter Tryz.func222,Tryz.ntmps222
 go_wp2_with fail
 refine (fu d _).mono ?_
 rintro e w1 ⟨rfl,J⟩
 rw [U.out]
 have B1:=Hd J
 have Z:=J.size
 simp only [World.size_alloc] at Z
 obtain ⟨hcc,g⟩:=bG J
 clear J
 go_wp2_with fail
 refine (nQ d _ U.out).mono ?_
 rintro e w2 ⟨rfl,b2⟩
 have B2:=Hd (aA B1.out b2)
 have ap:=b2.size
 clear b2 hcc g
 obtain ⟨hcc,g⟩:=bG B2.out
 go_wp2_with (go_at_call 93;refine (bV HI.out _).mono ?_;rintro e w' ⟨rfl,rfl⟩)
 refine (jO d n _ HN.out).mono ?_
 rintro e w3 ⟨rfl,b3⟩
 have R:=Hd (aA B2.out b3)
 have aD:=b3.size
 clear b3 hcc g e3
 obtain ⟨hcc,g⟩:=bG R.out
 have u:=Hd (fun (h7:7<=n % aV d) (w:World)=>uu d n w HN.out h7)
 generalize hk:n % aV d=k at *
 generalize hq:n / aV d=q at *
 have hK:sS d q k=if k<5 then decide (k<jT (bL d q)) else if k<7 then decide (k - 5<eF (bL d q)) else decide (0<=ax d q ((k - 7) / d.T) (bg ((k - 7) % d.T))):=rfl
 have HK:=Hd hK
 have aH:=Hd (And.intro hk hq)
 have aL:=pM d q
 have aK:=iZ d q
 have H:=(fun w=>mV d q w U.out (by omega) (by omega))
 have D:=Hd H
 generalize bL d q=K at *
 clear hK hk hq H
 have h3:k<5∨(¬k<5/\k<7)∨(¬k<5/\¬k<7):=by omega
 rcases h3 with h|⟨h,h'⟩|⟨h,h'⟩
 ·go_wp2_with fail
  refine (D.out _).mono ?_
  rintro e w4 ⟨rfl,j⟩
  have Y:=Hd (aA R.out j)
  clear j hcc g
  generalize G:jT K=Q at *
  have HQ:=Hd G
  clear G
  go_wp2_with (go_at_call 258;refine (tu _ _).mono ?_;rw [HQ.out];rintro e w' ⟨rfl,rfl⟩)
  go_ret
  exact ⟨dC (by rw [W.out,HK.out,if_pos (by omega)]),aA (aB (Below.refl _ _) _) Y.out⟩
 ·go_wp2_with fail
  refine (D.out _).mono ?_
  rintro e w4 ⟨rfl,j⟩
  have Y:=Hd (aA R.out j)
  clear j hcc g
  generalize G:eF K=Q at *
  have HQ:=Hd G
  clear G
  go_wp2_with (go_at_call 259;refine (sM _ _).mono ?_;rw [HQ.out];rintro e w' ⟨rfl,rfl⟩)
  go_ret
  exact ⟨dC (by rw [W.out,HK.out,if_neg (by omega),if_pos (by omega)]),aA (aB (Below.refl _ _) _) Y.out⟩
 have aw:=Int.ediv_nonneg (show 0<=k - 7 by omega) (show 0<=d.T by omega)
 have aM:=Int.emod_nonneg (k - 7) (show d.T≠0 by omega)
 have aq:=Int.emod_lt_of_pos (k - 7) (show 0<d.T by omega)
 go_wp2_with fail
 refine (u.out (by omega) _).mono ?_
 rintro e w4 ⟨rfl,j⟩
 have I:=aA R.out j
 have ar:=j.size
 clear j hcc g
 obtain ⟨hcc,g⟩:=bG I
 generalize (k - 7) / d.T=r at *
 generalize (k - 7) % d.T=m at *
 have hL:0<=bg m/\bg m<=6:=by unfold bg;omega
 have HS:Hid (∃P,ax d q r (bg m)=P):=⟨_,rfl⟩
 obtain ⟨P,hP⟩:=HS.out
 have HP:=Hd hP
 clear hP
 go_wp2_with fail
 clear hcc g
 have B:=aY (w.alloc (.cells (dv d) 36))
 have ad:=aP (w.alloc (.cells (dv d) 36))
 refine fO (w.alloc (.cells (dv d) 36)) (by kernel_rfl) (by kernel_rfl) (by first|exact Below.refl _ _|exact I) ?_
 repeat (go_big_quiet_step ((first
  | (go_at_call 232;with_reducible exact aQ (eU m _ (by omega) (by omega)))
  | (go_at_call 260;with_reducible exact aN (iP HP.out V.out (by omega) (by omega) _)))))
 refine wpQuiet_nil ?_
 rintro _ ⟨⟨w2,I⟩,rfl⟩
 (try dsimp only)
 clear B ad
 go_wp2_with fail
 go_ret
 exact ⟨dC (by rw [W.out,HK.out,if_neg (by omega),if_neg (by omega),HP.out]),aA (aB (Below.refl _ _) _) I⟩
theorem fV (d:Dev) (n:Int) (w:World) :
  Calls Tryz.prog 222 #[.agg (dv d),.int .i64 n] w fun e w'=>e = .returned (.bool (bQ d n))/\Below w.heap.size w w':=by
 cases hn:fP d n with
 | false=>exact tK d n w hn
 | true=>exact uH d n w hn
theorem zD {d:Dev} {t r k s:Int} (h:ax d t ((r+2) % 4) s<0):mO (jk d t r k s)=[]:=by
 have:jk d t r k s=-1:=by
  unfold jk d9
  rw [if_neg]
  rintro ⟨h1,_⟩
  have:=(aU.1 h1).2.1
  omega
 rw [this];rfl
theorem kP {x:Int} (h:0<=x):mO x=[x]:=by unfold mO;rw [if_pos h]
theorem lS {x:Int} (h:x<0):mO x=[]:=by unfold mO;rw [if_neg (by omega)]
theorem xU {b q:Nat} {w w':World} {A u:Option Addr} {n c g j:Nat} {xs:List Int} {x:Int} (h:Own b w A n c xs) (k:Own q w' u g j (ins xs x)):g<=n+1:=by
 have:=rC xs x
 rw [h.len,k.len] at this
 exact this
theorem nR (d:Dev) (t pin r k:Int) (s:Nat):iQ d t pin r k (s+1)=iQ d t pin r k s++mH d t pin r k ((s:Int)+1):=by simp [iQ,List.range_succ]
theorem nS (d:Dev) (t pin r:Int) (k:Nat):jF d t pin r (k+1)=jF d t pin r k++iQ d t pin r (k:Int) (bg (k:Int)).toNat:=by simp [jF,List.range_succ]
theorem nT (d:Dev) (t pin:Int) (r:Nat):iH d t pin (r+1)=iH d t pin r++jF d t pin (r:Int) d.T.toNat:=by simp [iH,List.range_succ]
theorem C9 {d:Dev} {t pin r k:Int} {s:Nat} (g:pin<7) (h:tQ d pin k=false):iQ d t pin r k s=[]:=by
 unfold iQ
 rw [List.flatMap_eq_nil_iff]
 intro j _
 unfold mH mG
 rw [if_neg (show ¬7<=pin by omega),h]
 rfl
theorem D9 {d:Dev} {t pin r k s:Int} (g:pin<7) (h:tQ d pin k=true):mH d t pin r k s=mO (jk d t r k s):=by
 unfold mH mG
 rw [if_neg (show ¬7<=pin by omega),h,if_pos rfl]
theorem uw (d:Dev) (t pin:Int) (w:World) (ht:bB d t=true) (p0:0<=pin) (p5:pin<5) :
  Calls Tryz.prog 236 #[.agg (dv d),.int .i64 t,.int .i64 pin] w fun e w'=>∃A n c,e = .returned (.slice A n c)/\Own w.heap.size w' A n c (asc (iH d t pin 4))/\Below w.heap.size w w':=by
 have HT:=Hd ht
 have aT:=ay (aU.1 ht).1
 have aG:=Hd (aB (Below.refl w.heap.size w) (.cells (dv d) 36))
 have au:=fun r=>Hd (nT d t pin r)
 clear ht
 go_enter Tryz.func236,Tryz.ntmps236
 go_wp2_with fail
 go_loopw [7,8] (fun v i wr=>∃(r:Nat) (A:Option Addr) (n c:Nat),r<=4/\i = .int .i64 r/\v = .slice A n c/\n<=8 * r/\Own w.heap.size wr A n c (asc (iH d t pin r))/\Below (w.alloc (.cells (dv d) 36)).heap.size (w.alloc (.cells (dv d) 36)) wr) (fun _ i _=>4 - (intOf i).toNat)
 ·exact ⟨0,none,0,0,by omega,rfl,rfl,by omega,by simpa [iH,asc] using Own.nil,Below.refl _ _⟩
 obtain ⟨r,A,n,c,hr,rfl,rfl,hn,ho,j⟩:=hrel
 obtain ⟨B,D⟩:=hd2 ho j
 have hs:=j.size
 simp only [World.size_alloc] at hs
 clear ho j
 by_cases a2:r<4
 ·have aR:decide ((r:Int)<4)=true:=by simp;omega
  go_wp2_with fail
  go_loopw [7,9] (fun v i wr=>∃(k:Nat) (A:Option Addr) (n c:Nat),(k:Int)<=d.T/\i = .int .i64 k/\v = .slice A n c/\n<=8 * r+2 * k/\Own w.heap.size wr A n c (asc (iH d t pin r++jF d t pin (r:Int) k))/\Below (w.alloc (.cells (dv d) 36)).heap.size (w.alloc (.cells (dv d) 36)) wr) (fun _ i _=>d.T.toNat - (intOf i).toNat)
  ·exact ⟨0,A,n,c,by omega,rfl,rfl,by omega,by simpa [jF] using B.out,D.out⟩
  obtain ⟨k,A,n,c,hk,rfl,rfl,hn,ho,j⟩:=hrel
  obtain ⟨B,D⟩:=hd2 ho j
  have hs:=j.size
  simp only [World.size_alloc] at hs
  obtain ⟨hcc,u⟩:=bG j
  have ah:=Hd (nS d t pin (r:Int) k)
  clear ho j
  by_cases Y:(k:Int)<d.T
  ·have aX:decide ((k:Int)<d.T)=true:=by simpa using Y
   have hL:bg (k:Int)=1+(k:Int) % 2:=rfl
   have aQ:=Hd hL
   have aS:1<=bg (k:Int)/\bg (k:Int)<=2:=by rw [hL];omega
   clear hL
   have e1:((k:Int)+pin).tmod 2=((k:Int)+pin) % 2:=Int.tmod_eq_emod_of_nonneg (by omega)
   have af:tQ d pin (k:Int)=!(decide (d.T>1) && decide (((k:Int)+pin) % 2=1)):=rfl
   have J:=Hd af
   clear af
   have aY:0<=((k:Int)+pin) % 2/\((k:Int)+pin) % 2<=1:=by omega
   generalize ((k:Int)+pin) % 2=z at *
   by_cases Q:d.T>1/\z=1
   ·obtain ⟨G,rfl⟩:=Q
    have Z:=Hd (C9 (d:=d) (t:=t) (pin:=pin) (r:=(r:Int)) (k:=(k:Int)) (s:=(bg (k:Int)).toNat) (by omega) (by rw [J.out,decide_eq_true G];rfl))
    go_wp2_with fail
    go_roundw
    ·exact ⟨k+1,A,n,c,by omega,by go_num,rfl,by omega,by rw [ah.out,Z.out,List.append_nil];exact B.out,D.out⟩
    simp [intOf];omega
   have aD:Hid (tQ d pin (k:Int)=true):=by
    show _=true
    rw [J.out]
    simp
    omega
   have aE:(d.T>1/\z=0)∨¬d.T>1:=by omega
   have H:=fun s=>Hd (nR d t pin (r:Int) (k:Int) s)
   have q:=fun s=>Hd (D9 (d:=d) (t:=t) (r:=(r:Int)) (k:=(k:Int)) (s:=s) (show pin<7 by omega) aD.out)
   clear J
   rcases aE with ⟨G,rfl⟩|G
   all_goals
    go_wp2_with fail
    go_loopw [7,10] (fun v i wr=>∃(s:Nat) (A:Option Addr) (n c:Nat),(s:Int)<=bg (k:Int)/\i = .int .i64 ((s:Int)+1)/\v = .slice A n c/\n<=8 * r+2 * k+s/\Own w.heap.size wr A n c (asc (iH d t pin r++jF d t pin (r:Int) k++iQ d t pin (r:Int) (k:Int) s))/\Below (w.alloc (.cells (dv d) 36)).heap.size (w.alloc (.cells (dv d) 36)) wr) (fun _ i _=>4 - (intOf i).toNat)
    ·exact ⟨0,A,n,c,by omega,rfl,rfl,by omega,by simpa [iQ] using B.out,D.out⟩
    obtain ⟨s,A,n,c,aZ,rfl,rfl,hn,ho,j⟩:=hrel
    obtain ⟨B,D⟩:=hd2 ho j
    have hs:=j.size
    simp only [World.size_alloc] at hs
    clear hcc u
    obtain ⟨hcc,u⟩:=bG j
    clear ho j
    by_cases a1:(s:Int)+1<=bg (k:Int)
    ·generalize hP:ax d t (((r:Int)+2) % 4) ((s:Int)+1)=P at *
     have HP:=Hd hP
     have az:=kL (d:=d) (t:=t) (r:=((r:Int)+2) % 4) (s:=(s:Int)+1) (aU.1 HT.out).1
     rw [hP] at az
     have aV:=fJ (aU.1 HT.out).1
     clear hP
     generalize g:bg (k:Int)=L at *
     have K:=Hd g
     clear g
     go_wp2_with (go_at_call 232;refine (eU (k:Int) _ (by omega) (by omega)).mono ?_;rw [K.out];rintro e w' ⟨rfl,rfl⟩)
     refine (iP HP.out HT.out (by omega) (by omega) _).mono ?_
     rintro e w2 ⟨rfl,b2⟩
     have R:=Hd (aA D.out b2)
     have ae:=Hd (B.out.below b2)
     have aW:=b2.size
     clear b2 hcc u
     obtain ⟨hcc,u⟩:=bG R.out
     by_cases am:P<0
     ·have HC:=Hd (zD (d:=d) (t:=t) (r:=(r:Int)) (k:=(k:Int)) (s:=(s:Int)+1) (by rw [HP.out];exact am))
      go_wp2_with fail
      go_roundw
      ·exact ⟨s+1,A,n,c,by omega,by go_num,rfl,by omega,by rw [(H s).out,(q _).out,HC.out,List.append_nil];exact ae.out,R.out⟩
      simp [intOf];omega
     generalize hC:jk d t (r:Int) (k:Int) ((s:Int)+1)=C at *
     have HC:Hid (d9 d P (r:Int) (k:Int)=C):=by show _=C;rw [←hC,jk,HP.out]
     have W:=Hd hC
     clear hC
     go_wp2_with fail
     refine (qy d P (r:Int) (k:Int) _).mono ?_
     rw [HC.out]
     rintro e w3 ⟨rfl,b3⟩
     have ag:=Hd (aA R.out b3)
     have I:=Hd (ae.out.below b3)
     have a0:=b3.size
     clear b3 hcc u
     by_cases aL:C≥0
     ·have U:=Hd (kP (x:=C) (by omega))
      go_wp2_with fail
      refine (jR w.heap.size A n c _ C _ I.out (by omega) (by omega)).mono ?_
      rintro e w4 ⟨A4,n4,c4,rfl,o4,b4⟩
      have aP:=xU I.out o4
      have aw:=Hd o4
      have av:=Hd (aA ag.out b4)
      clear o4 b4
      go_wp2_with fail
      go_roundw
      ·exact ⟨s+1,A4,n4,c4,by omega,by go_num,rfl,by omega,by rw [(H s).out,(q _).out,W.out,U.out,←List.append_assoc,qA];exact aw.out,av.out⟩
      simp [intOf];omega
     have U:=Hd (lS (x:=C) (by omega))
     go_wp2_with fail
     go_roundw
     ·exact ⟨s+1,A,n,c,by omega,by go_num,rfl,by omega,by rw [(H s).out,(q _).out,W.out,U.out,List.append_nil];exact I.out,ag.out⟩
     simp [intOf];omega
    have ad:(bg (k:Int)).toNat=s:=by omega
    have aI:=Hd ad
    clear ad
    generalize g:bg (k:Int)=L at *
    have K:=Hd g
    clear g
    go_wp2_with (go_at_call 232;refine (eU (k:Int) _ (by omega) (by omega)).mono ?_;rw [K.out];rintro e w' ⟨rfl,rfl⟩)
    go_roundw
    ·exact ⟨k+1,A,n,c,by omega,by go_num,rfl,by omega,by rw [ah.out,aI.out,←List.append_assoc];exact B.out,D.out⟩
    simp [intOf];omega
  have V:d.T=(k:Int):=by omega
  have al:=Hd V
  have aK:¬(k:Int)<d.T:=Y
  clear V
  go_wp2_with fail
  go_roundw
  ·exact ⟨r+1,A,n,c,by omega,by go_num,rfl,by omega,by rw [(au r).out,show d.T.toNat=k by have:=al.out;omega];exact B.out,D.out⟩
  simp [intOf];omega
 have ao:r=4:=by omega
 subst ao
 go_wp2_with fail
 go_ret
 exact ⟨A,n,c,rfl,B.out,aA aG.out D.out⟩
def qM (d:Dev) (t:Int) (p:Nat):List Int:=(List.range p).flatMap fun (j:Nat)=>mO (eX d t (j:Int))
def rT (d:Dev) (g:Int) (i:Nat):Int:=if i=0 then g else (g+1) % d.T
def wRi (d:Dev) (t r g:Int) (i:Nat):List Int:=(List.range i).flatMap fun (j:Nat)=>mO (jk d t r (rT d g j) (bg (rT d g j)))
def wR (d:Dev) (t j g r:Int):List Int:=if r=(j+2) % 4 then [] else wRi d t r g 2
def wA (d:Dev) (t q g:Int) (r:Nat):List Int:=(List.range r).flatMap fun (j:Nat)=>wR d t q g (j:Int)
theorem Ah (d:Dev) (t:Int) (p:Nat):qM d t (p+1)=qM d t p++mO (eX d t (p:Int)):=by simp [qM,List.range_succ]
theorem EB (d:Dev) (t r g:Int) (i:Nat):wRi d t r g (i+1)=wRi d t r g i++mO (jk d t r (rT d g i) (bg (rT d g i))):=by simp [wRi,List.range_succ]
theorem Ew (d:Dev) (t j g:Int) (r:Nat):wA d t j g (r+1)=wA d t j g r++wR d t j g (r:Int):=by simp [wA,List.range_succ]
theorem DC {d:Dev} {t y:Int} (ht:bB d t=true):y∈qM d t 2↔y∈jC d t:=by
 rw [vM]
 have q:=iZ d t
 simp only [qM,List.mem_flatMap,List.mem_range,qg]
 constructor
 ·rintro ⟨j,hj,rfl,h0⟩
  refine ⟨(j:Int),?_,rfl⟩
  unfold eX at h0
  split at h0
  ·rename_i h;exact h.2
  omega
 rintro ⟨p,g,rfl⟩
 refine ⟨p.toNat,by omega,by rw [show ((p.toNat:Nat):Int)=p by omega],?_⟩
 rw [show ((p.toNat:Nat):Int)=p by omega]
 exact (qD ht g.1 g.2).2.2
theorem Bi {d:Dev} {g:Int} (j:dR d=true) (h0:0<=g) (h1:g<d.T) (i:Nat):0<=rT d g i/\rT d g i<d.T:=by
 have:=ay j
 unfold rT
 split
 ·omega
 exact ⟨Int.emod_nonneg _ (by omega),Int.emod_lt_of_pos _ (by omega)⟩
theorem Ai {d:Dev} {t pin:Int} (ht:bB d t=true) (u:7<=pin):asc (qM d t 2++wA d t ((pin - 7) / d.T) ((pin - 7) % d.T) 4)=asc (jl d t pin):=by
 have z:=(aU.1 ht).1
 have G:=ay z
 have k0:=Int.emod_nonneg (pin - 7) (show d.T≠0 by omega)
 have D:=Int.emod_lt_of_pos (pin - 7) (show 0<d.T by omega)
 have j:=fun i=>Bi z k0 D i
 refine DX fun y=>?_
 unfold jl
 rw [List.mem_append,List.mem_append,DC ht,if_pos u,vK z]
 refine or_congr Iff.rfl ?_
 simp only [wA,List.mem_flatMap,List.mem_range]
 constructor
 ·rintro ⟨r,hr,h⟩
  unfold wR at h
  split at h
  ·simp at h
  rename_i g
  simp only [wRi,List.mem_flatMap,List.mem_range,qg] at h
  obtain ⟨i,hi,rfl,h0⟩:=h
  refine ⟨(r:Int),_,bg _,by omega,j i,⟨by unfold bg;have:=j i;omega,Int.le_refl _⟩,?_,rfl,h0⟩
  unfold mG uR
  rw [if_pos u]
  simp only [Bool.and_eq_true,Bool.or_eq_true,decide_eq_true_eq]
  refine ⟨g,?_⟩
  unfold rT
  split <;> simp
 rintro ⟨r,k,s,hr,hk,hs,q,rfl,h0⟩
 unfold mG uR at q
 rw [if_pos u] at q
 simp only [Bool.and_eq_true,Bool.or_eq_true,decide_eq_true_eq] at q
 obtain ⟨g,B,rfl⟩:=q
 refine ⟨r.toNat,by omega,?_⟩
 rw [show ((r.toNat:Nat):Int)=r by omega]
 unfold wR
 rw [if_neg g]
 simp only [wRi,List.mem_flatMap,List.mem_range,qg]
 rcases B with rfl|rfl
 ·exact ⟨0,by omega,by simp [rT],by simpa [rT] using h0⟩
 exact ⟨1,by omega,by simp [rT],by simpa [rT] using h0⟩
theorem EC {d:Dev} {t r k:Int} (ht:bB d t=true) (hr:0<=r/\r<=3) (hk:0<=k/\k<d.T) (h:0<=ax d t ((r+2) % 4) (bg k)):0<=jk d t r k (bg k):=by
 have j:=(aU.1 ht).1
 have u:=ay j
 have z:=eP j
 have g:=(pK j h).2.1
 have q:=DW ht hr.1 hr.2 h
 unfold jk d9
 rw [if_pos ⟨g,hr,hk,by rw [q];exact (aU.1 ht).2.1⟩]
 have h1:=Int.mul_nonneg (aU.1 g).2.1 (show 0<=aV d by omega)
 have h2:=Int.mul_nonneg hr.1 (show 0<=d.T by omega)
 omega
theorem uI (d:Dev) (t q g:Int) (w:World) (ht:bB d t=true) (r0:0<=q) (r3:q<=3) (k0:0<=g) (k1:g<d.T) :
  Calls Tryz.prog 237 #[.agg (dv d),.int .i64 t,.int .i64 q,.int .i64 g] w fun e w'=>∃A n c,e = .returned (.slice A n c)/\Own w.heap.size w' A n c (asc (qM d t 2++wA d t q g 4))/\Below w.heap.size w w':=by
 have HT:=Hd ht
 have bw:=ay (aU.1 ht).1
 have bz:=fJ (aU.1 ht).1
 have aL:=Hd (fun i=>Bi (aU.1 ht).1 k0 k1 i)
 have bh:=Hd (aB (Below.refl w.heap.size w) (.cells (dv d) 36))
 have am:=fun r=>Hd (Ew d t q g r)
 have ah:=fun p=>Hd (Ah d t p)
 clear ht
 go_enter Tryz.func237,Tryz.ntmps237
 go_wp2_with fail
 go_loopw [9,10] (fun v i wr=>∃(p:Nat) (A:Option Addr) (n c:Nat),p<=2/\i = .int .i64 p/\v = .slice A n c/\n<=p/\Own w.heap.size wr A n c (asc (qM d t p))/\Below (w.alloc (.cells (dv d) 36)).heap.size (w.alloc (.cells (dv d) 36)) wr) (fun _ i _=>2 - (intOf i).toNat)
 ·exact ⟨0,none,0,0,by omega,rfl,rfl,by omega,by simpa [qM,asc] using Own.nil,Below.refl _ _⟩
 obtain ⟨p,A,n,c,hp,rfl,rfl,hn,ho,B⟩:=hrel
 obtain ⟨I,J⟩:=hd2 ho B
 have hs:=B.size
 simp only [World.size_alloc] at hs
 obtain ⟨hcc,z⟩:=bG B
 clear ho B
 by_cases av:p<2
 ·have a0:decide ((p:Int)<2)=true:=by simp;omega
  generalize Z:eX d t (p:Int)=C at *
  have Q:=Hd Z
  clear Z
  go_wp2_with fail
  refine (uA d t (p:Int) _).mono ?_
  rw [Q.out]
  rintro e w2 ⟨rfl,b2⟩
  have D:=Hd (aA J.out b2)
  have G:=Hd (I.out.below b2)
  have bb:=b2.size
  clear b2 hcc z
  by_cases aF:C≥0
  ·have H:=Hd (kP (x:=C) (by omega))
   go_wp2_with fail
   refine (jR w.heap.size A n c _ C _ G.out (by omega) (by omega)).mono ?_
   rintro e w4 ⟨A4,n4,c4,rfl,U,Y⟩
   have aK:=xU G.out U
   have W:=Hd U
   have V:=Hd (aA D.out Y)
   clear U Y
   go_wp2_with fail
   go_roundw
   ·exact ⟨p+1,A4,n4,c4,by omega,by go_num,rfl,by omega,by rw [(ah p).out,Q.out,H.out,qA];exact W.out,V.out⟩
   simp [intOf];omega
  have H:=Hd (lS (x:=C) (by omega))
  go_wp2_with fail
  go_roundw
  ·exact ⟨p+1,A,n,c,by omega,by go_num,rfl,by omega,by rw [(ah p).out,Q.out,H.out,List.append_nil];exact G.out,D.out⟩
  simp [intOf];omega
 have af:p=2:=by omega
 have a9:=Hd af
 have bA:n<=2:=by omega
 have a0:decide ((p:Int)<2)=false:=by simp;omega
 clear af hcc z
 go_wp2_with fail
 go_loopw [9,12] (fun v i wr=>∃(r:Nat) (A:Option Addr) (n c:Nat),r<=4/\i = .int .i64 r/\v = .slice A n c/\n<=2+2 * r/\Own w.heap.size wr A n c (asc (qM d t 2++wA d t q g r))/\Below (w.alloc (.cells (dv d) 36)).heap.size (w.alloc (.cells (dv d) 36)) wr) (fun _ i _=>4 - (intOf i).toNat)
 ·exact ⟨0,A,n,c,by omega,rfl,rfl,by omega,by rw [←a9.out];simpa [wA] using I.out,J.out⟩
 obtain ⟨r,A,n,c,hr,rfl,rfl,hn,ho,B⟩:=hrel
 obtain ⟨wo,rfl⟩:∃x,x=wr:=⟨wr,rfl⟩
 obtain ⟨I,J⟩:=hd2 ho B
 have hs:=B.size
 simp only [World.size_alloc] at hs
 obtain ⟨hcc,z⟩:=bG B
 clear ho B
 by_cases av:r<4
 ·have bt:decide ((r:Int)<4)=true:=by simp;omega
  by_cases u:(r:Int)=(q+2) % 4
  ·have HW:Hid (wR d t q g (r:Int)=[]):=by show _=_;unfold wR;rw [if_pos u]
   have bm:=Hd u
   have e1:((r:Int)==(q+2) % 4)=true:=by simpa using u
   clear u
   go_wp2_with fail
   go_roundw
   ·exact ⟨r+1,A,n,c,by omega,by go_num,rfl,by omega,by rw [(am r).out,HW.out,List.append_nil];exact I.out,J.out⟩
   simp [intOf];omega
  have HW:Hid (wR d t q g (r:Int)=wRi d t (r:Int) g 2):=by show _=_;unfold wR;rw [if_neg u]
  have e1:((r:Int)==(q+2) % 4)=false:=by simpa using u
  have e0:¬d.T=0:=by omega
  have e2:(g+1).tmod d.T=(g+1) % d.T:=Int.tmod_eq_emod_of_nonneg (by omega)
  have ao:=fun i=>Hd (EB d t (r:Int) g i)
  have bc:Hid (rT d g 0=g):=rfl
  have ai:Hid (rT d g 1=(g+1) % d.T):=rfl
  have R:=(aL.out 1)
  rw [ai.out] at R
  clear u
  generalize (g+1) % d.T=j at *
  have ar:=aB J.out (.cells #[.int .i64 g,.int .i64 j] 3)
  have a8:=Hd ar
  have aS:=Hd (aI wo (.cells #[.int .i64 g,.int .i64 j] 3))
  have bd:=Hd (I.out.below (aB (Below.refl _ _) (.cells #[.int .i64 g,.int .i64 j] 3)))
  clear ar
  go_wp2_with fail
  clear hcc z
  go_loopw [9,46] (fun v i wi=>∃(i':Nat) (A:Option Addr) (n c:Nat),i'<=2/\i = .int .i64 i'/\v = .slice A n c/\n<=2+2 * r+i'/\wi.heap[wo.heap.size]?=some (.cells #[.int .i64 g,.int .i64 j] 3 (0,0))/\Own w.heap.size wi A n c (asc (qM d t 2++wA d t q g r++wRi d t (r:Int) g i'))/\Below (w.alloc (.cells (dv d) 36)).heap.size (w.alloc (.cells (dv d) 36)) wi) (fun _ i _=>2 - (intOf i).toNat)
  ·exact ⟨0,A,n,c,by omega,rfl,rfl,by omega,aS.out,by simpa [wRi] using bd.out,a8.out⟩
  obtain ⟨i,A,n,c,hi,rfl,rfl,hn,hx,ho,B⟩:=hrel
  obtain ⟨I,J,HX⟩:=hd3 ho B hx
  have hs:=B.size
  simp only [World.size_alloc] at hs
  obtain ⟨hcc,z⟩:=bG B
  obtain ⟨x0,x1,bq⟩:=jv hx
  clear ho B hx
  by_cases av:i<2
  ·have a1:decide ((i:Int)<2)=true:=by simp;omega
   have be:∃K:Int,rT d g i=K/\wr.cell? ⟨wo.heap.size,i,none⟩=some (.int .i64 K)/\0<=K/\K<d.T:=by
    have:i=0∨i=1:=by omega
    rcases this with rfl|rfl
    ·exact ⟨g,bc.out,x0,k0,k1⟩
    exact ⟨j,ai.out,x1,R.1,R.2⟩
   obtain ⟨K,ak,aZ,aO,a4⟩:=be
   have ae:=Hd ak
   have hL:bg K=1+K % 2:=rfl
   have bu:1<=bg K/\bg K<=2:=by rw [hL];omega
   have aT:=Hd (fun h=>EC (d:=d) (t:=t) (r:=(r:Int)) (k:=K) HT.out (by omega) ⟨aO,a4⟩ h)
   have a2:=Hd (fun h=>zD (d:=d) (t:=t) (r:=(r:Int)) (k:=K) (s:=bg K) h)
   generalize hP:ax d t (((r:Int)+2) % 4) (bg K)=P at *
   have HP:=Hd hP
   have a7:=kL (d:=d) (t:=t) (r:=((r:Int)+2) % 4) (s:=bg K) (aU.1 HT.out).1
   rw [hP] at a7
   have i0:(0:Int)<=(i:Int):=by omega
   have aR:=Hd (fun w=>eU K w (by omega) (by omega))
   generalize aj:bg K=L at *
   have ag:=Hd aj
   clear ak hL hP x0 x1 aj
   have e3:((r:Int)+2).tmod 4=((r:Int)+2) % 4:=Int.tmod_eq_emod_of_nonneg (by omega)
   have e4:IntKind.i64.wrap ((r:Int)+2)=(r:Int)+2:=IntWalk.i64_in _ (by omega)
   go_wp2_with fail
   have br:w.heap.size<wr.heap.size:=by omega
   have aq:=aY wr
   have aX:=aP wr
   refine wpB wr ?_
   repeat (go_big_quiet_step ((first
    | (go_at_call 232;with_reducible exact aQ (aR.out _))
    | (go_at_call 260;with_reducible exact aN (iP HP.out HT.out (by omega) (by omega) _)))))
   refine wpQuiet_nil ?_
   rintro _ ⟨⟨w2,hD⟩,rfl⟩
   clear aq aX hcc z
   have D:=Hd (aA J.out hD)
   have G:=Hd (I.out.below hD)
   have au:=Hd (aD hD HX.out)
   have bb:=hD.size
   obtain ⟨hcc,z⟩:=bG D.out
   clear e3 e4 hD aZ
   by_cases bs:P≥0
   ·have aF:=aT.out (by omega)
    generalize Z:jk d t (r:Int) K L=C at *
    have Q:Hid (d9 d P (r:Int) K=C):=by show _=C;rw [←Z,jk,HP.out]
    have aM:=Hd Z
    clear Z
    have H:=Hd (kP (x:=C) (by omega))
    go_wp2_with fail
    refine (qy d P (r:Int) K _).mono ?_
    rw [Q.out]
    rintro e w3 ⟨rfl,b3⟩
    have bj:=Hd (aA D.out b3)
    have al:=Hd (G.out.below b3)
    have a3:=Hd (aD b3 au.out)
    have bC:=b3.size
    clear b3 hcc z
    go_wp2_with fail
    refine (jR w.heap.size A n c _ C _ al.out (by omega) (by omega)).mono ?_
    rintro e w4 ⟨A4,n4,c4,rfl,U,Y⟩
    have aK:=xU al.out U
    have W:=Hd U
    have V:=Hd (aA bj.out Y)
    have aE:=Hd (aD Y a3.out)
    clear U Y
    go_wp2_with fail
    go_roundw
    ·exact ⟨i+1,A4,n4,c4,by omega,by go_num,rfl,by omega,aE.out,by rw [(ao i).out,ae.out,ag.out,aM.out,H.out,←List.append_assoc,qA];exact W.out,V.out⟩
    simp [intOf];omega
   have Q:=Hd (a2.out (by omega))
   go_wp2_with fail
   go_roundw
   ·exact ⟨i+1,A,n,c,by omega,by go_num,rfl,by omega,au.out,by rw [(ao i).out,ae.out,ag.out,Q.out,List.append_nil];exact G.out,D.out⟩
   simp [intOf];omega
  obtain rfl:i=2:=by omega
  have a1:decide ((2:Int)<2)=false:=by decide
  clear x0 x1
  go_wp2_with fail
  go_roundw
  ·exact ⟨r+1,A,n,c,by omega,by go_num,rfl,by omega,by rw [(am r).out,HW.out,←List.append_assoc];exact I.out,J.out⟩
  simp [intOf];omega
 obtain rfl:r=4:=by omega
 go_wp2_with fail
 go_ret
 exact ⟨A,n,c,rfl,I.out,aA bh.out J.out⟩
theorem ED {d:Dev} {n:Int} (h:bQ d n=true) (hk:n % aV d<5):fe d n=asc (iH d (n / aV d) (n % aV d) 4):=by
 rw [fe,if_pos ⟨h,by omega⟩,jl,if_neg (by omega)]
 rfl
theorem zF {d:Dev} {n:Int} (hk:n % aV d=5∨n % aV d=6):fe d n=[]:=by rw [fe,if_neg (by rintro ⟨_,h⟩;exact h hk)]
theorem Bj {d:Dev} {n:Int} (h:bQ d n=false):fe d n=[]:=by rw [fe,h];simp
theorem DD {d:Dev} {n:Int} (h:bQ d n=true) (hk:7<=n % aV d):fe d n=asc (qM d (n / aV d) 2++wA d (n / aV d) ((n % aV d - 7) / d.T) ((n % aV d - 7) % d.T) 4):=by
 have g:=h
 unfold bQ at g
 rw [Bool.and_eq_true] at g
 rw [fe,if_pos ⟨h,by omega⟩,Ai (lW g.1) hk]
theorem sN (d:Dev) (n:Int) (w:World) :
  Calls Tryz.prog 149 #[.agg (dv d),.int .i64 n] w fun e w'=>∃A m c,e = .returned (.slice A m c)/\Own w.heap.size w' A m c (fe d n)/\Below w.heap.size w w':=by
 have D:=Hd (aB (Below.refl w.heap.size w) (.cells (dv d) 36))
 go_enter Tryz.func149,Tryz.ntmps149
 go_wp2_with fail
 cases g:bQ d n with
 | false =>
  have J:=Hd (Bj g)
  refine (fV d n _).mono ?_
  rw [g]
  rintro e w1 ⟨rfl,I⟩
  have G:=Hd (aA D.out I)
  clear I g
  go_wp2_with fail
  go_ret
  exact ⟨none,0,0,rfl,by rw [J.out];exact Own.nil,G.out⟩
 | true =>
  have z:fP d n=true:=by unfold bQ at g;rw [Bool.and_eq_true] at g;exact g.1
  have Q:=Hd (lW z)
  have ah:=Hd z
  obtain ⟨hd,n0,n1,am,ao,ax,ae⟩:=il z
  have hT:=ay hd
  have hp:=eP hd
  have Z:=Hd (fun h=>ED g h)
  have Y:=Hd (fun h=>DD g h)
  have W:=Hd (fun h=>zF (d:=d) (n:=n) h)
  have ag:=Hd (fun h w=>uu d n w z h)
  refine (fV d n _).mono ?_
  rw [g]
  rintro e w1 ⟨rfl,I⟩
  have G:=Hd I
  have V:=I.size
  simp only [World.size_alloc] at V
  obtain ⟨hcc,j⟩:=bG I
  clear I g z hd
  go_wp2_with fail
  refine (jO d n _ ah.out).mono ?_
  rintro e w2 ⟨rfl,b2⟩
  have B:=Hd (aA G.out b2)
  have au:=b2.size
  clear b2 hcc j
  obtain ⟨hcc,j⟩:=bG B.out
  generalize n % aV d=k at *
  generalize n / aV d=q at *
  have h3:k<5∨(¬k<5/\k<7)∨(¬k<5/\¬k<7):=by omega
  rcases h3 with h|⟨h,h'⟩|⟨h,h'⟩
  ·go_wp2_with fail
   refine (uw d q k _ Q.out (by omega) (by omega)).mono ?_
   rintro e w3 ⟨A3,n3,c3,rfl,K,R⟩
   have J:=Hd (Z.out (by omega))
   have u:=Hd (aA D.out (aA B.out R))
   have H:=Hd K
   clear R K hcc j
   go_wp2_with fail
   go_ret
   exact ⟨A3,n3,c3,rfl,by rw [J.out];exact H.out.more (by omega),u.out⟩
  ·have J:=Hd (W.out (by omega))
   have u:=Hd (aA D.out B.out)
   clear hcc j
   go_wp2_with fail
   go_ret
   exact ⟨none,0,0,rfl,by rw [J.out];exact Own.nil,u.out⟩
  have ap:=Int.ediv_nonneg (show 0<=k - 7 by omega) (show 0<=d.T by omega)
  have aw:=Int.emod_nonneg (k - 7) (show d.T≠0 by omega)
  have al:=Int.emod_lt_of_pos (k - 7) (show 0<d.T by omega)
  have ar:(k - 7) / d.T<=3:=by
   have:(k - 7) / d.T<4:=Int.ediv_lt_of_lt_mul (by omega) (by unfold aV at ae;omega)
   omega
  go_wp2_with fail
  refine (ag.out (by omega) _).mono ?_
  rintro e w4 ⟨rfl,b4⟩
  have U:=Hd (aA B.out b4)
  have aj:=b4.size
  have J:=Hd (Y.out (by omega))
  clear b4 hcc j
  obtain ⟨hcc,j⟩:=bG U.out
  generalize (k - 7) / d.T=r at *
  generalize (k - 7) % d.T=m at *
  go_wp2_with fail
  refine (uI d q r m _ Q.out (by omega) (by omega) (by omega) (by omega)).mono ?_
  rintro e w3 ⟨A3,n3,c3,rfl,K,R⟩
  have u:=Hd (aA D.out (aA U.out R))
  have H:=Hd K
  clear R K hcc j
  go_wp2_with fail
  go_ret
  exact ⟨A3,n3,c3,rfl,by rw [J.out];exact H.out.more (by omega),u.out⟩
theorem dw {n lo hi:Int} {b:Bool} (h:inR n lo hi=b) (w:World):Calls Tryz.prog 83 #[.int .i64 n,.int .i64 lo,.int .i64 hi] w fun e w'=>e = .returned (.bool b)/\w=w':=by
 have:=aj n lo hi w
 rwa [h] at this
theorem kQ {a b:Int} (g:-9223372036854775808<=b/\b<=9223372036854775807) (h:-9223372036854775808<=a+b/\a+b<=9223372036854775807):IntKind.i64.wrap (a+IntKind.i64.wrap b)=a+b:=by rw [IntWalk.i64_in b g,IntWalk.i64_in _ h]
def zG (X:Int) (g:World) (s:Value) (j:World):Prop:=s = .int .i64 X/\Below g.heap.size g j
theorem iA (d:Dev) (t:Int) (w:World) (ht:bB d t=true) :
  Calls Tryz.prog 113 #[.agg (dv d),.int .i64 t] w fun e w'=>e = .returned (.int .i64 (bL d t))/\Below w.heap.size w w':=by
 obtain ⟨g,h0,h1⟩:=aU.1 ht
 have j:=fJ g
 have:=rA d t w (by omega)
 rwa [zY g h0 h1] at this
theorem qz (d:Dev) (t:Int) (w:World) (ht:bB d t=false) (g:t<=1099511627776) :
  Calls Tryz.prog 113 #[.agg (dv d),.int .i64 t] w fun e w'=>e = .returned (.int .i64 (-1))/\Below w.heap.size w w':=by
 have:=rA d t w g
 have e:kE d t=-1:=by
  unfold kE
  rw [if_neg]
  intro h
  rw [aU.2 h] at ht
  cases ht
 rwa [e] at this
theorem eH (d:Dev) (w:World) (h0:0<=d.T) (h1:d.T<=1099511627776) :
  Calls Tryz.prog 68 #[.agg (dv d)] w fun e w'=>e = .returned (.int .i64 (aV d))/\Below w.heap.size w w':=by
 unfold aV
 go_enter Tryz.func68,Tryz.ntmps68
 go_wp2
 go_ret
 exact ⟨rfl,aB (Below.refl _ _) _⟩
def ik (d:Dev):Int:=if dR d=true then gH d else 0
theorem gP (d:Dev) (w:World) :
  Calls Tryz.prog 116 #[.agg (dv d)] w fun e w'=>e = .returned (.int .i64 (ik d))/\Below w.heap.size w w':=by
 go_enter Tryz.func116,Tryz.ntmps116
 go_wp2_with fail
 refine (fw d _).mono ?_
 rintro e q ⟨rfl,u⟩
 have G:=Hd (aA (aB (Below.refl _ _) _) u)
 have z:=u.size
 simp only [World.size_alloc] at z
 obtain ⟨hcc,R⟩:=bG u
 clear u
 cases g:dR d with
 | false =>
  have D:=Hd g
  clear g
  go_wp2_with fail
  go_ret
  exact ⟨aL (by rw [ik,D.out];rfl),G.out⟩
 | true =>
  have V:=ay g
  have U:=fJ g
  have Y:=eP g
  have hn:=fZ g
  have D:=Hd g
  have I:=Hd (show gH d=d.W * d.H * aV d from rfl)
  rw [I.out] at hn
  have K:Hid (ik d=d.W * d.H * aV d):=by show _=_;rw [ik,if_pos g];rfl
  clear g
  go_wp2_with fail
  have Q:w.heap.size<q.heap.size:=by omega
  have j:=aY q
  have B:=aP q
  refine wpB q ?_
  repeat (go_big_quiet_step ((first
   | (go_at_call 68;with_reducible exact aN (eH d _ (by omega) (by omega))))))
  refine wpQuiet_nil ?_
  rintro _ ⟨⟨Z,J⟩,rfl⟩
  clear j B
  go_wp2_with fail
  go_ret
  exact ⟨aL (by rw [K.out]),aA G.out J⟩
theorem zH (d:Dev) (t s:Int) (w:World) (ht:bB d t=true) (h0:0<=s) (h1:s<=6) :
  Calls Tryz.prog 230 #[.agg (dv d),.int .i64 t,.int .i64 0,.int .i64 s] w fun e w'=>e = .returned (.int .i64 (ax d t 0 s))/\Below w.heap.size w w':=by
 have hd:=(aU.1 ht).1
 have u:=(aU.1 ht).2.1
 have U:=(aU.1 ht).2.2
 have af:=fJ hd
 obtain ⟨aM,aF,Z,J,-⟩:=ay hd
 obtain ⟨x0,x1,y0,y1,-⟩:=p9 ht
 have e0:¬d.W=0:=by omega
 have e1:t.tmod d.W=t % d.W:=Int.tmod_eq_emod_of_nonneg u
 have e2:IntKind.i64.wrap (t.tdiv d.W)=t / d.W:=IntWalk.i64_quo _ _ ⟨u,by omega,by omega⟩
 have al:=Hd ht
 have HM:=Hd (fun (h:0<=stY d t 0 s/\stY d t 0 s<=d.H - 1)=>jc h.1 (show stY d t 0 s<=5 by omega) (show 0<=d.W by omega) (show d.W<=6 by omega))
 have HS:=Hd (show nW d t 0 s=(inR (stX d t 0 s) 0 (d.W - 1) && inR (stY d t 0 s) 0 (d.H - 1)) from rfl)
 have HT:=Hd (show ax d t 0 s=if nW d t 0 s=true then stY d t 0 s * d.W+stX d t 0 s else -1 from rfl)
 generalize z:stX d t 0 s=X at *
 generalize q:stY d t 0 s=Y at *
 generalize ax d t 0 s=P at *
 generalize nW d t 0 s=B at *
 obtain rfl:t % d.W+s=X:=by rw [←z];simp [stX]
 obtain rfl:t / d.W=Y:=by rw [←q];simp [stY]
 have ae:=dw (n:=0) (lo:=0) (hi:=3) (b:=true) (by decide)
 have V:=dw (n:=s) (lo:=0) (hi:=6) (b:=true) (aR.2 ⟨h0,h1⟩)
 obtain ⟨ap,ai⟩:=hd2 ae V
 clear ht hd z q ae V
 go_enter Tryz.func230,Tryz.ntmps230
 go_wp2_with fail
 refine (iA d t _ al.out).mono ?_
 rintro e w1 ⟨rfl,b1⟩
 have R:=lV d t
 generalize bL d t=K at *
 have B1:=Hd (aA (aB (Below.refl _ _) _) b1)
 have ak:=b1.size
 simp only [World.size_alloc] at ak
 obtain ⟨hcc,aH⟩:=bG b1
 have ag:decide (K<0)=false:=by simp;omega
 clear b1
 have ad:w.heap.size<w1.heap.size:=by omega
 go_wp2_with (go_at_call 83;(first|((with_reducible refine (ap.out _).mono ?_);rintro e w' ⟨rfl,rfl⟩)|((with_reducible refine (ai.out _).mono ?_);rintro e w' ⟨rfl,rfl⟩)))
 have aj:Hid (IntKind.i64.wrap (t % d.W+IntKind.i64.wrap s)=t % d.W+s):=(kQ (by omega) (by omega)).trans (by omega)
 have ao:Hid (IntKind.i64.wrap (t / d.W+IntKind.i64.wrap 0)=t / d.W):=(kQ (by omega) (by omega)).trans (by omega)
 go_cut [9] (fun s9 wx=>zG (t % d.W+s) w1 s9 wx)
 case first =>
  clear R ag h0 h1 u U Z J af
  go_region_with (fail)
  all_goals
   go_wp2_with fail
   go_meet
   exact ⟨by rw [aj.out],aB (Below.refl _ _).drew _⟩
 obtain ⟨rfl,G⟩:=hcut
 have aD:=aK G ad
 have az:=(bG G).1
 go_wp2_with fail
 go_cut [10] (fun am wy=>zG (t / d.W) w1 am wy)
 case first =>
  clear R ag h0 h1 u U Z J af
  go_region_with (fail)
  all_goals
   go_wp2_with fail
   go_meet
   exact ⟨by rw [ao.out],aA G (aB (Below.refl _ _).drew _)⟩
 obtain ⟨rfl,Q⟩:=hcut
 have aG:=aK Q ad
 have aE:=(bG Q).1
 clear e1 e2 az
 cases z:inR (t % d.W+s) 0 (d.W - 1) with
 | false =>
  have D:=Hd (dw z)
  have g:=Hd z
  clear z
  go_wp2_with (go_at_call 83;(with_reducible refine (D.out _).mono ?_);rintro e w' ⟨rfl,rfl⟩)
  go_ret
  exact ⟨aL (by rw [HT.out,HS.out,g.out];rfl),aA B1.out Q⟩
 | true =>
  have D:=Hd (dw z)
  have g:=Hd z
  clear z
  cases q:inR (t / d.W) 0 (d.H - 1) with
  | false =>
   have I:=Hd (dw q)
   have j:=Hd q
   clear q
   go_wp2_with (go_at_call 83;(first|((with_reducible refine (D.out _).mono ?_);rintro e w' ⟨rfl,rfl⟩)|((with_reducible refine (I.out _).mono ?_);rintro e w' ⟨rfl,rfl⟩)))
   go_ret
   exact ⟨aL (by rw [HT.out,HS.out,g.out,j.out];rfl),aA B1.out Q⟩
  | true =>
   have I:=Hd (dw q)
   have j:=Hd q
   have hM:=HM.out (aR.1 q)
   have aI:=(aR.1 g.out)
   clear q
   go_wp2_with (go_at_call 83;(first|((with_reducible refine (D.out _).mono ?_);rintro e w' ⟨rfl,rfl⟩)|((with_reducible refine (I.out _).mono ?_);rintro e w' ⟨rfl,rfl⟩)))
   go_ret
   exact ⟨aL (by rw [HT.out,HS.out,g.out,j.out];first|rfl|(simp;done)|(simp;omega)),aA B1.out Q⟩
theorem zI (d:Dev) (t s:Int) (w:World) (ht:bB d t=true) (h0:0<=s) (h1:s<=6) :
  Calls Tryz.prog 230 #[.agg (dv d),.int .i64 t,.int .i64 1,.int .i64 s] w fun e w'=>e = .returned (.int .i64 (ax d t 1 s))/\Below w.heap.size w w':=by
 have hd:=(aU.1 ht).1
 have u:=(aU.1 ht).2.1
 have U:=(aU.1 ht).2.2
 have af:=fJ hd
 obtain ⟨aM,aF,Z,J,-⟩:=ay hd
 obtain ⟨x0,x1,y0,y1,-⟩:=p9 ht
 have e0:¬d.W=0:=by omega
 have e1:t.tmod d.W=t % d.W:=Int.tmod_eq_emod_of_nonneg u
 have e2:IntKind.i64.wrap (t.tdiv d.W)=t / d.W:=IntWalk.i64_quo _ _ ⟨u,by omega,by omega⟩
 have al:=Hd ht
 have HM:=Hd (fun (h:0<=stY d t 1 s/\stY d t 1 s<=d.H - 1)=>jc h.1 (show stY d t 1 s<=5 by omega) (show 0<=d.W by omega) (show d.W<=6 by omega))
 have HS:=Hd (show nW d t 1 s=(inR (stX d t 1 s) 0 (d.W - 1) && inR (stY d t 1 s) 0 (d.H - 1)) from rfl)
 have HT:=Hd (show ax d t 1 s=if nW d t 1 s=true then stY d t 1 s * d.W+stX d t 1 s else -1 from rfl)
 generalize z:stX d t 1 s=X at *
 generalize q:stY d t 1 s=Y at *
 generalize ax d t 1 s=P at *
 generalize nW d t 1 s=B at *
 obtain rfl:t % d.W=X:=by rw [←z];simp [stX]
 obtain rfl:t / d.W+s=Y:=by rw [←q];simp [stY]
 have ae:=dw (n:=1) (lo:=0) (hi:=3) (b:=true) (by decide)
 have V:=dw (n:=s) (lo:=0) (hi:=6) (b:=true) (aR.2 ⟨h0,h1⟩)
 obtain ⟨ap,ai⟩:=hd2 ae V
 clear ht hd z q ae V
 go_enter Tryz.func230,Tryz.ntmps230
 go_wp2_with fail
 refine (iA d t _ al.out).mono ?_
 rintro e w1 ⟨rfl,b1⟩
 have R:=lV d t
 generalize bL d t=K at *
 have B1:=Hd (aA (aB (Below.refl _ _) _) b1)
 have ak:=b1.size
 simp only [World.size_alloc] at ak
 obtain ⟨hcc,aH⟩:=bG b1
 have ag:decide (K<0)=false:=by simp;omega
 clear b1
 have ad:w.heap.size<w1.heap.size:=by omega
 go_wp2_with (go_at_call 83;(first|((with_reducible refine (ap.out _).mono ?_);rintro e w' ⟨rfl,rfl⟩)|((with_reducible refine (ai.out _).mono ?_);rintro e w' ⟨rfl,rfl⟩)))
 have aj:Hid (IntKind.i64.wrap (t % d.W+IntKind.i64.wrap 0)=t % d.W):=(kQ (by omega) (by omega)).trans (by omega)
 have ao:Hid (IntKind.i64.wrap (t / d.W+IntKind.i64.wrap s)=t / d.W+s):=(kQ (by omega) (by omega)).trans (by omega)
 go_cut [9] (fun s9 wx=>zG (t % d.W) w1 s9 wx)
 case first =>
  clear R ag h0 h1 u U Z J af
  go_region_with (fail)
  all_goals
   go_wp2_with fail
   go_meet
   exact ⟨by rw [aj.out],aB (Below.refl _ _).drew _⟩
 obtain ⟨rfl,G⟩:=hcut
 have aD:=aK G ad
 have az:=(bG G).1
 go_wp2_with fail
 go_cut [10] (fun am wy=>zG (t / d.W+s) w1 am wy)
 case first =>
  clear R ag h0 h1 u U Z J af
  go_region_with (fail)
  all_goals
   go_wp2_with fail
   go_meet
   exact ⟨by rw [ao.out],aA G (aB (Below.refl _ _).drew _)⟩
 obtain ⟨rfl,Q⟩:=hcut
 have aG:=aK Q ad
 have aE:=(bG Q).1
 clear e1 e2 az
 cases z:inR (t % d.W) 0 (d.W - 1) with
 | false =>
  have D:=Hd (dw z)
  have g:=Hd z
  clear z
  go_wp2_with (go_at_call 83;(with_reducible refine (D.out _).mono ?_);rintro e w' ⟨rfl,rfl⟩)
  go_ret
  exact ⟨aL (by rw [HT.out,HS.out,g.out];rfl),aA B1.out Q⟩
 | true =>
  have D:=Hd (dw z)
  have g:=Hd z
  clear z
  cases q:inR (t / d.W+s) 0 (d.H - 1) with
  | false =>
   have I:=Hd (dw q)
   have j:=Hd q
   clear q
   go_wp2_with (go_at_call 83;(first|((with_reducible refine (D.out _).mono ?_);rintro e w' ⟨rfl,rfl⟩)|((with_reducible refine (I.out _).mono ?_);rintro e w' ⟨rfl,rfl⟩)))
   go_ret
   exact ⟨aL (by rw [HT.out,HS.out,g.out,j.out];rfl),aA B1.out Q⟩
  | true =>
   have I:=Hd (dw q)
   have j:=Hd q
   have hM:=HM.out (aR.1 q)
   have aI:=(aR.1 g.out)
   clear q
   go_wp2_with (go_at_call 83;(first|((with_reducible refine (D.out _).mono ?_);rintro e w' ⟨rfl,rfl⟩)|((with_reducible refine (I.out _).mono ?_);rintro e w' ⟨rfl,rfl⟩)))
   go_ret
   exact ⟨aL (by rw [HT.out,HS.out,g.out,j.out];first|rfl|(simp;done)|(simp;omega)),aA B1.out Q⟩
theorem zJ (d:Dev) (t s:Int) (w:World) (ht:bB d t=true) (h0:0<=s) (h1:s<=6) :
  Calls Tryz.prog 230 #[.agg (dv d),.int .i64 t,.int .i64 2,.int .i64 s] w fun e w'=>e = .returned (.int .i64 (ax d t 2 s))/\Below w.heap.size w w':=by
 have hd:=(aU.1 ht).1
 have u:=(aU.1 ht).2.1
 have U:=(aU.1 ht).2.2
 have af:=fJ hd
 obtain ⟨aM,aF,Z,J,-⟩:=ay hd
 obtain ⟨x0,x1,y0,y1,-⟩:=p9 ht
 have e0:¬d.W=0:=by omega
 have e1:t.tmod d.W=t % d.W:=Int.tmod_eq_emod_of_nonneg u
 have e2:IntKind.i64.wrap (t.tdiv d.W)=t / d.W:=IntWalk.i64_quo _ _ ⟨u,by omega,by omega⟩
 have al:=Hd ht
 have HM:=Hd (fun (h:0<=stY d t 2 s/\stY d t 2 s<=d.H - 1)=>jc h.1 (show stY d t 2 s<=5 by omega) (show 0<=d.W by omega) (show d.W<=6 by omega))
 have HS:=Hd (show nW d t 2 s=(inR (stX d t 2 s) 0 (d.W - 1) && inR (stY d t 2 s) 0 (d.H - 1)) from rfl)
 have HT:=Hd (show ax d t 2 s=if nW d t 2 s=true then stY d t 2 s * d.W+stX d t 2 s else -1 from rfl)
 generalize z:stX d t 2 s=X at *
 generalize q:stY d t 2 s=Y at *
 generalize ax d t 2 s=P at *
 generalize nW d t 2 s=B at *
 obtain rfl:t % d.W - s=X:=by rw [←z];simp [stX]
 obtain rfl:t / d.W=Y:=by rw [←q];simp [stY]
 have ae:=dw (n:=2) (lo:=0) (hi:=3) (b:=true) (by decide)
 have V:=dw (n:=s) (lo:=0) (hi:=6) (b:=true) (aR.2 ⟨h0,h1⟩)
 obtain ⟨ap,ai⟩:=hd2 ae V
 clear ht hd z q ae V
 go_enter Tryz.func230,Tryz.ntmps230
 go_wp2_with fail
 refine (iA d t _ al.out).mono ?_
 rintro e w1 ⟨rfl,b1⟩
 have R:=lV d t
 generalize bL d t=K at *
 have B1:=Hd (aA (aB (Below.refl _ _) _) b1)
 have ak:=b1.size
 simp only [World.size_alloc] at ak
 obtain ⟨hcc,aH⟩:=bG b1
 have ag:decide (K<0)=false:=by simp;omega
 clear b1
 have ad:w.heap.size<w1.heap.size:=by omega
 go_wp2_with (go_at_call 83;(first|((with_reducible refine (ap.out _).mono ?_);rintro e w' ⟨rfl,rfl⟩)|((with_reducible refine (ai.out _).mono ?_);rintro e w' ⟨rfl,rfl⟩)))
 have aj:Hid (IntKind.i64.wrap (t % d.W+IntKind.i64.wrap (-s))=t % d.W - s):=(kQ (by omega) (by omega)).trans (by omega)
 have ao:Hid (IntKind.i64.wrap (t / d.W+IntKind.i64.wrap 0)=t / d.W):=(kQ (by omega) (by omega)).trans (by omega)
 go_cut [9] (fun s9 wx=>zG (t % d.W - s) w1 s9 wx)
 case first =>
  clear R ag h0 h1 u U Z J af
  go_region_with (fail)
  all_goals
   go_wp2_with fail
   go_meet
   exact ⟨by rw [aj.out],aB (Below.refl _ _).drew _⟩
 obtain ⟨rfl,G⟩:=hcut
 have aD:=aK G ad
 have az:=(bG G).1
 go_wp2_with fail
 go_cut [10] (fun am wy=>zG (t / d.W) w1 am wy)
 case first =>
  clear R ag h0 h1 u U Z J af
  go_region_with (fail)
  all_goals
   go_wp2_with fail
   go_meet
   exact ⟨by rw [ao.out],aA G (aB (Below.refl _ _).drew _)⟩
 obtain ⟨rfl,Q⟩:=hcut
 have aG:=aK Q ad
 have aE:=(bG Q).1
 clear e1 e2 az
 cases z:inR (t % d.W - s) 0 (d.W - 1) with
 | false =>
  have D:=Hd (dw z)
  have g:=Hd z
  clear z
  go_wp2_with (go_at_call 83;(with_reducible refine (D.out _).mono ?_);rintro e w' ⟨rfl,rfl⟩)
  go_ret
  exact ⟨aL (by rw [HT.out,HS.out,g.out];rfl),aA B1.out Q⟩
 | true =>
  have D:=Hd (dw z)
  have g:=Hd z
  clear z
  cases q:inR (t / d.W) 0 (d.H - 1) with
  | false =>
   have I:=Hd (dw q)
   have j:=Hd q
   clear q
   go_wp2_with (go_at_call 83;(first|((with_reducible refine (D.out _).mono ?_);rintro e w' ⟨rfl,rfl⟩)|((with_reducible refine (I.out _).mono ?_);rintro e w' ⟨rfl,rfl⟩)))
   go_ret
   exact ⟨aL (by rw [HT.out,HS.out,g.out,j.out];rfl),aA B1.out Q⟩
  | true =>
   have I:=Hd (dw q)
   have j:=Hd q
   have hM:=HM.out (aR.1 q)
   have aI:=(aR.1 g.out)
   clear q
   go_wp2_with (go_at_call 83;(first|((with_reducible refine (D.out _).mono ?_);rintro e w' ⟨rfl,rfl⟩)|((with_reducible refine (I.out _).mono ?_);rintro e w' ⟨rfl,rfl⟩)))
   go_ret
   exact ⟨aL (by rw [HT.out,HS.out,g.out,j.out];first|rfl|(simp;done)|(simp;omega)),aA B1.out Q⟩
theorem zK (d:Dev) (t s:Int) (w:World) (ht:bB d t=true) (h0:0<=s) (h1:s<=6) :
  Calls Tryz.prog 230 #[.agg (dv d),.int .i64 t,.int .i64 3,.int .i64 s] w fun e w'=>e = .returned (.int .i64 (ax d t 3 s))/\Below w.heap.size w w':=by
 have hd:=(aU.1 ht).1
 have u:=(aU.1 ht).2.1
 have U:=(aU.1 ht).2.2
 have af:=fJ hd
 obtain ⟨aM,aF,Z,J,-⟩:=ay hd
 obtain ⟨x0,x1,y0,y1,-⟩:=p9 ht
 have e0:¬d.W=0:=by omega
 have e1:t.tmod d.W=t % d.W:=Int.tmod_eq_emod_of_nonneg u
 have e2:IntKind.i64.wrap (t.tdiv d.W)=t / d.W:=IntWalk.i64_quo _ _ ⟨u,by omega,by omega⟩
 have al:=Hd ht
 have HM:=Hd (fun (h:0<=stY d t 3 s/\stY d t 3 s<=d.H - 1)=>jc h.1 (show stY d t 3 s<=5 by omega) (show 0<=d.W by omega) (show d.W<=6 by omega))
 have HS:=Hd (show nW d t 3 s=(inR (stX d t 3 s) 0 (d.W - 1) && inR (stY d t 3 s) 0 (d.H - 1)) from rfl)
 have HT:=Hd (show ax d t 3 s=if nW d t 3 s=true then stY d t 3 s * d.W+stX d t 3 s else -1 from rfl)
 generalize z:stX d t 3 s=X at *
 generalize q:stY d t 3 s=Y at *
 generalize ax d t 3 s=P at *
 generalize nW d t 3 s=B at *
 obtain rfl:t % d.W=X:=by rw [←z];simp [stX]
 obtain rfl:t / d.W - s=Y:=by rw [←q];simp [stY]
 have ae:=dw (n:=3) (lo:=0) (hi:=3) (b:=true) (by decide)
 have V:=dw (n:=s) (lo:=0) (hi:=6) (b:=true) (aR.2 ⟨h0,h1⟩)
 obtain ⟨ap,ai⟩:=hd2 ae V
 clear ht hd z q ae V
 go_enter Tryz.func230,Tryz.ntmps230
 go_wp2_with fail
 refine (iA d t _ al.out).mono ?_
 rintro e w1 ⟨rfl,b1⟩
 have R:=lV d t
 generalize bL d t=K at *
 have B1:=Hd (aA (aB (Below.refl _ _) _) b1)
 have ak:=b1.size
 simp only [World.size_alloc] at ak
 obtain ⟨hcc,aH⟩:=bG b1
 have ag:decide (K<0)=false:=by simp;omega
 clear b1
 have ad:w.heap.size<w1.heap.size:=by omega
 go_wp2_with (go_at_call 83;(first|((with_reducible refine (ap.out _).mono ?_);rintro e w' ⟨rfl,rfl⟩)|((with_reducible refine (ai.out _).mono ?_);rintro e w' ⟨rfl,rfl⟩)))
 have aj:Hid (IntKind.i64.wrap (t % d.W+IntKind.i64.wrap 0)=t % d.W):=(kQ (by omega) (by omega)).trans (by omega)
 have ao:Hid (IntKind.i64.wrap (t / d.W+IntKind.i64.wrap (-s))=t / d.W - s):=(kQ (by omega) (by omega)).trans (by omega)
 go_cut [9] (fun s9 wx=>zG (t % d.W) w1 s9 wx)
 case first =>
  clear R ag h0 h1 u U Z J af
  go_region_with (fail)
  all_goals
   go_wp2_with fail
   go_meet
   exact ⟨by rw [aj.out],aB (Below.refl _ _).drew _⟩
 obtain ⟨rfl,G⟩:=hcut
 have aD:=aK G ad
 have az:=(bG G).1
 go_wp2_with fail
 go_cut [10] (fun am wy=>zG (t / d.W - s) w1 am wy)
 case first =>
  clear R ag h0 h1 u U Z J af
  go_region_with (fail)
  all_goals
   go_wp2_with fail
   go_meet
   exact ⟨by rw [ao.out],aA G (aB (Below.refl _ _).drew _)⟩
 obtain ⟨rfl,Q⟩:=hcut
 have aG:=aK Q ad
 have aE:=(bG Q).1
 clear e1 e2 az
 cases z:inR (t % d.W) 0 (d.W - 1) with
 | false =>
  have D:=Hd (dw z)
  have g:=Hd z
  clear z
  go_wp2_with (go_at_call 83;(with_reducible refine (D.out _).mono ?_);rintro e w' ⟨rfl,rfl⟩)
  go_ret
  exact ⟨aL (by rw [HT.out,HS.out,g.out];rfl),aA B1.out Q⟩
 | true =>
  have D:=Hd (dw z)
  have g:=Hd z
  clear z
  cases q:inR (t / d.W - s) 0 (d.H - 1) with
  | false =>
   have I:=Hd (dw q)
   have j:=Hd q
   clear q
   go_wp2_with (go_at_call 83;(first|((with_reducible refine (D.out _).mono ?_);rintro e w' ⟨rfl,rfl⟩)|((with_reducible refine (I.out _).mono ?_);rintro e w' ⟨rfl,rfl⟩)))
   go_ret
   exact ⟨aL (by rw [HT.out,HS.out,g.out,j.out];rfl),aA B1.out Q⟩
  | true =>
   have I:=Hd (dw q)
   have j:=Hd q
   have hM:=HM.out (aR.1 q)
   have aI:=(aR.1 g.out)
   clear q
   go_wp2_with (go_at_call 83;(first|((with_reducible refine (D.out _).mono ?_);rintro e w' ⟨rfl,rfl⟩)|((with_reducible refine (I.out _).mono ?_);rintro e w' ⟨rfl,rfl⟩)))
   go_ret
   exact ⟨aL (by rw [HT.out,HS.out,g.out,j.out];first|rfl|(simp;done)|(simp;omega)),aA B1.out Q⟩
theorem iW (d:Dev) (t r s:Int) (w:World) (ht:bB d t=true) (g:0<=r) (j:r<=3) (h0:0<=s) (h1:s<=6) :
 Calls Tryz.prog 230 #[.agg (dv d),.int .i64 t,.int .i64 r,.int .i64 s] w fun e w'=>e = .returned (.int .i64 (ax d t r s))/\Below w.heap.size w w':=by
 have:r=0∨r=1∨r=2∨r=3:=by omega
 rcases this with rfl|rfl|rfl|rfl
 ·exact zH d t s w ht h0 h1
 ·exact zI d t s w ht h0 h1
 ·exact zJ d t s w ht h0 h1
 exact zK d t s w ht h0 h1
end Go.Proofs.YtofihjoanjkdmaaGreat
