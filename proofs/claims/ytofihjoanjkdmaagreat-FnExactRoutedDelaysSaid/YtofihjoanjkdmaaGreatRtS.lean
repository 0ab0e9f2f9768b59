/- Routing nodes of the reference: pins, wires, which nodes exist. -/
import Derived.Test.YtofihjoanjkdmaaGreatRt5
namespace Go.Proofs.YtofihjoanjkdmaaGreat
set_option maxHeartbeats 1000000
set_option maxRecDepth 100000
open Go.RowKit
theorem eB {n lo hi:Int} {b:Bool} (h:inR n lo hi=b) (w:World):Calls Tryz.prog 83 #[.int .i64 n,.int .i64 lo,.int .i64 hi] w fun e w'=>e = .returned (.bool b)/\w=w':=by
 have:=aj n lo hi w
 rwa [h] at this
theorem kM {a b:Int} (g:-9223372036854775808<=b/\b<=9223372036854775807) (h:-9223372036854775808<=a+b/\a+b<=9223372036854775807):IntKind.i64.wrap (a+IntKind.i64.wrap b)=a+b:=by rw [IntWalk.i64_in b g,IntWalk.i64_in _ h]
def zA (X:Int) (g:World) (s:Value) (j:World):Prop:=s = .int .i64 X/\Below g.heap.size g j
theorem gZ (d:Dev) (t:Int) (w:World) (ht:az d t=true) :
  Calls Tryz.prog 113 #[.agg (dv d),.int .i64 t] w fun e w'=>e = .returned (.int .i64 (bH d t))/\Below w.heap.size w w':=by
 obtain ⟨g,h0,h1⟩:=aV.1 ht
 have j:=fM g
 have:=qo d t w (by omega)
 rwa [zW g h0 h1] at this
theorem ql (d:Dev) (t:Int) (w:World) (ht:az d t=false) (g:t<=1099511627776) :
  Calls Tryz.prog 113 #[.agg (dv d),.int .i64 t] w fun e w'=>e = .returned (.int .i64 (-1))/\Below w.heap.size w w':=by
 have:=qo d t w g
 have e:j3 d t=-1:=by
  unfold j3
  rw [if_neg]
  intro h
  rw [aV.2 h] at ht
  cases ht
 rwa [e] at this
theorem eG (d:Dev) (w:World) (h0:0<=d.T) (h1:d.T<=1099511627776) :
  Calls Tryz.prog 68 #[.agg (dv d)] w fun e w'=>e = .returned (.int .i64 (aQ d))/\Below w.heap.size w w':=by
 unfold aQ
 go_enter Tryz.func68,Tryz.ntmps68
 go_wp2
 go_ret
 exact ⟨rfl,aD (Below.refl _ _) _⟩
def ig (d:Dev):Int:=if dZ d=true then iJ d else 0
theorem gJ (d:Dev) (w:World) :
  Calls Tryz.prog 116 #[.agg (dv d)] w fun e w'=>e = .returned (.int .i64 (ig d))/\Below w.heap.size w w':=by
 go_enter Tryz.func116,Tryz.ntmps116
 go_wp2_with fail
 refine (iV d _).mono ?_
 rintro e u ⟨rfl,q⟩
 have G:=Hd (aA (aD (Below.refl _ _) _) q)
 have B:=q.size
 simp only [World.size_alloc] at B
 obtain ⟨hcc,R⟩:=bG q
 clear q
 cases g:dZ d with
 | false =>
  have D:=Hd g
  clear g
  go_wp2_with fail
  go_ret
  exact ⟨aL (by rw [ig,D.out];rfl),G.out⟩
 | true =>
  have Y:=ay g
  have J:=fM g
  have V:=eT g
  have hn:=iG g
  have D:=Hd g
  have U:=Hd (show iJ d=d.W * d.H * aQ d from rfl)
  rw [U.out] at hn
  have Q:Hid (ig d=d.W * d.H * aQ d):=by show _=_;rw [ig,if_pos g];rfl
  clear g
  go_wp2_with fail
  have K:w.heap.size<u.heap.size:=by omega
  have j:=aX u
  have z:=aP u
  refine wpB u ?_
  repeat (go_big_quiet_step ((first
   | (go_at_call 68;with_reducible exact aN (eG d _ (by omega) (by omega))))))
  refine wpQuiet_nil ?_
  rintro _ ⟨⟨Z,I⟩,rfl⟩
  clear j z
  go_wp2_with fail
  go_ret
  exact ⟨aL (by rw [Q.out]),aA G.out I⟩
theorem zB (d:Dev) (t s:Int) (w:World) (ht:az d t=true) (h0:0<=s) (h1:s<=6) :
  Calls Tryz.prog 230 #[.agg (dv d),.int .i64 t,.int .i64 0,.int .i64 s] w fun e w'=>e = .returned (.int .i64 (av d t 0 s))/\Below w.heap.size w w':=by
 have hd:=(aV.1 ht).1
 have z:=(aV.1 ht).2.1
 have ad:=(aV.1 ht).2.2
 have R:=fM hd
 obtain ⟨aO,aI,ag,J,-⟩:=ay hd
 obtain ⟨x0,x1,y0,y1,-⟩:=pX ht
 have e0:¬d.W=0:=by omega
 have e1:t.tmod d.W=t % d.W:=Int.tmod_eq_emod_of_nonneg z
 have e2:IntKind.i64.wrap (t.tdiv d.W)=t / d.W:=IntWalk.i64_quo _ _ ⟨z,by omega,by omega⟩
 have ax:=Hd ht
 have HM:=Hd (fun (h:0<=stY d t 0 s/\stY d t 0 s<=d.H - 1)=>jc h.1 (show stY d t 0 s<=5 by omega) (show 0<=d.W by omega) (show d.W<=6 by omega))
 have HS:=Hd (show nZ d t 0 s=(inR (stX d t 0 s) 0 (d.W - 1) && inR (stY d t 0 s) 0 (d.H - 1)) from rfl)
 have HT:=Hd (show av d t 0 s=if nZ d t 0 s=true then stY d t 0 s * d.W+stX d t 0 s else -1 from rfl)
 generalize u:stX d t 0 s=X at *
 generalize q:stY d t 0 s=Y at *
 generalize av d t 0 s=P at *
 generalize nZ d t 0 s=B at *
 obtain rfl:t % d.W+s=X:=by rw [←u];simp [stX]
 obtain rfl:t / d.W=Y:=by rw [←q];simp [stY]
 have ae:=eB (n:=0) (lo:=0) (hi:=3) (b:=true) (by decide)
 have af:=eB (n:=s) (lo:=0) (hi:=6) (b:=true) (aU.2 ⟨h0,h1⟩)
 obtain ⟨ai,aj⟩:=hd2 ae af
 clear ht hd u q ae af
 go_enter Tryz.func230,Tryz.ntmps230
 go_wp2_with fail
 refine (gZ d t _ ax.out).mono ?_
 rintro e w1 ⟨rfl,b1⟩
 have V:=lN d t
 generalize bH d t=K at *
 have B1:=Hd (aA (aD (Below.refl _ _) _) b1)
 have au:=b1.size
 simp only [World.size_alloc] at au
 obtain ⟨hcc,aM⟩:=bG b1
 have Z:decide (K<0)=false:=by simp;omega
 clear b1
 have U:w.heap.size<w1.heap.size:=by omega
 go_wp2_with (go_at_call 83;(first|((with_reducible refine (ai.out _).mono ?_);rintro e w' ⟨rfl,rfl⟩)|((with_reducible refine (aj.out _).mono ?_);rintro e w' ⟨rfl,rfl⟩)))
 have ar:Hid (IntKind.i64.wrap (t % d.W+IntKind.i64.wrap s)=t % d.W+s):=(kM (by omega) (by omega)).trans (by omega)
 have aw:Hid (IntKind.i64.wrap (t / d.W+IntKind.i64.wrap 0)=t / d.W):=(kM (by omega) (by omega)).trans (by omega)
 go_cut [9] (fun s9 wx=>zA (t % d.W+s) w1 s9 wx)
 case first =>
  clear V Z h0 h1 z ad ag J R
  go_region_with (fail)
  all_goals
   go_wp2_with fail
   go_meet
   exact ⟨by rw [ar.out],aD (Below.refl _ _).drew _⟩
 obtain ⟨rfl,I⟩:=hcut
 have aE:=aK I U
 have aB:=(bG I).1
 go_wp2_with fail
 go_cut [10] (fun al wy=>zA (t / d.W) w1 al wy)
 case first =>
  clear V Z h0 h1 z ad ag J R
  go_region_with (fail)
  all_goals
   go_wp2_with fail
   go_meet
   exact ⟨by rw [aw.out],aA I (aD (Below.refl _ _).drew _)⟩
 obtain ⟨rfl,Q⟩:=hcut
 have aH:=aK Q U
 have aN:=(bG Q).1
 clear e1 e2 aB
 cases u:inR (t % d.W+s) 0 (d.W - 1) with
 | false =>
  have D:=Hd (eB u)
  have g:=Hd u
  clear u
  go_wp2_with (go_at_call 83;(with_reducible refine (D.out _).mono ?_);rintro e w' ⟨rfl,rfl⟩)
  go_ret
  exact ⟨aL (by rw [HT.out,HS.out,g.out];rfl),aA B1.out Q⟩
 | true =>
  have D:=Hd (eB u)
  have g:=Hd u
  clear u
  cases q:inR (t / d.W) 0 (d.H - 1) with
  | false =>
   have G:=Hd (eB q)
   have j:=Hd q
   clear q
   go_wp2_with (go_at_call 83;(first|((with_reducible refine (D.out _).mono ?_);rintro e w' ⟨rfl,rfl⟩)|((with_reducible refine (G.out _).mono ?_);rintro e w' ⟨rfl,rfl⟩)))
   go_ret
   exact ⟨aL (by rw [HT.out,HS.out,g.out,j.out];rfl),aA B1.out Q⟩
  | true =>
   have G:=Hd (eB q)
   have j:=Hd q
   have hM:=HM.out (aU.1 q)
   have aF:=(aU.1 g.out)
   clear q
   go_wp2_with (go_at_call 83;(first|((with_reducible refine (D.out _).mono ?_);rintro e w' ⟨rfl,rfl⟩)|((with_reducible refine (G.out _).mono ?_);rintro e w' ⟨rfl,rfl⟩)))
   go_ret
   exact ⟨aL (by rw [HT.out,HS.out,g.out,j.out];first|rfl|(simp;done)|(simp;omega)),aA B1.out Q⟩
theorem zC (d:Dev) (t s:Int) (w:World) (ht:az d t=true) (h0:0<=s) (h1:s<=6) :
  Calls Tryz.prog 230 #[.agg (dv d),.int .i64 t,.int .i64 1,.int .i64 s] w fun e w'=>e = .returned (.int .i64 (av d t 1 s))/\Below w.heap.size w w':=by
 have hd:=(aV.1 ht).1
 have z:=(aV.1 ht).2.1
 have ad:=(aV.1 ht).2.2
 have R:=fM hd
 obtain ⟨aO,aI,ag,J,-⟩:=ay hd
 obtain ⟨x0,x1,y0,y1,-⟩:=pX ht
 have e0:¬d.W=0:=by omega
 have e1:t.tmod d.W=t % d.W:=Int.tmod_eq_emod_of_nonneg z
 have e2:IntKind.i64.wrap (t.tdiv d.W)=t / d.W:=IntWalk.i64_quo _ _ ⟨z,by omega,by omega⟩
 have ax:=Hd ht
 have HM:=Hd (fun (h:0<=stY d t 1 s/\stY d t 1 s<=d.H - 1)=>jc h.1 (show stY d t 1 s<=5 by omega) (show 0<=d.W by omega) (show d.W<=6 by omega))
 have HS:=Hd (show nZ d t 1 s=(inR (stX d t 1 s) 0 (d.W - 1) && inR (stY d t 1 s) 0 (d.H - 1)) from rfl)
 have HT:=Hd (show av d t 1 s=if nZ d t 1 s=true then stY d t 1 s * d.W+stX d t 1 s else -1 from rfl)
 generalize u:stX d t 1 s=X at *
 generalize q:stY d t 1 s=Y at *
 generalize av d t 1 s=P at *
 generalize nZ d t 1 s=B at *
 obtain rfl:t % d.W=X:=by rw [←u];simp [stX]
 obtain rfl:t / d.W+s=Y:=by rw [←q];simp [stY]
 have ae:=eB (n:=1) (lo:=0) (hi:=3) (b:=true) (by decide)
 have af:=eB (n:=s) (lo:=0) (hi:=6) (b:=true) (aU.2 ⟨h0,h1⟩)
 obtain ⟨ai,aj⟩:=hd2 ae af
 clear ht hd u q ae af
 go_enter Tryz.func230,Tryz.ntmps230
 go_wp2_with fail
 refine (gZ d t _ ax.out).mono ?_
 rintro e w1 ⟨rfl,b1⟩
 have V:=lN d t
 generalize bH d t=K at *
 have B1:=Hd (aA (aD (Below.refl _ _) _) b1)
 have au:=b1.size
 simp only [World.size_alloc] at au
 obtain ⟨hcc,aM⟩:=bG b1
 have Z:decide (K<0)=false:=by simp;omega
 clear b1
 have U:w.heap.size<w1.heap.size:=by omega
 go_wp2_with (go_at_call 83;(first|((with_reducible refine (ai.out _).mono ?_);rintro e w' ⟨rfl,rfl⟩)|((with_reducible refine (aj.out _).mono ?_);rintro e w' ⟨rfl,rfl⟩)))
 have ar:Hid (IntKind.i64.wrap (t % d.W+IntKind.i64.wrap 0)=t % d.W):=(kM (by omega) (by omega)).trans (by omega)
 have aw:Hid (IntKind.i64.wrap (t / d.W+IntKind.i64.wrap s)=t / d.W+s):=(kM (by omega) (by omega)).trans (by omega)
 go_cut [9] (fun s9 wx=>zA (t % d.W) w1 s9 wx)
 case first =>
  clear V Z h0 h1 z ad ag J R
  go_region_with (fail)
  all_goals
   go_wp2_with fail
   go_meet
   exact ⟨by rw [ar.out],aD (Below.refl _ _).drew _⟩
 obtain ⟨rfl,I⟩:=hcut
 have aE:=aK I U
 have aB:=(bG I).1
 go_wp2_with fail
 go_cut [10] (fun al wy=>zA (t / d.W+s) w1 al wy)
 case first =>
  clear V Z h0 h1 z ad ag J R
  go_region_with (fail)
  all_goals
   go_wp2_with fail
   go_meet
   exact ⟨by rw [aw.out],aA I (aD (Below.refl _ _).drew _)⟩
 obtain ⟨rfl,Q⟩:=hcut
 have aH:=aK Q U
 have aN:=(bG Q).1
 clear e1 e2 aB
 cases u:inR (t % d.W) 0 (d.W - 1) with
 | false =>
  have D:=Hd (eB u)
  have g:=Hd u
  clear u
  go_wp2_with (go_at_call 83;(with_reducible refine (D.out _).mono ?_);rintro e w' ⟨rfl,rfl⟩)
  go_ret
  exact ⟨aL (by rw [HT.out,HS.out,g.out];rfl),aA B1.out Q⟩
 | true =>
  have D:=Hd (eB u)
  have g:=Hd u
  clear u
  cases q:inR (t / d.W+s) 0 (d.H - 1) with
  | false =>
   have G:=Hd (eB q)
   have j:=Hd q
   clear q
   go_wp2_with (go_at_call 83;(first|((with_reducible refine (D.out _).mono ?_);rintro e w' ⟨rfl,rfl⟩)|((with_reducible refine (G.out _).mono ?_);rintro e w' ⟨rfl,rfl⟩)))
   go_ret
   exact ⟨aL (by rw [HT.out,HS.out,g.out,j.out];rfl),aA B1.out Q⟩
  | true =>
   have G:=Hd (eB q)
   have j:=Hd q
   have hM:=HM.out (aU.1 q)
   have aF:=(aU.1 g.out)
   clear q
   go_wp2_with (go_at_call 83;(first|((with_reducible refine (D.out _).mono ?_);rintro e w' ⟨rfl,rfl⟩)|((with_reducible refine (G.out _).mono ?_);rintro e w' ⟨rfl,rfl⟩)))
   go_ret
   exact ⟨aL (by rw [HT.out,HS.out,g.out,j.out];first|rfl|(simp;done)|(simp;omega)),aA B1.out Q⟩
theorem zD (d:Dev) (t s:Int) (w:World) (ht:az d t=true) (h0:0<=s) (h1:s<=6) :
  Calls Tryz.prog 230 #[.agg (dv d),.int .i64 t,.int .i64 2,.int .i64 s] w fun e w'=>e = .returned (.int .i64 (av d t 2 s))/\Below w.heap.size w w':=by
 have hd:=(aV.1 ht).1
 have z:=(aV.1 ht).2.1
 have ad:=(aV.1 ht).2.2
 have R:=fM hd
 obtain ⟨aO,aI,ag,J,-⟩:=ay hd
 obtain ⟨x0,x1,y0,y1,-⟩:=pX ht
 have e0:¬d.W=0:=by omega
 have e1:t.tmod d.W=t % d.W:=Int.tmod_eq_emod_of_nonneg z
 have e2:IntKind.i64.wrap (t.tdiv d.W)=t / d.W:=IntWalk.i64_quo _ _ ⟨z,by omega,by omega⟩
 have ax:=Hd ht
 have HM:=Hd (fun (h:0<=stY d t 2 s/\stY d t 2 s<=d.H - 1)=>jc h.1 (show stY d t 2 s<=5 by omega) (show 0<=d.W by omega) (show d.W<=6 by omega))
 have HS:=Hd (show nZ d t 2 s=(inR (stX d t 2 s) 0 (d.W - 1) && inR (stY d t 2 s) 0 (d.H - 1)) from rfl)
 have HT:=Hd (show av d t 2 s=if nZ d t 2 s=true then stY d t 2 s * d.W+stX d t 2 s else -1 from rfl)
 generalize u:stX d t 2 s=X at *
 generalize q:stY d t 2 s=Y at *
 generalize av d t 2 s=P at *
 generalize nZ d t 2 s=B at *
 obtain rfl:t % d.W - s=X:=by rw [←u];simp [stX]
 obtain rfl:t / d.W=Y:=by rw [←q];simp [stY]
 have ae:=eB (n:=2) (lo:=0) (hi:=3) (b:=true) (by decide)
 have af:=eB (n:=s) (lo:=0) (hi:=6) (b:=true) (aU.2 ⟨h0,h1⟩)
 obtain ⟨ai,aj⟩:=hd2 ae af
 clear ht hd u q ae af
 go_enter Tryz.func230,Tryz.ntmps230
 go_wp2_with fail
 refine (gZ d t _ ax.out).mono ?_
 rintro e w1 ⟨rfl,b1⟩
 have V:=lN d t
 generalize bH d t=K at *
 have B1:=Hd (aA (aD (Below.refl _ _) _) b1)
 have au:=b1.size
 simp only [World.size_alloc] at au
 obtain ⟨hcc,aM⟩:=bG b1
 have Z:decide (K<0)=false:=by simp;omega
 clear b1
 have U:w.heap.size<w1.heap.size:=by omega
 go_wp2_with (go_at_call 83;(first|((with_reducible refine (ai.out _).mono ?_);rintro e w' ⟨rfl,rfl⟩)|((with_reducible refine (aj.out _).mono ?_);rintro e w' ⟨rfl,rfl⟩)))
 have ar:Hid (IntKind.i64.wrap (t % d.W+IntKind.i64.wrap (-s))=t % d.W - s):=(kM (by omega) (by omega)).trans (by omega)
 have aw:Hid (IntKind.i64.wrap (t / d.W+IntKind.i64.wrap 0)=t / d.W):=(kM (by omega) (by omega)).trans (by omega)
 go_cut [9] (fun s9 wx=>zA (t % d.W - s) w1 s9 wx)
 case first =>
  clear V Z h0 h1 z ad ag J R
  go_region_with (fail)
  all_goals
   go_wp2_with fail
   go_meet
   exact ⟨by rw [ar.out],aD (Below.refl _ _).drew _⟩
 obtain ⟨rfl,I⟩:=hcut
 have aE:=aK I U
 have aB:=(bG I).1
 go_wp2_with fail
 go_cut [10] (fun al wy=>zA (t / d.W) w1 al wy)
 case first =>
  clear V Z h0 h1 z ad ag J R
  go_region_with (fail)
  all_goals
   go_wp2_with fail
   go_meet
   exact ⟨by rw [aw.out],aA I (aD (Below.refl _ _).drew _)⟩
 obtain ⟨rfl,Q⟩:=hcut
 have aH:=aK Q U
 have aN:=(bG Q).1
 clear e1 e2 aB
 cases u:inR (t % d.W - s) 0 (d.W - 1) with
 | false =>
  have D:=Hd (eB u)
  have g:=Hd u
  clear u
  go_wp2_with (go_at_call 83;(with_reducible refine (D.out _).mono ?_);rintro e w' ⟨rfl,rfl⟩)
  go_ret
  exact ⟨aL (by rw [HT.out,HS.out,g.out];rfl),aA B1.out Q⟩
 | true =>
  have D:=Hd (eB u)
  have g:=Hd u
  clear u
  cases q:inR (t / d.W) 0 (d.H - 1) with
  | false =>
   have G:=Hd (eB q)
   have j:=Hd q
   clear q
   go_wp2_with (go_at_call 83;(first|((with_reducible refine (D.out _).mono ?_);rintro e w' ⟨rfl,rfl⟩)|((with_reducible refine (G.out _).mono ?_);rintro e w' ⟨rfl,rfl⟩)))
   go_ret
   exact ⟨aL (by rw [HT.out,HS.out,g.out,j.out];rfl),aA B1.out Q⟩
  | true =>
   have G:=Hd (eB q)
   have j:=Hd q
   have hM:=HM.out (aU.1 q)
   have aF:=(aU.1 g.out)
   clear q
   go_wp2_with (go_at_call 83;(first|((with_reducible refine (D.out _).mono ?_);rintro e w' ⟨rfl,rfl⟩)|((with_reducible refine (G.out _).mono ?_);rintro e w' ⟨rfl,rfl⟩)))
   go_ret
   exact ⟨aL (by rw [HT.out,HS.out,g.out,j.out];first|rfl|(simp;done)|(simp;omega)),aA B1.out Q⟩
theorem zF (d:Dev) (t s:Int) (w:World) (ht:az d t=true) (h0:0<=s) (h1:s<=6) :
  Calls Tryz.prog 230 #[.agg (dv d),.int .i64 t,.int .i64 3,.int .i64 s] w fun e w'=>e = .returned (.int .i64 (av d t 3 s))/\Below w.heap.size w w':=by
 have hd:=(aV.1 ht).1
 have z:=(aV.1 ht).2.1
 have ad:=(aV.1 ht).2.2
 have R:=fM hd
 obtain ⟨aO,aI,ag,J,-⟩:=ay hd
 obtain ⟨x0,x1,y0,y1,-⟩:=pX ht
 have e0:¬d.W=0:=by omega
 have e1:t.tmod d.W=t % d.W:=Int.tmod_eq_emod_of_nonneg z
 have e2:IntKind.i64.wrap (t.tdiv d.W)=t / d.W:=IntWalk.i64_quo _ _ ⟨z,by omega,by omega⟩
 have ax:=Hd ht
 have HM:=Hd (fun (h:0<=stY d t 3 s/\stY d t 3 s<=d.H - 1)=>jc h.1 (show stY d t 3 s<=5 by omega) (show 0<=d.W by omega) (show d.W<=6 by omega))
 have HS:=Hd (show nZ d t 3 s=(inR (stX d t 3 s) 0 (d.W - 1) && inR (stY d t 3 s) 0 (d.H - 1)) from rfl)
 have HT:=Hd (show av d t 3 s=if nZ d t 3 s=true then stY d t 3 s * d.W+stX d t 3 s else -1 from rfl)
 generalize u:stX d t 3 s=X at *
 generalize q:stY d t 3 s=Y at *
 generalize av d t 3 s=P at *
 generalize nZ d t 3 s=B at *
 obtain rfl:t % d.W=X:=by rw [←u];simp [stX]
 obtain rfl:t / d.W - s=Y:=by rw [←q];simp [stY]
 have ae:=eB (n:=3) (lo:=0) (hi:=3) (b:=true) (by decide)
 have af:=eB (n:=s) (lo:=0) (hi:=6) (b:=true) (aU.2 ⟨h0,h1⟩)
 obtain ⟨ai,aj⟩:=hd2 ae af
 clear ht hd u q ae af
 go_enter Tryz.func230,Tryz.ntmps230
 go_wp2_with fail
 refine (gZ d t _ ax.out).mono ?_
 rintro e w1 ⟨rfl,b1⟩
 have V:=lN d t
 generalize bH d t=K at *
 have B1:=Hd (aA (aD (Below.refl _ _) _) b1)
 have au:=b1.size
 simp only [World.size_alloc] at au
 obtain ⟨hcc,aM⟩:=bG b1
 have Z:decide (K<0)=false:=by simp;omega
 clear b1
 have U:w.heap.size<w1.heap.size:=by omega
 go_wp2_with (go_at_call 83;(first|((with_reducible refine (ai.out _).mono ?_);rintro e w' ⟨rfl,rfl⟩)|((with_reducible refine (aj.out _).mono ?_);rintro e w' ⟨rfl,rfl⟩)))
 have ar:Hid (IntKind.i64.wrap (t % d.W+IntKind.i64.wrap 0)=t % d.W):=(kM (by omega) (by omega)).trans (by omega)
 have aw:Hid (IntKind.i64.wrap (t / d.W+IntKind.i64.wrap (-s))=t / d.W - s):=(kM (by omega) (by omega)).trans (by omega)
 go_cut [9] (fun s9 wx=>zA (t % d.W) w1 s9 wx)
 case first =>
  clear V Z h0 h1 z ad ag J R
  go_region_with (fail)
  all_goals
   go_wp2_with fail
   go_meet
   exact ⟨by rw [ar.out],aD (Below.refl _ _).drew _⟩
 obtain ⟨rfl,I⟩:=hcut
 have aE:=aK I U
 have aB:=(bG I).1
 go_wp2_with fail
 go_cut [10] (fun al wy=>zA (t / d.W - s) w1 al wy)
 case first =>
  clear V Z h0 h1 z ad ag J R
  go_region_with (fail)
  all_goals
   go_wp2_with fail
   go_meet
   exact ⟨by rw [aw.out],aA I (aD (Below.refl _ _).drew _)⟩
 obtain ⟨rfl,Q⟩:=hcut
 have aH:=aK Q U
 have aN:=(bG Q).1
 clear e1 e2 aB
 cases u:inR (t % d.W) 0 (d.W - 1) with
 | false =>
  have D:=Hd (eB u)
  have g:=Hd u
  clear u
  go_wp2_with (go_at_call 83;(with_reducible refine (D.out _).mono ?_);rintro e w' ⟨rfl,rfl⟩)
  go_ret
  exact ⟨aL (by rw [HT.out,HS.out,g.out];rfl),aA B1.out Q⟩
 | true =>
  have D:=Hd (eB u)
  have g:=Hd u
  clear u
  cases q:inR (t / d.W - s) 0 (d.H - 1) with
  | false =>
   have G:=Hd (eB q)
   have j:=Hd q
   clear q
   go_wp2_with (go_at_call 83;(first|((with_reducible refine (D.out _).mono ?_);rintro e w' ⟨rfl,rfl⟩)|((with_reducible refine (G.out _).mono ?_);rintro e w' ⟨rfl,rfl⟩)))
   go_ret
   exact ⟨aL (by rw [HT.out,HS.out,g.out,j.out];rfl),aA B1.out Q⟩
  | true =>
   have G:=Hd (eB q)
   have j:=Hd q
   have hM:=HM.out (aU.1 q)
   have aF:=(aU.1 g.out)
   clear q
   go_wp2_with (go_at_call 83;(first|((with_reducible refine (D.out _).mono ?_);rintro e w' ⟨rfl,rfl⟩)|((with_reducible refine (G.out _).mono ?_);rintro e w' ⟨rfl,rfl⟩)))
   go_ret
   exact ⟨aL (by rw [HT.out,HS.out,g.out,j.out];first|rfl|(simp;done)|(simp;omega)),aA B1.out Q⟩
theorem iC (d:Dev) (t r s:Int) (w:World) (ht:az d t=true) (g:0<=r) (j:r<=3) (h0:0<=s) (h1:s<=6) :
 Calls Tryz.prog 230 #[.agg (dv d),.int .i64 t,.int .i64 r,.int .i64 s] w fun e w'=>e = .returned (.int .i64 (av d t r s))/\Below w.heap.size w w':=by
 have:r=0∨r=1∨r=2∨r=3:=by omega
 rcases this with rfl|rfl|rfl|rfl
 ·exact zB d t s w ht h0 h1
 ·exact zC d t s w ht h0 h1
 ·exact zD d t s w ht h0 h1
 exact zF d t s w ht h0 h1
end Go.Proofs.YtofihjoanjkdmaaGreat
