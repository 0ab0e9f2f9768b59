/- Routing nodes of the reference: pins, wires, which nodes exist. -/
import Derived.Test.YtofihjoanjkdmaaGreatRt5
namespace Go.Proofs.YtofihjoanjkdmaaGreat
set_option maxHeartbeats 1000000
set_option maxRecDepth 100000
open Go.RowKit
theorem eQ{n lo hi:Int}{b:Bool}(h:inR n lo hi=b)(w:World):Calls Tryz.prog 83 #[.int .i64 n,.int .i64 lo,.int .i64 hi] w fun e w'=>e=.returned (.bool b)/\w=w':=by
 have:=bV n lo hi w;rwa[h]at this
theorem ku{a b:Int}(hb:-9223372036854775808<=b/\b<=9223372036854775807)(h:-9223372036854775808<=a+b/\a+b<=9223372036854775807):IntKind.i64.wrap (a+IntKind.i64.wrap b)=a+b:=by rw[IntWalk.i64_in b hb,IntWalk.i64_in _ h]
def FE(X:Int)(g:World)(s:Value)(j:World):Prop:=s=.int .i64 X/\Below g.heap.size g j
theorem iG(d:Dev)(t:Int)(w:World)(ht:ai d t=true) :
  Calls Tryz.prog 113 #[.agg (dv d),.int .i64 t] w fun e w'=>e=.returned (.int .i64 (ah d t))/\Below w.heap.size w w':=by
 obtain⟨hd,h0,h1⟩:=aP.1 ht;have g:=eu hd;have:=qP d t w (by omega);rwa[GL hd h0 h1]at this
theorem uh(d:Dev)(t:Int)(w:World)(ht:ai d t=false)(hb:t<=1099511627776) :
  Calls Tryz.prog 113 #[.agg (dv d),.int .i64 t] w fun e w'=>e=.returned (.int .i64 (-1))/\Below w.heap.size w w':=by
 have:=qP d t w hb
 have e:jf d t=-1:=by
  unfold jf;rw[if_neg];intro h;rw[aP.2 h]at ht
  cases ht
 rwa[e]at this
theorem fe(d:Dev)(w:World)(h0:0<=d.T)(h1:d.T<=1099511627776) :
  Calls Tryz.prog 68 #[.agg (dv d)] w fun e w'=>e=.returned (.int .i64 (ag d))/\Below w.heap.size w w':=by
 unfold ag;go_enter Tryz.func68,Tryz.ntmps68;go_wp2;go_ret;exact⟨rfl,aB (Below.refl _ _) _⟩
def xB(d:Dev):Int:=if bQ d=true then fE d else 0
theorem nS(d:Dev)(w:World) :
  Calls Tryz.prog 116 #[.agg (dv d)] w fun e w'=>e=.returned (.int .i64 (xB d))/\Below w.heap.size w w':=by
 go_enter Tryz.func116,Tryz.ntmps116;go_wp2_with fail;refine(dw d _).mono ?_;rintro e j ⟨rfl,q⟩;have D:=Hd (aA (aB (Below.refl _ _) _) q);have u:=q.size;simp only[World.size_alloc]at u;obtain⟨hcc,R⟩:=az q;clear q
 cases hd:bQ d with
 | false =>
  have B:=Hd hd;clear hd;go_wp2;go_ret
  exact⟨aQ (by rw[xB,B.1];rfl),D.1⟩
 | true =>
  have U:=ak hd;have J:=eu hd;have hp:=fT hd;have hn:=jg hd;have B:=Hd hd;have G:=Hd (show fE d=d.W*d.H*ag d from rfl);rw[G.1]at hn;have Q:Hv (xB d=d.W*d.H*ag d):=Hd<|by show _=_;rw[xB,if_pos hd];rfl
  clear hd;go_wp2_with fail;have I:w.heap.size<j.heap.size:=by omega
  have g:=dB j;have z:=au j;refine wpB j ?_
  repeat(go_big_quiet_step ((first
   | (go_at_call 68;with_reducible exact aV (fe d _ (by omega) (by omega))))))
  refine wpQuiet_nil ?_;rintro _ ⟨⟨V,K⟩,rfl⟩;clear g z;go_wp2;go_ret;exact⟨aQ (by rw[Q.1]),aA D.1 K⟩
theorem FF(d:Dev)(t s:Int)(w:World)(ht:ai d t=true)(h0:0<=s)(h1:s<=6) :
  Calls Tryz.prog 230 #[.agg (dv d),.int .i64 t,.int .i64 0,.int .i64 s] w fun e w'=>e=.returned (.int .i64 (ax d t 0 s))/\Below w.heap.size w w':=by
 have hd:=(aP.1 ht).1;have z:=(aP.1 ht).2.1;have Z:=(aP.1 ht).2.2;have ae:=eu hd;obtain⟨aE,aM,Q,ad,-⟩:=ak hd;obtain⟨x0,x1,y0,y1,-⟩:=jL ht;have e0:¬d.W=0:=by omega
 have e1:t.tmod d.W=t%d.W:=Int.tmod_eq_emod_of_nonneg z;have e2:IntKind.i64.wrap (t.tdiv d.W)=t/d.W:=IntWalk.i64_quo _ _ ⟨z,by omega,by omega⟩;have aq:=Hd ht;have HM:=Hd (fun(h:0<=stY d t 0 s/\stY d t 0 s<=d.H-1)=>iB h.1 (show stY d t 0 s<=5 by omega) (show 0<=d.W by omega) (show d.W<=6 by omega));have HS:=Hd (show pQ d t 0 s=(inR (stX d t 0 s) 0 (d.W-1) && inR (stY d t 0 s) 0 (d.H-1)) from rfl);have HT:=Hd (show ax d t 0 s=if pQ d t 0 s=true then stY d t 0 s*d.W+stX d t 0 s else -1 from rfl);generalize u:stX d t 0 s=X at *;generalize q:stY d t 0 s=Y at *;generalize ax d t 0 s=P at *;generalize pQ d t 0 s=B at *;obtain rfl:t%d.W+s=X:=by rw[←u];simp[stX]
 obtain rfl:t/d.W=Y:=by rw[←q];simp[stY]
 have R:=eQ (n:=0) (lo:=0) (hi:=3) (b:=true) (by decide);have ag:=eQ (n:=s) (lo:=0) (hi:=6) (b:=true) (aR.2 ⟨h0,h1⟩);obtain⟨ap,au⟩:=hd2 R ag;clear ht hd u q R ag;go_enter Tryz.func230,Tryz.ntmps230;go_wp2_with fail;refine(iG d t _ aq.1).mono ?_;rintro e w1 ⟨rfl,b1⟩;have U:=mQ d t;generalize ah d t=K at *;have B1:=Hd (aA (aB (Below.refl _ _) _) b1);have al:=b1.size;simp only[World.size_alloc]at al;obtain⟨hcc,aN⟩:=az b1;have J:decide (K<0)=false:=by simp;omega
 clear b1;have V:w.heap.size<w1.heap.size:=by omega
 go_wp2_with (go_at_call 83;(first|((with_reducible refine(ap.1 _).mono ?_);rintro e w' ⟨rfl,rfl⟩)|((with_reducible refine(au.1 _).mono ?_);rintro e w' ⟨rfl,rfl⟩)))
 have am:Hv (IntKind.i64.wrap (t%d.W+IntKind.i64.wrap s)=t%d.W+s):=Hd<|(ku (by omega) (by omega)).trans (by omega)
 have ay:Hv (IntKind.i64.wrap (t/d.W+IntKind.i64.wrap 0)=t/d.W):=Hd<|(ku (by omega) (by omega)).trans (by omega)
 go_cut[9] (fun s9 wx=>FE (t%d.W+s) w1 s9 wx)
 case first =>
  clear U J h0 h1 z Z Q ad ae
  go_region_with (fail)
  all_goals
   go_wp2;go_meet;exact⟨by rw[am.1],aB (Below.refl _ _).drew _⟩
 obtain⟨rfl,I⟩:=hcut;have aF:=aJ I V;have aD:=(az I).1;go_wp2
 go_cut[10] (fun aw wy=>FE (t/d.W) w1 aw wy)
 case first =>
  clear U J h0 h1 z Z Q ad ae
  go_region_with (fail)
  all_goals
   go_wp2;go_meet;exact⟨by rw[ay.1],aA I (aB (Below.refl _ _).drew _)⟩
 obtain⟨rfl,hD⟩:=hcut;have aS:=aJ hD V;have aO:=(az hD).1;clear e1 e2 aD
 cases u:inR (t%d.W+s) 0 (d.W-1)with
 | false =>
  have D:=Hd (eQ u);have g:=Hd u;clear u
  go_wp2_with (go_at_call 83;(with_reducible refine(D.1 _).mono ?_);rintro e w' ⟨rfl,rfl⟩)
  go_ret
  exact⟨aQ (by rw[HT.1,HS.1,g.1];rfl),aA B1.1 hD⟩
 | true =>
  have D:=Hd (eQ u);have g:=Hd u;clear u
  cases q:inR (t/d.W) 0 (d.H-1)with
  | false =>
   have G:=Hd (eQ q);have j:=Hd q;clear q
   go_wp2_with (go_at_call 83;(first|((with_reducible refine(D.1 _).mono ?_);rintro e w' ⟨rfl,rfl⟩)|((with_reducible refine(G.1 _).mono ?_);rintro e w' ⟨rfl,rfl⟩)))
   go_ret
   exact⟨aQ (by rw[HT.1,HS.1,g.1,j.1];rfl),aA B1.1 hD⟩
  | true =>
   have G:=Hd (eQ q);have j:=Hd q;have hM:=HM.1 (aR.1 q);have aH:=(aR.1 g.1);clear q
   go_wp2_with (go_at_call 83;(first|((with_reducible refine(D.1 _).mono ?_);rintro e w' ⟨rfl,rfl⟩)|((with_reducible refine(G.1 _).mono ?_);rintro e w' ⟨rfl,rfl⟩)))
   go_ret;exact⟨aQ (by rw[HT.1,HS.1,g.1,j.1];first|rfl|(simp;done)|(simp;omega)),aA B1.1 hD⟩
theorem FH(d:Dev)(t s:Int)(w:World)(ht:ai d t=true)(h0:0<=s)(h1:s<=6) :
  Calls Tryz.prog 230 #[.agg (dv d),.int .i64 t,.int .i64 1,.int .i64 s] w fun e w'=>e=.returned (.int .i64 (ax d t 1 s))/\Below w.heap.size w w':=by
 have hd:=(aP.1 ht).1;have z:=(aP.1 ht).2.1;have Z:=(aP.1 ht).2.2;have ae:=eu hd;obtain⟨aE,aM,Q,ad,-⟩:=ak hd;obtain⟨x0,x1,y0,y1,-⟩:=jL ht;have e0:¬d.W=0:=by omega
 have e1:t.tmod d.W=t%d.W:=Int.tmod_eq_emod_of_nonneg z;have e2:IntKind.i64.wrap (t.tdiv d.W)=t/d.W:=IntWalk.i64_quo _ _ ⟨z,by omega,by omega⟩;have aq:=Hd ht;have HM:=Hd (fun(h:0<=stY d t 1 s/\stY d t 1 s<=d.H-1)=>iB h.1 (show stY d t 1 s<=5 by omega) (show 0<=d.W by omega) (show d.W<=6 by omega));have HS:=Hd (show pQ d t 1 s=(inR (stX d t 1 s) 0 (d.W-1) && inR (stY d t 1 s) 0 (d.H-1)) from rfl);have HT:=Hd (show ax d t 1 s=if pQ d t 1 s=true then stY d t 1 s*d.W+stX d t 1 s else -1 from rfl);generalize u:stX d t 1 s=X at *;generalize q:stY d t 1 s=Y at *;generalize ax d t 1 s=P at *;generalize pQ d t 1 s=B at *;obtain rfl:t%d.W=X:=by rw[←u];simp[stX]
 obtain rfl:t/d.W+s=Y:=by rw[←q];simp[stY]
 have R:=eQ (n:=1) (lo:=0) (hi:=3) (b:=true) (by decide);have ag:=eQ (n:=s) (lo:=0) (hi:=6) (b:=true) (aR.2 ⟨h0,h1⟩);obtain⟨ap,au⟩:=hd2 R ag;clear ht hd u q R ag;go_enter Tryz.func230,Tryz.ntmps230;go_wp2_with fail;refine(iG d t _ aq.1).mono ?_;rintro e w1 ⟨rfl,b1⟩;have U:=mQ d t;generalize ah d t=K at *;have B1:=Hd (aA (aB (Below.refl _ _) _) b1);have al:=b1.size;simp only[World.size_alloc]at al;obtain⟨hcc,aN⟩:=az b1;have J:decide (K<0)=false:=by simp;omega
 clear b1;have V:w.heap.size<w1.heap.size:=by omega
 go_wp2_with (go_at_call 83;(first|((with_reducible refine(ap.1 _).mono ?_);rintro e w' ⟨rfl,rfl⟩)|((with_reducible refine(au.1 _).mono ?_);rintro e w' ⟨rfl,rfl⟩)))
 have am:Hv (IntKind.i64.wrap (t%d.W+IntKind.i64.wrap 0)=t%d.W):=Hd<|(ku (by omega) (by omega)).trans (by omega)
 have ay:Hv (IntKind.i64.wrap (t/d.W+IntKind.i64.wrap s)=t/d.W+s):=Hd<|(ku (by omega) (by omega)).trans (by omega)
 go_cut[9] (fun s9 wx=>FE (t%d.W) w1 s9 wx)
 case first =>
  clear U J h0 h1 z Z Q ad ae
  go_region_with (fail)
  all_goals
   go_wp2;go_meet;exact⟨by rw[am.1],aB (Below.refl _ _).drew _⟩
 obtain⟨rfl,I⟩:=hcut;have aF:=aJ I V;have aD:=(az I).1;go_wp2
 go_cut[10] (fun aw wy=>FE (t/d.W+s) w1 aw wy)
 case first =>
  clear U J h0 h1 z Z Q ad ae
  go_region_with (fail)
  all_goals
   go_wp2;go_meet;exact⟨by rw[ay.1],aA I (aB (Below.refl _ _).drew _)⟩
 obtain⟨rfl,hD⟩:=hcut;have aS:=aJ hD V;have aO:=(az hD).1;clear e1 e2 aD
 cases u:inR (t%d.W) 0 (d.W-1)with
 | false =>
  have D:=Hd (eQ u);have g:=Hd u;clear u
  go_wp2_with (go_at_call 83;(with_reducible refine(D.1 _).mono ?_);rintro e w' ⟨rfl,rfl⟩)
  go_ret
  exact⟨aQ (by rw[HT.1,HS.1,g.1];rfl),aA B1.1 hD⟩
 | true =>
  have D:=Hd (eQ u);have g:=Hd u;clear u
  cases q:inR (t/d.W+s) 0 (d.H-1)with
  | false =>
   have G:=Hd (eQ q);have j:=Hd q;clear q
   go_wp2_with (go_at_call 83;(first|((with_reducible refine(D.1 _).mono ?_);rintro e w' ⟨rfl,rfl⟩)|((with_reducible refine(G.1 _).mono ?_);rintro e w' ⟨rfl,rfl⟩)))
   go_ret
   exact⟨aQ (by rw[HT.1,HS.1,g.1,j.1];rfl),aA B1.1 hD⟩
  | true =>
   have G:=Hd (eQ q);have j:=Hd q;have hM:=HM.1 (aR.1 q);have aH:=(aR.1 g.1);clear q
   go_wp2_with (go_at_call 83;(first|((with_reducible refine(D.1 _).mono ?_);rintro e w' ⟨rfl,rfl⟩)|((with_reducible refine(G.1 _).mono ?_);rintro e w' ⟨rfl,rfl⟩)))
   go_ret;exact⟨aQ (by rw[HT.1,HS.1,g.1,j.1];first|rfl|(simp;done)|(simp;omega)),aA B1.1 hD⟩
theorem FI(d:Dev)(t s:Int)(w:World)(ht:ai d t=true)(h0:0<=s)(h1:s<=6) :
  Calls Tryz.prog 230 #[.agg (dv d),.int .i64 t,.int .i64 2,.int .i64 s] w fun e w'=>e=.returned (.int .i64 (ax d t 2 s))/\Below w.heap.size w w':=by
 have hd:=(aP.1 ht).1;have z:=(aP.1 ht).2.1;have Z:=(aP.1 ht).2.2;have ae:=eu hd;obtain⟨aE,aM,Q,ad,-⟩:=ak hd;obtain⟨x0,x1,y0,y1,-⟩:=jL ht;have e0:¬d.W=0:=by omega
 have e1:t.tmod d.W=t%d.W:=Int.tmod_eq_emod_of_nonneg z;have e2:IntKind.i64.wrap (t.tdiv d.W)=t/d.W:=IntWalk.i64_quo _ _ ⟨z,by omega,by omega⟩;have aq:=Hd ht;have HM:=Hd (fun(h:0<=stY d t 2 s/\stY d t 2 s<=d.H-1)=>iB h.1 (show stY d t 2 s<=5 by omega) (show 0<=d.W by omega) (show d.W<=6 by omega));have HS:=Hd (show pQ d t 2 s=(inR (stX d t 2 s) 0 (d.W-1) && inR (stY d t 2 s) 0 (d.H-1)) from rfl);have HT:=Hd (show ax d t 2 s=if pQ d t 2 s=true then stY d t 2 s*d.W+stX d t 2 s else -1 from rfl);generalize u:stX d t 2 s=X at *;generalize q:stY d t 2 s=Y at *;generalize ax d t 2 s=P at *;generalize pQ d t 2 s=B at *;obtain rfl:t%d.W-s=X:=by rw[←u];simp[stX]
 obtain rfl:t/d.W=Y:=by rw[←q];simp[stY]
 have R:=eQ (n:=2) (lo:=0) (hi:=3) (b:=true) (by decide);have ag:=eQ (n:=s) (lo:=0) (hi:=6) (b:=true) (aR.2 ⟨h0,h1⟩);obtain⟨ap,au⟩:=hd2 R ag;clear ht hd u q R ag;go_enter Tryz.func230,Tryz.ntmps230;go_wp2_with fail;refine(iG d t _ aq.1).mono ?_;rintro e w1 ⟨rfl,b1⟩;have U:=mQ d t;generalize ah d t=K at *;have B1:=Hd (aA (aB (Below.refl _ _) _) b1);have al:=b1.size;simp only[World.size_alloc]at al;obtain⟨hcc,aN⟩:=az b1;have J:decide (K<0)=false:=by simp;omega
 clear b1;have V:w.heap.size<w1.heap.size:=by omega
 go_wp2_with (go_at_call 83;(first|((with_reducible refine(ap.1 _).mono ?_);rintro e w' ⟨rfl,rfl⟩)|((with_reducible refine(au.1 _).mono ?_);rintro e w' ⟨rfl,rfl⟩)))
 have am:Hv (IntKind.i64.wrap (t%d.W+IntKind.i64.wrap (-s))=t%d.W-s):=Hd<|(ku (by omega) (by omega)).trans (by omega)
 have ay:Hv (IntKind.i64.wrap (t/d.W+IntKind.i64.wrap 0)=t/d.W):=Hd<|(ku (by omega) (by omega)).trans (by omega)
 go_cut[9] (fun s9 wx=>FE (t%d.W-s) w1 s9 wx)
 case first =>
  clear U J h0 h1 z Z Q ad ae
  go_region_with (fail)
  all_goals
   go_wp2;go_meet;exact⟨by rw[am.1],aB (Below.refl _ _).drew _⟩
 obtain⟨rfl,I⟩:=hcut;have aF:=aJ I V;have aD:=(az I).1;go_wp2
 go_cut[10] (fun aw wy=>FE (t/d.W) w1 aw wy)
 case first =>
  clear U J h0 h1 z Z Q ad ae
  go_region_with (fail)
  all_goals
   go_wp2;go_meet;exact⟨by rw[ay.1],aA I (aB (Below.refl _ _).drew _)⟩
 obtain⟨rfl,hD⟩:=hcut;have aS:=aJ hD V;have aO:=(az hD).1;clear e1 e2 aD
 cases u:inR (t%d.W-s) 0 (d.W-1)with
 | false =>
  have D:=Hd (eQ u);have g:=Hd u;clear u
  go_wp2_with (go_at_call 83;(with_reducible refine(D.1 _).mono ?_);rintro e w' ⟨rfl,rfl⟩)
  go_ret
  exact⟨aQ (by rw[HT.1,HS.1,g.1];rfl),aA B1.1 hD⟩
 | true =>
  have D:=Hd (eQ u);have g:=Hd u;clear u
  cases q:inR (t/d.W) 0 (d.H-1)with
  | false =>
   have G:=Hd (eQ q);have j:=Hd q;clear q
   go_wp2_with (go_at_call 83;(first|((with_reducible refine(D.1 _).mono ?_);rintro e w' ⟨rfl,rfl⟩)|((with_reducible refine(G.1 _).mono ?_);rintro e w' ⟨rfl,rfl⟩)))
   go_ret
   exact⟨aQ (by rw[HT.1,HS.1,g.1,j.1];rfl),aA B1.1 hD⟩
  | true =>
   have G:=Hd (eQ q);have j:=Hd q;have hM:=HM.1 (aR.1 q);have aH:=(aR.1 g.1);clear q
   go_wp2_with (go_at_call 83;(first|((with_reducible refine(D.1 _).mono ?_);rintro e w' ⟨rfl,rfl⟩)|((with_reducible refine(G.1 _).mono ?_);rintro e w' ⟨rfl,rfl⟩)))
   go_ret;exact⟨aQ (by rw[HT.1,HS.1,g.1,j.1];first|rfl|(simp;done)|(simp;omega)),aA B1.1 hD⟩
theorem FJ(d:Dev)(t s:Int)(w:World)(ht:ai d t=true)(h0:0<=s)(h1:s<=6) :
  Calls Tryz.prog 230 #[.agg (dv d),.int .i64 t,.int .i64 3,.int .i64 s] w fun e w'=>e=.returned (.int .i64 (ax d t 3 s))/\Below w.heap.size w w':=by
 have hd:=(aP.1 ht).1;have z:=(aP.1 ht).2.1;have Z:=(aP.1 ht).2.2;have ae:=eu hd;obtain⟨aE,aM,Q,ad,-⟩:=ak hd;obtain⟨x0,x1,y0,y1,-⟩:=jL ht;have e0:¬d.W=0:=by omega
 have e1:t.tmod d.W=t%d.W:=Int.tmod_eq_emod_of_nonneg z;have e2:IntKind.i64.wrap (t.tdiv d.W)=t/d.W:=IntWalk.i64_quo _ _ ⟨z,by omega,by omega⟩;have aq:=Hd ht;have HM:=Hd (fun(h:0<=stY d t 3 s/\stY d t 3 s<=d.H-1)=>iB h.1 (show stY d t 3 s<=5 by omega) (show 0<=d.W by omega) (show d.W<=6 by omega));have HS:=Hd (show pQ d t 3 s=(inR (stX d t 3 s) 0 (d.W-1) && inR (stY d t 3 s) 0 (d.H-1)) from rfl);have HT:=Hd (show ax d t 3 s=if pQ d t 3 s=true then stY d t 3 s*d.W+stX d t 3 s else -1 from rfl);generalize u:stX d t 3 s=X at *;generalize q:stY d t 3 s=Y at *;generalize ax d t 3 s=P at *;generalize pQ d t 3 s=B at *;obtain rfl:t%d.W=X:=by rw[←u];simp[stX]
 obtain rfl:t/d.W-s=Y:=by rw[←q];simp[stY]
 have R:=eQ (n:=3) (lo:=0) (hi:=3) (b:=true) (by decide);have ag:=eQ (n:=s) (lo:=0) (hi:=6) (b:=true) (aR.2 ⟨h0,h1⟩);obtain⟨ap,au⟩:=hd2 R ag;clear ht hd u q R ag;go_enter Tryz.func230,Tryz.ntmps230;go_wp2_with fail;refine(iG d t _ aq.1).mono ?_;rintro e w1 ⟨rfl,b1⟩;have U:=mQ d t;generalize ah d t=K at *;have B1:=Hd (aA (aB (Below.refl _ _) _) b1);have al:=b1.size;simp only[World.size_alloc]at al;obtain⟨hcc,aN⟩:=az b1;have J:decide (K<0)=false:=by simp;omega
 clear b1;have V:w.heap.size<w1.heap.size:=by omega
 go_wp2_with (go_at_call 83;(first|((with_reducible refine(ap.1 _).mono ?_);rintro e w' ⟨rfl,rfl⟩)|((with_reducible refine(au.1 _).mono ?_);rintro e w' ⟨rfl,rfl⟩)))
 have am:Hv (IntKind.i64.wrap (t%d.W+IntKind.i64.wrap 0)=t%d.W):=Hd<|(ku (by omega) (by omega)).trans (by omega)
 have ay:Hv (IntKind.i64.wrap (t/d.W+IntKind.i64.wrap (-s))=t/d.W-s):=Hd<|(ku (by omega) (by omega)).trans (by omega)
 go_cut[9] (fun s9 wx=>FE (t%d.W) w1 s9 wx)
 case first =>
  clear U J h0 h1 z Z Q ad ae
  go_region_with (fail)
  all_goals
   go_wp2;go_meet;exact⟨by rw[am.1],aB (Below.refl _ _).drew _⟩
 obtain⟨rfl,I⟩:=hcut;have aF:=aJ I V;have aD:=(az I).1;go_wp2
 go_cut[10] (fun aw wy=>FE (t/d.W-s) w1 aw wy)
 case first =>
  clear U J h0 h1 z Z Q ad ae
  go_region_with (fail)
  all_goals
   go_wp2;go_meet;exact⟨by rw[ay.1],aA I (aB (Below.refl _ _).drew _)⟩
 obtain⟨rfl,hD⟩:=hcut;have aS:=aJ hD V;have aO:=(az hD).1;clear e1 e2 aD
 cases u:inR (t%d.W) 0 (d.W-1)with
 | false =>
  have D:=Hd (eQ u);have g:=Hd u;clear u
  go_wp2_with (go_at_call 83;(with_reducible refine(D.1 _).mono ?_);rintro e w' ⟨rfl,rfl⟩)
  go_ret
  exact⟨aQ (by rw[HT.1,HS.1,g.1];rfl),aA B1.1 hD⟩
 | true =>
  have D:=Hd (eQ u);have g:=Hd u;clear u
  cases q:inR (t/d.W-s) 0 (d.H-1)with
  | false =>
   have G:=Hd (eQ q);have j:=Hd q;clear q
   go_wp2_with (go_at_call 83;(first|((with_reducible refine(D.1 _).mono ?_);rintro e w' ⟨rfl,rfl⟩)|((with_reducible refine(G.1 _).mono ?_);rintro e w' ⟨rfl,rfl⟩)))
   go_ret
   exact⟨aQ (by rw[HT.1,HS.1,g.1,j.1];rfl),aA B1.1 hD⟩
  | true =>
   have G:=Hd (eQ q);have j:=Hd q;have hM:=HM.1 (aR.1 q);have aH:=(aR.1 g.1);clear q
   go_wp2_with (go_at_call 83;(first|((with_reducible refine(D.1 _).mono ?_);rintro e w' ⟨rfl,rfl⟩)|((with_reducible refine(G.1 _).mono ?_);rintro e w' ⟨rfl,rfl⟩)))
   go_ret;exact⟨aQ (by rw[HT.1,HS.1,g.1,j.1];first|rfl|(simp;done)|(simp;omega)),aA B1.1 hD⟩
theorem jC(d:Dev)(t r s:Int)(w:World)(ht:ai d t=true)(j:0<=r)(g:r<=3)(h0:0<=s)(h1:s<=6) :
 Calls Tryz.prog 230 #[.agg (dv d),.int .i64 t,.int .i64 r,.int .i64 s] w fun e w'=>e=.returned (.int .i64 (ax d t r s))/\Below w.heap.size w w':=by
 have:r=0∨r=1∨r=2∨r=3:=by omega
 rcases this with rfl|rfl|rfl|rfl
 ·exact FF d t s w ht h0 h1
 ·exact FH d t s w ht h0 h1
 ·exact FI d t s w ht h0 h1
 exact FJ d t s w ht h0 h1
end Go.Proofs.YtofihjoanjkdmaaGreat
