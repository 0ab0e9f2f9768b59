/- Routing nodes of the program: pins, wires, which nodes exist. -/
import Derived.Test.YtofihjoanjkdmaaGreatEmpty
import Derived.Test.YtofihjoanjkdmaaGreatQb
import Derived.Test.YtofihjoanjkdmaaGreatRt4
namespace Go.Proofs.YtofihjoanjkdmaaGreat
set_option maxHeartbeats 2000000
set_option maxRecDepth 100000
open Go.RowKit
theorem x8(k:Int)(w:World) :
  Calls Tryz.prog 258 #[.int .i64 k] w fun e w'=>e=.returned (.int .i64 (jK k))/\w=w':=by
 by_cases h0:k=0
 ·subst h0;go_enter Tryz.func258,Tryz.ntmps258;go_wp2;go_ret;exact⟨rfl,rfl⟩
 by_cases h1:k=1
 ·subst h1;go_enter Tryz.func258,Tryz.ntmps258;go_wp2;go_ret;exact⟨rfl,rfl⟩
 by_cases h2:k=2
 ·subst h2;go_enter Tryz.func258,Tryz.ntmps258;go_wp2;go_ret;exact⟨rfl,rfl⟩
 have g:(k==0)=false:=by simpa using h0
 have e1:(k==1)=false:=by simpa using h1
 have e2:(k==2)=false:=by simpa using h2
 go_enter Tryz.func258,Tryz.ntmps258;go_wp2;go_ret;exact⟨aQ (by simp[jK,h0,h1,h2]),rfl⟩
theorem si(k:Int)(w:World) :
  Calls Tryz.prog 255 #[.int .i64 k] w fun e w'=>e=.returned (.int .i64 (jK k))/\w=w':=by
 by_cases h0:k=0
 ·subst h0;go_enter Tryz.func255,Tryz.ntmps255;go_wp2;go_ret;exact⟨rfl,rfl⟩
 by_cases h1:k=1
 ·subst h1;go_enter Tryz.func255,Tryz.ntmps255;go_wp2;go_ret;exact⟨rfl,rfl⟩
 by_cases h2:k=2
 ·subst h2;go_enter Tryz.func255,Tryz.ntmps255;go_wp2;go_ret;exact⟨rfl,rfl⟩
 have g:(k==0)=false:=by simpa using h0
 have e1:(k==1)=false:=by simpa using h1
 have e2:(k==2)=false:=by simpa using h2
 go_enter Tryz.func255,Tryz.ntmps255;go_wp2;go_ret;exact⟨aQ (by simp[jK,h0,h1,h2]),rfl⟩
theorem vz(k:Int)(w:World) :
  Calls Tryz.prog 259 #[.int .i64 k] w fun e w'=>e=.returned (.int .i64 (eU k))/\w=w':=by
 by_cases h0:k=0
 ·subst h0;go_enter Tryz.func259,Tryz.ntmps259;go_wp2;go_ret;exact⟨rfl,rfl⟩
 by_cases h1:k=1
 ·subst h1;go_enter Tryz.func259,Tryz.ntmps259;go_wp2;go_ret;exact⟨rfl,rfl⟩
 by_cases h2:k=2
 ·subst h2;go_enter Tryz.func259,Tryz.ntmps259;go_wp2;go_ret;exact⟨rfl,rfl⟩
 have g:(k==0)=false:=by simpa using h0
 have e1:(k==1)=false:=by simpa using h1
 have e2:(k==2)=false:=by simpa using h2
 go_enter Tryz.func259,Tryz.ntmps259;go_wp2;go_ret;exact⟨aQ (by simp[eU,h0,h1,h2]),rfl⟩
theorem lh(k:Int)(w:World) :
  Calls Tryz.prog 233 #[.int .i64 k] w fun e w'=>e=.returned (.int .i64 (eU k))/\w=w':=by
 by_cases h0:k=0
 ·subst h0;go_enter Tryz.func233,Tryz.ntmps233;go_wp2;go_ret;exact⟨rfl,rfl⟩
 by_cases h1:k=1
 ·subst h1;go_enter Tryz.func233,Tryz.ntmps233;go_wp2;go_ret;exact⟨rfl,rfl⟩
 by_cases h2:k=2
 ·subst h2;go_enter Tryz.func233,Tryz.ntmps233;go_wp2;go_ret;exact⟨rfl,rfl⟩
 have g:(k==0)=false:=by simpa using h0
 have e1:(k==1)=false:=by simpa using h1
 have e2:(k==2)=false:=by simpa using h2
 go_enter Tryz.func233,Tryz.ntmps233;go_wp2;go_ret;exact⟨aQ (by simp[eU,h0,h1,h2]),rfl⟩
theorem fG(k:Int)(w:World)(h0:0<=k)(h1:k<=1099511627776) :
  Calls Tryz.prog 232 #[.int .i64 k] w fun e w'=>e=.returned (.int .i64 (dC k))/\w=w':=by
 unfold dC;go_enter Tryz.func232,Tryz.ntmps232;go_wp2;go_ret;exact⟨rfl,rfl⟩
theorem pJ(d:Dev)(t:Int)(w:World) :
  Calls Tryz.prog 216 #[.agg (dv d),.int .i64 t] w fun e w'=>e=.returned (.bool (ai d t))/\Below w.heap.size w w':=by
 go_enter Tryz.func216,Tryz.ntmps216;go_wp2_with fail;refine(eG d _).mono ?_;rintro e H ⟨rfl,j⟩;have q:=Hd (aA (aB (Below.refl _ _) _) j);obtain⟨hcc,G⟩:=az j;clear j
 cases hd:bQ d with
 | false =>
  have g:=Hd hd;clear hd;go_wp2;go_ret
  exact⟨fH (by simp[ai,g.1]),q.1⟩
 | true =>
  obtain⟨D,z,B⟩:=jQ hd;obtain⟨g,u⟩:=hd2 hd D;clear hd
  go_wp2_with (go_at_call 93;refine(aM _ _ _ _).mono ?_;rintro e w' ⟨rfl,rfl⟩)
  go_ret;refine⟨fH ?_,q.1⟩;rw[Bool.eq_iff_iff,aR,aP,g.1,u.1];simp only[true_and];omega
theorem bf{n lo hi:Int}{b:Bool}(h:inR n lo hi=b)(w:World):Calls Tryz.prog 93 #[.int .i64 n,.int .i64 lo,.int .i64 hi] w fun e w'=>e=.returned (.bool b)/\w=w':=by
 have:=aM n lo hi w;rwa[h]at this
theorem OM{d:Dev}{t r s:Int}(ht:ai d t=true)(h0:0<=s)(h1:s<=6):-6<=stX d t r s/\stX d t r s<=12/\-6<=stY d t r s/\stY d t r s<=12:=by
 obtain⟨a,b,c,e,_⟩:=jL ht;have:=ak (aP.1 ht).1;unfold stX stY;refine⟨?_,?_,?_,?_⟩ <;> repeat' split
 all_goals omega
theorem DX(d:Dev)(t r s:Int)(w:World)(ht:ai d t=true)(h0:0<=s)(h1:s<=6) :
  Calls Tryz.prog 260 #[.agg (dv d),.int .i64 t,.int .i64 r,.int .i64 s] w fun e w'=>e=.returned (.int .i64 (ax d t r s))/\Below w.heap.size w w':=by
 have hd:=(aP.1 ht).1;have Q:=(aP.1 ht).2.1;have al:=(aP.1 ht).2.2;have ao:=eu hd;obtain⟨ah,ap,aq,am,_⟩:=ak hd;obtain⟨x0,x1,y0,y1,-⟩:=jL ht;have aj:=OM (r:=r) ht h0 h1;have e0:¬d.W=0:=by omega
 have e1:t.tmod d.W=t%d.W:=Int.tmod_eq_emod_of_nonneg Q;have e2:IntKind.i64.wrap (t.tdiv d.W)=t/d.W:=IntWalk.i64_quo _ _ ⟨Q,by omega,by omega⟩;have G:=Hd (show pQ d t r s=(inR (stX d t r s) 0 (d.W-1) && inR (stY d t r s) 0 (d.H-1)) from rfl);have I:=Hd (show ax d t r s=if pQ d t r s=true then stY d t r s*d.W+stX d t r s else -1 from rfl);have HX:Hv (stX d t r s=if r=0 then t%d.W+s else if r=2 then t%d.W-s else t%d.W):=Hd<|rfl
 have HY:Hv (stY d t r s=if r=1 then t/d.W+s else if r=0 then t/d.W else if r=2 then t/d.W else t/d.W-s):=Hd<|rfl
 have R:=Hd (fun(h:0<=stY d t r s/\stY d t r s<=d.H-1)=>iB h.1 (show stY d t r s<=5 by omega) (show 0<=d.W by omega) (show d.W<=6 by omega));generalize stX d t r s=X at *;generalize stY d t r s=Y at *;generalize ax d t r s=P at *;generalize pQ d t r s=B at *;clear ht hd;have K:r=0∨r=1∨r=2∨(¬r=0/\¬r=1/\¬r=2):=by omega
 have z:(r=0→X=t%d.W+s)/\(r=2→X=t%d.W-s)/\(¬r=0/\¬r=2→X=t%d.W):=by
  rw[HX.1];refine⟨fun h=>if_pos h,fun h=>by rw[if_neg (by omega),if_pos h],fun h=>by rw[if_neg h.1,if_neg h.2]⟩
 have D:(r=1→Y=t/d.W+s)/\(r=0∨r=2→Y=t/d.W)/\(¬r=0/\¬r=1/\¬r=2→Y=t/d.W-s):=by
  rw[HY.1];refine⟨fun h=>if_pos h,fun h=>?_,fun h=>by rw[if_neg h.2.1,if_neg h.1,if_neg h.2.2]⟩
  rcases h with h|h
  ·rw[if_neg (by omega),if_pos h]
  rw[if_neg (by omega),if_neg (by omega),if_pos h]
 clear HX HY
 rcases K with h|h|h|⟨U,Z,V⟩
 ·obtain rfl:=z.1 h;obtain rfl:=D.2.1 (.inl h);subst h;clear z D;go_enter Tryz.func260,Tryz.ntmps260;go_wp2_with fail
  go_quiet (fail)
  clear e1 e2
  cases u:inR (t%d.W+s) 0 (d.W-1)with
  | false =>
   have g:=Hd u;clear u
   go_wp2_with (go_at_call 93;refine(bf g.1 _).mono ?_;rintro e w' ⟨rfl,rfl⟩)
   go_ret
   exact⟨aQ (by rw[I.1,G.1,g.1];rfl),ae (aB (Below.refl _ _) _) _⟩
  | true =>
   have g:=Hd u;clear u
   cases q:inR (t/d.W) 0 (d.H-1)with
   | false =>
    have j:=Hd q;clear q
    go_wp2_with (go_at_call 93;(first|((with_reducible refine(bf g.1 _).mono ?_);rintro e w' ⟨rfl,rfl⟩)|((with_reducible refine(bf j.1 _).mono ?_);rintro e w' ⟨rfl,rfl⟩)))
    go_ret
    exact⟨aQ (by rw[I.1,G.1,g.1,j.1];rfl),ae (aB (Below.refl _ _) _) _⟩
   | true =>
    have j:=Hd q;have hM:=R.1 (aR.1 q);have J:=(aR.1 g.1);clear q
    go_wp2_with (go_at_call 93;(first|((with_reducible refine(bf g.1 _).mono ?_);rintro e w' ⟨rfl,rfl⟩)|((with_reducible refine(bf j.1 _).mono ?_);rintro e w' ⟨rfl,rfl⟩)))
    go_ret;exact⟨aQ (by rw[I.1,G.1,g.1,j.1];first|rfl|(simp;done)|(simp;omega)),ae (aB (Below.refl _ _) _) _⟩
 ·obtain rfl:=z.2.2 ⟨by omega,by omega⟩;obtain rfl:=D.1 h;subst h;clear z D;go_enter Tryz.func260,Tryz.ntmps260;go_wp2_with fail
  go_quiet (fail)
  clear e1 e2
  cases u:inR (t%d.W) 0 (d.W-1)with
  | false =>
   have g:=Hd u;clear u
   go_wp2_with (go_at_call 93;refine(bf g.1 _).mono ?_;rintro e w' ⟨rfl,rfl⟩)
   go_ret
   exact⟨aQ (by rw[I.1,G.1,g.1];rfl),ae (aB (Below.refl _ _) _) _⟩
  | true =>
   have g:=Hd u;clear u
   cases q:inR (t/d.W+s) 0 (d.H-1)with
   | false =>
    have j:=Hd q;clear q
    go_wp2_with (go_at_call 93;(first|((with_reducible refine(bf g.1 _).mono ?_);rintro e w' ⟨rfl,rfl⟩)|((with_reducible refine(bf j.1 _).mono ?_);rintro e w' ⟨rfl,rfl⟩)))
    go_ret
    exact⟨aQ (by rw[I.1,G.1,g.1,j.1];rfl),ae (aB (Below.refl _ _) _) _⟩
   | true =>
    have j:=Hd q;have hM:=R.1 (aR.1 q);have J:=(aR.1 g.1);clear q
    go_wp2_with (go_at_call 93;(first|((with_reducible refine(bf g.1 _).mono ?_);rintro e w' ⟨rfl,rfl⟩)|((with_reducible refine(bf j.1 _).mono ?_);rintro e w' ⟨rfl,rfl⟩)))
    go_ret;exact⟨aQ (by rw[I.1,G.1,g.1,j.1];first|rfl|(simp;done)|(simp;omega)),ae (aB (Below.refl _ _) _) _⟩
 ·obtain rfl:=z.2.1 h;obtain rfl:=D.2.1 (.inr h);subst h;clear z D;go_enter Tryz.func260,Tryz.ntmps260;go_wp2_with fail
  go_quiet (fail)
  clear e1 e2
  cases u:inR (t%d.W-s) 0 (d.W-1)with
  | false =>
   have g:=Hd u;clear u
   go_wp2_with (go_at_call 93;refine(bf g.1 _).mono ?_;rintro e w' ⟨rfl,rfl⟩)
   go_ret
   exact⟨aQ (by rw[I.1,G.1,g.1];rfl),ae (aB (Below.refl _ _) _) _⟩
  | true =>
   have g:=Hd u;clear u
   cases q:inR (t/d.W) 0 (d.H-1)with
   | false =>
    have j:=Hd q;clear q
    go_wp2_with (go_at_call 93;(first|((with_reducible refine(bf g.1 _).mono ?_);rintro e w' ⟨rfl,rfl⟩)|((with_reducible refine(bf j.1 _).mono ?_);rintro e w' ⟨rfl,rfl⟩)))
    go_ret
    exact⟨aQ (by rw[I.1,G.1,g.1,j.1];rfl),ae (aB (Below.refl _ _) _) _⟩
   | true =>
    have j:=Hd q;have hM:=R.1 (aR.1 q);have J:=(aR.1 g.1);clear q
    go_wp2_with (go_at_call 93;(first|((with_reducible refine(bf g.1 _).mono ?_);rintro e w' ⟨rfl,rfl⟩)|((with_reducible refine(bf j.1 _).mono ?_);rintro e w' ⟨rfl,rfl⟩)))
    go_ret;exact⟨aQ (by rw[I.1,G.1,g.1,j.1];first|rfl|(simp;done)|(simp;omega)),ae (aB (Below.refl _ _) _) _⟩
 obtain rfl:=z.2.2 ⟨U,V⟩;obtain rfl:=D.2.2 ⟨U,Z,V⟩;clear z D;have q0:(r==0)=false:=by simpa using U
 have q1:(r==1)=false:=by simpa using Z
 have q2:(r==2)=false:=by simpa using V
 clear U Z V;go_enter Tryz.func260,Tryz.ntmps260;go_wp2_with fail
 go_quiet (fail)
 clear e1 e2
 cases u:inR (t%d.W) 0 (d.W-1)with
 | false =>
  have g:=Hd u;clear u
  go_wp2_with (go_at_call 93;refine(bf g.1 _).mono ?_;rintro e w' ⟨rfl,rfl⟩)
  go_ret
  exact⟨aQ (by rw[I.1,G.1,g.1];rfl),ae (aB (Below.refl _ _) _) _⟩
 | true =>
  have g:=Hd u;clear u
  cases q:inR (t/d.W-s) 0 (d.H-1)with
  | false =>
   have j:=Hd q;clear q
   go_wp2_with (go_at_call 93;(first|((with_reducible refine(bf g.1 _).mono ?_);rintro e w' ⟨rfl,rfl⟩)|((with_reducible refine(bf j.1 _).mono ?_);rintro e w' ⟨rfl,rfl⟩)))
   go_ret
   exact⟨aQ (by rw[I.1,G.1,g.1,j.1];rfl),ae (aB (Below.refl _ _) _) _⟩
  | true =>
   have j:=Hd q;have hM:=R.1 (aR.1 q);have J:=(aR.1 g.1);clear q
   go_wp2_with (go_at_call 93;(first|((with_reducible refine(bf g.1 _).mono ?_);rintro e w' ⟨rfl,rfl⟩)|((with_reducible refine(bf j.1 _).mono ?_);rintro e w' ⟨rfl,rfl⟩)))
   go_ret;exact⟨aQ (by rw[I.1,G.1,g.1,j.1];first|rfl|(simp;done)|(simp;omega)),ae (aB (Below.refl _ _) _) _⟩
theorem iJ(d:Dev)(w:World)(h0:0<=d.T)(h1:d.T<=1099511627776) :
  Calls Tryz.prog 148 #[.agg (dv d)] w fun e w'=>e=.returned (.int .i64 (ag d))/\Below w.heap.size w w':=by
 unfold ag;go_enter Tryz.func148,Tryz.ntmps148;go_wp2;go_ret;exact⟨rfl,aB (Below.refl _ _) _⟩
theorem jb(d:Dev)(w:World)(hd:bQ d=true) :
  Calls Tryz.prog 190 #[.agg (dv d)] w fun e w'=>e=.returned (.int .i64 (fE d))/\Below w.heap.size w w':=by
 have B:=ak hd;have u:=eu hd;have hp:=fT hd;have hn:=jg hd;have q:=Hd (show fE d=d.W*d.H*ag d from rfl);rw[q.1]at hn;have g:Below (w.alloc (.cells (dv d) 36)).heap.size (w.alloc (.cells (dv d) 36)) (w.alloc (.cells (dv d) 36)):=Below.refl _ _;go_enter Tryz.func190,Tryz.ntmps190;go_wp2
 go_region_held3 (fun w'=>Below (w.alloc (.cells (dv d) 36)).heap.size (w.alloc (.cells (dv d) 36)) w'/\∀b o,b<(w.alloc (.cells (dv d) 36)).heap.size→w'.cell? ⟨b,o,none⟩=(w.alloc (.cells (dv d) 36)).cell? ⟨b,o,none⟩)
  (first|exact⟨g,(az g).1⟩|exact⟨g.drew,(az g.drew).1⟩)
  (first
   | (go_at_call 148;(with_reducible refine(iJ d _ (by omega) (by omega)).mono ?_);rintro e z ⟨rfl,j⟩;(first|(with_reducible replace g:=aA g j)|(with_reducible replace g:=aA g.drew j));clear j))
 all_goals
  go_wp2;go_ret;exact⟨aQ (by rw[IntWalk.i64_in (d.W*d.H) (by omega),IntWalk.i64_in _ (by omega),q.1]),aA (aB (Below.refl _ _) _) g⟩
theorem qO(d:Dev)(n:Int)(w:World)(hn:gp d n=true) :
  Calls Tryz.prog 72 #[.agg (dv d),.int .i64 n] w fun e w'=>e=.returned (.tuple #[.int .i64 (n/ag d),.int .i64 (n%ag d)])/\Below w.heap.size w w':=by
 obtain⟨hd,q,n1,z,hq1,D,B⟩:=kT hn;have H:=ak hd;have u:=eu hd;have hp:=fT hd;have G:¬ag d=0:=by omega
 have e1:n.tmod (ag d)=n%ag d:=Int.tmod_eq_emod_of_nonneg q;have e2:IntKind.i64.wrap (n.tdiv (ag d))=n/ag d:=IntWalk.i64_quo _ _ ⟨q,by omega,by omega⟩;have g:Below (w.alloc (.cells (dv d) 36)).heap.size (w.alloc (.cells (dv d) 36)) (w.alloc (.cells (dv d) 36)):=Below.refl _ _;clear hd hn;go_enter Tryz.func72,Tryz.ntmps72;go_wp2
 go_region_held3 (fun w'=>Below (w.alloc (.cells (dv d) 36)).heap.size (w.alloc (.cells (dv d) 36)) w'/\∀b o,b<(w.alloc (.cells (dv d) 36)).heap.size→w'.cell? ⟨b,o,none⟩=(w.alloc (.cells (dv d) 36)).cell? ⟨b,o,none⟩)
  (first|exact⟨g,(az g).1⟩|exact⟨g.drew,(az g.drew).1⟩)
  (first
   | (go_at_call 148;(with_reducible refine(iJ d _ (by omega) (by omega)).mono ?_);rintro e I ⟨rfl,j⟩;(first|(with_reducible replace g:=aA g j)|(with_reducible replace g:=aA g.drew j));clear j))
 all_goals
  go_wp2
  go_ret2
  exact⟨rfl,aA (aB (Below.refl _ _) _) g⟩
theorem zX(d:Dev)(n:Int)(w:World)(hn:gp d n=true)(H:7<=n%ag d) :
  Calls Tryz.prog 231 #[.agg (dv d),.int .i64 n] w fun e w'=>e=.returned (.tuple #[.int .i64 (n/ag d),.int .i64 ((n%ag d-7)/d.T),.int .i64 ((n%ag d-7)%d.T),.bool true])/\Below w.heap.size w w':=by
 obtain⟨hd,U,n1,B,hq1,I,G⟩:=kT hn;have u:=Hd hn;have V:=ak hd;have hp:=fT hd;clear hn;go_enter Tryz.func231,Tryz.ntmps231;go_wp2_with fail;refine(qO d n _ u.1).mono ?_;rintro e W ⟨rfl,g⟩;have j:=g.size;simp only[World.size_alloc]at j;obtain⟨hcc,K⟩:=az g;have J:=Hd (aA (aB (Below.refl _ _) _) g);clear g;generalize hk:n%ag d=k at *;generalize hq:n/ag d=q at *;obtain⟨z,D⟩:=hd2 hk hq;clear hk hq u;have Q:¬d.T=0:=by omega
 have e1:(k-7).tmod d.T=(k-7)%d.T:=Int.tmod_eq_emod_of_nonneg (by omega);have e2:IntKind.i64.wrap ((k-7).tdiv d.T)=(k-7)/d.T:=IntWalk.i64_quo _ _ ⟨by omega,by omega,by omega⟩;have e3:IntKind.i64.wrap (k-7)=k-7:=IntWalk.i64_in _ (by omega);have R:decide (k≥7)=true:=by simpa using H
 go_wp2_with fail
 go_quiet (fail)
 go_wp2_with fail;exact bodyPost_ret (v := .tuple #[.int .i64 q,.int .i64 ((k-7)/d.T),.int .i64 ((k-7)%d.T),.bool true]) (by simp[results,Tryz.results231,go_sem]) rfl ⟨by rw[z.1,D.1],ae J.1 _⟩
theorem jS{d:Dev}{t:Int}{b:Bool}(h:ai d t=b)(w:World):Calls Tryz.prog 216 #[.agg (dv d),.int .i64 t] w fun e w'=>e=.returned (.bool b)/\Below w.heap.size w w':=by
 have:=pJ d t w;rwa[h]at this
theorem il{d:Dev}{t r s p:Int}(h:ax d t r s=p)(ht:ai d t=true)(h0:0<=s)(h1:s<=6)(w:World):Calls Tryz.prog 260 #[.agg (dv d),.int .i64 t,.int .i64 r,.int .i64 s] w fun e w'=>e=.returned (.int .i64 p)/\Below w.heap.size w w':=by
 have:=DX d t r s w ht h0 h1;rwa[h]at this
theorem x9(d:Dev)(t p:Int)(w:World) :
  Calls Tryz.prog 224 #[.agg (dv d),.int .i64 t,.int .i64 p] w fun e w'=>e=.returned (.int .i64 (fB d t p))/\Below w.heap.size w w':=by
 have G:Hv (fB d t p=if ai d t=true/\0<=p/\p<eU (ah d t)then t*ag d+5+p else -1):=Hd<|rfl
 go_enter Tryz.func224,Tryz.ntmps224;go_wp2_with fail
 cases ht:ai d t with
 | false =>
  refine(jS ht _).mono ?_;rintro e w1 ⟨rfl,j⟩;have I:=Hd (aA (aB (Below.refl _ _) _) j);have H:=Hd ht;clear j ht;go_wp2;go_ret
  exact⟨aQ (by rw[G.1,if_neg (by rw[H.1];simp)]),I.1⟩
 | true =>
  refine(jS ht _).mono ?_;rintro e w1 ⟨rfl,j⟩;have I:=Hd (aA (aB (Below.refl _ _) _) j);have Y:=Hd j;obtain⟨hcc,q⟩:=az j;have D:=j.size;simp only[World.size_alloc]at D;obtain⟨hd,u,Z⟩:=aP.1 ht;have ae:=eu hd;have hT:=ak hd;have hp:=fT hd;have W:=iP d t;have HM:=Hd (iB u (show t<=35 by omega) (show 0<=ag d by omega) hp.2);obtain⟨H,HD⟩:=hd2 ht hd;clear j ht hd;go_wp2_with fail;refine(lw d t _ HD.1 u (by omega)).mono ?_;rintro e w2 ⟨rfl,z⟩;have J:=Hd (aA I.1 z);have D2:=Hd (aA Y.1 z);have aj:=z.size;clear z hcc q;obtain⟨hcc,q⟩:=az D2.1;generalize V:ah d t=K at *;have HK:=Hd V;clear V
  go_wp2_with (go_at_call 259;refine(vz _ _).mono ?_;rintro e w' ⟨rfl,rfl⟩)
  generalize U:eU K=Q at *;have HQ:=Hd U;clear U;have e3:IntKind.i64.wrap (Q-1)=Q-1:=IntWalk.i64_in _ (by omega)
  cases g:inR p 0 (Q-1)with
  | false =>
   have B:=Hd g;clear g
   go_wp2_with (go_at_call 93;refine(bf B.1 _).mono ?_;rintro e w' ⟨rfl,rfl⟩)
   go_ret
   exact⟨aQ (by rw[G.1,if_neg];rintro⟨_,h0,h1⟩;have:=uT.1 B.1;omega),J.1⟩
  | true =>
   have B:=Hd g;have hi:=aR.1 g;clear g
   go_wp2_with (go_at_call 93;refine(bf B.1 _).mono ?_;rintro e w' ⟨rfl,rfl⟩)
   refine(iJ d _ (by omega) (by omega)).mono ?_;rintro e w3 ⟨rfl,R⟩;have B3:=Hd (aA J.1 R);have hM:=HM.1;clear R hcc q e3;go_wp2;go_ret;exact⟨aQ (by rw[G.1,if_pos ⟨H.1,by omega,by omega⟩]),B3.1⟩
theorem NH{d:Dev}{t r k:Int}(h:ai d t=false):Hv (¬(ai d t=true/\(0<=r/\r<=3)/\(0<=k/\k<d.T)/\0<=ax d t r (dC k))):=Hd (by
 show ¬_
 rw[h];simp)
theorem Fa(d:Dev)(t r k:Int)(w:World)(ht:ai d t=false) :
  Calls Tryz.prog 262 #[.agg (dv d),.int .i64 t,.int .i64 r,.int .i64 k] w fun e w'=>e=.returned (.int .i64 (eT d t r k))/\Below w.heap.size w w':=by
 have G:Hv (eT d t r k=if ai d t=true/\(0<=r/\r<=3)/\(0<=k/\k<d.T)/\0<=ax d t r (dC k)then t*ag d+7+r*d.T+k else -1):=Hd<|rfl
 have g:=NH (r:=r) (k:=k) ht;obtain⟨z,q⟩:=hd2 ht g;have D:=q;have H:=q;clear ht;go_enter Tryz.func262,Tryz.ntmps262;go_wp2_with fail;have j:=dB (w.alloc (.cells (dv d) 36));have u:=au (w.alloc (.cells (dv d) 36));refine gI (w.alloc (.cells (dv d) 36)) (by kernel_rfl) (by kernel_rfl) (by first|exact Below.refl _ _|exact B) ?_
 repeat(go_big_quiet_step ((first
  | (go_at_call 216;with_reducible exact aV (jS z.1 _))
   | (go_at_call 93;(first|with_reducible exact aX (bf q.1 _)|with_reducible exact aX (bf D.1 _)))
   | (go_at_call 232;with_reducible exact aX (fG k _ (by omega) (by omega)))
   | (go_at_call 260;with_reducible exact aV (il H.1 z.1 (by omega) (by omega) _))
   | (go_at_call 148;with_reducible exact aV (iJ d _ (by omega) (by omega))))))
 refine wpQuiet_nil ?_;rintro _ ⟨⟨I,B⟩,rfl⟩
 (try dsimp only)
 clear j u
 all_goals
  go_wp2;go_ret;exact⟨aQ (by rw[G.1,if_neg g.1]),aA (aB (Below.refl _ _) _) B⟩
theorem Fb(d:Dev)(t r k:Int)(w:World)(ht:ai d t=true)(hr:inR r 0 3=false) :
  Calls Tryz.prog 262 #[.agg (dv d),.int .i64 t,.int .i64 r,.int .i64 k] w fun e w'=>e=.returned (.int .i64 (eT d t r k))/\Below w.heap.size w w':=by
 have D:Hv (eT d t r k=if ai d t=true/\(0<=r/\r<=3)/\(0<=k/\k<d.T)/\0<=ax d t r (dC k)then t*ag d+7+r*d.T+k else -1):=Hd<|rfl
 have g:Hv (¬(ai d t=true/\(0<=r/\r<=3)/\(0<=k/\k<d.T)/\0<=ax d t r (dC k))):=Hd<|by rintro⟨_,h,_⟩;have:=uT.1 hr;omega
 have hd:=(aP.1 ht).1;have I:=ak hd;obtain⟨u,H⟩:=hd2 ht hr;have B:=g;have G:=g;clear ht hr hd;go_enter Tryz.func262,Tryz.ntmps262;go_wp2_with fail;have j:=dB (w.alloc (.cells (dv d) 36));have q:=au (w.alloc (.cells (dv d) 36));refine gI (w.alloc (.cells (dv d) 36)) (by kernel_rfl) (by kernel_rfl) (by first|exact Below.refl _ _|exact z) ?_
 repeat(go_big_quiet_step ((first
  | (go_at_call 216;with_reducible exact aV (jS u.1 _))
   | (go_at_call 93;(first|with_reducible exact aX (bf H.1 _)|with_reducible exact aX (bf B.1 _)))
   | (go_at_call 232;with_reducible exact aX (fG k _ (by omega) (by omega)))
   | (go_at_call 260;with_reducible exact aV (il G.1 u.1 (by omega) (by omega) _))
   | (go_at_call 148;with_reducible exact aV (iJ d _ (by omega) (by omega))))))
 refine wpQuiet_nil ?_;rintro _ ⟨⟨J,z⟩,rfl⟩
 (try dsimp only)
 clear j q
 all_goals
  go_wp2;go_ret;exact⟨aQ (by rw[D.1,if_neg g.1]),aA (aB (Below.refl _ _) _) z⟩
theorem Fe(d:Dev)(t r k:Int)(w:World)(ht:ai d t=true)(hr:inR r 0 3=true)(hk:inR k 0 (d.T-1)=false) :
  Calls Tryz.prog 262 #[.agg (dv d),.int .i64 t,.int .i64 r,.int .i64 k] w fun e w'=>e=.returned (.int .i64 (eT d t r k))/\Below w.heap.size w w':=by
 have D:Hv (eT d t r k=if ai d t=true/\(0<=r/\r<=3)/\(0<=k/\k<d.T)/\0<=ax d t r (dC k)then t*ag d+7+r*d.T+k else -1):=Hd<|rfl
 have g:Hv (¬(ai d t=true/\(0<=r/\r<=3)/\(0<=k/\k<d.T)/\0<=ax d t r (dC k))):=Hd<|by rintro⟨_,_,h,_⟩;have:=uT.1 hk;omega
 have hd:=(aP.1 ht).1;have I:=ak hd;have e3:IntKind.i64.wrap (d.T-1)=d.T-1:=IntWalk.i64_in _ (by omega);obtain⟨u,H,B⟩:=hd3 ht hr hk;have G:=g;clear ht hr hd hk;go_enter Tryz.func262,Tryz.ntmps262;go_wp2_with fail;have j:=dB (w.alloc (.cells (dv d) 36));have q:=au (w.alloc (.cells (dv d) 36));refine gI (w.alloc (.cells (dv d) 36)) (by kernel_rfl) (by kernel_rfl) (by first|exact Below.refl _ _|exact z) ?_
 repeat(go_big_quiet_step ((first
  | (go_at_call 216;with_reducible exact aV (jS u.1 _))
   | (go_at_call 93;(first|with_reducible exact aX (bf H.1 _)|with_reducible exact aX (bf B.1 _)))
   | (go_at_call 232;with_reducible exact aX (fG k _ (by omega) (by omega)))
   | (go_at_call 260;with_reducible exact aV (il G.1 u.1 (by omega) (by omega) _))
   | (go_at_call 148;with_reducible exact aV (iJ d _ (by omega) (by omega))))))
 refine wpQuiet_nil ?_;rintro _ ⟨⟨J,z⟩,rfl⟩
 (try dsimp only)
 clear j q
 all_goals
  go_wp2;go_ret;exact⟨aQ (by rw[D.1,if_neg g.1]),aA (aB (Below.refl _ _) _) z⟩
theorem Ff(d:Dev)(t r k:Int)(w:World)(ht:ai d t=true)(hr:inR r 0 3=true)(hk:inR k 0 (d.T-1)=true)(hs:ax d t r (dC k)<0) :
  Calls Tryz.prog 262 #[.agg (dv d),.int .i64 t,.int .i64 r,.int .i64 k] w fun e w'=>e=.returned (.int .i64 (eT d t r k))/\Below w.heap.size w w':=by
 have H:Hv (eT d t r k=if ai d t=true/\(0<=r/\r<=3)/\(0<=k/\k<d.T)/\0<=ax d t r (dC k)then t*ag d+7+r*d.T+k else -1):=Hd<|rfl
 have j:Hv (¬(ai d t=true/\(0<=r/\r<=3)/\(0<=k/\k<d.T)/\0<=ax d t r (dC k))):=Hd<|by rintro⟨_,_,_,h⟩;omega
 have hd:=(aP.1 ht).1;have Q:=ak hd;have D:=aR.1 hk;have K:0<=dC k/\dC k<=6:=by unfold dC;omega
 have e3:IntKind.i64.wrap (d.T-1)=d.T-1:=IntWalk.i64_in _ (by omega);obtain⟨P,q⟩:∃P,ax d t r (dC k)=P:=⟨_,rfl⟩;rw[q]at hs;obtain⟨z,J,G,I⟩:=hd4 ht hr hk q;clear ht hr hd hk q;go_enter Tryz.func262,Tryz.ntmps262;go_wp2_with fail;have g:=dB (w.alloc (.cells (dv d) 36));have u:=au (w.alloc (.cells (dv d) 36));refine gI (w.alloc (.cells (dv d) 36)) (by kernel_rfl) (by kernel_rfl) (by first|exact Below.refl _ _|exact B) ?_
 repeat(go_big_quiet_step ((first
  | (go_at_call 216;with_reducible exact aV (jS z.1 _))
   | (go_at_call 93;(first|with_reducible exact aX (bf J.1 _)|with_reducible exact aX (bf G.1 _)))
   | (go_at_call 232;with_reducible exact aX (fG k _ (by omega) (by omega)))
   | (go_at_call 260;with_reducible exact aV (il I.1 z.1 (by omega) (by omega) _))
   | (go_at_call 148;with_reducible exact aV (iJ d _ (by omega) (by omega))))))
 refine wpQuiet_nil ?_;rintro _ ⟨⟨R,B⟩,rfl⟩
 (try dsimp only)
 clear g u
 all_goals
  go_wp2;go_ret;exact⟨aQ (by rw[H.1,if_neg j.1]),aA (aB (Below.refl _ _) _) B⟩
theorem Fg(d:Dev)(t r k:Int)(w:World)(ht:ai d t=true)(hr:inR r 0 3=true)(hk:inR k 0 (d.T-1)=true)(hs:0<=ax d t r (dC k)) :
  Calls Tryz.prog 262 #[.agg (dv d),.int .i64 t,.int .i64 r,.int .i64 k] w fun e w'=>e=.returned (.int .i64 (eT d t r k))/\Below w.heap.size w w':=by
 have U:Hv (eT d t r k=if ai d t=true/\(0<=r/\r<=3)/\(0<=k/\k<d.T)/\0<=ax d t r (dC k)then t*ag d+7+r*d.T+k else -1):=Hd<|rfl
 have hd:=(aP.1 ht).1;have G:=(aP.1 ht).2;have hT:=ak hd;have Y:=eu hd;have hp:=fT hd;have R:=aR.1 hk;have j:=aR.1 hr;have u:Hv (ai d t=true/\(0<=r/\r<=3)/\(0<=k/\k<d.T)/\0<=ax d t r (dC k)):=Hd<|⟨ht,j,by omega,hs⟩
 have hL:0<=dC k/\dC k<=6:=by unfold dC;omega
 have e3:IntKind.i64.wrap (d.T-1)=d.T-1:=IntWalk.i64_in _ (by omega);have W:=iB G.1 (show t<=35 by omega) (show 0<=ag d by omega) hp.2;have I:=iB j.1 j.2 (show 0<=d.T by omega) (show d.T<=4 by omega);have z:=Hd (And.intro (IntWalk.wrap64_in (t*ag d) (by omega)) (And.intro (IntWalk.wrap64_in (t*ag d+7) (by omega)) (And.intro (IntWalk.wrap64_in (r*d.T) (by omega)) (And.intro (IntWalk.wrap64_in (t*ag d+7+r*d.T) (by omega)) (IntWalk.wrap64_in (t*ag d+7+r*d.T+k) (by omega))))));obtain⟨P,H⟩:∃P,ax d t r (dC k)=P:=⟨_,rfl⟩;rw[H]at hs;obtain⟨B,Q,J,K⟩:=hd4 ht hr hk H;have V:=u;clear ht hr hd hk H W I;go_enter Tryz.func262,Tryz.ntmps262;go_wp2_with fail;have g:=dB (w.alloc (.cells (dv d) 36));have q:=au (w.alloc (.cells (dv d) 36));refine gI (w.alloc (.cells (dv d) 36)) (by kernel_rfl) (by kernel_rfl) (by first|exact Below.refl _ _|exact D) ?_
 repeat(go_big_quiet_step ((first
  | (go_at_call 216;with_reducible exact aV (jS B.1 _))
   | (go_at_call 93;(first|with_reducible exact aX (bf Q.1 _)|with_reducible exact aX (bf J.1 _)))
   | (go_at_call 232;with_reducible exact aX (fG k _ (by omega) (by omega)))
   | (go_at_call 260;with_reducible exact aV (il K.1 B.1 (by omega) (by omega) _))
   | (go_at_call 148;with_reducible exact aV (iJ d _ (by omega) (by omega))))))
 refine wpQuiet_nil ?_;rintro _ ⟨⟨Z,D⟩,rfl⟩
 (try dsimp only)
 clear g q
 all_goals
  go_wp2_with fail;have g:=dB (w.alloc (.cells (dv d) 36))
 have q:=au (w.alloc (.cells (dv d) 36));refine gI (w.alloc (.cells (dv d) 36)) (by kernel_rfl) (by kernel_rfl) (by first|exact Below.refl _ _|exact D) ?_
 repeat(go_big_quiet_step ((first
  | (go_at_call 216;with_reducible exact aV (jS B.1 _))
   | (go_at_call 93;(first|with_reducible exact aX (bf Q.1 _)|with_reducible exact aX (bf J.1 _)))
   | (go_at_call 232;with_reducible exact aX (fG k _ (by omega) (by omega)))
   | (go_at_call 260;with_reducible exact aV (il K.1 B.1 (by omega) (by omega) _))
   | (go_at_call 148;with_reducible exact aV (iJ d _ (by omega) (by omega))))))
 refine wpQuiet_nil ?_;rintro _ ⟨⟨Z,D⟩,rfl⟩
 (try dsimp only)
 clear g q
 all_goals
  go_wp2;go_ret;exact⟨aQ (by rw[U.1,if_pos V.1];first|rfl|(rw[z.1.1,z.1.2.1,z.1.2.2.1,z.1.2.2.2.1,z.1.2.2.2.2])),aA (aB (Below.refl _ _) _) D⟩
theorem uj(d:Dev)(t r k:Int)(w:World) :
  Calls Tryz.prog 262 #[.agg (dv d),.int .i64 t,.int .i64 r,.int .i64 k] w fun e w'=>e=.returned (.int .i64 (eT d t r k))/\Below w.heap.size w w':=by
 cases ht:ai d t with
 | false=>exact Fa d t r k w ht
 | true =>
  cases hr:inR r 0 3 with
  | false=>exact Fb d t r k w ht hr
  | true =>
   cases hk:inR k 0 (d.T-1)with
   | false=>exact Fe d t r k w ht hr hk
   | true =>
    rcases Int.lt_or_le (ax d t r (dC k)) 0 with h|h
    ·exact Ff d t r k w ht hr hk h
    exact Fg d t r k w ht hr hk h
/-! ### which nodes exist -/
theorem xD(d:Dev)(n:Int)(w:World)(hn:gp d n=false) :
  Calls Tryz.prog 222 #[.agg (dv d),.int .i64 n] w fun e w'=>e=.returned (.bool (ed d n))/\Below w.heap.size w w':=by
 have D:Hv (ed d n=false):=Hd<|by show _=false;unfold ed;rw[hn];rfl
 have H:=Hd hn;clear hn;go_enter Tryz.func222,Tryz.ntmps222;go_wp2_with fail;refine(eG d _).mono ?_;rintro e Q ⟨rfl,j⟩;have G:=Hd (aA (aB (Below.refl _ _) _) j);have q:=j.size;simp only[World.size_alloc]at q;obtain⟨hcc,u⟩:=az j;clear j
 cases hd:bQ d with
 | false =>
  go_wp2;go_ret
  exact⟨fH D.1.symm,G.1⟩
 | true =>
  have K:=jg hd;have B:=Hd hd;clear hd;go_wp2_with fail;refine(jb d _ B.1).mono ?_;rintro e R ⟨rfl,z⟩;have I:=Hd (aA G.1 z);clear z hcc u;have e3:IntKind.i64.wrap (fE d-1)=fE d-1:=IntWalk.i64_in _ (by omega)
  have g:inR n 0 (fE d-1)=false:=by
   cases h:inR n 0 (fE d-1)with
   | false=>rfl
   | true =>
    have h1:=H.1;have h2:=aR.1 h;rw[gp,B.1,decide_eq_true (by omega),decide_eq_true (by omega)]at h1
    cases h1
  have J:=Hd g;clear g
  go_wp2_with (go_at_call 93;refine(bf J.1 _).mono ?_;rintro e w' ⟨rfl,rfl⟩)
  go_ret;exact⟨fH D.1.symm,I.1⟩
theorem yM(d:Dev)(n:Int)(w:World)(hn:gp d n=true) :
  Calls Tryz.prog 222 #[.agg (dv d),.int .i64 n] w fun e w'=>e=.returned (.bool (ed d n))/\Below w.heap.size w w':=by
 have HR:Hv (ed d n=wL d (n/ag d) (n%ag d)):=Hd<|by show _=_;unfold ed;rw[hn];rfl
 have HN:=Hd hn;obtain⟨hd,n0,n1,aH,hq1,aN,aK⟩:=kT hn;have hT:=ak hd;have hp:=fT hd;have aG:=eu hd;have hh:=jg hd;have Z:=Hd (ky hn);have HD:=Hd hd;have e3:IntKind.i64.wrap (fE d-1)=fE d-1:=IntWalk.i64_in _ (by omega)
 have HI:Hv (inR n 0 (fE d-1)=true):=Hd<|by
  show _=true;unfold gp at hn;simp only[Bool.and_eq_true,decide_eq_true_eq]at hn;rw[aR];omega
 clear hn hd;go_enter Tryz.func222,Tryz.ntmps222;go_wp2_with fail;refine(eG d _).mono ?_;rintro e w1 ⟨rfl,I⟩;rw[HD.1];have B1:=Hd I;have V:=I.size;simp only[World.size_alloc]at V;obtain⟨hcc,g⟩:=az I;clear I;go_wp2_with fail;refine(jb d _ HD.1).mono ?_;rintro e w2 ⟨rfl,Y⟩;have B2:=Hd (aA B1.1 Y);have aC:=Y.size;clear Y hcc g;obtain⟨hcc,g⟩:=az B2.1
 go_wp2_with (go_at_call 93;refine(bf HI.1 _).mono ?_;rintro e w' ⟨rfl,rfl⟩)
 refine(qO d n _ HN.1).mono ?_;rintro e w3 ⟨rfl,b3⟩;have J:=Hd (aA B2.1 b3);have aI:=b3.size;clear b3 hcc g e3;obtain⟨hcc,g⟩:=az J.1;have u:=Hd (fun(h7:7<=n%ag d) (w:World)=>zX d n w HN.1 h7);generalize hk:n%ag d=k at *;generalize hq:n/ag d=q at *;have hK:wL d q k=if k<5 then decide (k<jK (ah d q))else if k<7 then decide (k-5<eU (ah d q))else decide (0<=ax d q ((k-7)/d.T) (dC ((k-7)%d.T))):=rfl
 have U:=Hd hK;have aD:=Hd (And.intro hk hq);have aJ:=uN d q;have ar:=iP d q;have D:=(fun w=>lw d q w HD.1 (by omega) (by omega));have z:=Hd D;generalize ah d q=K at *;clear hK hk hq D;have h3:k<5∨(¬k<5/\k<7)∨(¬k<5/\¬k<7):=by omega
 rcases h3 with h|⟨h,h'⟩|⟨h,h'⟩
 ·go_wp2_with fail;refine(z.1 _).mono ?_;rintro e w4 ⟨rfl,j⟩;have R:=Hd (aA J.1 j);clear j hcc g;generalize G:jK K=Q at *;have W:=Hd G;clear G
  go_wp2_with (go_at_call 258;refine(x8 _ _).mono ?_;rw[W.1];rintro e w' ⟨rfl,rfl⟩)
  go_ret;exact⟨fH (by rw[HR.1,U.1,if_pos (by omega)]),aA (aB (Below.refl _ _) _) R.1⟩
 ·go_wp2_with fail;refine(z.1 _).mono ?_;rintro e w4 ⟨rfl,j⟩;have R:=Hd (aA J.1 j);clear j hcc g;generalize G:eU K=Q at *;have W:=Hd G;clear G
  go_wp2_with (go_at_call 259;refine(vz _ _).mono ?_;rw[W.1];rintro e w' ⟨rfl,rfl⟩)
  go_ret;exact⟨fH (by rw[HR.1,U.1,if_neg (by omega),if_pos (by omega)]),aA (aB (Below.refl _ _) _) R.1⟩
 have aw:=Int.ediv_nonneg (show 0<=k-7 by omega) (show 0<=d.T by omega);have av:=Int.emod_nonneg (k-7) (show d.T≠0 by omega);have aO:=Int.emod_lt_of_pos (k-7) (show 0<d.T by omega);go_wp2_with fail;refine(u.1 (by omega) _).mono ?_;rintro e w4 ⟨rfl,j⟩;have H:=aA J.1 j;have aF:=j.size;clear j hcc g;obtain⟨hcc,g⟩:=az H;generalize (k-7)/d.T=r at *;generalize (k-7)%d.T=m at *;have hL:0<=dC m/\dC m<=6:=by unfold dC;omega
 have HS:Hv (∃P,ax d q r (dC m)=P):=Hd<|⟨_,rfl⟩
 obtain⟨P,hP⟩:=HS.1;have HP:=Hd hP;clear hP;go_wp2_with fail;clear hcc g;have B:=dB (w.alloc (.cells (dv d) 36));have ai:=au (w.alloc (.cells (dv d) 36));refine gI (w.alloc (.cells (dv d) 36)) (by kernel_rfl) (by kernel_rfl) (by first|exact Below.refl _ _|exact H) ?_
 repeat(go_big_quiet_step ((first
  | (go_at_call 232;with_reducible exact aX (fG m _ (by omega) (by omega)))
  | (go_at_call 260;with_reducible exact aV (il HP.1 Z.1 (by omega) (by omega) _)))))
 refine wpQuiet_nil ?_;rintro _ ⟨⟨w2,H⟩,rfl⟩
 (try dsimp only)
 clear B ai;go_wp2;go_ret;exact⟨fH (by rw[HR.1,U.1,if_neg (by omega),if_neg (by omega),HP.1]),aA (aB (Below.refl _ _) _) H⟩
theorem qa(d:Dev)(n:Int)(w:World) :
  Calls Tryz.prog 222 #[.agg (dv d),.int .i64 n] w fun e w'=>e=.returned (.bool (ed d n))/\Below w.heap.size w w':=by
 cases hn:gp d n with
 | false=>exact xD d n w hn
 | true=>exact yM d n w hn
theorem Fh{d:Dev}{t r k s:Int}(h:ax d t ((r+2)%4) s<0):nV (jv d t r k s)=[]:=by
 have:jv d t r k s=-1:=by
  unfold jv eT;rw[if_neg];rintro⟨h1,_⟩;have:=(aP.1 h1).2.1;omega
 rw[this];rfl
theorem kw{x:Int}(h:0<=x):nV x=[x]:=by unfold nV;rw[if_pos h]
theorem mO{x:Int}(h:x<0):nV x=[]:=by unfold nV;rw[if_neg (by omega)]
theorem DY{b j:Nat}{w w':World}{A u:Oh}{n c g q:Nat}{xs:List Int}{x:Int}(h:Own b w A n c xs)(k:Own j w' u g q (ins xs x)):g<=n+1:=by
 have:=mh xs x;rw[h.len,k.len]at this;exact this
theorem pK(d:Dev)(t pin r k:Int)(s:Nat):iy d t pin r k (s+1)=iy d t pin r k s++nJ d t pin r k ((s:Int)+1):=by simp[iy,List.range_succ]
theorem pM(d:Dev)(t pin r:Int)(k:Nat):jI d t pin r (k+1)=jI d t pin r k++iy d t pin r (k:Int) (dC (k:Int)).toNat:=by simp[jI,List.range_succ]
theorem pO(d:Dev)(t pin:Int)(r:Nat):iO d t pin (r+1)=iO d t pin r++jI d t pin (r:Int) d.T.toNat:=by simp[iO,List.range_succ]
theorem J5{d:Dev}{t pin r k:Int}{s:Nat}(g:pin<7)(h:xM d pin k=false):iy d t pin r k s=[]:=by
 unfold iy;rw[List.flatMap_eq_nil_iff];intro j _;unfold nJ nI;rw[if_neg (show ¬7<=pin by omega),h];rfl
theorem Lc{d:Dev}{t pin r k s:Int}(g:pin<7)(h:xM d pin k=true):nJ d t pin r k s=nV (jv d t r k s):=by
 unfold nJ nI;rw[if_neg (show ¬7<=pin by omega),h,if_pos rfl]
theorem zY(d:Dev)(t pin:Int)(w:World)(ht:ai d t=true)(p0:0<=pin)(p5:pin<5) :
  Calls Tryz.prog 236 #[.agg (dv d),.int .i64 t,.int .i64 pin] w fun e w'=>∃A n c,e=.returned (.slice A n c)/\Own w.heap.size w' A n c (asc (iO d t pin 4))/\Below w.heap.size w w':=by
 have HT:=Hd ht;have aO:=ak (aP.1 ht).1;have aD:=Hd (aB (Below.refl w.heap.size w) (.cells (dv d) 36));have aE:=fun r=>Hd (pO d t pin r);clear ht;go_enter Tryz.func236,Tryz.ntmps236;go_wp2
 go_loopw[7,8] (fun v i wr=>∃(r:Nat) (A:Oh) (n c:Nat),r<=4/\i=.int .i64 r/\v=.slice A n c/\n<=8*r/\Own w.heap.size wr A n c (asc (iO d t pin r))/\Below (w.alloc (.cells (dv d) 36)).heap.size (w.alloc (.cells (dv d) 36)) wr) (fun _ i _=>4-(intOf i).toNat)
 ·exact⟨0,none,0,0,by omega,rfl,rfl,by omega,by simpa [iO,asc]using Own.nil,Below.refl _ _⟩
 obtain⟨r,A,n,c,hr,rfl,rfl,hn,ho,hb⟩:=hrel;obtain⟨u,B⟩:=hd2 ho hb;have hs:=hb.size;simp only[World.size_alloc]at hs;clear ho hb;by_cases aU:r<4
 ·have aS:decide ((r:Int)<4)=true:=by simp;omega
  go_wp2
  go_loopw[7,9] (fun v i wr=>∃(k:Nat) (A:Oh) (n c:Nat),(k:Int)<=d.T/\i=.int .i64 k/\v=.slice A n c/\n<=8*r+2*k/\Own w.heap.size wr A n c (asc (iO d t pin r++jI d t pin (r:Int) k))/\Below (w.alloc (.cells (dv d) 36)).heap.size (w.alloc (.cells (dv d) 36)) wr) (fun _ i _=>d.T.toNat-(intOf i).toNat)
  ·exact⟨0,A,n,c,by omega,rfl,rfl,by omega,by simpa [jI]using u.1,B.1⟩
  obtain⟨k,A,n,c,hk,rfl,rfl,hn,ho,hb⟩:=hrel;obtain⟨u,B⟩:=hd2 ho hb;have hs:=hb.size;simp only[World.size_alloc]at hs;obtain⟨hcc,j⟩:=az hb;have V:=Hd (pM d t pin (r:Int) k);clear ho hb;by_cases U:(k:Int)<d.T
  ·have aR:decide ((k:Int)<d.T)=true:=by simpa using U
   have hL:dC (k:Int)=1+(k:Int)%2:=rfl;have aN:=Hd hL;have aX:1<=dC (k:Int)/\dC (k:Int)<=2:=by rw[hL];omega
   clear hL;have e1:((k:Int)+pin).tmod 2=((k:Int)+pin)%2:=Int.tmod_eq_emod_of_nonneg (by omega);have ae:xM d pin (k:Int)=!(decide (d.T>1) && decide (((k:Int)+pin)%2=1)):=rfl;have G:=Hd ae;clear ae;have aM:0<=((k:Int)+pin)%2/\((k:Int)+pin)%2<=1:=by omega
   generalize ((k:Int)+pin)%2=z at *;by_cases I:d.T>1/\z=1
   ·obtain⟨Q,rfl⟩:=I;have Y:=Hd (J5 (d:=d) (t:=t) (pin:=pin) (r:=(r:Int)) (k:=(k:Int)) (s:=(dC (k:Int)).toNat) (by omega) (by rw[G.1,decide_eq_true Q];rfl));go_wp2;go_roundw
    ·exact⟨k+1,A,n,c,by omega,by go_num,rfl,by omega,by rw[V.1,Y.1,List.append_nil];exact u.1,B.1⟩
    simp[intOf];omega
   have ay:Hv (xM d pin (k:Int)=true):=Hd<|by
    show _=true;rw[G.1];simp;omega
   have au:(d.T>1/\z=0)∨¬d.T>1:=by omega
   have K:=fun s=>Hd (pK d t pin (r:Int) (k:Int) s);have q:=fun s=>Hd (Lc (d:=d) (t:=t) (r:=(r:Int)) (k:=(k:Int)) (s:=s) (show pin<7 by omega) ay.1);clear G
   rcases au with⟨Q,rfl⟩|Q
   all_goals
    go_wp2
    go_loopw[7,10] (fun v i wr=>∃(s:Nat) (A:Oh) (n c:Nat),(s:Int)<=dC (k:Int)/\i=.int .i64 ((s:Int)+1)/\v=.slice A n c/\n<=8*r+2*k+s/\Own w.heap.size wr A n c (asc (iO d t pin r++jI d t pin (r:Int) k++iy d t pin (r:Int) (k:Int) s))/\Below (w.alloc (.cells (dv d) 36)).heap.size (w.alloc (.cells (dv d) 36)) wr) (fun _ i _=>4-(intOf i).toNat)
    ·exact⟨0,A,n,c,by omega,rfl,rfl,by omega,by simpa [iy]using u.1,B.1⟩
    obtain⟨s,A,n,c,aY,rfl,rfl,hn,ho,hb⟩:=hrel;obtain⟨u,B⟩:=hd2 ho hb;have hs:=hb.size;simp only[World.size_alloc]at hs;clear hcc j;obtain⟨hcc,j⟩:=az hb;clear ho hb;by_cases aQ:(s:Int)+1<=dC (k:Int)
    ·generalize hP:ax d t (((r:Int)+2)%4) ((s:Int)+1)=P at *;have HP:=Hd hP;have aH:=kY (d:=d) (t:=t) (r:=((r:Int)+2)%4) (s:=(s:Int)+1) (aP.1 HT.1).1;rw[hP]at aH;have aV:=eu (aP.1 HT.1).1;clear hP;generalize g:dC (k:Int)=L at *;have J:=Hd g;clear g
     go_wp2_with (go_at_call 232;refine(fG (k:Int) _ (by omega) (by omega)).mono ?_;rw[J.1];rintro e w' ⟨rfl,rfl⟩)
     refine(il HP.1 HT.1 (by omega) (by omega) _).mono ?_;rintro e w2 ⟨rfl,b2⟩;have R:=Hd (aA B.1 b2);have af:=Hd (u.1.below b2);have aT:=b2.size;clear b2 hcc j;obtain⟨hcc,j⟩:=az R.1;by_cases ao:P<0
     ·have HC:=Hd (Fh (d:=d) (t:=t) (r:=(r:Int)) (k:=(k:Int)) (s:=(s:Int)+1) (by rw[HP.1];exact ao));go_wp2;go_roundw
      ·exact⟨s+1,A,n,c,by omega,by go_num,rfl,by omega,by rw[(K s).1,(q _).1,HC.1,List.append_nil];exact af.1,R.1⟩
      simp[intOf];omega
     generalize hC:jv d t (r:Int) (k:Int) ((s:Int)+1)=C at *;have HC:Hv (eT d P (r:Int) (k:Int)=C):=Hd<|by show _=C;rw[←hC,jv,HP.1]
     have W:=Hd hC;clear hC;go_wp2_with fail;refine(uj d P (r:Int) (k:Int) _).mono ?_;rw[HC.1];rintro e w3 ⟨rfl,b3⟩;have Z:=Hd (aA R.1 b3);have H:=Hd (af.1.below b3);have a0:=b3.size;clear b3 hcc j;by_cases aW:C≥0
     ·have D:=Hd (kw (x:=C) (by omega));go_wp2_with fail;refine(jD w.heap.size A n c _ C _ H.1 (by omega) (by omega)).mono ?_;rintro e w4 ⟨A4,n4,c4,rfl,o4,b4⟩;have aZ:=DY H.1 o4;have aF:=Hd o4;have aJ:=Hd (aA Z.1 b4);clear o4 b4;go_wp2;go_roundw
      ·exact⟨s+1,A4,n4,c4,by omega,by go_num,rfl,by omega,by rw[(K s).1,(q _).1,W.1,D.1,←List.append_assoc,rO];exact aF.1,aJ.1⟩
      simp[intOf];omega
     have D:=Hd (mO (x:=C) (by omega));go_wp2;go_roundw
     ·exact⟨s+1,A,n,c,by omega,by go_num,rfl,by omega,by rw[(K s).1,(q _).1,W.1,D.1,List.append_nil];exact H.1,Z.1⟩
     simp[intOf];omega
    have ad:(dC (k:Int)).toNat=s:=by omega
    have aw:=Hd ad;clear ad;generalize g:dC (k:Int)=L at *;have J:=Hd g;clear g
    go_wp2_with (go_at_call 232;refine(fG (k:Int) _ (by omega) (by omega)).mono ?_;rw[J.1];rintro e w' ⟨rfl,rfl⟩)
    go_roundw
    ·exact⟨k+1,A,n,c,by omega,by go_num,rfl,by omega,by rw[V.1,aw.1,←List.append_assoc];exact u.1,B.1⟩
    simp[intOf];omega
  have ag:d.T=(k:Int):=by omega
  have aI:=Hd ag;have aK:¬(k:Int)<d.T:=U;clear ag;go_wp2;go_roundw
  ·exact⟨r+1,A,n,c,by omega,by go_num,rfl,by omega,by rw[(aE r).1,show d.T.toNat=k by have:=aI.1;omega];exact u.1,B.1⟩
  simp[intOf];omega
 have aG:r=4:=by omega
 subst aG;go_wp2;go_ret;exact⟨A,n,c,rfl,u.1,aA aD.1 B.1⟩
def sH(d:Dev)(t:Int)(p:Nat):List Int:=(List.range p).flatMap fun(j:Nat)=>nV (fB d t (j:Int))
def vH(d:Dev)(g:Int)(i:Nat):Int:=if i=0 then g else(g+1)%d.T
def wRi(d:Dev)(t r g:Int)(i:Nat):List Int:=(List.range i).flatMap fun(j:Nat)=>nV (jv d t r (vH d g j) (dC (vH d g j)))
def wR(d:Dev)(t j g r:Int):List Int:=if r=(j+2)%4 then[]else wRi d t r g 2
def wA(d:Dev)(t q g:Int)(r:Nat):List Int:=(List.range r).flatMap fun(j:Nat)=>wR d t q g (j:Int)
theorem IZ(d:Dev)(t:Int)(p:Nat):sH d t (p+1)=sH d t p++nV (fB d t (p:Int)):=by simp[sH,List.range_succ]
theorem Ld(d:Dev)(t r g:Int)(i:Nat):wRi d t r g (i+1)=wRi d t r g i++nV (jv d t r (vH d g i) (dC (vH d g i))):=by simp[wRi,List.range_succ]
theorem NI(d:Dev)(t j g:Int)(r:Nat):wA d t j g (r+1)=wA d t j g r++wR d t j g (r:Int):=by simp[wA,List.range_succ]
theorem J6{d:Dev}{t y:Int}(ht:ai d t=true):y∈sH d t 2↔y∈jH d t:=by
 rw[vM];have g:=iP d t;simp only[sH,List.mem_flatMap,List.mem_range,uL]
 constructor
 ·rintro⟨j,hj,rfl,h0⟩;refine⟨(j:Int),?_,rfl⟩;unfold fB at h0
  split at h0
  ·rename_i h;exact h.2
  omega
 rintro⟨p,hp,rfl⟩;refine⟨p.toNat,by omega,by rw[show((p.toNat:Nat):Int)=p by omega],?_⟩;rw[show((p.toNat:Nat):Int)=p by omega];exact(pU ht hp.1 hp.2).2.2
theorem Jc{d:Dev}{g:Int}(hd:bQ d=true)(h0:0<=g)(h1:g<d.T)(i:Nat):0<=vH d g i/\vH d g i<d.T:=by
 have:=ak hd;unfold vH
 split
 ·omega
 exact⟨Int.emod_nonneg _ (by omega),Int.emod_lt_of_pos _ (by omega)⟩
theorem Ia{d:Dev}{t pin:Int}(ht:ai d t=true)(z:7<=pin):asc (sH d t 2++wA d t ((pin-7)/d.T) ((pin-7)%d.T) 4)=asc (jV d t pin):=by
 have hd:=(aP.1 ht).1;have B:=ak hd;have k0:=Int.emod_nonneg (pin-7) (show d.T≠0 by omega);have k1:=Int.emod_lt_of_pos (pin-7) (show 0<d.T by omega);have j:=fun i=>Jc hd k0 k1 i;refine KJ fun y=>?_;unfold jV;rw[List.mem_append,List.mem_append,J6 ht,if_pos z,vL hd];refine or_congr Iff.rfl ?_;simp only[wA,List.mem_flatMap,List.mem_range]
 constructor
 ·rintro⟨r,hr,h⟩;unfold wR at h
  split at h
  ·simp at h
  rename_i g;simp only[wRi,List.mem_flatMap,List.mem_range,uL]at h;obtain⟨i,hi,rfl,h0⟩:=h;refine⟨(r:Int),_,dC _,by omega,j i,⟨by unfold dC;have:=j i;omega,Int.le_refl _⟩,?_,rfl,h0⟩;unfold nI ym;rw[if_pos z];simp only[Bool.and_eq_true,Bool.or_eq_true,decide_eq_true_eq];refine⟨g,?_⟩;unfold vH
  split <;> simp
 rintro⟨r,k,s,hr,hk,hs,q,rfl,h0⟩;unfold nI ym at q;rw[if_pos z]at q;simp only[Bool.and_eq_true,Bool.or_eq_true,decide_eq_true_eq]at q;obtain⟨g,u,rfl⟩:=q;refine⟨r.toNat,by omega,?_⟩;rw[show((r.toNat:Nat):Int)=r by omega];unfold wR;rw[if_neg g];simp only[wRi,List.mem_flatMap,List.mem_range,uL]
 rcases u with rfl|rfl
 ·exact⟨0,by omega,by simp[vH],by simpa [vH]using h0⟩
 exact⟨1,by omega,by simp[vH],by simpa [vH]using h0⟩
theorem Lh{d:Dev}{t r k:Int}(ht:ai d t=true)(hr:0<=r/\r<=3)(hk:0<=k/\k<d.T)(h:0<=ax d t ((r+2)%4) (dC k)):0<=jv d t r k (dC k):=by
 have hd:=(aP.1 ht).1;have j:=ak hd;have hp:=fT hd;have g:=(oL hd h).2.1;have hb:=KI ht hr.1 hr.2 h;unfold jv eT;rw[if_pos ⟨g,hr,hk,by rw[hb];exact(aP.1 ht).2.1⟩];have h1:=Int.mul_nonneg (aP.1 g).2.1 (show 0<=ag d by omega);have h2:=Int.mul_nonneg hr.1 (show 0<=d.T by omega);omega
theorem yN(d:Dev)(t q g:Int)(w:World)(ht:ai d t=true)(r0:0<=q)(r3:q<=3)(k0:0<=g)(k1:g<d.T) :
  Calls Tryz.prog 237 #[.agg (dv d),.int .i64 t,.int .i64 q,.int .i64 g] w fun e w'=>∃A n c,e=.returned (.slice A n c)/\Own w.heap.size w' A n c (asc (sH d t 2++wA d t q g 4))/\Below w.heap.size w w':=by
 have HT:=Hd ht;have bk:=ak (aP.1 ht).1;have bq:=eu (aP.1 ht).1;have aN:=Hd (fun i=>Jc (aP.1 ht).1 k0 k1 i);have a7:=Hd (aB (Below.refl w.heap.size w) (.cells (dv d) 36));have ar:=fun r=>Hd (NI d t q g r);have aq:=fun p=>Hd (IZ d t p);clear ht;go_enter Tryz.func237,Tryz.ntmps237;go_wp2
 go_loopw[9,10] (fun v i wr=>∃(p:Nat) (A:Oh) (n c:Nat),p<=2/\i=.int .i64 p/\v=.slice A n c/\n<=p/\Own w.heap.size wr A n c (asc (sH d t p))/\Below (w.alloc (.cells (dv d) 36)).heap.size (w.alloc (.cells (dv d) 36)) wr) (fun _ i _=>2-(intOf i).toNat)
 ·exact⟨0,none,0,0,by omega,rfl,rfl,by omega,by simpa [sH,asc]using Own.nil,Below.refl _ _⟩
 obtain⟨p,A,n,c,hp,rfl,rfl,hn,ho,hb⟩:=hrel;obtain⟨H,I⟩:=hd2 ho hb;have hs:=hb.size;simp only[World.size_alloc]at hs;obtain⟨hcc,z⟩:=az hb;clear ho hb;by_cases al:p<2
 ·have aJ:decide ((p:Int)<2)=true:=by simp;omega
  generalize W:fB d t (p:Int)=C at *;have R:=Hd W;clear W;go_wp2_with fail;refine(x9 d t (p:Int) _).mono ?_;rw[R.1];rintro e w2 ⟨rfl,b2⟩;have D:=Hd (aA I.1 b2);have B:=Hd (H.1.below b2);have aW:=b2.size;clear b2 hcc z;by_cases a4:C≥0
  ·have G:=Hd (kw (x:=C) (by omega));go_wp2_with fail;refine(jD w.heap.size A n c _ C _ B.1 (by omega) (by omega)).mono ?_;rintro e w4 ⟨A4,n4,c4,rfl,Q,Y⟩;have bc:=DY B.1 Q;have U:=Hd Q;have V:=Hd (aA D.1 Y);clear Q Y;go_wp2;go_roundw
   ·exact⟨p+1,A4,n4,c4,by omega,by go_num,rfl,by omega,by rw[(aq p).1,R.1,G.1,rO];exact U.1,V.1⟩
   simp[intOf];omega
  have G:=Hd (mO (x:=C) (by omega));go_wp2;go_roundw
  ·exact⟨p+1,A,n,c,by omega,by go_num,rfl,by omega,by rw[(aq p).1,R.1,G.1,List.append_nil];exact B.1,D.1⟩
  simp[intOf];omega
 have hp2:p=2:=by omega
 have a8:=Hd hp2;have bo:n<=2:=by omega
 have aJ:decide ((p:Int)<2)=false:=by simp;omega
 clear hp2 hcc z;go_wp2
 go_loopw[9,12] (fun v i wr=>∃(r:Nat) (A:Oh) (n c:Nat),r<=4/\i=.int .i64 r/\v=.slice A n c/\n<=2+2*r/\Own w.heap.size wr A n c (asc (sH d t 2++wA d t q g r))/\Below (w.alloc (.cells (dv d) 36)).heap.size (w.alloc (.cells (dv d) 36)) wr) (fun _ i _=>4-(intOf i).toNat)
 ·exact⟨0,A,n,c,by omega,rfl,rfl,by omega,by rw[←a8.1];simpa [wA]using H.1,I.1⟩
 obtain⟨r,A,n,c,hr,rfl,rfl,hn,ho,hb⟩:=hrel;obtain⟨wo,rfl⟩:∃x,x=wr:=⟨wr,rfl⟩;obtain⟨H,I⟩:=hd2 ho hb;have hs:=hb.size;simp only[World.size_alloc]at hs;obtain⟨hcc,z⟩:=az hb;clear ho hb;by_cases al:r<4
 ·have bn:decide ((r:Int)<4)=true:=by simp;omega
  by_cases u:(r:Int)=(q+2)%4
  ·have HW:Hv (wR d t q g (r:Int)=[]):=Hd<|by show _=_;unfold wR;rw[if_pos u]
   have bg:=Hd u;have e1:((r:Int)==(q+2)%4)=true:=by simpa using u
   clear u;go_wp2;go_roundw
   ·exact⟨r+1,A,n,c,by omega,by go_num,rfl,by omega,by rw[(ar r).1,HW.1,List.append_nil];exact H.1,I.1⟩
   simp[intOf];omega
  have HW:Hv (wR d t q g (r:Int)=wRi d t (r:Int) g 2):=Hd<|by show _=_;unfold wR;rw[if_neg u]
  have e1:((r:Int)==(q+2)%4)=false:=by simpa using u
  have e0:¬d.T=0:=by omega
  have e2:(g+1).tmod d.T=(g+1)%d.T:=Int.tmod_eq_emod_of_nonneg (by omega);have ao:=fun i=>Hd (Ld d t (r:Int) g i);have a2:Hv (vH d g 0=g):=Hd<|rfl
  have ae:Hv (vH d g 1=(g+1)%d.T):=Hd<|rfl
  have J:=(aN.1 1);rw[ae.1]at J;clear u;generalize (g+1)%d.T=j at *;have ad:=aB I.1 (.cells #[.int .i64 g,.int .i64 j] 3);have aD:=Hd ad;have be:=Hd (aG wo (.cells #[.int .i64 g,.int .i64 j] 3));have aH:=Hd (H.1.below (aB (Below.refl _ _) (.cells #[.int .i64 g,.int .i64 j] 3)));clear ad;go_wp2_with fail;clear hcc z
  go_loopw[9,46] (fun v i wi=>∃(i':Nat) (A:Oh) (n c:Nat),i'<=2/\i=.int .i64 i'/\v=.slice A n c/\n<=2+2*r+i'/\wi.heap[wo.heap.size]?=some (.cells #[.int .i64 g,.int .i64 j] 3 (0,0))/\Own w.heap.size wi A n c (asc (sH d t 2++wA d t q g r++wRi d t (r:Int) g i'))/\Below (w.alloc (.cells (dv d) 36)).heap.size (w.alloc (.cells (dv d) 36)) wi) (fun _ i _=>2-(intOf i).toNat)
  ·exact⟨0,A,n,c,by omega,rfl,rfl,by omega,be.1,by simpa [wRi]using aH.1,aD.1⟩
  obtain⟨i,A,n,c,hi,rfl,rfl,hn,hx,ho,hb⟩:=hrel;obtain⟨H,I,HX⟩:=hd3 ho hb hx;have hs:=hb.size;simp only[World.size_alloc]at hs;obtain⟨hcc,z⟩:=az hb;obtain⟨x0,x1,bj⟩:=iC hx;clear ho hb hx;by_cases al:i<2
  ·have aE:decide ((i:Int)<2)=true:=by simp;omega
   have a6:∃K:Int,vH d g i=K/\wr.cell? ⟨wo.heap.size,i,none⟩=some (.int .i64 K)/\0<=K/\K<d.T:=by
    have:i=0∨i=1:=by omega
    rcases this with rfl|rfl
    ·exact⟨g,a2.1,x0,k0,k1⟩
    exact⟨j,ae.1,x1,J.1,J.2⟩
   obtain⟨K,av,aO,bd,aL⟩:=a6;have aj:=Hd av;have hL:dC K=1+K%2:=rfl;have bs:1<=dC K/\dC K<=2:=by rw[hL];omega
   have aS:=Hd (fun h=>Lh (d:=d) (t:=t) (r:=(r:Int)) (k:=K) HT.1 (by omega) ⟨bd,aL⟩ h);have a1:=Hd (fun h=>Fh (d:=d) (t:=t) (r:=(r:Int)) (k:=K) (s:=dC K) h);generalize hP:ax d t (((r:Int)+2)%4) (dC K)=P at *;have HP:=Hd hP;have a9:=kY (d:=d) (t:=t) (r:=((r:Int)+2)%4) (s:=dC K) (aP.1 HT.1).1;rw[hP]at a9;have i0:(0:Int)<=(i:Int):=by omega
   have aM:=Hd (fun w=>fG K w (by omega) (by omega));generalize Z:dC K=L at *;have ap:=Hd Z;clear av hL hP x0 x1 Z;have e3:((r:Int)+2).tmod 4=((r:Int)+2)%4:=Int.tmod_eq_emod_of_nonneg (by omega);have e4:IntKind.i64.wrap ((r:Int)+2)=(r:Int)+2:=IntWalk.i64_in _ (by omega);go_wp2_with fail;have bp:w.heap.size<wr.heap.size:=by omega
   have ah:=dB wr;have aK:=au wr;refine wpB wr ?_
   repeat(go_big_quiet_step ((first
    | (go_at_call 232;with_reducible exact aX (aM.1 _))
    | (go_at_call 260;with_reducible exact aV (il HP.1 HT.1 (by omega) (by omega) _)))))
   refine wpQuiet_nil ?_;rintro _ ⟨⟨w2,hD⟩,rfl⟩;clear ah aK hcc z;have D:=Hd (aA I.1 hD);have B:=Hd (H.1.below hD);have ag:=Hd (aF hD HX.1);have aW:=hD.size;obtain⟨hcc,z⟩:=az D.1;clear e3 e4 hD aO;by_cases bl:P≥0
   ·have a4:=aS.1 (by omega);generalize W:jv d t (r:Int) K L=C at *;have R:Hv (eT d P (r:Int) K=C):=Hd<|by show _=C;rw[←W,jv,HP.1]
    have aQ:=Hd W;clear W;have G:=Hd (kw (x:=C) (by omega));go_wp2_with fail;refine(uj d P (r:Int) K _).mono ?_;rw[R.1];rintro e w3 ⟨rfl,b3⟩;have aR:=Hd (aA D.1 b3);have am:=Hd (B.1.below b3);have aZ:=Hd (aF b3 ag.1);have bu:=b3.size;clear b3 hcc z;go_wp2_with fail;refine(jD w.heap.size A n c _ C _ am.1 (by omega) (by omega)).mono ?_;rintro e w4 ⟨A4,n4,c4,rfl,Q,Y⟩;have bc:=DY am.1 Q;have U:=Hd Q;have V:=Hd (aA aR.1 Y);have aT:=Hd (aF Y aZ.1);clear Q Y;go_wp2;go_roundw
    ·exact⟨i+1,A4,n4,c4,by omega,by go_num,rfl,by omega,aT.1,by rw[(ao i).1,aj.1,ap.1,aQ.1,G.1,←List.append_assoc,rO];exact U.1,V.1⟩
    simp[intOf];omega
   have R:=Hd (a1.1 (by omega));go_wp2;go_roundw
   ·exact⟨i+1,A,n,c,by omega,by go_num,rfl,by omega,ag.1,by rw[(ao i).1,aj.1,ap.1,R.1,List.append_nil];exact B.1,D.1⟩
   simp[intOf];omega
  obtain rfl:i=2:=by omega
  have aE:decide ((2:Int)<2)=false:=by decide
  clear x0 x1;go_wp2;go_roundw
  ·exact⟨r+1,A,n,c,by omega,by go_num,rfl,by omega,by rw[(ar r).1,HW.1,←List.append_assoc];exact H.1,I.1⟩
  simp[intOf];omega
 obtain rfl:r=4:=by omega
 go_wp2;go_ret;exact⟨A,n,c,rfl,H.1,aA a7.1 I.1⟩
theorem Lj{d:Dev}{n:Int}(h:ed d n=true)(hk:n%ag d<5):nX d n=asc (iO d (n/ag d) (n%ag d) 4):=by
 rw[nX,if_pos ⟨h,by omega⟩,jV,if_neg (by omega)];rfl
theorem Fp{d:Dev}{n:Int}(hk:n%ag d=5∨n%ag d=6):nX d n=[]:=by rw[nX,if_neg (by rintro⟨_,h⟩;exact h hk)]
theorem Jd{d:Dev}{n:Int}(h:ed d n=false):nX d n=[]:=by rw[nX,h];simp
theorem J7{d:Dev}{n:Int}(h:ed d n=true)(hk:7<=n%ag d):nX d n=asc (sH d (n/ag d) 2++wA d (n/ag d) ((n%ag d-7)/d.T) ((n%ag d-7)%d.T) 4):=by
 have g:=h;unfold ed at g;rw[Bool.and_eq_true]at g;rw[nX,if_pos ⟨h,by omega⟩,Ia (ky g.1) hk]
theorem DZ(d:Dev)(n:Int)(w:World) :
  Calls Tryz.prog 149 #[.agg (dv d),.int .i64 n] w fun e w'=>∃A m c,e=.returned (.slice A m c)/\Own w.heap.size w' A m c (nX d n)/\Below w.heap.size w w':=by
 have B:=Hd (aB (Below.refl w.heap.size w) (.cells (dv d) 36));go_enter Tryz.func149,Tryz.ntmps149;go_wp2_with fail
 cases g:ed d n with
 | false =>
  have H:=Hd (Jd g);refine(qa d n _).mono ?_;rw[g];rintro e w1 ⟨rfl,J⟩;have I:=Hd (aA B.1 J);clear J g;go_wp2;go_ret
  exact⟨none,0,0,rfl,by rw[H.1];exact Own.nil,I.1⟩
 | true =>
  have z:gp d n=true:=by unfold ed at g;rw[Bool.and_eq_true]at g;exact g.1
  have Q:=Hd (ky z);have af:=Hd z;obtain⟨hd,n0,n1,ap,hq1,av,ae⟩:=kT z;have hT:=ak hd;have hp:=fT hd;have W:=Hd (fun h=>Lj g h);have ai:=Hd (fun h=>J7 g h);have Z:=Hd (fun h=>Fp (d:=d) (n:=n) h);have ah:=Hd (fun h w=>zX d n w z h);refine(qa d n _).mono ?_;rw[g];rintro e w1 ⟨rfl,J⟩;have I:=Hd J;have V:=J.size;simp only[World.size_alloc]at V;obtain⟨hcc,j⟩:=az J;clear J g z hd;go_wp2_with fail;refine(qO d n _ af.1).mono ?_;rintro e w2 ⟨rfl,b2⟩;have D:=Hd (aA I.1 b2);have au:=b2.size;clear b2 hcc j;obtain⟨hcc,j⟩:=az D.1;generalize n%ag d=k at *;generalize n/ag d=q at *;have h3:k<5∨(¬k<5/\k<7)∨(¬k<5/\¬k<7):=by omega
  rcases h3 with h|⟨h,h'⟩|⟨h,h'⟩
  ·go_wp2_with fail;refine(zY d q k _ Q.1 (by omega) (by omega)).mono ?_;rintro e w3 ⟨A3,n3,c3,rfl,K,R⟩;have H:=Hd (W.1 (by omega));have u:=Hd (aA B.1 (aA D.1 R));have G:=Hd K;clear R K hcc j;go_wp2;go_ret;exact⟨A3,n3,c3,rfl,by rw[H.1];exact G.1.more (by omega),u.1⟩
  ·have H:=Hd (Z.1 (by omega));have u:=Hd (aA B.1 D.1);clear hcc j;go_wp2;go_ret;exact⟨none,0,0,rfl,by rw[H.1];exact Own.nil,u.1⟩
  have al:=Int.ediv_nonneg (show 0<=k-7 by omega) (show 0<=d.T by omega);have aj:=Int.emod_nonneg (k-7) (show d.T≠0 by omega);have aw:=Int.emod_lt_of_pos (k-7) (show 0<d.T by omega)
  have ax:(k-7)/d.T<=3:=by
   have:(k-7)/d.T<4:=Int.ediv_lt_of_lt_mul (by omega) (by unfold ag at ae;omega);omega
  go_wp2_with fail;refine(ah.1 (by omega) _).mono ?_;rintro e w4 ⟨rfl,Y⟩;have U:=Hd (aA D.1 Y);have ao:=Y.size;have H:=Hd (ai.1 (by omega));clear Y hcc j;obtain⟨hcc,j⟩:=az U.1;generalize (k-7)/d.T=r at *;generalize (k-7)%d.T=m at *;go_wp2_with fail;refine(yN d q r m _ Q.1 (by omega) (by omega) (by omega) (by omega)).mono ?_;rintro e w3 ⟨A3,n3,c3,rfl,K,R⟩;have u:=Hd (aA B.1 (aA U.1 R));have G:=Hd K;clear R K hcc j;go_wp2;go_ret;exact⟨A3,n3,c3,rfl,by rw[H.1];exact G.1.more (by omega),u.1⟩
end Go.Proofs.YtofihjoanjkdmaaGreat
