/- Pins and wires as nodes, which nodes exist: the reference's functions. -/
import Derived.Test.YtofihjoanjkdmaaGreatRtS
import Derived.Test.YtofihjoanjkdmaaGreatRtS3
namespace Go.Proofs.YtofihjoanjkdmaaGreat
set_option maxHeartbeats 8000000
set_option maxRecDepth 100000
open Go.RowKit
theorem tY (d:Dev) (t p:Int) (w:World) (ht:bB d t=true) (ad:0<=p) (Y:p<=10) :
  Calls Tryz.prog 209 #[.agg (dv d),.int .i64 t,.int .i64 p] w fun e w'=>e = .returned (.int .i64 (eX d t p))/\Below w.heap.size w w':=by
 have u:Hid (eX d t p=if bB d t=true/\0<=p/\p<eF (bL d t) then t * aV d+5+p else -1):=rfl
 obtain ⟨j,B,W⟩:=aU.1 ht
 have ae:=fJ j
 have hT:=ay j
 have Z:=eP j
 have G:=iZ d t
 have HM:=Hd (jc B (show t<=35 by omega) (show 0<=aV d by omega) Z.2)
 have R:=Hd ht
 have ag:decide (p<0)=false:=by simp;omega
 clear ht j
 go_enter Tryz.func209,Tryz.ntmps209
 go_wp2_with fail
 refine (iA d t _ R.out).mono ?_
 rintro e w2 ⟨rfl,q⟩
 have I:=Hd (aA (aB (Below.refl _ _) _) q)
 have D:=q.size
 simp only [World.size_alloc] at D
 obtain ⟨hcc,z⟩:=bG q
 clear q
 generalize J:bL d t=K at *
 have HK:=Hd J
 clear J
 have g:∃Q,eF K=Q:=⟨_,rfl⟩
 obtain ⟨Q,g⟩:=g
 rw [g] at G u
 have H:Hid (∀w,Calls Tryz.prog 233 #[.int .i64 K] w fun e w'=>e = .returned (.int .i64 Q)/\w=w'):=fun w=>by have:=ky K w;rwa [g] at this
 clear g
 by_cases V:p<Q
 ·have hh:decide (p≥Q)=false:=by simp;omega
  go_wp2_with (go_at_call 233;refine (H.out _).mono ?_;rintro e w' ⟨rfl,rfl⟩)
  refine (eH d _ (by omega) (by omega)).mono ?_
  rintro e w3 ⟨rfl,U⟩
  have B3:=Hd (aA I.out U)
  have hM:=HM.out
  clear U hcc z
  go_wp2_with fail
  go_ret
  exact ⟨aL (by rw [u.out,if_pos ⟨R.out,by omega,by omega⟩]),B3.out⟩
 have hh:decide (p≥Q)=true:=by simp;omega
 go_wp2_with (go_at_call 233;refine (H.out _).mono ?_;rintro e w' ⟨rfl,rfl⟩)
 go_ret
 exact ⟨aL (by rw [u.out,if_neg];rintro ⟨_,h0,h1⟩;omega),I.out⟩
theorem j6 (d:Dev) (t r k:Int) (w:World) (G:dR d=true) (J:t<=1099511627776) (q:0<=r) (j:r<=3) (ae:0<=k) (V:k<d.T) :
  Calls Tryz.prog 234 #[.agg (dv d),.int .i64 t,.int .i64 r,.int .i64 k] w fun e w'=>e = .returned (.int .i64 (d9 d t r k))/\Below w.heap.size w w':=by
 have W:Hid (d9 d t r k=if bB d t=true/\(0<=r/\r<=3)/\(0<=k/\k<d.T)/\0<=ax d t r (bg k) then t * aV d+7+r * d.T+k else -1):=rfl
 have hT:=ay G
 have aE:=fJ G
 have hp:=eP G
 have HD:=Hd G
 clear G
 cases ht:bB d t with
 | false =>
  have z:=Hd ht
  clear ht
  go_enter Tryz.func234,Tryz.ntmps234
  go_wp2_with fail
  refine (qz d t _ z.out J).mono ?_
  rintro e w2 ⟨rfl,u⟩
  have R:=Hd (aA (aB (Below.refl _ _) _) u)
  clear u
  go_wp2_with fail
  go_ret
  exact ⟨aL (by rw [W.out,if_neg (by rw [z.out];simp)]),R.out⟩
 | true =>
  obtain ⟨_,ad,aq⟩:=aU.1 ht
  have z:=Hd ht
  have Z:bg k=1+k % 2:=rfl
  have ar:1<=bg k/\bg k<=2:=by rw [Z];omega
  have HL:=Hd Z.symm
  clear ht Z
  have aG:decide (k<0)=false:=by simp;omega
  have al:decide (k≥d.T)=false:=by simp;omega
  go_enter Tryz.func234,Tryz.ntmps234
  go_wp2_with fail
  refine (iA d t _ z.out).mono ?_
  rintro e w2 ⟨rfl,u⟩
  have ao:=lV d t
  generalize bL d t=K at *
  have au:decide (K<0)=false:=by simp;omega
  have R:=Hd u
  have ah:=u.size
  simp only [World.size_alloc] at ah
  obtain ⟨hcc,D⟩:=bG u
  clear u
  go_wp2_with fail
  rw [HL.out]
  generalize U:bg k=L at *
  generalize Y:ax d t r L=P at *
  have HP:=Hd Y
  have HC:Hid (∀w,Calls Tryz.prog 230 #[.agg (dv d),.int .i64 t,.int .i64 r,.int .i64 L] w fun e w'=>e = .returned (.int .i64 P)/\Below w.heap.size w w'):=fun w=>by have:=iW d t r L w z.out q j (by omega) (by omega);rwa [Y] at this
  clear Y U
  refine (HC.out _).mono ?_
  rintro e I ⟨rfl,b3⟩
  have B3:=Hd (aA R.out b3)
  have aD:=b3.size
  clear b3 hcc D
  obtain ⟨hcc,D⟩:=bG B3.out
  by_cases af:P<0
  ·have Q:decide (P<0)=true:=by simpa using af
   go_wp2_with fail
   go_ret
   exact ⟨aL (by rw [W.out,if_neg];rintro ⟨_,_,_,h⟩;omega),aA (aB (Below.refl _ _) _) B3.out⟩
  have Q:decide (P<0)=false:=by simp;omega
  go_wp2_with fail
  have av:w.heap.size<I.heap.size:=by omega
  have B:=aY I
  have ag:=aP I
  refine wpB I ?_
  repeat (go_big_quiet_step ((go_at_call 68;with_reducible exact aN (eH d _ (by omega) (by omega)))))
  refine wpQuiet_nil ?_
  rintro _ ⟨⟨w4,hD⟩,rfl⟩
  clear B ag
  have hM:=jc ad (show t<=35 by omega) (show 0<=aV d by omega) hp.2
  have ai:=jc q j (show 0<=d.T by omega) (show d.T<=4 by omega)
  have H:=Hd (And.intro (IntWalk.i64_in (t * aV d) (by omega)) (And.intro (IntWalk.i64_in (t * aV d+7) (by omega)) (And.intro (IntWalk.i64_in (r * d.T) (by omega)) (And.intro (IntWalk.i64_in (t * aV d+7+r * d.T) (by omega)) (IntWalk.i64_in (t * aV d+7+r * d.T+k) (by omega))))))
  have g:=Hd (And.intro (IntWalk.wrap64_in (t * aV d) (by omega)) (And.intro (IntWalk.wrap64_in (t * aV d+7) (by omega)) (And.intro (IntWalk.wrap64_in (r * d.T) (by omega)) (And.intro (IntWalk.wrap64_in (t * aV d+7+r * d.T) (by omega)) (IntWalk.wrap64_in (t * aV d+7+r * d.T+k) (by omega))))))
  clear hM ai
  go_wp2_with fail
  go_ret
  exact ⟨aL (by rw [W.out,if_pos ⟨z.out,⟨q,j⟩,⟨ae,V⟩,by omega⟩];first|rfl|(rw [H.out.1,H.out.2.1,H.out.2.2.1,H.out.2.2.2.1,H.out.2.2.2.2])|(rw [g.out.1,g.out.2.1,g.out.2.2.1,g.out.2.2.2.1,g.out.2.2.2.2])),aA (aA (aB (Below.refl _ _) _) B3.out) hD⟩
theorem tZ (d:Dev) (n:Int) (w:World) (hn:fP d n=true) (U:7<=n % aV d) :
  Calls Tryz.prog 229 #[.agg (dv d),.int .i64 n] w fun e w'=>e = .returned (.tuple #[.int .i64 ((n % aV d - 7) / d.T),.int .i64 ((n % aV d - 7) % d.T)])/\Below w.heap.size w w':=by
 obtain ⟨q,I,n1,z,B,K,G⟩:=il hn
 have Q:=ay q
 have R:=eP q
 have u:¬aV d=0:=by omega
 have e1:n.tmod (aV d)=n % aV d:=Int.tmod_eq_emod_of_nonneg I
 clear hn q
 go_enter Tryz.func229,Tryz.ntmps229
 go_wp2_with fail
 refine (eH d _ (by omega) (by omega)).mono ?_
 rintro e V ⟨rfl,g⟩
 have j:=g.size
 simp only [World.size_alloc] at j
 obtain ⟨hcc,D⟩:=bG g
 have H:=Hd (aA (aB (Below.refl _ _) _) g)
 clear g
 generalize hk:n % aV d=k at *
 have J:=Hd hk
 clear hk
 go_wp2_with fail
 clear u e1
 have u:¬d.T=0:=by omega
 have e1:(k - 7).tmod d.T=(k - 7) % d.T:=Int.tmod_eq_emod_of_nonneg (by omega)
 have e2:IntKind.i64.wrap ((k - 7).tdiv d.T)=(k - 7) / d.T:=IntWalk.i64_quo _ _ ⟨by omega,by omega,by omega⟩
 go_quiet (fail)
 go_wp2_with fail
 go_ret2
 exact ⟨by rw [J.out];rfl,bE H.out _⟩
theorem Fq (d:Dev):0<=ik d/\ik d<=828:=by
 unfold ik
 split
 ·rename_i h;have:=fZ h;omega
 omega
theorem mq {d:Dev} {n:Int}:fP d n=true↔0<=n/\n<ik d:=by
 unfold fP ik
 simp only [Bool.and_eq_true,decide_eq_true_eq]
 split
 ·rename_i h;simp [h]
 rename_i h;simp [h] <;> omega
theorem iy (d:Dev) (n:Int) (w:World) :
  Calls Tryz.prog 207 #[.agg (dv d),.int .i64 n] w fun e w'=>e = .returned (.bool (bQ d n))/\Below w.heap.size w w':=by
 have aQ:=Fq d
 by_cases h0:n<0
 ·have z:Hid (bQ d n=false):=by
   show _=false
   unfold bQ
   cases h:fP d n with
   | false=>rfl
   | true=>have:=mq.1 h;omega
  have ah:decide (n<0)=true:=by simpa using h0
  go_enter Tryz.func207,Tryz.ntmps207
  go_wp2_with fail
  go_ret
  exact ⟨dC z.out.symm,aB (Below.refl _ _) _⟩
 have ah:decide (n<0)=false:=by simp;omega
 by_cases h1:n<ik d
 ·have j:fP d n=true:=mq.2 ⟨by omega,h1⟩
  have af:decide (n≥ik d)=false:=by simp;omega
  have z:Hid (bQ d n=sS d (n / aV d) (n % aV d)):=by show _=_;unfold bQ;rw [j];rfl
  have HN:=Hd j
  obtain ⟨R,n0,n1,aL,aG,aC,ai⟩:=il j
  have hT:=ay R
  have hp:=eP R
  have aM:=fJ R
  have J:=Hd (lW j)
  have e0:¬aV d=0:=by omega
  have e1:n.tmod (aV d)=n % aV d:=Int.tmod_eq_emod_of_nonneg n0
  have e2:IntKind.i64.wrap (n.tdiv (aV d))=n / aV d:=IntWalk.i64_quo _ _ ⟨n0,by omega,by omega⟩
  clear j R
  go_enter Tryz.func207,Tryz.ntmps207
  go_wp2_with fail
  refine (gP d _).mono ?_
  rintro e w1 ⟨rfl,D⟩
  have B1:=Hd D
  have Z:=D.size
  simp only [World.size_alloc] at Z
  obtain ⟨hcc,g⟩:=bG D
  clear D
  go_wp2_with fail
  refine (eH d _ (by omega) (by omega)).mono ?_
  rintro e w2 ⟨rfl,W⟩
  have B2:=Hd (aA B1.out W)
  have aD:=W.size
  clear W hcc g
  obtain ⟨hcc,g⟩:=bG B2.out
  go_wp2_with fail
  refine (eH d _ (by omega) (by omega)).mono ?_
  rintro e w3 ⟨rfl,b3⟩
  have U:=Hd (aA B2.out b3)
  have aR:=b3.size
  clear b3 hcc g
  obtain ⟨hcc,g⟩:=bG U.out
  have B:=Hd (fun (h7:7<=n % aV d) (w:World)=>tZ d n w HN.out h7)
  generalize hk:n % aV d=k at *
  generalize hq:n / aV d=q at *
  have hK:sS d q k=if k<5 then decide (k<jT (bL d q)) else if k<7 then decide (k - 5<eF (bL d q)) else decide (0<=ax d q ((k - 7) / d.T) (bg ((k - 7) % d.T))):=rfl
  have V:=Hd hK
  have aO:=pM d q
  have aS:=iZ d q
  have H:=Hd (fun w=>iA d q w J.out)
  generalize bL d q=K at *
  clear hK hk hq
  have h3:k<5∨(¬k<5/\k<7)∨(¬k<5/\¬k<7):=by omega
  rcases h3 with h|⟨h,h'⟩|⟨h,h'⟩
  ·go_wp2_with fail
   refine (H.out _).mono ?_
   rintro e w4 ⟨rfl,u⟩
   have G:=Hd (aA U.out u)
   clear u hcc g
   generalize I:jT K=Q at *
   have HQ:=Hd I
   clear I
   go_wp2_with (go_at_call 255;refine (qR _ _).mono ?_;rw [HQ.out];rintro e w' ⟨rfl,rfl⟩)
   go_ret
   exact ⟨dC (by rw [z.out,V.out,if_pos (by omega)]),aA (aB (Below.refl _ _) _) G.out⟩
  ·go_wp2_with fail
   refine (H.out _).mono ?_
   rintro e w4 ⟨rfl,u⟩
   have G:=Hd (aA U.out u)
   clear u hcc g
   generalize I:eF K=Q at *
   have HQ:=Hd I
   clear I
   go_wp2_with (go_at_call 233;refine (ky _ _).mono ?_;rw [HQ.out];rintro e w' ⟨rfl,rfl⟩)
   go_ret
   exact ⟨dC (by rw [z.out,V.out,if_neg (by omega),if_pos (by omega)]),aA (aB (Below.refl _ _) _) G.out⟩
  have aw:=Int.ediv_nonneg (show 0<=k - 7 by omega) (show 0<=d.T by omega)
  have aK:=Int.emod_nonneg (k - 7) (show d.T≠0 by omega)
  have av:=Int.emod_lt_of_pos (k - 7) (show 0<d.T by omega)
  have az:(k - 7) / d.T<=3:=by
   have:(k - 7) / d.T<4:=Int.ediv_lt_of_lt_mul (by omega) (by unfold aV at ai;omega)
   omega
  go_wp2_with fail
  refine (B.out (by omega) _).mono ?_
  rintro e w4 ⟨rfl,u⟩
  have G:=Hd (aA U.out u)
  have aF:=u.size
  clear u hcc g
  obtain ⟨hcc,g⟩:=bG G.out
  generalize (k - 7) / d.T=r at *
  generalize (k - 7) % d.T=m at *
  have hL:bg m=1+m % 2:=rfl
  have aE:1<=bg m/\bg m<=2:=by rw [hL];omega
  have HL:=Hd hL.symm
  clear hL
  go_wp2_with fail
  rw [HL.out]
  generalize Y:bg m=L at *
  generalize hP:ax d q r L=P at *
  have HC:Hid (∀w,Calls Tryz.prog 230 #[.agg (dv d),.int .i64 q,.int .i64 r,.int .i64 L] w fun e w'=>e = .returned (.int .i64 P)/\Below w.heap.size w w'):=fun w=>by have:=iW d q r L w J.out (by omega) (by omega) (by omega) (by omega);rwa [hP] at this
  clear hP Y
  refine (HC.out _).mono ?_
  rintro e w5 ⟨rfl,b5⟩
  have B5:=Hd (aA G.out b5)
  clear b5 hcc g
  go_wp2_with fail
  go_ret
  exact ⟨dC (by rw [z.out,V.out,if_neg (by omega),if_neg (by omega)]),aA (aB (Below.refl _ _) _) B5.out⟩
 have z:Hid (bQ d n=false):=by
  show _=false
  unfold bQ
  cases h:fP d n with
  | false=>rfl
  | true=>have:=mq.1 h;omega
 have af:decide (n≥ik d)=true:=by simp;omega
 go_enter Tryz.func207,Tryz.ntmps207
 go_wp2_with fail
 refine (gP d _).mono ?_
 rintro e w1 ⟨rfl,D⟩
 have B1:=Hd (aA (aB (Below.refl _ _) _) D)
 clear D
 go_wp2_with fail
 go_ret
 exact ⟨dC z.out.symm,B1.out⟩
theorem rM {d:Dev} {t pin r k:Int} {s:Nat} (h:∀s,mG d pin r k s=false):iQ d t pin r k s=[]:=by
 unfold iQ
 rw [List.flatMap_eq_nil_iff]
 intro j _
 unfold mH
 rw [h]
 rfl
theorem nN {d:Dev} {t pin r k s:Int} (h:mG d pin r k s=true):mH d t pin r k s=mO (jk d t r k s):=by unfold mH;rw [if_pos h]
theorem oD {d:Dev} {t pin r k s:Int} (h:mG d pin r k s=false):mH d t pin r k s=[]:=by unfold mH;rw [h];rfl
theorem AR {d:Dev} {pin:Int} (g:7<=pin) (r k s:Int):mG d pin r k s=(decide (r≠((pin - 7) / d.T+2) % 4) && ((decide (k=(pin - 7) % d.T) || decide (k=((pin - 7) % d.T+1) % d.T)) && decide (s=bg k))):=by unfold mG uR;rw [if_pos g]
theorem CV {d:Dev} {pin:Int} (g:pin<7) (r k s:Int):mG d pin r k s=!(decide (d.T>1) && decide ((k+pin) % 2=1)):=by unfold mG tQ;rw [if_neg (by omega)]
theorem xR (d:Dev) (n:Int) (w:World) (D:bQ d n=true) (h5:n % aV d<5) :
  Calls Tryz.prog 146 #[.agg (dv d),.int .i64 n] w fun e w'=>∃A m c,e = .returned (.slice A m c)/\Own w.heap.size w' A m c (fe d n)/\Below w.heap.size w w':=by
 have aW:=Hd (aB (Below.refl w.heap.size w) (.cells (dv d) 36))
 have V:fP d n=true:=by unfold bQ at D;rw [Bool.and_eq_true] at D;exact D.1
 have aR:=Hd (lW V)
 obtain ⟨hd,n0,n1,bv,bp,bl,bI⟩:=il V
 have hT:=ay hd
 have hp:=eP hd
 have bA:=fJ hd
 have HD:=Hd hd
 have R:=Hd (fun l hp hs=>uD (l:=l) D (by omega) hp hs)
 have ai:Hid (∀w,Calls Tryz.prog 207 #[.agg (dv d),.int .i64 n] w fun e w'=>e = .returned (.bool true)/\Below w.heap.size w w'):=fun w=>by have h:=iy d n w;rwa [D] at h
 have e0:¬aV d=0:=by omega
 have e1:n.tmod (aV d)=n % aV d:=Int.tmod_eq_emod_of_nonneg n0
 have e2:IntKind.i64.wrap (n.tdiv (aV d))=n / aV d:=IntWalk.i64_quo _ _ ⟨n0,by omega,by omega⟩
 have Q:=Hd (fun r k s=>CV (d:=d) (pin:=n % aV d) (by omega) r k s)
 clear D V hd
 go_enter Tryz.func146,Tryz.ntmps146
 go_wp2_with fail
 refine (ai.out _).mono ?_
 rintro e w1 ⟨rfl,b1⟩
 have N1:=Hd ((Own.newAt (w:=(w.alloc (.cells (dv d) 36))) (base:=(w.alloc (.cells (dv d) 36)).heap.size) (g:=w.heap.size+1) (by simp) (by simp)).below b1)
 have ae:=Hd (aA (aB (Below.refl _ _) _) b1:Below (w.alloc (.cells (dv d) 36)).heap.size (w.alloc (.cells (dv d) 36)) w1)
 have G:=b1.size
 simp only [World.size_alloc] at G
 clear b1
 obtain ⟨hcc,j⟩:=bG ae.out
 go_wp2_with fail
 refine (eH d _ (by omega) (by omega)).mono ?_
 rintro e w2 ⟨rfl,b2⟩
 have H:=Hd (aA ae.out b2)
 have N2:=Hd (N1.out.below b2)
 have aO:=b2.size
 clear b2 hcc j
 obtain ⟨hcc,j⟩:=bG H.out
 go_wp2_with fail
 refine (eH d _ (by omega) (by omega)).mono ?_
 rintro e w3 ⟨rfl,b3⟩
 have al:=Hd (aA H.out b3)
 have N3:=Hd (N2.out.below b3)
 have bH:=b3.size
 clear b3 hcc j
 obtain ⟨hcc,j⟩:=bG al.out
 generalize n % aV d=pin at *
 generalize n / aV d=t at *
 clear ai
 have bs:decide (pin≥7)=false:=by simp;omega
 have a8:decide (pin<7)=true:=by simp;omega
 have bf:(pin==5)=false:=by simp;omega
 have bw:(pin==6)=false:=by simp;omega
 have NS:=N3
 have aw:=al
 clear hcc j
 go_wp2_with fail
 go_loopw [5,10] (fun v i wr=>∃(r:Nat) (A:Option Addr) (m c:Nat),r<=4/\i = .int .i64 r/\v = .slice A m c/\m<=2+8 * r/\Own (w.alloc (.cells (dv d) 36)).heap.size wr A m c (iH d t pin r)/\Below (w.alloc (.cells (dv d) 36)).heap.size (w.alloc (.cells (dv d) 36)) wr) (fun _ i _=>4 - (intOf i).toNat)
 ·exact ⟨0,_,_,_,by omega,rfl,rfl,by omega,by simpa [iH] using NS.out,aw.out⟩
 obtain ⟨r,A,m,c,hr,rfl,rfl,hn,ho,B⟩:=hrel
 obtain ⟨I,J⟩:=hd2 ho B
 have hs:=B.size
 simp only [World.size_alloc] at hs
 obtain ⟨hcc,j⟩:=bG B
 clear ho B
 by_cases bK:r<4
 ·have aE:decide ((r:Int)<4)=true:=by simp;omega
  have aK:=Hd (nT d t pin r)
  clear hcc j
  go_wp2_with fail
  go_loopw [5,11] (fun v i wr=>∃(k:Nat) (A:Option Addr) (m c:Nat),(k:Int)<=d.T/\i = .int .i64 k/\v = .slice A m c/\m<=2+8 * r+2 * k/\Own (w.alloc (.cells (dv d) 36)).heap.size wr A m c (iH d t pin r++jF d t pin (r:Int) k)/\Below (w.alloc (.cells (dv d) 36)).heap.size (w.alloc (.cells (dv d) 36)) wr) (fun _ i _=>d.T.toNat - (intOf i).toNat)
  ·exact ⟨0,A,m,c,by omega,rfl,rfl,by omega,by simpa [jF] using I.out,J.out⟩
  obtain ⟨k,A,m,c,hk,rfl,rfl,hn,ho,B⟩:=hrel
  obtain ⟨I,J⟩:=hd2 ho B
  have hs:=B.size
  simp only [World.size_alloc] at hs
  obtain ⟨hcc,j⟩:=bG B
  have am:=Hd (nS d t pin (r:Int) k)
  clear ho B
  by_cases aD:(k:Int)<d.T
  ·have aQ:decide ((k:Int)<d.T)=true:=by simpa using aD
   have hL:bg (k:Int)=1+(k:Int) % 2:=rfl
   have bo:1<=bg (k:Int)/\bg (k:Int)<=2:=by rw [hL];omega
   have HL:=Hd hL.symm
   have ad:=fun s=>Hd (nR d t pin (r:Int) (k:Int) s)
   clear hL
   have q:=Q.out (r:Int) (k:Int)
   have q:=Hd q
   have bD:0<=((k:Int)+pin) % 2/\((k:Int)+pin) % 2<=1:=by omega
   have e1:((k:Int)+pin).tmod 2=((k:Int)+pin) % 2:=Int.tmod_eq_emod_of_nonneg (by omega)
   generalize ((k:Int)+pin) % 2=z at *
   by_cases u:d.T>1/\z=1
   ·have af:=Hd (rM (d:=d) (t:=t) (pin:=pin) (r:=(r:Int)) (k:=(k:Int)) (s:=(bg (k:Int)).toNat) (fun s=>by rw [q.out,decide_eq_true u.1,decide_eq_true u.2];rfl))
    obtain ⟨G,rfl⟩:=u
    have bz:decide (d.T>1)=true:=by simpa using G
    go_wp2_with fail
    go_roundw
    ·exact ⟨k+1,A,m,c,by omega,by go_num,rfl,by omega,by rw [am.out,af.out,List.append_nil];exact I.out,J.out⟩
    simp [intOf];omega
   have aS:(d.T>1/\z=0)∨¬d.T>1:=by omega
   have aF:Hid (∀s,mG d pin (r:Int) (k:Int) s=true):=by
    intro s
    rw [q.out]
    simp
    omega
   clear q
   rcases aS with ⟨G,rfl⟩|G
   all_goals
    go_wp2_with fail
    go_loopw [5,12] (fun v i wr=>∃(s:Nat) (A:Option Addr) (m c:Nat),(s:Int)<=bg (k:Int)/\i = .int .i64 ((s:Int)+1)/\v = .slice A m c/\m<=2+8 * r+2 * k+s/\Own (w.alloc (.cells (dv d) 36)).heap.size wr A m c (iH d t pin r++jF d t pin (r:Int) k++iQ d t pin (r:Int) (k:Int) s)/\Below (w.alloc (.cells (dv d) 36)).heap.size (w.alloc (.cells (dv d) 36)) wr) (fun _ i _=>4 - (intOf i).toNat)
    ·exact ⟨0,A,m,c,by omega,rfl,rfl,by omega,by simpa [iQ] using I.out,J.out⟩
    obtain ⟨s,A,m,c,bE,rfl,rfl,hn,ho,B⟩:=hrel
    obtain ⟨I,J⟩:=hd2 ho B
    have hs:=B.size
    simp only [World.size_alloc] at hs
    clear hcc j
    obtain ⟨hcc,j⟩:=bG B
    clear ho B
    have hZ:1+(k:Int) % 2=bg (k:Int):=HL.out
    by_cases K:(s:Int)+1<=bg (k:Int)
    ·have a3:=K
     rw [←hZ] at K
     have aT:decide ((s:Int)+1<=1+(k:Int) % 2)=true:=by simpa using K
     clear hZ
     have W:=Hd (nN (t:=t) (aF.out ((s:Int)+1)))
     generalize hP:ax d t (((r:Int)+2) % 4) ((s:Int)+1)=P at *
     have HP:=Hd hP
     have aM:=kL (d:=d) (t:=t) (r:=((r:Int)+2) % 4) (s:=(s:Int)+1) HD.out
     rw [hP] at aM
     clear hP
     generalize hC:jk d t (r:Int) (k:Int) ((s:Int)+1)=C at *
     have HC:Hid (∀w,Calls Tryz.prog 234 #[.agg (dv d),.int .i64 P,.int .i64 (r:Int),.int .i64 (k:Int)] w fun e w'=>e = .returned (.int .i64 C)/\Below w.heap.size w w'):=fun w=>by
      have h:=j6 d P (r:Int) (k:Int) w HD.out (by omega) (by omega) (by omega) (by omega) (by omega)
      rwa [show d9 d P (r:Int) (k:Int)=C from by rw [←hC,jk,HP.out]] at h
     have av:Hid (∀w,Calls Tryz.prog 230 #[.agg (dv d),.int .i64 t,.int .i64 (((r:Int)+2) % 4),.int .i64 ((s:Int)+1)] w fun e w'=>e = .returned (.int .i64 P)/\Below w.heap.size w w'):=fun w=>by
      have h:=iW d t (((r:Int)+2) % 4) ((s:Int)+1) w aR.out (by omega) (by omega) (by omega) (by omega)
      rwa [HP.out] at h
     have bk:=Hd hC
     clear hC
     have e3:((r:Int)+2).tmod 4=((r:Int)+2) % 4:=Int.tmod_eq_emod_of_nonneg (by omega)
     have e4:IntKind.i64.wrap ((r:Int)+2)=(r:Int)+2:=IntWalk.i64_in _ (by omega)
     have bc:w.heap.size<wr.heap.size:=by omega
     go_wp2_with fail
     have aj:=aY wr
     have aI:=aP wr
     refine wpB wr ?_
     repeat (go_big_quiet_step ((first
      | (go_at_call 230;with_reducible exact aN (av.out _))
      | (go_at_call 234;with_reducible exact aN (HC.out _)))))
     refine wpQuiet_nil ?_
     rintro _ ⟨⟨w2,hD⟩,rfl⟩
     clear aj aI hcc j e3 e4
     have H:=Hd (aA J.out hD)
     have ak:=Hd (I.out.below hD)
     have aO:=hD.size
     clear hD
     by_cases bd:C≥0
     ·have U:=Hd (kP (x:=C) (by omega))
      go_wp2_with (at_builtin;refine gD rfl _ _ rfl (w.alloc (.cells (dv d) 36)).heap.size A m c _ C rfl ak.out rfl (by omega) (by simp;omega) H.out ?_;rintro g4 c4 w4 o4 b4 - -)
      go_roundw
      ·exact ⟨s+1,_,m+1,c4,by omega,by go_num,rfl,by omega,by rw [(ad s).out,W.out,U.out,←List.append_assoc];exact o4,b4⟩
      simp [intOf];omega
     have U:=Hd (lS (x:=C) (by omega))
     go_wp2_with fail
     go_roundw
     ·exact ⟨s+1,A,m,c,by omega,by go_num,rfl,by omega,by rw [(ad s).out,W.out,U.out,List.append_nil];exact ak.out,H.out⟩
     simp [intOf];omega
    have ag:(bg (k:Int)).toNat=s:=by omega
    have aX:=Hd ag
    rw [←hZ] at K
    have aT:decide ((s:Int)+1<=1+(k:Int) % 2)=false:=by simp;omega
    clear ag hZ
    go_wp2_with fail
    go_roundw
    ·exact ⟨k+1,A,m,c,by omega,by go_num,rfl,by omega,by rw [am.out,aX.out,←List.append_assoc];exact I.out,J.out⟩
    simp [intOf];omega
  have Y:d.T=(k:Int):=by omega
  have az:=Hd Y
  have aQ:decide ((k:Int)<d.T)=false:=by simp;omega
  clear Y
  go_wp2_with fail
  go_roundw
  ·exact ⟨r+1,A,m,c,by omega,by go_num,rfl,by omega,by rw [aK.out,show d.T.toNat=k by have:=az.out;omega];exact I.out,J.out⟩
  simp [intOf];omega
 have Z:r=4:=by omega
 have aJ:=Hd Z
 have aE:decide ((r:Int)<4)=false:=by simp;omega
 have a2:=Hd I.out.len
 clear Z hcc j
 go_wp2_with fail
 refine (oG A m c _ _ I.out.ints (by omega)).mono ?_
 rintro e w9 ⟨A9,c9,rfl,⟨ys,oy,py,sy⟩,b9⟩
 have HY:=Hd oy
 have aC:=Hd (aA aW.out (aA J.out b9))
 have HE:=Hd (R.out ys (by rw [aJ.out] at py;unfold jl;rw [if_neg (by omega),List.nil_append];exact py) sy)
 clear oy py sy b9
 go_wp2_with fail
 go_ret
 exact ⟨A9,m,c9,rfl,by rw [←HE.out];exact HY.out.more (by omega),aC.out⟩
theorem vk (d:Dev) (n:Int) (w:World) (az:bQ d n=true) (h7:7<=n % aV d) :
  Calls Tryz.prog 146 #[.agg (dv d),.int .i64 n] w fun e w'=>∃A m c,e = .returned (.slice A m c)/\Own w.heap.size w' A m c (fe d n)/\Below w.heap.size w w':=by
 have bt:=Hd (aB (Below.refl w.heap.size w) (.cells (dv d) 36))
 have aQ:fP d n=true:=by unfold bQ at az;rw [Bool.and_eq_true] at az;exact az.1
 have ar:=Hd (lW aQ)
 obtain ⟨hd,n0,n1,cB,cr,co,bW⟩:=il aQ
 have hT:=ay hd
 have hp:=eP hd
 have cE:=fJ hd
 have HD:=Hd hd
 have aG:=Hd (fun l hp hs=>uD (l:=l) az (by omega) hp hs)
 have bs:Hid (∀w,Calls Tryz.prog 207 #[.agg (dv d),.int .i64 n] w fun e w'=>e = .returned (.bool true)/\Below w.heap.size w w'):=fun w=>by have h:=iy d n w;rwa [az] at h
 have e0:¬aV d=0:=by omega
 have e1:n.tmod (aV d)=n % aV d:=Int.tmod_eq_emod_of_nonneg n0
 have e2:IntKind.i64.wrap (n.tdiv (aV d))=n / aV d:=IntWalk.i64_quo _ _ ⟨n0,by omega,by omega⟩
 have aD:=Hd (fun r k s=>AR (d:=d) (pin:=n % aV d) h7 r k s)
 have bS:=Hd (fun w=>tZ d n w aQ h7)
 clear az aQ hd
 go_enter Tryz.func146,Tryz.ntmps146
 go_wp2_with fail
 refine (bs.out _).mono ?_
 rintro e w1 ⟨rfl,b1⟩
 have N1:=Hd ((Own.newAt (w:=(w.alloc (.cells (dv d) 36))) (base:=(w.alloc (.cells (dv d) 36)).heap.size) (g:=w.heap.size+1) (by simp) (by simp)).below b1)
 have bn:=Hd (aA (aB (Below.refl _ _) _) b1:Below (w.alloc (.cells (dv d) 36)).heap.size (w.alloc (.cells (dv d) 36)) w1)
 have bH:=b1.size
 simp only [World.size_alloc] at bH
 clear b1
 obtain ⟨hcc,q⟩:=bG bn.out
 go_wp2_with fail
 refine (eH d _ (by omega) (by omega)).mono ?_
 rintro e w2 ⟨rfl,b2⟩
 have R:=Hd (aA bn.out b2)
 have N2:=Hd (N1.out.below b2)
 have aO:=b2.size
 clear b2 hcc q
 obtain ⟨hcc,q⟩:=bG R.out
 go_wp2_with fail
 refine (eH d _ (by omega) (by omega)).mono ?_
 rintro e w3 ⟨rfl,b3⟩
 have bu:=Hd (aA R.out b3)
 have N3:=Hd (N2.out.below b3)
 have cH:=b3.size
 clear b3 hcc q
 obtain ⟨hcc,q⟩:=bG bu.out
 generalize n % aV d=pin at *
 generalize n / aV d=t at *
 clear bs
 have br:7<=pin:=h7
 have cv:decide (pin≥7)=true:=by simp;omega
 have ck:(pin==5)=false:=by simp;omega
 have cC:(pin==6)=false:=by simp;omega
 have cj:=Int.ediv_nonneg (show 0<=pin - 7 by omega) (show 0<=d.T by omega)
 have cx:=Int.emod_nonneg (pin - 7) (show d.T≠0 by omega)
 have ch:=Int.emod_lt_of_pos (pin - 7) (show 0<d.T by omega)
 have cn:(pin - 7) / d.T<=3:=by
  have:(pin - 7) / d.T<4:=Int.ediv_lt_of_lt_mul (by omega) (by unfold aV at bW;omega)
  omega
 go_wp2_with fail
 refine (bS.out _).mono ?_
 rintro e w4 ⟨rfl,b4⟩
 have bo:=Hd (aA bu.out b4)
 have N4:=Hd (N3.out.below b4)
 have cG:=b4.size
 clear b4 hcc q e0 e1 e2
 obtain ⟨hcc,q⟩:=bG bo.out
 generalize (pin - 7) / d.T=a8 at *
 generalize (pin - 7) % d.T=j at *
 have e0:¬d.T=0:=by omega
 have e6:(j+1).tmod d.T=(j+1) % d.T:=Int.tmod_eq_emod_of_nonneg (by omega)
 have cA:=Int.emod_nonneg (a8+2) (show (4:Int)≠0 by omega)
 generalize ho:(a8+2) % 4=o at *
 have cD:=Hd ho
 have e7:(a8+2).tmod 4=o:=by rw [Int.tmod_eq_emod_of_nonneg (by omega),ho]
 clear ho
 generalize (j+1) % d.T=U at *
 go_wp2_with fail
 refine (tY d t 0 _ ar.out (by omega) (by omega)).mono ?_
 rintro e w5 ⟨rfl,b5⟩
 have bq:=Hd (aA bo.out b5)
 have N5:=Hd (N4.out.below b5)
 have cy:=b5.size
 clear b5 hcc q
 obtain ⟨hcc,q⟩:=bG bq.out
 have aM:Hid (jC d t=if eF (bL d t)>1 then [eX d t 0,eX d t 1] else [eX d t 0]):=rfl
 generalize eX d t 0=X0 at *
 go_wp2_with (at_builtin;refine gD rfl _ _ rfl (w.alloc (.cells (dv d) 36)).heap.size _ 0 0 [] X0 rfl N5.out rfl (by omega) (by simp;omega) bq.out ?_;rintro g6 c6 w6 o6 b6 - -;rw [List.nil_append] at o6;have bR:=Hd b6;have N6:=Hd o6;have bP:=b6.size;(try simp only [World.size_alloc] at bP);clear hcc q;obtain ⟨hcc,q⟩:=bG b6;clear o6 b6)
 refine (iA d t _ ar.out).mono ?_
 rintro e w7 ⟨rfl,b7⟩
 have bd:=Hd (aA bR.out b7)
 have N7:=Hd (N6.out.below b7)
 have cg:=b7.size
 clear b7 hcc q
 obtain ⟨hcc,q⟩:=bG bd.out
 have bZ:=iZ d t
 generalize bL d t=K at *
 have HC:Hid (∀w,Calls Tryz.prog 233 #[.int .i64 K] w fun e w'=>e = .returned (.int .i64 (eF K))/\w=w'):=fun w=>ky K w
 generalize eF K=Q at *
 rcases bZ with rfl|rfl
 ·have aJ:Hid (jC d t=[X0]):=by show _=_;rw [aM.out];rfl
  clear aM
  go_wp2_with (go_at_call 233;refine (HC.out _).mono ?_;rintro e w' ⟨rfl,rfl⟩)
  have NS:Hid (Own (w.alloc (.cells (dv d) 36)).heap.size w7 (some ⟨g6,0,none⟩) 1 c6 (jC d t)):=by show Own _ _ _ _ _ _;rw [aJ.out];exact N7.out
  have aT:=bd
  clear hcc q
  go_loopw [5,10] (fun v i wr=>∃(r:Nat) (A:Option Addr) (m c:Nat),r<=4/\i = .int .i64 r/\v = .slice A m c/\m<=2+8 * r/\Own (w.alloc (.cells (dv d) 36)).heap.size wr A m c (jC d t++iH d t pin r)/\Below (w.alloc (.cells (dv d) 36)).heap.size (w.alloc (.cells (dv d) 36)) wr) (fun _ i _=>4 - (intOf i).toNat)
  ·exact ⟨0,_,_,_,by omega,rfl,rfl,by omega,by simpa [iH] using NS.out,aT.out⟩
  obtain ⟨r,A,m,c,hr,rfl,rfl,hn,ho,D⟩:=hrel
  obtain ⟨G,I⟩:=hd2 ho D
  have hs:=D.size
  simp only [World.size_alloc] at hs
  obtain ⟨hcc,q⟩:=bG D
  clear ho D
  by_cases b0:r<4
  ·have a3:decide ((r:Int)<4)=true:=by simp;omega
   have a6:=Hd (nT d t pin r)
   clear hcc q
   go_wp2_with fail
   go_loopw [5,11] (fun v i wr=>∃(k:Nat) (A:Option Addr) (m c:Nat),(k:Int)<=d.T/\i = .int .i64 k/\v = .slice A m c/\m<=2+8 * r+2 * k/\Own (w.alloc (.cells (dv d) 36)).heap.size wr A m c (jC d t++iH d t pin r++jF d t pin (r:Int) k)/\Below (w.alloc (.cells (dv d) 36)).heap.size (w.alloc (.cells (dv d) 36)) wr) (fun _ i _=>d.T.toNat - (intOf i).toNat)
   ·exact ⟨0,A,m,c,by omega,rfl,rfl,by omega,by simpa [jF] using G.out,I.out⟩
   obtain ⟨k,A,m,c,hk,rfl,rfl,hn,ho,D⟩:=hrel
   obtain ⟨G,I⟩:=hd2 ho D
   have hs:=D.size
   simp only [World.size_alloc] at hs
   obtain ⟨hcc,q⟩:=bG D
   have aj:=Hd (nS d t pin (r:Int) k)
   clear ho D
   by_cases a2:(k:Int)<d.T
   ·have a9:decide ((k:Int)<d.T)=true:=by simpa using a2
    have hL:bg (k:Int)=1+(k:Int) % 2:=rfl
    have bM:1<=bg (k:Int)/\bg (k:Int)<=2:=by rw [hL];omega
    have HL:=Hd hL.symm
    have V:=fun s=>Hd (nR d t pin (r:Int) (k:Int) s)
    clear hL
    have H:=aD.out (r:Int) (k:Int)
    have H:=Hd H
    by_cases Z:(r:Int)=o∨(¬(k:Int)=j/\¬(k:Int)=U)
    ·have ak:=Hd (rM (d:=d) (t:=t) (pin:=pin) (r:=(r:Int)) (k:=(k:Int)) (s:=(bg (k:Int)).toNat) (fun s=>by rw [H.out];simp;omega))
     have ai:(r:Int)=o∨(¬(r:Int)=o/\¬(k:Int)=j/\¬(k:Int)=U):=by omega
     clear Z
     rcases ai with h|⟨h1,h2,h3⟩
     ·have q1:((r:Int)==o)=true:=by simpa using h
      clear h
      go_wp2_with fail
      go_roundw
      ·exact ⟨k+1,A,m,c,by omega,by go_num,rfl,by omega,by rw [aj.out,ak.out,List.append_nil];exact G.out,I.out⟩
      simp [intOf];omega
     have q1:((r:Int)==o)=false:=by simpa using h1
     have q2:((k:Int)==j)=false:=by simpa using h2
     have aH:((k:Int) != j)=true:=by simpa using h2
     have q3:((k:Int)==U)=false:=by simpa using h3
     have bh:((k:Int) != U)=true:=by simpa using h3
     clear h1 h2 h3
     go_wp2_with fail
     go_roundw
     ·exact ⟨k+1,A,m,c,by omega,by go_num,rfl,by omega,by rw [aj.out,ak.out,List.append_nil];exact G.out,I.out⟩
     simp [intOf];omega
    have ai:(¬(r:Int)=o/\(k:Int)=j)∨(¬(r:Int)=o/\¬(k:Int)=j/\(k:Int)=U):=by omega
    have ag:Hid (∀s,mG d pin (r:Int) (k:Int) s=decide (s=bg (k:Int))):=by
     intro s
     rw [H.out,decide_eq_true (show (r:Int)≠o by omega)]
     rcases ai with h|h
     ·rw [decide_eq_true h.2];simp
     rw [decide_eq_true h.2.2];simp
    clear H Z
    rcases ai with ⟨h1,h2⟩|⟨h1,h2,h3⟩
    ·have q1:((r:Int)==o)=false:=by simpa using h1
     have q2:((k:Int)==j)=true:=by simpa using h2
     have aH:((k:Int) != j)=false:=by simpa using h2
     clear h1 h2
     go_wp2_with fail
     go_loopw [5,12] (fun v i wr=>∃(s:Nat) (A:Option Addr) (m c:Nat),(s:Int)<=bg (k:Int)/\i = .int .i64 ((s:Int)+1)/\v = .slice A m c/\m<=2+8 * r+2 * k+s/\Own (w.alloc (.cells (dv d) 36)).heap.size wr A m c (jC d t++iH d t pin r++jF d t pin (r:Int) k++iQ d t pin (r:Int) (k:Int) s)/\Below (w.alloc (.cells (dv d) 36)).heap.size (w.alloc (.cells (dv d) 36)) wr) (fun _ i _=>4 - (intOf i).toNat)
     ·exact ⟨0,A,m,c,by omega,rfl,rfl,by omega,by simpa [iQ] using G.out,I.out⟩
     obtain ⟨s,A,m,c,bc,rfl,rfl,hn,ho,D⟩:=hrel
     obtain ⟨G,I⟩:=hd2 ho D
     have hs:=D.size
     simp only [World.size_alloc] at hs
     clear hcc q
     obtain ⟨hcc,q⟩:=bG D
     clear ho D
     have hZ:1+(k:Int) % 2=bg (k:Int):=HL.out
     by_cases B:(s:Int)+1<=bg (k:Int)
     ·have aE:=B
      rw [←hZ] at B
      have au:decide ((s:Int)+1<=1+(k:Int) % 2)=true:=by simpa using B
      clear hZ
      have z:(s:Int)+1<1+(k:Int) % 2∨¬(s:Int)+1<1+(k:Int) % 2:=by omega
      rcases z with z|z
      ·have Y:decide ((s:Int)+1<1+(k:Int) % 2)=true:=by simpa using z
       have u:=Hd (oD (t:=t) ((ag.out ((s:Int)+1)).trans (decide_eq_false (by have:=HL.out;omega))))
       clear hcc q
       go_wp2_with fail
       go_roundw
       ·exact ⟨s+1,A,m,c,by omega,by go_num,rfl,by omega,by rw [(V s).out,u.out,List.append_nil];exact G.out,I.out⟩
       simp [intOf];omega
      have Y:decide ((s:Int)+1<1+(k:Int) % 2)=false:=by simp;omega
      have u:=Hd (nN (t:=t) ((ag.out ((s:Int)+1)).trans (decide_eq_true (by have:=HL.out;omega))))
      generalize hP:ax d t (((r:Int)+2) % 4) ((s:Int)+1)=P at *
      have HP:=Hd hP
      have aq:=kL (d:=d) (t:=t) (r:=((r:Int)+2) % 4) (s:=(s:Int)+1) HD.out
      rw [hP] at aq
      clear hP
      generalize hC:jk d t (r:Int) (k:Int) ((s:Int)+1)=C at *
      have HC:Hid (∀w,Calls Tryz.prog 234 #[.agg (dv d),.int .i64 P,.int .i64 (r:Int),.int .i64 (k:Int)] w fun e w'=>e = .returned (.int .i64 C)/\Below w.heap.size w w'):=fun w=>by
       have h:=j6 d P (r:Int) (k:Int) w HD.out (by omega) (by omega) (by omega) (by omega) (by omega)
       rwa [show d9 d P (r:Int) (k:Int)=C from by rw [←hC,jk,HP.out]] at h
      have al:Hid (∀w,Calls Tryz.prog 230 #[.agg (dv d),.int .i64 t,.int .i64 (((r:Int)+2) % 4),.int .i64 ((s:Int)+1)] w fun e w'=>e = .returned (.int .i64 P)/\Below w.heap.size w w'):=fun w=>by
       have h:=iW d t (((r:Int)+2) % 4) ((s:Int)+1) w ar.out (by omega) (by omega) (by omega) (by omega)
       rwa [HP.out] at h
      have a1:=Hd hC
      clear hC
      have e3:((r:Int)+2).tmod 4=((r:Int)+2) % 4:=Int.tmod_eq_emod_of_nonneg (by omega)
      have e4:IntKind.i64.wrap ((r:Int)+2)=(r:Int)+2:=IntWalk.i64_in _ (by omega)
      have aU:w.heap.size<wr.heap.size:=by omega
      go_wp2_with fail
      have ad:=aY wr
      have ap:=aP wr
      refine wpB wr ?_
      repeat (go_big_quiet_step ((first
       | (go_at_call 230;with_reducible exact aN (al.out _))
       | (go_at_call 234;with_reducible exact aN (HC.out _)))))
      refine wpQuiet_nil ?_
      rintro _ ⟨⟨w2,hD⟩,rfl⟩
      clear ad ap hcc q e3 e4
      have R:=Hd (aA I.out hD)
      have ae:=Hd (G.out.below hD)
      have aO:=hD.size
      clear hD
      by_cases aW:C≥0
      ·have J:=Hd (kP (x:=C) (by omega))
       go_wp2_with (at_builtin;refine gD rfl _ _ rfl (w.alloc (.cells (dv d) 36)).heap.size A m c _ C rfl ae.out rfl (by omega) (by simp;omega) R.out ?_;rintro g4 c4 w4 o4 b4 - -)
       go_roundw
       ·exact ⟨s+1,_,m+1,c4,by omega,by go_num,rfl,by omega,by rw [(V s).out,u.out,J.out,←List.append_assoc];exact o4,b4⟩
       simp [intOf];omega
      have J:=Hd (lS (x:=C) (by omega))
      go_wp2_with fail
      go_roundw
      ·exact ⟨s+1,A,m,c,by omega,by go_num,rfl,by omega,by rw [(V s).out,u.out,J.out,List.append_nil];exact ae.out,R.out⟩
      simp [intOf];omega
     have W:(bg (k:Int)).toNat=s:=by omega
     have av:=Hd W
     rw [←hZ] at B
     have au:decide ((s:Int)+1<=1+(k:Int) % 2)=false:=by simp;omega
     clear W hZ
     go_wp2_with fail
     go_roundw
     ·exact ⟨k+1,A,m,c,by omega,by go_num,rfl,by omega,by rw [aj.out,av.out,←List.append_assoc];exact G.out,I.out⟩
     simp [intOf];omega
    have q1:((r:Int)==o)=false:=by simpa using h1
    have q2:((k:Int)==j)=false:=by simpa using h2
    have aH:((k:Int) != j)=true:=by simpa using h2
    have q3:((k:Int)==U)=true:=by simpa using h3
    have bh:((k:Int) != U)=false:=by simpa using h3
    clear h1 h2 h3
    go_wp2_with fail
    go_loopw [5,12] (fun v i wr=>∃(s:Nat) (A:Option Addr) (m c:Nat),(s:Int)<=bg (k:Int)/\i = .int .i64 ((s:Int)+1)/\v = .slice A m c/\m<=2+8 * r+2 * k+s/\Own (w.alloc (.cells (dv d) 36)).heap.size wr A m c (jC d t++iH d t pin r++jF d t pin (r:Int) k++iQ d t pin (r:Int) (k:Int) s)/\Below (w.alloc (.cells (dv d) 36)).heap.size (w.alloc (.cells (dv d) 36)) wr) (fun _ i _=>4 - (intOf i).toNat)
    ·exact ⟨0,A,m,c,by omega,rfl,rfl,by omega,by simpa [iQ] using G.out,I.out⟩
    obtain ⟨s,A,m,c,bc,rfl,rfl,hn,ho,D⟩:=hrel
    obtain ⟨G,I⟩:=hd2 ho D
    have hs:=D.size
    simp only [World.size_alloc] at hs
    clear hcc q
    obtain ⟨hcc,q⟩:=bG D
    clear ho D
    have hZ:1+(k:Int) % 2=bg (k:Int):=HL.out
    by_cases B:(s:Int)+1<=bg (k:Int)
    ·have aE:=B
     rw [←hZ] at B
     have au:decide ((s:Int)+1<=1+(k:Int) % 2)=true:=by simpa using B
     clear hZ
     have z:(s:Int)+1<1+(k:Int) % 2∨¬(s:Int)+1<1+(k:Int) % 2:=by omega
     rcases z with z|z
     ·have Y:decide ((s:Int)+1<1+(k:Int) % 2)=true:=by simpa using z
      have u:=Hd (oD (t:=t) ((ag.out ((s:Int)+1)).trans (decide_eq_false (by have:=HL.out;omega))))
      clear hcc q
      go_wp2_with fail
      go_roundw
      ·exact ⟨s+1,A,m,c,by omega,by go_num,rfl,by omega,by rw [(V s).out,u.out,List.append_nil];exact G.out,I.out⟩
      simp [intOf];omega
     have Y:decide ((s:Int)+1<1+(k:Int) % 2)=false:=by simp;omega
     have u:=Hd (nN (t:=t) ((ag.out ((s:Int)+1)).trans (decide_eq_true (by have:=HL.out;omega))))
     generalize hP:ax d t (((r:Int)+2) % 4) ((s:Int)+1)=P at *
     have HP:=Hd hP
     have aq:=kL (d:=d) (t:=t) (r:=((r:Int)+2) % 4) (s:=(s:Int)+1) HD.out
     rw [hP] at aq
     clear hP
     generalize hC:jk d t (r:Int) (k:Int) ((s:Int)+1)=C at *
     have HC:Hid (∀w,Calls Tryz.prog 234 #[.agg (dv d),.int .i64 P,.int .i64 (r:Int),.int .i64 (k:Int)] w fun e w'=>e = .returned (.int .i64 C)/\Below w.heap.size w w'):=fun w=>by
      have h:=j6 d P (r:Int) (k:Int) w HD.out (by omega) (by omega) (by omega) (by omega) (by omega)
      rwa [show d9 d P (r:Int) (k:Int)=C from by rw [←hC,jk,HP.out]] at h
     have al:Hid (∀w,Calls Tryz.prog 230 #[.agg (dv d),.int .i64 t,.int .i64 (((r:Int)+2) % 4),.int .i64 ((s:Int)+1)] w fun e w'=>e = .returned (.int .i64 P)/\Below w.heap.size w w'):=fun w=>by
      have h:=iW d t (((r:Int)+2) % 4) ((s:Int)+1) w ar.out (by omega) (by omega) (by omega) (by omega)
      rwa [HP.out] at h
     have a1:=Hd hC
     clear hC
     have e3:((r:Int)+2).tmod 4=((r:Int)+2) % 4:=Int.tmod_eq_emod_of_nonneg (by omega)
     have e4:IntKind.i64.wrap ((r:Int)+2)=(r:Int)+2:=IntWalk.i64_in _ (by omega)
     have aU:w.heap.size<wr.heap.size:=by omega
     go_wp2_with fail
     have ad:=aY wr
     have ap:=aP wr
     refine wpB wr ?_
     repeat (go_big_quiet_step ((first
      | (go_at_call 230;with_reducible exact aN (al.out _))
      | (go_at_call 234;with_reducible exact aN (HC.out _)))))
     refine wpQuiet_nil ?_
     rintro _ ⟨⟨w2,hD⟩,rfl⟩
     clear ad ap hcc q e3 e4
     have R:=Hd (aA I.out hD)
     have ae:=Hd (G.out.below hD)
     have aO:=hD.size
     clear hD
     by_cases aW:C≥0
     ·have J:=Hd (kP (x:=C) (by omega))
      go_wp2_with (at_builtin;refine gD rfl _ _ rfl (w.alloc (.cells (dv d) 36)).heap.size A m c _ C rfl ae.out rfl (by omega) (by simp;omega) R.out ?_;rintro g4 c4 w4 o4 b4 - -)
      go_roundw
      ·exact ⟨s+1,_,m+1,c4,by omega,by go_num,rfl,by omega,by rw [(V s).out,u.out,J.out,←List.append_assoc];exact o4,b4⟩
      simp [intOf];omega
     have J:=Hd (lS (x:=C) (by omega))
     go_wp2_with fail
     go_roundw
     ·exact ⟨s+1,A,m,c,by omega,by go_num,rfl,by omega,by rw [(V s).out,u.out,J.out,List.append_nil];exact ae.out,R.out⟩
     simp [intOf];omega
    have W:(bg (k:Int)).toNat=s:=by omega
    have av:=Hd W
    rw [←hZ] at B
    have au:decide ((s:Int)+1<=1+(k:Int) % 2)=false:=by simp;omega
    clear W hZ
    go_wp2_with fail
    go_roundw
    ·exact ⟨k+1,A,m,c,by omega,by go_num,rfl,by omega,by rw [aj.out,av.out,←List.append_assoc];exact G.out,I.out⟩
    simp [intOf];omega
   have aF:d.T=(k:Int):=by omega
   have aX:=Hd aF
   have a9:decide ((k:Int)<d.T)=false:=by simp;omega
   clear aF
   go_wp2_with fail
   go_roundw
   ·exact ⟨r+1,A,m,c,by omega,by go_num,rfl,by omega,by rw [a6.out,show d.T.toNat=k by have:=aX.out;omega,←List.append_assoc];exact G.out,I.out⟩
   simp [intOf];omega
  have aI:r=4:=by omega
  have a5:=Hd aI
  have a3:decide ((r:Int)<4)=false:=by simp;omega
  have bm:=Hd G.out.len
  clear aI hcc q
  go_wp2_with fail
  refine (oG A m c _ _ G.out.ints (by omega)).mono ?_
  rintro e w9 ⟨A9,c9,rfl,⟨ys,oy,py,sy⟩,b9⟩
  have HY:=Hd oy
  have a0:=Hd (aA bt.out (aA I.out b9))
  have HE:=Hd (aG.out ys (by rw [a5.out] at py;unfold jl;rw [if_pos br];exact py) sy)
  clear oy py sy b9
  go_wp2_with fail
  go_ret
  exact ⟨A9,m,c9,rfl,by rw [←HE.out];exact HY.out.more (by omega),a0.out⟩
 have aJ:Hid (jC d t=[X0,eX d t 1]):=by show _=_;rw [aM.out];rfl
 clear aM
 go_wp2_with (go_at_call 233;refine (HC.out _).mono ?_;rintro e w' ⟨rfl,rfl⟩)
 refine (tY d t 1 _ ar.out (by omega) (by omega)).mono ?_
 rintro e w8 ⟨rfl,b8⟩
 have bN:=Hd (aA bd.out b8)
 have N8:=Hd (N7.out.below b8)
 have cJ:=b8.size
 clear b8 hcc q
 generalize eX d t 1=X1 at *
 go_wp2_with (at_builtin;refine gD rfl _ _ rfl (w.alloc (.cells (dv d) 36)).heap.size _ 1 c6 [X0] X1 rfl N8.out rfl (by omega) (by simp;omega) bN.out ?_;rintro g9 c9 w9 o9 b9 - -;have aT:=Hd b9;have N9:=Hd o9;clear o9 b9)
 have NS:Hid (Own (w.alloc (.cells (dv d) 36)).heap.size w9 (some ⟨g9,0,none⟩) 2 c9 (jC d t)):=by show Own _ _ _ _ _ _;rw [aJ.out];exact N9.out
 go_loopw [5,10] (fun v i wr=>∃(r:Nat) (A:Option Addr) (m c:Nat),r<=4/\i = .int .i64 r/\v = .slice A m c/\m<=2+8 * r/\Own (w.alloc (.cells (dv d) 36)).heap.size wr A m c (jC d t++iH d t pin r)/\Below (w.alloc (.cells (dv d) 36)).heap.size (w.alloc (.cells (dv d) 36)) wr) (fun _ i _=>4 - (intOf i).toNat)
 ·exact ⟨0,_,_,_,by omega,rfl,rfl,by omega,by simpa [iH] using NS.out,aT.out⟩
 obtain ⟨r,A,m,c,hr,rfl,rfl,hn,ho,D⟩:=hrel
 obtain ⟨G,I⟩:=hd2 ho D
 have hs:=D.size
 simp only [World.size_alloc] at hs
 obtain ⟨hcc,q⟩:=bG D
 clear ho D
 by_cases b0:r<4
 ·have a3:decide ((r:Int)<4)=true:=by simp;omega
  have a6:=Hd (nT d t pin r)
  clear hcc q
  go_wp2_with fail
  go_loopw [5,11] (fun v i wr=>∃(k:Nat) (A:Option Addr) (m c:Nat),(k:Int)<=d.T/\i = .int .i64 k/\v = .slice A m c/\m<=2+8 * r+2 * k/\Own (w.alloc (.cells (dv d) 36)).heap.size wr A m c (jC d t++iH d t pin r++jF d t pin (r:Int) k)/\Below (w.alloc (.cells (dv d) 36)).heap.size (w.alloc (.cells (dv d) 36)) wr) (fun _ i _=>d.T.toNat - (intOf i).toNat)
  ·exact ⟨0,A,m,c,by omega,rfl,rfl,by omega,by simpa [jF] using G.out,I.out⟩
  obtain ⟨k,A,m,c,hk,rfl,rfl,hn,ho,D⟩:=hrel
  obtain ⟨G,I⟩:=hd2 ho D
  have hs:=D.size
  simp only [World.size_alloc] at hs
  obtain ⟨hcc,q⟩:=bG D
  have aj:=Hd (nS d t pin (r:Int) k)
  clear ho D
  by_cases a2:(k:Int)<d.T
  ·have a9:decide ((k:Int)<d.T)=true:=by simpa using a2
   have hL:bg (k:Int)=1+(k:Int) % 2:=rfl
   have bM:1<=bg (k:Int)/\bg (k:Int)<=2:=by rw [hL];omega
   have HL:=Hd hL.symm
   have V:=fun s=>Hd (nR d t pin (r:Int) (k:Int) s)
   clear hL
   have H:=aD.out (r:Int) (k:Int)
   have H:=Hd H
   by_cases Z:(r:Int)=o∨(¬(k:Int)=j/\¬(k:Int)=U)
   ·have ak:=Hd (rM (d:=d) (t:=t) (pin:=pin) (r:=(r:Int)) (k:=(k:Int)) (s:=(bg (k:Int)).toNat) (fun s=>by rw [H.out];simp;omega))
    have ai:(r:Int)=o∨(¬(r:Int)=o/\¬(k:Int)=j/\¬(k:Int)=U):=by omega
    clear Z
    rcases ai with h|⟨h1,h2,h3⟩
    ·have q1:((r:Int)==o)=true:=by simpa using h
     clear h
     go_wp2_with fail
     go_roundw
     ·exact ⟨k+1,A,m,c,by omega,by go_num,rfl,by omega,by rw [aj.out,ak.out,List.append_nil];exact G.out,I.out⟩
     simp [intOf];omega
    have q1:((r:Int)==o)=false:=by simpa using h1
    have q2:((k:Int)==j)=false:=by simpa using h2
    have aH:((k:Int) != j)=true:=by simpa using h2
    have q3:((k:Int)==U)=false:=by simpa using h3
    have bh:((k:Int) != U)=true:=by simpa using h3
    clear h1 h2 h3
    go_wp2_with fail
    go_roundw
    ·exact ⟨k+1,A,m,c,by omega,by go_num,rfl,by omega,by rw [aj.out,ak.out,List.append_nil];exact G.out,I.out⟩
    simp [intOf];omega
   have ai:(¬(r:Int)=o/\(k:Int)=j)∨(¬(r:Int)=o/\¬(k:Int)=j/\(k:Int)=U):=by omega
   have ag:Hid (∀s,mG d pin (r:Int) (k:Int) s=decide (s=bg (k:Int))):=by
    intro s
    rw [H.out,decide_eq_true (show (r:Int)≠o by omega)]
    rcases ai with h|h
    ·rw [decide_eq_true h.2];simp
    rw [decide_eq_true h.2.2];simp
   clear H Z
   rcases ai with ⟨h1,h2⟩|⟨h1,h2,h3⟩
   ·have q1:((r:Int)==o)=false:=by simpa using h1
    have q2:((k:Int)==j)=true:=by simpa using h2
    have aH:((k:Int) != j)=false:=by simpa using h2
    clear h1 h2
    go_wp2_with fail
    go_loopw [5,12] (fun v i wr=>∃(s:Nat) (A:Option Addr) (m c:Nat),(s:Int)<=bg (k:Int)/\i = .int .i64 ((s:Int)+1)/\v = .slice A m c/\m<=2+8 * r+2 * k+s/\Own (w.alloc (.cells (dv d) 36)).heap.size wr A m c (jC d t++iH d t pin r++jF d t pin (r:Int) k++iQ d t pin (r:Int) (k:Int) s)/\Below (w.alloc (.cells (dv d) 36)).heap.size (w.alloc (.cells (dv d) 36)) wr) (fun _ i _=>4 - (intOf i).toNat)
    ·exact ⟨0,A,m,c,by omega,rfl,rfl,by omega,by simpa [iQ] using G.out,I.out⟩
    obtain ⟨s,A,m,c,bc,rfl,rfl,hn,ho,D⟩:=hrel
    obtain ⟨G,I⟩:=hd2 ho D
    have hs:=D.size
    simp only [World.size_alloc] at hs
    clear hcc q
    obtain ⟨hcc,q⟩:=bG D
    clear ho D
    have hZ:1+(k:Int) % 2=bg (k:Int):=HL.out
    by_cases B:(s:Int)+1<=bg (k:Int)
    ·have aE:=B
     rw [←hZ] at B
     have au:decide ((s:Int)+1<=1+(k:Int) % 2)=true:=by simpa using B
     clear hZ
     have z:(s:Int)+1<1+(k:Int) % 2∨¬(s:Int)+1<1+(k:Int) % 2:=by omega
     rcases z with z|z
     ·have Y:decide ((s:Int)+1<1+(k:Int) % 2)=true:=by simpa using z
      have u:=Hd (oD (t:=t) ((ag.out ((s:Int)+1)).trans (decide_eq_false (by have:=HL.out;omega))))
      clear hcc q
      go_wp2_with fail
      go_roundw
      ·exact ⟨s+1,A,m,c,by omega,by go_num,rfl,by omega,by rw [(V s).out,u.out,List.append_nil];exact G.out,I.out⟩
      simp [intOf];omega
     have Y:decide ((s:Int)+1<1+(k:Int) % 2)=false:=by simp;omega
     have u:=Hd (nN (t:=t) ((ag.out ((s:Int)+1)).trans (decide_eq_true (by have:=HL.out;omega))))
     generalize hP:ax d t (((r:Int)+2) % 4) ((s:Int)+1)=P at *
     have HP:=Hd hP
     have aq:=kL (d:=d) (t:=t) (r:=((r:Int)+2) % 4) (s:=(s:Int)+1) HD.out
     rw [hP] at aq
     clear hP
     generalize hC:jk d t (r:Int) (k:Int) ((s:Int)+1)=C at *
     have HC:Hid (∀w,Calls Tryz.prog 234 #[.agg (dv d),.int .i64 P,.int .i64 (r:Int),.int .i64 (k:Int)] w fun e w'=>e = .returned (.int .i64 C)/\Below w.heap.size w w'):=fun w=>by
      have h:=j6 d P (r:Int) (k:Int) w HD.out (by omega) (by omega) (by omega) (by omega) (by omega)
      rwa [show d9 d P (r:Int) (k:Int)=C from by rw [←hC,jk,HP.out]] at h
     have al:Hid (∀w,Calls Tryz.prog 230 #[.agg (dv d),.int .i64 t,.int .i64 (((r:Int)+2) % 4),.int .i64 ((s:Int)+1)] w fun e w'=>e = .returned (.int .i64 P)/\Below w.heap.size w w'):=fun w=>by
      have h:=iW d t (((r:Int)+2) % 4) ((s:Int)+1) w ar.out (by omega) (by omega) (by omega) (by omega)
      rwa [HP.out] at h
     have a1:=Hd hC
     clear hC
     have e3:((r:Int)+2).tmod 4=((r:Int)+2) % 4:=Int.tmod_eq_emod_of_nonneg (by omega)
     have e4:IntKind.i64.wrap ((r:Int)+2)=(r:Int)+2:=IntWalk.i64_in _ (by omega)
     have aU:w.heap.size<wr.heap.size:=by omega
     go_wp2_with fail
     have ad:=aY wr
     have ap:=aP wr
     refine wpB wr ?_
     repeat (go_big_quiet_step ((first
      | (go_at_call 230;with_reducible exact aN (al.out _))
      | (go_at_call 234;with_reducible exact aN (HC.out _)))))
     refine wpQuiet_nil ?_
     rintro _ ⟨⟨w2,hD⟩,rfl⟩
     clear ad ap hcc q e3 e4
     have R:=Hd (aA I.out hD)
     have ae:=Hd (G.out.below hD)
     have aO:=hD.size
     clear hD
     by_cases aW:C≥0
     ·have J:=Hd (kP (x:=C) (by omega))
      go_wp2_with (at_builtin;refine gD rfl _ _ rfl (w.alloc (.cells (dv d) 36)).heap.size A m c _ C rfl ae.out rfl (by omega) (by simp;omega) R.out ?_;rintro g4 c4 w4 o4 b4 - -)
      go_roundw
      ·exact ⟨s+1,_,m+1,c4,by omega,by go_num,rfl,by omega,by rw [(V s).out,u.out,J.out,←List.append_assoc];exact o4,b4⟩
      simp [intOf];omega
     have J:=Hd (lS (x:=C) (by omega))
     go_wp2_with fail
     go_roundw
     ·exact ⟨s+1,A,m,c,by omega,by go_num,rfl,by omega,by rw [(V s).out,u.out,J.out,List.append_nil];exact ae.out,R.out⟩
     simp [intOf];omega
    have W:(bg (k:Int)).toNat=s:=by omega
    have av:=Hd W
    rw [←hZ] at B
    have au:decide ((s:Int)+1<=1+(k:Int) % 2)=false:=by simp;omega
    clear W hZ
    go_wp2_with fail
    go_roundw
    ·exact ⟨k+1,A,m,c,by omega,by go_num,rfl,by omega,by rw [aj.out,av.out,←List.append_assoc];exact G.out,I.out⟩
    simp [intOf];omega
   have q1:((r:Int)==o)=false:=by simpa using h1
   have q2:((k:Int)==j)=false:=by simpa using h2
   have aH:((k:Int) != j)=true:=by simpa using h2
   have q3:((k:Int)==U)=true:=by simpa using h3
   have bh:((k:Int) != U)=false:=by simpa using h3
   clear h1 h2 h3
   go_wp2_with fail
   go_loopw [5,12] (fun v i wr=>∃(s:Nat) (A:Option Addr) (m c:Nat),(s:Int)<=bg (k:Int)/\i = .int .i64 ((s:Int)+1)/\v = .slice A m c/\m<=2+8 * r+2 * k+s/\Own (w.alloc (.cells (dv d) 36)).heap.size wr A m c (jC d t++iH d t pin r++jF d t pin (r:Int) k++iQ d t pin (r:Int) (k:Int) s)/\Below (w.alloc (.cells (dv d) 36)).heap.size (w.alloc (.cells (dv d) 36)) wr) (fun _ i _=>4 - (intOf i).toNat)
   ·exact ⟨0,A,m,c,by omega,rfl,rfl,by omega,by simpa [iQ] using G.out,I.out⟩
   obtain ⟨s,A,m,c,bc,rfl,rfl,hn,ho,D⟩:=hrel
   obtain ⟨G,I⟩:=hd2 ho D
   have hs:=D.size
   simp only [World.size_alloc] at hs
   clear hcc q
   obtain ⟨hcc,q⟩:=bG D
   clear ho D
   have hZ:1+(k:Int) % 2=bg (k:Int):=HL.out
   by_cases B:(s:Int)+1<=bg (k:Int)
   ·have aE:=B
    rw [←hZ] at B
    have au:decide ((s:Int)+1<=1+(k:Int) % 2)=true:=by simpa using B
    clear hZ
    have z:(s:Int)+1<1+(k:Int) % 2∨¬(s:Int)+1<1+(k:Int) % 2:=by omega
    rcases z with z|z
    ·have Y:decide ((s:Int)+1<1+(k:Int) % 2)=true:=by simpa using z
     have u:=Hd (oD (t:=t) ((ag.out ((s:Int)+1)).trans (decide_eq_false (by have:=HL.out;omega))))
     clear hcc q
     go_wp2_with fail
     go_roundw
     ·exact ⟨s+1,A,m,c,by omega,by go_num,rfl,by omega,by rw [(V s).out,u.out,List.append_nil];exact G.out,I.out⟩
     simp [intOf];omega
    have Y:decide ((s:Int)+1<1+(k:Int) % 2)=false:=by simp;omega
    have u:=Hd (nN (t:=t) ((ag.out ((s:Int)+1)).trans (decide_eq_true (by have:=HL.out;omega))))
    generalize hP:ax d t (((r:Int)+2) % 4) ((s:Int)+1)=P at *
    have HP:=Hd hP
    have aq:=kL (d:=d) (t:=t) (r:=((r:Int)+2) % 4) (s:=(s:Int)+1) HD.out
    rw [hP] at aq
    clear hP
    generalize hC:jk d t (r:Int) (k:Int) ((s:Int)+1)=C at *
    have HC:Hid (∀w,Calls Tryz.prog 234 #[.agg (dv d),.int .i64 P,.int .i64 (r:Int),.int .i64 (k:Int)] w fun e w'=>e = .returned (.int .i64 C)/\Below w.heap.size w w'):=fun w=>by
     have h:=j6 d P (r:Int) (k:Int) w HD.out (by omega) (by omega) (by omega) (by omega) (by omega)
     rwa [show d9 d P (r:Int) (k:Int)=C from by rw [←hC,jk,HP.out]] at h
    have al:Hid (∀w,Calls Tryz.prog 230 #[.agg (dv d),.int .i64 t,.int .i64 (((r:Int)+2) % 4),.int .i64 ((s:Int)+1)] w fun e w'=>e = .returned (.int .i64 P)/\Below w.heap.size w w'):=fun w=>by
     have h:=iW d t (((r:Int)+2) % 4) ((s:Int)+1) w ar.out (by omega) (by omega) (by omega) (by omega)
     rwa [HP.out] at h
    have a1:=Hd hC
    clear hC
    have e3:((r:Int)+2).tmod 4=((r:Int)+2) % 4:=Int.tmod_eq_emod_of_nonneg (by omega)
    have e4:IntKind.i64.wrap ((r:Int)+2)=(r:Int)+2:=IntWalk.i64_in _ (by omega)
    have aU:w.heap.size<wr.heap.size:=by omega
    go_wp2_with fail
    have ad:=aY wr
    have ap:=aP wr
    refine wpB wr ?_
    repeat (go_big_quiet_step ((first
     | (go_at_call 230;with_reducible exact aN (al.out _))
     | (go_at_call 234;with_reducible exact aN (HC.out _)))))
    refine wpQuiet_nil ?_
    rintro _ ⟨⟨w2,hD⟩,rfl⟩
    clear ad ap hcc q e3 e4
    have R:=Hd (aA I.out hD)
    have ae:=Hd (G.out.below hD)
    have aO:=hD.size
    clear hD
    by_cases aW:C≥0
    ·have J:=Hd (kP (x:=C) (by omega))
     go_wp2_with (at_builtin;refine gD rfl _ _ rfl (w.alloc (.cells (dv d) 36)).heap.size A m c _ C rfl ae.out rfl (by omega) (by simp;omega) R.out ?_;rintro g4 c4 w4 o4 b4 - -)
     go_roundw
     ·exact ⟨s+1,_,m+1,c4,by omega,by go_num,rfl,by omega,by rw [(V s).out,u.out,J.out,←List.append_assoc];exact o4,b4⟩
     simp [intOf];omega
    have J:=Hd (lS (x:=C) (by omega))
    go_wp2_with fail
    go_roundw
    ·exact ⟨s+1,A,m,c,by omega,by go_num,rfl,by omega,by rw [(V s).out,u.out,J.out,List.append_nil];exact ae.out,R.out⟩
    simp [intOf];omega
   have W:(bg (k:Int)).toNat=s:=by omega
   have av:=Hd W
   rw [←hZ] at B
   have au:decide ((s:Int)+1<=1+(k:Int) % 2)=false:=by simp;omega
   clear W hZ
   go_wp2_with fail
   go_roundw
   ·exact ⟨k+1,A,m,c,by omega,by go_num,rfl,by omega,by rw [aj.out,av.out,←List.append_assoc];exact G.out,I.out⟩
   simp [intOf];omega
  have aF:d.T=(k:Int):=by omega
  have aX:=Hd aF
  have a9:decide ((k:Int)<d.T)=false:=by simp;omega
  clear aF
  go_wp2_with fail
  go_roundw
  ·exact ⟨r+1,A,m,c,by omega,by go_num,rfl,by omega,by rw [a6.out,show d.T.toNat=k by have:=aX.out;omega,←List.append_assoc];exact G.out,I.out⟩
  simp [intOf];omega
 have aI:r=4:=by omega
 have a5:=Hd aI
 have a3:decide ((r:Int)<4)=false:=by simp;omega
 have bm:=Hd G.out.len
 clear aI hcc q
 go_wp2_with fail
 refine (oG A m c _ _ G.out.ints (by omega)).mono ?_
 rintro e w9 ⟨A9,c9,rfl,⟨ys,oy,py,sy⟩,b9⟩
 have HY:=Hd oy
 have a0:=Hd (aA bt.out (aA I.out b9))
 have HE:=Hd (aG.out ys (by rw [a5.out] at py;unfold jl;rw [if_pos br];exact py) sy)
 clear oy py sy b9
 go_wp2_with fail
 go_ret
 exact ⟨A9,m,c9,rfl,by rw [←HE.out];exact HY.out.more (by omega),a0.out⟩
theorem qp (d:Dev) (n:Int) (w:World) (h:bQ d n=false∨(bQ d n=true/\(n % aV d=5∨n % aV d=6))) :
  Calls Tryz.prog 146 #[.agg (dv d),.int .i64 n] w fun e w'=>∃A m c,e = .returned (.slice A m c)/\Own w.heap.size w' A m c (fe d n)/\Below w.heap.size w w':=by
 have G:=Hd (aB (Below.refl w.heap.size w) (.cells (dv d) 36))
 rcases h with j|⟨j,h5⟩
 ·have V:=Hd (Bj j)
  have B:Hid (∀w,Calls Tryz.prog 207 #[.agg (dv d),.int .i64 n] w fun e w'=>e = .returned (.bool false)/\Below w.heap.size w w'):=fun w=>by have h:=iy d n w;rwa [j] at h
  clear j
  go_enter Tryz.func146,Tryz.ntmps146
  go_wp2_with fail
  refine (B.out _).mono ?_
  rintro e Y ⟨rfl,u⟩
  have R:=Hd ((Own.newAt (w:=(w.alloc (.cells (dv d) 36))) (base:=(w.alloc (.cells (dv d) 36)).heap.size) (g:=w.heap.size+1) (by simp) (by simp)).below u)
  have q:=Hd (aA (aB G.out _) u)
  clear u
  go_wp2_with fail
  go_ret
  exact ⟨_,0,0,rfl,by rw [V.out];exact R.out.more (by simp),q.out⟩
 have V:=Hd (zF h5)
 have H:fP d n=true:=by unfold bQ at j;rw [Bool.and_eq_true] at j;exact j.1
 obtain ⟨I,W,n1,ad,ae,ak,ag⟩:=il H
 have hT:=ay I
 have hp:=eP I
 have ah:=fJ I
 have B:Hid (∀w,Calls Tryz.prog 207 #[.agg (dv d),.int .i64 n] w fun e w'=>e = .returned (.bool true)/\Below w.heap.size w w'):=fun w=>by have h:=iy d n w;rwa [j] at h
 have e0:¬aV d=0:=by omega
 have e1:n.tmod (aV d)=n % aV d:=Int.tmod_eq_emod_of_nonneg W
 have e2:IntKind.i64.wrap (n.tdiv (aV d))=n / aV d:=IntWalk.i64_quo _ _ ⟨W,by omega,by omega⟩
 clear j H I
 go_enter Tryz.func146,Tryz.ntmps146
 go_wp2_with fail
 refine (B.out _).mono ?_
 rintro e Y ⟨rfl,u⟩
 have R:=Hd ((Own.newAt (w:=(w.alloc (.cells (dv d) 36))) (base:=(w.alloc (.cells (dv d) 36)).heap.size) (g:=w.heap.size+1) (by simp) (by simp)).below u)
 have q:=Hd (aA (aB (Below.refl _ _) _) u:Below (w.alloc (.cells (dv d) 36)).heap.size (w.alloc (.cells (dv d) 36)) Y)
 have K:=u.size
 simp only [World.size_alloc] at K
 clear u
 obtain ⟨hcc,z⟩:=bG q.out
 go_wp2_with fail
 refine (eH d _ (by omega) (by omega)).mono ?_
 rintro e w2 ⟨rfl,J⟩
 have D:=Hd (aA q.out J)
 have Z:=Hd (R.out.below J)
 have aj:=J.size
 clear J hcc z
 obtain ⟨hcc,z⟩:=bG D.out
 go_wp2_with fail
 refine (eH d _ (by omega) (by omega)).mono ?_
 rintro e w3 ⟨rfl,U⟩
 have Q:=Hd (aA G.out (aA D.out U))
 have N3:=Hd (Z.out.below U)
 clear U hcc z
 generalize n % aV d=pin at *
 have h2:((pin==5)=true)∨((pin==5)=false/\(pin==6)=true):=by
  rcases h5 with h|h
  ·exact .inl (by simpa using h)
  exact .inr ⟨by simp;omega,by simpa using h⟩
 clear h5
 rcases h2 with q5|⟨q5,q6⟩
 all_goals
  go_wp2_with fail
  go_ret
  exact ⟨_,0,0,rfl,by rw [V.out];exact N3.out.more (by simp),Q.out⟩
theorem r9 (d:Dev) (n:Int) (w:World) :
  Calls Tryz.prog 146 #[.agg (dv d),.int .i64 n] w fun e w'=>∃A m c,e = .returned (.slice A m c)/\Own w.heap.size w' A m c (fe d n)/\Below w.heap.size w w':=by
 cases g:bQ d n with
 | false=>exact qp d n w (.inl g)
 | true =>
  by_cases h5:n % aV d=5∨n % aV d=6
  ·exact qp d n w (.inr ⟨g,h5⟩)
  rcases Int.lt_or_le (n % aV d) 5 with h|h
  ·exact xR d n w g h
  exact vk d n w g (by omega)
end Go.Proofs.YtofihjoanjkdmaaGreat
