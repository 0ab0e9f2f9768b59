/- Pins and wires as nodes, which nodes exist: the reference's functions. -/
import Derived.Test.YtofihjoanjkdmaaGreatRtS
import Derived.Test.YtofihjoanjkdmaaGreatRtS3
namespace Go.Proofs.YtofihjoanjkdmaaGreat
set_option maxHeartbeats 8000000
set_option maxRecDepth 100000
open Go.RowKit
theorem tY (d:Dev) (t p:Int) (w:World) (ht:az d t=true) (ai:0<=p) (ag:p<=10) :
  Calls Tryz.prog 209 #[.agg (dv d),.int .i64 t,.int .i64 p] w fun e w'=>e = .returned (.int .i64 (ed d t p))/\Below w.heap.size w w':=by
 have B:Hid (ed d t p=if az d t=true/\0<=p/\p<eQ (bH d t) then t * aQ d+5+p else -1):=rfl
 obtain ⟨j,D,af⟩:=aV.1 ht
 have W:=fM j
 have hT:=ay j
 have Y:=eT j
 have G:=iR d t
 have HM:=Hd (jc D (show t<=35 by omega) (show 0<=aQ d by omega) Y.2)
 have J:=Hd ht
 have Z:decide (p<0)=false:=by simp;omega
 clear ht j
 go_enter Tryz.func209,Tryz.ntmps209
 go_wp2_with fail
 refine (gZ d t _ J.out).mono ?_
 rintro e w2 ⟨rfl,q⟩
 have U:=Hd (aA (aD (Below.refl _ _) _) q)
 have u:=q.size
 simp only [World.size_alloc] at u
 obtain ⟨hcc,z⟩:=bG q
 clear q
 generalize H:bH d t=K at *
 have HK:=Hd H
 clear H
 have g:∃Q,eQ K=Q:=⟨_,rfl⟩
 obtain ⟨Q,g⟩:=g
 rw [g] at G B
 have R:Hid (∀w,Calls Tryz.prog 233 #[.int .i64 K] w fun e w'=>e = .returned (.int .i64 Q)/\w=w'):=fun w=>by have:=ku K w;rwa [g] at this
 clear g
 by_cases ae:p<Q
 ·have hh:decide (p≥Q)=false:=by simp;omega
  go_wp2_with (go_at_call 233;refine (R.out _).mono ?_;rintro e w' ⟨rfl,rfl⟩)
  refine (eG d _ (by omega) (by omega)).mono ?_
  rintro e w3 ⟨rfl,I⟩
  have V:=Hd (aA U.out I)
  have hM:=HM.out
  clear I hcc z
  go_wp2_with fail
  go_ret
  exact ⟨aL (by rw [B.out,if_pos ⟨J.out,by omega,by omega⟩]),V.out⟩
 have hh:decide (p≥Q)=true:=by simp;omega
 go_wp2_with (go_at_call 233;refine (R.out _).mono ?_;rintro e w' ⟨rfl,rfl⟩)
 go_ret
 exact ⟨aL (by rw [B.out,if_neg];rintro ⟨_,h0,h1⟩;omega),U.out⟩
theorem jw (d:Dev) (t r k:Int) (w:World) (D:dZ d=true) (ak:t<=1099511627776) (q:0<=r) (j:r<=3) (ad:0<=k) (W:k<d.T) :
  Calls Tryz.prog 234 #[.agg (dv d),.int .i64 t,.int .i64 r,.int .i64 k] w fun e w'=>e = .returned (.int .i64 (eD d t r k))/\Below w.heap.size w w':=by
 have HO:Hid (eD d t r k=if az d t=true/\(0<=r/\r<=3)/\(0<=k/\k<d.T)/\0<=av d t r (bR k) then t * aQ d+7+r * d.T+k else -1):=rfl
 have hT:=ay D
 have ao:=fM D
 have hp:=eT D
 have HD:=Hd D
 clear D
 cases ht:az d t with
 | false =>
  have z:=Hd ht
  clear ht
  go_enter Tryz.func234,Tryz.ntmps234
  go_wp2_with fail
  refine (ql d t _ z.out ak).mono ?_
  rintro e w2 ⟨rfl,u⟩
  have B2:=Hd (aA (aD (Below.refl _ _) _) u)
  clear u
  go_wp2_with fail
  go_ret
  exact ⟨aL (by rw [HO.out,if_neg (by rw [z.out];simp)]),B2.out⟩
 | true =>
  obtain ⟨_,aj,ax⟩:=aV.1 ht
  have z:=Hd ht
  have hL:bR k=1+k % 2:=rfl
  have aE:1<=bR k/\bR k<=2:=by rw [hL];omega
  have HL:=Hd hL.symm
  clear ht hL
  have aB:decide (k<0)=false:=by simp;omega
  have al:decide (k≥d.T)=false:=by simp;omega
  go_enter Tryz.func234,Tryz.ntmps234
  go_wp2_with fail
  refine (gZ d t _ z.out).mono ?_
  rintro e w2 ⟨rfl,u⟩
  have au:=lN d t
  generalize bH d t=K at *
  have aH:decide (K<0)=false:=by simp;omega
  have B2:=Hd u
  have U:=u.size
  simp only [World.size_alloc] at U
  obtain ⟨hcc,G⟩:=bG u
  clear u
  go_wp2_with fail
  rw [HL.out]
  generalize ae:bR k=L at *
  generalize V:av d t r L=P at *
  have HP:=Hd V
  have HC:Hid (∀w,Calls Tryz.prog 230 #[.agg (dv d),.int .i64 t,.int .i64 r,.int .i64 L] w fun e w'=>e = .returned (.int .i64 P)/\Below w.heap.size w w'):=fun w=>by have:=iC d t r L w z.out q j (by omega) (by omega);rwa [V] at this
  clear V ae
  refine (HC.out _).mono ?_
  rintro e I ⟨rfl,Y⟩
  have J:=Hd (aA B2.out Y)
  have aq:=Y.size
  clear Y hcc G
  obtain ⟨hcc,G⟩:=bG J.out
  by_cases Z:P<0
  ·have R:decide (P<0)=true:=by simpa using Z
   go_wp2_with fail
   go_ret
   exact ⟨aL (by rw [HO.out,if_neg];rintro ⟨_,_,_,h⟩;omega),aA (aD (Below.refl _ _) _) J.out⟩
  have R:decide (P<0)=false:=by simp;omega
  go_wp2_with fail
  have ar:w.heap.size<I.heap.size:=by omega
  have B:=aX I
  have Q:=aP I
  refine wpB I ?_
  repeat (go_big_quiet_step ((go_at_call 68;with_reducible exact aN (eG d _ (by omega) (by omega)))))
  refine wpQuiet_nil ?_
  rintro _ ⟨⟨w4,hD⟩,rfl⟩
  clear B Q
  have hM:=jc aj (show t<=35 by omega) (show 0<=aQ d by omega) hp.2
  have ai:=jc q j (show 0<=d.T by omega) (show d.T<=4 by omega)
  have H:=Hd (And.intro (IntWalk.i64_in (t * aQ d) (by omega)) (And.intro (IntWalk.i64_in (t * aQ d+7) (by omega)) (And.intro (IntWalk.i64_in (r * d.T) (by omega)) (And.intro (IntWalk.i64_in (t * aQ d+7+r * d.T) (by omega)) (IntWalk.i64_in (t * aQ d+7+r * d.T+k) (by omega))))))
  have g:=Hd (And.intro (IntWalk.wrap64_in (t * aQ d) (by omega)) (And.intro (IntWalk.wrap64_in (t * aQ d+7) (by omega)) (And.intro (IntWalk.wrap64_in (r * d.T) (by omega)) (And.intro (IntWalk.wrap64_in (t * aQ d+7+r * d.T) (by omega)) (IntWalk.wrap64_in (t * aQ d+7+r * d.T+k) (by omega))))))
  clear hM ai
  go_wp2_with fail
  go_ret
  exact ⟨aL (by rw [HO.out,if_pos ⟨z.out,⟨q,j⟩,⟨ad,W⟩,by omega⟩];first|rfl|(rw [H.out.1,H.out.2.1,H.out.2.2.1,H.out.2.2.2.1,H.out.2.2.2.2])|(rw [g.out.1,g.out.2.1,g.out.2.2.1,g.out.2.2.2.1,g.out.2.2.2.2])),aA (aA (aD (Below.refl _ _) _) J.out) hD⟩
theorem qO (d:Dev) (n:Int) (w:World) (hn:fD d n=true) (V:7<=n % aQ d) :
  Calls Tryz.prog 229 #[.agg (dv d),.int .i64 n] w fun e w'=>e = .returned (.tuple #[.int .i64 ((n % aQ d - 7) / d.T),.int .i64 ((n % aQ d - 7) % d.T)])/\Below w.heap.size w w':=by
 obtain ⟨q,K,n1,H,D,J,B⟩:=jG hn
 have U:=ay q
 have Q:=eT q
 have u:¬aQ d=0:=by omega
 have e1:n.tmod (aQ d)=n % aQ d:=Int.tmod_eq_emod_of_nonneg K
 clear hn q
 go_enter Tryz.func229,Tryz.ntmps229
 go_wp2_with fail
 refine (eG d _ (by omega) (by omega)).mono ?_
 rintro e R ⟨rfl,g⟩
 have j:=g.size
 simp only [World.size_alloc] at j
 obtain ⟨hcc,I⟩:=bG g
 have G:=Hd (aA (aD (Below.refl _ _) _) g)
 clear g
 generalize hk:n % aQ d=k at *
 have z:=Hd hk
 clear hk
 go_wp2_with fail
 clear u e1
 have u:¬d.T=0:=by omega
 have e1:(k - 7).tmod d.T=(k - 7) % d.T:=Int.tmod_eq_emod_of_nonneg (by omega)
 have e2:IntKind.i64.wrap ((k - 7).tdiv d.T)=(k - 7) / d.T:=IntWalk.i64_quo _ _ ⟨by omega,by omega,by omega⟩
 go_quiet (fail)
 go_wp2_with fail
 go_ret2
 exact ⟨by rw [z.out];rfl,bB G.out _⟩
theorem FU (d:Dev):0<=ig d/\ig d<=828:=by
 unfold ig
 split
 ·rename_i h;have:=iG h;omega
 omega
theorem mg {d:Dev} {n:Int}:fD d n=true↔0<=n/\n<ig d:=by
 unfold fD ig
 simp only [Bool.and_eq_true,decide_eq_true_eq]
 split
 ·rename_i h;simp [h]
 rename_i h;simp [h] <;> omega
theorem iE (d:Dev) (n:Int) (w:World) :
  Calls Tryz.prog 207 #[.agg (dv d),.int .i64 n] w fun e w'=>e = .returned (.bool (bI d n))/\Below w.heap.size w w':=by
 have aE:=FU d
 by_cases h0:n<0
 ·have z:Hid (bI d n=false):=by
   show _=false
   unfold bI
   cases h:fD d n with
   | false=>rfl
   | true=>have:=mg.1 h;omega
  have af:decide (n<0)=true:=by simpa using h0
  go_enter Tryz.func207,Tryz.ntmps207
  go_wp2_with fail
  go_ret
  exact ⟨cK z.out.symm,aD (Below.refl _ _) _⟩
 have af:decide (n<0)=false:=by simp;omega
 by_cases h1:n<ig d
 ·have j:fD d n=true:=mg.2 ⟨by omega,h1⟩
  have aj:decide (n≥ig d)=false:=by simp;omega
  have z:Hid (bI d n=sN d (n / aQ d) (n % aQ d)):=by show _=_;unfold bI;rw [j];rfl
  have HN:=Hd j
  obtain ⟨R,n0,n1,aw,aJ,aT,W⟩:=jG j
  have hT:=ay R
  have hp:=eT R
  have aP:=fM R
  have J:=Hd (lQ j)
  have e0:¬aQ d=0:=by omega
  have e1:n.tmod (aQ d)=n % aQ d:=Int.tmod_eq_emod_of_nonneg n0
  have e2:IntKind.i64.wrap (n.tdiv (aQ d))=n / aQ d:=IntWalk.i64_quo _ _ ⟨n0,by omega,by omega⟩
  clear j R
  go_enter Tryz.func207,Tryz.ntmps207
  go_wp2_with fail
  refine (gJ d _).mono ?_
  rintro e w1 ⟨rfl,B⟩
  have Y:=Hd B
  have ai:=B.size
  simp only [World.size_alloc] at ai
  obtain ⟨hcc,g⟩:=bG B
  clear B
  go_wp2_with fail
  refine (eG d _ (by omega) (by omega)).mono ?_
  rintro e w2 ⟨rfl,b2⟩
  have B2:=Hd (aA Y.out b2)
  have aN:=b2.size
  clear b2 hcc g
  obtain ⟨hcc,g⟩:=bG B2.out
  go_wp2_with fail
  refine (eG d _ (by omega) (by omega)).mono ?_
  rintro e w3 ⟨rfl,Z⟩
  have U:=Hd (aA B2.out Z)
  have aO:=Z.size
  clear Z hcc g
  obtain ⟨hcc,g⟩:=bG U.out
  have D:=Hd (fun (h7:7<=n % aQ d) (w:World)=>qO d n w HN.out h7)
  generalize hk:n % aQ d=k at *
  generalize hq:n / aQ d=q at *
  have hK:sN d q k=if k<5 then decide (k<jA (bH d q)) else if k<7 then decide (k - 5<eQ (bH d q)) else decide (0<=av d q ((k - 7) / d.T) (bR ((k - 7) % d.T))):=rfl
  have V:=Hd hK
  have aR:=pJ d q
  have aG:=iR d q
  have H:=Hd (fun w=>gZ d q w J.out)
  generalize bH d q=K at *
  clear hK hk hq
  have h3:k<5∨(¬k<5/\k<7)∨(¬k<5/\¬k<7):=by omega
  rcases h3 with h|⟨h,h'⟩|⟨h,h'⟩
  ·go_wp2_with fail
   refine (H.out _).mono ?_
   rintro e w4 ⟨rfl,u⟩
   have G:=Hd (aA U.out u)
   clear u hcc g
   generalize I:jA K=Q at *
   have HQ:=Hd I
   clear I
   go_wp2_with (go_at_call 255;refine (qQ _ _).mono ?_;rw [HQ.out];rintro e w' ⟨rfl,rfl⟩)
   go_ret
   exact ⟨cK (by rw [z.out,V.out,if_pos (by omega)]),aA (aD (Below.refl _ _) _) G.out⟩
  ·go_wp2_with fail
   refine (H.out _).mono ?_
   rintro e w4 ⟨rfl,u⟩
   have G:=Hd (aA U.out u)
   clear u hcc g
   generalize I:eQ K=Q at *
   have HQ:=Hd I
   clear I
   go_wp2_with (go_at_call 233;refine (ku _ _).mono ?_;rw [HQ.out];rintro e w' ⟨rfl,rfl⟩)
   go_ret
   exact ⟨cK (by rw [z.out,V.out,if_neg (by omega),if_pos (by omega)]),aA (aD (Below.refl _ _) _) G.out⟩
  have aK:=Int.ediv_nonneg (show 0<=k - 7 by omega) (show 0<=d.T by omega)
  have aL:=Int.emod_nonneg (k - 7) (show d.T≠0 by omega)
  have ax:=Int.emod_lt_of_pos (k - 7) (show 0<d.T by omega)
  have aI:(k - 7) / d.T<=3:=by
   have:(k - 7) / d.T<4:=Int.ediv_lt_of_lt_mul (by omega) (by unfold aQ at W;omega)
   omega
  go_wp2_with fail
  refine (D.out (by omega) _).mono ?_
  rintro e w4 ⟨rfl,u⟩
  have G:=Hd (aA U.out u)
  have aM:=u.size
  clear u hcc g
  obtain ⟨hcc,g⟩:=bG G.out
  generalize (k - 7) / d.T=r at *
  generalize (k - 7) % d.T=m at *
  have hL:bR m=1+m % 2:=rfl
  have aB:1<=bR m/\bR m<=2:=by rw [hL];omega
  have HL:=Hd hL.symm
  clear hL
  go_wp2_with fail
  rw [HL.out]
  generalize ad:bR m=L at *
  generalize hP:av d q r L=P at *
  have HC:Hid (∀w,Calls Tryz.prog 230 #[.agg (dv d),.int .i64 q,.int .i64 r,.int .i64 L] w fun e w'=>e = .returned (.int .i64 P)/\Below w.heap.size w w'):=fun w=>by have:=iC d q r L w J.out (by omega) (by omega) (by omega) (by omega);rwa [hP] at this
  clear hP ad
  refine (HC.out _).mono ?_
  rintro e w5 ⟨rfl,b5⟩
  have B5:=Hd (aA G.out b5)
  clear b5 hcc g
  go_wp2_with fail
  go_ret
  exact ⟨cK (by rw [z.out,V.out,if_neg (by omega),if_neg (by omega)]),aA (aD (Below.refl _ _) _) B5.out⟩
 have z:Hid (bI d n=false):=by
  show _=false
  unfold bI
  cases h:fD d n with
  | false=>rfl
  | true=>have:=mg.1 h;omega
 have aj:decide (n≥ig d)=true:=by simp;omega
 go_enter Tryz.func207,Tryz.ntmps207
 go_wp2_with fail
 refine (gJ d _).mono ?_
 rintro e w1 ⟨rfl,B⟩
 have Y:=Hd (aA (aD (Below.refl _ _) _) B)
 clear B
 go_wp2_with fail
 go_ret
 exact ⟨cK z.out.symm,Y.out⟩
theorem rF {d:Dev} {t pin r k:Int} {s:Nat} (h:∀s,lu d pin r k s=false):iM d t pin r k s=[]:=by
 unfold iM
 rw [List.flatMap_eq_nil_iff]
 intro j _
 unfold lv
 rw [h]
 rfl
theorem nN {d:Dev} {t pin r k s:Int} (h:lu d pin r k s=true):lv d t pin r k s=mE (jk d t r k s):=by unfold lv;rw [if_pos h]
theorem oC {d:Dev} {t pin r k s:Int} (h:lu d pin r k s=false):lv d t pin r k s=[]:=by unfold lv;rw [h];rfl
theorem AO {d:Dev} {pin:Int} (g:7<=pin) (r k s:Int):lu d pin r k s=(decide (r≠((pin - 7) / d.T+2) % 4) && ((decide (k=(pin - 7) % d.T) || decide (k=((pin - 7) % d.T+1) % d.T)) && decide (s=bR k))):=by unfold lu uU;rw [if_pos g]
theorem CL {d:Dev} {pin:Int} (g:pin<7) (r k s:Int):lu d pin r k s=!(decide (d.T>1) && decide ((k+pin) % 2=1)):=by unfold lu tJ;rw [if_neg (by omega)]
theorem xP (d:Dev) (n:Int) (w:World) (D:bI d n=true) (h5:n % aQ d<5) :
  Calls Tryz.prog 146 #[.agg (dv d),.int .i64 n] w fun e w'=>∃A m c,e = .returned (.slice A m c)/\Own w.heap.size w' A m c (jT d n)/\Below w.heap.size w w':=by
 have aL:=Hd (aD (Below.refl w.heap.size w) (.cells (dv d) 36))
 have R:fD d n=true:=by unfold bI at D;rw [Bool.and_eq_true] at D;exact D.1
 have aW:=Hd (lQ R)
 obtain ⟨W,n0,n1,bh,bx,bH,a9⟩:=jG R
 have hT:=ay W
 have hp:=eT W
 have bC:=fM W
 have HD:=Hd W
 have Q:=Hd (fun l hp hs=>uF (l:=l) D (by omega) hp hs)
 have ad:Hid (∀w,Calls Tryz.prog 207 #[.agg (dv d),.int .i64 n] w fun e w'=>e = .returned (.bool true)/\Below w.heap.size w w'):=fun w=>by have h:=iE d n w;rwa [D] at h
 have e0:¬aQ d=0:=by omega
 have e1:n.tmod (aQ d)=n % aQ d:=Int.tmod_eq_emod_of_nonneg n0
 have e2:IntKind.i64.wrap (n.tdiv (aQ d))=n / aQ d:=IntWalk.i64_quo _ _ ⟨n0,by omega,by omega⟩
 have U:=Hd (fun r k s=>CL (d:=d) (pin:=n % aQ d) (by omega) r k s)
 clear D R W
 go_enter Tryz.func146,Tryz.ntmps146
 go_wp2_with fail
 refine (ad.out _).mono ?_
 rintro e w1 ⟨rfl,b1⟩
 have N1:=Hd ((Own.newAt (w:=(w.alloc (.cells (dv d) 36))) (base:=(w.alloc (.cells (dv d) 36)).heap.size) (g:=w.heap.size+1) (by simp) (by simp)).below b1)
 have Y:=Hd (aA (aD (Below.refl _ _) _) b1:Below (w.alloc (.cells (dv d) 36)).heap.size (w.alloc (.cells (dv d) 36)) w1)
 have H:=b1.size
 simp only [World.size_alloc] at H
 clear b1
 obtain ⟨hcc,j⟩:=bG Y.out
 go_wp2_with fail
 refine (eG d _ (by omega) (by omega)).mono ?_
 rintro e w2 ⟨rfl,b2⟩
 have G:=Hd (aA Y.out b2)
 have N2:=Hd (N1.out.below b2)
 have aT:=b2.size
 clear b2 hcc j
 obtain ⟨hcc,j⟩:=bG G.out
 go_wp2_with fail
 refine (eG d _ (by omega) (by omega)).mono ?_
 rintro e w3 ⟨rfl,b3⟩
 have Z:=Hd (aA G.out b3)
 have N3:=Hd (N2.out.below b3)
 have bb:=b3.size
 clear b3 hcc j
 obtain ⟨hcc,j⟩:=bG Z.out
 generalize n % aQ d=pin at *
 generalize n / aQ d=t at *
 clear ad
 have bo:decide (pin≥7)=false:=by simp;omega
 have a7:decide (pin<7)=true:=by simp;omega
 have bK:(pin==5)=false:=by simp;omega
 have bJ:(pin==6)=false:=by simp;omega
 have NS:=N3
 have az:=Z
 clear hcc j
 go_wp2_with fail
 go_loopw [5,10] (fun v i wr=>∃(r:Nat) (A:Option Addr) (m c:Nat),r<=4/\i = .int .i64 r/\v = .slice A m c/\m<=2+8 * r/\Own (w.alloc (.cells (dv d) 36)).heap.size wr A m c (iH d t pin r)/\Below (w.alloc (.cells (dv d) 36)).heap.size (w.alloc (.cells (dv d) 36)) wr) (fun _ i _=>4 - (intOf i).toNat)
 ·exact ⟨0,_,_,_,by omega,rfl,rfl,by omega,by simpa [iH] using NS.out,az.out⟩
 obtain ⟨r,A,m,c,hr,rfl,rfl,hn,ho,B⟩:=hrel
 obtain ⟨I,J⟩:=hd2 ho B
 have hs:=B.size
 simp only [World.size_alloc] at hs
 obtain ⟨hcc,j⟩:=bG B
 clear ho B
 by_cases bl:r<4
 ·have aB:decide ((r:Int)<4)=true:=by simp;omega
  have aR:=Hd (nX d t pin r)
  clear hcc j
  go_wp2_with fail
  go_loopw [5,11] (fun v i wr=>∃(k:Nat) (A:Option Addr) (m c:Nat),(k:Int)<=d.T/\i = .int .i64 k/\v = .slice A m c/\m<=2+8 * r+2 * k/\Own (w.alloc (.cells (dv d) 36)).heap.size wr A m c (iH d t pin r++jC d t pin (r:Int) k)/\Below (w.alloc (.cells (dv d) 36)).heap.size (w.alloc (.cells (dv d) 36)) wr) (fun _ i _=>d.T.toNat - (intOf i).toNat)
  ·exact ⟨0,A,m,c,by omega,rfl,rfl,by omega,by simpa [jC] using I.out,J.out⟩
  obtain ⟨k,A,m,c,hk,rfl,rfl,hn,ho,B⟩:=hrel
  obtain ⟨I,J⟩:=hd2 ho B
  have hs:=B.size
  simp only [World.size_alloc] at hs
  obtain ⟨hcc,j⟩:=bG B
  have ah:=Hd (nW d t pin (r:Int) k)
  clear ho B
  by_cases aY:(k:Int)<d.T
  ·have aV:decide ((k:Int)<d.T)=true:=by simpa using aY
   have hL:bR (k:Int)=1+(k:Int) % 2:=rfl
   have bj:1<=bR (k:Int)/\bR (k:Int)<=2:=by rw [hL];omega
   have HL:=Hd hL.symm
   have ai:=fun s=>Hd (nV d t pin (r:Int) (k:Int) s)
   clear hL
   have q:=U.out (r:Int) (k:Int)
   have q:=Hd q
   have bs:0<=((k:Int)+pin) % 2/\((k:Int)+pin) % 2<=1:=by omega
   have e1:((k:Int)+pin).tmod 2=((k:Int)+pin) % 2:=Int.tmod_eq_emod_of_nonneg (by omega)
   generalize ((k:Int)+pin) % 2=z at *
   by_cases u:d.T>1/\z=1
   ·have ae:=Hd (rF (d:=d) (t:=t) (pin:=pin) (r:=(r:Int)) (k:=(k:Int)) (s:=(bR (k:Int)).toNat) (fun s=>by rw [q.out,decide_eq_true u.1,decide_eq_true u.2];rfl))
    obtain ⟨H,rfl⟩:=u
    have bd:decide (d.T>1)=true:=by simpa using H
    go_wp2_with fail
    go_roundw
    ·exact ⟨k+1,A,m,c,by omega,by go_num,rfl,by omega,by rw [ah.out,ae.out,List.append_nil];exact I.out,J.out⟩
    simp [intOf];omega
   have aG:(d.T>1/\z=0)∨¬d.T>1:=by omega
   have aM:Hid (∀s,lu d pin (r:Int) (k:Int) s=true):=by
    intro s
    rw [q.out]
    simp
    omega
   clear q
   rcases aG with ⟨H,rfl⟩|H
   all_goals
    go_wp2_with fail
    go_loopw [5,12] (fun v i wr=>∃(s:Nat) (A:Option Addr) (m c:Nat),(s:Int)<=bR (k:Int)/\i = .int .i64 ((s:Int)+1)/\v = .slice A m c/\m<=2+8 * r+2 * k+s/\Own (w.alloc (.cells (dv d) 36)).heap.size wr A m c (iH d t pin r++jC d t pin (r:Int) k++iM d t pin (r:Int) (k:Int) s)/\Below (w.alloc (.cells (dv d) 36)).heap.size (w.alloc (.cells (dv d) 36)) wr) (fun _ i _=>4 - (intOf i).toNat)
    ·exact ⟨0,A,m,c,by omega,rfl,rfl,by omega,by simpa [iM] using I.out,J.out⟩
    obtain ⟨s,A,m,c,bk,rfl,rfl,hn,ho,B⟩:=hrel
    obtain ⟨I,J⟩:=hd2 ho B
    have hs:=B.size
    simp only [World.size_alloc] at hs
    clear hcc j
    obtain ⟨hcc,j⟩:=bG B
    clear ho B
    have hZ:1+(k:Int) % 2=bR (k:Int):=HL.out
    by_cases K:(s:Int)+1<=bR (k:Int)
    ·have a6:=K
     rw [←hZ] at K
     have aU:decide ((s:Int)+1<=1+(k:Int) % 2)=true:=by simpa using K
     clear hZ
     have af:=Hd (nN (t:=t) (aM.out ((s:Int)+1)))
     generalize hP:av d t (((r:Int)+2) % 4) ((s:Int)+1)=P at *
     have HP:=Hd hP
     have aC:=kI (d:=d) (t:=t) (r:=((r:Int)+2) % 4) (s:=(s:Int)+1) HD.out
     rw [hP] at aC
     clear hP
     generalize hC:jk d t (r:Int) (k:Int) ((s:Int)+1)=C at *
     have HC:Hid (∀w,Calls Tryz.prog 234 #[.agg (dv d),.int .i64 P,.int .i64 (r:Int),.int .i64 (k:Int)] w fun e w'=>e = .returned (.int .i64 C)/\Below w.heap.size w w'):=fun w=>by
      have h:=jw d P (r:Int) (k:Int) w HD.out (by omega) (by omega) (by omega) (by omega) (by omega)
      rwa [show eD d P (r:Int) (k:Int)=C from by rw [←hC,jk,HP.out]] at h
     have aH:Hid (∀w,Calls Tryz.prog 230 #[.agg (dv d),.int .i64 t,.int .i64 (((r:Int)+2) % 4),.int .i64 ((s:Int)+1)] w fun e w'=>e = .returned (.int .i64 P)/\Below w.heap.size w w'):=fun w=>by
      have h:=iC d t (((r:Int)+2) % 4) ((s:Int)+1) w aW.out (by omega) (by omega) (by omega) (by omega)
      rwa [HP.out] at h
     have bB:=Hd hC
     clear hC
     have e3:((r:Int)+2).tmod 4=((r:Int)+2) % 4:=Int.tmod_eq_emod_of_nonneg (by omega)
     have e4:IntKind.i64.wrap ((r:Int)+2)=(r:Int)+2:=IntWalk.i64_in _ (by omega)
     have bp:w.heap.size<wr.heap.size:=by omega
     go_wp2_with fail
     have aj:=aX wr
     have aS:=aP wr
     refine wpB wr ?_
     repeat (go_big_quiet_step ((first
      | (go_at_call 230;with_reducible exact aN (aH.out _))
      | (go_at_call 234;with_reducible exact aN (HC.out _)))))
     refine wpQuiet_nil ?_
     rintro _ ⟨⟨w2,hD⟩,rfl⟩
     clear aj aS hcc j e3 e4
     have G:=Hd (aA J.out hD)
     have am:=Hd (I.out.below hD)
     have aT:=hD.size
     clear hD
     by_cases bq:C≥0
     ·have V:=Hd (kN (x:=C) (by omega))
      go_wp2_with (at_builtin;refine fw rfl _ _ rfl (w.alloc (.cells (dv d) 36)).heap.size A m c _ C rfl am.out rfl (by omega) (by simp;omega) G.out ?_;rintro g4 c4 w4 o4 b4 - -)
      go_roundw
      ·exact ⟨s+1,_,m+1,c4,by omega,by go_num,rfl,by omega,by rw [(ai s).out,af.out,V.out,←List.append_assoc];exact o4,b4⟩
      simp [intOf];omega
     have V:=Hd (lL (x:=C) (by omega))
     go_wp2_with fail
     go_roundw
     ·exact ⟨s+1,A,m,c,by omega,by go_num,rfl,by omega,by rw [(ai s).out,af.out,V.out,List.append_nil];exact am.out,G.out⟩
     simp [intOf];omega
    have al:(bR (k:Int)).toNat=s:=by omega
    have aJ:=Hd al
    rw [←hZ] at K
    have aU:decide ((s:Int)+1<=1+(k:Int) % 2)=false:=by simp;omega
    clear al hZ
    go_wp2_with fail
    go_roundw
    ·exact ⟨k+1,A,m,c,by omega,by go_num,rfl,by omega,by rw [ah.out,aJ.out,←List.append_assoc];exact I.out,J.out⟩
    simp [intOf];omega
  have ag:d.T=(k:Int):=by omega
  have aw:=Hd ag
  have aV:decide ((k:Int)<d.T)=false:=by simp;omega
  clear ag
  go_wp2_with fail
  go_roundw
  ·exact ⟨r+1,A,m,c,by omega,by go_num,rfl,by omega,by rw [aR.out,show d.T.toNat=k by have:=aw.out;omega];exact I.out,J.out⟩
  simp [intOf];omega
 have ak:r=4:=by omega
 have aI:=Hd ak
 have aB:decide ((r:Int)<4)=false:=by simp;omega
 have a8:=Hd I.out.len
 clear ak hcc j
 go_wp2_with fail
 refine (oH A m c _ _ I.out.ints (by omega)).mono ?_
 rintro e w9 ⟨A9,c9,rfl,⟨ys,oy,py,sy⟩,b9⟩
 have HY:=Hd oy
 have aK:=Hd (aA aL.out (aA J.out b9))
 have HE:=Hd (Q.out ys (by rw [aI.out] at py;unfold jl;rw [if_neg (by omega),List.nil_append];exact py) sy)
 clear oy py sy b9
 go_wp2_with fail
 go_ret
 exact ⟨A9,m,c9,rfl,by rw [←HE.out];exact HY.out.more (by omega),aK.out⟩
theorem vw (d:Dev) (n:Int) (w:World) (ax:bI d n=true) (h7:7<=n % aQ d) :
  Calls Tryz.prog 146 #[.agg (dv d),.int .i64 n] w fun e w'=>∃A m c,e = .returned (.slice A m c)/\Own w.heap.size w' A m c (jT d n)/\Below w.heap.size w w':=by
 have bo:=Hd (aD (Below.refl w.heap.size w) (.cells (dv d) 36))
 have aM:fD d n=true:=by unfold bI at ax;rw [Bool.and_eq_true] at ax;exact ax.1
 have aw:=Hd (lQ aM)
 obtain ⟨hd,n0,n1,co,cA,cH,bF⟩:=jG aM
 have hT:=ay hd
 have hp:=eT hd
 have cG:=fM hd
 have HD:=Hd hd
 have aE:=Hd (fun l hp hs=>uF (l:=l) ax (by omega) hp hs)
 have bm:Hid (∀w,Calls Tryz.prog 207 #[.agg (dv d),.int .i64 n] w fun e w'=>e = .returned (.bool true)/\Below w.heap.size w w'):=fun w=>by have h:=iE d n w;rwa [ax] at h
 have e0:¬aQ d=0:=by omega
 have e1:n.tmod (aQ d)=n % aQ d:=Int.tmod_eq_emod_of_nonneg n0
 have e2:IntKind.i64.wrap (n.tdiv (aQ d))=n / aQ d:=IntWalk.i64_quo _ _ ⟨n0,by omega,by omega⟩
 have aH:=Hd (fun r k s=>AO (d:=d) (pin:=n % aQ d) h7 r k s)
 have bJ:=Hd (fun w=>qO d n w aM h7)
 clear ax aM hd
 go_enter Tryz.func146,Tryz.ntmps146
 go_wp2_with fail
 refine (bm.out _).mono ?_
 rintro e w1 ⟨rfl,b1⟩
 have N1:=Hd ((Own.newAt (w:=(w.alloc (.cells (dv d) 36))) (base:=(w.alloc (.cells (dv d) 36)).heap.size) (g:=w.heap.size+1) (by simp) (by simp)).below b1)
 have bk:=Hd (aA (aD (Below.refl _ _) _) b1:Below (w.alloc (.cells (dv d) 36)).heap.size (w.alloc (.cells (dv d) 36)) w1)
 have b0:=b1.size
 simp only [World.size_alloc] at b0
 clear b1
 obtain ⟨hcc,q⟩:=bG bk.out
 go_wp2_with fail
 refine (eG d _ (by omega) (by omega)).mono ?_
 rintro e w2 ⟨rfl,b2⟩
 have R:=Hd (aA bk.out b2)
 have N2:=Hd (N1.out.below b2)
 have aR:=b2.size
 clear b2 hcc q
 obtain ⟨hcc,q⟩:=bG R.out
 go_wp2_with fail
 refine (eG d _ (by omega) (by omega)).mono ?_
 rintro e w3 ⟨rfl,b3⟩
 have bl:=Hd (aA R.out b3)
 have N3:=Hd (N2.out.below b3)
 have ch:=b3.size
 clear b3 hcc q
 obtain ⟨hcc,q⟩:=bG bl.out
 generalize n % aQ d=pin at *
 generalize n / aQ d=t at *
 clear bm
 have bt:7<=pin:=h7
 have cv:decide (pin≥7)=true:=by simp;omega
 have cJ:(pin==5)=false:=by simp;omega
 have cI:(pin==6)=false:=by simp;omega
 have cB:=Int.ediv_nonneg (show 0<=pin - 7 by omega) (show 0<=d.T by omega)
 have cC:=Int.emod_nonneg (pin - 7) (show d.T≠0 by omega)
 have cp:=Int.emod_lt_of_pos (pin - 7) (show 0<d.T by omega)
 have cz:(pin - 7) / d.T<=3:=by
  have:(pin - 7) / d.T<4:=Int.ediv_lt_of_lt_mul (by omega) (by unfold aQ at bF;omega)
  omega
 go_wp2_with fail
 refine (bJ.out _).mono ?_
 rintro e w4 ⟨rfl,b4⟩
 have bn:=Hd (aA bl.out b4)
 have N4:=Hd (N3.out.below b4)
 have cE:=b4.size
 clear b4 hcc q e0 e1 e2
 obtain ⟨hcc,q⟩:=bG bn.out
 generalize (pin - 7) / d.T=aW at *
 generalize (pin - 7) % d.T=j at *
 have e0:¬d.T=0:=by omega
 have e6:(j+1).tmod d.T=(j+1) % d.T:=Int.tmod_eq_emod_of_nonneg (by omega)
 have cw:=Int.emod_nonneg (aW+2) (show (4:Int)≠0 by omega)
 generalize ho:(aW+2) % 4=o at *
 have cg:=Hd ho
 have e7:(aW+2).tmod 4=o:=by rw [Int.tmod_eq_emod_of_nonneg (by omega),ho]
 clear ho
 generalize (j+1) % d.T=U at *
 go_wp2_with fail
 refine (tY d t 0 _ aw.out (by omega) (by omega)).mono ?_
 rintro e w5 ⟨rfl,b5⟩
 have bq:=Hd (aA bn.out b5)
 have N5:=Hd (N4.out.below b5)
 have cs:=b5.size
 clear b5 hcc q
 obtain ⟨hcc,q⟩:=bG bq.out
 have aO:Hid (jB d t=if eQ (bH d t)>1 then [ed d t 0,ed d t 1] else [ed d t 0]):=rfl
 generalize ed d t 0=X0 at *
 go_wp2_with (at_builtin;refine fw rfl _ _ rfl (w.alloc (.cells (dv d) 36)).heap.size _ 0 0 [] X0 rfl N5.out rfl (by omega) (by simp;omega) bq.out ?_;rintro g6 c6 w6 o6 b6 - -;rw [List.nil_append] at o6;have bY:=Hd b6;have N6:=Hd o6;have bX:=b6.size;(try simp only [World.size_alloc] at bX);clear hcc q;obtain ⟨hcc,q⟩:=bG b6;clear o6 b6)
 refine (gZ d t _ aw.out).mono ?_
 rintro e w7 ⟨rfl,b7⟩
 have bf:=Hd (aA bY.out b7)
 have N7:=Hd (N6.out.below b7)
 have ct:=b7.size
 clear b7 hcc q
 obtain ⟨hcc,q⟩:=bG bf.out
 have bS:=iR d t
 generalize bH d t=K at *
 have HC:Hid (∀w,Calls Tryz.prog 233 #[.int .i64 K] w fun e w'=>e = .returned (.int .i64 (eQ K))/\w=w'):=fun w=>ku K w
 generalize eQ K=Q at *
 rcases bS with rfl|rfl
 ·have aC:Hid (jB d t=[X0]):=by show _=_;rw [aO.out];rfl
  clear aO
  go_wp2_with (go_at_call 233;refine (HC.out _).mono ?_;rintro e w' ⟨rfl,rfl⟩)
  have NS:Hid (Own (w.alloc (.cells (dv d) 36)).heap.size w7 (some ⟨g6,0,none⟩) 1 c6 (jB d t)):=by show Own _ _ _ _ _ _;rw [aC.out];exact N7.out
  have aV:=bf
  clear hcc q
  go_loopw [5,10] (fun v i wr=>∃(r:Nat) (A:Option Addr) (m c:Nat),r<=4/\i = .int .i64 r/\v = .slice A m c/\m<=2+8 * r/\Own (w.alloc (.cells (dv d) 36)).heap.size wr A m c (jB d t++iH d t pin r)/\Below (w.alloc (.cells (dv d) 36)).heap.size (w.alloc (.cells (dv d) 36)) wr) (fun _ i _=>4 - (intOf i).toNat)
  ·exact ⟨0,_,_,_,by omega,rfl,rfl,by omega,by simpa [iH] using NS.out,aV.out⟩
  obtain ⟨r,A,m,c,hr,rfl,rfl,hn,ho,D⟩:=hrel
  obtain ⟨G,I⟩:=hd2 ho D
  have hs:=D.size
  simp only [World.size_alloc] at hs
  obtain ⟨hcc,q⟩:=bG D
  clear ho D
  by_cases bL:r<4
  ·have aZ:decide ((r:Int)<4)=true:=by simp;omega
   have a8:=Hd (nX d t pin r)
   clear hcc q
   go_wp2_with fail
   go_loopw [5,11] (fun v i wr=>∃(k:Nat) (A:Option Addr) (m c:Nat),(k:Int)<=d.T/\i = .int .i64 k/\v = .slice A m c/\m<=2+8 * r+2 * k/\Own (w.alloc (.cells (dv d) 36)).heap.size wr A m c (jB d t++iH d t pin r++jC d t pin (r:Int) k)/\Below (w.alloc (.cells (dv d) 36)).heap.size (w.alloc (.cells (dv d) 36)) wr) (fun _ i _=>d.T.toNat - (intOf i).toNat)
   ·exact ⟨0,A,m,c,by omega,rfl,rfl,by omega,by simpa [jC] using G.out,I.out⟩
   obtain ⟨k,A,m,c,hk,rfl,rfl,hn,ho,D⟩:=hrel
   obtain ⟨G,I⟩:=hd2 ho D
   have hs:=D.size
   simp only [World.size_alloc] at hs
   obtain ⟨hcc,q⟩:=bG D
   have ai:=Hd (nW d t pin (r:Int) k)
   clear ho D
   by_cases bg:(k:Int)<d.T
   ·have be:decide ((k:Int)<d.T)=true:=by simpa using bg
    have hL:bR (k:Int)=1+(k:Int) % 2:=rfl
    have bK:1<=bR (k:Int)/\bR (k:Int)<=2:=by rw [hL];omega
    have HL:=Hd hL.symm
    have V:=fun s=>Hd (nV d t pin (r:Int) (k:Int) s)
    clear hL
    have H:=aH.out (r:Int) (k:Int)
    have H:=Hd H
    by_cases Y:(r:Int)=o∨(¬(k:Int)=j/\¬(k:Int)=U)
    ·have ak:=Hd (rF (d:=d) (t:=t) (pin:=pin) (r:=(r:Int)) (k:=(k:Int)) (s:=(bR (k:Int)).toNat) (fun s=>by rw [H.out];simp;omega))
     have ag:(r:Int)=o∨(¬(r:Int)=o/\¬(k:Int)=j/\¬(k:Int)=U):=by omega
     clear Y
     rcases ag with h|⟨h1,h2,h3⟩
     ·have q1:((r:Int)==o)=true:=by simpa using h
      clear h
      go_wp2_with fail
      go_roundw
      ·exact ⟨k+1,A,m,c,by omega,by go_num,rfl,by omega,by rw [ai.out,ak.out,List.append_nil];exact G.out,I.out⟩
      simp [intOf];omega
     have q1:((r:Int)==o)=false:=by simpa using h1
     have q2:((k:Int)==j)=false:=by simpa using h2
     have aF:((k:Int) != j)=true:=by simpa using h2
     have q3:((k:Int)==U)=false:=by simpa using h3
     have a0:((k:Int) != U)=true:=by simpa using h3
     clear h1 h2 h3
     go_wp2_with fail
     go_roundw
     ·exact ⟨k+1,A,m,c,by omega,by go_num,rfl,by omega,by rw [ai.out,ak.out,List.append_nil];exact G.out,I.out⟩
     simp [intOf];omega
    have ag:(¬(r:Int)=o/\(k:Int)=j)∨(¬(r:Int)=o/\¬(k:Int)=j/\(k:Int)=U):=by omega
    have ah:Hid (∀s,lu d pin (r:Int) (k:Int) s=decide (s=bR (k:Int))):=by
     intro s
     rw [H.out,decide_eq_true (show (r:Int)≠o by omega)]
     rcases ag with h|h
     ·rw [decide_eq_true h.2];simp
     rw [decide_eq_true h.2.2];simp
    clear H Y
    rcases ag with ⟨h1,h2⟩|⟨h1,h2,h3⟩
    ·have q1:((r:Int)==o)=false:=by simpa using h1
     have q2:((k:Int)==j)=true:=by simpa using h2
     have aF:((k:Int) != j)=false:=by simpa using h2
     clear h1 h2
     go_wp2_with fail
     go_loopw [5,12] (fun v i wr=>∃(s:Nat) (A:Option Addr) (m c:Nat),(s:Int)<=bR (k:Int)/\i = .int .i64 ((s:Int)+1)/\v = .slice A m c/\m<=2+8 * r+2 * k+s/\Own (w.alloc (.cells (dv d) 36)).heap.size wr A m c (jB d t++iH d t pin r++jC d t pin (r:Int) k++iM d t pin (r:Int) (k:Int) s)/\Below (w.alloc (.cells (dv d) 36)).heap.size (w.alloc (.cells (dv d) 36)) wr) (fun _ i _=>4 - (intOf i).toNat)
     ·exact ⟨0,A,m,c,by omega,rfl,rfl,by omega,by simpa [iM] using G.out,I.out⟩
     obtain ⟨s,A,m,c,aY,rfl,rfl,hn,ho,D⟩:=hrel
     obtain ⟨G,I⟩:=hd2 ho D
     have hs:=D.size
     simp only [World.size_alloc] at hs
     clear hcc q
     obtain ⟨hcc,q⟩:=bG D
     clear ho D
     have hZ:1+(k:Int) % 2=bR (k:Int):=HL.out
     by_cases z:(s:Int)+1<=bR (k:Int)
     ·have aK:=z
      rw [←hZ] at z
      have au:decide ((s:Int)+1<=1+(k:Int) % 2)=true:=by simpa using z
      clear hZ
      have u:(s:Int)+1<1+(k:Int) % 2∨¬(s:Int)+1<1+(k:Int) % 2:=by omega
      rcases u with u|u
      ·have W:decide ((s:Int)+1<1+(k:Int) % 2)=true:=by simpa using u
       have B:=Hd (oC (t:=t) ((ah.out ((s:Int)+1)).trans (decide_eq_false (by have:=HL.out;omega))))
       clear hcc q
       go_wp2_with fail
       go_roundw
       ·exact ⟨s+1,A,m,c,by omega,by go_num,rfl,by omega,by rw [(V s).out,B.out,List.append_nil];exact G.out,I.out⟩
       simp [intOf];omega
      have W:decide ((s:Int)+1<1+(k:Int) % 2)=false:=by simp;omega
      have B:=Hd (nN (t:=t) ((ah.out ((s:Int)+1)).trans (decide_eq_true (by have:=HL.out;omega))))
      generalize hP:av d t (((r:Int)+2) % 4) ((s:Int)+1)=P at *
      have HP:=Hd hP
      have am:=kI (d:=d) (t:=t) (r:=((r:Int)+2) % 4) (s:=(s:Int)+1) HD.out
      rw [hP] at am
      clear hP
      generalize hC:jk d t (r:Int) (k:Int) ((s:Int)+1)=C at *
      have HC:Hid (∀w,Calls Tryz.prog 234 #[.agg (dv d),.int .i64 P,.int .i64 (r:Int),.int .i64 (k:Int)] w fun e w'=>e = .returned (.int .i64 C)/\Below w.heap.size w w'):=fun w=>by
       have h:=jw d P (r:Int) (k:Int) w HD.out (by omega) (by omega) (by omega) (by omega) (by omega)
       rwa [show eD d P (r:Int) (k:Int)=C from by rw [←hC,jk,HP.out]] at h
      have ap:Hid (∀w,Calls Tryz.prog 230 #[.agg (dv d),.int .i64 t,.int .i64 (((r:Int)+2) % 4),.int .i64 ((s:Int)+1)] w fun e w'=>e = .returned (.int .i64 P)/\Below w.heap.size w w'):=fun w=>by
       have h:=iC d t (((r:Int)+2) % 4) ((s:Int)+1) w aw.out (by omega) (by omega) (by omega) (by omega)
       rwa [HP.out] at h
      have a9:=Hd hC
      clear hC
      have e3:((r:Int)+2).tmod 4=((r:Int)+2) % 4:=Int.tmod_eq_emod_of_nonneg (by omega)
      have e4:IntKind.i64.wrap ((r:Int)+2)=(r:Int)+2:=IntWalk.i64_in _ (by omega)
      have a2:w.heap.size<wr.heap.size:=by omega
      go_wp2_with fail
      have Z:=aX wr
      have ar:=aP wr
      refine wpB wr ?_
      repeat (go_big_quiet_step ((first
       | (go_at_call 230;with_reducible exact aN (ap.out _))
       | (go_at_call 234;with_reducible exact aN (HC.out _)))))
      refine wpQuiet_nil ?_
      rintro _ ⟨⟨w2,hD⟩,rfl⟩
      clear Z ar hcc q e3 e4
      have R:=Hd (aA I.out hD)
      have ae:=Hd (G.out.below hD)
      have aR:=hD.size
      clear hD
      by_cases a4:C≥0
      ·have J:=Hd (kN (x:=C) (by omega))
       go_wp2_with (at_builtin;refine fw rfl _ _ rfl (w.alloc (.cells (dv d) 36)).heap.size A m c _ C rfl ae.out rfl (by omega) (by simp;omega) R.out ?_;rintro g4 c4 w4 o4 b4 - -)
       go_roundw
       ·exact ⟨s+1,_,m+1,c4,by omega,by go_num,rfl,by omega,by rw [(V s).out,B.out,J.out,←List.append_assoc];exact o4,b4⟩
       simp [intOf];omega
      have J:=Hd (lL (x:=C) (by omega))
      go_wp2_with fail
      go_roundw
      ·exact ⟨s+1,A,m,c,by omega,by go_num,rfl,by omega,by rw [(V s).out,B.out,J.out,List.append_nil];exact ae.out,R.out⟩
      simp [intOf];omega
     have ad:(bR (k:Int)).toNat=s:=by omega
     have aq:=Hd ad
     rw [←hZ] at z
     have au:decide ((s:Int)+1<=1+(k:Int) % 2)=false:=by simp;omega
     clear ad hZ
     go_wp2_with fail
     go_roundw
     ·exact ⟨k+1,A,m,c,by omega,by go_num,rfl,by omega,by rw [ai.out,aq.out,←List.append_assoc];exact G.out,I.out⟩
     simp [intOf];omega
    have q1:((r:Int)==o)=false:=by simpa using h1
    have q2:((k:Int)==j)=false:=by simpa using h2
    have aF:((k:Int) != j)=true:=by simpa using h2
    have q3:((k:Int)==U)=true:=by simpa using h3
    have a0:((k:Int) != U)=false:=by simpa using h3
    clear h1 h2 h3
    go_wp2_with fail
    go_loopw [5,12] (fun v i wr=>∃(s:Nat) (A:Option Addr) (m c:Nat),(s:Int)<=bR (k:Int)/\i = .int .i64 ((s:Int)+1)/\v = .slice A m c/\m<=2+8 * r+2 * k+s/\Own (w.alloc (.cells (dv d) 36)).heap.size wr A m c (jB d t++iH d t pin r++jC d t pin (r:Int) k++iM d t pin (r:Int) (k:Int) s)/\Below (w.alloc (.cells (dv d) 36)).heap.size (w.alloc (.cells (dv d) 36)) wr) (fun _ i _=>4 - (intOf i).toNat)
    ·exact ⟨0,A,m,c,by omega,rfl,rfl,by omega,by simpa [iM] using G.out,I.out⟩
    obtain ⟨s,A,m,c,aY,rfl,rfl,hn,ho,D⟩:=hrel
    obtain ⟨G,I⟩:=hd2 ho D
    have hs:=D.size
    simp only [World.size_alloc] at hs
    clear hcc q
    obtain ⟨hcc,q⟩:=bG D
    clear ho D
    have hZ:1+(k:Int) % 2=bR (k:Int):=HL.out
    by_cases z:(s:Int)+1<=bR (k:Int)
    ·have aK:=z
     rw [←hZ] at z
     have au:decide ((s:Int)+1<=1+(k:Int) % 2)=true:=by simpa using z
     clear hZ
     have u:(s:Int)+1<1+(k:Int) % 2∨¬(s:Int)+1<1+(k:Int) % 2:=by omega
     rcases u with u|u
     ·have W:decide ((s:Int)+1<1+(k:Int) % 2)=true:=by simpa using u
      have B:=Hd (oC (t:=t) ((ah.out ((s:Int)+1)).trans (decide_eq_false (by have:=HL.out;omega))))
      clear hcc q
      go_wp2_with fail
      go_roundw
      ·exact ⟨s+1,A,m,c,by omega,by go_num,rfl,by omega,by rw [(V s).out,B.out,List.append_nil];exact G.out,I.out⟩
      simp [intOf];omega
     have W:decide ((s:Int)+1<1+(k:Int) % 2)=false:=by simp;omega
     have B:=Hd (nN (t:=t) ((ah.out ((s:Int)+1)).trans (decide_eq_true (by have:=HL.out;omega))))
     generalize hP:av d t (((r:Int)+2) % 4) ((s:Int)+1)=P at *
     have HP:=Hd hP
     have am:=kI (d:=d) (t:=t) (r:=((r:Int)+2) % 4) (s:=(s:Int)+1) HD.out
     rw [hP] at am
     clear hP
     generalize hC:jk d t (r:Int) (k:Int) ((s:Int)+1)=C at *
     have HC:Hid (∀w,Calls Tryz.prog 234 #[.agg (dv d),.int .i64 P,.int .i64 (r:Int),.int .i64 (k:Int)] w fun e w'=>e = .returned (.int .i64 C)/\Below w.heap.size w w'):=fun w=>by
      have h:=jw d P (r:Int) (k:Int) w HD.out (by omega) (by omega) (by omega) (by omega) (by omega)
      rwa [show eD d P (r:Int) (k:Int)=C from by rw [←hC,jk,HP.out]] at h
     have ap:Hid (∀w,Calls Tryz.prog 230 #[.agg (dv d),.int .i64 t,.int .i64 (((r:Int)+2) % 4),.int .i64 ((s:Int)+1)] w fun e w'=>e = .returned (.int .i64 P)/\Below w.heap.size w w'):=fun w=>by
      have h:=iC d t (((r:Int)+2) % 4) ((s:Int)+1) w aw.out (by omega) (by omega) (by omega) (by omega)
      rwa [HP.out] at h
     have a9:=Hd hC
     clear hC
     have e3:((r:Int)+2).tmod 4=((r:Int)+2) % 4:=Int.tmod_eq_emod_of_nonneg (by omega)
     have e4:IntKind.i64.wrap ((r:Int)+2)=(r:Int)+2:=IntWalk.i64_in _ (by omega)
     have a2:w.heap.size<wr.heap.size:=by omega
     go_wp2_with fail
     have Z:=aX wr
     have ar:=aP wr
     refine wpB wr ?_
     repeat (go_big_quiet_step ((first
      | (go_at_call 230;with_reducible exact aN (ap.out _))
      | (go_at_call 234;with_reducible exact aN (HC.out _)))))
     refine wpQuiet_nil ?_
     rintro _ ⟨⟨w2,hD⟩,rfl⟩
     clear Z ar hcc q e3 e4
     have R:=Hd (aA I.out hD)
     have ae:=Hd (G.out.below hD)
     have aR:=hD.size
     clear hD
     by_cases a4:C≥0
     ·have J:=Hd (kN (x:=C) (by omega))
      go_wp2_with (at_builtin;refine fw rfl _ _ rfl (w.alloc (.cells (dv d) 36)).heap.size A m c _ C rfl ae.out rfl (by omega) (by simp;omega) R.out ?_;rintro g4 c4 w4 o4 b4 - -)
      go_roundw
      ·exact ⟨s+1,_,m+1,c4,by omega,by go_num,rfl,by omega,by rw [(V s).out,B.out,J.out,←List.append_assoc];exact o4,b4⟩
      simp [intOf];omega
     have J:=Hd (lL (x:=C) (by omega))
     go_wp2_with fail
     go_roundw
     ·exact ⟨s+1,A,m,c,by omega,by go_num,rfl,by omega,by rw [(V s).out,B.out,J.out,List.append_nil];exact ae.out,R.out⟩
     simp [intOf];omega
    have ad:(bR (k:Int)).toNat=s:=by omega
    have aq:=Hd ad
    rw [←hZ] at z
    have au:decide ((s:Int)+1<=1+(k:Int) % 2)=false:=by simp;omega
    clear ad hZ
    go_wp2_with fail
    go_roundw
    ·exact ⟨k+1,A,m,c,by omega,by go_num,rfl,by omega,by rw [ai.out,aq.out,←List.append_assoc];exact G.out,I.out⟩
    simp [intOf];omega
   have aG:d.T=(k:Int):=by omega
   have aU:=Hd aG
   have be:decide ((k:Int)<d.T)=false:=by simp;omega
   clear aG
   go_wp2_with fail
   go_roundw
   ·exact ⟨r+1,A,m,c,by omega,by go_num,rfl,by omega,by rw [a8.out,show d.T.toNat=k by have:=aU.out;omega,←List.append_assoc];exact G.out,I.out⟩
   simp [intOf];omega
  have aI:r=4:=by omega
  have a3:=Hd aI
  have aZ:decide ((r:Int)<4)=false:=by simp;omega
  have bu:=Hd G.out.len
  clear aI hcc q
  go_wp2_with fail
  refine (oH A m c _ _ G.out.ints (by omega)).mono ?_
  rintro e w9 ⟨A9,c9,rfl,⟨ys,oy,py,sy⟩,b9⟩
  have HY:=Hd oy
  have a5:=Hd (aA bo.out (aA I.out b9))
  have HE:=Hd (aE.out ys (by rw [a3.out] at py;unfold jl;rw [if_pos bt];exact py) sy)
  clear oy py sy b9
  go_wp2_with fail
  go_ret
  exact ⟨A9,m,c9,rfl,by rw [←HE.out];exact HY.out.more (by omega),a5.out⟩
 have aC:Hid (jB d t=[X0,ed d t 1]):=by show _=_;rw [aO.out];rfl
 clear aO
 go_wp2_with (go_at_call 233;refine (HC.out _).mono ?_;rintro e w' ⟨rfl,rfl⟩)
 refine (tY d t 1 _ aw.out (by omega) (by omega)).mono ?_
 rintro e w8 ⟨rfl,b8⟩
 have bZ:=Hd (aA bf.out b8)
 have N8:=Hd (N7.out.below b8)
 have cq:=b8.size
 clear b8 hcc q
 generalize ed d t 1=X1 at *
 go_wp2_with (at_builtin;refine fw rfl _ _ rfl (w.alloc (.cells (dv d) 36)).heap.size _ 1 c6 [X0] X1 rfl N8.out rfl (by omega) (by simp;omega) bZ.out ?_;rintro g9 c9 w9 o9 b9 - -;have aV:=Hd b9;have N9:=Hd o9;clear o9 b9)
 have NS:Hid (Own (w.alloc (.cells (dv d) 36)).heap.size w9 (some ⟨g9,0,none⟩) 2 c9 (jB d t)):=by show Own _ _ _ _ _ _;rw [aC.out];exact N9.out
 go_loopw [5,10] (fun v i wr=>∃(r:Nat) (A:Option Addr) (m c:Nat),r<=4/\i = .int .i64 r/\v = .slice A m c/\m<=2+8 * r/\Own (w.alloc (.cells (dv d) 36)).heap.size wr A m c (jB d t++iH d t pin r)/\Below (w.alloc (.cells (dv d) 36)).heap.size (w.alloc (.cells (dv d) 36)) wr) (fun _ i _=>4 - (intOf i).toNat)
 ·exact ⟨0,_,_,_,by omega,rfl,rfl,by omega,by simpa [iH] using NS.out,aV.out⟩
 obtain ⟨r,A,m,c,hr,rfl,rfl,hn,ho,D⟩:=hrel
 obtain ⟨G,I⟩:=hd2 ho D
 have hs:=D.size
 simp only [World.size_alloc] at hs
 obtain ⟨hcc,q⟩:=bG D
 clear ho D
 by_cases bL:r<4
 ·have aZ:decide ((r:Int)<4)=true:=by simp;omega
  have a8:=Hd (nX d t pin r)
  clear hcc q
  go_wp2_with fail
  go_loopw [5,11] (fun v i wr=>∃(k:Nat) (A:Option Addr) (m c:Nat),(k:Int)<=d.T/\i = .int .i64 k/\v = .slice A m c/\m<=2+8 * r+2 * k/\Own (w.alloc (.cells (dv d) 36)).heap.size wr A m c (jB d t++iH d t pin r++jC d t pin (r:Int) k)/\Below (w.alloc (.cells (dv d) 36)).heap.size (w.alloc (.cells (dv d) 36)) wr) (fun _ i _=>d.T.toNat - (intOf i).toNat)
  ·exact ⟨0,A,m,c,by omega,rfl,rfl,by omega,by simpa [jC] using G.out,I.out⟩
  obtain ⟨k,A,m,c,hk,rfl,rfl,hn,ho,D⟩:=hrel
  obtain ⟨G,I⟩:=hd2 ho D
  have hs:=D.size
  simp only [World.size_alloc] at hs
  obtain ⟨hcc,q⟩:=bG D
  have ai:=Hd (nW d t pin (r:Int) k)
  clear ho D
  by_cases bg:(k:Int)<d.T
  ·have be:decide ((k:Int)<d.T)=true:=by simpa using bg
   have hL:bR (k:Int)=1+(k:Int) % 2:=rfl
   have bK:1<=bR (k:Int)/\bR (k:Int)<=2:=by rw [hL];omega
   have HL:=Hd hL.symm
   have V:=fun s=>Hd (nV d t pin (r:Int) (k:Int) s)
   clear hL
   have H:=aH.out (r:Int) (k:Int)
   have H:=Hd H
   by_cases Y:(r:Int)=o∨(¬(k:Int)=j/\¬(k:Int)=U)
   ·have ak:=Hd (rF (d:=d) (t:=t) (pin:=pin) (r:=(r:Int)) (k:=(k:Int)) (s:=(bR (k:Int)).toNat) (fun s=>by rw [H.out];simp;omega))
    have ag:(r:Int)=o∨(¬(r:Int)=o/\¬(k:Int)=j/\¬(k:Int)=U):=by omega
    clear Y
    rcases ag with h|⟨h1,h2,h3⟩
    ·have q1:((r:Int)==o)=true:=by simpa using h
     clear h
     go_wp2_with fail
     go_roundw
     ·exact ⟨k+1,A,m,c,by omega,by go_num,rfl,by omega,by rw [ai.out,ak.out,List.append_nil];exact G.out,I.out⟩
     simp [intOf];omega
    have q1:((r:Int)==o)=false:=by simpa using h1
    have q2:((k:Int)==j)=false:=by simpa using h2
    have aF:((k:Int) != j)=true:=by simpa using h2
    have q3:((k:Int)==U)=false:=by simpa using h3
    have a0:((k:Int) != U)=true:=by simpa using h3
    clear h1 h2 h3
    go_wp2_with fail
    go_roundw
    ·exact ⟨k+1,A,m,c,by omega,by go_num,rfl,by omega,by rw [ai.out,ak.out,List.append_nil];exact G.out,I.out⟩
    simp [intOf];omega
   have ag:(¬(r:Int)=o/\(k:Int)=j)∨(¬(r:Int)=o/\¬(k:Int)=j/\(k:Int)=U):=by omega
   have ah:Hid (∀s,lu d pin (r:Int) (k:Int) s=decide (s=bR (k:Int))):=by
    intro s
    rw [H.out,decide_eq_true (show (r:Int)≠o by omega)]
    rcases ag with h|h
    ·rw [decide_eq_true h.2];simp
    rw [decide_eq_true h.2.2];simp
   clear H Y
   rcases ag with ⟨h1,h2⟩|⟨h1,h2,h3⟩
   ·have q1:((r:Int)==o)=false:=by simpa using h1
    have q2:((k:Int)==j)=true:=by simpa using h2
    have aF:((k:Int) != j)=false:=by simpa using h2
    clear h1 h2
    go_wp2_with fail
    go_loopw [5,12] (fun v i wr=>∃(s:Nat) (A:Option Addr) (m c:Nat),(s:Int)<=bR (k:Int)/\i = .int .i64 ((s:Int)+1)/\v = .slice A m c/\m<=2+8 * r+2 * k+s/\Own (w.alloc (.cells (dv d) 36)).heap.size wr A m c (jB d t++iH d t pin r++jC d t pin (r:Int) k++iM d t pin (r:Int) (k:Int) s)/\Below (w.alloc (.cells (dv d) 36)).heap.size (w.alloc (.cells (dv d) 36)) wr) (fun _ i _=>4 - (intOf i).toNat)
    ·exact ⟨0,A,m,c,by omega,rfl,rfl,by omega,by simpa [iM] using G.out,I.out⟩
    obtain ⟨s,A,m,c,aY,rfl,rfl,hn,ho,D⟩:=hrel
    obtain ⟨G,I⟩:=hd2 ho D
    have hs:=D.size
    simp only [World.size_alloc] at hs
    clear hcc q
    obtain ⟨hcc,q⟩:=bG D
    clear ho D
    have hZ:1+(k:Int) % 2=bR (k:Int):=HL.out
    by_cases z:(s:Int)+1<=bR (k:Int)
    ·have aK:=z
     rw [←hZ] at z
     have au:decide ((s:Int)+1<=1+(k:Int) % 2)=true:=by simpa using z
     clear hZ
     have u:(s:Int)+1<1+(k:Int) % 2∨¬(s:Int)+1<1+(k:Int) % 2:=by omega
     rcases u with u|u
     ·have W:decide ((s:Int)+1<1+(k:Int) % 2)=true:=by simpa using u
      have B:=Hd (oC (t:=t) ((ah.out ((s:Int)+1)).trans (decide_eq_false (by have:=HL.out;omega))))
      clear hcc q
      go_wp2_with fail
      go_roundw
      ·exact ⟨s+1,A,m,c,by omega,by go_num,rfl,by omega,by rw [(V s).out,B.out,List.append_nil];exact G.out,I.out⟩
      simp [intOf];omega
     have W:decide ((s:Int)+1<1+(k:Int) % 2)=false:=by simp;omega
     have B:=Hd (nN (t:=t) ((ah.out ((s:Int)+1)).trans (decide_eq_true (by have:=HL.out;omega))))
     generalize hP:av d t (((r:Int)+2) % 4) ((s:Int)+1)=P at *
     have HP:=Hd hP
     have am:=kI (d:=d) (t:=t) (r:=((r:Int)+2) % 4) (s:=(s:Int)+1) HD.out
     rw [hP] at am
     clear hP
     generalize hC:jk d t (r:Int) (k:Int) ((s:Int)+1)=C at *
     have HC:Hid (∀w,Calls Tryz.prog 234 #[.agg (dv d),.int .i64 P,.int .i64 (r:Int),.int .i64 (k:Int)] w fun e w'=>e = .returned (.int .i64 C)/\Below w.heap.size w w'):=fun w=>by
      have h:=jw d P (r:Int) (k:Int) w HD.out (by omega) (by omega) (by omega) (by omega) (by omega)
      rwa [show eD d P (r:Int) (k:Int)=C from by rw [←hC,jk,HP.out]] at h
     have ap:Hid (∀w,Calls Tryz.prog 230 #[.agg (dv d),.int .i64 t,.int .i64 (((r:Int)+2) % 4),.int .i64 ((s:Int)+1)] w fun e w'=>e = .returned (.int .i64 P)/\Below w.heap.size w w'):=fun w=>by
      have h:=iC d t (((r:Int)+2) % 4) ((s:Int)+1) w aw.out (by omega) (by omega) (by omega) (by omega)
      rwa [HP.out] at h
     have a9:=Hd hC
     clear hC
     have e3:((r:Int)+2).tmod 4=((r:Int)+2) % 4:=Int.tmod_eq_emod_of_nonneg (by omega)
     have e4:IntKind.i64.wrap ((r:Int)+2)=(r:Int)+2:=IntWalk.i64_in _ (by omega)
     have a2:w.heap.size<wr.heap.size:=by omega
     go_wp2_with fail
     have Z:=aX wr
     have ar:=aP wr
     refine wpB wr ?_
     repeat (go_big_quiet_step ((first
      | (go_at_call 230;with_reducible exact aN (ap.out _))
      | (go_at_call 234;with_reducible exact aN (HC.out _)))))
     refine wpQuiet_nil ?_
     rintro _ ⟨⟨w2,hD⟩,rfl⟩
     clear Z ar hcc q e3 e4
     have R:=Hd (aA I.out hD)
     have ae:=Hd (G.out.below hD)
     have aR:=hD.size
     clear hD
     by_cases a4:C≥0
     ·have J:=Hd (kN (x:=C) (by omega))
      go_wp2_with (at_builtin;refine fw rfl _ _ rfl (w.alloc (.cells (dv d) 36)).heap.size A m c _ C rfl ae.out rfl (by omega) (by simp;omega) R.out ?_;rintro g4 c4 w4 o4 b4 - -)
      go_roundw
      ·exact ⟨s+1,_,m+1,c4,by omega,by go_num,rfl,by omega,by rw [(V s).out,B.out,J.out,←List.append_assoc];exact o4,b4⟩
      simp [intOf];omega
     have J:=Hd (lL (x:=C) (by omega))
     go_wp2_with fail
     go_roundw
     ·exact ⟨s+1,A,m,c,by omega,by go_num,rfl,by omega,by rw [(V s).out,B.out,J.out,List.append_nil];exact ae.out,R.out⟩
     simp [intOf];omega
    have ad:(bR (k:Int)).toNat=s:=by omega
    have aq:=Hd ad
    rw [←hZ] at z
    have au:decide ((s:Int)+1<=1+(k:Int) % 2)=false:=by simp;omega
    clear ad hZ
    go_wp2_with fail
    go_roundw
    ·exact ⟨k+1,A,m,c,by omega,by go_num,rfl,by omega,by rw [ai.out,aq.out,←List.append_assoc];exact G.out,I.out⟩
    simp [intOf];omega
   have q1:((r:Int)==o)=false:=by simpa using h1
   have q2:((k:Int)==j)=false:=by simpa using h2
   have aF:((k:Int) != j)=true:=by simpa using h2
   have q3:((k:Int)==U)=true:=by simpa using h3
   have a0:((k:Int) != U)=false:=by simpa using h3
   clear h1 h2 h3
   go_wp2_with fail
   go_loopw [5,12] (fun v i wr=>∃(s:Nat) (A:Option Addr) (m c:Nat),(s:Int)<=bR (k:Int)/\i = .int .i64 ((s:Int)+1)/\v = .slice A m c/\m<=2+8 * r+2 * k+s/\Own (w.alloc (.cells (dv d) 36)).heap.size wr A m c (jB d t++iH d t pin r++jC d t pin (r:Int) k++iM d t pin (r:Int) (k:Int) s)/\Below (w.alloc (.cells (dv d) 36)).heap.size (w.alloc (.cells (dv d) 36)) wr) (fun _ i _=>4 - (intOf i).toNat)
   ·exact ⟨0,A,m,c,by omega,rfl,rfl,by omega,by simpa [iM] using G.out,I.out⟩
   obtain ⟨s,A,m,c,aY,rfl,rfl,hn,ho,D⟩:=hrel
   obtain ⟨G,I⟩:=hd2 ho D
   have hs:=D.size
   simp only [World.size_alloc] at hs
   clear hcc q
   obtain ⟨hcc,q⟩:=bG D
   clear ho D
   have hZ:1+(k:Int) % 2=bR (k:Int):=HL.out
   by_cases z:(s:Int)+1<=bR (k:Int)
   ·have aK:=z
    rw [←hZ] at z
    have au:decide ((s:Int)+1<=1+(k:Int) % 2)=true:=by simpa using z
    clear hZ
    have u:(s:Int)+1<1+(k:Int) % 2∨¬(s:Int)+1<1+(k:Int) % 2:=by omega
    rcases u with u|u
    ·have W:decide ((s:Int)+1<1+(k:Int) % 2)=true:=by simpa using u
     have B:=Hd (oC (t:=t) ((ah.out ((s:Int)+1)).trans (decide_eq_false (by have:=HL.out;omega))))
     clear hcc q
     go_wp2_with fail
     go_roundw
     ·exact ⟨s+1,A,m,c,by omega,by go_num,rfl,by omega,by rw [(V s).out,B.out,List.append_nil];exact G.out,I.out⟩
     simp [intOf];omega
    have W:decide ((s:Int)+1<1+(k:Int) % 2)=false:=by simp;omega
    have B:=Hd (nN (t:=t) ((ah.out ((s:Int)+1)).trans (decide_eq_true (by have:=HL.out;omega))))
    generalize hP:av d t (((r:Int)+2) % 4) ((s:Int)+1)=P at *
    have HP:=Hd hP
    have am:=kI (d:=d) (t:=t) (r:=((r:Int)+2) % 4) (s:=(s:Int)+1) HD.out
    rw [hP] at am
    clear hP
    generalize hC:jk d t (r:Int) (k:Int) ((s:Int)+1)=C at *
    have HC:Hid (∀w,Calls Tryz.prog 234 #[.agg (dv d),.int .i64 P,.int .i64 (r:Int),.int .i64 (k:Int)] w fun e w'=>e = .returned (.int .i64 C)/\Below w.heap.size w w'):=fun w=>by
     have h:=jw d P (r:Int) (k:Int) w HD.out (by omega) (by omega) (by omega) (by omega) (by omega)
     rwa [show eD d P (r:Int) (k:Int)=C from by rw [←hC,jk,HP.out]] at h
    have ap:Hid (∀w,Calls Tryz.prog 230 #[.agg (dv d),.int .i64 t,.int .i64 (((r:Int)+2) % 4),.int .i64 ((s:Int)+1)] w fun e w'=>e = .returned (.int .i64 P)/\Below w.heap.size w w'):=fun w=>by
     have h:=iC d t (((r:Int)+2) % 4) ((s:Int)+1) w aw.out (by omega) (by omega) (by omega) (by omega)
     rwa [HP.out] at h
    have a9:=Hd hC
    clear hC
    have e3:((r:Int)+2).tmod 4=((r:Int)+2) % 4:=Int.tmod_eq_emod_of_nonneg (by omega)
    have e4:IntKind.i64.wrap ((r:Int)+2)=(r:Int)+2:=IntWalk.i64_in _ (by omega)
    have a2:w.heap.size<wr.heap.size:=by omega
    go_wp2_with fail
    have Z:=aX wr
    have ar:=aP wr
    refine wpB wr ?_
    repeat (go_big_quiet_step ((first
     | (go_at_call 230;with_reducible exact aN (ap.out _))
     | (go_at_call 234;with_reducible exact aN (HC.out _)))))
    refine wpQuiet_nil ?_
    rintro _ ⟨⟨w2,hD⟩,rfl⟩
    clear Z ar hcc q e3 e4
    have R:=Hd (aA I.out hD)
    have ae:=Hd (G.out.below hD)
    have aR:=hD.size
    clear hD
    by_cases a4:C≥0
    ·have J:=Hd (kN (x:=C) (by omega))
     go_wp2_with (at_builtin;refine fw rfl _ _ rfl (w.alloc (.cells (dv d) 36)).heap.size A m c _ C rfl ae.out rfl (by omega) (by simp;omega) R.out ?_;rintro g4 c4 w4 o4 b4 - -)
     go_roundw
     ·exact ⟨s+1,_,m+1,c4,by omega,by go_num,rfl,by omega,by rw [(V s).out,B.out,J.out,←List.append_assoc];exact o4,b4⟩
     simp [intOf];omega
    have J:=Hd (lL (x:=C) (by omega))
    go_wp2_with fail
    go_roundw
    ·exact ⟨s+1,A,m,c,by omega,by go_num,rfl,by omega,by rw [(V s).out,B.out,J.out,List.append_nil];exact ae.out,R.out⟩
    simp [intOf];omega
   have ad:(bR (k:Int)).toNat=s:=by omega
   have aq:=Hd ad
   rw [←hZ] at z
   have au:decide ((s:Int)+1<=1+(k:Int) % 2)=false:=by simp;omega
   clear ad hZ
   go_wp2_with fail
   go_roundw
   ·exact ⟨k+1,A,m,c,by omega,by go_num,rfl,by omega,by rw [ai.out,aq.out,←List.append_assoc];exact G.out,I.out⟩
   simp [intOf];omega
  have aG:d.T=(k:Int):=by omega
  have aU:=Hd aG
  have be:decide ((k:Int)<d.T)=false:=by simp;omega
  clear aG
  go_wp2_with fail
  go_roundw
  ·exact ⟨r+1,A,m,c,by omega,by go_num,rfl,by omega,by rw [a8.out,show d.T.toNat=k by have:=aU.out;omega,←List.append_assoc];exact G.out,I.out⟩
  simp [intOf];omega
 have aI:r=4:=by omega
 have a3:=Hd aI
 have aZ:decide ((r:Int)<4)=false:=by simp;omega
 have bu:=Hd G.out.len
 clear aI hcc q
 go_wp2_with fail
 refine (oH A m c _ _ G.out.ints (by omega)).mono ?_
 rintro e w9 ⟨A9,c9,rfl,⟨ys,oy,py,sy⟩,b9⟩
 have HY:=Hd oy
 have a5:=Hd (aA bo.out (aA I.out b9))
 have HE:=Hd (aE.out ys (by rw [a3.out] at py;unfold jl;rw [if_pos bt];exact py) sy)
 clear oy py sy b9
 go_wp2_with fail
 go_ret
 exact ⟨A9,m,c9,rfl,by rw [←HE.out];exact HY.out.more (by omega),a5.out⟩
theorem qi (d:Dev) (n:Int) (w:World) (h:bI d n=false∨(bI d n=true/\(n % aQ d=5∨n % aQ d=6))) :
  Calls Tryz.prog 146 #[.agg (dv d),.int .i64 n] w fun e w'=>∃A m c,e = .returned (.slice A m c)/\Own w.heap.size w' A m c (jT d n)/\Below w.heap.size w w':=by
 have G:=Hd (aD (Below.refl w.heap.size w) (.cells (dv d) 36))
 rcases h with j|⟨j,h5⟩
 ·have K:=Hd (Ba j)
  have z:Hid (∀w,Calls Tryz.prog 207 #[.agg (dv d),.int .i64 n] w fun e w'=>e = .returned (.bool false)/\Below w.heap.size w w'):=fun w=>by have h:=iE d n w;rwa [j] at h
  clear j
  go_enter Tryz.func146,Tryz.ntmps146
  go_wp2_with fail
  refine (z.out _).mono ?_
  rintro e W ⟨rfl,u⟩
  have V:=Hd ((Own.newAt (w:=(w.alloc (.cells (dv d) 36))) (base:=(w.alloc (.cells (dv d) 36)).heap.size) (g:=w.heap.size+1) (by simp) (by simp)).below u)
  have q:=Hd (aA (aD G.out _) u)
  clear u
  go_wp2_with fail
  go_ret
  exact ⟨_,0,0,rfl,by rw [K.out];exact V.out.more (by simp),q.out⟩
 have K:=Hd (zR h5)
 have D:fD d n=true:=by unfold bI at j;rw [Bool.and_eq_true] at j;exact j.1
 obtain ⟨I,Y,n1,aj,ae,ak,ad⟩:=jG D
 have hT:=ay I
 have hp:=eT I
 have Z:=fM I
 have z:Hid (∀w,Calls Tryz.prog 207 #[.agg (dv d),.int .i64 n] w fun e w'=>e = .returned (.bool true)/\Below w.heap.size w w'):=fun w=>by have h:=iE d n w;rwa [j] at h
 have e0:¬aQ d=0:=by omega
 have e1:n.tmod (aQ d)=n % aQ d:=Int.tmod_eq_emod_of_nonneg Y
 have e2:IntKind.i64.wrap (n.tdiv (aQ d))=n / aQ d:=IntWalk.i64_quo _ _ ⟨Y,by omega,by omega⟩
 clear j D I
 go_enter Tryz.func146,Tryz.ntmps146
 go_wp2_with fail
 refine (z.out _).mono ?_
 rintro e W ⟨rfl,u⟩
 have V:=Hd ((Own.newAt (w:=(w.alloc (.cells (dv d) 36))) (base:=(w.alloc (.cells (dv d) 36)).heap.size) (g:=w.heap.size+1) (by simp) (by simp)).below u)
 have q:=Hd (aA (aD (Below.refl _ _) _) u:Below (w.alloc (.cells (dv d) 36)).heap.size (w.alloc (.cells (dv d) 36)) W)
 have U:=u.size
 simp only [World.size_alloc] at U
 clear u
 obtain ⟨hcc,B⟩:=bG q.out
 go_wp2_with fail
 refine (eG d _ (by omega) (by omega)).mono ?_
 rintro e w2 ⟨rfl,J⟩
 have H:=Hd (aA q.out J)
 have N2:=Hd (V.out.below J)
 have af:=J.size
 clear J hcc B
 obtain ⟨hcc,B⟩:=bG H.out
 go_wp2_with fail
 refine (eG d _ (by omega) (by omega)).mono ?_
 rintro e w3 ⟨rfl,Q⟩
 have R:=Hd (aA G.out (aA H.out Q))
 have N3:=Hd (N2.out.below Q)
 clear Q hcc B
 generalize n % aQ d=pin at *
 have h2:((pin==5)=true)∨((pin==5)=false/\(pin==6)=true):=by
  rcases h5 with h|h
  ·exact .inl (by simpa using h)
  exact .inr ⟨by simp;omega,by simpa using h⟩
 clear h5
 rcases h2 with q5|⟨q5,q6⟩
 all_goals
  go_wp2_with fail
  go_ret
  exact ⟨_,0,0,rfl,by rw [K.out];exact N3.out.more (by simp),R.out⟩
theorem xQ (d:Dev) (n:Int) (w:World) :
  Calls Tryz.prog 146 #[.agg (dv d),.int .i64 n] w fun e w'=>∃A m c,e = .returned (.slice A m c)/\Own w.heap.size w' A m c (jT d n)/\Below w.heap.size w w':=by
 cases g:bI d n with
 | false=>exact qi d n w (.inl g)
 | true =>
  by_cases h5:n % aQ d=5∨n % aQ d=6
  ·exact qi d n w (.inr ⟨g,h5⟩)
  rcases Int.lt_or_le (n % aQ d) 5 with h|h
  ·exact xP d n w g h
  exact vw d n w g (by omega)
end Go.Proofs.YtofihjoanjkdmaaGreat
