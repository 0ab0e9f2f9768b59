/- Pins and wires as nodes, which nodes exist: the reference's functions. -/
import Derived.Test.YtofihjoanjkdmaaGreatRtS
import Derived.Test.YtofihjoanjkdmaaGreatRtS3
namespace Go.Proofs.YtofihjoanjkdmaaGreat
set_option maxHeartbeats 8000000
set_option maxRecDepth 100000
open Go.RowKit
theorem om (d:Dev) (t p:Int) (w:World) (ht:au d t=true) (hp0:0<=p) (hp1:p<=10) :
  Calls Tryz.prog 209 #[.agg #[.int .i64 d.W,.int .i64 d.H,.int .i64 d.T,.int .i64 d.R],.int .i64 t,.int .i64 p] w fun e w'=>e = .returned (.int .i64 (dZ d t p))/\Below w.heap.size w w':=by
 have HO:Hid (dZ d t p=if au d t=true/\0<=p/\p<dV (bA d t) then t * aX d+5+p else -1):=rfl
 obtain ⟨hd,ht0,ht1⟩:=aW.1 ht
 have hWH:=eG hd
 have hT:=bC hd
 have hp:=dw hd
 have hop:=gG d t
 have HM:=Hd (iM ht0 (show t<=35 by omega) (show 0<=aX d by omega) hp.2)
 have HT:=Hd ht
 have hdp:decide (p<0)=false:=by simp;omega
 clear ht hd
 go_enter Tryz.func209,Tryz.ntmps209
 go_wp2_with fail
 refine (fM d t _ HT.out).mono ?_
 rintro e w2 ⟨rfl,b2⟩
 have B2:=Hd (aB (aF (Below.refl _ _) _) b2)
 have hs2:=b2.size
 simp only [World.size_alloc] at hs2
 obtain ⟨hcc,hff⟩:=bI b2
 clear b2
 generalize hK:bA d t=K at *
 have HK:=Hd hK
 clear hK
 have hQ:∃Q,dV K=Q:=⟨_,rfl⟩
 obtain ⟨Q,hQ⟩:=hQ
 rw [hQ] at hop HO
 have HC:Hid (∀w,Calls Tryz.prog 233 #[.int .i64 K] w fun e w'=>e = .returned (.int .i64 Q)/\w=w'):=fun w=>by have:=jX K w;rwa [hQ] at this
 clear hQ
 by_cases hin:p<Q
 ·have hh:decide (p≥Q)=false:=by simp;omega
  go_wp2_with (go_at_call 233;refine (HC.out _).mono ?_;rintro e w' ⟨rfl,rfl⟩)
  refine (dh d _ (by omega) (by omega)).mono ?_
  rintro e w3 ⟨rfl,b3⟩
  have B3:=Hd (aB B2.out b3)
  have hM:=HM.out
  clear b3 hcc hff
  go_wp2_with fail
  go_ret
  exact ⟨aQ (by rw [HO.out,if_pos ⟨HT.out,by omega,by omega⟩]),B3.out⟩
 ·have hh:decide (p≥Q)=true:=by simp;omega
  go_wp2_with (go_at_call 233;refine (HC.out _).mono ?_;rintro e w' ⟨rfl,rfl⟩)
  go_ret
  exact ⟨aQ (by rw [HO.out,if_neg];rintro ⟨_,h0,h1⟩;omega),B2.out⟩
theorem il (d:Dev) (t r k:Int) (w:World) (hd:dQ d=true) (htb:t<=1099511627776) (hr0:0<=r) (hr3:r<=3) (hk0:0<=k) (hk1:k<d.T) :
  Calls Tryz.prog 234 #[.agg #[.int .i64 d.W,.int .i64 d.H,.int .i64 d.T,.int .i64 d.R],.int .i64 t,.int .i64 r,.int .i64 k] w fun e w'=>e = .returned (.int .i64 (dJ d t r k))/\Below w.heap.size w w':=by
 have HO:Hid (dJ d t r k=if au d t=true/\(0<=r/\r<=3)/\(0<=k/\k<d.T)/\0<=ah d t r (bP k) then t * aX d+7+r * d.T+k else -1):=rfl
 have hT:=bC hd
 have hWH:=eG hd
 have hp:=dw hd
 have HD:=Hd hd
 clear hd
 cases ht:au d t with
 | false =>
  have HT:=Hd ht
  clear ht
  go_enter Tryz.func234,Tryz.ntmps234
  go_wp2_with fail
  refine (nM d t _ HT.out htb).mono ?_
  rintro e w2 ⟨rfl,b2⟩
  have B2:=Hd (aB (aF (Below.refl _ _) _) b2)
  clear b2
  go_wp2_with fail
  go_ret
  exact ⟨aQ (by rw [HO.out,if_neg (by rw [HT.out];simp)]),B2.out⟩
 | true =>
  obtain ⟨_,ht0,ht1⟩:=aW.1 ht
  have HT:=Hd ht
  have hL:bP k=1+k % 2:=rfl
  have hL2:1<=bP k/\bP k<=2:=by rw [hL];omega
  have HL:=Hd hL.symm
  clear ht hL
  have hdk:decide (k<0)=false:=by simp;omega
  have hdk':decide (k≥d.T)=false:=by simp;omega
  go_enter Tryz.func234,Tryz.ntmps234
  go_wp2_with fail
  refine (fM d t _ HT.out).mono ?_
  rintro e w2 ⟨rfl,b2⟩
  have hk3:=ji d t
  generalize bA d t=K at *
  have hdK:decide (K<0)=false:=by simp;omega
  have B2:=Hd b2
  have hs2:=b2.size
  simp only [World.size_alloc] at hs2
  obtain ⟨hcc,hff⟩:=bI b2
  clear b2
  go_wp2_with fail
  rw [HL.out]
  generalize hLL:bP k=L at *
  generalize hP:ah d t r L=P at *
  have HP:=Hd hP
  have HC:Hid (∀w,Calls Tryz.prog 230 #[.agg #[.int .i64 d.W,.int .i64 d.H,.int .i64 d.T,.int .i64 d.R],.int .i64 t,.int .i64 r,.int .i64 L] w fun e w'=>e = .returned (.int .i64 P)/\Below w.heap.size w w'):=fun w=>by have:=gF d t r L w HT.out hr0 hr3 (by omega) (by omega);rwa [hP] at this
  clear hP hLL
  refine (HC.out _).mono ?_
  rintro e w3 ⟨rfl,b3⟩
  have B3:=Hd (aB B2.out b3)
  have hs3:=b3.size
  clear b3 hcc hff
  obtain ⟨hcc,hff⟩:=bI B3.out
  by_cases hP0:P<0
  ·have hdP:decide (P<0)=true:=by simpa using hP0
   go_wp2_with fail
   go_ret
   exact ⟨aQ (by rw [HO.out,if_neg];rintro ⟨_,_,_,h⟩;omega),aB (aF (Below.refl _ _) _) B3.out⟩
  ·have hdP:decide (P<0)=false:=by simp;omega
   go_wp2_with fail
   have hwW:w.heap.size<w3.heap.size:=by omega
   have hsub:=aZ w3
   have hsc:=aR w3
   refine aI w3 (by kernel_rfl) (by kernel_rfl) (Below.refl _ _) ?_
   repeat (go_big_quiet_step ((go_at_call 68;with_reducible exact aO (dh d _ (by omega) (by omega)))))
   refine wpQuiet_nil ?_
   rintro _ ⟨⟨w4,hD⟩,rfl⟩
   clear hsub hsc
   have hM:=iM ht0 (show t<=35 by omega) (show 0<=aX d by omega) hp.2
   have hM2:=iM hr0 hr3 (show 0<=d.T by omega) (show d.T<=4 by omega)
   have HE:=Hd (And.intro (IntWalk.i64_in (t * aX d) (by omega)) (And.intro (IntWalk.i64_in (t * aX d+7) (by omega)) (And.intro (IntWalk.i64_in (r * d.T) (by omega)) (And.intro (IntWalk.i64_in (t * aX d+7+r * d.T) (by omega)) (IntWalk.i64_in (t * aX d+7+r * d.T+k) (by omega))))))
   have HE':=Hd (And.intro (IntWalk.wrap64_in (t * aX d) (by omega)) (And.intro (IntWalk.wrap64_in (t * aX d+7) (by omega)) (And.intro (IntWalk.wrap64_in (r * d.T) (by omega)) (And.intro (IntWalk.wrap64_in (t * aX d+7+r * d.T) (by omega)) (IntWalk.wrap64_in (t * aX d+7+r * d.T+k) (by omega))))))
   clear hM hM2
   go_wp2_with fail
   go_ret
   exact ⟨aQ (by rw [HO.out,if_pos ⟨HT.out,⟨hr0,hr3⟩,⟨hk0,hk1⟩,by omega⟩];first|rfl|(rw [HE.out.1,HE.out.2.1,HE.out.2.2.1,HE.out.2.2.2.1,HE.out.2.2.2.2])|(rw [HE'.out.1,HE'.out.2.1,HE'.out.2.2.1,HE'.out.2.2.2.1,HE'.out.2.2.2.2])),aB (aB (aF (Below.refl _ _) _) B3.out) hD⟩
theorem oz (d:Dev) (n:Int) (w:World) (hn:fF d n=true) (h7:7<=n % aX d) :
  Calls Tryz.prog 229 #[.agg #[.int .i64 d.W,.int .i64 d.H,.int .i64 d.T,.int .i64 d.R],.int .i64 n] w fun e w'=>e = .returned (.tuple #[.int .i64 ((n % aX d - 7) / d.T),.int .i64 ((n % aX d - 7) % d.T)])/\Below w.heap.size w w':=by
 obtain ⟨hd,n0,n1,hq0,hq1,hr0,hr1⟩:=jF hn
 have hT:=bC hd
 have hp:=dw hd
 have e0:¬aX d=0:=by omega
 have e1:n.tmod (aX d)=n % aX d:=Int.tmod_eq_emod_of_nonneg n0
 clear hn hd
 go_enter Tryz.func229,Tryz.ntmps229
 go_wp2_with fail
 refine (dh d _ (by omega) (by omega)).mono ?_
 rintro e w1 ⟨rfl,b1⟩
 have hb1:=b1.size
 simp only [World.size_alloc] at hb1
 obtain ⟨hcc,hff⟩:=bI b1
 have B1:=Hd (aB (aF (Below.refl _ _) _) b1)
 clear b1
 generalize hk:n % aX d=k at *
 have HK:=Hd hk
 clear hk
 go_wp2_with fail
 clear e0 e1
 have e0:¬d.T=0:=by omega
 have e1:(k - 7).tmod d.T=(k - 7) % d.T:=Int.tmod_eq_emod_of_nonneg (by omega)
 have e2:IntKind.i64.wrap ((k - 7).tdiv d.T)=(k - 7) / d.T:=IntWalk.i64_quo _ _ ⟨by omega,by omega,by omega⟩
 go_quiet (fail)
 go_wp2_with fail
 go_ret2
 exact ⟨by rw [HK.out];rfl,ay B1.out _⟩
theorem zR (d:Dev):0<=gK d/\gK d<=828:=by
 unfold gK
 split
 ·rename_i h;have:=fT h;omega
 ·omega
theorem kM {d:Dev} {n:Int}:fF d n=true↔0<=n/\n<gK d:=by
 unfold fF gK
 simp only [Bool.and_eq_true,decide_eq_true_eq]
 split
 ·rename_i h;simp [h]
 ·rename_i h;simp [h] <;> omega
theorem gQ (d:Dev) (n:Int) (w:World) :
  Calls Tryz.prog 207 #[.agg #[.int .i64 d.W,.int .i64 d.H,.int .i64 d.T,.int .i64 d.R],.int .i64 n] w fun e w'=>e = .returned (.bool (bH d n))/\Below w.heap.size w w':=by
 have hrn:=zR d
 by_cases h0:n<0
 ·have HR:Hid (bH d n=false):=by
   show _=false
   unfold bH
   cases h:fF d n with
   | false=>rfl
   | true=>have:=kM.1 h;omega
  have hd0:decide (n<0)=true:=by simpa using h0
  go_enter Tryz.func207,Tryz.ntmps207
  go_wp2_with fail
  go_ret
  exact ⟨bT HR.out.symm,aF (Below.refl _ _) _⟩
 ·have hd0:decide (n<0)=false:=by simp;omega
  by_cases h1:n<gK d
  ·have hni:fF d n=true:=kM.2 ⟨by omega,h1⟩
   have hd1:decide (n≥gK d)=false:=by simp;omega
   have HR:Hid (bH d n=oH d (n / aX d) (n % aX d)):=by show _=_;unfold bH;rw [hni];rfl
   have HN:=Hd hni
   obtain ⟨hd,n0,n1,hq0,hq1,hr0,hr1⟩:=jF hni
   have hT:=bC hd
   have hp:=dw hd
   have hWH:=eG hd
   have HTI:=Hd (jk hni)
   have e0:¬aX d=0:=by omega
   have e1:n.tmod (aX d)=n % aX d:=Int.tmod_eq_emod_of_nonneg n0
   have e2:IntKind.i64.wrap (n.tdiv (aX d))=n / aX d:=IntWalk.i64_quo _ _ ⟨n0,by omega,by omega⟩
   clear hni hd
   go_enter Tryz.func207,Tryz.ntmps207
   go_wp2_with fail
   refine (fE d _).mono ?_
   rintro e w1 ⟨rfl,b1⟩
   have B1:=Hd b1
   have hb1:=b1.size
   simp only [World.size_alloc] at hb1
   obtain ⟨hcc,hff⟩:=bI b1
   clear b1
   go_wp2_with fail
   refine (dh d _ (by omega) (by omega)).mono ?_
   rintro e w2 ⟨rfl,b2⟩
   have B2:=Hd (aB B1.out b2)
   have hb2:=b2.size
   clear b2 hcc hff
   obtain ⟨hcc,hff⟩:=bI B2.out
   go_wp2_with fail
   refine (dh d _ (by omega) (by omega)).mono ?_
   rintro e w3 ⟨rfl,b3⟩
   have B3:=Hd (aB B2.out b3)
   have hb3:=b3.size
   clear b3 hcc hff
   obtain ⟨hcc,hff⟩:=bI B3.out
   have hWIRE:=Hd (fun (h7:7<=n % aX d) (w:World)=>oz d n w HN.out h7)
   generalize hk:n % aX d=k at *
   generalize hq:n / aX d=q at *
   have hK:oH d q k=if k<5 then decide (k<iC (bA d q)) else if k<7 then decide (k - 5<dV (bA d q)) else decide (0<=ah d q ((k - 7) / d.T) (bP ((k - 7) % d.T))):=rfl
   have HK:=Hd hK
   have hip:=mD d q
   have hop:=gG d q
   have HKT:=Hd (fun w=>fM d q w HTI.out)
   generalize bA d q=K at *
   clear hK hk hq
   have h3:k<5∨(¬k<5/\k<7)∨(¬k<5/\¬k<7):=by omega
   rcases h3 with h|⟨h,h'⟩|⟨h,h'⟩
   ·go_wp2_with fail
    refine (HKT.out _).mono ?_
    rintro e w4 ⟨rfl,b4⟩
    have B4:=Hd (aB B3.out b4)
    clear b4 hcc hff
    generalize hQ:iC K=Q at *
    have HQ:=Hd hQ
    clear hQ
    go_wp2_with (go_at_call 255;refine (mq _ _).mono ?_;rw [HQ.out];rintro e w' ⟨rfl,rfl⟩)
    go_ret
    exact ⟨bT (by rw [HR.out,HK.out,if_pos (by omega)]),aB (aF (Below.refl _ _) _) B4.out⟩
   ·go_wp2_with fail
    refine (HKT.out _).mono ?_
    rintro e w4 ⟨rfl,b4⟩
    have B4:=Hd (aB B3.out b4)
    clear b4 hcc hff
    generalize hQ:dV K=Q at *
    have HQ:=Hd hQ
    clear hQ
    go_wp2_with (go_at_call 233;refine (jX _ _).mono ?_;rw [HQ.out];rintro e w' ⟨rfl,rfl⟩)
    go_ret
    exact ⟨bT (by rw [HR.out,HK.out,if_neg (by omega),if_pos (by omega)]),aB (aF (Below.refl _ _) _) B4.out⟩
   ·have hT0:=Int.ediv_nonneg (show 0<=k - 7 by omega) (show 0<=d.T by omega)
    have hT1:=Int.emod_nonneg (k - 7) (show d.T≠0 by omega)
    have hT2:=Int.emod_lt_of_pos (k - 7) (show 0<d.T by omega)
    have hT3:(k - 7) / d.T<=3:=by
     have:(k - 7) / d.T<4:=Int.ediv_lt_of_lt_mul (by omega) (by unfold aX at hr1;omega)
     omega
    go_wp2_with fail
    refine (hWIRE.out (by omega) _).mono ?_
    rintro e w4 ⟨rfl,b4⟩
    have B4:=Hd (aB B3.out b4)
    have hb4:=b4.size
    clear b4 hcc hff
    obtain ⟨hcc,hff⟩:=bI B4.out
    generalize (k - 7) / d.T=r at *
    generalize (k - 7) % d.T=m at *
    have hL:bP m=1+m % 2:=rfl
    have hL2:1<=bP m/\bP m<=2:=by rw [hL];omega
    have HL:=Hd hL.symm
    clear hL
    go_wp2_with fail
    rw [HL.out]
    generalize hLL:bP m=L at *
    generalize hP:ah d q r L=P at *
    have HC:Hid (∀w,Calls Tryz.prog 230 #[.agg #[.int .i64 d.W,.int .i64 d.H,.int .i64 d.T,.int .i64 d.R],.int .i64 q,.int .i64 r,.int .i64 L] w fun e w'=>e = .returned (.int .i64 P)/\Below w.heap.size w w'):=fun w=>by have:=gF d q r L w HTI.out (by omega) (by omega) (by omega) (by omega);rwa [hP] at this
    clear hP hLL
    refine (HC.out _).mono ?_
    rintro e w5 ⟨rfl,b5⟩
    have B5:=Hd (aB B4.out b5)
    clear b5 hcc hff
    go_wp2_with fail
    go_ret
    exact ⟨bT (by rw [HR.out,HK.out,if_neg (by omega),if_neg (by omega)]),aB (aF (Below.refl _ _) _) B5.out⟩
  ·have HR:Hid (bH d n=false):=by
    show _=false
    unfold bH
    cases h:fF d n with
    | false=>rfl
    | true=>have:=kM.1 h;omega
   have hd1:decide (n≥gK d)=true:=by simp;omega
   go_enter Tryz.func207,Tryz.ntmps207
   go_wp2_with fail
   refine (fE d _).mono ?_
   rintro e w1 ⟨rfl,b1⟩
   have B1:=Hd (aB (aF (Below.refl _ _) _) b1)
   clear b1
   go_wp2_with fail
   go_ret
   exact ⟨bT HR.out.symm,B1.out⟩
theorem nU {d:Dev} {t pin r k:Int} {s:Nat} (h:∀s,jv d pin r k s=false):gB d t pin r k s=[]:=by
 unfold gB
 rw [List.flatMap_eq_nil_iff]
 intro j _
 unfold jw
 rw [h]
 rfl
theorem kV {d:Dev} {t pin r k s:Int} (h:jv d pin r k s=true):jw d t pin r k s=j5 (iV d t r k s):=by unfold jw;rw [if_pos h]
theorem lH {d:Dev} {t pin r k s:Int} (h:jv d pin r k s=false):jw d t pin r k s=[]:=by unfold jw;rw [h];rfl
theorem vJ {d:Dev} {pin:Int} (h7:7<=pin) (r k s:Int):jv d pin r k s=(decide (r≠((pin - 7) / d.T+2) % 4) && ((decide (k=(pin - 7) % d.T) || decide (k=((pin - 7) % d.T+1) % d.T)) && decide (s=bP k))):=by unfold jv pg;rw [if_pos h7]
theorem xB {d:Dev} {pin:Int} (h7:pin<7) (r k s:Int):jv d pin r k s=!(decide (d.T>1) && decide ((k+pin) % 2=1)):=by unfold jv oZ;rw [if_neg (by omega)]
theorem rZ (d:Dev) (n:Int) (w:World) (hno:bH d n=true) (h5:n % aX d<5) :
  Calls Tryz.prog 146 #[.agg #[.int .i64 d.W,.int .i64 d.H,.int .i64 d.T,.int .i64 d.R],.int .i64 n] w fun e w'=>∃A m c,e = .returned (.slice A m c)/\Own w.heap.size w' A m c (iE d n)/\Below w.heap.size w w':=by
 have HB0:=Hd (aF (Below.refl w.heap.size w) (.cells #[.int .i64 d.W,.int .i64 d.H,.int .i64 d.T,.int .i64 d.R] 36))
 have hni:fF d n=true:=by unfold bH at hno;rw [Bool.and_eq_true] at hno;exact hno.1
 have HTI:=Hd (jk hni)
 obtain ⟨hd,n0,n1,hq0,hq1,hr0,hr1⟩:=jF hni
 have hT:=bC hd
 have hp:=dw hd
 have hWH:=eG hd
 have HD:=Hd hd
 have HSORT:=Hd (fun l hp hs=>pK (l:=l) hno (by omega) hp hs)
 have HNO:Hid (∀w,Calls Tryz.prog 207 #[.agg #[.int .i64 d.W,.int .i64 d.H,.int .i64 d.T,.int .i64 d.R],.int .i64 n] w fun e w'=>e = .returned (.bool true)/\Below w.heap.size w w'):=fun w=>by have h:=gQ d n w;rwa [hno] at h
 have e0:¬aX d=0:=by omega
 have e1:n.tmod (aX d)=n % aX d:=Int.tmod_eq_emod_of_nonneg n0
 have e2:IntKind.i64.wrap (n.tdiv (aX d))=n / aX d:=IntWalk.i64_quo _ _ ⟨n0,by omega,by omega⟩
 have HUSE0:=Hd (fun r k s=>xB (d:=d) (pin:=n % aX d) (by omega) r k s)
 clear hno hni hd
 go_enter Tryz.func146,Tryz.ntmps146
 go_wp2_with fail
 refine (HNO.out _).mono ?_
 rintro e w1 ⟨rfl,b1⟩
 have N1:=Hd ((Own.newAt (w:=(w.alloc (.cells #[.int .i64 d.W,.int .i64 d.H,.int .i64 d.T,.int .i64 d.R] 36))) (base:=(w.alloc (.cells #[.int .i64 d.W,.int .i64 d.H,.int .i64 d.T,.int .i64 d.R] 36)).heap.size) (g:=w.heap.size+1) (by simp) (by simp)).below b1)
 have HB1:=Hd (aB (aF (Below.refl _ _) _) b1:Below (w.alloc (.cells #[.int .i64 d.W,.int .i64 d.H,.int .i64 d.T,.int .i64 d.R] 36)).heap.size (w.alloc (.cells #[.int .i64 d.W,.int .i64 d.H,.int .i64 d.T,.int .i64 d.R] 36)) w1)
 have hs1:=b1.size
 simp only [World.size_alloc] at hs1
 clear b1
 obtain ⟨hcc,hff⟩:=bI HB1.out
 go_wp2_with fail
 refine (dh d _ (by omega) (by omega)).mono ?_
 rintro e w2 ⟨rfl,b2⟩
 have HB2:=Hd (aB HB1.out b2)
 have N2:=Hd (N1.out.below b2)
 have hs2:=b2.size
 clear b2 hcc hff
 obtain ⟨hcc,hff⟩:=bI HB2.out
 go_wp2_with fail
 refine (dh d _ (by omega) (by omega)).mono ?_
 rintro e w3 ⟨rfl,b3⟩
 have HB3:=Hd (aB HB2.out b3)
 have N3:=Hd (N2.out.below b3)
 have hs3:=b3.size
 clear b3 hcc hff
 obtain ⟨hcc,hff⟩:=bI HB3.out
 generalize n % aX d=pin at *
 generalize n / aX d=t at *
 clear HNO
 have hdp:decide (pin≥7)=false:=by simp;omega
 have hdp2:decide (pin<7)=true:=by simp;omega
 have hp5:(pin==5)=false:=by simp;omega
 have hp6:(pin==6)=false:=by simp;omega
 have NS:=N3
 have HBS:=HB3
 clear hcc hff
 go_wp2_with fail
 go_loopw [5,10] (fun v i wr=>∃(r:Nat) (A:Option Addr) (m c:Nat),r<=4/\i = .int .i64 r/\v = .slice A m c/\m<=2+8 * r/\Own (w.alloc (.cells #[.int .i64 d.W,.int .i64 d.H,.int .i64 d.T,.int .i64 d.R] 36)).heap.size wr A m c (fU d t pin r)/\Below (w.alloc (.cells #[.int .i64 d.W,.int .i64 d.H,.int .i64 d.T,.int .i64 d.R] 36)).heap.size (w.alloc (.cells #[.int .i64 d.W,.int .i64 d.H,.int .i64 d.T,.int .i64 d.R] 36)) wr) (fun _ i _=>4 - (intOf i).toNat)
 case atStart=>exact ⟨0,_,_,_,by omega,rfl,rfl,by omega,by simpa [fU] using NS.out,HBS.out⟩
 case round =>
  obtain ⟨r,A,m,c,hr,rfl,rfl,hn,ho,hb⟩:=hrel
  have HO:=Hd ho
  have HB:=Hd hb
  have hs:=hb.size
  simp only [World.size_alloc] at hs
  obtain ⟨hcc,hff⟩:=bI hb
  clear ho hb
  by_cases hlt:r<4
  ·have hdr:decide ((r:Int)<4)=true:=by simp;omega
   have HAR:=Hd (kw d t pin r)
   clear hcc hff
   go_wp2_with fail
   go_loopw [5,11] (fun v i wr=>∃(k:Nat) (A:Option Addr) (m c:Nat),(k:Int)<=d.T/\i = .int .i64 k/\v = .slice A m c/\m<=2+8 * r+2 * k/\Own (w.alloc (.cells #[.int .i64 d.W,.int .i64 d.H,.int .i64 d.T,.int .i64 d.R] 36)).heap.size wr A m c (fU d t pin r++gX d t pin (r:Int) k)/\Below (w.alloc (.cells #[.int .i64 d.W,.int .i64 d.H,.int .i64 d.T,.int .i64 d.R] 36)).heap.size (w.alloc (.cells #[.int .i64 d.W,.int .i64 d.H,.int .i64 d.T,.int .i64 d.R] 36)) wr) (fun _ i _=>d.T.toNat - (intOf i).toNat)
   case atStart=>exact ⟨0,A,m,c,by omega,rfl,rfl,by omega,by simpa [gX] using HO.out,HB.out⟩
   case round =>
    obtain ⟨k,A,m,c,hk,rfl,rfl,hn,ho,hb⟩:=hrel
    have HO:=Hd ho
    have HB:=Hd hb
    have hs:=hb.size
    simp only [World.size_alloc] at hs
    obtain ⟨hcc,hff⟩:=bI hb
    have HCR:=Hd (ku d t pin (r:Int) k)
    clear ho hb
    by_cases hlk:(k:Int)<d.T
    ·have hdk:decide ((k:Int)<d.T)=true:=by simpa using hlk
     have hL:bP (k:Int)=1+(k:Int) % 2:=rfl
     have hL2:1<=bP (k:Int)/\bP (k:Int)<=2:=by rw [hL];omega
     have HL:=Hd hL.symm
     have HKS:=fun s=>Hd (kr d t pin (r:Int) (k:Int) s)
     clear hL
     have HUSE:=HUSE0.out (r:Int) (k:Int)
     have HUSE:=Hd HUSE
     have hz0:0<=((k:Int)+pin) % 2/\((k:Int)+pin) % 2<=1:=by omega
     have e1:((k:Int)+pin).tmod 2=((k:Int)+pin) % 2:=Int.tmod_eq_emod_of_nonneg (by omega)
     generalize ((k:Int)+pin) % 2=z at *
     by_cases hskip:d.T>1/\z=1
     ·have HOFF:=Hd (nU (d:=d) (t:=t) (pin:=pin) (r:=(r:Int)) (k:=(k:Int)) (s:=(bP (k:Int)).toNat) (fun s=>by rw [HUSE.out,decide_eq_true hskip.1,decide_eq_true hskip.2];rfl))
      obtain ⟨hs1,rfl⟩:=hskip
      have hdT:decide (d.T>1)=true:=by simpa using hs1
      go_wp2_with fail
      go_roundw
      case rel=>exact ⟨k+1,A,m,c,by omega,by go_num,rfl,by omega,by rw [HCR.out,HOFF.out,List.append_nil];exact HO.out,HB.out⟩
      case measure=>simp [intOf];omega
     ·have hcs:(d.T>1/\z=0)∨¬d.T>1:=by omega
      have HSO:Hid (∀s,jv d pin (r:Int) (k:Int) s=true):=by
       intro s
       rw [HUSE.out]
       simp
       omega
      clear HUSE
      rcases hcs with ⟨hs1,rfl⟩|hs1
      all_goals
       go_wp2_with fail
       go_loopw [5,12] (fun v i wr=>∃(s:Nat) (A:Option Addr) (m c:Nat),(s:Int)<=bP (k:Int)/\i = .int .i64 ((s:Int)+1)/\v = .slice A m c/\m<=2+8 * r+2 * k+s/\Own (w.alloc (.cells #[.int .i64 d.W,.int .i64 d.H,.int .i64 d.T,.int .i64 d.R] 36)).heap.size wr A m c (fU d t pin r++gX d t pin (r:Int) k++gB d t pin (r:Int) (k:Int) s)/\Below (w.alloc (.cells #[.int .i64 d.W,.int .i64 d.H,.int .i64 d.T,.int .i64 d.R] 36)).heap.size (w.alloc (.cells #[.int .i64 d.W,.int .i64 d.H,.int .i64 d.T,.int .i64 d.R] 36)) wr) (fun _ i _=>4 - (intOf i).toNat)
       case atStart=>exact ⟨0,A,m,c,by omega,rfl,rfl,by omega,by simpa [gB] using HO.out,HB.out⟩
       case round =>
        obtain ⟨s,A,m,c,hsw,rfl,rfl,hn,ho,hb⟩:=hrel
        have HO:=Hd ho
        have HB:=Hd hb
        have hs:=hb.size
        simp only [World.size_alloc] at hs
        clear hcc hff
        obtain ⟨hcc,hff⟩:=bI hb
        clear ho hb
        have hZ:1+(k:Int) % 2=bP (k:Int):=HL.out
        by_cases hls:(s:Int)+1<=bP (k:Int)
        ·have hlsW:=hls
         rw [←hZ] at hls
         have hdl:decide ((s:Int)+1<=1+(k:Int) % 2)=true:=by simpa using hls
         clear hZ
         have HSN:=Hd (kV (t:=t) (HSO.out ((s:Int)+1)))
         generalize hP:ah d t (((r:Int)+2) % 4) ((s:Int)+1)=P at *
         have HP:=Hd hP
         have hPr:=jH (d:=d) (t:=t) (r:=((r:Int)+2) % 4) (s:=(s:Int)+1) HD.out
         rw [hP] at hPr
         clear hP
         generalize hC:iV d t (r:Int) (k:Int) ((s:Int)+1)=C at *
         have HC:Hid (∀w,Calls Tryz.prog 234 #[.agg #[.int .i64 d.W,.int .i64 d.H,.int .i64 d.T,.int .i64 d.R],.int .i64 P,.int .i64 (r:Int),.int .i64 (k:Int)] w fun e w'=>e = .returned (.int .i64 C)/\Below w.heap.size w w'):=fun w=>by
          have h:=il d P (r:Int) (k:Int) w HD.out (by omega) (by omega) (by omega) (by omega) (by omega)
          rwa [show dJ d P (r:Int) (k:Int)=C from by rw [←hC,iV,HP.out]] at h
         have HSC:Hid (∀w,Calls Tryz.prog 230 #[.agg #[.int .i64 d.W,.int .i64 d.H,.int .i64 d.T,.int .i64 d.R],.int .i64 t,.int .i64 (((r:Int)+2) % 4),.int .i64 ((s:Int)+1)] w fun e w'=>e = .returned (.int .i64 P)/\Below w.heap.size w w'):=fun w=>by
          have h:=gF d t (((r:Int)+2) % 4) ((s:Int)+1) w HTI.out (by omega) (by omega) (by omega) (by omega)
          rwa [HP.out] at h
         have HCC:=Hd hC
         clear hC
         have e3:((r:Int)+2).tmod 4=((r:Int)+2) % 4:=Int.tmod_eq_emod_of_nonneg (by omega)
         have e4:IntKind.i64.wrap ((r:Int)+2)=(r:Int)+2:=IntWalk.i64_in _ (by omega)
         have hwW:w.heap.size<wr.heap.size:=by omega
         go_wp2_with fail
         have hsub:=aZ wr
         have hsc:=aR wr
         refine aI wr (by kernel_rfl) (by kernel_rfl) (Below.refl _ _) ?_
         repeat (go_big_quiet_step ((first
          | (go_at_call 230;with_reducible exact aO (HSC.out _))
          | (go_at_call 234;with_reducible exact aO (HC.out _)))))
         refine wpQuiet_nil ?_
         rintro _ ⟨⟨w2,hD⟩,rfl⟩
         clear hsub hsc hcc hff e3 e4
         have HB2:=Hd (aB HB.out hD)
         have HO2:=Hd (HO.out.below hD)
         have hs2:=hD.size
         clear hD
         by_cases hC0:C≥0
         ·have HC1:=Hd (jL (x:=C) (by omega))
          go_wp2_with (at_builtin;refine fA rfl _ _ rfl (w.alloc (.cells #[.int .i64 d.W,.int .i64 d.H,.int .i64 d.T,.int .i64 d.R] 36)).heap.size A m c _ C rfl HO2.out rfl (by omega) (by simp;omega) HB2.out ?_;rintro g4 c4 w4 o4 b4 - -)
          go_roundw
          case rel=>exact ⟨s+1,_,m+1,c4,by omega,by go_num,rfl,by omega,by rw [(HKS s).out,HSN.out,HC1.out,←List.append_assoc];exact o4,b4⟩
          case measure=>simp [intOf];omega
         ·have HC1:=Hd (jh (x:=C) (by omega))
          go_wp2_with fail
          go_roundw
          case rel=>exact ⟨s+1,A,m,c,by omega,by go_num,rfl,by omega,by rw [(HKS s).out,HSN.out,HC1.out,List.append_nil];exact HO2.out,HB2.out⟩
          case measure=>simp [intOf];omega
        ·have hLS:(bP (k:Int)).toNat=s:=by omega
         have HLS:=Hd hLS
         rw [←hZ] at hls
         have hdl:decide ((s:Int)+1<=1+(k:Int) % 2)=false:=by simp;omega
         clear hLS hZ
         go_wp2_with fail
         go_roundw
         case rel=>exact ⟨k+1,A,m,c,by omega,by go_num,rfl,by omega,by rw [HCR.out,HLS.out,←List.append_assoc];exact HO.out,HB.out⟩
         case measure=>simp [intOf];omega
    ·have hkT:d.T=(k:Int):=by omega
     have HKT:=Hd hkT
     have hdk:decide ((k:Int)<d.T)=false:=by simp;omega
     clear hkT
     go_wp2_with fail
     go_roundw
     case rel=>exact ⟨r+1,A,m,c,by omega,by go_num,rfl,by omega,by rw [HAR.out,show d.T.toNat=k by have:=HKT.out;omega];exact HO.out,HB.out⟩
     case measure=>simp [intOf];omega
  ·have hr4:r=4:=by omega
   have HR4:=Hd hr4
   have hdr:decide ((r:Int)<4)=false:=by simp;omega
   have HLEN:=Hd HO.out.len
   clear hr4 hcc hff
   go_wp2_with fail
   refine (lK A m c _ _ HO.out.ints (by omega)).mono ?_
   rintro e w9 ⟨A9,c9,rfl,⟨ys,oy,py,sy⟩,b9⟩
   have HY:=Hd oy
   have HB9:=Hd (aB HB0.out (aB HB.out b9))
   have HE:=Hd (HSORT.out ys (by rw [HR4.out] at py;unfold iW;rw [if_neg (by omega),List.nil_append];exact py) sy)
   clear oy py sy b9
   go_wp2_with fail
   go_ret
   exact ⟨A9,m,c9,rfl,by rw [←HE.out];exact HY.out.more (by omega),HB9.out⟩
theorem ql (d:Dev) (n:Int) (w:World) (hno:bH d n=true) (h7:7<=n % aX d) :
  Calls Tryz.prog 146 #[.agg #[.int .i64 d.W,.int .i64 d.H,.int .i64 d.T,.int .i64 d.R],.int .i64 n] w fun e w'=>∃A m c,e = .returned (.slice A m c)/\Own w.heap.size w' A m c (iE d n)/\Below w.heap.size w w':=by
 have HB0:=Hd (aF (Below.refl w.heap.size w) (.cells #[.int .i64 d.W,.int .i64 d.H,.int .i64 d.T,.int .i64 d.R] 36))
 have hni:fF d n=true:=by unfold bH at hno;rw [Bool.and_eq_true] at hno;exact hno.1
 have HTI:=Hd (jk hni)
 obtain ⟨hd,n0,n1,hq0,hq1,hr0,hr1⟩:=jF hni
 have hT:=bC hd
 have hp:=dw hd
 have hWH:=eG hd
 have HD:=Hd hd
 have HSORT:=Hd (fun l hp hs=>pK (l:=l) hno (by omega) hp hs)
 have HNO:Hid (∀w,Calls Tryz.prog 207 #[.agg #[.int .i64 d.W,.int .i64 d.H,.int .i64 d.T,.int .i64 d.R],.int .i64 n] w fun e w'=>e = .returned (.bool true)/\Below w.heap.size w w'):=fun w=>by have h:=gQ d n w;rwa [hno] at h
 have e0:¬aX d=0:=by omega
 have e1:n.tmod (aX d)=n % aX d:=Int.tmod_eq_emod_of_nonneg n0
 have e2:IntKind.i64.wrap (n.tdiv (aX d))=n / aX d:=IntWalk.i64_quo _ _ ⟨n0,by omega,by omega⟩
 have HUSE0:=Hd (fun r k s=>vJ (d:=d) (pin:=n % aX d) h7 r k s)
 have HWI:=Hd (fun w=>oz d n w hni h7)
 clear hno hni hd
 go_enter Tryz.func146,Tryz.ntmps146
 go_wp2_with fail
 refine (HNO.out _).mono ?_
 rintro e w1 ⟨rfl,b1⟩
 have N1:=Hd ((Own.newAt (w:=(w.alloc (.cells #[.int .i64 d.W,.int .i64 d.H,.int .i64 d.T,.int .i64 d.R] 36))) (base:=(w.alloc (.cells #[.int .i64 d.W,.int .i64 d.H,.int .i64 d.T,.int .i64 d.R] 36)).heap.size) (g:=w.heap.size+1) (by simp) (by simp)).below b1)
 have HB1:=Hd (aB (aF (Below.refl _ _) _) b1:Below (w.alloc (.cells #[.int .i64 d.W,.int .i64 d.H,.int .i64 d.T,.int .i64 d.R] 36)).heap.size (w.alloc (.cells #[.int .i64 d.W,.int .i64 d.H,.int .i64 d.T,.int .i64 d.R] 36)) w1)
 have hs1:=b1.size
 simp only [World.size_alloc] at hs1
 clear b1
 obtain ⟨hcc,hff⟩:=bI HB1.out
 go_wp2_with fail
 refine (dh d _ (by omega) (by omega)).mono ?_
 rintro e w2 ⟨rfl,b2⟩
 have HB2:=Hd (aB HB1.out b2)
 have N2:=Hd (N1.out.below b2)
 have hs2:=b2.size
 clear b2 hcc hff
 obtain ⟨hcc,hff⟩:=bI HB2.out
 go_wp2_with fail
 refine (dh d _ (by omega) (by omega)).mono ?_
 rintro e w3 ⟨rfl,b3⟩
 have HB3:=Hd (aB HB2.out b3)
 have N3:=Hd (N2.out.below b3)
 have hs3:=b3.size
 clear b3 hcc hff
 obtain ⟨hcc,hff⟩:=bI HB3.out
 generalize n % aX d=pin at *
 generalize n / aX d=t at *
 clear HNO
 have hp7:7<=pin:=h7
 have hdp:decide (pin≥7)=true:=by simp;omega
 have hp5:(pin==5)=false:=by simp;omega
 have hp6:(pin==6)=false:=by simp;omega
 have hT0:=Int.ediv_nonneg (show 0<=pin - 7 by omega) (show 0<=d.T by omega)
 have hT1:=Int.emod_nonneg (pin - 7) (show d.T≠0 by omega)
 have hT2:=Int.emod_lt_of_pos (pin - 7) (show 0<d.T by omega)
 have hT3:(pin - 7) / d.T<=3:=by
  have:(pin - 7) / d.T<4:=Int.ediv_lt_of_lt_mul (by omega) (by unfold aX at hr1;omega)
  omega
 go_wp2_with fail
 refine (HWI.out _).mono ?_
 rintro e w4 ⟨rfl,b4⟩
 have HB4:=Hd (aB HB3.out b4)
 have N4:=Hd (N3.out.below b4)
 have hs4:=b4.size
 clear b4 hcc hff e0 e1 e2
 obtain ⟨hcc,hff⟩:=bI HB4.out
 generalize (pin - 7) / d.T=dir at *
 generalize (pin - 7) % d.T=track at *
 have e0:¬d.T=0:=by omega
 have e6:(track+1).tmod d.T=(track+1) % d.T:=Int.tmod_eq_emod_of_nonneg (by omega)
 have hto:=Int.emod_nonneg (dir+2) (show (4:Int)≠0 by omega)
 generalize ho:(dir+2) % 4=o at *
 have HO4:=Hd ho
 have e7:(dir+2).tmod 4=o:=by rw [Int.tmod_eq_emod_of_nonneg (by omega),ho]
 clear ho
 generalize (track+1) % d.T=tr2 at *
 go_wp2_with fail
 refine (om d t 0 _ HTI.out (by omega) (by omega)).mono ?_
 rintro e w5 ⟨rfl,b5⟩
 have HB5:=Hd (aB HB4.out b5)
 have N5:=Hd (N4.out.below b5)
 have hs5:=b5.size
 clear b5 hcc hff
 obtain ⟨hcc,hff⟩:=bI HB5.out
 have HOF:Hid (gW d t=if dV (bA d t)>1 then [dZ d t 0,dZ d t 1] else [dZ d t 0]):=rfl
 generalize dZ d t 0=X0 at *
 go_wp2_with (at_builtin;refine fA rfl _ _ rfl (w.alloc (.cells #[.int .i64 d.W,.int .i64 d.H,.int .i64 d.T,.int .i64 d.R] 36)).heap.size _ 0 0 [] X0 rfl N5.out rfl (by omega) (by simp;omega) HB5.out ?_;rintro g6 c6 w6 o6 b6 - -;rw [List.nil_append] at o6;have HB6:=Hd b6;have N6:=Hd o6;have hs6:=b6.size;(try simp only [World.size_alloc] at hs6);clear hcc hff;obtain ⟨hcc,hff⟩:=bI b6;clear o6 b6)
 refine (fM d t _ HTI.out).mono ?_
 rintro e w7 ⟨rfl,b7⟩
 have HB7:=Hd (aB HB6.out b7)
 have N7:=Hd (N6.out.below b7)
 have hs7:=b7.size
 clear b7 hcc hff
 obtain ⟨hcc,hff⟩:=bI HB7.out
 have hop:=gG d t
 generalize bA d t=K at *
 have HC:Hid (∀w,Calls Tryz.prog 233 #[.int .i64 K] w fun e w'=>e = .returned (.int .i64 (dV K))/\w=w'):=fun w=>jX K w
 generalize dV K=Q at *
 rcases hop with rfl|rfl
 ·have HOF1:Hid (gW d t=[X0]):=by show _=_;rw [HOF.out];rfl
  clear HOF
  go_wp2_with (go_at_call 233;refine (HC.out _).mono ?_;rintro e w' ⟨rfl,rfl⟩)
  have NS:Hid (Own (w.alloc (.cells #[.int .i64 d.W,.int .i64 d.H,.int .i64 d.T,.int .i64 d.R] 36)).heap.size w7 (some ⟨g6,0,none⟩) 1 c6 (gW d t)):=by show Own _ _ _ _ _ _;rw [HOF1.out];exact N7.out
  have HBS:=HB7
  clear hcc hff
  go_loopw [5,10] (fun v i wr=>∃(r:Nat) (A:Option Addr) (m c:Nat),r<=4/\i = .int .i64 r/\v = .slice A m c/\m<=2+8 * r/\Own (w.alloc (.cells #[.int .i64 d.W,.int .i64 d.H,.int .i64 d.T,.int .i64 d.R] 36)).heap.size wr A m c (gW d t++fU d t pin r)/\Below (w.alloc (.cells #[.int .i64 d.W,.int .i64 d.H,.int .i64 d.T,.int .i64 d.R] 36)).heap.size (w.alloc (.cells #[.int .i64 d.W,.int .i64 d.H,.int .i64 d.T,.int .i64 d.R] 36)) wr) (fun _ i _=>4 - (intOf i).toNat)
  case atStart=>exact ⟨0,_,_,_,by omega,rfl,rfl,by omega,by simpa [fU] using NS.out,HBS.out⟩
  case round =>
   obtain ⟨r,A,m,c,hr,rfl,rfl,hn,ho,hb⟩:=hrel
   have HO:=Hd ho
   have HB:=Hd hb
   have hs:=hb.size
   simp only [World.size_alloc] at hs
   obtain ⟨hcc,hff⟩:=bI hb
   clear ho hb
   by_cases hlt:r<4
   ·have hdr:decide ((r:Int)<4)=true:=by simp;omega
    have HAR:=Hd (kw d t pin r)
    clear hcc hff
    go_wp2_with fail
    go_loopw [5,11] (fun v i wr=>∃(k:Nat) (A:Option Addr) (m c:Nat),(k:Int)<=d.T/\i = .int .i64 k/\v = .slice A m c/\m<=2+8 * r+2 * k/\Own (w.alloc (.cells #[.int .i64 d.W,.int .i64 d.H,.int .i64 d.T,.int .i64 d.R] 36)).heap.size wr A m c (gW d t++fU d t pin r++gX d t pin (r:Int) k)/\Below (w.alloc (.cells #[.int .i64 d.W,.int .i64 d.H,.int .i64 d.T,.int .i64 d.R] 36)).heap.size (w.alloc (.cells #[.int .i64 d.W,.int .i64 d.H,.int .i64 d.T,.int .i64 d.R] 36)) wr) (fun _ i _=>d.T.toNat - (intOf i).toNat)
    case atStart=>exact ⟨0,A,m,c,by omega,rfl,rfl,by omega,by simpa [gX] using HO.out,HB.out⟩
    case round =>
     obtain ⟨k,A,m,c,hk,rfl,rfl,hn,ho,hb⟩:=hrel
     have HO:=Hd ho
     have HB:=Hd hb
     have hs:=hb.size
     simp only [World.size_alloc] at hs
     obtain ⟨hcc,hff⟩:=bI hb
     have HCR:=Hd (ku d t pin (r:Int) k)
     clear ho hb
     by_cases hlk:(k:Int)<d.T
     ·have hdk:decide ((k:Int)<d.T)=true:=by simpa using hlk
      have hL:bP (k:Int)=1+(k:Int) % 2:=rfl
      have hL2:1<=bP (k:Int)/\bP (k:Int)<=2:=by rw [hL];omega
      have HL:=Hd hL.symm
      have HKS:=fun s=>Hd (kr d t pin (r:Int) (k:Int) s)
      clear hL
      have HUSE:=HUSE0.out (r:Int) (k:Int)
      have HUSE:=Hd HUSE
      by_cases hskip:(r:Int)=o∨(¬(k:Int)=track/\¬(k:Int)=tr2)
      ·have HOFF:=Hd (nU (d:=d) (t:=t) (pin:=pin) (r:=(r:Int)) (k:=(k:Int)) (s:=(bP (k:Int)).toNat) (fun s=>by rw [HUSE.out];simp;omega))
       have hcs:(r:Int)=o∨(¬(r:Int)=o/\¬(k:Int)=track/\¬(k:Int)=tr2):=by omega
       clear hskip
       rcases hcs with h|⟨h1,h2,h3⟩
       ·have q1:((r:Int)==o)=true:=by simpa using h
        clear h
        go_wp2_with fail
        go_roundw
        case rel=>exact ⟨k+1,A,m,c,by omega,by go_num,rfl,by omega,by rw [HCR.out,HOFF.out,List.append_nil];exact HO.out,HB.out⟩
        case measure=>simp [intOf];omega
       ·have q1:((r:Int)==o)=false:=by simpa using h1
        have q2:((k:Int)==track)=false:=by simpa using h2
        have q2':((k:Int) != track)=true:=by simpa using h2
        have q3:((k:Int)==tr2)=false:=by simpa using h3
        have q3':((k:Int) != tr2)=true:=by simpa using h3
        clear h1 h2 h3
        go_wp2_with fail
        go_roundw
        case rel=>exact ⟨k+1,A,m,c,by omega,by go_num,rfl,by omega,by rw [HCR.out,HOFF.out,List.append_nil];exact HO.out,HB.out⟩
        case measure=>simp [intOf];omega
      ·have hcs:(¬(r:Int)=o/\(k:Int)=track)∨(¬(r:Int)=o/\¬(k:Int)=track/\(k:Int)=tr2):=by omega
       have HSO:Hid (∀s,jv d pin (r:Int) (k:Int) s=decide (s=bP (k:Int))):=by
        intro s
        rw [HUSE.out,decide_eq_true (show (r:Int)≠o by omega)]
        rcases hcs with h|h
        ·rw [decide_eq_true h.2];simp
        ·rw [decide_eq_true h.2.2];simp
       clear HUSE hskip
       rcases hcs with ⟨h1,h2⟩|⟨h1,h2,h3⟩
       ·have q1:((r:Int)==o)=false:=by simpa using h1
        have q2:((k:Int)==track)=true:=by simpa using h2
        have q2':((k:Int) != track)=false:=by simpa using h2
        clear h1 h2
        go_wp2_with fail
        go_loopw [5,12] (fun v i wr=>∃(s:Nat) (A:Option Addr) (m c:Nat),(s:Int)<=bP (k:Int)/\i = .int .i64 ((s:Int)+1)/\v = .slice A m c/\m<=2+8 * r+2 * k+s/\Own (w.alloc (.cells #[.int .i64 d.W,.int .i64 d.H,.int .i64 d.T,.int .i64 d.R] 36)).heap.size wr A m c (gW d t++fU d t pin r++gX d t pin (r:Int) k++gB d t pin (r:Int) (k:Int) s)/\Below (w.alloc (.cells #[.int .i64 d.W,.int .i64 d.H,.int .i64 d.T,.int .i64 d.R] 36)).heap.size (w.alloc (.cells #[.int .i64 d.W,.int .i64 d.H,.int .i64 d.T,.int .i64 d.R] 36)) wr) (fun _ i _=>4 - (intOf i).toNat)
        case atStart=>exact ⟨0,A,m,c,by omega,rfl,rfl,by omega,by simpa [gB] using HO.out,HB.out⟩
        case round =>
         obtain ⟨s,A,m,c,hsw,rfl,rfl,hn,ho,hb⟩:=hrel
         have HO:=Hd ho
         have HB:=Hd hb
         have hs:=hb.size
         simp only [World.size_alloc] at hs
         clear hcc hff
         obtain ⟨hcc,hff⟩:=bI hb
         clear ho hb
         have hZ:1+(k:Int) % 2=bP (k:Int):=HL.out
         by_cases hls:(s:Int)+1<=bP (k:Int)
         ·have hlsW:=hls
          rw [←hZ] at hls
          have hdl:decide ((s:Int)+1<=1+(k:Int) % 2)=true:=by simpa using hls
          clear hZ
          have hst:(s:Int)+1<1+(k:Int) % 2∨¬(s:Int)+1<1+(k:Int) % 2:=by omega
          rcases hst with hst|hst
          ·have hdst:decide ((s:Int)+1<1+(k:Int) % 2)=true:=by simpa using hst
           have HSN:=Hd (lH (t:=t) ((HSO.out ((s:Int)+1)).trans (decide_eq_false (by have:=HL.out;omega))))
           clear hcc hff
           go_wp2_with fail
           go_roundw
           case rel=>exact ⟨s+1,A,m,c,by omega,by go_num,rfl,by omega,by rw [(HKS s).out,HSN.out,List.append_nil];exact HO.out,HB.out⟩
           case measure=>simp [intOf];omega
          ·have hdst:decide ((s:Int)+1<1+(k:Int) % 2)=false:=by simp;omega
           have HSN:=Hd (kV (t:=t) ((HSO.out ((s:Int)+1)).trans (decide_eq_true (by have:=HL.out;omega))))
           generalize hP:ah d t (((r:Int)+2) % 4) ((s:Int)+1)=P at *
           have HP:=Hd hP
           have hPr:=jH (d:=d) (t:=t) (r:=((r:Int)+2) % 4) (s:=(s:Int)+1) HD.out
           rw [hP] at hPr
           clear hP
           generalize hC:iV d t (r:Int) (k:Int) ((s:Int)+1)=C at *
           have HC:Hid (∀w,Calls Tryz.prog 234 #[.agg #[.int .i64 d.W,.int .i64 d.H,.int .i64 d.T,.int .i64 d.R],.int .i64 P,.int .i64 (r:Int),.int .i64 (k:Int)] w fun e w'=>e = .returned (.int .i64 C)/\Below w.heap.size w w'):=fun w=>by
            have h:=il d P (r:Int) (k:Int) w HD.out (by omega) (by omega) (by omega) (by omega) (by omega)
            rwa [show dJ d P (r:Int) (k:Int)=C from by rw [←hC,iV,HP.out]] at h
           have HSC:Hid (∀w,Calls Tryz.prog 230 #[.agg #[.int .i64 d.W,.int .i64 d.H,.int .i64 d.T,.int .i64 d.R],.int .i64 t,.int .i64 (((r:Int)+2) % 4),.int .i64 ((s:Int)+1)] w fun e w'=>e = .returned (.int .i64 P)/\Below w.heap.size w w'):=fun w=>by
            have h:=gF d t (((r:Int)+2) % 4) ((s:Int)+1) w HTI.out (by omega) (by omega) (by omega) (by omega)
            rwa [HP.out] at h
           have HCC:=Hd hC
           clear hC
           have e3:((r:Int)+2).tmod 4=((r:Int)+2) % 4:=Int.tmod_eq_emod_of_nonneg (by omega)
           have e4:IntKind.i64.wrap ((r:Int)+2)=(r:Int)+2:=IntWalk.i64_in _ (by omega)
           have hwW:w.heap.size<wr.heap.size:=by omega
           go_wp2_with fail
           have hsub:=aZ wr
           have hsc:=aR wr
           refine aI wr (by kernel_rfl) (by kernel_rfl) (Below.refl _ _) ?_
           repeat (go_big_quiet_step ((first
            | (go_at_call 230;with_reducible exact aO (HSC.out _))
            | (go_at_call 234;with_reducible exact aO (HC.out _)))))
           refine wpQuiet_nil ?_
           rintro _ ⟨⟨w2,hD⟩,rfl⟩
           clear hsub hsc hcc hff e3 e4
           have HB2:=Hd (aB HB.out hD)
           have HO2:=Hd (HO.out.below hD)
           have hs2:=hD.size
           clear hD
           by_cases hC0:C≥0
           ·have HC1:=Hd (jL (x:=C) (by omega))
            go_wp2_with (at_builtin;refine fA rfl _ _ rfl (w.alloc (.cells #[.int .i64 d.W,.int .i64 d.H,.int .i64 d.T,.int .i64 d.R] 36)).heap.size A m c _ C rfl HO2.out rfl (by omega) (by simp;omega) HB2.out ?_;rintro g4 c4 w4 o4 b4 - -)
            go_roundw
            case rel=>exact ⟨s+1,_,m+1,c4,by omega,by go_num,rfl,by omega,by rw [(HKS s).out,HSN.out,HC1.out,←List.append_assoc];exact o4,b4⟩
            case measure=>simp [intOf];omega
           ·have HC1:=Hd (jh (x:=C) (by omega))
            go_wp2_with fail
            go_roundw
            case rel=>exact ⟨s+1,A,m,c,by omega,by go_num,rfl,by omega,by rw [(HKS s).out,HSN.out,HC1.out,List.append_nil];exact HO2.out,HB2.out⟩
            case measure=>simp [intOf];omega
         ·have hLS:(bP (k:Int)).toNat=s:=by omega
          have HLS:=Hd hLS
          rw [←hZ] at hls
          have hdl:decide ((s:Int)+1<=1+(k:Int) % 2)=false:=by simp;omega
          clear hLS hZ
          go_wp2_with fail
          go_roundw
          case rel=>exact ⟨k+1,A,m,c,by omega,by go_num,rfl,by omega,by rw [HCR.out,HLS.out,←List.append_assoc];exact HO.out,HB.out⟩
          case measure=>simp [intOf];omega
       ·have q1:((r:Int)==o)=false:=by simpa using h1
        have q2:((k:Int)==track)=false:=by simpa using h2
        have q2':((k:Int) != track)=true:=by simpa using h2
        have q3:((k:Int)==tr2)=true:=by simpa using h3
        have q3':((k:Int) != tr2)=false:=by simpa using h3
        clear h1 h2 h3
        go_wp2_with fail
        go_loopw [5,12] (fun v i wr=>∃(s:Nat) (A:Option Addr) (m c:Nat),(s:Int)<=bP (k:Int)/\i = .int .i64 ((s:Int)+1)/\v = .slice A m c/\m<=2+8 * r+2 * k+s/\Own (w.alloc (.cells #[.int .i64 d.W,.int .i64 d.H,.int .i64 d.T,.int .i64 d.R] 36)).heap.size wr A m c (gW d t++fU d t pin r++gX d t pin (r:Int) k++gB d t pin (r:Int) (k:Int) s)/\Below (w.alloc (.cells #[.int .i64 d.W,.int .i64 d.H,.int .i64 d.T,.int .i64 d.R] 36)).heap.size (w.alloc (.cells #[.int .i64 d.W,.int .i64 d.H,.int .i64 d.T,.int .i64 d.R] 36)) wr) (fun _ i _=>4 - (intOf i).toNat)
        case atStart=>exact ⟨0,A,m,c,by omega,rfl,rfl,by omega,by simpa [gB] using HO.out,HB.out⟩
        case round =>
         obtain ⟨s,A,m,c,hsw,rfl,rfl,hn,ho,hb⟩:=hrel
         have HO:=Hd ho
         have HB:=Hd hb
         have hs:=hb.size
         simp only [World.size_alloc] at hs
         clear hcc hff
         obtain ⟨hcc,hff⟩:=bI hb
         clear ho hb
         have hZ:1+(k:Int) % 2=bP (k:Int):=HL.out
         by_cases hls:(s:Int)+1<=bP (k:Int)
         ·have hlsW:=hls
          rw [←hZ] at hls
          have hdl:decide ((s:Int)+1<=1+(k:Int) % 2)=true:=by simpa using hls
          clear hZ
          have hst:(s:Int)+1<1+(k:Int) % 2∨¬(s:Int)+1<1+(k:Int) % 2:=by omega
          rcases hst with hst|hst
          ·have hdst:decide ((s:Int)+1<1+(k:Int) % 2)=true:=by simpa using hst
           have HSN:=Hd (lH (t:=t) ((HSO.out ((s:Int)+1)).trans (decide_eq_false (by have:=HL.out;omega))))
           clear hcc hff
           go_wp2_with fail
           go_roundw
           case rel=>exact ⟨s+1,A,m,c,by omega,by go_num,rfl,by omega,by rw [(HKS s).out,HSN.out,List.append_nil];exact HO.out,HB.out⟩
           case measure=>simp [intOf];omega
          ·have hdst:decide ((s:Int)+1<1+(k:Int) % 2)=false:=by simp;omega
           have HSN:=Hd (kV (t:=t) ((HSO.out ((s:Int)+1)).trans (decide_eq_true (by have:=HL.out;omega))))
           generalize hP:ah d t (((r:Int)+2) % 4) ((s:Int)+1)=P at *
           have HP:=Hd hP
           have hPr:=jH (d:=d) (t:=t) (r:=((r:Int)+2) % 4) (s:=(s:Int)+1) HD.out
           rw [hP] at hPr
           clear hP
           generalize hC:iV d t (r:Int) (k:Int) ((s:Int)+1)=C at *
           have HC:Hid (∀w,Calls Tryz.prog 234 #[.agg #[.int .i64 d.W,.int .i64 d.H,.int .i64 d.T,.int .i64 d.R],.int .i64 P,.int .i64 (r:Int),.int .i64 (k:Int)] w fun e w'=>e = .returned (.int .i64 C)/\Below w.heap.size w w'):=fun w=>by
            have h:=il d P (r:Int) (k:Int) w HD.out (by omega) (by omega) (by omega) (by omega) (by omega)
            rwa [show dJ d P (r:Int) (k:Int)=C from by rw [←hC,iV,HP.out]] at h
           have HSC:Hid (∀w,Calls Tryz.prog 230 #[.agg #[.int .i64 d.W,.int .i64 d.H,.int .i64 d.T,.int .i64 d.R],.int .i64 t,.int .i64 (((r:Int)+2) % 4),.int .i64 ((s:Int)+1)] w fun e w'=>e = .returned (.int .i64 P)/\Below w.heap.size w w'):=fun w=>by
            have h:=gF d t (((r:Int)+2) % 4) ((s:Int)+1) w HTI.out (by omega) (by omega) (by omega) (by omega)
            rwa [HP.out] at h
           have HCC:=Hd hC
           clear hC
           have e3:((r:Int)+2).tmod 4=((r:Int)+2) % 4:=Int.tmod_eq_emod_of_nonneg (by omega)
           have e4:IntKind.i64.wrap ((r:Int)+2)=(r:Int)+2:=IntWalk.i64_in _ (by omega)
           have hwW:w.heap.size<wr.heap.size:=by omega
           go_wp2_with fail
           have hsub:=aZ wr
           have hsc:=aR wr
           refine aI wr (by kernel_rfl) (by kernel_rfl) (Below.refl _ _) ?_
           repeat (go_big_quiet_step ((first
            | (go_at_call 230;with_reducible exact aO (HSC.out _))
            | (go_at_call 234;with_reducible exact aO (HC.out _)))))
           refine wpQuiet_nil ?_
           rintro _ ⟨⟨w2,hD⟩,rfl⟩
           clear hsub hsc hcc hff e3 e4
           have HB2:=Hd (aB HB.out hD)
           have HO2:=Hd (HO.out.below hD)
           have hs2:=hD.size
           clear hD
           by_cases hC0:C≥0
           ·have HC1:=Hd (jL (x:=C) (by omega))
            go_wp2_with (at_builtin;refine fA rfl _ _ rfl (w.alloc (.cells #[.int .i64 d.W,.int .i64 d.H,.int .i64 d.T,.int .i64 d.R] 36)).heap.size A m c _ C rfl HO2.out rfl (by omega) (by simp;omega) HB2.out ?_;rintro g4 c4 w4 o4 b4 - -)
            go_roundw
            case rel=>exact ⟨s+1,_,m+1,c4,by omega,by go_num,rfl,by omega,by rw [(HKS s).out,HSN.out,HC1.out,←List.append_assoc];exact o4,b4⟩
            case measure=>simp [intOf];omega
           ·have HC1:=Hd (jh (x:=C) (by omega))
            go_wp2_with fail
            go_roundw
            case rel=>exact ⟨s+1,A,m,c,by omega,by go_num,rfl,by omega,by rw [(HKS s).out,HSN.out,HC1.out,List.append_nil];exact HO2.out,HB2.out⟩
            case measure=>simp [intOf];omega
         ·have hLS:(bP (k:Int)).toNat=s:=by omega
          have HLS:=Hd hLS
          rw [←hZ] at hls
          have hdl:decide ((s:Int)+1<=1+(k:Int) % 2)=false:=by simp;omega
          clear hLS hZ
          go_wp2_with fail
          go_roundw
          case rel=>exact ⟨k+1,A,m,c,by omega,by go_num,rfl,by omega,by rw [HCR.out,HLS.out,←List.append_assoc];exact HO.out,HB.out⟩
          case measure=>simp [intOf];omega
     ·have hkT:d.T=(k:Int):=by omega
      have HKT:=Hd hkT
      have hdk:decide ((k:Int)<d.T)=false:=by simp;omega
      clear hkT
      go_wp2_with fail
      go_roundw
      case rel=>exact ⟨r+1,A,m,c,by omega,by go_num,rfl,by omega,by rw [HAR.out,show d.T.toNat=k by have:=HKT.out;omega,←List.append_assoc];exact HO.out,HB.out⟩
      case measure=>simp [intOf];omega
   ·have hr4:r=4:=by omega
    have HR4:=Hd hr4
    have hdr:decide ((r:Int)<4)=false:=by simp;omega
    have HLEN:=Hd HO.out.len
    clear hr4 hcc hff
    go_wp2_with fail
    refine (lK A m c _ _ HO.out.ints (by omega)).mono ?_
    rintro e w9 ⟨A9,c9,rfl,⟨ys,oy,py,sy⟩,b9⟩
    have HY:=Hd oy
    have HB9:=Hd (aB HB0.out (aB HB.out b9))
    have HE:=Hd (HSORT.out ys (by rw [HR4.out] at py;unfold iW;rw [if_pos hp7];exact py) sy)
    clear oy py sy b9
    go_wp2_with fail
    go_ret
    exact ⟨A9,m,c9,rfl,by rw [←HE.out];exact HY.out.more (by omega),HB9.out⟩
 ·have HOF1:Hid (gW d t=[X0,dZ d t 1]):=by show _=_;rw [HOF.out];rfl
  clear HOF
  go_wp2_with (go_at_call 233;refine (HC.out _).mono ?_;rintro e w' ⟨rfl,rfl⟩)
  refine (om d t 1 _ HTI.out (by omega) (by omega)).mono ?_
  rintro e w8 ⟨rfl,b8⟩
  have HB8:=Hd (aB HB7.out b8)
  have N8:=Hd (N7.out.below b8)
  have hs8:=b8.size
  clear b8 hcc hff
  generalize dZ d t 1=X1 at *
  go_wp2_with (at_builtin;refine fA rfl _ _ rfl (w.alloc (.cells #[.int .i64 d.W,.int .i64 d.H,.int .i64 d.T,.int .i64 d.R] 36)).heap.size _ 1 c6 [X0] X1 rfl N8.out rfl (by omega) (by simp;omega) HB8.out ?_;rintro g9 c9 w9 o9 b9 - -;have HBS:=Hd b9;have N9:=Hd o9;clear o9 b9)
  have NS:Hid (Own (w.alloc (.cells #[.int .i64 d.W,.int .i64 d.H,.int .i64 d.T,.int .i64 d.R] 36)).heap.size w9 (some ⟨g9,0,none⟩) 2 c9 (gW d t)):=by show Own _ _ _ _ _ _;rw [HOF1.out];exact N9.out
  go_loopw [5,10] (fun v i wr=>∃(r:Nat) (A:Option Addr) (m c:Nat),r<=4/\i = .int .i64 r/\v = .slice A m c/\m<=2+8 * r/\Own (w.alloc (.cells #[.int .i64 d.W,.int .i64 d.H,.int .i64 d.T,.int .i64 d.R] 36)).heap.size wr A m c (gW d t++fU d t pin r)/\Below (w.alloc (.cells #[.int .i64 d.W,.int .i64 d.H,.int .i64 d.T,.int .i64 d.R] 36)).heap.size (w.alloc (.cells #[.int .i64 d.W,.int .i64 d.H,.int .i64 d.T,.int .i64 d.R] 36)) wr) (fun _ i _=>4 - (intOf i).toNat)
  case atStart=>exact ⟨0,_,_,_,by omega,rfl,rfl,by omega,by simpa [fU] using NS.out,HBS.out⟩
  case round =>
   obtain ⟨r,A,m,c,hr,rfl,rfl,hn,ho,hb⟩:=hrel
   have HO:=Hd ho
   have HB:=Hd hb
   have hs:=hb.size
   simp only [World.size_alloc] at hs
   obtain ⟨hcc,hff⟩:=bI hb
   clear ho hb
   by_cases hlt:r<4
   ·have hdr:decide ((r:Int)<4)=true:=by simp;omega
    have HAR:=Hd (kw d t pin r)
    clear hcc hff
    go_wp2_with fail
    go_loopw [5,11] (fun v i wr=>∃(k:Nat) (A:Option Addr) (m c:Nat),(k:Int)<=d.T/\i = .int .i64 k/\v = .slice A m c/\m<=2+8 * r+2 * k/\Own (w.alloc (.cells #[.int .i64 d.W,.int .i64 d.H,.int .i64 d.T,.int .i64 d.R] 36)).heap.size wr A m c (gW d t++fU d t pin r++gX d t pin (r:Int) k)/\Below (w.alloc (.cells #[.int .i64 d.W,.int .i64 d.H,.int .i64 d.T,.int .i64 d.R] 36)).heap.size (w.alloc (.cells #[.int .i64 d.W,.int .i64 d.H,.int .i64 d.T,.int .i64 d.R] 36)) wr) (fun _ i _=>d.T.toNat - (intOf i).toNat)
    case atStart=>exact ⟨0,A,m,c,by omega,rfl,rfl,by omega,by simpa [gX] using HO.out,HB.out⟩
    case round =>
     obtain ⟨k,A,m,c,hk,rfl,rfl,hn,ho,hb⟩:=hrel
     have HO:=Hd ho
     have HB:=Hd hb
     have hs:=hb.size
     simp only [World.size_alloc] at hs
     obtain ⟨hcc,hff⟩:=bI hb
     have HCR:=Hd (ku d t pin (r:Int) k)
     clear ho hb
     by_cases hlk:(k:Int)<d.T
     ·have hdk:decide ((k:Int)<d.T)=true:=by simpa using hlk
      have hL:bP (k:Int)=1+(k:Int) % 2:=rfl
      have hL2:1<=bP (k:Int)/\bP (k:Int)<=2:=by rw [hL];omega
      have HL:=Hd hL.symm
      have HKS:=fun s=>Hd (kr d t pin (r:Int) (k:Int) s)
      clear hL
      have HUSE:=HUSE0.out (r:Int) (k:Int)
      have HUSE:=Hd HUSE
      by_cases hskip:(r:Int)=o∨(¬(k:Int)=track/\¬(k:Int)=tr2)
      ·have HOFF:=Hd (nU (d:=d) (t:=t) (pin:=pin) (r:=(r:Int)) (k:=(k:Int)) (s:=(bP (k:Int)).toNat) (fun s=>by rw [HUSE.out];simp;omega))
       have hcs:(r:Int)=o∨(¬(r:Int)=o/\¬(k:Int)=track/\¬(k:Int)=tr2):=by omega
       clear hskip
       rcases hcs with h|⟨h1,h2,h3⟩
       ·have q1:((r:Int)==o)=true:=by simpa using h
        clear h
        go_wp2_with fail
        go_roundw
        case rel=>exact ⟨k+1,A,m,c,by omega,by go_num,rfl,by omega,by rw [HCR.out,HOFF.out,List.append_nil];exact HO.out,HB.out⟩
        case measure=>simp [intOf];omega
       ·have q1:((r:Int)==o)=false:=by simpa using h1
        have q2:((k:Int)==track)=false:=by simpa using h2
        have q2':((k:Int) != track)=true:=by simpa using h2
        have q3:((k:Int)==tr2)=false:=by simpa using h3
        have q3':((k:Int) != tr2)=true:=by simpa using h3
        clear h1 h2 h3
        go_wp2_with fail
        go_roundw
        case rel=>exact ⟨k+1,A,m,c,by omega,by go_num,rfl,by omega,by rw [HCR.out,HOFF.out,List.append_nil];exact HO.out,HB.out⟩
        case measure=>simp [intOf];omega
      ·have hcs:(¬(r:Int)=o/\(k:Int)=track)∨(¬(r:Int)=o/\¬(k:Int)=track/\(k:Int)=tr2):=by omega
       have HSO:Hid (∀s,jv d pin (r:Int) (k:Int) s=decide (s=bP (k:Int))):=by
        intro s
        rw [HUSE.out,decide_eq_true (show (r:Int)≠o by omega)]
        rcases hcs with h|h
        ·rw [decide_eq_true h.2];simp
        ·rw [decide_eq_true h.2.2];simp
       clear HUSE hskip
       rcases hcs with ⟨h1,h2⟩|⟨h1,h2,h3⟩
       ·have q1:((r:Int)==o)=false:=by simpa using h1
        have q2:((k:Int)==track)=true:=by simpa using h2
        have q2':((k:Int) != track)=false:=by simpa using h2
        clear h1 h2
        go_wp2_with fail
        go_loopw [5,12] (fun v i wr=>∃(s:Nat) (A:Option Addr) (m c:Nat),(s:Int)<=bP (k:Int)/\i = .int .i64 ((s:Int)+1)/\v = .slice A m c/\m<=2+8 * r+2 * k+s/\Own (w.alloc (.cells #[.int .i64 d.W,.int .i64 d.H,.int .i64 d.T,.int .i64 d.R] 36)).heap.size wr A m c (gW d t++fU d t pin r++gX d t pin (r:Int) k++gB d t pin (r:Int) (k:Int) s)/\Below (w.alloc (.cells #[.int .i64 d.W,.int .i64 d.H,.int .i64 d.T,.int .i64 d.R] 36)).heap.size (w.alloc (.cells #[.int .i64 d.W,.int .i64 d.H,.int .i64 d.T,.int .i64 d.R] 36)) wr) (fun _ i _=>4 - (intOf i).toNat)
        case atStart=>exact ⟨0,A,m,c,by omega,rfl,rfl,by omega,by simpa [gB] using HO.out,HB.out⟩
        case round =>
         obtain ⟨s,A,m,c,hsw,rfl,rfl,hn,ho,hb⟩:=hrel
         have HO:=Hd ho
         have HB:=Hd hb
         have hs:=hb.size
         simp only [World.size_alloc] at hs
         clear hcc hff
         obtain ⟨hcc,hff⟩:=bI hb
         clear ho hb
         have hZ:1+(k:Int) % 2=bP (k:Int):=HL.out
         by_cases hls:(s:Int)+1<=bP (k:Int)
         ·have hlsW:=hls
          rw [←hZ] at hls
          have hdl:decide ((s:Int)+1<=1+(k:Int) % 2)=true:=by simpa using hls
          clear hZ
          have hst:(s:Int)+1<1+(k:Int) % 2∨¬(s:Int)+1<1+(k:Int) % 2:=by omega
          rcases hst with hst|hst
          ·have hdst:decide ((s:Int)+1<1+(k:Int) % 2)=true:=by simpa using hst
           have HSN:=Hd (lH (t:=t) ((HSO.out ((s:Int)+1)).trans (decide_eq_false (by have:=HL.out;omega))))
           clear hcc hff
           go_wp2_with fail
           go_roundw
           case rel=>exact ⟨s+1,A,m,c,by omega,by go_num,rfl,by omega,by rw [(HKS s).out,HSN.out,List.append_nil];exact HO.out,HB.out⟩
           case measure=>simp [intOf];omega
          ·have hdst:decide ((s:Int)+1<1+(k:Int) % 2)=false:=by simp;omega
           have HSN:=Hd (kV (t:=t) ((HSO.out ((s:Int)+1)).trans (decide_eq_true (by have:=HL.out;omega))))
           generalize hP:ah d t (((r:Int)+2) % 4) ((s:Int)+1)=P at *
           have HP:=Hd hP
           have hPr:=jH (d:=d) (t:=t) (r:=((r:Int)+2) % 4) (s:=(s:Int)+1) HD.out
           rw [hP] at hPr
           clear hP
           generalize hC:iV d t (r:Int) (k:Int) ((s:Int)+1)=C at *
           have HC:Hid (∀w,Calls Tryz.prog 234 #[.agg #[.int .i64 d.W,.int .i64 d.H,.int .i64 d.T,.int .i64 d.R],.int .i64 P,.int .i64 (r:Int),.int .i64 (k:Int)] w fun e w'=>e = .returned (.int .i64 C)/\Below w.heap.size w w'):=fun w=>by
            have h:=il d P (r:Int) (k:Int) w HD.out (by omega) (by omega) (by omega) (by omega) (by omega)
            rwa [show dJ d P (r:Int) (k:Int)=C from by rw [←hC,iV,HP.out]] at h
           have HSC:Hid (∀w,Calls Tryz.prog 230 #[.agg #[.int .i64 d.W,.int .i64 d.H,.int .i64 d.T,.int .i64 d.R],.int .i64 t,.int .i64 (((r:Int)+2) % 4),.int .i64 ((s:Int)+1)] w fun e w'=>e = .returned (.int .i64 P)/\Below w.heap.size w w'):=fun w=>by
            have h:=gF d t (((r:Int)+2) % 4) ((s:Int)+1) w HTI.out (by omega) (by omega) (by omega) (by omega)
            rwa [HP.out] at h
           have HCC:=Hd hC
           clear hC
           have e3:((r:Int)+2).tmod 4=((r:Int)+2) % 4:=Int.tmod_eq_emod_of_nonneg (by omega)
           have e4:IntKind.i64.wrap ((r:Int)+2)=(r:Int)+2:=IntWalk.i64_in _ (by omega)
           have hwW:w.heap.size<wr.heap.size:=by omega
           go_wp2_with fail
           have hsub:=aZ wr
           have hsc:=aR wr
           refine aI wr (by kernel_rfl) (by kernel_rfl) (Below.refl _ _) ?_
           repeat (go_big_quiet_step ((first
            | (go_at_call 230;with_reducible exact aO (HSC.out _))
            | (go_at_call 234;with_reducible exact aO (HC.out _)))))
           refine wpQuiet_nil ?_
           rintro _ ⟨⟨w2,hD⟩,rfl⟩
           clear hsub hsc hcc hff e3 e4
           have HB2:=Hd (aB HB.out hD)
           have HO2:=Hd (HO.out.below hD)
           have hs2:=hD.size
           clear hD
           by_cases hC0:C≥0
           ·have HC1:=Hd (jL (x:=C) (by omega))
            go_wp2_with (at_builtin;refine fA rfl _ _ rfl (w.alloc (.cells #[.int .i64 d.W,.int .i64 d.H,.int .i64 d.T,.int .i64 d.R] 36)).heap.size A m c _ C rfl HO2.out rfl (by omega) (by simp;omega) HB2.out ?_;rintro g4 c4 w4 o4 b4 - -)
            go_roundw
            case rel=>exact ⟨s+1,_,m+1,c4,by omega,by go_num,rfl,by omega,by rw [(HKS s).out,HSN.out,HC1.out,←List.append_assoc];exact o4,b4⟩
            case measure=>simp [intOf];omega
           ·have HC1:=Hd (jh (x:=C) (by omega))
            go_wp2_with fail
            go_roundw
            case rel=>exact ⟨s+1,A,m,c,by omega,by go_num,rfl,by omega,by rw [(HKS s).out,HSN.out,HC1.out,List.append_nil];exact HO2.out,HB2.out⟩
            case measure=>simp [intOf];omega
         ·have hLS:(bP (k:Int)).toNat=s:=by omega
          have HLS:=Hd hLS
          rw [←hZ] at hls
          have hdl:decide ((s:Int)+1<=1+(k:Int) % 2)=false:=by simp;omega
          clear hLS hZ
          go_wp2_with fail
          go_roundw
          case rel=>exact ⟨k+1,A,m,c,by omega,by go_num,rfl,by omega,by rw [HCR.out,HLS.out,←List.append_assoc];exact HO.out,HB.out⟩
          case measure=>simp [intOf];omega
       ·have q1:((r:Int)==o)=false:=by simpa using h1
        have q2:((k:Int)==track)=false:=by simpa using h2
        have q2':((k:Int) != track)=true:=by simpa using h2
        have q3:((k:Int)==tr2)=true:=by simpa using h3
        have q3':((k:Int) != tr2)=false:=by simpa using h3
        clear h1 h2 h3
        go_wp2_with fail
        go_loopw [5,12] (fun v i wr=>∃(s:Nat) (A:Option Addr) (m c:Nat),(s:Int)<=bP (k:Int)/\i = .int .i64 ((s:Int)+1)/\v = .slice A m c/\m<=2+8 * r+2 * k+s/\Own (w.alloc (.cells #[.int .i64 d.W,.int .i64 d.H,.int .i64 d.T,.int .i64 d.R] 36)).heap.size wr A m c (gW d t++fU d t pin r++gX d t pin (r:Int) k++gB d t pin (r:Int) (k:Int) s)/\Below (w.alloc (.cells #[.int .i64 d.W,.int .i64 d.H,.int .i64 d.T,.int .i64 d.R] 36)).heap.size (w.alloc (.cells #[.int .i64 d.W,.int .i64 d.H,.int .i64 d.T,.int .i64 d.R] 36)) wr) (fun _ i _=>4 - (intOf i).toNat)
        case atStart=>exact ⟨0,A,m,c,by omega,rfl,rfl,by omega,by simpa [gB] using HO.out,HB.out⟩
        case round =>
         obtain ⟨s,A,m,c,hsw,rfl,rfl,hn,ho,hb⟩:=hrel
         have HO:=Hd ho
         have HB:=Hd hb
         have hs:=hb.size
         simp only [World.size_alloc] at hs
         clear hcc hff
         obtain ⟨hcc,hff⟩:=bI hb
         clear ho hb
         have hZ:1+(k:Int) % 2=bP (k:Int):=HL.out
         by_cases hls:(s:Int)+1<=bP (k:Int)
         ·have hlsW:=hls
          rw [←hZ] at hls
          have hdl:decide ((s:Int)+1<=1+(k:Int) % 2)=true:=by simpa using hls
          clear hZ
          have hst:(s:Int)+1<1+(k:Int) % 2∨¬(s:Int)+1<1+(k:Int) % 2:=by omega
          rcases hst with hst|hst
          ·have hdst:decide ((s:Int)+1<1+(k:Int) % 2)=true:=by simpa using hst
           have HSN:=Hd (lH (t:=t) ((HSO.out ((s:Int)+1)).trans (decide_eq_false (by have:=HL.out;omega))))
           clear hcc hff
           go_wp2_with fail
           go_roundw
           case rel=>exact ⟨s+1,A,m,c,by omega,by go_num,rfl,by omega,by rw [(HKS s).out,HSN.out,List.append_nil];exact HO.out,HB.out⟩
           case measure=>simp [intOf];omega
          ·have hdst:decide ((s:Int)+1<1+(k:Int) % 2)=false:=by simp;omega
           have HSN:=Hd (kV (t:=t) ((HSO.out ((s:Int)+1)).trans (decide_eq_true (by have:=HL.out;omega))))
           generalize hP:ah d t (((r:Int)+2) % 4) ((s:Int)+1)=P at *
           have HP:=Hd hP
           have hPr:=jH (d:=d) (t:=t) (r:=((r:Int)+2) % 4) (s:=(s:Int)+1) HD.out
           rw [hP] at hPr
           clear hP
           generalize hC:iV d t (r:Int) (k:Int) ((s:Int)+1)=C at *
           have HC:Hid (∀w,Calls Tryz.prog 234 #[.agg #[.int .i64 d.W,.int .i64 d.H,.int .i64 d.T,.int .i64 d.R],.int .i64 P,.int .i64 (r:Int),.int .i64 (k:Int)] w fun e w'=>e = .returned (.int .i64 C)/\Below w.heap.size w w'):=fun w=>by
            have h:=il d P (r:Int) (k:Int) w HD.out (by omega) (by omega) (by omega) (by omega) (by omega)
            rwa [show dJ d P (r:Int) (k:Int)=C from by rw [←hC,iV,HP.out]] at h
           have HSC:Hid (∀w,Calls Tryz.prog 230 #[.agg #[.int .i64 d.W,.int .i64 d.H,.int .i64 d.T,.int .i64 d.R],.int .i64 t,.int .i64 (((r:Int)+2) % 4),.int .i64 ((s:Int)+1)] w fun e w'=>e = .returned (.int .i64 P)/\Below w.heap.size w w'):=fun w=>by
            have h:=gF d t (((r:Int)+2) % 4) ((s:Int)+1) w HTI.out (by omega) (by omega) (by omega) (by omega)
            rwa [HP.out] at h
           have HCC:=Hd hC
           clear hC
           have e3:((r:Int)+2).tmod 4=((r:Int)+2) % 4:=Int.tmod_eq_emod_of_nonneg (by omega)
           have e4:IntKind.i64.wrap ((r:Int)+2)=(r:Int)+2:=IntWalk.i64_in _ (by omega)
           have hwW:w.heap.size<wr.heap.size:=by omega
           go_wp2_with fail
           have hsub:=aZ wr
           have hsc:=aR wr
           refine aI wr (by kernel_rfl) (by kernel_rfl) (Below.refl _ _) ?_
           repeat (go_big_quiet_step ((first
            | (go_at_call 230;with_reducible exact aO (HSC.out _))
            | (go_at_call 234;with_reducible exact aO (HC.out _)))))
           refine wpQuiet_nil ?_
           rintro _ ⟨⟨w2,hD⟩,rfl⟩
           clear hsub hsc hcc hff e3 e4
           have HB2:=Hd (aB HB.out hD)
           have HO2:=Hd (HO.out.below hD)
           have hs2:=hD.size
           clear hD
           by_cases hC0:C≥0
           ·have HC1:=Hd (jL (x:=C) (by omega))
            go_wp2_with (at_builtin;refine fA rfl _ _ rfl (w.alloc (.cells #[.int .i64 d.W,.int .i64 d.H,.int .i64 d.T,.int .i64 d.R] 36)).heap.size A m c _ C rfl HO2.out rfl (by omega) (by simp;omega) HB2.out ?_;rintro g4 c4 w4 o4 b4 - -)
            go_roundw
            case rel=>exact ⟨s+1,_,m+1,c4,by omega,by go_num,rfl,by omega,by rw [(HKS s).out,HSN.out,HC1.out,←List.append_assoc];exact o4,b4⟩
            case measure=>simp [intOf];omega
           ·have HC1:=Hd (jh (x:=C) (by omega))
            go_wp2_with fail
            go_roundw
            case rel=>exact ⟨s+1,A,m,c,by omega,by go_num,rfl,by omega,by rw [(HKS s).out,HSN.out,HC1.out,List.append_nil];exact HO2.out,HB2.out⟩
            case measure=>simp [intOf];omega
         ·have hLS:(bP (k:Int)).toNat=s:=by omega
          have HLS:=Hd hLS
          rw [←hZ] at hls
          have hdl:decide ((s:Int)+1<=1+(k:Int) % 2)=false:=by simp;omega
          clear hLS hZ
          go_wp2_with fail
          go_roundw
          case rel=>exact ⟨k+1,A,m,c,by omega,by go_num,rfl,by omega,by rw [HCR.out,HLS.out,←List.append_assoc];exact HO.out,HB.out⟩
          case measure=>simp [intOf];omega
     ·have hkT:d.T=(k:Int):=by omega
      have HKT:=Hd hkT
      have hdk:decide ((k:Int)<d.T)=false:=by simp;omega
      clear hkT
      go_wp2_with fail
      go_roundw
      case rel=>exact ⟨r+1,A,m,c,by omega,by go_num,rfl,by omega,by rw [HAR.out,show d.T.toNat=k by have:=HKT.out;omega,←List.append_assoc];exact HO.out,HB.out⟩
      case measure=>simp [intOf];omega
   ·have hr4:r=4:=by omega
    have HR4:=Hd hr4
    have hdr:decide ((r:Int)<4)=false:=by simp;omega
    have HLEN:=Hd HO.out.len
    clear hr4 hcc hff
    go_wp2_with fail
    refine (lK A m c _ _ HO.out.ints (by omega)).mono ?_
    rintro e w9 ⟨A9,c9,rfl,⟨ys,oy,py,sy⟩,b9⟩
    have HY:=Hd oy
    have HB9:=Hd (aB HB0.out (aB HB.out b9))
    have HE:=Hd (HSORT.out ys (by rw [HR4.out] at py;unfold iW;rw [if_pos hp7];exact py) sy)
    clear oy py sy b9
    go_wp2_with fail
    go_ret
    exact ⟨A9,m,c9,rfl,by rw [←HE.out];exact HY.out.more (by omega),HB9.out⟩
theorem nK (d:Dev) (n:Int) (w:World) (h:bH d n=false∨(bH d n=true/\(n % aX d=5∨n % aX d=6))) :
  Calls Tryz.prog 146 #[.agg #[.int .i64 d.W,.int .i64 d.H,.int .i64 d.T,.int .i64 d.R],.int .i64 n] w fun e w'=>∃A m c,e = .returned (.slice A m c)/\Own w.heap.size w' A m c (iE d n)/\Below w.heap.size w w':=by
 have HB0:=Hd (aF (Below.refl w.heap.size w) (.cells #[.int .i64 d.W,.int .i64 d.H,.int .i64 d.T,.int .i64 d.R] 36))
 rcases h with hno|⟨hno,h5⟩
 ·have HS:=Hd (wS hno)
  have HNO:Hid (∀w,Calls Tryz.prog 207 #[.agg #[.int .i64 d.W,.int .i64 d.H,.int .i64 d.T,.int .i64 d.R],.int .i64 n] w fun e w'=>e = .returned (.bool false)/\Below w.heap.size w w'):=fun w=>by have h:=gQ d n w;rwa [hno] at h
  clear hno
  go_enter Tryz.func146,Tryz.ntmps146
  go_wp2_with fail
  refine (HNO.out _).mono ?_
  rintro e w1 ⟨rfl,b1⟩
  have N1:=Hd ((Own.newAt (w:=(w.alloc (.cells #[.int .i64 d.W,.int .i64 d.H,.int .i64 d.T,.int .i64 d.R] 36))) (base:=(w.alloc (.cells #[.int .i64 d.W,.int .i64 d.H,.int .i64 d.T,.int .i64 d.R] 36)).heap.size) (g:=w.heap.size+1) (by simp) (by simp)).below b1)
  have HB1:=Hd (aB (aF HB0.out _) b1)
  clear b1
  go_wp2_with fail
  go_ret
  exact ⟨_,0,0,rfl,by rw [HS.out];exact N1.out.more (by simp),HB1.out⟩
 ·have HS:=Hd (uX h5)
  have hni:fF d n=true:=by unfold bH at hno;rw [Bool.and_eq_true] at hno;exact hno.1
  obtain ⟨hd,n0,n1,hq0,hq1,hr0,hr1⟩:=jF hni
  have hT:=bC hd
  have hp:=dw hd
  have hWH:=eG hd
  have HNO:Hid (∀w,Calls Tryz.prog 207 #[.agg #[.int .i64 d.W,.int .i64 d.H,.int .i64 d.T,.int .i64 d.R],.int .i64 n] w fun e w'=>e = .returned (.bool true)/\Below w.heap.size w w'):=fun w=>by have h:=gQ d n w;rwa [hno] at h
  have e0:¬aX d=0:=by omega
  have e1:n.tmod (aX d)=n % aX d:=Int.tmod_eq_emod_of_nonneg n0
  have e2:IntKind.i64.wrap (n.tdiv (aX d))=n / aX d:=IntWalk.i64_quo _ _ ⟨n0,by omega,by omega⟩
  clear hno hni hd
  go_enter Tryz.func146,Tryz.ntmps146
  go_wp2_with fail
  refine (HNO.out _).mono ?_
  rintro e w1 ⟨rfl,b1⟩
  have N1:=Hd ((Own.newAt (w:=(w.alloc (.cells #[.int .i64 d.W,.int .i64 d.H,.int .i64 d.T,.int .i64 d.R] 36))) (base:=(w.alloc (.cells #[.int .i64 d.W,.int .i64 d.H,.int .i64 d.T,.int .i64 d.R] 36)).heap.size) (g:=w.heap.size+1) (by simp) (by simp)).below b1)
  have HB1:=Hd (aB (aF (Below.refl _ _) _) b1:Below (w.alloc (.cells #[.int .i64 d.W,.int .i64 d.H,.int .i64 d.T,.int .i64 d.R] 36)).heap.size (w.alloc (.cells #[.int .i64 d.W,.int .i64 d.H,.int .i64 d.T,.int .i64 d.R] 36)) w1)
  have hs1:=b1.size
  simp only [World.size_alloc] at hs1
  clear b1
  obtain ⟨hcc,hff⟩:=bI HB1.out
  go_wp2_with fail
  refine (dh d _ (by omega) (by omega)).mono ?_
  rintro e w2 ⟨rfl,b2⟩
  have HB2:=Hd (aB HB1.out b2)
  have N2:=Hd (N1.out.below b2)
  have hs2:=b2.size
  clear b2 hcc hff
  obtain ⟨hcc,hff⟩:=bI HB2.out
  go_wp2_with fail
  refine (dh d _ (by omega) (by omega)).mono ?_
  rintro e w3 ⟨rfl,b3⟩
  have HB3:=Hd (aB HB0.out (aB HB2.out b3))
  have N3:=Hd (N2.out.below b3)
  clear b3 hcc hff
  generalize n % aX d=pin at *
  have h2:((pin==5)=true)∨((pin==5)=false/\(pin==6)=true):=by
   rcases h5 with h|h
   ·exact .inl (by simpa using h)
   ·exact .inr ⟨by simp;omega,by simpa using h⟩
  clear h5
  rcases h2 with q5|⟨q5,q6⟩
  all_goals
   go_wp2_with fail
   go_ret
   exact ⟨_,0,0,rfl,by rw [HS.out];exact N3.out.more (by simp),HB3.out⟩
theorem rf (d:Dev) (n:Int) (w:World) :
  Calls Tryz.prog 146 #[.agg #[.int .i64 d.W,.int .i64 d.H,.int .i64 d.T,.int .i64 d.R],.int .i64 n] w fun e w'=>∃A m c,e = .returned (.slice A m c)/\Own w.heap.size w' A m c (iE d n)/\Below w.heap.size w w':=by
 cases hno:bH d n with
 | false=>exact nK d n w (.inl hno)
 | true =>
  by_cases h5:n % aX d=5∨n % aX d=6
  ·exact nK d n w (.inr ⟨hno,h5⟩)
  ·rcases Int.lt_or_le (n % aX d) 5 with h|h
   ·exact rZ d n w hno h
   ·exact ql d n w hno (by omega)
end Go.Proofs.YtofihjoanjkdmaaGreat
