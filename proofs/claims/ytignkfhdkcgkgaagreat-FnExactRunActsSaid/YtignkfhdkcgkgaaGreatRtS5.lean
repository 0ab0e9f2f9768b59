/- The sources of a wire: the reference's function. -/
import Derived.Test.YtignkfhdkcgkgaaGreatRtS4
namespace Go.Proofs.YtignkfhdkcgkgaaGreat
set_option maxHeartbeats 8000000
set_option maxRecDepth 100000
open Go.RowKit
theorem xD (d:Dev) (n:Int) (w:World) (hno:bS d n=true) (h7:7<=n % aM d) :
  Calls Tryz.prog 137 #[.agg #[.int .i64 d.W,.int .i64 d.H,.int .i64 d.T,.int .i64 d.R],.int .i64 n] w fun e w'=>∃A m c,e = .returned (.slice A m c)/\Own w.heap.size w' A m c (jg d n)/\Below w.heap.size w w':=by
 have HB0:=Hd (aB (Below.refl w.heap.size w) (.cells #[.int .i64 d.W,.int .i64 d.H,.int .i64 d.T,.int .i64 d.R] 25))
 have hni:bZ d n=true:=by unfold bS at hno;rw [Bool.and_eq_true] at hno;exact hno.1
 have HTI:=Hd (gK hni)
 obtain ⟨hd,n0,n1,hq0,hq1,hr0,hr1⟩:=dX hni
 have hT:=aY hd
 have hp:=bg hd
 have hWH:=dL hd
 have HD:=Hd hd
 have HSORT:=Hd (fun l hp hs=>uU (l:=l) hno (by omega) hp hs)
 have HNO:Hid (∀w,Calls Tryz.prog 184 #[.agg #[.int .i64 d.W,.int .i64 d.H,.int .i64 d.T,.int .i64 d.R],.int .i64 n] w fun e w'=>e = .returned (.bool true)/\Below w.heap.size w w'):=fun w=>by have h:=gU d n w;rwa [hno] at h
 have e0:¬aM d=0:=by omega
 have e1:n.tmod (aM d)=n % aM d:=Int.tmod_eq_emod_of_nonneg n0
 have e2:IntKind.i64.wrap (n.tdiv (aM d))=n / aM d:=IntWalk.i64_quo _ _ ⟨n0,by omega,by omega⟩
 have HUSE0:=Hd (fun r k s=>Cc (d:=d) (pin:=n % aM d) h7 r k s)
 have HWI:=Hd (fun w=>uW d n w hni h7)
 clear hno hni hd
 go_enter Tryz.func137,Tryz.ntmps137
 go_wp2_with fail
 refine (HNO.out _).mono ?_
 rintro e w1 ⟨rfl,b1⟩
 have N1:=Hd ((Own.newAt (w:=(w.alloc (.cells #[.int .i64 d.W,.int .i64 d.H,.int .i64 d.T,.int .i64 d.R] 25))) (base:=(w.alloc (.cells #[.int .i64 d.W,.int .i64 d.H,.int .i64 d.T,.int .i64 d.R] 25)).heap.size) (g:=w.heap.size+1) (by simp) (by simp)).below b1)
 have HB1:=Hd (aA (aB (Below.refl _ _) _) b1:Below (w.alloc (.cells #[.int .i64 d.W,.int .i64 d.H,.int .i64 d.T,.int .i64 d.R] 25)).heap.size (w.alloc (.cells #[.int .i64 d.W,.int .i64 d.H,.int .i64 d.T,.int .i64 d.R] 25)) w1)
 have hs1:=b1.size
 simp only [World.size_alloc] at hs1
 clear b1
 obtain ⟨hcc,hff⟩:=aO HB1.out
 go_wp2_with fail
 refine (dB d _ (by omega) (by omega)).mono ?_
 rintro e w2 ⟨rfl,b2⟩
 have HB2:=Hd (aA HB1.out b2)
 have N2:=Hd (N1.out.below b2)
 have hs2:=b2.size
 clear b2 hcc hff
 obtain ⟨hcc,hff⟩:=aO HB2.out
 go_wp2_with fail
 refine (dB d _ (by omega) (by omega)).mono ?_
 rintro e w3 ⟨rfl,b3⟩
 have HB3:=Hd (aA HB2.out b3)
 have N3:=Hd (N2.out.below b3)
 have hs3:=b3.size
 clear b3 hcc hff
 obtain ⟨hcc,hff⟩:=aO HB3.out
 generalize n % aM d=pin at *
 generalize n / aM d=t at *
 clear HNO
 have hp7:7<=pin:=h7
 have hdp:decide (pin≥7)=true:=by simp;omega
 have hp5:(pin==5)=false:=by simp;omega
 have hp6:(pin==6)=false:=by simp;omega
 have hT0:=Int.ediv_nonneg (show 0<=pin - 7 by omega) (show 0<=d.T by omega)
 have hT1:=Int.emod_nonneg (pin - 7) (show d.T≠0 by omega)
 have hT2:=Int.emod_lt_of_pos (pin - 7) (show 0<d.T by omega)
 have hT3:(pin - 7) / d.T<=3:=by
  have:(pin - 7) / d.T<4:=Int.ediv_lt_of_lt_mul (by omega) (by unfold aM at hr1;omega)
  omega
 go_wp2_with fail
 refine (HWI.out _).mono ?_
 rintro e w4 ⟨rfl,b4⟩
 have HB4:=Hd (aA HB3.out b4)
 have N4:=Hd (N3.out.below b4)
 have hs4:=b4.size
 clear b4 hcc hff e0 e1 e2
 obtain ⟨hcc,hff⟩:=aO HB4.out
 generalize (pin - 7) / d.T=dir at *
 generalize (pin - 7) % d.T=track at *
 have e0:¬d.T=0:=by omega
 have e6:(track+1).tmod d.T=(track+1) % d.T:=Int.tmod_eq_emod_of_nonneg (by omega)
 have hto:=Int.emod_nonneg (dir+2) (show (4:Int)≠0 by omega)
 generalize ho:(dir+2) % 4=o at *
 have HO4:=Hd ho
 have e7:(dir+2).tmod 4=o:=by rw [Int.tmod_eq_emod_of_nonneg (by omega),ho]
 clear ho
 generalize (track+1) % d.T=tr2 at *
 go_wp2_with fail
 refine (uV d t 0 _ HTI.out (by omega) (by omega)).mono ?_
 rintro e w5 ⟨rfl,b5⟩
 have HB5:=Hd (aA HB4.out b5)
 have N5:=Hd (N4.out.below b5)
 have hs5:=b5.size
 clear b5 hcc hff
 obtain ⟨hcc,hff⟩:=aO HB5.out
 have HOF:Hid (gL d t=if dS (ah d t)>1 then [fE d t 0,fE d t 1] else [fE d t 0]):=rfl
 generalize fE d t 0=X0 at *
 go_wp2_with (at_builtin;refine ax rfl _ _ rfl (w.alloc (.cells #[.int .i64 d.W,.int .i64 d.H,.int .i64 d.T,.int .i64 d.R] 25)).heap.size _ 0 0 [] X0 rfl N5.out rfl (by omega) (by simp;omega) HB5.out ?_;rintro g6 c6 w6 o6 b6 - -;rw [List.nil_append] at o6;have HB6:=Hd b6;have N6:=Hd o6;have hs6:=b6.size;(try simp only [World.size_alloc] at hs6);clear hcc hff;obtain ⟨hcc,hff⟩:=aO b6;clear o6 b6)
 refine (ed d t _ HTI.out).mono ?_
 rintro e w7 ⟨rfl,b7⟩
 have HB7:=Hd (aA HB6.out b7)
 have N7:=Hd (N6.out.below b7)
 have hs7:=b7.size
 clear b7 hcc hff
 obtain ⟨hcc,hff⟩:=aO HB7.out
 have hop:=gG d t
 generalize ah d t=K at *
 have HC:Hid (∀w,Calls Tryz.prog 187 #[.int .i64 K] w fun e w'=>e = .returned (.int .i64 (dS K))/\w=w'):=fun w=>oC K w
 generalize dS K=Q at *
 rcases hop with rfl|rfl
 ·have HOF1:Hid (gL d t=[X0]):=by show _=_;rw [HOF.out];rfl
  clear HOF
  go_wp2_with (go_at_call 187;refine (HC.out _).mono ?_;rintro e w' ⟨rfl,rfl⟩)
  have NS:Hid (Own (w.alloc (.cells #[.int .i64 d.W,.int .i64 d.H,.int .i64 d.T,.int .i64 d.R] 25)).heap.size w7 (some ⟨g6,0,none⟩) 1 c6 (gL d t)):=by show Own _ _ _ _ _ _;rw [HOF1.out];exact N7.out
  have HBS:=HB7
  clear hcc hff
  go_loopw [5,10] (fun v i wr=>∃(r:Nat) (A:Option Addr) (m c:Nat),r<=4/\i = .int .i64 r/\v = .slice A m c/\m<=2+8 * r/\Own (w.alloc (.cells #[.int .i64 d.W,.int .i64 d.H,.int .i64 d.T,.int .i64 d.R] 25)).heap.size wr A m c (gL d t++fF d t pin r)/\Below (w.alloc (.cells #[.int .i64 d.W,.int .i64 d.H,.int .i64 d.T,.int .i64 d.R] 25)).heap.size (w.alloc (.cells #[.int .i64 d.W,.int .i64 d.H,.int .i64 d.T,.int .i64 d.R] 25)) wr) (fun _ i _=>4 - (intOf i).toNat)
  case atStart=>exact ⟨0,_,_,_,by omega,rfl,rfl,by omega,by simpa [fF] using NS.out,HBS.out⟩
  case round =>
   obtain ⟨r,A,m,c,hr,rfl,rfl,hn,ho,hb⟩:=hrel
   have HO:=Hd ho
   have HB:=Hd hb
   have hs:=hb.size
   simp only [World.size_alloc] at hs
   obtain ⟨hcc,hff⟩:=aO hb
   clear ho hb
   by_cases hlt:r<4
   ·have hdr:decide ((r:Int)<4)=true:=by simp;omega
    have HAR:=Hd (mK d t pin r)
    clear hcc hff
    go_wp2_with fail
    go_loopw [5,11] (fun v i wr=>∃(k:Nat) (A:Option Addr) (m c:Nat),(k:Int)<=d.T/\i = .int .i64 k/\v = .slice A m c/\m<=2+8 * r+2 * k/\Own (w.alloc (.cells #[.int .i64 d.W,.int .i64 d.H,.int .i64 d.T,.int .i64 d.R] 25)).heap.size wr A m c (gL d t++fF d t pin r++gZ d t pin (r:Int) k)/\Below (w.alloc (.cells #[.int .i64 d.W,.int .i64 d.H,.int .i64 d.T,.int .i64 d.R] 25)).heap.size (w.alloc (.cells #[.int .i64 d.W,.int .i64 d.H,.int .i64 d.T,.int .i64 d.R] 25)) wr) (fun _ i _=>d.T.toNat - (intOf i).toNat)
    case atStart=>exact ⟨0,A,m,c,by omega,rfl,rfl,by omega,by simpa [gZ] using HO.out,HB.out⟩
    case round =>
     obtain ⟨k,A,m,c,hk,rfl,rfl,hn,ho,hb⟩:=hrel
     have HO:=Hd ho
     have HB:=Hd hb
     have hs:=hb.size
     simp only [World.size_alloc] at hs
     obtain ⟨hcc,hff⟩:=aO hb
     have HCR:=Hd (mJ d t pin (r:Int) k)
     clear ho hb
     by_cases hlk:(k:Int)<d.T
     ·have hdk:decide ((k:Int)<d.T)=true:=by simpa using hlk
      have hL:bR (k:Int)=1+(k:Int) % 2:=rfl
      have hL2:1<=bR (k:Int)/\bR (k:Int)<=2:=by rw [hL];omega
      have HL:=Hd hL.symm
      have HKS:=fun s=>Hd (mI d t pin (r:Int) (k:Int) s)
      clear hL
      have HUSE:=HUSE0.out (r:Int) (k:Int)
      have HUSE:=Hd HUSE
      by_cases hskip:(r:Int)=o∨(¬(k:Int)=track/\¬(k:Int)=tr2)
      ·have HOFF:=Hd (rP (d:=d) (t:=t) (pin:=pin) (r:=(r:Int)) (k:=(k:Int)) (s:=(bR (k:Int)).toNat) (fun s=>by rw [HUSE.out];simp;omega))
       have hcs:(r:Int)=o∨(¬(r:Int)=o/\¬(k:Int)=track/\¬(k:Int)=tr2):=by omega
       clear hskip
       rcases hcs with h|⟨h1,h2,h3⟩
       ·have q1:((r:Int)==o)=true:=by simpa using h
        clear h
        go_wp2_with fail
        go_roundw
        case rel=>exact ⟨k+1,A,m,c,by omega,by go_num,rfl,by omega,by rw [HCR.out,HOFF.out,List.append_nil];exact HO.out,HB.out⟩
        case measure=>simp [intOf];omega
       ·have q1:((r:Int)==o)=false:=by simpa using h1
        have q2:((k:Int)==track)=false:=by simpa using h2
        have q2':((k:Int) != track)=true:=by simpa using h2
        have q3:((k:Int)==tr2)=false:=by simpa using h3
        have q3':((k:Int) != tr2)=true:=by simpa using h3
        clear h1 h2 h3
        go_wp2_with fail
        go_roundw
        case rel=>exact ⟨k+1,A,m,c,by omega,by go_num,rfl,by omega,by rw [HCR.out,HOFF.out,List.append_nil];exact HO.out,HB.out⟩
        case measure=>simp [intOf];omega
      ·have hcs:(¬(r:Int)=o/\(k:Int)=track)∨(¬(r:Int)=o/\¬(k:Int)=track/\(k:Int)=tr2):=by omega
       have HSO:Hid (∀s,kQ d pin (r:Int) (k:Int) s=decide (s=bR (k:Int))):=by
        intro s
        rw [HUSE.out,decide_eq_true (show (r:Int)≠o by omega)]
        rcases hcs with h|h
        ·rw [decide_eq_true h.2];simp
        ·rw [decide_eq_true h.2.2];simp
       clear HUSE hskip
       rcases hcs with ⟨h1,h2⟩|⟨h1,h2,h3⟩
       ·have q1:((r:Int)==o)=false:=by simpa using h1
        have q2:((k:Int)==track)=true:=by simpa using h2
        have q2':((k:Int) != track)=false:=by simpa using h2
        clear h1 h2
        go_wp2_with fail
        go_loopw [5,12] (fun v i wr=>∃(s:Nat) (A:Option Addr) (m c:Nat),(s:Int)<=bR (k:Int)/\i = .int .i64 ((s:Int)+1)/\v = .slice A m c/\m<=2+8 * r+2 * k+s/\Own (w.alloc (.cells #[.int .i64 d.W,.int .i64 d.H,.int .i64 d.T,.int .i64 d.R] 25)).heap.size wr A m c (gL d t++fF d t pin r++gZ d t pin (r:Int) k++fZ d t pin (r:Int) (k:Int) s)/\Below (w.alloc (.cells #[.int .i64 d.W,.int .i64 d.H,.int .i64 d.T,.int .i64 d.R] 25)).heap.size (w.alloc (.cells #[.int .i64 d.W,.int .i64 d.H,.int .i64 d.T,.int .i64 d.R] 25)) wr) (fun _ i _=>4 - (intOf i).toNat)
        case atStart=>exact ⟨0,A,m,c,by omega,rfl,rfl,by omega,by simpa [fZ] using HO.out,HB.out⟩
        case round =>
         obtain ⟨s,A,m,c,hsw,rfl,rfl,hn,ho,hb⟩:=hrel
         have HO:=Hd ho
         have HB:=Hd hb
         have hs:=hb.size
         simp only [World.size_alloc] at hs
         clear hcc hff
         obtain ⟨hcc,hff⟩:=aO hb
         clear ho hb
         have hZ:1+(k:Int) % 2=bR (k:Int):=HL.out
         by_cases hls:(s:Int)+1<=bR (k:Int)
         ·have hlsW:=hls
          rw [←hZ] at hls
          have hdl:decide ((s:Int)+1<=1+(k:Int) % 2)=true:=by simpa using hls
          clear hZ
          have hst:(s:Int)+1<1+(k:Int) % 2∨¬(s:Int)+1<1+(k:Int) % 2:=by omega
          rcases hst with hst|hst
          ·have hdst:decide ((s:Int)+1<1+(k:Int) % 2)=true:=by simpa using hst
           have HSN:=Hd (mW (t:=t) ((HSO.out ((s:Int)+1)).trans (decide_eq_false (by have:=HL.out;omega))))
           clear hcc hff
           go_wp2_with fail
           go_roundw
           case rel=>exact ⟨s+1,A,m,c,by omega,by go_num,rfl,by omega,by rw [(HKS s).out,HSN.out,List.append_nil];exact HO.out,HB.out⟩
           case measure=>simp [intOf];omega
          ·have hdst:decide ((s:Int)+1<1+(k:Int) % 2)=false:=by simp;omega
           have HSN:=Hd (lu (t:=t) ((HSO.out ((s:Int)+1)).trans (decide_eq_true (by have:=HL.out;omega))))
           generalize hP:ay d t (((r:Int)+2) % 4) ((s:Int)+1)=P at *
           have HP:=Hd hP
           have hPr:=jH (d:=d) (t:=t) (r:=((r:Int)+2) % 4) (s:=(s:Int)+1) HD.out
           rw [hP] at hPr
           clear hP
           generalize hC:ic d t (r:Int) (k:Int) ((s:Int)+1)=C at *
           have HC:Hid (∀w,Calls Tryz.prog 188 #[.agg #[.int .i64 d.W,.int .i64 d.H,.int .i64 d.T,.int .i64 d.R],.int .i64 P,.int .i64 (r:Int),.int .i64 (k:Int)] w fun e w'=>e = .returned (.int .i64 C)/\Below w.heap.size w w'):=fun w=>by
            have h:=iy d P (r:Int) (k:Int) w HD.out (by omega) (by omega) (by omega) (by omega) (by omega)
            rwa [show cO d P (r:Int) (k:Int)=C from by rw [←hC,ic,HP.out]] at h
           have HSC:Hid (∀w,Calls Tryz.prog 189 #[.agg #[.int .i64 d.W,.int .i64 d.H,.int .i64 d.T,.int .i64 d.R],.int .i64 t,.int .i64 (((r:Int)+2) % 4),.int .i64 ((s:Int)+1)] w fun e w'=>e = .returned (.int .i64 P)/\Below w.heap.size w w'):=fun w=>by
            have h:=gH d t (((r:Int)+2) % 4) ((s:Int)+1) w HTI.out (by omega) (by omega) (by omega) (by omega)
            rwa [HP.out] at h
           have HCC:=Hd hC
           clear hC
           have e3:((r:Int)+2).tmod 4=((r:Int)+2) % 4:=Int.tmod_eq_emod_of_nonneg (by omega)
           have e4:IntKind.i64.wrap ((r:Int)+2)=(r:Int)+2:=IntWalk.i64_in _ (by omega)
           have hwW:w.heap.size<wr.heap.size:=by omega
           go_wp2_with fail
           have hsub:=gP wr
           have hsc:=dN wr
           refine bG wr (by kernel_rfl) (by kernel_rfl) (Below.refl _ _) ?_
           repeat (go_big_quiet_step ((first
            | (go_at_call 189;with_reducible exact bB (HSC.out _))
            | (go_at_call 188;with_reducible exact bB (HC.out _)))))
           refine wpQuiet_nil ?_
           rintro _ ⟨⟨w2,hD⟩,rfl⟩
           clear hsub hsc hcc hff e3 e4
           have HB2:=Hd (aA HB.out hD)
           have HO2:=Hd (HO.out.below hD)
           have hs2:=hD.size
           clear hD
           by_cases hC0:C≥0
           ·have HC1:=Hd (jX (x:=C) (by omega))
            go_wp2_with (at_builtin;refine ax rfl _ _ rfl (w.alloc (.cells #[.int .i64 d.W,.int .i64 d.H,.int .i64 d.T,.int .i64 d.R] 25)).heap.size A m c _ C rfl HO2.out rfl (by omega) (by simp;omega) HB2.out ?_;rintro g4 c4 w4 o4 b4 - -)
            go_roundw
            case rel=>exact ⟨s+1,_,m+1,c4,by omega,by go_num,rfl,by omega,by rw [(HKS s).out,HSN.out,HC1.out,←List.append_assoc];exact o4,b4⟩
            case measure=>simp [intOf];omega
           ·have HC1:=Hd (kH (x:=C) (by omega))
            go_wp2_with fail
            go_roundw
            case rel=>exact ⟨s+1,A,m,c,by omega,by go_num,rfl,by omega,by rw [(HKS s).out,HSN.out,HC1.out,List.append_nil];exact HO2.out,HB2.out⟩
            case measure=>simp [intOf];omega
         ·have hLS:(bR (k:Int)).toNat=s:=by omega
          have HLS:=Hd hLS
          rw [←hZ] at hls
          have hdl:decide ((s:Int)+1<=1+(k:Int) % 2)=false:=by simp;omega
          clear hLS hZ
          go_wp2_with fail
          go_roundw
          case rel=>exact ⟨k+1,A,m,c,by omega,by go_num,rfl,by omega,by rw [HCR.out,HLS.out,←List.append_assoc];exact HO.out,HB.out⟩
          case measure=>simp [intOf];omega
       ·have q1:((r:Int)==o)=false:=by simpa using h1
        have q2:((k:Int)==track)=false:=by simpa using h2
        have q2':((k:Int) != track)=true:=by simpa using h2
        have q3:((k:Int)==tr2)=true:=by simpa using h3
        have q3':((k:Int) != tr2)=false:=by simpa using h3
        clear h1 h2 h3
        go_wp2_with fail
        go_loopw [5,12] (fun v i wr=>∃(s:Nat) (A:Option Addr) (m c:Nat),(s:Int)<=bR (k:Int)/\i = .int .i64 ((s:Int)+1)/\v = .slice A m c/\m<=2+8 * r+2 * k+s/\Own (w.alloc (.cells #[.int .i64 d.W,.int .i64 d.H,.int .i64 d.T,.int .i64 d.R] 25)).heap.size wr A m c (gL d t++fF d t pin r++gZ d t pin (r:Int) k++fZ d t pin (r:Int) (k:Int) s)/\Below (w.alloc (.cells #[.int .i64 d.W,.int .i64 d.H,.int .i64 d.T,.int .i64 d.R] 25)).heap.size (w.alloc (.cells #[.int .i64 d.W,.int .i64 d.H,.int .i64 d.T,.int .i64 d.R] 25)) wr) (fun _ i _=>4 - (intOf i).toNat)
        case atStart=>exact ⟨0,A,m,c,by omega,rfl,rfl,by omega,by simpa [fZ] using HO.out,HB.out⟩
        case round =>
         obtain ⟨s,A,m,c,hsw,rfl,rfl,hn,ho,hb⟩:=hrel
         have HO:=Hd ho
         have HB:=Hd hb
         have hs:=hb.size
         simp only [World.size_alloc] at hs
         clear hcc hff
         obtain ⟨hcc,hff⟩:=aO hb
         clear ho hb
         have hZ:1+(k:Int) % 2=bR (k:Int):=HL.out
         by_cases hls:(s:Int)+1<=bR (k:Int)
         ·have hlsW:=hls
          rw [←hZ] at hls
          have hdl:decide ((s:Int)+1<=1+(k:Int) % 2)=true:=by simpa using hls
          clear hZ
          have hst:(s:Int)+1<1+(k:Int) % 2∨¬(s:Int)+1<1+(k:Int) % 2:=by omega
          rcases hst with hst|hst
          ·have hdst:decide ((s:Int)+1<1+(k:Int) % 2)=true:=by simpa using hst
           have HSN:=Hd (mW (t:=t) ((HSO.out ((s:Int)+1)).trans (decide_eq_false (by have:=HL.out;omega))))
           clear hcc hff
           go_wp2_with fail
           go_roundw
           case rel=>exact ⟨s+1,A,m,c,by omega,by go_num,rfl,by omega,by rw [(HKS s).out,HSN.out,List.append_nil];exact HO.out,HB.out⟩
           case measure=>simp [intOf];omega
          ·have hdst:decide ((s:Int)+1<1+(k:Int) % 2)=false:=by simp;omega
           have HSN:=Hd (lu (t:=t) ((HSO.out ((s:Int)+1)).trans (decide_eq_true (by have:=HL.out;omega))))
           generalize hP:ay d t (((r:Int)+2) % 4) ((s:Int)+1)=P at *
           have HP:=Hd hP
           have hPr:=jH (d:=d) (t:=t) (r:=((r:Int)+2) % 4) (s:=(s:Int)+1) HD.out
           rw [hP] at hPr
           clear hP
           generalize hC:ic d t (r:Int) (k:Int) ((s:Int)+1)=C at *
           have HC:Hid (∀w,Calls Tryz.prog 188 #[.agg #[.int .i64 d.W,.int .i64 d.H,.int .i64 d.T,.int .i64 d.R],.int .i64 P,.int .i64 (r:Int),.int .i64 (k:Int)] w fun e w'=>e = .returned (.int .i64 C)/\Below w.heap.size w w'):=fun w=>by
            have h:=iy d P (r:Int) (k:Int) w HD.out (by omega) (by omega) (by omega) (by omega) (by omega)
            rwa [show cO d P (r:Int) (k:Int)=C from by rw [←hC,ic,HP.out]] at h
           have HSC:Hid (∀w,Calls Tryz.prog 189 #[.agg #[.int .i64 d.W,.int .i64 d.H,.int .i64 d.T,.int .i64 d.R],.int .i64 t,.int .i64 (((r:Int)+2) % 4),.int .i64 ((s:Int)+1)] w fun e w'=>e = .returned (.int .i64 P)/\Below w.heap.size w w'):=fun w=>by
            have h:=gH d t (((r:Int)+2) % 4) ((s:Int)+1) w HTI.out (by omega) (by omega) (by omega) (by omega)
            rwa [HP.out] at h
           have HCC:=Hd hC
           clear hC
           have e3:((r:Int)+2).tmod 4=((r:Int)+2) % 4:=Int.tmod_eq_emod_of_nonneg (by omega)
           have e4:IntKind.i64.wrap ((r:Int)+2)=(r:Int)+2:=IntWalk.i64_in _ (by omega)
           have hwW:w.heap.size<wr.heap.size:=by omega
           go_wp2_with fail
           have hsub:=gP wr
           have hsc:=dN wr
           refine bG wr (by kernel_rfl) (by kernel_rfl) (Below.refl _ _) ?_
           repeat (go_big_quiet_step ((first
            | (go_at_call 189;with_reducible exact bB (HSC.out _))
            | (go_at_call 188;with_reducible exact bB (HC.out _)))))
           refine wpQuiet_nil ?_
           rintro _ ⟨⟨w2,hD⟩,rfl⟩
           clear hsub hsc hcc hff e3 e4
           have HB2:=Hd (aA HB.out hD)
           have HO2:=Hd (HO.out.below hD)
           have hs2:=hD.size
           clear hD
           by_cases hC0:C≥0
           ·have HC1:=Hd (jX (x:=C) (by omega))
            go_wp2_with (at_builtin;refine ax rfl _ _ rfl (w.alloc (.cells #[.int .i64 d.W,.int .i64 d.H,.int .i64 d.T,.int .i64 d.R] 25)).heap.size A m c _ C rfl HO2.out rfl (by omega) (by simp;omega) HB2.out ?_;rintro g4 c4 w4 o4 b4 - -)
            go_roundw
            case rel=>exact ⟨s+1,_,m+1,c4,by omega,by go_num,rfl,by omega,by rw [(HKS s).out,HSN.out,HC1.out,←List.append_assoc];exact o4,b4⟩
            case measure=>simp [intOf];omega
           ·have HC1:=Hd (kH (x:=C) (by omega))
            go_wp2_with fail
            go_roundw
            case rel=>exact ⟨s+1,A,m,c,by omega,by go_num,rfl,by omega,by rw [(HKS s).out,HSN.out,HC1.out,List.append_nil];exact HO2.out,HB2.out⟩
            case measure=>simp [intOf];omega
         ·have hLS:(bR (k:Int)).toNat=s:=by omega
          have HLS:=Hd hLS
          rw [←hZ] at hls
          have hdl:decide ((s:Int)+1<=1+(k:Int) % 2)=false:=by simp;omega
          clear hLS hZ
          go_wp2_with fail
          go_roundw
          case rel=>exact ⟨k+1,A,m,c,by omega,by go_num,rfl,by omega,by rw [HCR.out,HLS.out,←List.append_assoc];exact HO.out,HB.out⟩
          case measure=>simp [intOf];omega
     ·have hkT:d.T=(k:Int):=by omega
      have HKT:=Hd hkT
      have hdk:decide ((k:Int)<d.T)=false:=by simp;omega
      clear hkT
      go_wp2_with fail
      go_roundw
      case rel=>exact ⟨r+1,A,m,c,by omega,by go_num,rfl,by omega,by rw [HAR.out,show d.T.toNat=k by have:=HKT.out;omega,←List.append_assoc];exact HO.out,HB.out⟩
      case measure=>simp [intOf];omega
   ·have hr4:r=4:=by omega
    have HR4:=Hd hr4
    have hdr:decide ((r:Int)<4)=false:=by simp;omega
    have HLEN:=Hd HO.out.len
    clear hr4 hcc hff
    go_wp2_with fail
    refine (pu A m c _ _ HO.out.ints (by omega)).mono ?_
    rintro e w9 ⟨A9,c9,rfl,⟨ys,oy,py,sy⟩,b9⟩
    have HY:=Hd oy
    have HB9:=Hd (aA HB0.out (aA HB.out b9))
    have HE:=Hd (HSORT.out ys (by rw [HR4.out] at py;unfold iP;rw [if_pos hp7];exact py) sy)
    clear oy py sy b9
    go_wp2_with fail
    go_ret
    exact ⟨A9,m,c9,rfl,by rw [←HE.out];exact HY.out.more (by omega),HB9.out⟩
 ·have HOF1:Hid (gL d t=[X0,fE d t 1]):=by show _=_;rw [HOF.out];rfl
  clear HOF
  go_wp2_with (go_at_call 187;refine (HC.out _).mono ?_;rintro e w' ⟨rfl,rfl⟩)
  refine (uV d t 1 _ HTI.out (by omega) (by omega)).mono ?_
  rintro e w8 ⟨rfl,b8⟩
  have HB8:=Hd (aA HB7.out b8)
  have N8:=Hd (N7.out.below b8)
  have hs8:=b8.size
  clear b8 hcc hff
  generalize fE d t 1=X1 at *
  go_wp2_with (at_builtin;refine ax rfl _ _ rfl (w.alloc (.cells #[.int .i64 d.W,.int .i64 d.H,.int .i64 d.T,.int .i64 d.R] 25)).heap.size _ 1 c6 [X0] X1 rfl N8.out rfl (by omega) (by simp;omega) HB8.out ?_;rintro g9 c9 w9 o9 b9 - -;have HBS:=Hd b9;have N9:=Hd o9;clear o9 b9)
  have NS:Hid (Own (w.alloc (.cells #[.int .i64 d.W,.int .i64 d.H,.int .i64 d.T,.int .i64 d.R] 25)).heap.size w9 (some ⟨g9,0,none⟩) 2 c9 (gL d t)):=by show Own _ _ _ _ _ _;rw [HOF1.out];exact N9.out
  go_loopw [5,10] (fun v i wr=>∃(r:Nat) (A:Option Addr) (m c:Nat),r<=4/\i = .int .i64 r/\v = .slice A m c/\m<=2+8 * r/\Own (w.alloc (.cells #[.int .i64 d.W,.int .i64 d.H,.int .i64 d.T,.int .i64 d.R] 25)).heap.size wr A m c (gL d t++fF d t pin r)/\Below (w.alloc (.cells #[.int .i64 d.W,.int .i64 d.H,.int .i64 d.T,.int .i64 d.R] 25)).heap.size (w.alloc (.cells #[.int .i64 d.W,.int .i64 d.H,.int .i64 d.T,.int .i64 d.R] 25)) wr) (fun _ i _=>4 - (intOf i).toNat)
  case atStart=>exact ⟨0,_,_,_,by omega,rfl,rfl,by omega,by simpa [fF] using NS.out,HBS.out⟩
  case round =>
   obtain ⟨r,A,m,c,hr,rfl,rfl,hn,ho,hb⟩:=hrel
   have HO:=Hd ho
   have HB:=Hd hb
   have hs:=hb.size
   simp only [World.size_alloc] at hs
   obtain ⟨hcc,hff⟩:=aO hb
   clear ho hb
   by_cases hlt:r<4
   ·have hdr:decide ((r:Int)<4)=true:=by simp;omega
    have HAR:=Hd (mK d t pin r)
    clear hcc hff
    go_wp2_with fail
    go_loopw [5,11] (fun v i wr=>∃(k:Nat) (A:Option Addr) (m c:Nat),(k:Int)<=d.T/\i = .int .i64 k/\v = .slice A m c/\m<=2+8 * r+2 * k/\Own (w.alloc (.cells #[.int .i64 d.W,.int .i64 d.H,.int .i64 d.T,.int .i64 d.R] 25)).heap.size wr A m c (gL d t++fF d t pin r++gZ d t pin (r:Int) k)/\Below (w.alloc (.cells #[.int .i64 d.W,.int .i64 d.H,.int .i64 d.T,.int .i64 d.R] 25)).heap.size (w.alloc (.cells #[.int .i64 d.W,.int .i64 d.H,.int .i64 d.T,.int .i64 d.R] 25)) wr) (fun _ i _=>d.T.toNat - (intOf i).toNat)
    case atStart=>exact ⟨0,A,m,c,by omega,rfl,rfl,by omega,by simpa [gZ] using HO.out,HB.out⟩
    case round =>
     obtain ⟨k,A,m,c,hk,rfl,rfl,hn,ho,hb⟩:=hrel
     have HO:=Hd ho
     have HB:=Hd hb
     have hs:=hb.size
     simp only [World.size_alloc] at hs
     obtain ⟨hcc,hff⟩:=aO hb
     have HCR:=Hd (mJ d t pin (r:Int) k)
     clear ho hb
     by_cases hlk:(k:Int)<d.T
     ·have hdk:decide ((k:Int)<d.T)=true:=by simpa using hlk
      have hL:bR (k:Int)=1+(k:Int) % 2:=rfl
      have hL2:1<=bR (k:Int)/\bR (k:Int)<=2:=by rw [hL];omega
      have HL:=Hd hL.symm
      have HKS:=fun s=>Hd (mI d t pin (r:Int) (k:Int) s)
      clear hL
      have HUSE:=HUSE0.out (r:Int) (k:Int)
      have HUSE:=Hd HUSE
      by_cases hskip:(r:Int)=o∨(¬(k:Int)=track/\¬(k:Int)=tr2)
      ·have HOFF:=Hd (rP (d:=d) (t:=t) (pin:=pin) (r:=(r:Int)) (k:=(k:Int)) (s:=(bR (k:Int)).toNat) (fun s=>by rw [HUSE.out];simp;omega))
       have hcs:(r:Int)=o∨(¬(r:Int)=o/\¬(k:Int)=track/\¬(k:Int)=tr2):=by omega
       clear hskip
       rcases hcs with h|⟨h1,h2,h3⟩
       ·have q1:((r:Int)==o)=true:=by simpa using h
        clear h
        go_wp2_with fail
        go_roundw
        case rel=>exact ⟨k+1,A,m,c,by omega,by go_num,rfl,by omega,by rw [HCR.out,HOFF.out,List.append_nil];exact HO.out,HB.out⟩
        case measure=>simp [intOf];omega
       ·have q1:((r:Int)==o)=false:=by simpa using h1
        have q2:((k:Int)==track)=false:=by simpa using h2
        have q2':((k:Int) != track)=true:=by simpa using h2
        have q3:((k:Int)==tr2)=false:=by simpa using h3
        have q3':((k:Int) != tr2)=true:=by simpa using h3
        clear h1 h2 h3
        go_wp2_with fail
        go_roundw
        case rel=>exact ⟨k+1,A,m,c,by omega,by go_num,rfl,by omega,by rw [HCR.out,HOFF.out,List.append_nil];exact HO.out,HB.out⟩
        case measure=>simp [intOf];omega
      ·have hcs:(¬(r:Int)=o/\(k:Int)=track)∨(¬(r:Int)=o/\¬(k:Int)=track/\(k:Int)=tr2):=by omega
       have HSO:Hid (∀s,kQ d pin (r:Int) (k:Int) s=decide (s=bR (k:Int))):=by
        intro s
        rw [HUSE.out,decide_eq_true (show (r:Int)≠o by omega)]
        rcases hcs with h|h
        ·rw [decide_eq_true h.2];simp
        ·rw [decide_eq_true h.2.2];simp
       clear HUSE hskip
       rcases hcs with ⟨h1,h2⟩|⟨h1,h2,h3⟩
       ·have q1:((r:Int)==o)=false:=by simpa using h1
        have q2:((k:Int)==track)=true:=by simpa using h2
        have q2':((k:Int) != track)=false:=by simpa using h2
        clear h1 h2
        go_wp2_with fail
        go_loopw [5,12] (fun v i wr=>∃(s:Nat) (A:Option Addr) (m c:Nat),(s:Int)<=bR (k:Int)/\i = .int .i64 ((s:Int)+1)/\v = .slice A m c/\m<=2+8 * r+2 * k+s/\Own (w.alloc (.cells #[.int .i64 d.W,.int .i64 d.H,.int .i64 d.T,.int .i64 d.R] 25)).heap.size wr A m c (gL d t++fF d t pin r++gZ d t pin (r:Int) k++fZ d t pin (r:Int) (k:Int) s)/\Below (w.alloc (.cells #[.int .i64 d.W,.int .i64 d.H,.int .i64 d.T,.int .i64 d.R] 25)).heap.size (w.alloc (.cells #[.int .i64 d.W,.int .i64 d.H,.int .i64 d.T,.int .i64 d.R] 25)) wr) (fun _ i _=>4 - (intOf i).toNat)
        case atStart=>exact ⟨0,A,m,c,by omega,rfl,rfl,by omega,by simpa [fZ] using HO.out,HB.out⟩
        case round =>
         obtain ⟨s,A,m,c,hsw,rfl,rfl,hn,ho,hb⟩:=hrel
         have HO:=Hd ho
         have HB:=Hd hb
         have hs:=hb.size
         simp only [World.size_alloc] at hs
         clear hcc hff
         obtain ⟨hcc,hff⟩:=aO hb
         clear ho hb
         have hZ:1+(k:Int) % 2=bR (k:Int):=HL.out
         by_cases hls:(s:Int)+1<=bR (k:Int)
         ·have hlsW:=hls
          rw [←hZ] at hls
          have hdl:decide ((s:Int)+1<=1+(k:Int) % 2)=true:=by simpa using hls
          clear hZ
          have hst:(s:Int)+1<1+(k:Int) % 2∨¬(s:Int)+1<1+(k:Int) % 2:=by omega
          rcases hst with hst|hst
          ·have hdst:decide ((s:Int)+1<1+(k:Int) % 2)=true:=by simpa using hst
           have HSN:=Hd (mW (t:=t) ((HSO.out ((s:Int)+1)).trans (decide_eq_false (by have:=HL.out;omega))))
           clear hcc hff
           go_wp2_with fail
           go_roundw
           case rel=>exact ⟨s+1,A,m,c,by omega,by go_num,rfl,by omega,by rw [(HKS s).out,HSN.out,List.append_nil];exact HO.out,HB.out⟩
           case measure=>simp [intOf];omega
          ·have hdst:decide ((s:Int)+1<1+(k:Int) % 2)=false:=by simp;omega
           have HSN:=Hd (lu (t:=t) ((HSO.out ((s:Int)+1)).trans (decide_eq_true (by have:=HL.out;omega))))
           generalize hP:ay d t (((r:Int)+2) % 4) ((s:Int)+1)=P at *
           have HP:=Hd hP
           have hPr:=jH (d:=d) (t:=t) (r:=((r:Int)+2) % 4) (s:=(s:Int)+1) HD.out
           rw [hP] at hPr
           clear hP
           generalize hC:ic d t (r:Int) (k:Int) ((s:Int)+1)=C at *
           have HC:Hid (∀w,Calls Tryz.prog 188 #[.agg #[.int .i64 d.W,.int .i64 d.H,.int .i64 d.T,.int .i64 d.R],.int .i64 P,.int .i64 (r:Int),.int .i64 (k:Int)] w fun e w'=>e = .returned (.int .i64 C)/\Below w.heap.size w w'):=fun w=>by
            have h:=iy d P (r:Int) (k:Int) w HD.out (by omega) (by omega) (by omega) (by omega) (by omega)
            rwa [show cO d P (r:Int) (k:Int)=C from by rw [←hC,ic,HP.out]] at h
           have HSC:Hid (∀w,Calls Tryz.prog 189 #[.agg #[.int .i64 d.W,.int .i64 d.H,.int .i64 d.T,.int .i64 d.R],.int .i64 t,.int .i64 (((r:Int)+2) % 4),.int .i64 ((s:Int)+1)] w fun e w'=>e = .returned (.int .i64 P)/\Below w.heap.size w w'):=fun w=>by
            have h:=gH d t (((r:Int)+2) % 4) ((s:Int)+1) w HTI.out (by omega) (by omega) (by omega) (by omega)
            rwa [HP.out] at h
           have HCC:=Hd hC
           clear hC
           have e3:((r:Int)+2).tmod 4=((r:Int)+2) % 4:=Int.tmod_eq_emod_of_nonneg (by omega)
           have e4:IntKind.i64.wrap ((r:Int)+2)=(r:Int)+2:=IntWalk.i64_in _ (by omega)
           have hwW:w.heap.size<wr.heap.size:=by omega
           go_wp2_with fail
           have hsub:=gP wr
           have hsc:=dN wr
           refine bG wr (by kernel_rfl) (by kernel_rfl) (Below.refl _ _) ?_
           repeat (go_big_quiet_step ((first
            | (go_at_call 189;with_reducible exact bB (HSC.out _))
            | (go_at_call 188;with_reducible exact bB (HC.out _)))))
           refine wpQuiet_nil ?_
           rintro _ ⟨⟨w2,hD⟩,rfl⟩
           clear hsub hsc hcc hff e3 e4
           have HB2:=Hd (aA HB.out hD)
           have HO2:=Hd (HO.out.below hD)
           have hs2:=hD.size
           clear hD
           by_cases hC0:C≥0
           ·have HC1:=Hd (jX (x:=C) (by omega))
            go_wp2_with (at_builtin;refine ax rfl _ _ rfl (w.alloc (.cells #[.int .i64 d.W,.int .i64 d.H,.int .i64 d.T,.int .i64 d.R] 25)).heap.size A m c _ C rfl HO2.out rfl (by omega) (by simp;omega) HB2.out ?_;rintro g4 c4 w4 o4 b4 - -)
            go_roundw
            case rel=>exact ⟨s+1,_,m+1,c4,by omega,by go_num,rfl,by omega,by rw [(HKS s).out,HSN.out,HC1.out,←List.append_assoc];exact o4,b4⟩
            case measure=>simp [intOf];omega
           ·have HC1:=Hd (kH (x:=C) (by omega))
            go_wp2_with fail
            go_roundw
            case rel=>exact ⟨s+1,A,m,c,by omega,by go_num,rfl,by omega,by rw [(HKS s).out,HSN.out,HC1.out,List.append_nil];exact HO2.out,HB2.out⟩
            case measure=>simp [intOf];omega
         ·have hLS:(bR (k:Int)).toNat=s:=by omega
          have HLS:=Hd hLS
          rw [←hZ] at hls
          have hdl:decide ((s:Int)+1<=1+(k:Int) % 2)=false:=by simp;omega
          clear hLS hZ
          go_wp2_with fail
          go_roundw
          case rel=>exact ⟨k+1,A,m,c,by omega,by go_num,rfl,by omega,by rw [HCR.out,HLS.out,←List.append_assoc];exact HO.out,HB.out⟩
          case measure=>simp [intOf];omega
       ·have q1:((r:Int)==o)=false:=by simpa using h1
        have q2:((k:Int)==track)=false:=by simpa using h2
        have q2':((k:Int) != track)=true:=by simpa using h2
        have q3:((k:Int)==tr2)=true:=by simpa using h3
        have q3':((k:Int) != tr2)=false:=by simpa using h3
        clear h1 h2 h3
        go_wp2_with fail
        go_loopw [5,12] (fun v i wr=>∃(s:Nat) (A:Option Addr) (m c:Nat),(s:Int)<=bR (k:Int)/\i = .int .i64 ((s:Int)+1)/\v = .slice A m c/\m<=2+8 * r+2 * k+s/\Own (w.alloc (.cells #[.int .i64 d.W,.int .i64 d.H,.int .i64 d.T,.int .i64 d.R] 25)).heap.size wr A m c (gL d t++fF d t pin r++gZ d t pin (r:Int) k++fZ d t pin (r:Int) (k:Int) s)/\Below (w.alloc (.cells #[.int .i64 d.W,.int .i64 d.H,.int .i64 d.T,.int .i64 d.R] 25)).heap.size (w.alloc (.cells #[.int .i64 d.W,.int .i64 d.H,.int .i64 d.T,.int .i64 d.R] 25)) wr) (fun _ i _=>4 - (intOf i).toNat)
        case atStart=>exact ⟨0,A,m,c,by omega,rfl,rfl,by omega,by simpa [fZ] using HO.out,HB.out⟩
        case round =>
         obtain ⟨s,A,m,c,hsw,rfl,rfl,hn,ho,hb⟩:=hrel
         have HO:=Hd ho
         have HB:=Hd hb
         have hs:=hb.size
         simp only [World.size_alloc] at hs
         clear hcc hff
         obtain ⟨hcc,hff⟩:=aO hb
         clear ho hb
         have hZ:1+(k:Int) % 2=bR (k:Int):=HL.out
         by_cases hls:(s:Int)+1<=bR (k:Int)
         ·have hlsW:=hls
          rw [←hZ] at hls
          have hdl:decide ((s:Int)+1<=1+(k:Int) % 2)=true:=by simpa using hls
          clear hZ
          have hst:(s:Int)+1<1+(k:Int) % 2∨¬(s:Int)+1<1+(k:Int) % 2:=by omega
          rcases hst with hst|hst
          ·have hdst:decide ((s:Int)+1<1+(k:Int) % 2)=true:=by simpa using hst
           have HSN:=Hd (mW (t:=t) ((HSO.out ((s:Int)+1)).trans (decide_eq_false (by have:=HL.out;omega))))
           clear hcc hff
           go_wp2_with fail
           go_roundw
           case rel=>exact ⟨s+1,A,m,c,by omega,by go_num,rfl,by omega,by rw [(HKS s).out,HSN.out,List.append_nil];exact HO.out,HB.out⟩
           case measure=>simp [intOf];omega
          ·have hdst:decide ((s:Int)+1<1+(k:Int) % 2)=false:=by simp;omega
           have HSN:=Hd (lu (t:=t) ((HSO.out ((s:Int)+1)).trans (decide_eq_true (by have:=HL.out;omega))))
           generalize hP:ay d t (((r:Int)+2) % 4) ((s:Int)+1)=P at *
           have HP:=Hd hP
           have hPr:=jH (d:=d) (t:=t) (r:=((r:Int)+2) % 4) (s:=(s:Int)+1) HD.out
           rw [hP] at hPr
           clear hP
           generalize hC:ic d t (r:Int) (k:Int) ((s:Int)+1)=C at *
           have HC:Hid (∀w,Calls Tryz.prog 188 #[.agg #[.int .i64 d.W,.int .i64 d.H,.int .i64 d.T,.int .i64 d.R],.int .i64 P,.int .i64 (r:Int),.int .i64 (k:Int)] w fun e w'=>e = .returned (.int .i64 C)/\Below w.heap.size w w'):=fun w=>by
            have h:=iy d P (r:Int) (k:Int) w HD.out (by omega) (by omega) (by omega) (by omega) (by omega)
            rwa [show cO d P (r:Int) (k:Int)=C from by rw [←hC,ic,HP.out]] at h
           have HSC:Hid (∀w,Calls Tryz.prog 189 #[.agg #[.int .i64 d.W,.int .i64 d.H,.int .i64 d.T,.int .i64 d.R],.int .i64 t,.int .i64 (((r:Int)+2) % 4),.int .i64 ((s:Int)+1)] w fun e w'=>e = .returned (.int .i64 P)/\Below w.heap.size w w'):=fun w=>by
            have h:=gH d t (((r:Int)+2) % 4) ((s:Int)+1) w HTI.out (by omega) (by omega) (by omega) (by omega)
            rwa [HP.out] at h
           have HCC:=Hd hC
           clear hC
           have e3:((r:Int)+2).tmod 4=((r:Int)+2) % 4:=Int.tmod_eq_emod_of_nonneg (by omega)
           have e4:IntKind.i64.wrap ((r:Int)+2)=(r:Int)+2:=IntWalk.i64_in _ (by omega)
           have hwW:w.heap.size<wr.heap.size:=by omega
           go_wp2_with fail
           have hsub:=gP wr
           have hsc:=dN wr
           refine bG wr (by kernel_rfl) (by kernel_rfl) (Below.refl _ _) ?_
           repeat (go_big_quiet_step ((first
            | (go_at_call 189;with_reducible exact bB (HSC.out _))
            | (go_at_call 188;with_reducible exact bB (HC.out _)))))
           refine wpQuiet_nil ?_
           rintro _ ⟨⟨w2,hD⟩,rfl⟩
           clear hsub hsc hcc hff e3 e4
           have HB2:=Hd (aA HB.out hD)
           have HO2:=Hd (HO.out.below hD)
           have hs2:=hD.size
           clear hD
           by_cases hC0:C≥0
           ·have HC1:=Hd (jX (x:=C) (by omega))
            go_wp2_with (at_builtin;refine ax rfl _ _ rfl (w.alloc (.cells #[.int .i64 d.W,.int .i64 d.H,.int .i64 d.T,.int .i64 d.R] 25)).heap.size A m c _ C rfl HO2.out rfl (by omega) (by simp;omega) HB2.out ?_;rintro g4 c4 w4 o4 b4 - -)
            go_roundw
            case rel=>exact ⟨s+1,_,m+1,c4,by omega,by go_num,rfl,by omega,by rw [(HKS s).out,HSN.out,HC1.out,←List.append_assoc];exact o4,b4⟩
            case measure=>simp [intOf];omega
           ·have HC1:=Hd (kH (x:=C) (by omega))
            go_wp2_with fail
            go_roundw
            case rel=>exact ⟨s+1,A,m,c,by omega,by go_num,rfl,by omega,by rw [(HKS s).out,HSN.out,HC1.out,List.append_nil];exact HO2.out,HB2.out⟩
            case measure=>simp [intOf];omega
         ·have hLS:(bR (k:Int)).toNat=s:=by omega
          have HLS:=Hd hLS
          rw [←hZ] at hls
          have hdl:decide ((s:Int)+1<=1+(k:Int) % 2)=false:=by simp;omega
          clear hLS hZ
          go_wp2_with fail
          go_roundw
          case rel=>exact ⟨k+1,A,m,c,by omega,by go_num,rfl,by omega,by rw [HCR.out,HLS.out,←List.append_assoc];exact HO.out,HB.out⟩
          case measure=>simp [intOf];omega
     ·have hkT:d.T=(k:Int):=by omega
      have HKT:=Hd hkT
      have hdk:decide ((k:Int)<d.T)=false:=by simp;omega
      clear hkT
      go_wp2_with fail
      go_roundw
      case rel=>exact ⟨r+1,A,m,c,by omega,by go_num,rfl,by omega,by rw [HAR.out,show d.T.toNat=k by have:=HKT.out;omega,←List.append_assoc];exact HO.out,HB.out⟩
      case measure=>simp [intOf];omega
   ·have hr4:r=4:=by omega
    have HR4:=Hd hr4
    have hdr:decide ((r:Int)<4)=false:=by simp;omega
    have HLEN:=Hd HO.out.len
    clear hr4 hcc hff
    go_wp2_with fail
    refine (pu A m c _ _ HO.out.ints (by omega)).mono ?_
    rintro e w9 ⟨A9,c9,rfl,⟨ys,oy,py,sy⟩,b9⟩
    have HY:=Hd oy
    have HB9:=Hd (aA HB0.out (aA HB.out b9))
    have HE:=Hd (HSORT.out ys (by rw [HR4.out] at py;unfold iP;rw [if_pos hp7];exact py) sy)
    clear oy py sy b9
    go_wp2_with fail
    go_ret
    exact ⟨A9,m,c9,rfl,by rw [←HE.out];exact HY.out.more (by omega),HB9.out⟩
end Go.Proofs.YtignkfhdkcgkgaaGreat
