/- The sources of a wire: the reference's function. -/
import Derived.Test.YtignkfhdkcgkgaaGreatRtS4
namespace Go.Proofs.YtignkfhdkcgkgaaGreat
set_option maxRecDepth 100000
open Go.RowKit
set_option maxHeartbeats 8000000 in
theorem ssources_wire (d:Dev) (n:Int) (w:World) (hno:nodeOk d n=true) (h7:7≤n % perT d) :
  Calls Tryz.prog 137 #[.agg #[.int .i64 d.W,.int .i64 d.H,.int .i64 d.T,.int .i64 d.R],.int .i64 n] w fun e w'=>∃A m c,e = .returned (.slice A m c)∧Own w.heap.size w' A m c (srcs d n)∧Below w.heap.size w w':=by
 have HB0:=Lib.hid (below_new (Below.refl w.heap.size w) (.cells #[.int .i64 d.W,.int .i64 d.H,.int .i64 d.T,.int .i64 d.R] 25))
 have hni:nodeIn d n=true:=by unfold nodeOk at hno;rw [Bool.and_eq_true] at hno;exact hno.1
 have HTI:=Lib.hid (node_tile hni)
 obtain ⟨hd,n0,n1,hq0,hq1,hr0,hr1⟩:=node_tk hni
 have hT:=devOk_bd hd
 have hp:=perT_bd hd
 have hWH:=dev_WH hd
 have HD:=Lib.hid hd
 have HSORT:=Lib.hid (fun l hp hs=>sorted_srcs (l:=l) hno (by omega) hp hs)
 have HNO:Hid (∀w,Calls Tryz.prog 184 #[.agg #[.int .i64 d.W,.int .i64 d.H,.int .i64 d.T,.int .i64 d.R],.int .i64 n] w fun e w'=>e = .returned (.bool true)∧Below w.heap.size w w'):=fun w=>by have h:=srouteNodeOk_any d n w;rwa [hno] at h
 have e0:¬perT d=0:=by omega
 have e1:n.tmod (perT d)=n % perT d:=Int.tmod_eq_emod_of_nonneg n0
 have e2:IntKind.i64.wrap (n.tdiv (perT d))=n / perT d:=IntWalk.i64_quo _ _ ⟨n0,by omega,by omega⟩
 have HUSE0:=Lib.hid (fun r k s=>useOf_wire (d:=d) (pin:=n % perT d) h7 r k s)
 have HWI:=Lib.hid (fun w=>l27Wire_any d n w hni h7)
 clear hno hni hd
 go_enter Tryz.func137,Tryz.ntmps137
 go_wp2_with fail
 refine (HNO.out _).mono ?_
 rintro e w1 ⟨rfl,b1⟩
 have N1:=Lib.hid ((Own.newAt (w:=(w.alloc (.cells #[.int .i64 d.W,.int .i64 d.H,.int .i64 d.T,.int .i64 d.R] 25))) (base:=(w.alloc (.cells #[.int .i64 d.W,.int .i64 d.H,.int .i64 d.T,.int .i64 d.R] 25)).heap.size) (g:=w.heap.size+1) (by simp) (by simp)).below b1)
 have HB1:=Lib.hid (below_tr (below_new (Below.refl _ _) _) b1:Below (w.alloc (.cells #[.int .i64 d.W,.int .i64 d.H,.int .i64 d.T,.int .i64 d.R] 25)).heap.size (w.alloc (.cells #[.int .i64 d.W,.int .i64 d.H,.int .i64 d.T,.int .i64 d.R] 25)) w1)
 have hs1:=b1.size
 simp only [World.size_alloc] at hs1
 clear b1
 obtain ⟨hcc,hff⟩:=bcell HB1.out
 go_wp2_with fail
 refine (l27Per_any d _ (by omega) (by omega)).mono ?_
 rintro e w2 ⟨rfl,b2⟩
 have HB2:=Lib.hid (below_tr HB1.out b2)
 have N2:=Lib.hid (N1.out.below b2)
 have hs2:=b2.size
 clear b2 hcc hff
 obtain ⟨hcc,hff⟩:=bcell HB2.out
 go_wp2_with fail
 refine (l27Per_any d _ (by omega) (by omega)).mono ?_
 rintro e w3 ⟨rfl,b3⟩
 have HB3:=Lib.hid (below_tr HB2.out b3)
 have N3:=Lib.hid (N2.out.below b3)
 have hs3:=b3.size
 clear b3 hcc hff
 obtain ⟨hcc,hff⟩:=bcell HB3.out
 generalize n % perT d=pin at *
 generalize n / perT d=t at *
 clear HNO
 have hp7:7≤pin:=h7
 have hdp:decide (pin≥7)=true:=by simp;omega
 have hp5:(pin==5)=false:=by simp;omega
 have hp6:(pin==6)=false:=by simp;omega
 have hT0:=Int.ediv_nonneg (show 0≤pin - 7 by omega) (show 0≤d.T by omega)
 have hT1:=Int.emod_nonneg (pin - 7) (show d.T≠0 by omega)
 have hT2:=Int.emod_lt_of_pos (pin - 7) (show 0<d.T by omega)
 have hT3:(pin - 7) / d.T≤3:=by
  have:(pin - 7) / d.T<4:=Int.ediv_lt_of_lt_mul (by omega) (by unfold perT at hr1;omega)
  omega
 go_wp2_with fail
 refine (HWI.out _).mono ?_
 rintro e w4 ⟨rfl,b4⟩
 have HB4:=Lib.hid (below_tr HB3.out b4)
 have N4:=Lib.hid (N3.out.below b4)
 have hs4:=b4.size
 clear b4 hcc hff e0 e1 e2
 obtain ⟨hcc,hff⟩:=bcell HB4.out
 generalize (pin - 7) / d.T=dir at *
 generalize (pin - 7) % d.T=track at *
 have e0:¬d.T=0:=by omega
 have e6:(track+1).tmod d.T=(track+1) % d.T:=Int.tmod_eq_emod_of_nonneg (by omega)
 have hto:=Int.emod_nonneg (dir+2) (show (4:Int)≠0 by omega)
 generalize ho:(dir+2) % 4=o at *
 have HO4:=Lib.hid ho
 have e7:(dir+2).tmod 4=o:=by rw [Int.tmod_eq_emod_of_nonneg (by omega),ho]
 clear ho
 generalize (track+1) % d.T=tr2 at *
 go_wp2_with fail
 refine (soutPin_any d t 0 _ HTI.out (by omega) (by omega)).mono ?_
 rintro e w5 ⟨rfl,b5⟩
 have HB5:=Lib.hid (below_tr HB4.out b5)
 have N5:=Lib.hid (N4.out.below b5)
 have hs5:=b5.size
 clear b5 hcc hff
 obtain ⟨hcc,hff⟩:=bcell HB5.out
 have HOF:Hid (outsOf d t=if outPins (kindOf d t)>1 then [outPin d t 0,outPin d t 1] else [outPin d t 0]):=rfl
 generalize outPin d t 0=X0 at *
 go_wp2_with (at_builtin;refine wpList_push rfl _ _ rfl (w.alloc (.cells #[.int .i64 d.W,.int .i64 d.H,.int .i64 d.T,.int .i64 d.R] 25)).heap.size _ 0 0 [] X0 rfl N5.out rfl (by omega) (by simp;omega) HB5.out ?_;rintro g6 c6 w6 o6 b6 - -;rw [List.nil_append] at o6;have HB6:=Lib.hid b6;have N6:=Lib.hid o6;have hs6:=b6.size;(try simp only [World.size_alloc] at hs6);clear hcc hff;obtain ⟨hcc,hff⟩:=bcell b6;clear o6 b6)
 refine (stileKind_in d t _ HTI.out).mono ?_
 rintro e w7 ⟨rfl,b7⟩
 have HB7:=Lib.hid (below_tr HB6.out b7)
 have N7:=Lib.hid (N6.out.below b7)
 have hs7:=b7.size
 clear b7 hcc hff
 obtain ⟨hcc,hff⟩:=bcell HB7.out
 have hop:=outPins_bd d t
 generalize kindOf d t=K at *
 have HC:Hid (∀w,Calls Tryz.prog 187 #[.int .i64 K] w fun e w'=>e = .returned (.int .i64 (outPins K))∧w=w'):=fun w=>soutPins_any K w
 generalize outPins K=Q at *
 rcases hop with rfl|rfl
 ·have HOF1:Hid (outsOf d t=[X0]):=by show _=_;rw [HOF.out];rfl
  clear HOF
  go_wp2_with (go_at_call 187;refine (HC.out _).mono ?_;rintro e w' ⟨rfl,rfl⟩)
  have NS:Hid (Own (w.alloc (.cells #[.int .i64 d.W,.int .i64 d.H,.int .i64 d.T,.int .i64 d.R] 25)).heap.size w7 (some ⟨g6,0,none⟩) 1 c6 (outsOf d t)):=by show Own _ _ _ _ _ _;rw [HOF1.out];exact N7.out
  have HBS:=HB7
  clear hcc hff
  go_loopw [5,10] (fun v i wr=>∃(r:Nat) (A:Option Addr) (m c:Nat),r≤4∧i = .int .i64 r∧v = .slice A m c∧m≤2+8 * r∧Own (w.alloc (.cells #[.int .i64 d.W,.int .i64 d.H,.int .i64 d.T,.int .i64 d.R] 25)).heap.size wr A m c (outsOf d t++candA d t pin r)∧Below (w.alloc (.cells #[.int .i64 d.W,.int .i64 d.H,.int .i64 d.T,.int .i64 d.R] 25)).heap.size (w.alloc (.cells #[.int .i64 d.W,.int .i64 d.H,.int .i64 d.T,.int .i64 d.R] 25)) wr) (fun _ i _=>4 - (intOf i).toNat)
  case atStart=>exact ⟨0,_,_,_,by omega,rfl,rfl,by omega,by simpa [candA] using NS.out,HBS.out⟩
  case round =>
   obtain ⟨r,A,m,c,hr,rfl,rfl,hn,ho,hb⟩:=hrel
   have HO:=Lib.hid ho
   have HB:=Lib.hid hb
   have hs:=hb.size
   simp only [World.size_alloc] at hs
   obtain ⟨hcc,hff⟩:=bcell hb
   clear ho hb
   by_cases hlt:r<4
   ·have hdr:decide ((r:Int)<4)=true:=by simp;omega
    have HAR:=Lib.hid (candA_succ d t pin r)
    clear hcc hff
    go_wp2_with fail
    go_loopw [5,11] (fun v i wr=>∃(k:Nat) (A:Option Addr) (m c:Nat),(k:Int)≤d.T∧i = .int .i64 k∧v = .slice A m c∧m≤2+8 * r+2 * k∧Own (w.alloc (.cells #[.int .i64 d.W,.int .i64 d.H,.int .i64 d.T,.int .i64 d.R] 25)).heap.size wr A m c (outsOf d t++candA d t pin r++candR d t pin (r:Int) k)∧Below (w.alloc (.cells #[.int .i64 d.W,.int .i64 d.H,.int .i64 d.T,.int .i64 d.R] 25)).heap.size (w.alloc (.cells #[.int .i64 d.W,.int .i64 d.H,.int .i64 d.T,.int .i64 d.R] 25)) wr) (fun _ i _=>d.T.toNat - (intOf i).toNat)
    case atStart=>exact ⟨0,A,m,c,by omega,rfl,rfl,by omega,by simpa [candR] using HO.out,HB.out⟩
    case round =>
     obtain ⟨k,A,m,c,hk,rfl,rfl,hn,ho,hb⟩:=hrel
     have HO:=Lib.hid ho
     have HB:=Lib.hid hb
     have hs:=hb.size
     simp only [World.size_alloc] at hs
     obtain ⟨hcc,hff⟩:=bcell hb
     have HCR:=Lib.hid (candR_succ d t pin (r:Int) k)
     clear ho hb
     by_cases hlk:(k:Int)<d.T
     ·have hdk:decide ((k:Int)<d.T)=true:=by simpa using hlk
      have hL:wlen (k:Int)=1+(k:Int) % 2:=rfl
      have hL2:1≤wlen (k:Int)∧wlen (k:Int)≤2:=by rw [hL];omega
      have HL:=Lib.hid hL.symm
      have HKS:=fun s=>Lib.hid (candK_succ d t pin (r:Int) (k:Int) s)
      clear hL
      have HUSE:=HUSE0.out (r:Int) (k:Int)
      have HUSE:=Lib.hid HUSE
      by_cases hskip:(r:Int)=o∨(¬(k:Int)=track∧¬(k:Int)=tr2)
      ·have HOFF:=Lib.hid (candK_none (d:=d) (t:=t) (pin:=pin) (r:=(r:Int)) (k:=(k:Int)) (s:=(wlen (k:Int)).toNat) (fun s=>by rw [HUSE.out];simp;omega))
       have hcs:(r:Int)=o∨(¬(r:Int)=o∧¬(k:Int)=track∧¬(k:Int)=tr2):=by omega
       clear hskip
       rcases hcs with h|⟨h1,h2,h3⟩
       ·have q1:((r:Int)==o)=true:=by simpa using h
        clear h
        go_wp2_with fail
        go_roundw
        case rel=>exact ⟨k+1,A,m,c,by omega,by go_num,rfl,by omega,by rw [HCR.out,HOFF.out,List.append_nil];exact HO.out,HB.out⟩
        case measure=>simp [intOf];omega
       ·have q1:((r:Int)==o)=false:=by simpa using h1
        have q2:((k:Int)==track)=false:=by simpa using h2
        have q2':((k:Int) != track)=true:=by simpa using h2
        have q3:((k:Int)==tr2)=false:=by simpa using h3
        have q3':((k:Int) != tr2)=true:=by simpa using h3
        clear h1 h2 h3
        go_wp2_with fail
        go_roundw
        case rel=>exact ⟨k+1,A,m,c,by omega,by go_num,rfl,by omega,by rw [HCR.out,HOFF.out,List.append_nil];exact HO.out,HB.out⟩
        case measure=>simp [intOf];omega
      ·have hcs:(¬(r:Int)=o∧(k:Int)=track)∨(¬(r:Int)=o∧¬(k:Int)=track∧(k:Int)=tr2):=by omega
       have HSO:Hid (∀s,useOf d pin (r:Int) (k:Int) s=decide (s=wlen (k:Int))):=by
        intro s
        rw [HUSE.out,decide_eq_true (show (r:Int)≠o by omega)]
        rcases hcs with h|h
        ·rw [decide_eq_true h.2];simp
        ·rw [decide_eq_true h.2.2];simp
       clear HUSE hskip
       rcases hcs with ⟨h1,h2⟩|⟨h1,h2,h3⟩
       ·have q1:((r:Int)==o)=false:=by simpa using h1
        have q2:((k:Int)==track)=true:=by simpa using h2
        have q2':((k:Int) != track)=false:=by simpa using h2
        clear h1 h2
        go_wp2_with fail
        go_loopw [5,12] (fun v i wr=>∃(s:Nat) (A:Option Addr) (m c:Nat),(s:Int)≤wlen (k:Int)∧i = .int .i64 ((s:Int)+1)∧v = .slice A m c∧m≤2+8 * r+2 * k+s∧Own (w.alloc (.cells #[.int .i64 d.W,.int .i64 d.H,.int .i64 d.T,.int .i64 d.R] 25)).heap.size wr A m c (outsOf d t++candA d t pin r++candR d t pin (r:Int) k++candK d t pin (r:Int) (k:Int) s)∧Below (w.alloc (.cells #[.int .i64 d.W,.int .i64 d.H,.int .i64 d.T,.int .i64 d.R] 25)).heap.size (w.alloc (.cells #[.int .i64 d.W,.int .i64 d.H,.int .i64 d.T,.int .i64 d.R] 25)) wr) (fun _ i _=>4 - (intOf i).toNat)
        case atStart=>exact ⟨0,A,m,c,by omega,rfl,rfl,by omega,by simpa [candK] using HO.out,HB.out⟩
        case round =>
         obtain ⟨s,A,m,c,hsw,rfl,rfl,hn,ho,hb⟩:=hrel
         have HO:=Lib.hid ho
         have HB:=Lib.hid hb
         have hs:=hb.size
         simp only [World.size_alloc] at hs
         clear hcc hff
         obtain ⟨hcc,hff⟩:=bcell hb
         clear ho hb
         have hZ:1+(k:Int) % 2=wlen (k:Int):=HL.out
         by_cases hls:(s:Int)+1≤wlen (k:Int)
         ·have hlsW:=hls
          rw [←hZ] at hls
          have hdl:decide ((s:Int)+1≤1+(k:Int) % 2)=true:=by simpa using hls
          clear hZ
          have hst:(s:Int)+1<1+(k:Int) % 2∨¬(s:Int)+1<1+(k:Int) % 2:=by omega
          rcases hst with hst|hst
          ·have hdst:decide ((s:Int)+1<1+(k:Int) % 2)=true:=by simpa using hst
           have HSN:=Lib.hid (candS_false (t:=t) ((HSO.out ((s:Int)+1)).trans (decide_eq_false (by have:=HL.out;omega))))
           clear hcc hff
           go_wp2_with fail
           go_roundw
           case rel=>exact ⟨s+1,A,m,c,by omega,by go_num,rfl,by omega,by rw [(HKS s).out,HSN.out,List.append_nil];exact HO.out,HB.out⟩
           case measure=>simp [intOf];omega
          ·have hdst:decide ((s:Int)+1<1+(k:Int) % 2)=false:=by simp;omega
           have HSN:=Lib.hid (candS_true (t:=t) ((HSO.out ((s:Int)+1)).trans (decide_eq_true (by have:=HL.out;omega))))
           generalize hP:stepOf d t (((r:Int)+2) % 4) ((s:Int)+1)=P at *
           have HP:=Lib.hid hP
           have hPr:=step_range (d:=d) (t:=t) (r:=((r:Int)+2) % 4) (s:=(s:Int)+1) HD.out
           rw [hP] at hPr
           clear hP
           generalize hC:cand d t (r:Int) (k:Int) ((s:Int)+1)=C at *
           have HC:Hid (∀w,Calls Tryz.prog 188 #[.agg #[.int .i64 d.W,.int .i64 d.H,.int .i64 d.T,.int .i64 d.R],.int .i64 P,.int .i64 (r:Int),.int .i64 (k:Int)] w fun e w'=>e = .returned (.int .i64 C)∧Below w.heap.size w w'):=fun w=>by
            have h:=swireNode_any d P (r:Int) (k:Int) w HD.out (by omega) (by omega) (by omega) (by omega) (by omega)
            rwa [show wireNode d P (r:Int) (k:Int)=C from by rw [←hC,cand,HP.out]] at h
           have HSC:Hid (∀w,Calls Tryz.prog 189 #[.agg #[.int .i64 d.W,.int .i64 d.H,.int .i64 d.T,.int .i64 d.R],.int .i64 t,.int .i64 (((r:Int)+2) % 4),.int .i64 ((s:Int)+1)] w fun e w'=>e = .returned (.int .i64 P)∧Below w.heap.size w w'):=fun w=>by
            have h:=stileStep_any d t (((r:Int)+2) % 4) ((s:Int)+1) w HTI.out (by omega) (by omega) (by omega) (by omega)
            rwa [HP.out] at h
           have HCC:=Lib.hid hC
           clear hC
           have e3:((r:Int)+2).tmod 4=((r:Int)+2) % 4:=Int.tmod_eq_emod_of_nonneg (by omega)
           have e4:IntKind.i64.wrap ((r:Int)+2)=(r:Int)+2:=IntWalk.i64_in _ (by omega)
           have hwW:w.heap.size<wr.heap.size:=by omega
           go_wp2_with fail
           have hsub:=sub_ne wr
           have hsc:=sub_cell wr
           refine wp_region_below wr (by kernel_rfl) (by kernel_rfl) (Below.refl _ _) ?_
           repeat (go_big_quiet_step ((first
            | (go_at_call 189;with_reducible exact calls_sub (HSC.out _))
            | (go_at_call 188;with_reducible exact calls_sub (HC.out _)))))
           refine wpQuiet_nil ?_
           rintro _ ⟨⟨w2,hD⟩,rfl⟩
           clear hsub hsc hcc hff e3 e4
           have HB2:=Lib.hid (below_tr HB.out hD)
           have HO2:=Lib.hid (HO.out.below hD)
           have hs2:=hD.size
           clear hD
           by_cases hC0:C≥0
           ·have HC1:=Lib.hid (oneOf_pos (x:=C) (by omega))
            go_wp2_with (at_builtin;refine wpList_push rfl _ _ rfl (w.alloc (.cells #[.int .i64 d.W,.int .i64 d.H,.int .i64 d.T,.int .i64 d.R] 25)).heap.size A m c _ C rfl HO2.out rfl (by omega) (by simp;omega) HB2.out ?_;rintro g4 c4 w4 o4 b4 - -)
            go_roundw
            case rel=>exact ⟨s+1,_,m+1,c4,by omega,by go_num,rfl,by omega,by rw [(HKS s).out,HSN.out,HC1.out,←List.append_assoc];exact o4,b4⟩
            case measure=>simp [intOf];omega
           ·have HC1:=Lib.hid (oneOf_neg (x:=C) (by omega))
            go_wp2_with fail
            go_roundw
            case rel=>exact ⟨s+1,A,m,c,by omega,by go_num,rfl,by omega,by rw [(HKS s).out,HSN.out,HC1.out,List.append_nil];exact HO2.out,HB2.out⟩
            case measure=>simp [intOf];omega
         ·have hLS:(wlen (k:Int)).toNat=s:=by omega
          have HLS:=Lib.hid hLS
          rw [←hZ] at hls
          have hdl:decide ((s:Int)+1≤1+(k:Int) % 2)=false:=by simp;omega
          clear hLS hZ
          go_wp2_with fail
          go_roundw
          case rel=>exact ⟨k+1,A,m,c,by omega,by go_num,rfl,by omega,by rw [HCR.out,HLS.out,←List.append_assoc];exact HO.out,HB.out⟩
          case measure=>simp [intOf];omega
       ·have q1:((r:Int)==o)=false:=by simpa using h1
        have q2:((k:Int)==track)=false:=by simpa using h2
        have q2':((k:Int) != track)=true:=by simpa using h2
        have q3:((k:Int)==tr2)=true:=by simpa using h3
        have q3':((k:Int) != tr2)=false:=by simpa using h3
        clear h1 h2 h3
        go_wp2_with fail
        go_loopw [5,12] (fun v i wr=>∃(s:Nat) (A:Option Addr) (m c:Nat),(s:Int)≤wlen (k:Int)∧i = .int .i64 ((s:Int)+1)∧v = .slice A m c∧m≤2+8 * r+2 * k+s∧Own (w.alloc (.cells #[.int .i64 d.W,.int .i64 d.H,.int .i64 d.T,.int .i64 d.R] 25)).heap.size wr A m c (outsOf d t++candA d t pin r++candR d t pin (r:Int) k++candK d t pin (r:Int) (k:Int) s)∧Below (w.alloc (.cells #[.int .i64 d.W,.int .i64 d.H,.int .i64 d.T,.int .i64 d.R] 25)).heap.size (w.alloc (.cells #[.int .i64 d.W,.int .i64 d.H,.int .i64 d.T,.int .i64 d.R] 25)) wr) (fun _ i _=>4 - (intOf i).toNat)
        case atStart=>exact ⟨0,A,m,c,by omega,rfl,rfl,by omega,by simpa [candK] using HO.out,HB.out⟩
        case round =>
         obtain ⟨s,A,m,c,hsw,rfl,rfl,hn,ho,hb⟩:=hrel
         have HO:=Lib.hid ho
         have HB:=Lib.hid hb
         have hs:=hb.size
         simp only [World.size_alloc] at hs
         clear hcc hff
         obtain ⟨hcc,hff⟩:=bcell hb
         clear ho hb
         have hZ:1+(k:Int) % 2=wlen (k:Int):=HL.out
         by_cases hls:(s:Int)+1≤wlen (k:Int)
         ·have hlsW:=hls
          rw [←hZ] at hls
          have hdl:decide ((s:Int)+1≤1+(k:Int) % 2)=true:=by simpa using hls
          clear hZ
          have hst:(s:Int)+1<1+(k:Int) % 2∨¬(s:Int)+1<1+(k:Int) % 2:=by omega
          rcases hst with hst|hst
          ·have hdst:decide ((s:Int)+1<1+(k:Int) % 2)=true:=by simpa using hst
           have HSN:=Lib.hid (candS_false (t:=t) ((HSO.out ((s:Int)+1)).trans (decide_eq_false (by have:=HL.out;omega))))
           clear hcc hff
           go_wp2_with fail
           go_roundw
           case rel=>exact ⟨s+1,A,m,c,by omega,by go_num,rfl,by omega,by rw [(HKS s).out,HSN.out,List.append_nil];exact HO.out,HB.out⟩
           case measure=>simp [intOf];omega
          ·have hdst:decide ((s:Int)+1<1+(k:Int) % 2)=false:=by simp;omega
           have HSN:=Lib.hid (candS_true (t:=t) ((HSO.out ((s:Int)+1)).trans (decide_eq_true (by have:=HL.out;omega))))
           generalize hP:stepOf d t (((r:Int)+2) % 4) ((s:Int)+1)=P at *
           have HP:=Lib.hid hP
           have hPr:=step_range (d:=d) (t:=t) (r:=((r:Int)+2) % 4) (s:=(s:Int)+1) HD.out
           rw [hP] at hPr
           clear hP
           generalize hC:cand d t (r:Int) (k:Int) ((s:Int)+1)=C at *
           have HC:Hid (∀w,Calls Tryz.prog 188 #[.agg #[.int .i64 d.W,.int .i64 d.H,.int .i64 d.T,.int .i64 d.R],.int .i64 P,.int .i64 (r:Int),.int .i64 (k:Int)] w fun e w'=>e = .returned (.int .i64 C)∧Below w.heap.size w w'):=fun w=>by
            have h:=swireNode_any d P (r:Int) (k:Int) w HD.out (by omega) (by omega) (by omega) (by omega) (by omega)
            rwa [show wireNode d P (r:Int) (k:Int)=C from by rw [←hC,cand,HP.out]] at h
           have HSC:Hid (∀w,Calls Tryz.prog 189 #[.agg #[.int .i64 d.W,.int .i64 d.H,.int .i64 d.T,.int .i64 d.R],.int .i64 t,.int .i64 (((r:Int)+2) % 4),.int .i64 ((s:Int)+1)] w fun e w'=>e = .returned (.int .i64 P)∧Below w.heap.size w w'):=fun w=>by
            have h:=stileStep_any d t (((r:Int)+2) % 4) ((s:Int)+1) w HTI.out (by omega) (by omega) (by omega) (by omega)
            rwa [HP.out] at h
           have HCC:=Lib.hid hC
           clear hC
           have e3:((r:Int)+2).tmod 4=((r:Int)+2) % 4:=Int.tmod_eq_emod_of_nonneg (by omega)
           have e4:IntKind.i64.wrap ((r:Int)+2)=(r:Int)+2:=IntWalk.i64_in _ (by omega)
           have hwW:w.heap.size<wr.heap.size:=by omega
           go_wp2_with fail
           have hsub:=sub_ne wr
           have hsc:=sub_cell wr
           refine wp_region_below wr (by kernel_rfl) (by kernel_rfl) (Below.refl _ _) ?_
           repeat (go_big_quiet_step ((first
            | (go_at_call 189;with_reducible exact calls_sub (HSC.out _))
            | (go_at_call 188;with_reducible exact calls_sub (HC.out _)))))
           refine wpQuiet_nil ?_
           rintro _ ⟨⟨w2,hD⟩,rfl⟩
           clear hsub hsc hcc hff e3 e4
           have HB2:=Lib.hid (below_tr HB.out hD)
           have HO2:=Lib.hid (HO.out.below hD)
           have hs2:=hD.size
           clear hD
           by_cases hC0:C≥0
           ·have HC1:=Lib.hid (oneOf_pos (x:=C) (by omega))
            go_wp2_with (at_builtin;refine wpList_push rfl _ _ rfl (w.alloc (.cells #[.int .i64 d.W,.int .i64 d.H,.int .i64 d.T,.int .i64 d.R] 25)).heap.size A m c _ C rfl HO2.out rfl (by omega) (by simp;omega) HB2.out ?_;rintro g4 c4 w4 o4 b4 - -)
            go_roundw
            case rel=>exact ⟨s+1,_,m+1,c4,by omega,by go_num,rfl,by omega,by rw [(HKS s).out,HSN.out,HC1.out,←List.append_assoc];exact o4,b4⟩
            case measure=>simp [intOf];omega
           ·have HC1:=Lib.hid (oneOf_neg (x:=C) (by omega))
            go_wp2_with fail
            go_roundw
            case rel=>exact ⟨s+1,A,m,c,by omega,by go_num,rfl,by omega,by rw [(HKS s).out,HSN.out,HC1.out,List.append_nil];exact HO2.out,HB2.out⟩
            case measure=>simp [intOf];omega
         ·have hLS:(wlen (k:Int)).toNat=s:=by omega
          have HLS:=Lib.hid hLS
          rw [←hZ] at hls
          have hdl:decide ((s:Int)+1≤1+(k:Int) % 2)=false:=by simp;omega
          clear hLS hZ
          go_wp2_with fail
          go_roundw
          case rel=>exact ⟨k+1,A,m,c,by omega,by go_num,rfl,by omega,by rw [HCR.out,HLS.out,←List.append_assoc];exact HO.out,HB.out⟩
          case measure=>simp [intOf];omega
     ·have hkT:d.T=(k:Int):=by omega
      have HKT:=Lib.hid hkT
      have hdk:decide ((k:Int)<d.T)=false:=by simp;omega
      clear hkT
      go_wp2_with fail
      go_roundw
      case rel=>exact ⟨r+1,A,m,c,by omega,by go_num,rfl,by omega,by rw [HAR.out,show d.T.toNat=k by have:=HKT.out;omega,←List.append_assoc];exact HO.out,HB.out⟩
      case measure=>simp [intOf];omega
   ·have hr4:r=4:=by omega
    have HR4:=Lib.hid hr4
    have hdr:decide ((r:Int)<4)=false:=by simp;omega
    have HLEN:=Lib.hid HO.out.len
    clear hr4 hcc hff
    go_wp2_with fail
    refine (l27Sort_any A m c _ _ HO.out.ints (by omega)).mono ?_
    rintro e w9 ⟨A9,c9,rfl,⟨ys,oy,py,sy⟩,b9⟩
    have HY:=Lib.hid oy
    have HB9:=Lib.hid (below_tr HB0.out (below_tr HB.out b9))
    have HE:=Lib.hid (HSORT.out ys (by rw [HR4.out] at py;unfold itemsOf;rw [if_pos hp7];exact py) sy)
    clear oy py sy b9
    go_wp2_with fail
    go_ret
    exact ⟨A9,m,c9,rfl,by rw [←HE.out];exact HY.out.more (by omega),HB9.out⟩
 ·have HOF1:Hid (outsOf d t=[X0,outPin d t 1]):=by show _=_;rw [HOF.out];rfl
  clear HOF
  go_wp2_with (go_at_call 187;refine (HC.out _).mono ?_;rintro e w' ⟨rfl,rfl⟩)
  refine (soutPin_any d t 1 _ HTI.out (by omega) (by omega)).mono ?_
  rintro e w8 ⟨rfl,b8⟩
  have HB8:=Lib.hid (below_tr HB7.out b8)
  have N8:=Lib.hid (N7.out.below b8)
  have hs8:=b8.size
  clear b8 hcc hff
  generalize outPin d t 1=X1 at *
  go_wp2_with (at_builtin;refine wpList_push rfl _ _ rfl (w.alloc (.cells #[.int .i64 d.W,.int .i64 d.H,.int .i64 d.T,.int .i64 d.R] 25)).heap.size _ 1 c6 [X0] X1 rfl N8.out rfl (by omega) (by simp;omega) HB8.out ?_;rintro g9 c9 w9 o9 b9 - -;have HBS:=Lib.hid b9;have N9:=Lib.hid o9;clear o9 b9)
  have NS:Hid (Own (w.alloc (.cells #[.int .i64 d.W,.int .i64 d.H,.int .i64 d.T,.int .i64 d.R] 25)).heap.size w9 (some ⟨g9,0,none⟩) 2 c9 (outsOf d t)):=by show Own _ _ _ _ _ _;rw [HOF1.out];exact N9.out
  go_loopw [5,10] (fun v i wr=>∃(r:Nat) (A:Option Addr) (m c:Nat),r≤4∧i = .int .i64 r∧v = .slice A m c∧m≤2+8 * r∧Own (w.alloc (.cells #[.int .i64 d.W,.int .i64 d.H,.int .i64 d.T,.int .i64 d.R] 25)).heap.size wr A m c (outsOf d t++candA d t pin r)∧Below (w.alloc (.cells #[.int .i64 d.W,.int .i64 d.H,.int .i64 d.T,.int .i64 d.R] 25)).heap.size (w.alloc (.cells #[.int .i64 d.W,.int .i64 d.H,.int .i64 d.T,.int .i64 d.R] 25)) wr) (fun _ i _=>4 - (intOf i).toNat)
  case atStart=>exact ⟨0,_,_,_,by omega,rfl,rfl,by omega,by simpa [candA] using NS.out,HBS.out⟩
  case round =>
   obtain ⟨r,A,m,c,hr,rfl,rfl,hn,ho,hb⟩:=hrel
   have HO:=Lib.hid ho
   have HB:=Lib.hid hb
   have hs:=hb.size
   simp only [World.size_alloc] at hs
   obtain ⟨hcc,hff⟩:=bcell hb
   clear ho hb
   by_cases hlt:r<4
   ·have hdr:decide ((r:Int)<4)=true:=by simp;omega
    have HAR:=Lib.hid (candA_succ d t pin r)
    clear hcc hff
    go_wp2_with fail
    go_loopw [5,11] (fun v i wr=>∃(k:Nat) (A:Option Addr) (m c:Nat),(k:Int)≤d.T∧i = .int .i64 k∧v = .slice A m c∧m≤2+8 * r+2 * k∧Own (w.alloc (.cells #[.int .i64 d.W,.int .i64 d.H,.int .i64 d.T,.int .i64 d.R] 25)).heap.size wr A m c (outsOf d t++candA d t pin r++candR d t pin (r:Int) k)∧Below (w.alloc (.cells #[.int .i64 d.W,.int .i64 d.H,.int .i64 d.T,.int .i64 d.R] 25)).heap.size (w.alloc (.cells #[.int .i64 d.W,.int .i64 d.H,.int .i64 d.T,.int .i64 d.R] 25)) wr) (fun _ i _=>d.T.toNat - (intOf i).toNat)
    case atStart=>exact ⟨0,A,m,c,by omega,rfl,rfl,by omega,by simpa [candR] using HO.out,HB.out⟩
    case round =>
     obtain ⟨k,A,m,c,hk,rfl,rfl,hn,ho,hb⟩:=hrel
     have HO:=Lib.hid ho
     have HB:=Lib.hid hb
     have hs:=hb.size
     simp only [World.size_alloc] at hs
     obtain ⟨hcc,hff⟩:=bcell hb
     have HCR:=Lib.hid (candR_succ d t pin (r:Int) k)
     clear ho hb
     by_cases hlk:(k:Int)<d.T
     ·have hdk:decide ((k:Int)<d.T)=true:=by simpa using hlk
      have hL:wlen (k:Int)=1+(k:Int) % 2:=rfl
      have hL2:1≤wlen (k:Int)∧wlen (k:Int)≤2:=by rw [hL];omega
      have HL:=Lib.hid hL.symm
      have HKS:=fun s=>Lib.hid (candK_succ d t pin (r:Int) (k:Int) s)
      clear hL
      have HUSE:=HUSE0.out (r:Int) (k:Int)
      have HUSE:=Lib.hid HUSE
      by_cases hskip:(r:Int)=o∨(¬(k:Int)=track∧¬(k:Int)=tr2)
      ·have HOFF:=Lib.hid (candK_none (d:=d) (t:=t) (pin:=pin) (r:=(r:Int)) (k:=(k:Int)) (s:=(wlen (k:Int)).toNat) (fun s=>by rw [HUSE.out];simp;omega))
       have hcs:(r:Int)=o∨(¬(r:Int)=o∧¬(k:Int)=track∧¬(k:Int)=tr2):=by omega
       clear hskip
       rcases hcs with h|⟨h1,h2,h3⟩
       ·have q1:((r:Int)==o)=true:=by simpa using h
        clear h
        go_wp2_with fail
        go_roundw
        case rel=>exact ⟨k+1,A,m,c,by omega,by go_num,rfl,by omega,by rw [HCR.out,HOFF.out,List.append_nil];exact HO.out,HB.out⟩
        case measure=>simp [intOf];omega
       ·have q1:((r:Int)==o)=false:=by simpa using h1
        have q2:((k:Int)==track)=false:=by simpa using h2
        have q2':((k:Int) != track)=true:=by simpa using h2
        have q3:((k:Int)==tr2)=false:=by simpa using h3
        have q3':((k:Int) != tr2)=true:=by simpa using h3
        clear h1 h2 h3
        go_wp2_with fail
        go_roundw
        case rel=>exact ⟨k+1,A,m,c,by omega,by go_num,rfl,by omega,by rw [HCR.out,HOFF.out,List.append_nil];exact HO.out,HB.out⟩
        case measure=>simp [intOf];omega
      ·have hcs:(¬(r:Int)=o∧(k:Int)=track)∨(¬(r:Int)=o∧¬(k:Int)=track∧(k:Int)=tr2):=by omega
       have HSO:Hid (∀s,useOf d pin (r:Int) (k:Int) s=decide (s=wlen (k:Int))):=by
        intro s
        rw [HUSE.out,decide_eq_true (show (r:Int)≠o by omega)]
        rcases hcs with h|h
        ·rw [decide_eq_true h.2];simp
        ·rw [decide_eq_true h.2.2];simp
       clear HUSE hskip
       rcases hcs with ⟨h1,h2⟩|⟨h1,h2,h3⟩
       ·have q1:((r:Int)==o)=false:=by simpa using h1
        have q2:((k:Int)==track)=true:=by simpa using h2
        have q2':((k:Int) != track)=false:=by simpa using h2
        clear h1 h2
        go_wp2_with fail
        go_loopw [5,12] (fun v i wr=>∃(s:Nat) (A:Option Addr) (m c:Nat),(s:Int)≤wlen (k:Int)∧i = .int .i64 ((s:Int)+1)∧v = .slice A m c∧m≤2+8 * r+2 * k+s∧Own (w.alloc (.cells #[.int .i64 d.W,.int .i64 d.H,.int .i64 d.T,.int .i64 d.R] 25)).heap.size wr A m c (outsOf d t++candA d t pin r++candR d t pin (r:Int) k++candK d t pin (r:Int) (k:Int) s)∧Below (w.alloc (.cells #[.int .i64 d.W,.int .i64 d.H,.int .i64 d.T,.int .i64 d.R] 25)).heap.size (w.alloc (.cells #[.int .i64 d.W,.int .i64 d.H,.int .i64 d.T,.int .i64 d.R] 25)) wr) (fun _ i _=>4 - (intOf i).toNat)
        case atStart=>exact ⟨0,A,m,c,by omega,rfl,rfl,by omega,by simpa [candK] using HO.out,HB.out⟩
        case round =>
         obtain ⟨s,A,m,c,hsw,rfl,rfl,hn,ho,hb⟩:=hrel
         have HO:=Lib.hid ho
         have HB:=Lib.hid hb
         have hs:=hb.size
         simp only [World.size_alloc] at hs
         clear hcc hff
         obtain ⟨hcc,hff⟩:=bcell hb
         clear ho hb
         have hZ:1+(k:Int) % 2=wlen (k:Int):=HL.out
         by_cases hls:(s:Int)+1≤wlen (k:Int)
         ·have hlsW:=hls
          rw [←hZ] at hls
          have hdl:decide ((s:Int)+1≤1+(k:Int) % 2)=true:=by simpa using hls
          clear hZ
          have hst:(s:Int)+1<1+(k:Int) % 2∨¬(s:Int)+1<1+(k:Int) % 2:=by omega
          rcases hst with hst|hst
          ·have hdst:decide ((s:Int)+1<1+(k:Int) % 2)=true:=by simpa using hst
           have HSN:=Lib.hid (candS_false (t:=t) ((HSO.out ((s:Int)+1)).trans (decide_eq_false (by have:=HL.out;omega))))
           clear hcc hff
           go_wp2_with fail
           go_roundw
           case rel=>exact ⟨s+1,A,m,c,by omega,by go_num,rfl,by omega,by rw [(HKS s).out,HSN.out,List.append_nil];exact HO.out,HB.out⟩
           case measure=>simp [intOf];omega
          ·have hdst:decide ((s:Int)+1<1+(k:Int) % 2)=false:=by simp;omega
           have HSN:=Lib.hid (candS_true (t:=t) ((HSO.out ((s:Int)+1)).trans (decide_eq_true (by have:=HL.out;omega))))
           generalize hP:stepOf d t (((r:Int)+2) % 4) ((s:Int)+1)=P at *
           have HP:=Lib.hid hP
           have hPr:=step_range (d:=d) (t:=t) (r:=((r:Int)+2) % 4) (s:=(s:Int)+1) HD.out
           rw [hP] at hPr
           clear hP
           generalize hC:cand d t (r:Int) (k:Int) ((s:Int)+1)=C at *
           have HC:Hid (∀w,Calls Tryz.prog 188 #[.agg #[.int .i64 d.W,.int .i64 d.H,.int .i64 d.T,.int .i64 d.R],.int .i64 P,.int .i64 (r:Int),.int .i64 (k:Int)] w fun e w'=>e = .returned (.int .i64 C)∧Below w.heap.size w w'):=fun w=>by
            have h:=swireNode_any d P (r:Int) (k:Int) w HD.out (by omega) (by omega) (by omega) (by omega) (by omega)
            rwa [show wireNode d P (r:Int) (k:Int)=C from by rw [←hC,cand,HP.out]] at h
           have HSC:Hid (∀w,Calls Tryz.prog 189 #[.agg #[.int .i64 d.W,.int .i64 d.H,.int .i64 d.T,.int .i64 d.R],.int .i64 t,.int .i64 (((r:Int)+2) % 4),.int .i64 ((s:Int)+1)] w fun e w'=>e = .returned (.int .i64 P)∧Below w.heap.size w w'):=fun w=>by
            have h:=stileStep_any d t (((r:Int)+2) % 4) ((s:Int)+1) w HTI.out (by omega) (by omega) (by omega) (by omega)
            rwa [HP.out] at h
           have HCC:=Lib.hid hC
           clear hC
           have e3:((r:Int)+2).tmod 4=((r:Int)+2) % 4:=Int.tmod_eq_emod_of_nonneg (by omega)
           have e4:IntKind.i64.wrap ((r:Int)+2)=(r:Int)+2:=IntWalk.i64_in _ (by omega)
           have hwW:w.heap.size<wr.heap.size:=by omega
           go_wp2_with fail
           have hsub:=sub_ne wr
           have hsc:=sub_cell wr
           refine wp_region_below wr (by kernel_rfl) (by kernel_rfl) (Below.refl _ _) ?_
           repeat (go_big_quiet_step ((first
            | (go_at_call 189;with_reducible exact calls_sub (HSC.out _))
            | (go_at_call 188;with_reducible exact calls_sub (HC.out _)))))
           refine wpQuiet_nil ?_
           rintro _ ⟨⟨w2,hD⟩,rfl⟩
           clear hsub hsc hcc hff e3 e4
           have HB2:=Lib.hid (below_tr HB.out hD)
           have HO2:=Lib.hid (HO.out.below hD)
           have hs2:=hD.size
           clear hD
           by_cases hC0:C≥0
           ·have HC1:=Lib.hid (oneOf_pos (x:=C) (by omega))
            go_wp2_with (at_builtin;refine wpList_push rfl _ _ rfl (w.alloc (.cells #[.int .i64 d.W,.int .i64 d.H,.int .i64 d.T,.int .i64 d.R] 25)).heap.size A m c _ C rfl HO2.out rfl (by omega) (by simp;omega) HB2.out ?_;rintro g4 c4 w4 o4 b4 - -)
            go_roundw
            case rel=>exact ⟨s+1,_,m+1,c4,by omega,by go_num,rfl,by omega,by rw [(HKS s).out,HSN.out,HC1.out,←List.append_assoc];exact o4,b4⟩
            case measure=>simp [intOf];omega
           ·have HC1:=Lib.hid (oneOf_neg (x:=C) (by omega))
            go_wp2_with fail
            go_roundw
            case rel=>exact ⟨s+1,A,m,c,by omega,by go_num,rfl,by omega,by rw [(HKS s).out,HSN.out,HC1.out,List.append_nil];exact HO2.out,HB2.out⟩
            case measure=>simp [intOf];omega
         ·have hLS:(wlen (k:Int)).toNat=s:=by omega
          have HLS:=Lib.hid hLS
          rw [←hZ] at hls
          have hdl:decide ((s:Int)+1≤1+(k:Int) % 2)=false:=by simp;omega
          clear hLS hZ
          go_wp2_with fail
          go_roundw
          case rel=>exact ⟨k+1,A,m,c,by omega,by go_num,rfl,by omega,by rw [HCR.out,HLS.out,←List.append_assoc];exact HO.out,HB.out⟩
          case measure=>simp [intOf];omega
       ·have q1:((r:Int)==o)=false:=by simpa using h1
        have q2:((k:Int)==track)=false:=by simpa using h2
        have q2':((k:Int) != track)=true:=by simpa using h2
        have q3:((k:Int)==tr2)=true:=by simpa using h3
        have q3':((k:Int) != tr2)=false:=by simpa using h3
        clear h1 h2 h3
        go_wp2_with fail
        go_loopw [5,12] (fun v i wr=>∃(s:Nat) (A:Option Addr) (m c:Nat),(s:Int)≤wlen (k:Int)∧i = .int .i64 ((s:Int)+1)∧v = .slice A m c∧m≤2+8 * r+2 * k+s∧Own (w.alloc (.cells #[.int .i64 d.W,.int .i64 d.H,.int .i64 d.T,.int .i64 d.R] 25)).heap.size wr A m c (outsOf d t++candA d t pin r++candR d t pin (r:Int) k++candK d t pin (r:Int) (k:Int) s)∧Below (w.alloc (.cells #[.int .i64 d.W,.int .i64 d.H,.int .i64 d.T,.int .i64 d.R] 25)).heap.size (w.alloc (.cells #[.int .i64 d.W,.int .i64 d.H,.int .i64 d.T,.int .i64 d.R] 25)) wr) (fun _ i _=>4 - (intOf i).toNat)
        case atStart=>exact ⟨0,A,m,c,by omega,rfl,rfl,by omega,by simpa [candK] using HO.out,HB.out⟩
        case round =>
         obtain ⟨s,A,m,c,hsw,rfl,rfl,hn,ho,hb⟩:=hrel
         have HO:=Lib.hid ho
         have HB:=Lib.hid hb
         have hs:=hb.size
         simp only [World.size_alloc] at hs
         clear hcc hff
         obtain ⟨hcc,hff⟩:=bcell hb
         clear ho hb
         have hZ:1+(k:Int) % 2=wlen (k:Int):=HL.out
         by_cases hls:(s:Int)+1≤wlen (k:Int)
         ·have hlsW:=hls
          rw [←hZ] at hls
          have hdl:decide ((s:Int)+1≤1+(k:Int) % 2)=true:=by simpa using hls
          clear hZ
          have hst:(s:Int)+1<1+(k:Int) % 2∨¬(s:Int)+1<1+(k:Int) % 2:=by omega
          rcases hst with hst|hst
          ·have hdst:decide ((s:Int)+1<1+(k:Int) % 2)=true:=by simpa using hst
           have HSN:=Lib.hid (candS_false (t:=t) ((HSO.out ((s:Int)+1)).trans (decide_eq_false (by have:=HL.out;omega))))
           clear hcc hff
           go_wp2_with fail
           go_roundw
           case rel=>exact ⟨s+1,A,m,c,by omega,by go_num,rfl,by omega,by rw [(HKS s).out,HSN.out,List.append_nil];exact HO.out,HB.out⟩
           case measure=>simp [intOf];omega
          ·have hdst:decide ((s:Int)+1<1+(k:Int) % 2)=false:=by simp;omega
           have HSN:=Lib.hid (candS_true (t:=t) ((HSO.out ((s:Int)+1)).trans (decide_eq_true (by have:=HL.out;omega))))
           generalize hP:stepOf d t (((r:Int)+2) % 4) ((s:Int)+1)=P at *
           have HP:=Lib.hid hP
           have hPr:=step_range (d:=d) (t:=t) (r:=((r:Int)+2) % 4) (s:=(s:Int)+1) HD.out
           rw [hP] at hPr
           clear hP
           generalize hC:cand d t (r:Int) (k:Int) ((s:Int)+1)=C at *
           have HC:Hid (∀w,Calls Tryz.prog 188 #[.agg #[.int .i64 d.W,.int .i64 d.H,.int .i64 d.T,.int .i64 d.R],.int .i64 P,.int .i64 (r:Int),.int .i64 (k:Int)] w fun e w'=>e = .returned (.int .i64 C)∧Below w.heap.size w w'):=fun w=>by
            have h:=swireNode_any d P (r:Int) (k:Int) w HD.out (by omega) (by omega) (by omega) (by omega) (by omega)
            rwa [show wireNode d P (r:Int) (k:Int)=C from by rw [←hC,cand,HP.out]] at h
           have HSC:Hid (∀w,Calls Tryz.prog 189 #[.agg #[.int .i64 d.W,.int .i64 d.H,.int .i64 d.T,.int .i64 d.R],.int .i64 t,.int .i64 (((r:Int)+2) % 4),.int .i64 ((s:Int)+1)] w fun e w'=>e = .returned (.int .i64 P)∧Below w.heap.size w w'):=fun w=>by
            have h:=stileStep_any d t (((r:Int)+2) % 4) ((s:Int)+1) w HTI.out (by omega) (by omega) (by omega) (by omega)
            rwa [HP.out] at h
           have HCC:=Lib.hid hC
           clear hC
           have e3:((r:Int)+2).tmod 4=((r:Int)+2) % 4:=Int.tmod_eq_emod_of_nonneg (by omega)
           have e4:IntKind.i64.wrap ((r:Int)+2)=(r:Int)+2:=IntWalk.i64_in _ (by omega)
           have hwW:w.heap.size<wr.heap.size:=by omega
           go_wp2_with fail
           have hsub:=sub_ne wr
           have hsc:=sub_cell wr
           refine wp_region_below wr (by kernel_rfl) (by kernel_rfl) (Below.refl _ _) ?_
           repeat (go_big_quiet_step ((first
            | (go_at_call 189;with_reducible exact calls_sub (HSC.out _))
            | (go_at_call 188;with_reducible exact calls_sub (HC.out _)))))
           refine wpQuiet_nil ?_
           rintro _ ⟨⟨w2,hD⟩,rfl⟩
           clear hsub hsc hcc hff e3 e4
           have HB2:=Lib.hid (below_tr HB.out hD)
           have HO2:=Lib.hid (HO.out.below hD)
           have hs2:=hD.size
           clear hD
           by_cases hC0:C≥0
           ·have HC1:=Lib.hid (oneOf_pos (x:=C) (by omega))
            go_wp2_with (at_builtin;refine wpList_push rfl _ _ rfl (w.alloc (.cells #[.int .i64 d.W,.int .i64 d.H,.int .i64 d.T,.int .i64 d.R] 25)).heap.size A m c _ C rfl HO2.out rfl (by omega) (by simp;omega) HB2.out ?_;rintro g4 c4 w4 o4 b4 - -)
            go_roundw
            case rel=>exact ⟨s+1,_,m+1,c4,by omega,by go_num,rfl,by omega,by rw [(HKS s).out,HSN.out,HC1.out,←List.append_assoc];exact o4,b4⟩
            case measure=>simp [intOf];omega
           ·have HC1:=Lib.hid (oneOf_neg (x:=C) (by omega))
            go_wp2_with fail
            go_roundw
            case rel=>exact ⟨s+1,A,m,c,by omega,by go_num,rfl,by omega,by rw [(HKS s).out,HSN.out,HC1.out,List.append_nil];exact HO2.out,HB2.out⟩
            case measure=>simp [intOf];omega
         ·have hLS:(wlen (k:Int)).toNat=s:=by omega
          have HLS:=Lib.hid hLS
          rw [←hZ] at hls
          have hdl:decide ((s:Int)+1≤1+(k:Int) % 2)=false:=by simp;omega
          clear hLS hZ
          go_wp2_with fail
          go_roundw
          case rel=>exact ⟨k+1,A,m,c,by omega,by go_num,rfl,by omega,by rw [HCR.out,HLS.out,←List.append_assoc];exact HO.out,HB.out⟩
          case measure=>simp [intOf];omega
     ·have hkT:d.T=(k:Int):=by omega
      have HKT:=Lib.hid hkT
      have hdk:decide ((k:Int)<d.T)=false:=by simp;omega
      clear hkT
      go_wp2_with fail
      go_roundw
      case rel=>exact ⟨r+1,A,m,c,by omega,by go_num,rfl,by omega,by rw [HAR.out,show d.T.toNat=k by have:=HKT.out;omega,←List.append_assoc];exact HO.out,HB.out⟩
      case measure=>simp [intOf];omega
   ·have hr4:r=4:=by omega
    have HR4:=Lib.hid hr4
    have hdr:decide ((r:Int)<4)=false:=by simp;omega
    have HLEN:=Lib.hid HO.out.len
    clear hr4 hcc hff
    go_wp2_with fail
    refine (l27Sort_any A m c _ _ HO.out.ints (by omega)).mono ?_
    rintro e w9 ⟨A9,c9,rfl,⟨ys,oy,py,sy⟩,b9⟩
    have HY:=Lib.hid oy
    have HB9:=Lib.hid (below_tr HB0.out (below_tr HB.out b9))
    have HE:=Lib.hid (HSORT.out ys (by rw [HR4.out] at py;unfold itemsOf;rw [if_pos hp7];exact py) sy)
    clear oy py sy b9
    go_wp2_with fail
    go_ret
    exact ⟨A9,m,c9,rfl,by rw [←HE.out];exact HY.out.more (by omega),HB9.out⟩
end Go.Proofs.YtignkfhdkcgkgaaGreat
