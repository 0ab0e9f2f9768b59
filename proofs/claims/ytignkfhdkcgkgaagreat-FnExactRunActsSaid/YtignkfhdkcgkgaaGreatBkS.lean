/- RegionQuiet of the reference. -/
import Derived.Test.YtignkfhdkcgkgaaGreatRq
namespace Go.Proofs.YtignkfhdkcgkgaaGreat
set_option maxHeartbeats 4000000
set_option maxRecDepth 100000
open Go.RowKit
theorem kz {d:Dev} {r:Reg} {t:Int} {b:Bool} (h:gY d r t=b) (hd:bO d=true) (h0:0<=t) (h1:t<=1099511627776) (w:World) :
  Calls Tryz.prog 155 #[.agg #[.int .i64 d.W,.int .i64 d.H,.int .i64 d.T,.int .i64 d.R],.agg #[.int .i64 r.X0,.int .i64 r.Y0,.int .i64 r.X1,.int .i64 r.Y1],.int .i64 t] w fun e w'=>e = .returned (.bool b)/\Below w.heap.size w w':=by
 obtain ⟨a,b',_⟩:=aY hd
 have:=iH d r t w a b' h0 h1
 rwa [h] at this
theorem kE (d:Dev) (A:Option Addr) (m c:Nat) (fs:List (List Int)) (r:Reg) (w:World) (hA:dZ w A m fs) (hz:af fs<=1099511627776) :
  Calls Tryz.prog 122 #[.agg #[.int .i64 d.W,.int .i64 d.H,.int .i64 d.T,.int .i64 d.R],.slice A m c,.agg #[.int .i64 r.X0,.int .i64 r.Y0,.int .i64 r.X1,.int .i64 r.Y1]] w fun e w'=>e = .returned (.bool (rqF d fs r))/\Below w.heap.size w w':=by
 have HB0:=Hd (aB (aB (Below.refl w.heap.size w) (.cells #[.int .i64 d.W,.int .i64 d.H,.int .i64 d.T,.int .i64 d.R] 25)) (.cells #[.int .i64 r.X0,.int .i64 r.Y0,.int .i64 r.X1,.int .i64 r.Y1] 29))
 have HI:=Hd hA
 have HQ0:=Hd (ww w d)
 clear hA
 go_enter Tryz.func122,Tryz.ntmps122
 go_wp2_with fail
 refine (iK d A m c fs _ (HI.out.below HB0.out) hz).mono ?_
 rintro e w1 ⟨rfl,b1⟩
 have hs1:=b1.size
 simp only [World.size_alloc] at hs1
 have D1:=Hd b1
 obtain ⟨hcc,hff⟩:=aO b1
 clear b1
 cases hf:az d fs with
 | false =>
  have HF:Hid (rqF d fs r=false):=by show _=_;unfold rqF;rw [hf];rfl
  clear hf
  go_wp2_with fail
  go_ret
  exact ⟨aH HF.out.symm,aA HB0.out D1.out⟩
 | true =>
  have HFO:=Hd hf
  have hdv:=(aj hf).1
  have HD:=Hd hdv
  have hnb:=cK hdv
  have hWH:=dL hdv
  have hp:=bg hdv
  have hT:=aY hdv
  have HCF:=Hd (kJ hf)
  clear hf
  go_wp2_with fail
  refine (qj d r _).mono ?_
  rintro e w2 ⟨rfl,b2⟩
  have D2:=Hd (aA D1.out b2)
  have hs2:=b2.size
  clear b2 hcc hff
  obtain ⟨hcc,hff⟩:=aO D2.out
  cases hr:mF d r with
  | false =>
   have HF:Hid (rqF d fs r=false):=by show _=_;unfold rqF;rw [hr];simp
   clear hr hdv hcc hff
   go_wp2_with fail
   go_ret
   exact ⟨aH HF.out.symm,aA HB0.out D2.out⟩
  | true =>
   have HR:=Hd hr
   clear hr hdv
   have hww:w.heap.size<w2.heap.size:=by omega
   have HQ2:=Hd (jO D2.out (by simp;omega) (jO (aB (Below.refl _ _) (.cells #[.int .i64 r.X0,.int .i64 r.Y0,.int .i64 r.X1,.int .i64 r.Y1] 29)) (by simp) HQ0.out))
   have hD:=Below.refl w2.heap.size w2
   clear hcc hff
   go_wp2_with fail
   go_region_held3 (fun w'=>w'.cell? ⟨w.heap.size,0,none⟩=some (.int .i64 d.W)/\w'.cell? ⟨w.heap.size,1,none⟩=some (.int .i64 d.H)/\w'.cell? ⟨w.heap.size,2,none⟩=some (.int .i64 d.T)/\w'.cell? ⟨w.heap.size,3,none⟩=some (.int .i64 d.R))
    (first|with_reducible exact jO hD hww HQ2.out|with_reducible exact jO hD.drew hww HQ2.out)
    (first
     | (go_at_call 64;(with_reducible refine (kY d A m c fs _ (HI.out.below (aA HB0.out (aA D2.out hD.drew))) hz).mono ?_);rintro e w3 ⟨A3,m3,c3,rfl,o3,b3⟩;have R3:=Hd o3.rd;have hD2:=aA hD.drew b3;clear b3 o3;replace hD:=hD2)
     | (go_at_call 66;(with_reducible refine (pV d A3 m3 c3 (av d fs) _ (by have h:=R3.out;rw [lZ,HFO.out,if_pos rfl] at h;exact h) HCF.out).mono ?_);rintro e w4 ⟨A4,c4,rfl,o4,b4⟩;have O4:=Hd o4.ints;have hD2:=aA hD b4;clear b4 o4;replace hD:=hD2))
   have D4:=Hd (aA D2.out hD)
   have hs4:=hD.size
   clear hD
   obtain ⟨hcc,hff⟩:=aO D4.out
   go_wp2_with fail
   refine (dB d _ (by omega) (by omega)).mono ?_
   rintro e w5 ⟨rfl,b5⟩
   have D5:=Hd (aA D4.out b5)
   have hs5:=b5.size
   have O5:=Hd (O4.out.below b5)
   clear b5 hcc hff
   obtain ⟨N,hN⟩:∃N:Nat,ai d=(N:Int):=⟨(ai d).toNat,by omega⟩
   have hNN:(ai d).toNat=N:=by omega
   have HN:=Hd hN
   have HBAD:=Hd (fun k hk h=>FM (d:=d) (fs:=fs) (r:=r) (k:=k) hk h)
   have HGOOD:=Hd (fun h=>Dm (d:=d) (fs:=fs) (r:=r) HFO.out HR.out h)
   rw [hN] at hnb
   generalize (ai d).toNat=NN at *
   subst hNN
   clear hN
   have hpe0:¬aM d=0:=by omega
   go_wp2_with fail
   go_loopw [9] (fun i wr=>∃k:Nat,k<=NN/\i = .int .i64 k/\Below w5.heap.size w5 wr/\∀j,j<k→tZ d (av d fs) r ((j:Nat):Int)=true) (fun i _=>NN - (intOf i).toNat)
   case atStart=>exact ⟨0,by omega,rfl,Below.refl _ _,by intro j hj;omega⟩
   case round =>
    obtain ⟨k,hk,rfl,hb,hall⟩:=hrel
    have HALL:=Hd hall
    have HB:=Hd hb
    have hs:=hb.size
    clear hall
    by_cases hlt:k<NN
    ·have hdk:decide ((k:Int)<(NN:Int))=true:=by simp;omega
     have hni:bZ d (k:Int)=true:=iQ.2 ⟨HD.out,by omega,by rw [HN.out];omega⟩
     obtain ⟨_,n0,n1,hq0,hq1,hr0,hr1⟩:=dX hni
     obtain ⟨b,o,rfl,hbl,hc⟩:=O5.out.2 (by omega)
     have hck:=hc k hlt
     rw [qJ hlt,←hb.cell (p:=⟨b,o+k,none⟩) hbl] at hck
     have hbr:b<wr.heap.size:=by omega
     have HROK:Hid (tZ d (av d fs) r (k:Int)=(decide (fV d (av d fs) (k:Int)<0) || (gY d r ((k:Int) / aM d) || !gY d r (fV d (av d fs) (k:Int) / aM d)))):=rfl
     have HDN:=Hd (fun h=>(sI (n:=(k:Int)) HCF.out h).1)
     have HBD:=Hd (HBAD.out k hlt)
     have HALS:=Hd (fun h=>gF HALL.out h)
     have i0:(0:Int)<=(k:Int):=by omega
     have i1:(k:Int)<(NN:Int):=by omega
     have e2:IntKind.i64.wrap (((k:Int)).tdiv (aM d))=(k:Int) / aM d:=IntWalk.i64_quo _ _ ⟨n0,by omega,by omega⟩
     generalize fV d (av d fs) (k:Int)=s at *
     clear hni hc hb
     obtain ⟨hcc,hff⟩:=aO (aA D5.out HB.out)
     have hwr:w.heap.size+1<wr.heap.size:=by omega
     have hwr0:w.heap.size<wr.heap.size:=by omega
     by_cases hs0:s<0
     ·have hds:decide (s≥0)=false:=by simp;omega
      have HE:Hid (tZ d (av d fs) r (k:Int)=true):=by show _=_;rw [HROK.out,decide_eq_true hs0];rfl
      have HC:=HE
      have HC2:=HE
      go_wp2_with fail
      have hsub:=gP wr
      have hsc:=dN wr
      refine bG wr (by kernel_rfl) (by kernel_rfl) (Below.refl _ _) ?_
      repeat (go_big_quiet_step ((go_at_call 155;(first|with_reducible exact bB (HC.out _)|with_reducible exact bB (HC2.out _)))))
      refine wpQuiet_nil ?_
      rintro _ ⟨⟨w4,hD⟩,rfl⟩
      clear hsub hsc hcc hff
      have HB4:=Hd (aA HB.out hD)
      clear hD
      go_wp2_with fail
      go_roundw
      case rel=>exact ⟨k+1,by omega,by go_num,HB4.out,HALS.out HE.out⟩
      case measure=>simp [intOf];omega
     ·have hds:decide (s≥0)=true:=by simp;omega
      have hsi:=HDN.out (by omega)
      obtain ⟨_,s0,s1,hqs0,hqs1,_⟩:=dX hsi
      rw [decide_eq_false hs0] at HROK
      have e3:IntKind.i64.wrap (s.tdiv (aM d))=s / aM d:=IntWalk.i64_quo _ _ ⟨s0,by omega,by omega⟩
      clear hsi
      have e2w:wrap64 ((k:Int) / aM d)=(k:Int) / aM d:=IntWalk.wrap64_in _ (by omega)
      have e3w:wrap64 (s / aM d)=s / aM d:=IntWalk.wrap64_in _ (by omega)
      cases h1:gY d r ((k:Int) / aM d) with
      | true =>
       have HC:=Hd (fun w=>kz h1 HD.out hq0 (by omega) w)
       have HE:Hid (tZ d (av d fs) r (k:Int)=true):=by show _=_;rw [HROK.out,h1];rfl
       have HC2:=HE
       clear h1
       go_wp2_with fail
       have hsub:=gP wr
       have hsc:=dN wr
       refine bG wr (by kernel_rfl) (by kernel_rfl) (Below.refl _ _) ?_
       repeat (go_big_quiet_step ((go_at_call 155;(first|with_reducible exact bB (HC.out _)|with_reducible exact bB (HC2.out _)))))
       refine wpQuiet_nil ?_
       rintro _ ⟨⟨w4,hD⟩,rfl⟩
       clear hsub hsc hcc hff
       have HB4:=Hd (aA HB.out hD)
       clear hD
       go_wp2_with fail
       go_roundw
       case rel=>exact ⟨k+1,by omega,by go_num,HB4.out,HALS.out HE.out⟩
       case measure=>simp [intOf];omega
      | false =>
       have HC:=Hd (fun w=>kz h1 HD.out hq0 (by omega) w)
       rw [h1] at HROK
       clear h1
       cases h2:gY d r (s / aM d) with
       | true =>
        have HC2:=Hd (fun w=>kz h2 HD.out hqs0 (by omega) w)
        have HE:=Hd (HBD.out (by rw [HROK.out,h2];rfl))
        clear h2
        go_wp2_with fail
        have hsub:=gP wr
        have hsc:=dN wr
        refine bG wr (by kernel_rfl) (by kernel_rfl) (Below.refl _ _) ?_
        repeat (go_big_quiet_step ((go_at_call 155;(first|with_reducible exact bB (HC.out _)|with_reducible exact bB (HC2.out _)))))
        refine wpQuiet_nil ?_
        rintro _ ⟨⟨w4,hD⟩,rfl⟩
        clear hsub hsc hcc hff
        have HB4:=Hd (aA HB.out hD)
        clear hD
        go_wp2_with fail
        go_ret
        exact ⟨aH HE.out.symm,aA HB0.out (aA D5.out HB4.out)⟩
       | false =>
        have HC2:=Hd (fun w=>kz h2 HD.out hqs0 (by omega) w)
        have HE:Hid (tZ d (av d fs) r (k:Int)=true):=by show _=_;rw [HROK.out,h2];rfl
        clear h2
        go_wp2_with fail
        have hsub:=gP wr
        have hsc:=dN wr
        refine bG wr (by kernel_rfl) (by kernel_rfl) (Below.refl _ _) ?_
        repeat (go_big_quiet_step ((go_at_call 155;(first|with_reducible exact bB (HC.out _)|with_reducible exact bB (HC2.out _)))))
        refine wpQuiet_nil ?_
        rintro _ ⟨⟨w4,hD⟩,rfl⟩
        clear hsub hsc hcc hff
        have HB4:=Hd (aA HB.out hD)
        clear hD
        go_wp2_with fail
        go_roundw
        case rel=>exact ⟨k+1,by omega,by go_num,HB4.out,HALS.out HE.out⟩
        case measure=>simp [intOf];omega
    ·have hkN:k=NN:=by omega
     have HKN:=Hd hkN
     have hdk:decide ((k:Int)<(NN:Int))=false:=by simp;omega
     clear hkN
     go_wp2_with fail
     go_ret
     exact ⟨aH (HGOOD.out (by rw [←HKN.out];exact HALL.out)).symm,aA HB0.out (aA D5.out HB.out)⟩
def BD (r:Reg):Bool:=decide (r.X0=0) && (decide (r.Y0=0) && (decide (r.X1=0) && decide (r.Y1=0)))
def bkF (b:Bd):Bool:=az b.dev b.frames && (mM b.dev b.state && (if b.phase=0∨b.phase=2 then (BD b.reg && decide (b.saved.length=0)) else decide (b.phase=1) && rqF b.dev b.saved b.reg))
theorem fq (b:Bd) (s:Sl3) (w:World) (hA:bV w b s) (hz1:af b.frames<=1099511627776) (h2:s.n2<=16777216) (h3:af b.saved<=1099511627776) :
  Calls Tryz.prog 10 #[.agg (aD b s)] w fun e w'=>e = .returned (.bool (bkF b))/\Below w.heap.size w w':=by
 obtain ⟨d,fs,st,ph,r,sv⟩:=b
 obtain ⟨A1,n1,c1,A2,n2,c2,A3,n3,c3⟩:=s
 have HB0:=Hd (aB (Below.refl w.heap.size w) (.cells (aD ⟨d,fs,st,ph,r,sv⟩ ⟨A1,n1,c1,A2,n2,c2,A3,n3,c3⟩) 31))
 have HI:=Hd hA
 dsimp only at hz1 h2 h3
 clear hA
 go_enter Tryz.func10,Tryz.ntmps10
 go_wp2_with fail
 refine (gB d A1 n1 c1 fs _ (HI.out.frames.below HB0.out) hz1).mono ?_
 rintro e w1 ⟨rfl,b1⟩
 have hs1:=b1.size
 simp only [World.size_alloc] at hs1
 have D1:=Hd b1
 obtain ⟨hcc,hff⟩:=aO b1
 clear b1
 cases hf:az d fs with
 | false =>
  have HF:Hid (bkF ⟨d,fs,st,ph,r,sv⟩=false):=by show _=_;unfold bkF;rw [hf];rfl
  clear hf
  go_wp2_with fail
  go_ret
  exact ⟨aH HF.out.symm,aA HB0.out D1.out⟩
 | true =>
  have HFO:=Hd hf
  clear hf
  go_wp2_with fail
  refine (wX d A2 n2 c2 st _ (HI.out.state.below (aA HB0.out D1.out)) h2).mono ?_
  rintro e w2 ⟨rfl,b2⟩
  have D2:=Hd (aA D1.out b2)
  have hs2:=b2.size
  clear b2 hcc hff
  obtain ⟨hcc,hff⟩:=aO D2.out
  cases hst:mM d st with
  | false =>
   have HF:Hid (bkF ⟨d,fs,st,ph,r,sv⟩=false):=by show _=_;unfold bkF;rw [hst];simp
   clear hst
   go_wp2_with fail
   go_ret
   exact ⟨aH HF.out.symm,aA HB0.out D2.out⟩
  | true =>
   have HF:Hid (bkF ⟨d,fs,st,ph,r,sv⟩=(if ph=0∨ph=2 then (BD r && decide (sv.length=0)) else decide (ph=1) && rqF d sv r)):=by show _=_;unfold bkF;rw [hst,HFO.out];rfl
   clear hst
   by_cases h1:ph=1
   ·subst h1
    rw [if_neg (by omega)] at HF
    cases hr:mF d r with
    | false =>
     have HR:Hid (∀w',Calls Tryz.prog 42 #[.agg #[.int .i64 d.W,.int .i64 d.H,.int .i64 d.T,.int .i64 d.R],.agg #[.int .i64 r.X0,.int .i64 r.Y0,.int .i64 r.X1,.int .i64 r.Y1]] w' fun e w''=>e = .returned (.bool false)/\Below w'.heap.size w' w''):=fun w'=>by have h:=lF d r w';rwa [hr] at h
     have HE:Hid (rqF d sv r=false):=by show _=_;unfold rqF;rw [hr];simp
     clear hr
     go_wp2_with fail
     refine (HR.out _).mono ?_
     rintro e w3 ⟨rfl,b3⟩
     have D3:=Hd (aA D2.out b3)
     clear b3 hcc hff
     go_wp2_with fail
     go_ret
     exact ⟨aH (by rw [HF.out,HE.out];rfl),aA HB0.out D3.out⟩
    | true =>
     have HR:Hid (∀w',Calls Tryz.prog 42 #[.agg #[.int .i64 d.W,.int .i64 d.H,.int .i64 d.T,.int .i64 d.R],.agg #[.int .i64 r.X0,.int .i64 r.Y0,.int .i64 r.X1,.int .i64 r.Y1]] w' fun e w''=>e = .returned (.bool true)/\Below w'.heap.size w' w''):=fun w'=>by have h:=lF d r w';rwa [hr] at h
     clear hr
     go_wp2_with fail
     refine (HR.out _).mono ?_
     rintro e w3 ⟨rfl,b3⟩
     have D3:=Hd (aA D2.out b3)
     have hs3:=b3.size
     clear b3 hcc hff
     obtain ⟨hcc,hff⟩:=aO D3.out
     cases hg:az d sv with
     | false =>
      have HG:Hid (∀w',dZ w' A3 n3 sv→Calls Tryz.prog 40 #[.agg #[.int .i64 d.W,.int .i64 d.H,.int .i64 d.T,.int .i64 d.R],.slice A3 n3 c3] w' fun e w''=>e = .returned (.bool false)/\Below w'.heap.size w' w''):=fun w' hw=>by have h:=gB d A3 n3 c3 sv w' hw h3;rwa [hg] at h
      have HE:Hid (rqF d sv r=false):=by show _=_;unfold rqF;rw [hg];rfl
      clear hg
      go_wp2_with fail
      refine (HG.out _ (HI.out.saved.below (aA HB0.out D3.out))).mono ?_
      rintro e w4 ⟨rfl,b4⟩
      have D4:=Hd (aA D3.out b4)
      clear b4 hcc hff
      go_wp2_with fail
      go_ret
      exact ⟨aH (by rw [HF.out,HE.out];rfl),aA HB0.out D4.out⟩
     | true =>
      have HG:Hid (∀w',dZ w' A3 n3 sv→Calls Tryz.prog 40 #[.agg #[.int .i64 d.W,.int .i64 d.H,.int .i64 d.T,.int .i64 d.R],.slice A3 n3 c3] w' fun e w''=>e = .returned (.bool true)/\Below w'.heap.size w' w''):=fun w' hw=>by have h:=gB d A3 n3 c3 sv w' hw h3;rwa [hg] at h
      clear hg
      go_wp2_with fail
      refine (HG.out _ (HI.out.saved.below (aA HB0.out D3.out))).mono ?_
      rintro e w4 ⟨rfl,b4⟩
      have D4:=Hd (aA D3.out b4)
      have hs4:=b4.size
      clear b4 hcc hff
      obtain ⟨hcc,hff⟩:=aO D4.out
      go_wp2_with fail
      refine (kW d A3 n3 c3 sv r _ (HI.out.saved.below (aA HB0.out D4.out)) h3).mono ?_
      rintro e w5 ⟨rfl,b5⟩
      have D5:=Hd (aA D4.out b5)
      clear b5 hcc hff
      go_wp2_with fail
      go_ret
      exact ⟨aH (by rw [HF.out];simp),aA HB0.out D5.out⟩
   ·by_cases h2':ph=0∨ph=2
    ·rw [if_pos h2'] at HF
     have hln:sv.length=n3:=HI.out.saved.1
     have HLN:=Hd hln
     clear hln
     obtain ⟨x0,y0,x1,y1⟩:=r
     have HZ:Hid (BD ⟨x0,y0,x1,y1⟩=(decide (x0=0) && (decide (y0=0) && (decide (x1=0) && decide (y1=0))))):=rfl
     by_cases hz:x0=0/\y0=0/\x1=0/\y1=0
     ·obtain ⟨rfl,rfl,rfl,rfl⟩:=hz
      have HE:Hid (((n3:Int)==0)=decide (n3=0)):=by show _=_;rw [Bool.eq_iff_iff,beq_iff_eq,decide_eq_true_iff];omega
      rcases h2' with rfl|rfl
      ·go_wp2_with fail
       go_ret
       exact ⟨aH (by rw [HF.out,HZ.out,HLN.out,HE.out];simp),aA HB0.out D2.out⟩
      ·go_wp2_with fail
       go_ret
       exact ⟨aH (by rw [HF.out,HZ.out,HLN.out,HE.out];simp),aA HB0.out D2.out⟩
     ·have HZF:Hid (BD ⟨x0,y0,x1,y1⟩=false):=by
       rw [HZ.out]
       show _=_
       by_cases a:x0=0
       ·by_cases b:y0=0
        ·by_cases c:x1=0
         ·rw [decide_eq_false (p:=y1=0) (fun e=>hz ⟨a,b,c,e⟩)];simp
         ·rw [decide_eq_false c];simp
        ·rw [decide_eq_false b];simp
       ·rw [decide_eq_false a];simp
      rcases h2' with rfl|rfl
      ·go_wp2_with fail
       all_goals
        go_ret
        exact ⟨aH (by rw [HF.out,HZF.out];rfl),aA HB0.out D2.out⟩
      ·go_wp2_with fail
       all_goals
        go_ret
        exact ⟨aH (by rw [HF.out,HZF.out];rfl),aA HB0.out D2.out⟩
    ·rw [if_neg h2'] at HF
     have p0:(ph==0)=false:=by rw [beq_eq_false_iff_ne];omega
     have p1:(ph==1)=false:=by rw [beq_eq_false_iff_ne];omega
     have p2:(ph==2)=false:=by rw [beq_eq_false_iff_ne];omega
     have HE:Hid (decide (ph=1)=false):=by show _=_;simp [h1]
     clear h2' h1
     go_wp2_with fail
     go_ret
     exact ⟨aH (by rw [HF.out,HE.out];rfl),aA HB0.out D2.out⟩
theorem ek (b:Bd) (s:Sl3) (w:World) (hA:bV w b s) (hz1:af b.frames<=1099511627776) (h2:s.n2<=16777216) (h3:af b.saved<=1099511627776) :
  Calls Tryz.prog 49 #[.agg (aD b s)] w fun e w'=>e = .returned (.bool (bkF b))/\Below w.heap.size w w':=by
 obtain ⟨d,fs,st,ph,r,sv⟩:=b
 obtain ⟨A1,n1,c1,A2,n2,c2,A3,n3,c3⟩:=s
 have HB0:=Hd (aB (Below.refl w.heap.size w) (.cells (aD ⟨d,fs,st,ph,r,sv⟩ ⟨A1,n1,c1,A2,n2,c2,A3,n3,c3⟩) 31))
 have HI:=Hd hA
 dsimp only at hz1 h2 h3
 clear hA
 go_enter Tryz.func49,Tryz.ntmps49
 go_wp2_with fail
 refine (iK d A1 n1 c1 fs _ (HI.out.frames.below HB0.out) hz1).mono ?_
 rintro e w1 ⟨rfl,b1⟩
 have hs1:=b1.size
 simp only [World.size_alloc] at hs1
 have D1:=Hd b1
 obtain ⟨hcc,hff⟩:=aO b1
 clear b1
 cases hf:az d fs with
 | false =>
  have HF:Hid (bkF ⟨d,fs,st,ph,r,sv⟩=false):=by show _=_;unfold bkF;rw [hf];rfl
  clear hf
  go_wp2_with fail
  go_ret
  exact ⟨aH HF.out.symm,aA HB0.out D1.out⟩
 | true =>
  have HFO:=Hd hf
  clear hf
  go_wp2_with fail
  refine (vD d A2 n2 c2 st _ (HI.out.state.below (aA HB0.out D1.out)) h2).mono ?_
  rintro e w2 ⟨rfl,b2⟩
  have D2:=Hd (aA D1.out b2)
  have hs2:=b2.size
  clear b2 hcc hff
  obtain ⟨hcc,hff⟩:=aO D2.out
  cases hst:mM d st with
  | false =>
   have HF:Hid (bkF ⟨d,fs,st,ph,r,sv⟩=false):=by show _=_;unfold bkF;rw [hst];simp
   clear hst
   go_wp2_with fail
   go_ret
   exact ⟨aH HF.out.symm,aA HB0.out D2.out⟩
  | true =>
   have HF:Hid (bkF ⟨d,fs,st,ph,r,sv⟩=(if ph=0∨ph=2 then (BD r && decide (sv.length=0)) else decide (ph=1) && rqF d sv r)):=by show _=_;unfold bkF;rw [hst,HFO.out];rfl
   clear hst
   by_cases h1:ph=1
   ·subst h1
    rw [if_neg (by omega)] at HF
    go_wp2_with fail
    refine (kE d A3 n3 c3 sv r _ (HI.out.saved.below (aA HB0.out D2.out)) h3).mono ?_
    rintro e w5 ⟨rfl,b5⟩
    have D5:=Hd (aA D2.out b5)
    clear b5 hcc hff
    go_wp2_with fail
    go_ret
    exact ⟨aH (by rw [HF.out];simp),aA HB0.out D5.out⟩
   ·by_cases h2':ph=0∨ph=2
    ·rw [if_pos h2'] at HF
     have hln:sv.length=n3:=HI.out.saved.1
     have HLN:=Hd hln
     clear hln
     obtain ⟨x0,y0,x1,y1⟩:=r
     have HZ:Hid (BD ⟨x0,y0,x1,y1⟩=(decide (x0=0) && (decide (y0=0) && (decide (x1=0) && decide (y1=0))))):=rfl
     by_cases hz:x0=0/\y0=0/\x1=0/\y1=0
     ·obtain ⟨rfl,rfl,rfl,rfl⟩:=hz
      have HE:Hid (((n3:Int)==0)=decide (n3=0)):=by show _=_;rw [Bool.eq_iff_iff,beq_iff_eq,decide_eq_true_iff];omega
      rcases h2' with rfl|rfl
      ·go_wp2_with fail
       go_ret
       exact ⟨aH (by rw [HF.out,HZ.out,HLN.out,HE.out];simp),aA HB0.out D2.out⟩
      ·go_wp2_with fail
       go_ret
       exact ⟨aH (by rw [HF.out,HZ.out,HLN.out,HE.out];simp),aA HB0.out D2.out⟩
     ·have HZF:Hid (BD ⟨x0,y0,x1,y1⟩=false):=by
       rw [HZ.out]
       show _=_
       by_cases a:x0=0
       ·by_cases b:y0=0
        ·by_cases c:x1=0
         ·rw [decide_eq_false (p:=y1=0) (fun e=>hz ⟨a,b,c,e⟩)];simp
         ·rw [decide_eq_false c];simp
        ·rw [decide_eq_false b];simp
       ·rw [decide_eq_false a];simp
      rcases h2' with rfl|rfl
      ·go_wp2_with fail
       all_goals
        go_ret
        exact ⟨aH (by rw [HF.out,HZF.out];rfl),aA HB0.out D2.out⟩
      ·go_wp2_with fail
       all_goals
        go_ret
        exact ⟨aH (by rw [HF.out,HZF.out];rfl),aA HB0.out D2.out⟩
    ·rw [if_neg h2'] at HF
     have p0:(ph==0)=false:=by rw [beq_eq_false_iff_ne];omega
     have p1:(ph==1)=false:=by rw [beq_eq_false_iff_ne];omega
     have p2:(ph==2)=false:=by rw [beq_eq_false_iff_ne];omega
     have HE:Hid (decide (ph=1)=false):=by show _=_;simp [h1]
     clear h2' h1
     go_wp2_with fail
     go_ret
     exact ⟨aH (by rw [HF.out,HE.out];rfl),aA HB0.out D2.out⟩
end Go.Proofs.YtignkfhdkcgkgaaGreat
