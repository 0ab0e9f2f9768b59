/- RegionQuiet of the reference. BoardOk of the reference. -/
import Derived.Test.YtbnfdhidgdfbeaaGreatBk
import Derived.Test.YtbnfdhidgdfbeaaGreatDrvS
import Derived.Test.YtbnfdhidgdfbeaaGreatRq
namespace Go.Proofs.YtbnfdhidgdfbeaaGreat
set_option maxRecDepth 100000
open Go.RowKit

theorem sinRegion_is {d:Dev} {r:Reg} {t:Int} {b:Bool} (h:inReg d r t=b) (hd:devOk d=true) (h0:0≤t) (h1:t≤1099511627776) (w:World) :
  Calls Tryz.prog 50 #[.agg #[.int .i64 d.W,.int .i64 d.H,.int .i64 d.T,.int .i64 d.R],.agg #[.int .i64 r.X0,.int .i64 r.Y0,.int .i64 r.X1,.int .i64 r.Y1],.int .i64 t] w fun e w'=>e = .returned (.bool b)∧Below w.heap.size w w':=by
 obtain ⟨a,b',_⟩:=devOk_bd hd
 have:=sinRegion_any d r t w a b' h0 h1
 rwa [h] at this
set_option maxHeartbeats 4000000 in
theorem sregionQuiet_any (d:Dev) (A:Option Addr) (m c:Nat) (fs:List (List Int)) (r:Reg) (w:World) (hA:Rows2 w A m fs) (hz:size2 fs≤1099511627776) :
  Calls Tryz.prog 133 #[.agg #[.int .i64 d.W,.int .i64 d.H,.int .i64 d.T,.int .i64 d.R],.slice A m c,.agg #[.int .i64 r.X0,.int .i64 r.Y0,.int .i64 r.X1,.int .i64 r.Y1]] w fun e w'=>e = .returned (.bool (rqF d fs r))∧Below w.heap.size w w':=by
 have HB0:=Lib.hid (below_new (below_new (Below.refl w.heap.size w) (.cells #[.int .i64 d.W,.int .i64 d.H,.int .i64 d.T,.int .i64 d.R] 25)) (.cells #[.int .i64 r.X0,.int .i64 r.Y0,.int .i64 r.X1,.int .i64 r.Y1] 29))
 have HI:=Lib.hid hA
 have HQ0:=Lib.hid (box4 w d)
 clear hA
 go_enter Tryz.func133,Tryz.ntmps133
 go_wp2_with fail
 refine (sframesOk_any d A m c fs _ (HI.out.below HB0.out) hz).mono ?_
 rintro e w1 ⟨rfl,b1⟩
 have hs1:=b1.size
 simp only [World.size_alloc] at hs1
 have D1:=Lib.hid b1
 obtain ⟨hcc,hff⟩:=bcell b1
 clear b1
 cases hf:framesOk d fs with
 | false =>
  have HF:Hid (rqF d fs r=false):=by show _=_;unfold rqF;rw [hf];rfl
  clear hf
  go_wp2_with fail
  go_ret
  exact ⟨ret_bool HF.out.symm,below_tr HB0.out D1.out⟩
 | true =>
  have HFO:=Lib.hid hf
  have hdv:=(framesOk_iff hf).1
  have HD:=Lib.hid hdv
  have hnb:=nodesOf_bd hdv
  have hWH:=dev_WH hdv
  have hp:=perT_bd hdv
  have hT:=devOk_bd hdv
  have HCF:=Lib.hid (cfg_of_frames hf)
  clear hf
  go_wp2_with fail
  refine (sregionOk_any d r _).mono ?_
  rintro e w2 ⟨rfl,b2⟩
  have D2:=Lib.hid (below_tr D1.out b2)
  have hs2:=b2.size
  clear b2 hcc hff
  obtain ⟨hcc,hff⟩:=bcell D2.out
  cases hr:regOk d r with
  | false =>
   have HF:Hid (rqF d fs r=false):=by show _=_;unfold rqF;rw [hr];simp
   clear hr hdv hcc hff
   go_wp2_with fail
   go_ret
   exact ⟨ret_bool HF.out.symm,below_tr HB0.out D2.out⟩
  | true =>
   have HR:=Lib.hid hr
   clear hr hdv
   have hww:w.heap.size<w2.heap.size:=by omega
   have HQ2:=Lib.hid (keep4 D2.out (by simp;omega) (keep4 (below_new (Below.refl _ _) (.cells #[.int .i64 r.X0,.int .i64 r.Y0,.int .i64 r.X1,.int .i64 r.Y1] 29)) (by simp) HQ0.out))
   have hD:=Below.refl w2.heap.size w2
   clear hcc hff
   go_wp2_with fail
   go_region_held3 (fun w'=>w'.cell? ⟨w.heap.size,0,none⟩=some (.int .i64 d.W)∧w'.cell? ⟨w.heap.size,1,none⟩=some (.int .i64 d.H)∧w'.cell? ⟨w.heap.size,2,none⟩=some (.int .i64 d.T)∧w'.cell? ⟨w.heap.size,3,none⟩=some (.int .i64 d.R))
    (first|with_reducible exact keep4 hD hww HQ2.out|with_reducible exact keep4 hD.drew hww HQ2.out)
    (first
     | (go_at_call 59;(with_reducible refine (sreadFrames_any d A m c fs _ (HI.out.below (below_tr HB0.out (below_tr D2.out hD.drew))) hz).mono ?_);rintro e w3 ⟨A3,m3,c3,rfl,o3,b3⟩;have R3:=Lib.hid o3.rd;have hD2:=below_tr hD.drew b3;clear b3 o3;replace hD:=hD2)
     | (go_at_call 156;(with_reducible refine (l41Drivers_any d A3 m3 c3 (tilesOf d fs) _ (by have h:=R3.out;rw [readF,HFO.out,if_pos rfl] at h;exact h) HCF.out).mono ?_);rintro e w4 ⟨A4,c4,rfl,o4,b4⟩;have O4:=Lib.hid o4.ints;have hD2:=below_tr hD b4;clear b4 o4;replace hD:=hD2))
   have D4:=Lib.hid (below_tr D2.out hD)
   have hs4:=hD.size
   clear hD
   obtain ⟨hcc,hff⟩:=bcell D4.out
   go_wp2_with fail
   refine (l27Per_any d _ (by omega) (by omega)).mono ?_
   rintro e w5 ⟨rfl,b5⟩
   have D5:=Lib.hid (below_tr D4.out b5)
   have hs5:=b5.size
   have O5:=Lib.hid (O4.out.below b5)
   clear b5 hcc hff
   obtain ⟨N,hN⟩:∃N:Nat,nodesOf d=(N:Int):=⟨(nodesOf d).toNat,by omega⟩
   have hNN:(nodesOf d).toNat=N:=by omega
   have HN:=Lib.hid hN
   have HBAD:=Lib.hid (fun k hk h=>rq_bad (d:=d) (fs:=fs) (r:=r) (k:=k) hk h)
   have HGOOD:=Lib.hid (fun h=>rq_good (d:=d) (fs:=fs) (r:=r) HFO.out HR.out h)
   rw [hN] at hnb
   generalize (nodesOf d).toNat=NN at *
   subst hNN
   clear hN
   have hpe0:¬perT d=0:=by omega
   go_wp2_with fail
   go_loopw [9] (fun i wr=>∃k:Nat,k≤NN∧i = .int .i64 k∧Below w5.heap.size w5 wr∧∀j,j<k→rqOk d (tilesOf d fs) r ((j:Nat):Int)=true) (fun i _=>NN - (intOf i).toNat)
   case atStart=>exact ⟨0,by omega,rfl,Below.refl _ _,by intro j hj;omega⟩
   case round =>
    obtain ⟨k,hk,rfl,hb,hall⟩:=hrel
    have HALL:=Lib.hid hall
    have HB:=Lib.hid hb
    have hs:=hb.size
    clear hall
    by_cases hlt:k<NN
    ·have hdk:decide ((k:Int)<(NN:Int))=true:=by simp;omega
     have hni:nodeIn d (k:Int)=true:=nodeIn_rnP.2 ⟨HD.out,by omega,by rw [HN.out];omega⟩
     obtain ⟨_,n0,n1,hq0,hq1,hr0,hr1⟩:=node_tk hni
     obtain ⟨b,o,rfl,hbl,hc⟩:=O5.out.2 (by omega)
     have hck:=hc k hlt
     rw [drvTo_get hlt,←hb.cell (p:=⟨b,o+k,none⟩) hbl] at hck
     have hbr:b<wr.heap.size:=by omega
     have HROK:Hid (rqOk d (tilesOf d fs) r (k:Int)=(decide (drvOf d (tilesOf d fs) (k:Int)<0) || (inReg d r ((k:Int) / perT d) || !inReg d r (drvOf d (tilesOf d fs) (k:Int) / perT d)))):=rfl
     have HDN:=Lib.hid (fun h=>(drv_node (n:=(k:Int)) HCF.out h).1)
     have HBD:=Lib.hid (HBAD.out k hlt)
     have HALS:=Lib.hid (fun h=>all_succ HALL.out h)
     have i0:(0:Int)≤(k:Int):=by omega
     have i1:(k:Int)<(NN:Int):=by omega
     have e2:IntKind.i64.wrap (((k:Int)).tdiv (perT d))=(k:Int) / perT d:=IntWalk.i64_quo _ _ ⟨n0,by omega,by omega⟩
     generalize drvOf d (tilesOf d fs) (k:Int)=s at *
     clear hni hc hb
     obtain ⟨hcc,hff⟩:=bcell (below_tr D5.out HB.out)
     have hwr:w.heap.size+1<wr.heap.size:=by omega
     have hwr0:w.heap.size<wr.heap.size:=by omega
     by_cases hs0:s<0
     ·have hds:decide (s≥0)=false:=by simp;omega
      have HE:Hid (rqOk d (tilesOf d fs) r (k:Int)=true):=by show _=_;rw [HROK.out,decide_eq_true hs0];rfl
      have HC:=HE
      have HC2:=HE
      go_wp2_with fail
      have hsub:=sub_ne wr
      have hsc:=sub_cell wr
      refine wp_region_below wr (by kernel_rfl) (by kernel_rfl) (Below.refl _ _) ?_
      repeat (go_big_quiet_step ((go_at_call 50;(first|with_reducible exact calls_sub (HC.out _)|with_reducible exact calls_sub (HC2.out _)))))
      refine wpQuiet_nil ?_
      rintro _ ⟨⟨w4,hD⟩,rfl⟩
      clear hsub hsc hcc hff
      have HB4:=Lib.hid (below_tr HB.out hD)
      clear hD
      go_wp2_with fail
      go_roundw
      case rel=>exact ⟨k+1,by omega,by go_num,HB4.out,HALS.out HE.out⟩
      case measure=>simp [intOf];omega
     ·have hds:decide (s≥0)=true:=by simp;omega
      have hsi:=HDN.out (by omega)
      obtain ⟨_,s0,s1,hqs0,hqs1,_⟩:=node_tk hsi
      rw [decide_eq_false hs0] at HROK
      have e3:IntKind.i64.wrap (s.tdiv (perT d))=s / perT d:=IntWalk.i64_quo _ _ ⟨s0,by omega,by omega⟩
      clear hsi
      have e2w:wrap64 ((k:Int) / perT d)=(k:Int) / perT d:=IntWalk.wrap64_in _ (by omega)
      have e3w:wrap64 (s / perT d)=s / perT d:=IntWalk.wrap64_in _ (by omega)
      cases h1:inReg d r ((k:Int) / perT d) with
      | true =>
       have HC:=Lib.hid (fun w=>sinRegion_is h1 HD.out hq0 (by omega) w)
       have HE:Hid (rqOk d (tilesOf d fs) r (k:Int)=true):=by show _=_;rw [HROK.out,h1];rfl
       have HC2:=HE
       clear h1
       go_wp2_with fail
       have hsub:=sub_ne wr
       have hsc:=sub_cell wr
       refine wp_region_below wr (by kernel_rfl) (by kernel_rfl) (Below.refl _ _) ?_
       repeat (go_big_quiet_step ((go_at_call 50;(first|with_reducible exact calls_sub (HC.out _)|with_reducible exact calls_sub (HC2.out _)))))
       refine wpQuiet_nil ?_
       rintro _ ⟨⟨w4,hD⟩,rfl⟩
       clear hsub hsc hcc hff
       have HB4:=Lib.hid (below_tr HB.out hD)
       clear hD
       go_wp2_with fail
       go_roundw
       case rel=>exact ⟨k+1,by omega,by go_num,HB4.out,HALS.out HE.out⟩
       case measure=>simp [intOf];omega
      | false =>
       have HC:=Lib.hid (fun w=>sinRegion_is h1 HD.out hq0 (by omega) w)
       rw [h1] at HROK
       clear h1
       cases h2:inReg d r (s / perT d) with
       | true =>
        have HC2:=Lib.hid (fun w=>sinRegion_is h2 HD.out hqs0 (by omega) w)
        have HE:=Lib.hid (HBD.out (by rw [HROK.out,h2];rfl))
        clear h2
        go_wp2_with fail
        have hsub:=sub_ne wr
        have hsc:=sub_cell wr
        refine wp_region_below wr (by kernel_rfl) (by kernel_rfl) (Below.refl _ _) ?_
        repeat (go_big_quiet_step ((go_at_call 50;(first|with_reducible exact calls_sub (HC.out _)|with_reducible exact calls_sub (HC2.out _)))))
        refine wpQuiet_nil ?_
        rintro _ ⟨⟨w4,hD⟩,rfl⟩
        clear hsub hsc hcc hff
        have HB4:=Lib.hid (below_tr HB.out hD)
        clear hD
        go_wp2_with fail
        go_ret
        exact ⟨ret_bool HE.out.symm,below_tr HB0.out (below_tr D5.out HB4.out)⟩
       | false =>
        have HC2:=Lib.hid (fun w=>sinRegion_is h2 HD.out hqs0 (by omega) w)
        have HE:Hid (rqOk d (tilesOf d fs) r (k:Int)=true):=by show _=_;rw [HROK.out,h2];rfl
        clear h2
        go_wp2_with fail
        have hsub:=sub_ne wr
        have hsc:=sub_cell wr
        refine wp_region_below wr (by kernel_rfl) (by kernel_rfl) (Below.refl _ _) ?_
        repeat (go_big_quiet_step ((go_at_call 50;(first|with_reducible exact calls_sub (HC.out _)|with_reducible exact calls_sub (HC2.out _)))))
        refine wpQuiet_nil ?_
        rintro _ ⟨⟨w4,hD⟩,rfl⟩
        clear hsub hsc hcc hff
        have HB4:=Lib.hid (below_tr HB.out hD)
        clear hD
        go_wp2_with fail
        go_roundw
        case rel=>exact ⟨k+1,by omega,by go_num,HB4.out,HALS.out HE.out⟩
        case measure=>simp [intOf];omega
    ·have hkN:k=NN:=by omega
     have HKN:=Lib.hid hkN
     have hdk:decide ((k:Int)<(NN:Int))=false:=by simp;omega
     clear hkN
     go_wp2_with fail
     go_ret
     exact ⟨ret_bool (HGOOD.out (by rw [←HKN.out];exact HALL.out)).symm,below_tr HB0.out (below_tr D5.out HB.out)⟩
end Go.Proofs.YtbnfdhidgdfbeaaGreat

namespace Go.Proofs.YtbnfdhidgdfbeaaGreat
set_option maxRecDepth 100000
open Go.RowKit

set_option maxHeartbeats 1000000 in
theorem sboardOk_any (b:Bd) (s:Sl3) (w:World) (hA:BoardRd w b s) (hz1:size2 b.frames≤1099511627776) (h2:s.n2≤16777216) (h3:size2 b.saved≤1099511627776) :
  Calls Tryz.prog 56 #[.agg (bdArr b s)] w fun e w'=>e = .returned (.bool (bkF b))∧Below w.heap.size w w':=by
 obtain ⟨d,fs,st,ph,r,sv⟩:=b
 obtain ⟨A1,n1,c1,A2,n2,c2,A3,n3,c3⟩:=s
 have HB0:=Lib.hid (below_new (Below.refl w.heap.size w) (.cells (bdArr ⟨d,fs,st,ph,r,sv⟩ ⟨A1,n1,c1,A2,n2,c2,A3,n3,c3⟩) 31))
 have HI:=Lib.hid hA
 dsimp only at hz1 h2 h3
 clear hA
 go_enter Tryz.func56,Tryz.ntmps56
 go_wp2_with fail
 refine (sframesOk_any d A1 n1 c1 fs _ (HI.out.frames.below HB0.out) hz1).mono ?_
 rintro e w1 ⟨rfl,b1⟩
 have hs1:=b1.size
 simp only [World.size_alloc] at hs1
 have D1:=Lib.hid b1
 obtain ⟨hcc,hff⟩:=bcell b1
 clear b1
 cases hf:framesOk d fs with
 | false =>
  have HF:Hid (bkF ⟨d,fs,st,ph,r,sv⟩=false):=by show _=_;unfold bkF;rw [hf];rfl
  clear hf
  go_wp2_with fail
  go_ret
  exact ⟨ret_bool HF.out.symm,below_tr HB0.out D1.out⟩
 | true =>
  have HFO:=Lib.hid hf
  clear hf
  go_wp2_with fail
  refine (semuStateOk_any d A2 n2 c2 st _ (HI.out.state.below (below_tr HB0.out D1.out)) h2).mono ?_
  rintro e w2 ⟨rfl,b2⟩
  have D2:=Lib.hid (below_tr D1.out b2)
  have hs2:=b2.size
  clear b2 hcc hff
  obtain ⟨hcc,hff⟩:=bcell D2.out
  cases hst:stOk d st with
  | false =>
   have HF:Hid (bkF ⟨d,fs,st,ph,r,sv⟩=false):=by show _=_;unfold bkF;rw [hst];simp
   clear hst
   go_wp2_with fail
   go_ret
   exact ⟨ret_bool HF.out.symm,below_tr HB0.out D2.out⟩
  | true =>
   have HF:Hid (bkF ⟨d,fs,st,ph,r,sv⟩=(if ph=0∨ph=2 then (regZ r && decide (sv.length=0)) else decide (ph=1) && rqF d sv r)):=by show _=_;unfold bkF;rw [hst,HFO.out];rfl
   clear hst
   by_cases h1:ph=1
   ·subst h1
    rw [if_neg (by omega)] at HF
    go_wp2_with fail
    refine (sregionQuiet_any d A3 n3 c3 sv r _ (HI.out.saved.below (below_tr HB0.out D2.out)) h3).mono ?_
    rintro e w5 ⟨rfl,b5⟩
    have D5:=Lib.hid (below_tr D2.out b5)
    clear b5 hcc hff
    go_wp2_with fail
    go_ret
    exact ⟨ret_bool (by rw [HF.out];simp),below_tr HB0.out D5.out⟩
   ·by_cases h2':ph=0∨ph=2
    ·rw [if_pos h2'] at HF
     have hln:sv.length=n3:=HI.out.saved.1
     have HLN:=Lib.hid hln
     clear hln
     obtain ⟨x0,y0,x1,y1⟩:=r
     have HZ:Hid (regZ ⟨x0,y0,x1,y1⟩=(decide (x0=0) && (decide (y0=0) && (decide (x1=0) && decide (y1=0))))):=rfl
     by_cases hz:x0=0∧y0=0∧x1=0∧y1=0
     ·obtain ⟨rfl,rfl,rfl,rfl⟩:=hz
      have HE:Hid (((n3:Int)==0)=decide (n3=0)):=by show _=_;rw [Bool.eq_iff_iff,beq_iff_eq,decide_eq_true_iff];omega
      rcases h2' with rfl|rfl
      ·go_wp2_with fail
       go_ret
       exact ⟨ret_bool (by rw [HF.out,HZ.out,HLN.out,HE.out];simp),below_tr HB0.out D2.out⟩
      ·go_wp2_with fail
       go_ret
       exact ⟨ret_bool (by rw [HF.out,HZ.out,HLN.out,HE.out];simp),below_tr HB0.out D2.out⟩
     ·have HZF:Hid (regZ ⟨x0,y0,x1,y1⟩=false):=by
       rw [HZ.out]
       show _=_
       by_cases a:x0=0
       ·by_cases b:y0=0
        ·by_cases c:x1=0
         ·rw [decide_eq_false (p:=y1=0) (fun e=>hz ⟨a,b,c,e⟩)];simp
         ·rw [decide_eq_false c];simp
        ·rw [decide_eq_false b];simp
       ·rw [decide_eq_false a];simp
      rcases h2' with rfl|rfl
      ·go_wp2_with fail
       all_goals
        go_ret
        exact ⟨ret_bool (by rw [HF.out,HZF.out];rfl),below_tr HB0.out D2.out⟩
      ·go_wp2_with fail
       all_goals
        go_ret
        exact ⟨ret_bool (by rw [HF.out,HZF.out];rfl),below_tr HB0.out D2.out⟩
    ·rw [if_neg h2'] at HF
     have p0:(ph==0)=false:=by rw [beq_eq_false_iff_ne];omega
     have p1:(ph==1)=false:=by rw [beq_eq_false_iff_ne];omega
     have p2:(ph==2)=false:=by rw [beq_eq_false_iff_ne];omega
     have HE:Hid (decide (ph=1)=false):=by show _=_;simp [h1]
     clear h2' h1
     go_wp2_with fail
     go_ret
     exact ⟨ret_bool (by rw [HF.out,HE.out];rfl),below_tr HB0.out D2.out⟩
end Go.Proofs.YtbnfdhidgdfbeaaGreat
