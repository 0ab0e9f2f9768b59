/- Routes of a layout in the program: RoutesOk (printed by mkros.py). -/
import Derived.Lib.SliceRun
import Derived.Test.YtofihjoanjkdmaaGreatLayG5
namespace Go.Proofs.YtofihjoanjkdmaaGreat
set_option maxHeartbeats 8000000
set_option maxRecDepth 100000
open Go.RowKit
theorem yY (d:Dev) (place:List Int) (p:bQ):j4 (bV d place p):=by
 have h:-1<=bV d place p/\bV d place p<=1048576:=by
  unfold bV
  split
  ·unfold lL
   split
   ·rename_i h1 h2
    obtain ⟨hd,ht0,ht1⟩:=aW.1 h2.1
    have hWH:=eG hd
    have hT:=bC hd
    have hp:=dw hd
    have hop:=mD d (place[p.block.toNat]?.getD 0)
    have HM:=iM ht0 (show place[p.block.toNat]?.getD 0<=35 by omega) (show 0<=aX d by omega) hp.2
    omega
   ·omega
  ·omega
 unfold j4
 omega
theorem wX {rs:List Rou}:∀k:Nat,k<=rs.length→(∀j,j<k→(rs[j]?.getD Rou.zero).nodes.length<=828)→((rs.take k).flatMap Rou.nodes).length<=828 * k
 | 0,_,_=>by simp
 | k+1,hk,h=>by
  rw [bJ (z:=Rou.zero) (by omega:k<rs.length),List.flatMap_append,List.flatMap_singleton,List.length_append]
  have h1:=wX k (by omega) (fun j hj=>h j (by omega))
  have h2:=h k (by omega)
  omega
theorem oK (d:Dev) (place:List Int) (cs:List Cn) (rs:List Rou) (PA CA RA:Option Addr) (pn pc cn cc rn rc:Nat) (w:World) (hp:dA w PA pn place) (hC:RdC w w.heap.size (bD cs) (.slice CA cn cc)) (hR:RdC w w.heap.size (bR rs) (.slice RA rn rc)) (hpn:pn<=1048576) (hbc:∀c∈cs,c.sinks.length<=1048576) (hbr:∀r∈rs,r.nodes.length<=1048576/\r.from_.length<=1048576) :
  Calls Tryz.prog 50 #[.agg #[.int .i64 d.W,.int .i64 d.H,.int .i64 d.T,.int .i64 d.R],.slice PA pn pc,.slice CA cn cc,.slice RA rn rc] w fun e w'=>e = .returned (.bool (tb (eD d place cs rs)))/\Below w.heap.size w w':=by
 have HP:=Hd hp
 have HC:=Hd hC
 have HCL:=Hd hC.cnN
 have HRR:=Hd hR
 have hrl:=hR.rouN
 have HBC:=Hd hbc
 have HBR':=Hd hbr
 clear hp hC hR hbc hbr
 have hpl:(place.length:Int)=(pn:Int):=by rw [HP.out.1]
 have HB0:=Hd (aF (Below.refl w.heap.size w) (.cells #[.int .i64 d.W,.int .i64 d.H,.int .i64 d.T,.int .i64 d.R] 36))
 have HXB:=Hd (aK w (.cells #[.int .i64 d.W,.int .i64 d.H,.int .i64 d.T,.int .i64 d.R] 36))
 have hx:=HXB.out
 have x0:=aA (k:=0) hx rfl
 have x1:=aA (k:=1) hx rfl
 have x2:=aA (k:=2) hx rfl
 have x3:=aA (k:=3) hx rfl
 have lx:=aC hx
 clear hx
 by_cases hcf:gY (place.length:Int) cs
 ·have HCF:=Hd hcf
  rw [hpl] at hcf
  by_cases h1:rn=cn
  ·subst h1
   obtain ⟨cn,rfl⟩:∃x,x=rn:=⟨rn,rfl⟩
   have HRL:=Hd hrl
   have hc100:cn<=100:=by rw [←HCL.out];exact hcf.len
   have d1:((cn:Int) != (cn:Int))=false:=by simp
   clear hrl
   go_enter Tryz.func50,Tryz.ntmps50
   go_upto_region 1 with fail
   generalize w.alloc (.cells #[.int .i64 d.W,.int .i64 d.H,.int .i64 d.T,.int .i64 d.R] 36)=W9 at *
   clear x0 x1 x2 x3 lx
   go_wp2_with fail
   refine (mh (pn:Int) cs CA cn cc _ (HC.out.below HB0.out) HBC.out).mono ?_
   rw [aa hcf]
   rintro _ wq ⟨rfl,hD⟩
   have HX5:=Hd (aD hD HXB.out)
   have HD:=Hd (aB HB0.out hD)
   clear hD
   have hmm:∀(t:TypeId) (w:World),(Instr.makeMap t none).run Tryz.prog w = .ok (.map (some w.heap.size)) (w.alloc (.map #[] 0)):=fun t w=>run_makeMap t w
   have HS0:=Hd ((aM.refl wq).pushSet)
   go_wp2_with fail
   clear hmm
   obtain ⟨W0,rfl⟩:∃x,x=wq:=⟨wq,rfl⟩
   go_loopw [30] (fun i wr=>∃k:Nat,k<=cn/\i = .int .i64 (k:Int)/\aM W0 wr [oL W0.heap.size ((rs.take k).flatMap Rou.nodes)]/\(∀j,j<k→fK d place (cs[j]?.getD Cn.zero)/\bU d (eP d place (cs[j]?.getD Cn.zero)) (bZ d place (cs[j]?.getD Cn.zero)) (rs[j]?.getD Rou.zero))/\((rs.take k).flatMap Rou.nodes).Nodup) (fun i _=>cn - (intOf i).toNat)
   case atStart=>exact ⟨0,by omega,rfl,HS0.out,fun j hj=>by omega,by simp⟩
   case round =>
    obtain ⟨k,hk,rfl,hs,hall,hnd⟩:=hrel
    have HS:=Hd hs
    have HALL:=Hd hall
    have HND:=Hd hnd
    have HBW:=Hd (aB HD.out hs.bel)
    have HXR:=Hd (aD hs.bel HX5.out)
    clear hs hall hnd
    by_cases hlt:k<cn
    ·have hdk:decide ((k:Int)<(cn:Int))=true:=by simp;omega
     have hkl:k<cs.length:=by rw [HCL.out];exact hlt
     have hkr:k<rs.length:=by rw [HRL.out];exact hlt
     obtain ⟨bc,oc,SA,m,mc,hCA,hbc,c0,c1,c2,c3,rsn⟩:=HC.out.cn (k:=k) hkl
     obtain ⟨br,ob,NA,nn,nc,FA,fn,fc,hRA,hbr,e0,e1,rns,rfs⟩:=HRR.out.rou (k:=k) hkr
     have HCA:=Hd hCA
     have HRA:=Hd hRA
     have lbc:=aL HBW.out hbc
     rw [←HBW.out.cell (p:=⟨bc,oc+k * 4,none⟩) hbc] at c0
     rw [←HBW.out.cell (p:=⟨bc,oc+k * 4+1,none⟩) hbc] at c1
     rw [←HBW.out.cell (p:=⟨bc,oc+k * 4+2,none⟩) hbc] at c2
     rw [←HBW.out.cell (p:=⟨bc,oc+k * 4+3,none⟩) hbc] at c3
     have HR0:Hid (∀v,Below w.heap.size w v→v.cell? ⟨br,ob+k * 2,none⟩=some (.slice NA nn nc)):=fun v hv=>(hv.cell (p:=⟨br,ob+k * 2,none⟩) hbr).trans e0
     have HR1:Hid (∀v,Below w.heap.size w v→v.cell? ⟨br,ob+k * 2+1,none⟩=some (.slice FA fn fc)):=fun v hv=>(hv.cell (p:=⟨br,ob+k * 2+1,none⟩) hbr).trans e1
     have hcf:lw (place.length:Int) (cs[k]?.getD Cn.zero):=by rw [List.getElem?_eq_getElem hkl];exact HCF.out.fit _ (List.getElem_mem hkl)
     have hg:fK d place (cs[k]?.getD Cn.zero)/\bU d (eP d place (cs[k]?.getD Cn.zero)) (bZ d place (cs[k]?.getD Cn.zero)) (rs[k]?.getD Rou.zero)→∀j,j<k+1→fK d place (cs[j]?.getD Cn.zero)/\bU d (eP d place (cs[j]?.getD Cn.zero)) (bZ d place (cs[j]?.getD Cn.zero)) (rs[j]?.getD Rou.zero):=fun h=>bS HALL.out h
     have hno:eD d place cs rs→fK d place (cs[k]?.getD Cn.zero)/\bU d (eP d place (cs[k]?.getD Cn.zero)) (bZ d place (cs[k]?.getD Cn.zero)) (rs[k]?.getD Rou.zero):=fun h=>h.fit k hkl
     have hbs:=HBC.out _ (List.getElem_mem hkl)
     rw [show cs[k]=cs[k]?.getD Cn.zero by rw [List.getElem?_eq_getElem hkl];rfl] at hbs
     have hbrs:=HBR'.out _ (List.getElem_mem hkr)
     rw [show rs[k]=rs[k]?.getD Rou.zero by rw [List.getElem?_eq_getElem hkr];rfl] at hbrs
     have htk:(rs.take (k+1)).flatMap Rou.nodes=(rs.take k).flatMap Rou.nodes++(rs[k]?.getD Rou.zero).nodes:=by
      rw [bJ (z:=Rou.zero) hkr,List.flatMap_append,List.flatMap_singleton]
     have hon:eD d place cs rs→((rs.take k).flatMap Rou.nodes++(rs[k]?.getD Rou.zero).nodes).Nodup:=fun h=>by
      have h1:=h.once
      rw [←List.take_append_drop (k+1) rs,List.flatMap_append,htk] at h1
      exact (List.nodup_append.1 h1).1
     have HLK:Hid (((rs.take k).flatMap Rou.nodes).length<=828 * k):=wX k (by omega) (fun j hj=>(HALL.out j hj).2.bd)
     have HG:=Hd hg
     have HNO:=Hd hno
     have HTK:=Hd htk
     have HON:=Hd hon
     clear hkl hkr hg hno hCA hRA htk hon e0 e1
     obtain rfl:=HCA.out
     obtain rfl:=HRA.out
     generalize cs[k]?.getD Cn.zero=cx at *
     generalize rs[k]?.getD Rou.zero=rx at *
     obtain ⟨N,⟨a,b⟩,ss⟩:=cx
     obtain ⟨ns,fs⟩:=rx
     simp only at c0 c1 c2 c3 hbs hbrs HTK HON rns rfs
     have HSS:=Hd (show RdC w w.heap.size (bM ss) (.slice SA m mc) from rsn)
     have HSL:Hid (ss.length=m):=HSS.out.pinN
     have hm:m<=1048576:=by rw [←HSL.out];exact hbs
     have hm1:1<=m:=by have h1:=hcf.len.1;rw [show (⟨N,⟨a,b⟩,ss⟩:Cn).sinks=ss from rfl,HSL.out] at h1;exact h1
     have HN:=Hd (rns.ints)
     have HF:=Hd (rfs.ints)
     have hnn:nn<=1048576:=by rw [←HN.out.1];exact hbrs.1
     have hfn:fn<=1048576:=by rw [←HF.out.1];exact hbrs.2
     have i0:(0:Int)<=(k:Int):=by omega
     have i1:(k:Int)<(cn:Int):=by omega
     have HYB:=Hd (aK wr (.cells #[.int .i64 N,.int .i64 a,.int .i64 b,.slice SA m mc] 158))
     have HXA:=Hd (bg (.cells #[.int .i64 N,.int .i64 a,.int .i64 b,.slice SA m mc] 158) HXR.out)
     have HSA:=Hd (HS.out.alloc (.cells #[.int .i64 N,.int .i64 a,.int .i64 b,.slice SA m mc] 158))
     clear rsn rns rfs hbs hbrs hcf
     go_upto_region 7 with fail
     clear c0 c1 c2 c3 lbc
     generalize wr.alloc (.cells #[.int .i64 N,.int .i64 a,.int .i64 b,.slice SA m mc] 158)=W6 at *
     have hx:=HXA.out
     have x0:=aA (k:=0) hx rfl
     have x1:=aA (k:=1) hx rfl
     have x2:=aA (k:=2) hx rfl
     have x3:=aA (k:=3) hx rfl
     have lx:=aC hx
     clear hx
     have hy:=HYB.out
     have y0:=aA (k:=0) hy rfl
     have y1:=aA (k:=1) hy rfl
     have y2:=aA (k:=2) hy rfl
     have y3:=aA (k:=3) hy rfl
     have ly:=aC hy
     clear hy
     have HB6:=Hd (aB HD.out HSA.out.bel)
     go_wp2_with fail
     refine (qi d place N a b ss PA SA pn pc m mc _ (HP.out.below HB6.out) (HSS.out.below HB6.out) hpn hm).mono ?_
     rintro e w7 ⟨hcase,b7⟩
     have HS7:=Hd (HSA.out.below b7)
     have HX7:=Hd (aD b7 HXA.out)
     have HY7:=Hd (aD b7 HYB.out)
     clear x0 x1 x2 x3 lx y0 y1 y2 y3 ly
     rcases hcase with ⟨hsi,A,c,rfl,o7⟩|⟨hsi,rfl⟩
     ·have O7:=Hd o7
      have HSI:=Hd hsi
      clear o7 hsi b7
      have HB7:=Hd (aB HD.out HS7.out.bel)
      have d0:=HR0.out _ HB7.out
      have d1:=HR1.out _ HB7.out
      have lbr:=aL HB7.out hbr
      have hx:=HX7.out
      have x0:=aA (k:=0) hx rfl
      have x1:=aA (k:=1) hx rfl
      have x2:=aA (k:=2) hx rfl
      have x3:=aA (k:=3) hx rfl
      have lx:=aC hx
      clear hx
      have hy:=HY7.out
      have y0:=aA (k:=0) hy rfl
      have y1:=aA (k:=1) hy rfl
      have y2:=aA (k:=2) hy rfl
      have y3:=aA (k:=3) hy rfl
      have ly:=aC hy
      clear hy
      have HRF:Hid (eD d place cs rs→bU d (eP d place ⟨N,⟨a,b⟩,ss⟩) (bZ d place ⟨N,⟨a,b⟩,ss⟩) ⟨ns,fs⟩):=fun h=>(HNO.out h).2
      have hA:A≠none:=by
       intro h
       have h2:=O7.out.ints.2 (by omega)
       rw [h] at h2
       obtain ⟨_,_,h3,_⟩:=h2
       cases h3
      have hAn:A.isNone=false:=by cases A with|none=>exact absurd rfl hA|some _=>rfl
      have hnil:=fun W=>Lib.run_eql_slice_nil W 26 3 A m c 0 0 Tryz.underlying26
      rw [hAn] at hnil
      clear hA hAn
      have hHS:=(fun (x:Sub w7)=>pz d place N a b ss PA SA pn pc m mc x.v (HP.out.below (aB HB7.out x.h)) hpn)
      have HSO:=Hd hHS
      clear hHS
      have H64:Hid (∀s∈bZ d place ⟨N,⟨a,b⟩,ss⟩,j4 s):=fun s hs=>by
       unfold bZ at hs
       obtain ⟨p,_,rfl⟩:=List.mem_map.1 hs
       exact yY d place p
      have hHR:=(fun (x:Sub w7)=>uy d (eP d place ⟨N,⟨a,b⟩,ss⟩) (bZ d place ⟨N,⟨a,b⟩,ss⟩) ⟨ns,fs⟩ A NA FA m c nn nc fn fc x.v (O7.out.ints.below x.h) (HN.out.below (aB HB7.out x.h)) (HF.out.below (aB HB7.out x.h)) hm hnn hfn H64.out)
      by_cases hf:bU d (eP d place ⟨N,⟨a,b⟩,ss⟩) (bZ d place ⟨N,⟨a,b⟩,ss⟩) ⟨ns,fs⟩
      ·rw [aa hf] at hHR
       have HRO:=Hd hHR
       have HG2:=Hd (HG.out ⟨HSI.out,hf⟩)
       have HN64:Hid (∀s∈ns,j4 s):=fun s hs=>yf (hf.node s hs)
       have hn828:nn<=828:=by have h1:=hf.bd;rw [show (⟨ns,fs⟩:Rou).nodes=ns from rfl,HN.out.1] at h1;exact h1
       clear hHR HG HNO HRF hf
       go_upto_region 8 with fail
       have hsub:=aZ w7
       have hsc:=aR w7
       refine aI w7 (by kernel_rfl) (by kernel_rfl) (Below.refl _ _) ?_
       repeat (go_big_quiet_step ((first
        | (go_at_call 133;with_reducible exact aO (HSO.out _))
        | (go_at_call 132;with_reducible exact aO (HRO.out _)))))
       refine wpQuiet_nil ?_
       rintro wq ⟨⟨w5,hD⟩,hw⟩
       replace hw:wq=w5:=hw
       subst hw
       clear hsub hsc
       have HS8:=Hd (HS7.out.below hD)
       clear hD
       clear hnil d0 d1 lbr
       clear x0 x1 x2 x3 lx y0 y1 y2 y3 ly
       have HBR:=Hd (aB HD.out HS8.out.bel)
       have d0:=HR0.out _ HBR.out
       have lbr:=aL HBR.out hbr
       go_upto_region 11 with fail
       clear d0 lbr
       go_loopw [61] (fun i wr=>∃q:Nat,q<=nn/\i = .int .i64 (q:Int)/\aM W0 wr [oL W0.heap.size ((rs.take k).flatMap Rou.nodes++ns.take q)]/\((rs.take k).flatMap Rou.nodes++ns.take q).Nodup) (fun i _=>nn - (intOf i).toNat)
       case atStart=>exact ⟨0,by omega,rfl,by rw [List.take_zero,List.append_nil];exact HS8.out,by rw [List.take_zero,List.append_nil];exact HND.out⟩
       case round =>
        obtain ⟨q,hq,rfl,hs,hnd⟩:=hrel
        have HS:=Hd hs
        have HNQ:=Hd hnd
        have HBW:=Hd (aB HD.out hs.bel)
        clear hs hnd
        by_cases hltq:q<nn
        ·have hdq:decide ((q:Int)<(nn:Int))=true:=by simp;omega
         have hql:q<ns.length:=by rw [HN.out.1];exact hltq
         obtain ⟨bn,obn,hNA,hbn,hcn⟩:=HN.out.2 (by omega)
         have HNA:=Hd hNA
         have cq:=(HBW.out.cell (p:=⟨bn,obn+q,none⟩) hbn).trans (hcn q hltq)
         have lbn:=aL HBW.out hbn
         have h64:=HN64.out _ (List.getElem_mem hql)
         rw [show ns[q]=ns[q]?.getD 0 by rw [List.getElem?_eq_getElem hql];rfl] at h64
         have HSN:=Hd (bJ (z:=0) hql)
         clear hcn hql hNA
         obtain rfl:=HNA.out
         generalize ns[q]?.getD 0=n at *
         have hlk:=HS.out.look 0 rfl h64
         have i0:(0:Int)<=(q:Int):=by omega
         have i1:(q:Int)<(nn:Int):=by omega
         by_cases hm:n∈(rs.take k).flatMap Rou.nodes++ns.take q
         ·rw [decide_eq_true hm] at hlk
          have HR:Hid (¬eD d place cs rs):=fun h=>by
           have h1:=HON.out h
           have h2:(((rs.take k).flatMap Rou.nodes++ns.take q)++[n]).Nodup:=by
            have h3:(((rs.take k).flatMap Rou.nodes++ns.take (q+1))++ns.drop (q+1)).Nodup:=by
             rw [List.append_assoc,List.take_append_drop]
             exact h1
            have h4:=(List.nodup_append.1 h3).1
            rw [HSN.out,←List.append_assoc] at h4
            exact h4
           exact (dG.1 h2).2 hm
          clear hm
          go_wp2_with fail
          go_ret
          exact ⟨aP HR.out,HBW.out⟩
         ·rw [decide_eq_false hm] at hlk
          have HM:=Hd hm
          have hlen:((rs.take k).flatMap Rou.nodes++ns.take q).length<100000:=by
           rw [List.length_append,List.length_take]
           have:=HLK.out
           omega
          clear hm
          go_wp2_with (at_mapUpdate;refine nT rfl _ _ _ rfl _ HS.out 0 W0.heap.size ((rs.take k).flatMap Rou.nodes++ns.take q) rfl rfl hlen n rfl rfl h64 ?_;intro w3 S3 hz3;have HS3:=Hd S3;clear S3 hz3)
          clear hlk cq lbn
          go_wp2_with fail
          go_roundw
          case rel=>exact ⟨q+1,by omega,by go_num,by rw [HSN.out,←List.append_assoc];exact HS3.out,by rw [HSN.out,←List.append_assoc,dG];exact ⟨HNQ.out,HM.out⟩⟩
          case measure=>simp [intOf];omega
        ·have hqn:q=nn:=by omega
         have hdq:decide ((q:Int)<(nn:Int))=false:=by simp;omega
         have HTQ:Hid (ns.take q=ns):=by show _=_;rw [hqn];exact List.take_of_length_le (by rw [HN.out.1];exact Nat.le_refl _)
         rw [HTQ.out] at HS HNQ
         clear hqn
         go_wp2_with fail
         go_roundw
         case rel=>exact ⟨k+1,by omega,by go_num,by rw [HTK.out];exact HS.out,HG2.out,by rw [HTK.out];exact HNQ.out⟩
         case measure=>simp [intOf];omega
      ·rw [bF hf] at hHR
       have HRO:=Hd hHR
       have HR:Hid (¬eD d place cs rs):=fun h=>hf (HRF.out h)
       clear hHR HG HNO HRF hf
       go_upto_region 8 with fail
       have hsub:=aZ w7
       have hsc:=aR w7
       refine aI w7 (by kernel_rfl) (by kernel_rfl) (Below.refl _ _) ?_
       repeat (go_big_quiet_step ((first
        | (go_at_call 133;with_reducible exact aO (HSO.out _))
        | (go_at_call 132;with_reducible exact aO (HRO.out _)))))
       refine wpQuiet_nil ?_
       rintro wq ⟨⟨w5,hD⟩,hw⟩
       replace hw:wq=w5:=hw
       subst hw
       clear hsub hsc
       have HS8:=Hd (HS7.out.below hD)
       clear hD
       clear hnil d0 d1 lbr x0 x1 x2 x3 lx y0 y1 y2 y3 ly
       have HBR:=Hd (aB HD.out HS8.out.bel)
       go_wp2_with fail
       go_ret
       exact ⟨aP HR.out,HBR.out⟩
     ·have HR:Hid (¬eD d place cs rs):=fun h=>hsi (HNO.out h).1
      have hnil:=fun W=>Lib.run_eql_slice_nil W 26 3 none 0 0 0 0 Tryz.underlying26
      clear HG HNO hsi b7
      go_upto_region 8 with fail
      have hsub:=aZ w7
      have hsc:=aR w7
      refine aI w7 (by kernel_rfl) (by kernel_rfl) (Below.refl _ _) ?_
      repeat (go_big_quiet_step ((fail)))
      refine wpQuiet_nil ?_
      rintro wq ⟨⟨w5,hD⟩,hw⟩
      replace hw:wq=w5:=hw
      subst hw
      clear hsub hsc
      have HS8:=Hd (HS7.out.below hD)
      clear hD
      clear hnil
      have HBR:=Hd (aB HD.out HS8.out.bel)
      go_wp2_with fail
      go_ret
      exact ⟨aP HR.out,HBR.out⟩
    ·have hkn:k=cn:=by omega
     have hdk:decide ((k:Int)<(cn:Int))=false:=by simp;omega
     have HR:Hid (eD d place cs rs):=by
      refine ⟨HCF.out,by rw [HRL.out,HCL.out],fun j hj=>HALL.out j (by rw [hkn,←HCL.out];exact hj),?_⟩
      have h:=HND.out
      rwa [List.take_of_length_le (by rw [HRL.out,hkn];exact Nat.le_refl _)] at h
     clear HALL HND hkn
     go_wp2_with fail
     go_ret
     exact ⟨cO HR.out,HBW.out⟩
  ·have HR:Hid (¬eD d place cs rs):=fun h=>h1 (by rw [←hrl,h.len,HCL.out])
   have d1:((rn:Int) != (cn:Int))=true:=by simp;omega
   clear h1 hrl
   go_enter Tryz.func50,Tryz.ntmps50
   go_upto_region 1 with fail
   generalize w.alloc (.cells #[.int .i64 d.W,.int .i64 d.H,.int .i64 d.T,.int .i64 d.R] 36)=W9 at *
   clear x0 x1 x2 x3 lx
   go_wp2_with fail
   refine (mh (pn:Int) cs CA cn cc _ (HC.out.below HB0.out) HBC.out).mono ?_
   rw [aa hcf]
   rintro _ wq ⟨rfl,hD⟩
   have HX5:=Hd (aD hD HXB.out)
   have HD:=Hd (aB HB0.out hD)
   clear hD
   go_wp2_with fail
   go_ret
   exact ⟨aP HR.out,HD.out⟩
 ·have HR:Hid (¬eD d place cs rs):=fun h=>hcf h.conns
  rw [hpl] at hcf
  clear hrl
  go_enter Tryz.func50,Tryz.ntmps50
  go_upto_region 1 with fail
  generalize w.alloc (.cells #[.int .i64 d.W,.int .i64 d.H,.int .i64 d.T,.int .i64 d.R] 36)=W9 at *
  clear x0 x1 x2 x3 lx
  go_wp2_with fail
  refine (mh (pn:Int) cs CA cn cc _ (HC.out.below HB0.out) HBC.out).mono ?_
  rw [bF hcf]
  rintro _ wq ⟨rfl,hD⟩
  have HX5:=Hd (aD hD HXB.out)
  have HD:=Hd (aB HB0.out hD)
  clear hD
  go_wp2_with fail
  go_ret
  exact ⟨aP HR.out,HD.out⟩
end Go.Proofs.YtofihjoanjkdmaaGreat
