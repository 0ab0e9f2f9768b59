/- Routes of a layout in the program: RoutesOk (printed by mkros.py). -/
import Derived.Lib.SliceRun
import Derived.Test.YtofihjoanjkdmaaGreatLayG5
namespace Go.Proofs.YtofihjoanjkdmaaGreat
set_option maxHeartbeats 8000000
set_option maxRecDepth 100000
open Go.RowKit
theorem ES (d:Dev) (place:List Int) (p:bS):mP (dH d place p):=by
 have h:-1<=dH d place p/\dH d place p<=1048576:=by
  unfold dH
  split
  ·unfold oI
   split
   ·rename_i h1 h2
    obtain ⟨j,g,B⟩:=aU.1 h2.1
    have q:=fJ j
    have G:=ay j
    have z:=eP j
    have u:=pM d (place[p.block.toNat]?.getD 0)
    have D:=jc g (show place[p.block.toNat]?.getD 0<=35 by omega) (show 0<=aV d by omega) z.2
    omega
   omega
  omega
 unfold mP
 omega
theorem CE {rs:List Rou}:∀k:Nat,k<=rs.length→(∀j,j<k→(rs[j]?.getD Rou.zero).nodes.length<=828)→((rs.take k).flatMap Rou.nodes).length<=828 * k
 | 0,_,_=>by simp
 | k+1,hk,h=>by
  rw [bU (z:=Rou.zero) (by omega:k<rs.length),List.flatMap_append,List.flatMap_singleton,List.length_append]
  have h1:=CE k (by omega) (fun j hj=>h j (by omega))
  have h2:=h k (by omega)
  omega
theorem si (d:Dev) (place:List Int) (cs:List Cn) (rs:List Rou) (PA CA RA:Option Addr) (pn pc cn cc rn rc:Nat) (w:World) (hp:dP w PA pn place) (hC:RdC w w.heap.size (ah cs) (.slice CA cn cc)) (hR:RdC w w.heap.size (bH rs) (.slice RA rn rc)) (bx:pn<=1048576) (H:∀c∈cs,c.sinks.length<=1048576) (Q:∀r∈rs,r.nodes.length<=1048576/\r.from_.length<=1048576) :
  Calls Tryz.prog 50 #[.agg (dv d),.slice PA pn pc,.slice CA cn cc,.slice RA rn rc] w fun e w'=>e = .returned (.bool (tb (fA d place cs rs)))/\Below w.heap.size w w':=by
 obtain ⟨HP,HC,ai,cC⟩:=hd4 hp hC hC.cnN hR
 have ao:=hR.rouN
 obtain ⟨aF,bI⟩:=hd2 H Q
 clear hp hC hR H Q
 have bB:(place.length:Int)=(pn:Int):=by rw [HP.out.1]
 have ad:=Hd (aB (Below.refl w.heap.size w) (.cells (dv d) 36))
 have aE:=Hd (aI w (.cells (dv d) 36))
 obtain ⟨x0,x1,x2,x3,lx⟩:=cO (aE.out)
 by_cases g:jJ (place.length:Int) cs
 ·have bu:=Hd g
  rw [bB] at g
  by_cases h1:rn=cn
  ·subst h1
   obtain ⟨cn,rfl⟩:∃x,x=rn:=⟨rn,rfl⟩
   have a1:=Hd ao
   have cv:cn<=100:=by rw [←ai.out];exact g.len
   have d1:((cn:Int) != (cn:Int))=false:=by simp
   clear ao
   go_enter Tryz.func50,Tryz.ntmps50
   go_upto_region 1 with fail
   generalize w.alloc (.cells (dv d) 36)=W9 at *
   clear x0 x1 x2 x3 lx
   go_wp2_with fail
   refine (qZ (pn:Int) cs CA cn cc _ (HC.out.below ad.out) aF.out).mono ?_
   rw [ae g]
   rintro _ wq ⟨rfl,B⟩
   have bb:=Hd (aD B aE.out)
   have HD:=Hd (aA ad.out B)
   clear B
   have ci:∀(t:TypeId) (w:World),(Instr.makeMap t none).run Tryz.prog w = .ok (.map (some w.heap.size)) (w.alloc (.map #[] 0)):=fun t w=>run_makeMap t w
   have cd:=Hd ((aJ.refl wq).pushSet)
   go_wp2_with fail
   clear ci
   obtain ⟨W0,rfl⟩:∃x,x=wq:=⟨wq,rfl⟩
   go_loopw [30] (fun i wr=>∃k:Nat,k<=cn/\i = .int .i64 (k:Int)/\aJ W0 wr [sj W0.heap.size ((rs.take k).flatMap Rou.nodes)]/\(∀j,j<k→gy d place (cs[j]?.getD Cn.zero)/\dB d (fQ d place (cs[j]?.getD Cn.zero)) (dL d place (cs[j]?.getD Cn.zero)) (rs[j]?.getD Rou.zero))/\((rs.take k).flatMap Rou.nodes).Nodup) (fun i _=>cn - (intOf i).toNat)
   ·exact ⟨0,by omega,rfl,cd.out,fun j hj=>by omega,by simp⟩
   obtain ⟨k,hk,rfl,hs,aM,aj⟩:=hrel
   obtain ⟨HS,R,a2⟩:=hd3 hs aM aj
   have u:=Hd (aA HD.out hs.bel)
   have cu:=Hd (aD hs.bel bb.out)
   clear hs aM aj
   by_cases bO:k<cn
   ·have cB:=dT (by omega:k<cn)
    have K:k<cs.length:=by rw [ai.out];exact bO
    have ak:k<rs.length:=by rw [a1.out];exact bO
    obtain ⟨bc,oc,SA,m,mc,bz,H,c0,c1,c2,c3,bh⟩:=HC.out.cn (k:=k) K
    obtain ⟨br,ob,NA,nn,nc,FA,fn,fc,bo,Q,e0,e1,a8,a3⟩:=cC.out.rou (k:=k) ak
    obtain ⟨cr,cD⟩:=hd2 bz bo
    have cg:=aK u.out H
    rw [←u.out.cell (p:=⟨bc,oc+k * 4,none⟩) H] at c0
    rw [←u.out.cell (p:=⟨bc,oc+k * 4+1,none⟩) H] at c1
    rw [←u.out.cell (p:=⟨bc,oc+k * 4+2,none⟩) H] at c2
    rw [←u.out.cell (p:=⟨bc,oc+k * 4+3,none⟩) H] at c3
    have bA:Hid (∀v,Below w.heap.size w v→v.cell? ⟨br,ob+k * 2,none⟩=some (.slice NA nn nc)):=fun v hv=>(hv.cell (p:=⟨br,ob+k * 2,none⟩) Q).trans e0
    have cf:Hid (∀v,Below w.heap.size w v→v.cell? ⟨br,ob+k * 2+1,none⟩=some (.slice FA fn fc)):=fun v hv=>(hv.cell (p:=⟨br,ob+k * 2+1,none⟩) Q).trans e1
    have g:oz (place.length:Int) (cs[k]?.getD Cn.zero):=by rw [List.getElem?_eq_getElem K];exact bu.out.fit _ (List.getElem_mem K)
    have hg:gy d place (cs[k]?.getD Cn.zero)/\dB d (fQ d place (cs[k]?.getD Cn.zero)) (dL d place (cs[k]?.getD Cn.zero)) (rs[k]?.getD Rou.zero)→∀j,j<k+1→gy d place (cs[j]?.getD Cn.zero)/\dB d (fQ d place (cs[j]?.getD Cn.zero)) (dL d place (cs[j]?.getD Cn.zero)) (rs[j]?.getD Rou.zero):=fun h=>bW R.out h
    have bM:fA d place cs rs→gy d place (cs[k]?.getD Cn.zero)/\dB d (fQ d place (cs[k]?.getD Cn.zero)) (dL d place (cs[k]?.getD Cn.zero)) (rs[k]?.getD Rou.zero):=fun h=>h.fit k K
    have aC:=aF.out _ (List.getElem_mem K)
    rw [show cs[k]=cs[k]?.getD Cn.zero by rw [List.getElem?_eq_getElem K];rfl] at aC
    have J:=bI.out _ (List.getElem_mem ak)
    rw [show rs[k]=rs[k]?.getD Rou.zero by rw [List.getElem?_eq_getElem ak];rfl] at J
    have a0:(rs.take (k+1)).flatMap Rou.nodes=(rs.take k).flatMap Rou.nodes++(rs[k]?.getD Rou.zero).nodes:=by
     rw [bU (z:=Rou.zero) ak,List.flatMap_append,List.flatMap_singleton]
    have bg:fA d place cs rs→((rs.take k).flatMap Rou.nodes++(rs[k]?.getD Rou.zero).nodes).Nodup:=fun h=>by
     have h1:=h.once
     rw [←List.take_append_drop (k+1) rs,List.flatMap_append,a0] at h1
     exact (List.nodup_append.1 h1).1
    have cz:Hid (((rs.take k).flatMap Rou.nodes).length<=828 * k):=CE k (by omega) (fun j hj=>(R.out j hj).2.bd)
    obtain ⟨HG,au,a7,bG⟩:=hd4 hg bM a0 bg
    clear K ak hg bM bz bo a0 bg e0 e1
    obtain rfl:=cr.out
    obtain rfl:=cD.out
    generalize cs[k]?.getD Cn.zero=cx at *
    generalize rs[k]?.getD Rou.zero=rx at *
    obtain ⟨N,⟨a,b⟩,ss⟩:=cx
    obtain ⟨D,fs⟩:=rx
    simp only at c0 c1 c2 c3 aC J a7 bG a8 a3
    have bm:=Hd (show RdC w w.heap.size (bR ss) (.slice SA m mc) from bh)
    have bE:Hid (ss.length=m):=bm.out.pinN
    have hm:m<=1048576:=by rw [←bE.out];exact aC
    have cW:1<=m:=by have h1:=g.len.1;rw [show (⟨N,⟨a,b⟩,ss⟩:Cn).sinks=ss from rfl,bE.out] at h1;exact h1
    have HN:=Hd (a8.ints)
    have HF:=Hd (a3.ints)
    have ce:nn<=1048576:=by rw [←HN.out.1];exact J.1
    have cy:fn<=1048576:=by rw [←HF.out.1];exact J.2
    obtain ⟨i0,i1⟩:=ib (by omega:k<cn)
    have bq:=Hd (aI wr (.cells #[.int .i64 N,.int .i64 a,.int .i64 b,.slice SA m mc] 158))
    have bD:=Hd (aW (.cells #[.int .i64 N,.int .i64 a,.int .i64 b,.slice SA m mc] 158) cu.out)
    have bs:=Hd (HS.out.alloc (.cells #[.int .i64 N,.int .i64 a,.int .i64 b,.slice SA m mc] 158))
    clear bh a8 a3 aC J g
    go_upto_region 7 with fail
    clear c0 c1 c2 c3 cg
    generalize wr.alloc (.cells #[.int .i64 N,.int .i64 a,.int .i64 b,.slice SA m mc] 158)=W6 at *
    obtain ⟨x0,x1,x2,x3,lx⟩:=cO (bD.out)
    obtain ⟨y0,y1,y2,y3,ly⟩:=cO (bq.out)
    have bv:=Hd (aA HD.out bs.out.bel)
    go_wp2_with fail
    refine (wL d place N a b ss PA SA pn pc m mc _ (HP.out.below bv.out) (bm.out.below bv.out) bx hm).mono ?_
    rintro e w7 ⟨a6,b7⟩
    have az:=Hd (bs.out.below b7)
    have cw:=Hd (aD b7 bD.out)
    have ca:=Hd (aD b7 bq.out)
    clear x0 x1 x2 x3 lx y0 y1 y2 y3 ly
    rcases a6 with ⟨ar,A,c,rfl,o7⟩|⟨ar,rfl⟩
    ·obtain ⟨O7,b9⟩:=hd2 o7 ar
     clear o7 ar b7
     have Y:=Hd (aA HD.out az.out.bel)
     have d0:=bA.out _ Y.out
     have d1:=cf.out _ Y.out
     have ax:=aK Y.out Q
     obtain ⟨x0,x1,x2,x3,lx⟩:=cO (cw.out)
     obtain ⟨y0,y1,y2,y3,ly⟩:=cO (ca.out)
     have a5:Hid (fA d place cs rs→dB d (fQ d place ⟨N,⟨a,b⟩,ss⟩) (dL d place ⟨N,⟨a,b⟩,ss⟩) ⟨D,fs⟩):=fun h=>(au.out h).2
     have hA:A≠none:=by
      intro h
      have h2:=O7.out.ints.2 (by omega)
      rw [h] at h2
      obtain ⟨_,_,h3,_⟩:=h2
      cases h3
     have bP:A.isNone=false:=by cases A with|none=>exact absurd rfl hA|some _=>rfl
     have G:=fun W=>Lib.run_eql_slice_nil W 26 3 A m c 0 0 Tryz.underlying26
     rw [bP] at G
     clear hA bP
     have bL:=(fun (x:Sub w7)=>vP d place N a b ss PA SA pn pc m mc x.v (HP.out.below (aA Y.out x.h)) bx)
     have bt:=Hd bL
     clear bL
     have ch:Hid (∀s∈dL d place ⟨N,⟨a,b⟩,ss⟩,mP s):=fun s hs=>by
      unfold dL at hs
      obtain ⟨p,_,rfl⟩:=List.mem_map.1 hs
      exact ES d place p
     have Z:=(fun (x:Sub w7)=>zq d (fQ d place ⟨N,⟨a,b⟩,ss⟩) (dL d place ⟨N,⟨a,b⟩,ss⟩) ⟨D,fs⟩ A NA FA m c nn nc fn fc x.v (O7.out.ints.below x.h) (HN.out.below (aA Y.out x.h)) (HF.out.below (aA Y.out x.h)) hm ce cy ch.out)
     by_cases hf:dB d (fQ d place ⟨N,⟨a,b⟩,ss⟩) (dL d place ⟨N,⟨a,b⟩,ss⟩) ⟨D,fs⟩
     ·rw [ae hf] at Z
      have a9:=Hd Z
      have cF:=Hd (HG.out ⟨b9.out,hf⟩)
      have bl:Hid (∀s∈D,mP s):=fun s hs=>EX (hf.node s hs)
      have cl:nn<=828:=by have h1:=hf.bd;rw [show (⟨D,fs⟩:Rou).nodes=D from rfl,HN.out.1] at h1;exact h1
      clear Z HG au a5 hf
      go_upto_region 8 with fail
      have I:=aY w7
      have ap:=aP w7
      refine wpB w7 ?_
      repeat (go_big_quiet_step ((first
       | (go_at_call 133;with_reducible exact aN (bt.out _))
       | (go_at_call 132;with_reducible exact aN (a9.out _)))))
      refine wpQuiet_nil ?_
      rintro wq ⟨⟨w5,B⟩,hw⟩
      replace hw:wq=w5:=hw
      subst hw
      clear I ap
      have U:=Hd (az.out.below B)
      clear B G d0 d1 ax x0 x1 x2 x3 lx y0 y1 y2 y3 ly
      have V:=Hd (aA HD.out U.out.bel)
      have d0:=bA.out _ V.out
      have ax:=aK V.out Q
      go_upto_region 11 with fail
      clear d0 ax
      go_loopw [61] (fun i wr=>∃q:Nat,q<=nn/\i = .int .i64 (q:Int)/\aJ W0 wr [sj W0.heap.size ((rs.take k).flatMap Rou.nodes++D.take q)]/\((rs.take k).flatMap Rou.nodes++D.take q).Nodup) (fun i _=>nn - (intOf i).toNat)
      ·exact ⟨0,by omega,rfl,by rw [List.take_zero,List.append_nil];exact U.out,by rw [List.take_zero,List.append_nil];exact a2.out⟩
      obtain ⟨q,hq,rfl,hs,aj⟩:=hrel
      obtain ⟨HS,a4⟩:=hd2 hs aj
      have u:=Hd (aA HD.out hs.bel)
      clear hs aj
      by_cases aQ:q<nn
      ·have cj:=dT (by omega:q<nn)
       have aw:q<D.length:=by rw [HN.out.1];exact aQ
       obtain ⟨bn,cE,bk,bF,bN⟩:=HN.out.2 (by omega)
       have cb:=Hd bk
       have cq:=(u.out.cell (p:=⟨bn,cE+q,none⟩) bF).trans (bN q aQ)
       have cm:=aK u.out bF
       have aV:=bl.out _ (List.getElem_mem aw)
       rw [show D[q]=D[q]?.getD 0 by rw [List.getElem?_eq_getElem aw];rfl] at aV
       have aU:=Hd (bU (z:=0) aw)
       clear bN aw bk
       obtain rfl:=cb.out
       generalize D[q]?.getD 0=n at *
       have aX:=HS.out.look 0 rfl aV
       obtain ⟨i0,i1⟩:=ib (by omega:q<nn)
       by_cases hm:n∈(rs.take k).flatMap Rou.nodes++D.take q
       ·rw [decide_eq_true hm] at aX
        have HR:Hid (¬fA d place cs rs):=fun h=>by
         have h1:=bG.out h
         have h2:(((rs.take k).flatMap Rou.nodes++D.take q)++[n]).Nodup:=by
          have h3:(((rs.take k).flatMap Rou.nodes++D.take (q+1))++D.drop (q+1)).Nodup:=by
           rw [List.append_assoc,List.take_append_drop]
           exact h1
          have h4:=(List.nodup_append.1 h3).1
          rw [aU.out,←List.append_assoc] at h4
          exact h4
         exact (dZ.1 h2).2 hm
        clear hm
        go_wp2_with fail
        go_ret
        exact ⟨aO HR.out,u.out⟩
       rw [decide_eq_false hm] at aX
       have HM:=Hd hm
       have bw:((rs.take k).flatMap Rou.nodes++D.take q).length<100000:=by
        rw [List.length_append,List.length_take]
        have:=cz.out
        omega
       clear hm
       go_wp2_with (at_mapUpdate;refine rE rfl _ _ _ rfl _ HS.out 0 W0.heap.size ((rs.take k).flatMap Rou.nodes++D.take q) rfl rfl bw n rfl rfl aV ?_;intro w3 S3 b8;have ck:=Hd S3;clear S3 b8)
       clear aX cq cm
       go_wp2_with fail
       go_roundw
       ·exact ⟨q+1,by omega,by go_num,by rw [aU.out,←List.append_assoc];exact ck.out,by rw [aU.out,←List.append_assoc,dZ];exact ⟨a4.out,HM.out⟩⟩
       simp [intOf];omega
      have bK:q=nn:=by omega
      have cj:=dF (by omega:nn<=q)
      have co:Hid (D.take q=D):=by show _=_;rw [bK];exact List.take_of_length_le (by rw [HN.out.1];exact Nat.le_refl _)
      rw [co.out] at HS a4
      clear bK
      go_wp2_with fail
      go_roundw
      ·exact ⟨k+1,by omega,by go_num,by rw [a7.out];exact HS.out,cF.out,by rw [a7.out];exact a4.out⟩
      simp [intOf];omega
     rw [bJ hf] at Z
     have a9:=Hd Z
     have HR:Hid (¬fA d place cs rs):=fun h=>hf (a5.out h)
     clear Z HG au a5 hf
     go_upto_region 8 with fail
     have I:=aY w7
     have ap:=aP w7
     refine wpB w7 ?_
     repeat (go_big_quiet_step ((first
      | (go_at_call 133;with_reducible exact aN (bt.out _))
      | (go_at_call 132;with_reducible exact aN (a9.out _)))))
     refine wpQuiet_nil ?_
     rintro wq ⟨⟨w5,B⟩,hw⟩
     replace hw:wq=w5:=hw
     subst hw
     clear I ap
     have U:=Hd (az.out.below B)
     clear B G d0 d1 ax x0 x1 x2 x3 lx y0 y1 y2 y3 ly
     have V:=Hd (aA HD.out U.out.bel)
     go_wp2_with fail
     go_ret
     exact ⟨aO HR.out,V.out⟩
    have HR:Hid (¬fA d place cs rs):=fun h=>ar (au.out h).1
    have G:=fun W=>Lib.run_eql_slice_nil W 26 3 none 0 0 0 0 Tryz.underlying26
    clear HG au ar b7
    go_upto_region 8 with fail
    have I:=aY w7
    have ap:=aP w7
    refine wpB w7 ?_
    repeat (go_big_quiet_step ((fail)))
    refine wpQuiet_nil ?_
    rintro wq ⟨⟨w5,B⟩,hw⟩
    replace hw:wq=w5:=hw
    subst hw
    clear I ap
    have U:=Hd (az.out.below B)
    clear B G
    have V:=Hd (aA HD.out U.out.bel)
    go_wp2_with fail
    go_ret
    exact ⟨aO HR.out,V.out⟩
   have aT:k=cn:=by omega
   have cB:=dF (by omega:cn<=k)
   have HR:Hid (fA d place cs rs):=by
    refine ⟨bu.out,by rw [a1.out,ai.out],fun j hj=>R.out j (by rw [aT,←ai.out];exact hj),?_⟩
    have h:=a2.out
    rwa [List.take_of_length_le (by rw [a1.out,aT];exact Nat.le_refl _)] at h
   clear R a2 aT
   go_wp2_with fail
   go_ret
   exact ⟨dU HR.out,u.out⟩
  have HR:Hid (¬fA d place cs rs):=fun h=>h1 (by rw [←ao,h.len,ai.out])
  have d1:((rn:Int) != (cn:Int))=true:=by simp;omega
  clear h1 ao
  go_enter Tryz.func50,Tryz.ntmps50
  go_upto_region 1 with fail
  generalize w.alloc (.cells (dv d) 36)=W9 at *
  clear x0 x1 x2 x3 lx
  go_wp2_with fail
  refine (qZ (pn:Int) cs CA cn cc _ (HC.out.below ad.out) aF.out).mono ?_
  rw [ae g]
  rintro _ wq ⟨rfl,B⟩
  have bb:=Hd (aD B aE.out)
  have HD:=Hd (aA ad.out B)
  clear B
  go_wp2_with fail
  go_ret
  exact ⟨aO HR.out,HD.out⟩
 have HR:Hid (¬fA d place cs rs):=fun h=>g h.conns
 rw [bB] at g
 clear ao
 go_enter Tryz.func50,Tryz.ntmps50
 go_upto_region 1 with fail
 generalize w.alloc (.cells (dv d) 36)=W9 at *
 clear x0 x1 x2 x3 lx
 go_wp2_with fail
 refine (qZ (pn:Int) cs CA cn cc _ (HC.out.below ad.out) aF.out).mono ?_
 rw [bJ g]
 rintro _ wq ⟨rfl,B⟩
 have bb:=Hd (aD B aE.out)
 have HD:=Hd (aA ad.out B)
 clear B
 go_wp2_with fail
 go_ret
 exact ⟨aO HR.out,HD.out⟩
end Go.Proofs.YtofihjoanjkdmaaGreat
