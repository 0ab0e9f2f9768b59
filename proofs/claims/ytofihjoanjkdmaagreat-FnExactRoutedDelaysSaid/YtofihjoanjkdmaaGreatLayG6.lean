/- Routes of a layout in the program: RoutesOk (printed by mkros.py). -/
import Derived.Lib.SliceRun
import Derived.Test.YtofihjoanjkdmaaGreatLayG5
namespace Go.Proofs.YtofihjoanjkdmaaGreat
set_option maxHeartbeats 8000000
set_option maxRecDepth 100000
open Go.RowKit
theorem EJ (d:Dev) (place:List Int) (p:ah):j4 (bO d place p):=by
 have h:-1<=bO d place p/\bO d place p<=1048576:=by
  unfold bO
  split
  ·unfold nT
   split
   ·rename_i h1 h2
    obtain ⟨g,j,z⟩:=aV.1 h2.1
    have q:=fM g
    have D:=ay g
    have u:=eT g
    have B:=pJ d (place[p.block.toNat]?.getD 0)
    have G:=jc j (show place[p.block.toNat]?.getD 0<=35 by omega) (show 0<=aQ d by omega) u.2
    omega
   omega
  omega
 unfold j4
 omega
theorem Br {rs:List Rou}:∀k:Nat,k<=rs.length→(∀j,j<k→(rs[j]?.getD Rou.zero).nodes.length<=828)→((rs.take k).flatMap Rou.nodes).length<=828 * k
 | 0,_,_=>by simp
 | k+1,hk,h=>by
  rw [bN (z:=Rou.zero) (by omega:k<rs.length),List.flatMap_append,List.flatMap_singleton,List.length_append]
  have h1:=Br k (by omega) (fun j hj=>h j (by omega))
  have h2:=h k (by omega)
  omega
theorem sV (d:Dev) (place:List Int) (cs:List Cn) (rs:List Rou) (PA CA RA:Option Addr) (pn pc cn cc rn rc:Nat) (w:World) (hp:dE w PA pn place) (hC:RdC w w.heap.size (ag cs) (.slice CA cn cc)) (hR:RdC w w.heap.size (bE rs) (.slice RA rn rc)) (bq:pn<=1048576) (G:∀c∈cs,c.sinks.length<=1048576) (Q:∀r∈rs,r.nodes.length<=1048576/\r.from_.length<=1048576) :
  Calls Tryz.prog 50 #[.agg (dv d),.slice PA pn pc,.slice CA cn cc,.slice RA rn rc] w fun e w'=>e = .returned (.bool (tb (d9 d place cs rs)))/\Below w.heap.size w w':=by
 obtain ⟨HP,HC,am,ck⟩:=hd4 hp hC hC.cnN hR
 have ao:=hR.rouN
 obtain ⟨ax,bP⟩:=hd2 G Q
 clear hp hC hR G Q
 have bj:(place.length:Int)=(pn:Int):=by rw [HP.out.1]
 have Y:=Hd (aD (Below.refl w.heap.size w) (.cells (dv d) 36))
 have aE:=Hd (aI w (.cells (dv d) 36))
 obtain ⟨x0,x1,x2,x3,lx⟩:=bX (aE.out)
 by_cases g:jF (place.length:Int) cs
 ·have bt:=Hd g
  rw [bj] at g
  by_cases h1:rn=cn
  ·subst h1
   obtain ⟨cn,rfl⟩:∃x,x=rn:=⟨rn,rfl⟩
   have a1:=Hd ao
   have cG:cn<=100:=by rw [←am.out];exact g.len
   have d1:((cn:Int) != (cn:Int))=false:=by simp
   clear ao
   go_enter Tryz.func50,Tryz.ntmps50
   go_upto_region 1 with fail
   generalize w.alloc (.cells (dv d) 36)=W9 at *
   clear x0 x1 x2 x3 lx
   go_wp2_with fail
   refine (qJ (pn:Int) cs CA cn cc _ (HC.out.below Y.out) ax.out).mono ?_
   rw [ae g]
   rintro _ wq ⟨rfl,B⟩
   have aT:=Hd (aC B aE.out)
   have HD:=Hd (aA Y.out B)
   clear B
   have cE:∀(t:TypeId) (w:World),(Instr.makeMap t none).run Tryz.prog w = .ok (.map (some w.heap.size)) (w.alloc (.map #[] 0)):=fun t w=>run_makeMap t w
   have ct:=Hd ((aJ.refl wq).pushSet)
   go_wp2_with fail
   clear cE
   obtain ⟨W0,rfl⟩:∃x,x=wq:=⟨wq,rfl⟩
   go_loopw [30] (fun i wr=>∃k:Nat,k<=cn/\i = .int .i64 (k:Int)/\aJ W0 wr [sW W0.heap.size ((rs.take k).flatMap Rou.nodes)]/\(∀j,j<k→gW d place (cs[j]?.getD Cn.zero)/\dB d (fT d place (cs[j]?.getD Cn.zero)) (bQ d place (cs[j]?.getD Cn.zero)) (rs[j]?.getD Rou.zero))/\((rs.take k).flatMap Rou.nodes).Nodup) (fun i _=>cn - (intOf i).toNat)
   ·exact ⟨0,by omega,rfl,ct.out,fun j hj=>by omega,by simp⟩
   obtain ⟨k,hk,rfl,hs,aH,ap⟩:=hrel
   obtain ⟨HS,R,aU⟩:=hd3 hs aH ap
   have u:=Hd (aA HD.out hs.bel)
   have cw:=Hd (aC hs.bel aT.out)
   clear hs aH ap
   by_cases bo:k<cn
   ·have cB:=dT (by omega:k<cn)
    have K:k<cs.length:=by rw [am.out];exact bo
    have aj:k<rs.length:=by rw [a1.out];exact bo
    obtain ⟨bc,oc,SA,m,mc,bh,G,c0,c1,c2,c3,bH⟩:=HC.out.cn (k:=k) K
    obtain ⟨br,ob,NA,nn,nc,FA,fn,fc,bD,Q,e0,e1,a6,aY⟩:=ck.out.rou (k:=k) aj
    obtain ⟨cj,cm⟩:=hd2 bh bD
    have ce:=aK u.out G
    rw [←u.out.cell (p:=⟨bc,oc+k * 4,none⟩) G] at c0
    rw [←u.out.cell (p:=⟨bc,oc+k * 4+1,none⟩) G] at c1
    rw [←u.out.cell (p:=⟨bc,oc+k * 4+2,none⟩) G] at c2
    rw [←u.out.cell (p:=⟨bc,oc+k * 4+3,none⟩) G] at c3
    have bR:Hid (∀v,Below w.heap.size w v→v.cell? ⟨br,ob+k * 2,none⟩=some (.slice NA nn nc)):=fun v hv=>(hv.cell (p:=⟨br,ob+k * 2,none⟩) Q).trans e0
    have ch:Hid (∀v,Below w.heap.size w v→v.cell? ⟨br,ob+k * 2+1,none⟩=some (.slice FA fn fc)):=fun v hv=>(hv.cell (p:=⟨br,ob+k * 2+1,none⟩) Q).trans e1
    have g:oz (place.length:Int) (cs[k]?.getD Cn.zero):=by rw [List.getElem?_eq_getElem K];exact bt.out.fit _ (List.getElem_mem K)
    have hg:gW d place (cs[k]?.getD Cn.zero)/\dB d (fT d place (cs[k]?.getD Cn.zero)) (bQ d place (cs[k]?.getD Cn.zero)) (rs[k]?.getD Rou.zero)→∀j,j<k+1→gW d place (cs[j]?.getD Cn.zero)/\dB d (fT d place (cs[j]?.getD Cn.zero)) (bQ d place (cs[j]?.getD Cn.zero)) (rs[j]?.getD Rou.zero):=fun h=>bU R.out h
    have bk:d9 d place cs rs→gW d place (cs[k]?.getD Cn.zero)/\dB d (fT d place (cs[k]?.getD Cn.zero)) (bQ d place (cs[k]?.getD Cn.zero)) (rs[k]?.getD Rou.zero):=fun h=>h.fit k K
    have az:=ax.out _ (List.getElem_mem K)
    rw [show cs[k]=cs[k]?.getD Cn.zero by rw [List.getElem?_eq_getElem K];rfl] at az
    have I:=bP.out _ (List.getElem_mem aj)
    rw [show rs[k]=rs[k]?.getD Rou.zero by rw [List.getElem?_eq_getElem aj];rfl] at I
    have a5:(rs.take (k+1)).flatMap Rou.nodes=(rs.take k).flatMap Rou.nodes++(rs[k]?.getD Rou.zero).nodes:=by
     rw [bN (z:=Rou.zero) aj,List.flatMap_append,List.flatMap_singleton]
    have bp:d9 d place cs rs→((rs.take k).flatMap Rou.nodes++(rs[k]?.getD Rou.zero).nodes).Nodup:=fun h=>by
     have h1:=h.once
     rw [←List.take_append_drop (k+1) rs,List.flatMap_append,a5] at h1
     exact (List.nodup_append.1 h1).1
    have cg:Hid (((rs.take k).flatMap Rou.nodes).length<=828 * k):=Br k (by omega) (fun j hj=>(R.out j hj).2.bd)
    obtain ⟨HG,ai,aW,bf⟩:=hd4 hg bk a5 bp
    clear K aj hg bk bh bD a5 bp e0 e1
    obtain rfl:=cj.out
    obtain rfl:=cm.out
    generalize cs[k]?.getD Cn.zero=cx at *
    generalize rs[k]?.getD Rou.zero=rx at *
    obtain ⟨N,⟨a,b⟩,ss⟩:=cx
    obtain ⟨D,fs⟩:=rx
    simp only at c0 c1 c2 c3 az I aW bf a6 aY
    have bv:=Hd (show RdC w w.heap.size (bL ss) (.slice SA m mc) from bH)
    have bK:Hid (ss.length=m):=bv.out.pinN
    have hm:m<=1048576:=by rw [←bK.out];exact az
    have cU:1<=m:=by have h1:=g.len.1;rw [show (⟨N,⟨a,b⟩,ss⟩:Cn).sinks=ss from rfl,bK.out] at h1;exact h1
    have HN:=Hd (a6.ints)
    have HF:=Hd (aY.ints)
    have cr:nn<=1048576:=by rw [←HN.out.1];exact I.1
    have cl:fn<=1048576:=by rw [←HF.out.1];exact I.2
    obtain ⟨i0,i1⟩:=ib (by omega:k<cn)
    have bG:=Hd (aI wr (.cells #[.int .i64 N,.int .i64 a,.int .i64 b,.slice SA m mc] 158))
    have bm:=Hd (bS (.cells #[.int .i64 N,.int .i64 a,.int .i64 b,.slice SA m mc] 158) cw.out)
    have bg:=Hd (HS.out.alloc (.cells #[.int .i64 N,.int .i64 a,.int .i64 b,.slice SA m mc] 158))
    clear bH a6 aY az I g
    go_upto_region 7 with fail
    clear c0 c1 c2 c3 ce
    generalize wr.alloc (.cells #[.int .i64 N,.int .i64 a,.int .i64 b,.slice SA m mc] 158)=W6 at *
    obtain ⟨x0,x1,x2,x3,lx⟩:=bX (bm.out)
    obtain ⟨y0,y1,y2,y3,ly⟩:=bX (bG.out)
    have bM:=Hd (aA HD.out bg.out.bel)
    go_wp2_with fail
    refine (qg d place N a b ss PA SA pn pc m mc _ (HP.out.below bM.out) (bv.out.below bM.out) bq hm).mono ?_
    rintro e w7 ⟨aV,b7⟩
    have ay:=Hd (bg.out.below b7)
    have cd:=Hd (aC b7 bm.out)
    have cH:=Hd (aC b7 bG.out)
    clear x0 x1 x2 x3 lx y0 y1 y2 y3 ly
    rcases aV with ⟨al,A,c,rfl,o7⟩|⟨al,rfl⟩
    ·obtain ⟨O7,cp⟩:=hd2 o7 al
     clear o7 al b7
     have ad:=Hd (aA HD.out ay.out.bel)
     have d0:=bR.out _ ad.out
     have d1:=ch.out _ ad.out
     have aB:=aK ad.out Q
     obtain ⟨x0,x1,x2,x3,lx⟩:=bX (cd.out)
     obtain ⟨y0,y1,y2,y3,ly⟩:=bX (cH.out)
     have a8:Hid (d9 d place cs rs→dB d (fT d place ⟨N,⟨a,b⟩,ss⟩) (bQ d place ⟨N,⟨a,b⟩,ss⟩) ⟨D,fs⟩):=fun h=>(ai.out h).2
     have hA:A≠none:=by
      intro h
      have h2:=O7.out.ints.2 (by omega)
      rw [h] at h2
      obtain ⟨_,_,h3,_⟩:=h2
      cases h3
     have bx:A.isNone=false:=by cases A with|none=>exact absurd rfl hA|some _=>rfl
     have H:=fun W=>Lib.run_eql_slice_nil W 26 3 A m c 0 0 Tryz.underlying26
     rw [bx] at H
     clear hA bx
     have bC:=(fun (x:Sub w7)=>uX d place N a b ss PA SA pn pc m mc x.v (HP.out.below (aA ad.out x.h)) bq)
     have bw:=Hd bC
     clear bC
     have cF:Hid (∀s∈bQ d place ⟨N,⟨a,b⟩,ss⟩,j4 s):=fun s hs=>by
      unfold bQ at hs
      obtain ⟨p,_,rfl⟩:=List.mem_map.1 hs
      exact EJ d place p
     have Z:=(fun (x:Sub w7)=>zm d (fT d place ⟨N,⟨a,b⟩,ss⟩) (bQ d place ⟨N,⟨a,b⟩,ss⟩) ⟨D,fs⟩ A NA FA m c nn nc fn fc x.v (O7.out.ints.below x.h) (HN.out.below (aA ad.out x.h)) (HF.out.below (aA ad.out x.h)) hm cr cl cF.out)
     by_cases hf:dB d (fT d place ⟨N,⟨a,b⟩,ss⟩) (bQ d place ⟨N,⟨a,b⟩,ss⟩) ⟨D,fs⟩
     ·rw [ae hf] at Z
      have aZ:=Hd Z
      have cA:=Hd (HG.out ⟨cp.out,hf⟩)
      have bF:Hid (∀s∈D,j4 s):=fun s hs=>EL (hf.node s hs)
      have cv:nn<=828:=by have h1:=hf.bd;rw [show (⟨D,fs⟩:Rou).nodes=D from rfl,HN.out.1] at h1;exact h1
      clear Z HG ai a8 hf
      go_upto_region 8 with fail
      have J:=aX w7
      have au:=aP w7
      refine wpB w7 ?_
      repeat (go_big_quiet_step ((first
       | (go_at_call 133;with_reducible exact aN (bw.out _))
       | (go_at_call 132;with_reducible exact aN (aZ.out _)))))
      refine wpQuiet_nil ?_
      rintro wq ⟨⟨w5,B⟩,hw⟩
      replace hw:wq=w5:=hw
      subst hw
      clear J au
      have U:=Hd (ay.out.below B)
      clear B H d0 d1 aB x0 x1 x2 x3 lx y0 y1 y2 y3 ly
      have V:=Hd (aA HD.out U.out.bel)
      have d0:=bR.out _ V.out
      have aB:=aK V.out Q
      go_upto_region 11 with fail
      clear d0 aB
      go_loopw [61] (fun i wr=>∃q:Nat,q<=nn/\i = .int .i64 (q:Int)/\aJ W0 wr [sW W0.heap.size ((rs.take k).flatMap Rou.nodes++D.take q)]/\((rs.take k).flatMap Rou.nodes++D.take q).Nodup) (fun i _=>nn - (intOf i).toNat)
      ·exact ⟨0,by omega,rfl,by rw [List.take_zero,List.append_nil];exact U.out,by rw [List.take_zero,List.append_nil];exact aU.out⟩
      obtain ⟨q,hq,rfl,hs,ap⟩:=hrel
      obtain ⟨HS,a4⟩:=hd2 hs ap
      have u:=Hd (aA HD.out hs.bel)
      clear hs ap
      by_cases aM:q<nn
      ·have ca:=dT (by omega:q<nn)
       have aF:q<D.length:=by rw [HN.out.1];exact aM
       obtain ⟨bn,cD,bz,bs,bu⟩:=HN.out.2 (by omega)
       have b6:=Hd bz
       have cq:=(u.out.cell (p:=⟨bn,cD+q,none⟩) bs).trans (bu q aM)
       have cy:=aK u.out bs
       have a0:=bF.out _ (List.getElem_mem aF)
       rw [show D[q]=D[q]?.getD 0 by rw [List.getElem?_eq_getElem aF];rfl] at a0
       have a3:=Hd (bN (z:=0) aF)
       clear bu aF bz
       obtain rfl:=b6.out
       generalize D[q]?.getD 0=n at *
       have a9:=HS.out.look 0 rfl a0
       obtain ⟨i0,i1⟩:=ib (by omega:q<nn)
       by_cases hm:n∈(rs.take k).flatMap Rou.nodes++D.take q
       ·rw [decide_eq_true hm] at a9
        have HR:Hid (¬d9 d place cs rs):=fun h=>by
         have h1:=bf.out h
         have h2:(((rs.take k).flatMap Rou.nodes++D.take q)++[n]).Nodup:=by
          have h3:(((rs.take k).flatMap Rou.nodes++D.take (q+1))++D.drop (q+1)).Nodup:=by
           rw [List.append_assoc,List.take_append_drop]
           exact h1
          have h4:=(List.nodup_append.1 h3).1
          rw [a3.out,←List.append_assoc] at h4
          exact h4
         exact (dh.1 h2).2 hm
        clear hm
        go_wp2_with fail
        go_ret
        exact ⟨aO HR.out,u.out⟩
       rw [decide_eq_false hm] at a9
       have HM:=Hd hm
       have bA:((rs.take k).flatMap Rou.nodes++D.take q).length<100000:=by
        rw [List.length_append,List.length_take]
        have:=cg.out
        omega
       clear hm
       go_wp2_with (at_mapUpdate;refine qz rfl _ _ _ rfl _ HS.out 0 W0.heap.size ((rs.take k).flatMap Rou.nodes++D.take q) rfl rfl bA n rfl rfl a0 ?_;intro w3 S3 co;have b9:=Hd S3;clear S3 co)
       clear a9 cq cy
       go_wp2_with fail
       go_roundw
       ·exact ⟨q+1,by omega,by go_num,by rw [a3.out,←List.append_assoc];exact b9.out,by rw [a3.out,←List.append_assoc,dh];exact ⟨a4.out,HM.out⟩⟩
       simp [intOf];omega
      have bI:q=nn:=by omega
      have ca:=dF (by omega:nn<=q)
      have cC:Hid (D.take q=D):=by show _=_;rw [bI];exact List.take_of_length_le (by rw [HN.out.1];exact Nat.le_refl _)
      rw [cC.out] at HS a4
      clear bI
      go_wp2_with fail
      go_roundw
      ·exact ⟨k+1,by omega,by go_num,by rw [aW.out];exact HS.out,cA.out,by rw [aW.out];exact a4.out⟩
      simp [intOf];omega
     rw [bJ hf] at Z
     have aZ:=Hd Z
     have HR:Hid (¬d9 d place cs rs):=fun h=>hf (a8.out h)
     clear Z HG ai a8 hf
     go_upto_region 8 with fail
     have J:=aX w7
     have au:=aP w7
     refine wpB w7 ?_
     repeat (go_big_quiet_step ((first
      | (go_at_call 133;with_reducible exact aN (bw.out _))
      | (go_at_call 132;with_reducible exact aN (aZ.out _)))))
     refine wpQuiet_nil ?_
     rintro wq ⟨⟨w5,B⟩,hw⟩
     replace hw:wq=w5:=hw
     subst hw
     clear J au
     have U:=Hd (ay.out.below B)
     clear B H d0 d1 aB x0 x1 x2 x3 lx y0 y1 y2 y3 ly
     have V:=Hd (aA HD.out U.out.bel)
     go_wp2_with fail
     go_ret
     exact ⟨aO HR.out,V.out⟩
    have HR:Hid (¬d9 d place cs rs):=fun h=>al (ai.out h).1
    have H:=fun W=>Lib.run_eql_slice_nil W 26 3 none 0 0 0 0 Tryz.underlying26
    clear HG ai al b7
    go_upto_region 8 with fail
    have J:=aX w7
    have au:=aP w7
    refine wpB w7 ?_
    repeat (go_big_quiet_step ((fail)))
    refine wpQuiet_nil ?_
    rintro wq ⟨⟨w5,B⟩,hw⟩
    replace hw:wq=w5:=hw
    subst hw
    clear J au
    have U:=Hd (ay.out.below B)
    clear B H
    have V:=Hd (aA HD.out U.out.bel)
    go_wp2_with fail
    go_ret
    exact ⟨aO HR.out,V.out⟩
   have a7:k=cn:=by omega
   have cB:=dF (by omega:cn<=k)
   have HR:Hid (d9 d place cs rs):=by
    refine ⟨bt.out,by rw [a1.out,am.out],fun j hj=>R.out j (by rw [a7,←am.out];exact hj),?_⟩
    have h:=aU.out
    rwa [List.take_of_length_le (by rw [a1.out,a7];exact Nat.le_refl _)] at h
   clear R aU a7
   go_wp2_with fail
   go_ret
   exact ⟨dU HR.out,u.out⟩
  have HR:Hid (¬d9 d place cs rs):=fun h=>h1 (by rw [←ao,h.len,am.out])
  have d1:((rn:Int) != (cn:Int))=true:=by simp;omega
  clear h1 ao
  go_enter Tryz.func50,Tryz.ntmps50
  go_upto_region 1 with fail
  generalize w.alloc (.cells (dv d) 36)=W9 at *
  clear x0 x1 x2 x3 lx
  go_wp2_with fail
  refine (qJ (pn:Int) cs CA cn cc _ (HC.out.below Y.out) ax.out).mono ?_
  rw [ae g]
  rintro _ wq ⟨rfl,B⟩
  have aT:=Hd (aC B aE.out)
  have HD:=Hd (aA Y.out B)
  clear B
  go_wp2_with fail
  go_ret
  exact ⟨aO HR.out,HD.out⟩
 have HR:Hid (¬d9 d place cs rs):=fun h=>g h.conns
 rw [bj] at g
 clear ao
 go_enter Tryz.func50,Tryz.ntmps50
 go_upto_region 1 with fail
 generalize w.alloc (.cells (dv d) 36)=W9 at *
 clear x0 x1 x2 x3 lx
 go_wp2_with fail
 refine (qJ (pn:Int) cs CA cn cc _ (HC.out.below Y.out) ax.out).mono ?_
 rw [bJ g]
 rintro _ wq ⟨rfl,B⟩
 have aT:=Hd (aC B aE.out)
 have HD:=Hd (aA Y.out B)
 clear B
 go_wp2_with fail
 go_ret
 exact ⟨aO HR.out,HD.out⟩
end Go.Proofs.YtofihjoanjkdmaaGreat
