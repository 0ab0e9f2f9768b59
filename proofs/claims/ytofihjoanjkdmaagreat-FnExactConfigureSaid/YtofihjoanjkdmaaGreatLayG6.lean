/- Routes of a layout in the program: RoutesOk (printed by mkros.py). -/
import Derived.Lib.SliceRun
import Derived.Test.YtofihjoanjkdmaaGreatLayG5
namespace Go.Proofs.YtofihjoanjkdmaaGreat
set_option maxHeartbeats 8000000
set_option maxRecDepth 100000
open Go.RowKit
theorem ES (d:Dev) (place:List Int) (p:bS):mP (dH d place p):=by
 have h:-1<=dH d place p/\dH d place p<=1048576:=by
  unfold dH
  split
  ·unfold oI
   split
   ·rename_i h1 h2
    obtain ⟨g,j,q⟩:=aU.1 h2.1
    have u:=fJ g
    have G:=ay g
    have z:=eP g
    have B:=pM d (place[p.block.toNat]?.getD 0)
    have D:=jc j (show place[p.block.toNat]?.getD 0<=35 by omega) (show 0<=aV d by omega) z.2
    omega
   omega
  omega
 unfold mP
 omega
theorem CE {rs:List Rou}:∀k:Nat,k<=rs.length→(∀j,j<k→(rs[j]?.getD Rou.zero).nodes.length<=828)→((rs.take k).flatMap Rou.nodes).length<=828 * k
 | 0,_,_=>by simp
 | k+1,hk,h=>by
  rw [bU (z:=Rou.zero) (by omega:k<rs.length),List.flatMap_append,List.flatMap_singleton,List.length_append]
  have h1:=CE k (by omega) (fun j hj=>h j (by omega))
  have h2:=h k (by omega)
  omega
theorem si (d:Dev) (place:List Int) (cs:List Cn) (rs:List Rou) (PA CA RA:Option Addr) (pn pc cn cc rn rc:Nat) (w:World) (hp:dP w PA pn place) (hC:RdC w w.heap.size (ah cs) (.slice CA cn cc)) (hR:RdC w w.heap.size (bH rs) (.slice RA rn rc)) (bN:pn<=1048576) (I:∀c∈cs,c.sinks.length<=1048576) (Q:∀r∈rs,r.nodes.length<=1048576/\r.from_.length<=1048576) :
  Calls Tryz.prog 50 #[.agg (dv d),.slice PA pn pc,.slice CA cn cc,.slice RA rn rc] w fun e w'=>e = .returned (.bool (tb (fA d place cs rs)))/\Below w.heap.size w w':=by
 obtain ⟨HP,HC,af,cm⟩:=hd4 hp hC hC.cnN hR
 have am:=hR.rouN
 obtain ⟨ay,bD⟩:=hd2 I Q
 clear hp hC hR I Q
 have bj:(place.length:Int)=(pn:Int):=by rw [HP.out.1]
 have Z:=Hd (aB (Below.refl w.heap.size w) (.cells (dv d) 36))
 have ax:=Hd (aI w (.cells (dv d) 36))
 obtain ⟨x0,x1,x2,x3,lx⟩:=cO (ax.out)
 by_cases g:jJ (place.length:Int) cs
 ·have bu:=Hd g
  rw [bj] at g
  by_cases h1:rn=cn
  ·subst h1
   obtain ⟨cn,rfl⟩:∃x,x=rn:=⟨rn,rfl⟩
   have a7:=Hd am
   have b4:cn<=100:=by rw [←af.out];exact g.len
   have d1:((cn:Int) != (cn:Int))=false:=by simp
   clear am
   go_enter Tryz.func50,Tryz.ntmps50
   go_upto_region 1 with fail
   generalize w.alloc (.cells (dv d) 36)=W9 at *
   clear x0 x1 x2 x3 lx
   go_wp2_with fail
   refine (qZ (pn:Int) cs CA cn cc _ (HC.out.below Z.out) ay.out).mono ?_
   rw [ae g]
   rintro _ wq ⟨rfl,D⟩
   have a1:=Hd (aD D ax.out)
   have HD:=Hd (aA Z.out D)
   clear D
   have cE:∀(t:TypeId) (w:World),(Instr.makeMap t none).run Tryz.prog w = .ok (.map (some w.heap.size)) (w.alloc (.map #[] 0)):=fun t w=>run_makeMap t w
   have cb:=Hd ((aJ.refl wq).pushSet)
   go_wp2_with fail
   clear cE
   obtain ⟨W0,rfl⟩:∃x,x=wq:=⟨wq,rfl⟩
   go_loopw [30] (fun i wr=>∃k:Nat,k<=cn/\i = .int .i64 (k:Int)/\aJ W0 wr [sj W0.heap.size ((rs.take k).flatMap Rou.nodes)]/\(∀j,j<k→gy d place (cs[j]?.getD Cn.zero)/\dB d (fQ d place (cs[j]?.getD Cn.zero)) (dL d place (cs[j]?.getD Cn.zero)) (rs[j]?.getD Rou.zero))/\((rs.take k).flatMap Rou.nodes).Nodup) (fun i _=>cn - (intOf i).toNat)
   ·exact ⟨0,by omega,rfl,cb.out,fun j hj=>by omega,by simp⟩
   obtain ⟨k,hk,rfl,hs,aM,aj⟩:=hrel
   obtain ⟨HS,R,aX⟩:=hd3 hs aM aj
   have u:=Hd (aA HD.out hs.bel)
   have cr:=Hd (aD hs.bel a1.out)
   clear hs aM aj
   by_cases bO:k<cn
   ·have b9:=dT (by omega:k<cn)
    have K:k<cs.length:=by rw [af.out];exact bO
    have au:k<rs.length:=by rw [a7.out];exact bO
    obtain ⟨bc,oc,SA,m,mc,bp,I,c0,c1,c2,c3,bF⟩:=HC.out.cn (k:=k) K
    obtain ⟨br,ob,NA,nn,nc,FA,fn,fc,bL,Q,e0,e1,a0,aU⟩:=cm.out.rou (k:=k) au
    obtain ⟨cw,cz⟩:=hd2 bp bL
    have co:=aK u.out I
    rw [←u.out.cell (p:=⟨bc,oc+k * 4,none⟩) I] at c0
    rw [←u.out.cell (p:=⟨bc,oc+k * 4+1,none⟩) I] at c1
    rw [←u.out.cell (p:=⟨bc,oc+k * 4+2,none⟩) I] at c2
    rw [←u.out.cell (p:=⟨bc,oc+k * 4+3,none⟩) I] at c3
    have bP:Hid (∀v,Below w.heap.size w v→v.cell? ⟨br,ob+k * 2,none⟩=some (.slice NA nn nc)):=fun v hv=>(hv.cell (p:=⟨br,ob+k * 2,none⟩) Q).trans e0
    have ci:Hid (∀v,Below w.heap.size w v→v.cell? ⟨br,ob+k * 2+1,none⟩=some (.slice FA fn fc)):=fun v hv=>(hv.cell (p:=⟨br,ob+k * 2+1,none⟩) Q).trans e1
    have g:oz (place.length:Int) (cs[k]?.getD Cn.zero):=by rw [List.getElem?_eq_getElem K];exact bu.out.fit _ (List.getElem_mem K)
    have hg:gy d place (cs[k]?.getD Cn.zero)/\dB d (fQ d place (cs[k]?.getD Cn.zero)) (dL d place (cs[k]?.getD Cn.zero)) (rs[k]?.getD Rou.zero)→∀j,j<k+1→gy d place (cs[j]?.getD Cn.zero)/\dB d (fQ d place (cs[j]?.getD Cn.zero)) (dL d place (cs[j]?.getD Cn.zero)) (rs[j]?.getD Rou.zero):=fun h=>bW R.out h
    have bz:fA d place cs rs→gy d place (cs[k]?.getD Cn.zero)/\dB d (fQ d place (cs[k]?.getD Cn.zero)) (dL d place (cs[k]?.getD Cn.zero)) (rs[k]?.getD Rou.zero):=fun h=>h.fit k K
    have aF:=ay.out _ (List.getElem_mem K)
    rw [show cs[k]=cs[k]?.getD Cn.zero by rw [List.getElem?_eq_getElem K];rfl] at aF
    have G:=bD.out _ (List.getElem_mem au)
    rw [show rs[k]=rs[k]?.getD Rou.zero by rw [List.getElem?_eq_getElem au];rfl] at G
    have aZ:(rs.take (k+1)).flatMap Rou.nodes=(rs.take k).flatMap Rou.nodes++(rs[k]?.getD Rou.zero).nodes:=by
     rw [bU (z:=Rou.zero) au,List.flatMap_append,List.flatMap_singleton]
    have bw:fA d place cs rs→((rs.take k).flatMap Rou.nodes++(rs[k]?.getD Rou.zero).nodes).Nodup:=fun h=>by
     have h1:=h.once
     rw [←List.take_append_drop (k+1) rs,List.flatMap_append,aZ] at h1
     exact (List.nodup_append.1 h1).1
    have ce:Hid (((rs.take k).flatMap Rou.nodes).length<=828 * k):=CE k (by omega) (fun j hj=>(R.out j hj).2.bd)
    obtain ⟨HG,av,a6,bB⟩:=hd4 hg bz aZ bw
    clear K au hg bz bp bL aZ bw e0 e1
    obtain rfl:=cw.out
    obtain rfl:=cz.out
    generalize cs[k]?.getD Cn.zero=cx at *
    generalize rs[k]?.getD Rou.zero=rx at *
    obtain ⟨N,⟨a,b⟩,ss⟩:=cx
    obtain ⟨B,fs⟩:=rx
    simp only at c0 c1 c2 c3 aF G a6 bB a0 aU
    have bg:=Hd (show RdC w w.heap.size (bR ss) (.slice SA m mc) from bF)
    have bt:Hid (ss.length=m):=bg.out.pinN
    have hm:m<=1048576:=by rw [←bt.out];exact aF
    have cU:1<=m:=by have h1:=g.len.1;rw [show (⟨N,⟨a,b⟩,ss⟩:Cn).sinks=ss from rfl,bt.out] at h1;exact h1
    have HN:=Hd (a0.ints)
    have HF:=Hd (aU.ints)
    have cy:nn<=1048576:=by rw [←HN.out.1];exact G.1
    have cu:fn<=1048576:=by rw [←HF.out.1];exact G.2
    obtain ⟨i0,i1⟩:=ib (by omega:k<cn)
    have bq:=Hd (aI wr (.cells #[.int .i64 N,.int .i64 a,.int .i64 b,.slice SA m mc] 158))
    have bk:=Hd (aW (.cells #[.int .i64 N,.int .i64 a,.int .i64 b,.slice SA m mc] 158) cr.out)
    have bv:=Hd (HS.out.alloc (.cells #[.int .i64 N,.int .i64 a,.int .i64 b,.slice SA m mc] 158))
    clear bF a0 aU aF G g
    go_upto_region 7 with fail
    clear c0 c1 c2 c3 co
    generalize wr.alloc (.cells #[.int .i64 N,.int .i64 a,.int .i64 b,.slice SA m mc] 158)=W6 at *
    obtain ⟨x0,x1,x2,x3,lx⟩:=cO (bk.out)
    obtain ⟨y0,y1,y2,y3,ly⟩:=cO (bq.out)
    have bC:=Hd (aA HD.out bv.out.bel)
    go_wp2_with fail
    refine (wL d place N a b ss PA SA pn pc m mc _ (HP.out.below bC.out) (bg.out.below bC.out) bN hm).mono ?_
    rintro e w7 ⟨a5,b7⟩
    have aw:=Hd (bv.out.below b7)
    have cv:=Hd (aD b7 bk.out)
    have ca:=Hd (aD b7 bq.out)
    clear x0 x1 x2 x3 lx y0 y1 y2 y3 ly
    rcases a5 with ⟨ag,A,c,rfl,o7⟩|⟨ag,rfl⟩
    ·obtain ⟨O7,cC⟩:=hd2 o7 ag
     clear o7 ag b7
     have V:=Hd (aA HD.out aw.out.bel)
     have d0:=bP.out _ V.out
     have d1:=ci.out _ V.out
     have aC:=aK V.out Q
     obtain ⟨x0,x1,x2,x3,lx⟩:=cO (cv.out)
     obtain ⟨y0,y1,y2,y3,ly⟩:=cO (ca.out)
     have a3:Hid (fA d place cs rs→dB d (fQ d place ⟨N,⟨a,b⟩,ss⟩) (dL d place ⟨N,⟨a,b⟩,ss⟩) ⟨B,fs⟩):=fun h=>(av.out h).2
     have hA:A≠none:=by
      intro h
      have h2:=O7.out.ints.2 (by omega)
      rw [h] at h2
      obtain ⟨_,_,h3,_⟩:=h2
      cases h3
     have bm:A.isNone=false:=by cases A with|none=>exact absurd rfl hA|some _=>rfl
     have J:=fun W=>Lib.run_eql_slice_nil W 26 3 A m c 0 0 Tryz.underlying26
     rw [bm] at J
     clear hA bm
     have bA:=(fun (x:Sub w7)=>vP d place N a b ss PA SA pn pc m mc x.v (HP.out.below (aA V.out x.h)) bN)
     have bK:=Hd bA
     clear bA
     have cp:Hid (∀s∈dL d place ⟨N,⟨a,b⟩,ss⟩,mP s):=fun s hs=>by
      unfold dL at hs
      obtain ⟨p,_,rfl⟩:=List.mem_map.1 hs
      exact ES d place p
     have ad:=(fun (x:Sub w7)=>zq d (fQ d place ⟨N,⟨a,b⟩,ss⟩) (dL d place ⟨N,⟨a,b⟩,ss⟩) ⟨B,fs⟩ A NA FA m c nn nc fn fc x.v (O7.out.ints.below x.h) (HN.out.below (aA V.out x.h)) (HF.out.below (aA V.out x.h)) hm cy cu cp.out)
     by_cases hf:dB d (fQ d place ⟨N,⟨a,b⟩,ss⟩) (dL d place ⟨N,⟨a,b⟩,ss⟩) ⟨B,fs⟩
     ·rw [ae hf] at ad
      have bb:=Hd ad
      have ck:=Hd (HG.out ⟨cC.out,hf⟩)
      have bo:Hid (∀s∈B,mP s):=fun s hs=>EX (hf.node s hs)
      have cB:nn<=828:=by have h1:=hf.bd;rw [show (⟨B,fs⟩:Rou).nodes=B from rfl,HN.out.1] at h1;exact h1
      clear ad HG av a3 hf
      go_upto_region 8 with fail
      have H:=aY w7
      have ak:=aP w7
      refine wpB w7 ?_
      repeat (go_big_quiet_step ((first
       | (go_at_call 133;with_reducible exact aN (bK.out _))
       | (go_at_call 132;with_reducible exact aN (bb.out _)))))
      refine wpQuiet_nil ?_
      rintro wq ⟨⟨w5,D⟩,hw⟩
      replace hw:wq=w5:=hw
      subst hw
      clear H ak
      have Y:=Hd (aw.out.below D)
      clear D J d0 d1 aC x0 x1 x2 x3 lx y0 y1 y2 y3 ly
      have U:=Hd (aA HD.out Y.out.bel)
      have d0:=bP.out _ U.out
      have aC:=aK U.out Q
      go_upto_region 11 with fail
      clear d0 aC
      go_loopw [61] (fun i wr=>∃q:Nat,q<=nn/\i = .int .i64 (q:Int)/\aJ W0 wr [sj W0.heap.size ((rs.take k).flatMap Rou.nodes++B.take q)]/\((rs.take k).flatMap Rou.nodes++B.take q).Nodup) (fun i _=>nn - (intOf i).toNat)
      ·exact ⟨0,by omega,rfl,by rw [List.take_zero,List.append_nil];exact Y.out,by rw [List.take_zero,List.append_nil];exact aX.out⟩
      obtain ⟨q,hq,rfl,hs,aj⟩:=hrel
      obtain ⟨HS,aT⟩:=hd2 hs aj
      have u:=Hd (aA HD.out hs.bel)
      clear hs aj
      by_cases aQ:q<nn
      ·have b6:=dT (by omega:q<nn)
       have az:q<B.length:=by rw [HN.out.1];exact aQ
       obtain ⟨bn,ct,bx,bG,bM⟩:=HN.out.2 (by omega)
       have cD:=Hd bx
       have cq:=(u.out.cell (p:=⟨bn,ct+q,none⟩) bG).trans (bM q aQ)
       have cl:=aK u.out bG
       have a8:=bo.out _ (List.getElem_mem az)
       rw [show B[q]=B[q]?.getD 0 by rw [List.getElem?_eq_getElem az];rfl] at a8
       have a4:=Hd (bU (z:=0) az)
       clear bM az bx
       obtain rfl:=cD.out
       generalize B[q]?.getD 0=n at *
       have a2:=HS.out.look 0 rfl a8
       obtain ⟨i0,i1⟩:=ib (by omega:q<nn)
       by_cases hm:n∈(rs.take k).flatMap Rou.nodes++B.take q
       ·rw [decide_eq_true hm] at a2
        have HR:Hid (¬fA d place cs rs):=fun h=>by
         have h1:=bB.out h
         have h2:(((rs.take k).flatMap Rou.nodes++B.take q)++[n]).Nodup:=by
          have h3:(((rs.take k).flatMap Rou.nodes++B.take (q+1))++B.drop (q+1)).Nodup:=by
           rw [List.append_assoc,List.take_append_drop]
           exact h1
          have h4:=(List.nodup_append.1 h3).1
          rw [a4.out,←List.append_assoc] at h4
          exact h4
         exact (dZ.1 h2).2 hm
        clear hm
        go_wp2_with fail
        go_ret
        exact ⟨aO HR.out,u.out⟩
       rw [decide_eq_false hm] at a2
       have HM:=Hd hm
       have bh:((rs.take k).flatMap Rou.nodes++B.take q).length<100000:=by
        rw [List.length_append,List.length_take]
        have:=ce.out
        omega
       clear hm
       go_wp2_with (at_mapUpdate;refine rE rfl _ _ _ rfl _ HS.out 0 W0.heap.size ((rs.take k).flatMap Rou.nodes++B.take q) rfl rfl bh n rfl rfl a8 ?_;intro w3 S3 cd;have cf:=Hd S3;clear S3 cd)
       clear a2 cq cl
       go_wp2_with fail
       go_roundw
       ·exact ⟨q+1,by omega,by go_num,by rw [a4.out,←List.append_assoc];exact cf.out,by rw [a4.out,←List.append_assoc,dZ];exact ⟨aT.out,HM.out⟩⟩
       simp [intOf];omega
      have bs:q=nn:=by omega
      have b6:=dF (by omega:nn<=q)
      have ch:Hid (B.take q=B):=by show _=_;rw [bs];exact List.take_of_length_le (by rw [HN.out.1];exact Nat.le_refl _)
      rw [ch.out] at HS aT
      clear bs
      go_wp2_with fail
      go_roundw
      ·exact ⟨k+1,by omega,by go_num,by rw [a6.out];exact HS.out,ck.out,by rw [a6.out];exact aT.out⟩
      simp [intOf];omega
     rw [bJ hf] at ad
     have bb:=Hd ad
     have HR:Hid (¬fA d place cs rs):=fun h=>hf (a3.out h)
     clear ad HG av a3 hf
     go_upto_region 8 with fail
     have H:=aY w7
     have ak:=aP w7
     refine wpB w7 ?_
     repeat (go_big_quiet_step ((first
      | (go_at_call 133;with_reducible exact aN (bK.out _))
      | (go_at_call 132;with_reducible exact aN (bb.out _)))))
     refine wpQuiet_nil ?_
     rintro wq ⟨⟨w5,D⟩,hw⟩
     replace hw:wq=w5:=hw
     subst hw
     clear H ak
     have Y:=Hd (aw.out.below D)
     clear D J d0 d1 aC x0 x1 x2 x3 lx y0 y1 y2 y3 ly
     have U:=Hd (aA HD.out Y.out.bel)
     go_wp2_with fail
     go_ret
     exact ⟨aO HR.out,U.out⟩
    have HR:Hid (¬fA d place cs rs):=fun h=>ag (av.out h).1
    have J:=fun W=>Lib.run_eql_slice_nil W 26 3 none 0 0 0 0 Tryz.underlying26
    clear HG av ag b7
    go_upto_region 8 with fail
    have H:=aY w7
    have ak:=aP w7
    refine wpB w7 ?_
    repeat (go_big_quiet_step ((fail)))
    refine wpQuiet_nil ?_
    rintro wq ⟨⟨w5,D⟩,hw⟩
    replace hw:wq=w5:=hw
    subst hw
    clear H ak
    have Y:=Hd (aw.out.below D)
    clear D J
    have U:=Hd (aA HD.out Y.out.bel)
    go_wp2_with fail
    go_ret
    exact ⟨aO HR.out,U.out⟩
   have a9:k=cn:=by omega
   have b9:=dF (by omega:cn<=k)
   have HR:Hid (fA d place cs rs):=by
    refine ⟨bu.out,by rw [a7.out,af.out],fun j hj=>R.out j (by rw [a9,←af.out];exact hj),?_⟩
    have h:=aX.out
    rwa [List.take_of_length_le (by rw [a7.out,a9];exact Nat.le_refl _)] at h
   clear R aX a9
   go_wp2_with fail
   go_ret
   exact ⟨dU HR.out,u.out⟩
  have HR:Hid (¬fA d place cs rs):=fun h=>h1 (by rw [←am,h.len,af.out])
  have d1:((rn:Int) != (cn:Int))=true:=by simp;omega
  clear h1 am
  go_enter Tryz.func50,Tryz.ntmps50
  go_upto_region 1 with fail
  generalize w.alloc (.cells (dv d) 36)=W9 at *
  clear x0 x1 x2 x3 lx
  go_wp2_with fail
  refine (qZ (pn:Int) cs CA cn cc _ (HC.out.below Z.out) ay.out).mono ?_
  rw [ae g]
  rintro _ wq ⟨rfl,D⟩
  have a1:=Hd (aD D ax.out)
  have HD:=Hd (aA Z.out D)
  clear D
  go_wp2_with fail
  go_ret
  exact ⟨aO HR.out,HD.out⟩
 have HR:Hid (¬fA d place cs rs):=fun h=>g h.conns
 rw [bj] at g
 clear am
 go_enter Tryz.func50,Tryz.ntmps50
 go_upto_region 1 with fail
 generalize w.alloc (.cells (dv d) 36)=W9 at *
 clear x0 x1 x2 x3 lx
 go_wp2_with fail
 refine (qZ (pn:Int) cs CA cn cc _ (HC.out.below Z.out) ay.out).mono ?_
 rw [bJ g]
 rintro _ wq ⟨rfl,D⟩
 have a1:=Hd (aD D ax.out)
 have HD:=Hd (aA Z.out D)
 clear D
 go_wp2_with fail
 go_ret
 exact ⟨aO HR.out,HD.out⟩
end Go.Proofs.YtofihjoanjkdmaaGreat
