/- Connections of blocks in the reference (printed by mkcns.py). -/
import Derived.Test.YtofihjoanjkdmaaGreatLayG7
import Derived.Test.YtofihjoanjkdmaaGreatLayS13
import Derived.Test.YtofihjoanjkdmaaGreatLayS5
namespace Go.Proofs.YtofihjoanjkdmaaGreat
set_option maxHeartbeats 8000000
set_option maxRecDepth 100000
open Go.RowKit
theorem mO (l:ai) (SA LA OA:Option Addr) (sn sc ln lc on oc:Nat) (bs:List Blk) (BA:Option Addr) (bn bc:Nat) (w:World) (h:fo w l SA LA OA sn sc ln lc on oc) (hB:RdC w w.heap.size (aa bs) (.slice BA bn bc)) (hp:fQ l bs) :
  Calls Tryz.prog 37 #[jI l SA LA OA sn sc ln lc on oc,.slice BA bn bc] w fun e w'=>∃A n c,e = .returned (.slice A n c)/\gF w.heap.size w'.heap.size w' (ag (eu l bs)) (.slice A n c)/\Below w.heap.size w w':=by
 have z:=Hd (aD (Below.refl w.heap.size w) (.cells (ak l SA LA OA sn sc ln lc on oc) 41))
 have D:=Hd (aI w (.cells (ak l SA LA OA sn sc ln lc on oc) 41))
 have bk:=hB.blkN
 obtain ⟨al,HB,HN,HP,HF,ax⟩:=hd6 bk hB h hp hp.net hp.fit
 have bZ:=hp.len
 rw [bk] at bZ
 have dk:Hid (∀i,i<=bn→(kr l bs i).length<=2 * i):=fun i hi=>qh ax.out (by rw [al.out];exact hi)
 have cH:Hid (∀b∈bs,b.les.length<=1048576):=fun b hb=>by have:=kH (ax.out b hb);omega
 clear hB bk h hp
 obtain ⟨c7,bG,bO,bx,bB⟩:=info_parts tN
 obtain ⟨cI,bC,bz,bS,bQ⟩:=info_parts zq
 obtain ⟨c5,b3,b6,bR,b7⟩:=info_parts xH
 have aO:=Hd (And.intro bG (And.intro bO (And.intro bx bB)))
 have aL:=Hd (And.intro bC (And.intro bz (And.intro bS bQ)))
 have aV:=Hd (And.intro b3 (And.intro b6 (And.intro bR b7)))
 clear bG bO bx bB bC bz bS bQ b3 b6 bR b7
 go_enter Tryz.func37,Tryz.ntmps37
 go_upto_region 1 with fail
 generalize w.alloc (.cells (ak l SA LA OA sn sc ln lc on oc) 41)=Y at *
 have a3:=Hd ((aJ.refl Y).pushNew 158 4)
 obtain ⟨x0,x1,x2,x3,lx⟩:=bX D.out
 go_wp2_with fail
 refine (kQ l SA LA OA sn sc ln lc on oc bs BA bn bc _ (HN.out.below (aA z.out a3.out.bel)) (HB.out.below (aA z.out a3.out.bel)) cH.out).mono ?_
 rw [ae HP.out]
 rintro _ w1 ⟨rfl,b1⟩
 have cP:=Hd (a3.out.below b1)
 have cr:=Hd (cP.out.pushNew 26 1)
 clear b1 x0 x1 x2 x3 lx
 go_wp2_with fail
 go_loopw [6,7] (fun v i wr=>∃(k:Nat) (A:Option Addr) (c:Nat),k<=bn/\i = .int .i64 (k:Int)/\v = .slice A k c/\aJ Y wr [.cel (ag []) (.slice (some ⟨Y.heap.size,0,none⟩) 0 0),.cel (bg ((bs.take k).map (iy l))) (.slice A k c)]) (fun _ i _=>bn - (intOf i).toNat)
 ·exact ⟨0,_,_,by omega,rfl,rfl,cr.out⟩
 obtain ⟨k,A1,cA,hk,rfl,rfl,hs⟩:=hrel
 have W:=Hd hs
 clear hs
 by_cases a4:k<bn
 ·have bl:=dT (by omega:k<bn)
  have H:k<bs.length:=by rw [al.out];exact a4
  obtain ⟨U,Q,EA,en,ec,aw,R,c0,c1,c2,r2⟩:=HB.out.blk (k:=k) H
  have a5:=Hd aw
  have J:=ax.out _ (List.getElem_mem H)
  rw [show bs[k]=bs[k]?.getD Blk.zero by rw [List.getElem?_eq_getElem H];rfl] at J
  have G:=Hd (show (bs.take (k+1)).map (iy l)=(bs.take k).map (iy l)++[iy l (bs[k]?.getD Blk.zero)] from by rw [mq H,List.map_append];rfl)
  clear H aw
  generalize bs[k]?.getD Blk.zero=b at *
  obtain ⟨kd,it,es⟩:=b
  simp only at c0 c1
  have HE:=Hd (show RdC w w.heap.size (cO es) (.slice EA en ec) from r2)
  have ay:es.length=en:=HE.out.esN
  have cY:en<=2:=by rw [←ay];exact kH J
  have a7:=Hd J.1
  obtain rfl:=a5.out
  obtain ⟨i0,i1⟩:=ib (by omega:k<bn)
  have B:Hid (∀w',Below Y.heap.size Y w'→(K4 w' w.heap.size (.int .i64 l.inputs) (.slice SA sn sc) (.slice LA ln lc) (.slice OA on oc) (w'.cell? ⟨U,Q+k * 3,none⟩=some (.int .i64 kd)/\w'.cell? ⟨U,Q+k * 3+1,none⟩=some (.int .i64 it)/\w'.cell? ⟨U,Q+k * 3+2,none⟩=some (.slice EA en ec)))):=fun v I=>⟨aF (k:=0) (aC I D.out) rfl,aF (k:=1) (aC I D.out) rfl,aF (k:=2) (aC I D.out) rfl,aF (k:=3) (aC I D.out) rfl,((aA z.out I).cell (p:=⟨U,Q+k * 3,none⟩) R).trans c0,((aA z.out I).cell (p:=⟨U,Q+k * 3+1,none⟩) R).trans c1,((aA z.out I).cell (p:=⟨U,Q+k * 3+2,none⟩) R).trans c2⟩
  clear r2 ay J c0 c1 c2
  obtain ⟨x0,x1,x2,x3,c0,c1,c2⟩:=B.out _ W.out.bel
  have lx:=aB (aC W.out.bel D.out)
  have bH:=aK (aA z.out W.out.bel) R
  have hS:=Hd W.out.drew
  have V:=hS.out.bel
  have a6:=Hd (fun (v:World) (I:Below Y.heap.size Y v)=>wM l SA LA OA sn sc ln lc on oc kd it es EA en ec v (HN.out.below (aA z.out I)) HF.out (HE.out.below (aA z.out I)) a7.out (by omega))
  go_upto_region 8 with fail
  go_region_held3 (fun w'=>K4 w' w.heap.size (.int .i64 l.inputs) (.slice SA sn sc) (.slice LA ln lc) (.slice OA on oc) (w'.cell? ⟨U,Q+k * 3,none⟩=some (.int .i64 kd)/\w'.cell? ⟨U,Q+k * 3+1,none⟩=some (.int .i64 it)/\w'.cell? ⟨U,Q+k * 3+2,none⟩=some (.slice EA en ec)))
   (first|with_reducible exact B.out _ V|with_reducible exact B.out _ (aD V _))
   ((first
    | (go_at_call 111;(with_reducible refine (a6.out _ V).mono ?_);rintro e5 w5 ⟨PA,pn,pc,rfl,op,b5⟩;replace V:=aA V b5;have cK:=Hd (si hS.out b5 op);clear b5 op)
    | (refine wH rfl _ _ 50 26 (by rfl) c7 _ 1 24 Tryz.underlying50 aO.out.1 aO.out.2.1 aO.out.2.2.1 aO.out.2.2.2 rfl (by decide) (by decide) _ (cK.out.alloc (.cells #[.slice PA pn pc] 26)) 2 0 (by decide) k cA _ A1 (((bs.take k).map (iy l)).map aG) _ #[.slice PA pn pc] _ rfl rfl (by rfl) (by rfl) (aI _ _) rfl (by omega) ?_;intro g9 aY w9 S9 az;have cQ:=Hd S9.tail;replace V:=S9.tail.bel;clear S9 az)))
  go_wp2_with fail
  go_roundw
  ·exact ⟨k+1,_,_,by omega,by go_num,rfl,by rw [G.out,xI];exact cQ.out⟩
  simp [intOf];omega
 have aT:k=bn:=by omega
 have bl:=dF (by omega:bn<=k)
 have G:Hid (bs.take k=bs):=by show _=_;rw [aT];exact List.take_of_length_le (by rw [al.out];exact Nat.le_refl _)
 rw [G.out] at W
 obtain ⟨u,aq⟩:∃u,bs.map (iy l)=u:=⟨_,rfl⟩
 rw [aq] at W
 have cm:=Hd aq
 have bU:Hid (u.length=bn):=by show _=_;rw [←aq,List.length_map,al.out]
 have c3:Hid (∀ps∈u,ps.length<=5):=fun ps hp=>by
  rw [←aq] at hp
  obtain ⟨b,hb,rfl⟩:=List.mem_map.1 hp
  exact yl HF.out (ax.out b hb)
 subst aT
 clear aq G
 have cM:=W
 clear W
 obtain ⟨PA,rfl⟩:∃y,y=A1:=⟨A1,rfl⟩
 obtain ⟨pc,rfl⟩:∃y,y=cA:=⟨cA,rfl⟩
 obtain ⟨bn,rfl⟩:∃y,y=k:=⟨k,rfl⟩
 go_wp2_with fail
 go_loopw [5,8] (fun v i wr=>∃(k:Nat) (A:Option Addr) (n c:Nat),k<=bn/\i = .int .i64 (k:Int)/\v = .slice A n c/\n<=2 * k/\aJ Y wr [.cel (ag (kr l bs k)) (.slice A n c),.cel (bg u) (.slice PA bn pc)]) (fun _ i _=>bn - (intOf i).toNat)
 ·exact ⟨0,_,0,_,by omega,rfl,rfl,by omega,cM.out⟩
 obtain ⟨k,A1,n1,cA,hk,rfl,rfl,dv,hs⟩:=hrel
 have W:=Hd hs
 clear hs
 by_cases a4:k<bn
 ·have bl:=dT (by omega:k<bn)
  have H:k<bs.length:=by rw [al.out];exact a4
  obtain ⟨U,Q,EA,en,ec,aw,R,c0,c1,c2,r2⟩:=HB.out.blk (k:=k) H
  have a5:=Hd aw
  have J:=ax.out _ (List.getElem_mem H)
  rw [show bs[k]=bs[k]?.getD Blk.zero by rw [List.getElem?_eq_getElem H];rfl] at J
  have a0:=ui J
  have G:=Hd (qP l bs k)
  rw [cm.out] at G
  clear H aw
  generalize bs[k]?.getD Blk.zero=b at *
  obtain ⟨kd,it,es⟩:=b
  simp only at c0 c1
  have HE:=Hd (show RdC w w.heap.size (cO es) (.slice EA en ec) from r2)
  have ay:es.length=en:=HE.out.esN
  have cY:en<=2:=by rw [←ay];exact kH J
  have a7:=Hd J.1
  obtain rfl:=a5.out
  obtain ⟨i0,i1⟩:=ib (by omega:k<bn)
  have B:Hid (∀w',Below Y.heap.size Y w'→(K4 w' w.heap.size (.int .i64 l.inputs) (.slice SA sn sc) (.slice LA ln lc) (.slice OA on oc) (w'.cell? ⟨U,Q+k * 3,none⟩=some (.int .i64 kd)/\w'.cell? ⟨U,Q+k * 3+1,none⟩=some (.int .i64 it)/\w'.cell? ⟨U,Q+k * 3+2,none⟩=some (.slice EA en ec)))):=fun v I=>⟨aF (k:=0) (aC I D.out) rfl,aF (k:=1) (aC I D.out) rfl,aF (k:=2) (aC I D.out) rfl,aF (k:=3) (aC I D.out) rfl,((aA z.out I).cell (p:=⟨U,Q+k * 3,none⟩) R).trans c0,((aA z.out I).cell (p:=⟨U,Q+k * 3+1,none⟩) R).trans c1,((aA z.out I).cell (p:=⟨U,Q+k * 3+2,none⟩) R).trans c2⟩
  clear r2 ay J c0 c1 c2
  obtain ⟨x0,x1,x2,x3,c0,c1,c2⟩:=B.out _ W.out.bel
  have lx:=aB (aC W.out.bel D.out)
  have bH:=aK (aA z.out W.out.bel) R
  have hS:=Hd W.out.drew
  have V:=hS.out.bel
  have a6:=Hd (fun (v:World) (I:Below Y.heap.size Y v)=>wL l SA LA OA sn sc ln lc on oc kd it es EA en ec v (HN.out.below (aA z.out I)) HF.out (HE.out.below (aA z.out I)) a7.out (by omega))
  go_upto_region 12 with fail
  go_region_held3 (fun w'=>K4 w' w.heap.size (.int .i64 l.inputs) (.slice SA sn sc) (.slice LA ln lc) (.slice OA on oc) (w'.cell? ⟨U,Q+k * 3,none⟩=some (.int .i64 kd)/\w'.cell? ⟨U,Q+k * 3+1,none⟩=some (.int .i64 it)/\w'.cell? ⟨U,Q+k * 3+2,none⟩=some (.slice EA en ec)))
   (first|with_reducible exact B.out _ V)
   ((first
    | (go_at_call 112;(with_reducible refine (a6.out _ V).mono ?_);rintro e5 w5 ⟨UA,un,uc,rfl,ou,b5⟩;replace V:=aA V b5;have bD:=Hd ou.len;have bY:=Hd (hS.out.pushOwn b5 ou);clear b5 ou)))
  have df:un<=2:=by rw [←bD.out];exact a0
  clear a0 bD hS V B x0 x1 x2 x3 lx c0 c1 c2 bH
  generalize jy l ⟨kd,it,es⟩=Z at *
  generalize kr l bs k=CT at *
  have cS:=Hd (bY.out.ints 2 rfl).1
  rw [cS.out] at G
  go_wp2_with fail
  go_loopw [5,10] (fun v i wr=>∃(p:Nat) (A:Option Addr) (n c:Nat),p<=un/\i = .int .i64 (p:Int)/\v = .slice A n c/\n<=2 * k+p/\aJ Y wr [.cel (ag (CT++iK u k Z p)) (.slice A n c),.cel (bg u) (.slice PA bn pc),.cel (aG Z) (.slice UA un uc)]) (fun _ i _=>un - (intOf i).toNat)
  ·exact ⟨0,_,_,_,by omega,rfl,rfl,by omega,by simpa [iK] using bY.out⟩
  obtain ⟨p,A2,n2,cB,hp,rfl,rfl,cL,hs⟩:=hrel
  have aR:=Hd hs
  clear hs
  by_cases a1:p<un
  ·have cz:=dT (by omega:p<un)
   obtain ⟨bu,ou,bK,cF,ar⟩:=(aR.out.ints 2 rfl).2 (by omega)
   have cC:=Hd bK
   have cu:=ar p a1
   have bh:=Hd (rJ u k Z p)
   obtain ⟨N,hN⟩:∃N,Z[p]?.getD 0=N:=⟨_,rfl⟩
   rw [hN] at cu bh
   have cw:=Hd hN
   obtain rfl:=cC.out
   clear ar bK hN
   obtain ⟨i2,i3⟩:=ib (by omega:p<un)
   have bE:Hid (aJ Y (wr.alloc (.cells #[.int .i64 N,.int .i64 (k:Int),.int .i64 (p:Int),.slice none 0 0] 158)) [.cel (ag (CT++iK u k Z p)) (.slice A2 n2 cB),.cel (bg u) (.slice PA bn pc),.cel (aG Z) (.slice (some ⟨bu,ou,none⟩) un uc),.blk wr.heap.size #[.int .i64 N,.int .i64 (k:Int),.int .i64 (p:Int),.slice none 0 0] 158,.cel (bL (gV u N 0)) (.slice none 0 0)]):=((aR.out.pushBlk _ _).pushNil 100 2)
   obtain ⟨gc,aS⟩:∃g,wr.heap.size=g:=⟨_,rfl⟩
   go_upto_region 17 with fail
   rw [aS] at bE
   (try rw [aS])
   have dj:=Hd aS
   clear aS cu cF
   generalize wr.alloc (.cells #[.int .i64 N,.int .i64 (k:Int),.int .i64 (p:Int),.slice none 0 0] 158)=W6 at *
   go_wp2_with fail
   go_loopw [12] (fun i wr=>∃(j:Nat) (SK:Option Addr) (m c:Nat),j<=bn/\i = .int .i64 (j:Int)/\m<=5 * j/\aJ Y wr [.cel (ag (CT++iK u k Z p)) (.slice A2 n2 cB),.cel (bg u) (.slice PA bn pc),.cel (aG Z) (.slice (some ⟨bu,ou,none⟩) un uc),.blk gc #[.int .i64 N,.int .i64 (k:Int),.int .i64 (p:Int),.slice SK m c] 158,.cel (bL (gV u N j)) (.slice SK m c)]) (fun i _=>bn - (intOf i).toNat)
   ·exact ⟨0,none,0,0,by omega,rfl,by omega,bE.out⟩
   obtain ⟨j,SK,m,mc,hj,rfl,hm,hs⟩:=hrel
   have af:=Hd hs
   clear hs
   by_cases b8:j<bn
   ·have cl:=dT (by omega:j<bn)
    have aZ:j<u.length:=by rw [bU.out];exact b8
    have h5:=c3.out _ (List.getElem_mem aZ)
    rw [show u[j]=u[j]?.getD [] by rw [List.getElem?_eq_getElem aZ];rfl] at h5
    have aQ:=Hd (sJ u N j)
    obtain ⟨qs,a9⟩:∃qs,u[j]?.getD []=qs:=⟨_,rfl⟩
    rw [a9] at aQ h5
    obtain ⟨cE,cv⟩:=hd2 a9 aZ
    clear aZ a9
    generalize gV u N j=SJ at *
    obtain ⟨i4,i5⟩:=ib (by omega:j<bn)
    go_wp2_with fail
    go_loopw [13] (fun i wr=>∃(q:Nat) (SK:Option Addr) (m c:Nat),q<=qs.length/\i = .int .i64 (q:Int)/\m<=5 * j+q/\aJ Y wr [.cel (ag (CT++iK u k Z p)) (.slice A2 n2 cB),.cel (bg u) (.slice PA bn pc),.cel (aG Z) (.slice (some ⟨bu,ou,none⟩) un uc),.blk gc #[.int .i64 N,.int .i64 (k:Int),.int .i64 (p:Int),.slice SK m c] 158,.cel (bL (SJ++nQ N j qs q)) (.slice SK m c)]) (fun i _=>qs.length - (intOf i).toNat)
    ·exact ⟨0,_,_,_,by omega,rfl,by omega,by simpa [nQ] using af.out⟩
    obtain ⟨q,SK,m,mc,hq,rfl,hm,hs⟩:=hrel
    have K:=Hd hs
    clear hs
    obtain ⟨bp,op,PT,pm,pp,bJ,bA,cp,rp⟩:=(K.out.rd 1 rfl).rowsR (k:=j) cv.out
    rw [cE.out] at rp
    obtain ⟨cX,cR⟩:=hd2 bJ rp.ints
    have dr:qs.length=pm:=rp.ints.1
    clear rp bJ
    obtain rfl:=cX.out
    by_cases bP:q<pm
    ·have ct:=dT (by omega:q<pm)
     obtain ⟨bq,oq,bV,b4,b9⟩:=cR.out.2 (by omega)
     have cV:=Hd bV
     have cq:=b9 q bP
     obtain ⟨b2,o2,bM,a2,ar⟩:=(K.out.ints 2 rfl).2 (by omega)
     obtain ⟨rfl,rfl⟩:bu=b2/\ou=o2:=by
      injection bM with h
      injection h with h1 h2
      exact ⟨h1,h2⟩
     have cu:=ar p a1
     rw [cw.out] at cu
     have b0:=Hd (vH N j qs q)
     clear b9 bV bM ar
     obtain rfl:=cV.out
     generalize qs[q]?.getD 0=y at *
     generalize nQ N j qs q=SQ at *
     obtain ⟨i6,i7⟩:=ib (by omega:q<pm)
     by_cases hy:y=N
     ·have dy:(y==N)=true:=by simp [hy]
      have HC:Hid (SJ++nQ N j qs (q+1)=SJ++SQ++[⟨(j:Int),(q:Int)⟩]):=by show _=_;rw [b0.out,if_pos hy,List.append_assoc]
      clear hy
      go_upto_region 23 with fail
      have au:=aX wr
      have bf:=aP wr
      refine wpB wr ?_
      repeat (go_big_quiet_step (fail))
      refine wpQuiet_nil ?_
      rintro wq ⟨⟨w5,V⟩,hw⟩
      replace hw:wq=w5:=hw
      subst hw
      have ad:=Hd (K.out.below V)
      clear au bf V cp bA cq b4 cu a2
      have av:=(ad.out.blk 3 rfl).1
      obtain ⟨-,-,-,z3,lz⟩:=bX av
      have cn:=Hd ((ad.out.consPin (j:Int) (q:Int)).alloc (.cells #[.int .i64 (j:Int),.int .i64 (q:Int)] 100))
      have dn:m<=1000:=by omega
      clear av
      go_wp2_with (at_builtin;refine jL rfl _ _ 156 100 rfl cI _ 2 16 Tryz.underlying156 aL.out.1 aL.out.2.1 aL.out.2.2.1 aL.out.2.2.2 rfl (by decide) (by decide) _ (cn.out) 5 0 (by decide) m mc _ SK ((SJ++SQ).flatMap ah.cells) _ #[.int .i64 (j:Int),.int .i64 (q:Int)] _ rfl rfl rfl rfl (aI _ _) rfl (by omega) ?_;intro g9 aY w9 S9 az;have bd:=Hd (S9.tail.blk 3 rfl).1;have l9:=aF (k:=3) bd.out rfl;have f9:=aW bd.out 3;have q9:=aB bd.out;have cW:=Hd (S9.tail.put 3 rfl 3 (.slice (some ⟨g9,0,none⟩) (m+1) aY));clear S9 az)
      go_roundw
      ·exact ⟨q+1,some ⟨g9,0,none⟩,m+1,aY,by omega,by go_num,by omega,by rw [HC.out];unfold bL;rw [xK];exact cW.out⟩
      simp [intOf];omega
     have dy:(y==N)=false:=by simp [hy]
     have HC:Hid (SJ++nQ N j qs (q+1)=SJ++SQ):=by show _=_;rw [b0.out,if_neg hy,List.append_nil]
     clear hy
     go_upto_region 23 with fail
     have au:=aX wr
     have bf:=aP wr
     refine wpB wr ?_
     repeat (go_big_quiet_step (fail))
     refine wpQuiet_nil ?_
     rintro wq ⟨⟨w5,V⟩,hw⟩
     replace hw:wq=w5:=hw
     subst hw
     have ad:=Hd (K.out.below V)
     clear au bf V cp bA cq b4 cu a2
     go_wp2_with fail
     go_roundw
     ·exact ⟨q+1,SK,m,mc,by omega,by go_num,by omega,by rw [HC.out];exact ad.out⟩
     simp [intOf];omega
    have bW:q=qs.length:=by omega
    have ct:=dF (by omega:pm<=q)
    rw [bW] at K hm
    clear bW
    go_wp2_with fail
    go_roundw
    ·exact ⟨j+1,SK,m,mc,by omega,by go_num,by omega,by rw [aQ.out];exact K.out⟩
    simp [intOf];omega
   have cU:j=bn:=by omega
   have cl:=dF (by omega:bn<=j)
   have aQ:Hid (gV u N j=gV u N u.length):=by show _=_;rw [bU.out,cU]
   rw [aQ.out] at af
   have av:=(af.out.blk 3 rfl).1
   obtain ⟨z0,z1,z2,z3,lz⟩:=bX av
   have c4:(gV u N u.length).length=m:=(af.out.rd 4 rfl).pinN
   clear av
   by_cases dg:m=0
   ·have dm:decide ((0:Int)<(m:Int))=false:=decide_eq_false (by omega)
    have cN:decide (0<m)=false:=decide_eq_false (by omega)
    have HC:Hid (iK u k Z (p+1)=iK u k Z p):=by show _=_;rw [bh.out];unfold vG;rw [if_pos (by omega),List.append_nil]
    have ap:=Hd (af.out.sub (qs:=[_,_,_]) (List.Sublist.cons_cons _ (List.Sublist.cons_cons _ (List.Sublist.cons_cons _ (List.nil_sublist _)))))
    go_wp2_with fail
    go_roundw
    ·exact ⟨p+1,_,_,_,by omega,by go_num,rfl,by omega,by rw [HC.out];exact ap.out⟩
    simp [intOf];omega
   have dm:decide ((0:Int)<(m:Int))=true:=decide_eq_true (by omega)
   have cN:decide (0<m)=true:=decide_eq_true (by omega)
   have HC:Hid (CT++iK u k Z (p+1)=CT++iK u k Z p++[⟨N,⟨(k:Int),(p:Int)⟩,gV u N u.length⟩]):=by show _=_;rw [bh.out];unfold vG;rw [if_neg (by omega),List.append_assoc]
   have ap:=Hd ((af.out.connCels 4 N (k:Int) (p:Int) rfl).alloc (.cells #[.int .i64 N,.int .i64 (k:Int),.int .i64 (p:Int),.slice SK m mc] 158))
   have dp:n2<=1000:=by omega
   clear c4
   go_wp2_with (at_builtin;refine jL rfl _ _ 43 158 rfl c5 _ 4 48 Tryz.underlying43 aV.out.1 aV.out.2.1 aV.out.2.2.1 aV.out.2.2.2 rfl (by decide) (by decide) _ (ap.out) 0 4 (by decide) n2 cB _ A2 ((CT++iK u k Z p).flatMap Cn.cells) _ #[.int .i64 N,.int .i64 (k:Int),.int .i64 (p:Int),.slice SK m mc] _ rfl rfl rfl rfl (aI _ _) rfl (by omega) ?_;intro g9 aY w9 S9 az;have cD:=Hd (S9.sub (qs:=[_,_,_]) (List.Sublist.cons_cons _ (List.Sublist.cons_cons _ (List.Sublist.cons_cons _ (List.nil_sublist _)))));clear S9 az)
   go_roundw
   ·exact ⟨p+1,_,_,_,by omega,by go_num,rfl,by omega,by rw [HC.out];unfold ag;rw [zw];exact cD.out⟩
   simp [intOf];omega
  have cx:p=un:=by omega
  have cz:=dF (by omega:un<=p)
  rw [cx] at aR cL
  have ap:=Hd (aR.out.sub (qs:=[_,_]) (List.Sublist.cons_cons _ (List.Sublist.cons_cons _ (List.nil_sublist _))))
  go_wp2_with fail
  go_roundw
  ·exact ⟨k+1,_,_,_,by omega,by go_num,rfl,by omega,by rw [G.out];exact ap.out⟩
  simp [intOf];omega
 have aT:k=bn:=by omega
 have bl:=dF (by omega:bn<=k)
 have G:Hid (kr l bs k=eu l bs):=by show _=_;rw [aT];unfold eu;rw [al.out]
 rw [G.out] at W
 go_wp2_with fail
 go_ret
 exact ⟨_,_,_,rfl,(W.out.tree 0 rfl).widen z.out.size (Nat.le_refl _),aA z.out W.out.bel⟩
theorem ko (xs bs:List Cn) (CA DA:Option Addr) (cn cc dn dc:Nat) (w:World) (hC:RdC w w.heap.size (ag xs) (.slice CA cn cc)) (D:RdC w w.heap.size (ag bs) (.slice DA dn dc)) (hn:cn<=1048576) (B:∀c∈xs,c.sinks.length<=1048576) :
  Calls Tryz.prog 36 #[.slice CA cn cc,.slice DA dn dc] w fun e w'=>e = .returned (.bool (tb (xs=bs)))/\Below w.heap.size w w':=by
 have al:=hC.cnN
 have ap:=D.cnN
 obtain ⟨aB,aT,HC,bo,bt⟩:=hd5 al ap hC D B
 clear hC D B
 by_cases aI:cn=dn
 ·subst aI
  have be:((cn:Int) != (cn:Int))=false:=by simp
  clear al ap
  go_enter Tryz.func36,Tryz.ntmps36
  go_wp2_with fail
  go_loopw [5] (fun i wr=>∃k:Nat,k<=cn/\i = .int .i64 (k:Int)/\Below w.heap.size w wr/\∀j,j<k→xs[j]?.getD Cn.zero=bs[j]?.getD Cn.zero) (fun i _=>cn - (intOf i).toNat)
  ·exact ⟨0,by omega,rfl,Below.refl _ _,fun j hj=>by omega⟩
  obtain ⟨k,hk,rfl,Y,I⟩:=hrel
  obtain ⟨g,ae⟩:=hd2 Y I
  clear Y I
  by_cases aQ:k<cn
  ·have br:=dT (by omega:k<cn)
   have ak:k<xs.length:=by rw [aB.out];exact aQ
   have a0:k<bs.length:=by rw [aT.out];exact aQ
   obtain ⟨bc,oc,SA,m,mc,aM,G,c0,c1,c2,c3,rs⟩:=HC.out.cn (k:=k) ak
   obtain ⟨bd,od,TA,m',bn,aW,B,W,U,d2,d3,rt⟩:=bo.out.cn (k:=k) a0
   obtain ⟨bm,bl⟩:=hd2 aM aW
   have ad:=aK g.out G
   have Z:=aK g.out B
   rw [←g.out.cell (p:=⟨bc,oc+k * 4,none⟩) G] at c0
   rw [←g.out.cell (p:=⟨bd,od+k * 4,none⟩) B] at W
   rw [←g.out.cell (p:=⟨bc,oc+k * 4+1,none⟩) G] at c1
   rw [←g.out.cell (p:=⟨bd,od+k * 4+1,none⟩) B] at U
   rw [←g.out.cell (p:=⟨bc,oc+k * 4+2,none⟩) G] at c2
   rw [←g.out.cell (p:=⟨bd,od+k * 4+2,none⟩) B] at d2
   rw [←g.out.cell (p:=⟨bc,oc+k * 4+3,none⟩) G] at c3
   rw [←g.out.cell (p:=⟨bd,od+k * 4+3,none⟩) B] at d3
   have hg:xs[k]?.getD Cn.zero=bs[k]?.getD Cn.zero→∀j,j<k+1→xs[j]?.getD Cn.zero=bs[j]?.getD Cn.zero:=fun h=>bU ae.out h
   have aN:xs=bs→xs[k]?.getD Cn.zero=bs[k]?.getD Cn.zero:=fun h=>by rw [h]
   have R:=bt.out _ (List.getElem_mem ak)
   rw [show xs[k]=xs[k]?.getD Cn.zero by rw [List.getElem?_eq_getElem ak];rfl] at R
   obtain ⟨HG,Q⟩:=hd2 hg aN
   clear ak a0 hg aN aM aW
   obtain rfl:=bm.out
   obtain rfl:=bl.out
   generalize xs[k]?.getD Cn.zero=a at *
   generalize bs[k]?.getD Cn.zero=b at *
   obtain ⟨N,⟨p,q⟩,ss⟩:=a
   obtain ⟨N',⟨p',q'⟩,ts⟩:=b
   simp only at c0 c1 c2 c3 W U d2 d3 R
   have aR:=Hd (show RdC w w.heap.size (bL ss) (.slice SA m mc) from rs)
   have a2:=Hd (show RdC w w.heap.size (bL ts) (.slice TA m' bn) from rt)
   have aj:Hid (ss.length=m):=aR.out.pinN
   have az:Hid (ts.length=m'):=a2.out.pinN
   have hm:m<=1048576:=by rw [←aj.out];exact R
   obtain ⟨i0,i1⟩:=ib (by omega:k<cn)
   clear rs rt R
   by_cases hN:N=N'
   ·subst hN
    have dN:(N != N)=false:=by simp
    by_cases aJ:p=p'/\q=q'
    ·obtain ⟨rfl,rfl⟩:=aJ
     by_cases aL:m=m'
     ·subst aL
      have dm:((m:Int) != (m:Int))=false:=by simp
      have bk:Hid (ss=ts→∀j,j<k+1→xs[j]?.getD Cn.zero=bs[j]?.getD Cn.zero):=fun h=>HG.out (by rw [h])
      clear HG
      go_upto_region 6 with fail
      have u:=aX wr
      have z:=aP wr
      refine wpB wr ?_
      repeat (go_big_quiet_step ((fail)))
      refine wpQuiet_nil ?_
      rintro _ ⟨⟨w5,D⟩,rfl⟩
      clear u z
      have H:=Hd (aA g.out D)
      clear D
      have bF:=Hd H.out
      have C3:=Hd ((g.out.cell (p:=⟨bc,oc+k * 4+3,none⟩) G).symm.trans c3)
      have D3:=Hd ((g.out.cell (p:=⟨bd,od+k * 4+3,none⟩) B).symm.trans d3)
      have ai:=(H.out.cell (p:=⟨bc,oc+k * 4+3,none⟩) G).trans (((g.out.cell (p:=⟨bc,oc+k * 4+3,none⟩) G)).symm.trans c3)
      have af:=(H.out.cell (p:=⟨bd,od+k * 4+3,none⟩) B).trans (((g.out.cell (p:=⟨bd,od+k * 4+3,none⟩) B)).symm.trans d3)
      have J:=aK H.out G
      have K:=aK H.out B
      clear c0 c1 c2 c3 W U d2 d3 ad Z
      go_wp2_with fail
      clear ai af J K
      go_loopw [6] (fun i wr=>∃j:Nat,j<=m/\i = .int .i64 (j:Int)/\Below w.heap.size w wr/\∀q,q<j→ss[q]?.getD ah.zero=ts[q]?.getD ah.zero) (fun i _=>m - (intOf i).toNat)
      ·exact ⟨0,by omega,rfl,H.out,fun q hq=>by omega⟩
      obtain ⟨j,hj,rfl,Y,I⟩:=hrel
      obtain ⟨g,aC⟩:=hd2 Y I
      clear Y I
      have ai:=(g.out.cell (p:=⟨bc,oc+k * 4+3,none⟩) G).trans C3.out
      have af:=(g.out.cell (p:=⟨bd,od+k * 4+3,none⟩) B).trans D3.out
      have J:=aK g.out G
      have K:=aK g.out B
      have bP:(0:Int)<=(j:Int):=by omega
      by_cases au:j<m
      ·have a9:=dT (by omega:j<m)
       have a3:j<ss.length:=by rw [aj.out];exact au
       have aY:j<ts.length:=by rw [az.out];exact au
       obtain ⟨bp,op,aU,aE,W,U⟩:=aR.out.pin (k:=j) a3
       obtain ⟨bq,oq,aZ,aF,e0,e1⟩:=a2.out.pin (k:=j) aY
       obtain ⟨bb,bg⟩:=hd2 aU aZ
       have av:=aK g.out aE
       have aH:=aK g.out aF
       rw [←g.out.cell (p:=⟨bp,op+j * 2,none⟩) aE] at W
       rw [←g.out.cell (p:=⟨bp,op+j * 2+1,none⟩) aE] at U
       rw [←g.out.cell (p:=⟨bq,oq+j * 2,none⟩) aF] at e0
       rw [←g.out.cell (p:=⟨bq,oq+j * 2+1,none⟩) aF] at e1
       have HG:Hid (ss[j]?.getD ah.zero=ts[j]?.getD ah.zero→∀q,q<j+1→ss[q]?.getD ah.zero=ts[q]?.getD ah.zero):=fun h=>bU aC.out h
       have HN:Hid (ss[j]?.getD ah.zero≠ts[j]?.getD ah.zero→xs≠bs):=fun h h'=>h (by
        have h2:=Q.out h'
        injection h2 with _ _ h3
        rw [h3])
       clear a3 aY aU aZ
       obtain rfl:=bb.out
       obtain rfl:=bg.out
       generalize ss[j]?.getD ah.zero=s at *
       generalize ts[j]?.getD ah.zero=t at *
       obtain ⟨x,y⟩:=s
       obtain ⟨x',y'⟩:=t
       simp only at W U e0 e1
       obtain ⟨i2,i3⟩:=ib (by omega:j<m)
       by_cases ay:x=x'/\y=y'
       ·obtain ⟨rfl,rfl⟩:=ay
        have aG:=Hd (HG.out rfl)
        clear HG HN
        go_upto_region 11 with fail
        have u:=aX wr
        have z:=aP wr
        refine wpB wr ?_
        repeat (go_big_quiet_step ((fail)))
        refine wpQuiet_nil ?_
        rintro _ ⟨⟨w5,D⟩,rfl⟩
        clear u z
        have H:=Hd (aA g.out D)
        clear D W U e0 e1 av aH ai af J K
        go_wp2_with fail
        go_roundw
        ·exact ⟨j+1,by omega,by go_num,H.out,aG.out⟩
        simp [intOf];omega
       have V:Hid (¬xs=bs):=HN.out fun h=>ay (by injection h with h1 h2;exact ⟨h1,h2⟩)
       clear HG HN
       by_cases hx:x=x'
       ·subst hx
        have dy:(y==y')=false:=by
         cases Y:y==y' with
         | false=>rfl
         | true=>exact absurd ⟨rfl,by simpa using Y⟩ ay
        go_upto_region 11 with fail
        have u:=aX wr
        have z:=aP wr
        refine wpB wr ?_
        repeat (go_big_quiet_step ((fail)))
        refine wpQuiet_nil ?_
        rintro _ ⟨⟨w5,D⟩,rfl⟩
        clear u z
        have H:=Hd (aA g.out D)
        clear D W U e0 e1 av aH ai af J K
        go_wp2_with fail
        go_ret
        exact ⟨aO V.out,H.out⟩
       have dx:(x==x')=false:=by
        cases Y:x==x' with
        | false=>rfl
        | true=>exact absurd (by simpa using Y) hx
       go_upto_region 11 with fail
       have u:=aX wr
       have z:=aP wr
       refine wpB wr ?_
       repeat (go_big_quiet_step ((fail)))
       refine wpQuiet_nil ?_
       rintro _ ⟨⟨w5,D⟩,rfl⟩
       clear u z
       have H:=Hd (aA g.out D)
       clear D W U e0 e1 av aH ai af J K
       go_wp2_with fail
       go_ret
       exact ⟨aO V.out,H.out⟩
      have a1:j=m:=by omega
      have a9:=dF (by omega:m<=j)
      have aG:=Hd (bk.out (by
       apply List.ext_getElem
       ·rw [aj.out,az.out]
       intro q h1 h2
       have h:=aC.out q (by rw [a1,←aj.out];exact h1)
       rwa [List.getElem?_eq_getElem h1,List.getElem?_eq_getElem h2] at h))
      clear aC a1
      go_wp2_with fail
      go_roundw
      ·exact ⟨k+1,by omega,by go_num,g.out,aG.out⟩
      simp [intOf];omega
     have V:Hid (¬xs=bs):=fun h=>aL (by
      have h2:=Q.out h
      injection h2 with _ _ h3
      rw [←aj.out,←az.out,h3])
     have dm:((m:Int) != (m':Int))=true:=by simp;omega
     clear HG Q aL
     go_upto_region 6 with fail
     have u:=aX wr
     have z:=aP wr
     refine wpB wr ?_
     repeat (go_big_quiet_step ((fail)))
     refine wpQuiet_nil ?_
     rintro _ ⟨⟨w5,D⟩,rfl⟩
     clear u z
     have H:=Hd (aA g.out D)
     clear D c0 c1 c2 c3 W U d2 d3 ad Z
     go_wp2_with fail
     go_ret
     exact ⟨aO V.out,H.out⟩
    have V:Hid (¬xs=bs):=fun h=>aJ (by
     have h2:=Q.out h
     injection h2 with _ h3 _
     injection h3 with h4 h5
     exact ⟨h4,h5⟩)
    clear HG Q
    by_cases hp:p=p'
    ·subst hp
     have dq:(q==q')=false:=by
      cases Y:q==q' with
      | false=>rfl
      | true=>exact absurd ⟨rfl,by simpa using Y⟩ aJ
     go_upto_region 6 with fail
     have u:=aX wr
     have z:=aP wr
     refine wpB wr ?_
     repeat (go_big_quiet_step ((fail)))
     refine wpQuiet_nil ?_
     rintro _ ⟨⟨w5,D⟩,rfl⟩
     clear u z
     have H:=Hd (aA g.out D)
     clear D c0 c1 c2 c3 W U d2 d3 ad Z
     go_wp2_with fail
     go_ret
     exact ⟨aO V.out,H.out⟩
    have dp:(p==p')=false:=by
     cases Y:p==p' with
     | false=>rfl
     | true=>exact absurd (by simpa using Y) hp
    go_upto_region 6 with fail
    have u:=aX wr
    have z:=aP wr
    refine wpB wr ?_
    repeat (go_big_quiet_step ((fail)))
    refine wpQuiet_nil ?_
    rintro _ ⟨⟨w5,D⟩,rfl⟩
    clear u z
    have H:=Hd (aA g.out D)
    clear D c0 c1 c2 c3 W U d2 d3 ad Z
    go_wp2_with fail
    go_ret
    exact ⟨aO V.out,H.out⟩
   have V:Hid (¬xs=bs):=fun h=>hN (by
    have h2:=Q.out h
    injection h2 with h3 _ _)
   have dN:(N != N')=true:=by simp [hN]
   clear HG Q hN
   go_upto_region 6 with fail
   have u:=aX wr
   have z:=aP wr
   refine wpB wr ?_
   repeat (go_big_quiet_step ((fail)))
   refine wpQuiet_nil ?_
   rintro _ ⟨⟨w5,D⟩,rfl⟩
   clear u z
   have H:=Hd (aA g.out D)
   clear D c0 c1 c2 c3 W U d2 d3 ad Z
   go_wp2_with fail
   go_ret
   exact ⟨aO V.out,H.out⟩
  have aV:k=cn:=by omega
  have br:=dF (by omega:cn<=k)
  have V:Hid (xs=bs):=by
   show xs=bs
   apply List.ext_getElem
   ·rw [aB.out,aT.out]
   intro q h1 h2
   have h:=ae.out q (by rw [aV,←aB.out];exact h1)
   rwa [List.getElem?_eq_getElem h1,List.getElem?_eq_getElem h2] at h
  clear ae aV
  go_wp2_with fail
  go_ret
  exact ⟨dU V.out,g.out⟩
 have V:Hid (¬xs=bs):=fun h=>aI (by rw [←al,←ap,h])
 have be:((cn:Int) != (dn:Int))=true:=by simp;omega
 clear al ap aI
 go_enter Tryz.func36,Tryz.ntmps36
 go_wp2_with fail
 go_ret
 exact ⟨aO V.out,Below.refl _ _⟩
theorem wB (d:Dev) (x:Lay) (SA LA OA BA CA PA RA:Option Addr) (sn sc ln lc on oc bn bc cn cc pn pc rn rc:Nat) (w:World) (hN:fo w x.net SA LA OA sn sc ln lc on oc) (hB:RdC w w.heap.size (aa x.blocks) (.slice BA bn bc)) (hC:RdC w w.heap.size (ag x.conns) (.slice CA cn cc)) (hP:RdC w w.heap.size (aG x.place) (.slice PA pn pc)) (hR:RdC w w.heap.size (bE x.routes) (.slice RA rn rc))
  (aR:bn<=1048576) (aH:cn<=1048576) (aV:pn<=pc) (aQ:pc<=1048576) (a4:∀b∈x.blocks,b.les.length<=1048576) (aZ:∀c∈x.conns,c.sinks.length<=1048576) (a2:∀r∈x.routes,r.nodes.length<=1048576/\r.from_.length<=1048576) :
  Calls Tryz.prog 8 #[.agg (dv d),sZ x SA LA OA BA CA PA RA sn sc ln lc on oc bn bc cn cc pn pc rn rc] w fun e w'=>e = .returned (.bool (tb (iQ d x)))/\Below w.heap.size w w':=by
 obtain ⟨HN,HB,HC,HP,a6,au,ap,aY⟩:=hd8 hN hB hC hP hR a4 aZ a2
 clear hN hB hC hP hR a4 aZ a2
 have u:=Hd (aD (aD (Below.refl w.heap.size w) (.cells (dv d) 36)) (.cells #[.int .i64 x.net.inputs,.slice SA sn sc,.slice LA ln lc,.slice OA on oc,.slice BA bn bc,.slice CA cn cc,.slice PA pn pc,.slice RA rn rc] 46))
 have hx:=bS (.cells #[.int .i64 x.net.inputs,.slice SA sn sc,.slice LA ln lc,.slice OA on oc,.slice BA bn bc,.slice CA cn cc,.slice PA pn pc,.slice RA rn rc] 46) (aI w (.cells (dv d) 36))
 have hy:=aI (w.alloc (.cells (dv d) 36)) (.cells #[.int .i64 x.net.inputs,.slice SA sn sc,.slice LA ln lc,.slice OA on oc,.slice BA bn bc,.slice CA cn cc,.slice PA pn pc,.slice RA rn rc] 46)
 simp only [World.size_alloc] at hy
 obtain ⟨ax,aB⟩:=hd2 hx hy
 clear hx hy
 by_cases aF:fQ x.net x.blocks
 ·have I:=Hd aF
  clear aF
  by_cases aL:x.conns=eu x.net x.blocks
  ·have R:=Hd aL
   clear aL
   by_cases ao:fA d (x.blocks.map Blk.kind) x.place
   ·have aq:=Hd ao
    clear ao
    by_cases aJ:d9 d x.place x.conns x.routes
    ·have az:=Hd aJ
     have HR:Hid (iQ d x):=⟨I.out,R.out,aq.out,az.out⟩
     clear aJ
     go_enter Tryz.func8,Tryz.ntmps8
     go_upto_region 1 with fail
     generalize (w.alloc (.cells (dv d) 36)).alloc (.cells #[.int .i64 x.net.inputs,.slice SA sn sc,.slice LA ln lc,.slice OA on oc,.slice BA bn bc,.slice CA cn cc,.slice PA pn pc,.slice RA rn rc] 46)=z at *
     obtain ⟨x0,W,x2,x3,H⟩:=bX ax.out
     obtain ⟨y0,y1,Z,y3,V,Y,y6,y7,D⟩:=j6 aB.out
     have j:Hid (∀w',Below z.heap.size z w'→(KD w' w.heap.size d (K8e w' (w.heap.size+1) (.int .i64 x.net.inputs) (.slice SA sn sc) (.slice LA ln lc) (.slice OA on oc) (.slice BA bn bc) (.slice CA cn cc) (.slice PA pn pc) (.slice RA rn rc)))):=fun v g=>⟨(g.cell (p:=⟨w.heap.size,0,none⟩) H).trans x0,(g.cell (p:=⟨w.heap.size,1,none⟩) H).trans W,(g.cell (p:=⟨w.heap.size,2,none⟩) H).trans x2,(g.cell (p:=⟨w.heap.size,3,none⟩) H).trans x3,(g.cell (p:=⟨w.heap.size+1,0,none⟩) D).trans y0,(g.cell (p:=⟨w.heap.size+1,1,none⟩) D).trans y1,(g.cell (p:=⟨w.heap.size+1,2,none⟩) D).trans Z,(g.cell (p:=⟨w.heap.size+1,3,none⟩) D).trans y3,(g.cell (p:=⟨w.heap.size+1,4,none⟩) D).trans V,(g.cell (p:=⟨w.heap.size+1,5,none⟩) D).trans Y,(g.cell (p:=⟨w.heap.size+1,6,none⟩) D).trans y6,(g.cell (p:=⟨w.heap.size+1,7,none⟩) D).trans y7⟩
     have q:=(Below.refl z.heap.size z).drew
     have J:=Hd (fun (v:World) (g:Below z.heap.size z v)=>(by have h:=kQ x.net SA LA OA sn sc ln lc on oc x.blocks BA bn bc v (HN.out.below (aA u.out g)) (HB.out.below (aA u.out g)) au.out;rwa [ae I.out] at h:Calls Tryz.prog 35 #[jI x.net SA LA OA sn sc ln lc on oc,.slice BA bn bc] v fun e w'=>e = .returned (.bool true)/\Below v.heap.size v w'))
     have Q:=Hd (fun (v:World) (g:Below z.heap.size z v)=>mO x.net SA LA OA sn sc ln lc on oc x.blocks BA bn bc v (HN.out.below (aA u.out g)) (HB.out.below (aA u.out g)) I.out)
     have U:=Hd (fun (v:World) (g:Below z.heap.size z v) (A:Option Addr) (n c:Nat) (h:RdC v v.heap.size (ag (eu x.net x.blocks)) (.slice A n c))=>(by have h:=ko x.conns (eu x.net x.blocks) CA A cn cc n c v (HC.out.below (aA u.out g)) h aH ap.out;rwa [ae R.out] at h:Calls Tryz.prog 36 #[.slice CA cn cc,.slice A n c] v fun e w'=>e = .returned (.bool true)/\Below v.heap.size v w'))
     have av:=Hd (fun (v:World) (g:Below z.heap.size z v)=>qC x.blocks BA bn bc v (HB.out.below (aA u.out g)) aR)
     have ay:=Hd (fun (v:World) (g:Below z.heap.size z v) (A:Option Addr) (c:Nat) (h:dE v A bn (x.blocks.map Blk.kind))=>(by have h:=qD d (x.blocks.map Blk.kind) x.place A PA bn c pn pc v h (HP.out.ints.below (aA u.out g)) aV aQ;rwa [ae aq.out] at h:Calls Tryz.prog 38 #[.agg (dv d),.slice A bn c,.slice PA pn pc] v fun e w'=>e = .returned (.bool true)/\Below v.heap.size v w'))
     have aT:=Hd (fun (v:World) (g:Below z.heap.size z v)=>(by have h:=qw d x.place x.conns x.routes PA CA RA pn pc cn cc rn rc v (HP.out.ints.below (aA u.out g)) (HC.out.below (aA u.out g)) (a6.out.below (aA u.out g)) (by omega) ap.out aY.out;rwa [ae az.out] at h:Calls Tryz.prog 40 #[.agg (dv d),.slice PA pn pc,.slice CA cn cc,.slice RA rn rc] v fun e w'=>e = .returned (.bool true)/\Below v.heap.size v w'))
     go_region_held3 (fun w'=>KD w' w.heap.size d (K8e w' (w.heap.size+1) (.int .i64 x.net.inputs) (.slice SA sn sc) (.slice LA ln lc) (.slice OA on oc) (.slice BA bn bc) (.slice CA cn cc) (.slice PA pn pc) (.slice RA rn rc)))
      (first|exact j.out _ q)
      ((first
      | (go_at_call 35;(with_reducible refine (J.out _ q).mono ?_);rintro _ w5 ⟨rfl,B⟩;replace q:=aA q B;clear B)
      | (go_at_call 37;(with_reducible refine (Q.out _ q).mono ?_);rintro e5 w5 ⟨A5,n5,c5,rfl,o5,B⟩;have O5:=Hd o5.rd;clear o5;replace q:=aA q B;clear B)
      | (go_at_call 36;(with_reducible refine (U.out _ q A5 n5 c5 O5.out).mono ?_);rintro _ w6 ⟨rfl,B⟩;replace q:=aA q B;clear B)
      | (go_at_call 39;(with_reducible refine (av.out _ q).mono ?_);rintro e7 w7 ⟨A7,c7,rfl,o7,B⟩;have O7:=Hd o7.ints;clear o7;replace q:=aA q B;clear B)
      | (go_at_call 38;(with_reducible refine (ay.out _ q A7 c7 O7.out).mono ?_);rintro _ w8 ⟨rfl,B⟩;replace q:=aA q B;clear B)
      | (go_at_call 40;(with_reducible refine (aT.out _ q).mono ?_);rintro _ w4 ⟨rfl,B⟩;replace q:=aA q B;clear B)))
     have HD:=Hd (aA u.out q)
     clear q x0 W x2 x3 H y0 y1 Z y3 V Y y6 y7 D j
     go_wp2_with fail
     go_ret
     exact ⟨dU HR.out,HD.out⟩
    have az:=Hd aJ
    have HR:Hid (¬iQ d x):=fun h=>az.out h.routes
    clear aJ
    go_enter Tryz.func8,Tryz.ntmps8
    go_upto_region 1 with fail
    generalize (w.alloc (.cells (dv d) 36)).alloc (.cells #[.int .i64 x.net.inputs,.slice SA sn sc,.slice LA ln lc,.slice OA on oc,.slice BA bn bc,.slice CA cn cc,.slice PA pn pc,.slice RA rn rc] 46)=z at *
    obtain ⟨x0,W,x2,x3,H⟩:=bX ax.out
    obtain ⟨y0,y1,Z,y3,V,Y,y6,y7,D⟩:=j6 aB.out
    have j:Hid (∀w',Below z.heap.size z w'→(KD w' w.heap.size d (K8e w' (w.heap.size+1) (.int .i64 x.net.inputs) (.slice SA sn sc) (.slice LA ln lc) (.slice OA on oc) (.slice BA bn bc) (.slice CA cn cc) (.slice PA pn pc) (.slice RA rn rc)))):=fun v g=>⟨(g.cell (p:=⟨w.heap.size,0,none⟩) H).trans x0,(g.cell (p:=⟨w.heap.size,1,none⟩) H).trans W,(g.cell (p:=⟨w.heap.size,2,none⟩) H).trans x2,(g.cell (p:=⟨w.heap.size,3,none⟩) H).trans x3,(g.cell (p:=⟨w.heap.size+1,0,none⟩) D).trans y0,(g.cell (p:=⟨w.heap.size+1,1,none⟩) D).trans y1,(g.cell (p:=⟨w.heap.size+1,2,none⟩) D).trans Z,(g.cell (p:=⟨w.heap.size+1,3,none⟩) D).trans y3,(g.cell (p:=⟨w.heap.size+1,4,none⟩) D).trans V,(g.cell (p:=⟨w.heap.size+1,5,none⟩) D).trans Y,(g.cell (p:=⟨w.heap.size+1,6,none⟩) D).trans y6,(g.cell (p:=⟨w.heap.size+1,7,none⟩) D).trans y7⟩
    have q:=(Below.refl z.heap.size z).drew
    have J:=Hd (fun (v:World) (g:Below z.heap.size z v)=>(by have h:=kQ x.net SA LA OA sn sc ln lc on oc x.blocks BA bn bc v (HN.out.below (aA u.out g)) (HB.out.below (aA u.out g)) au.out;rwa [ae I.out] at h:Calls Tryz.prog 35 #[jI x.net SA LA OA sn sc ln lc on oc,.slice BA bn bc] v fun e w'=>e = .returned (.bool true)/\Below v.heap.size v w'))
    have Q:=Hd (fun (v:World) (g:Below z.heap.size z v)=>mO x.net SA LA OA sn sc ln lc on oc x.blocks BA bn bc v (HN.out.below (aA u.out g)) (HB.out.below (aA u.out g)) I.out)
    have U:=Hd (fun (v:World) (g:Below z.heap.size z v) (A:Option Addr) (n c:Nat) (h:RdC v v.heap.size (ag (eu x.net x.blocks)) (.slice A n c))=>(by have h:=ko x.conns (eu x.net x.blocks) CA A cn cc n c v (HC.out.below (aA u.out g)) h aH ap.out;rwa [ae R.out] at h:Calls Tryz.prog 36 #[.slice CA cn cc,.slice A n c] v fun e w'=>e = .returned (.bool true)/\Below v.heap.size v w'))
    have av:=Hd (fun (v:World) (g:Below z.heap.size z v)=>qC x.blocks BA bn bc v (HB.out.below (aA u.out g)) aR)
    have ay:=Hd (fun (v:World) (g:Below z.heap.size z v) (A:Option Addr) (c:Nat) (h:dE v A bn (x.blocks.map Blk.kind))=>(by have h:=qD d (x.blocks.map Blk.kind) x.place A PA bn c pn pc v h (HP.out.ints.below (aA u.out g)) aV aQ;rwa [ae aq.out] at h:Calls Tryz.prog 38 #[.agg (dv d),.slice A bn c,.slice PA pn pc] v fun e w'=>e = .returned (.bool true)/\Below v.heap.size v w'))
    have aT:=Hd (fun (v:World) (g:Below z.heap.size z v)=>(by have h:=qw d x.place x.conns x.routes PA CA RA pn pc cn cc rn rc v (HP.out.ints.below (aA u.out g)) (HC.out.below (aA u.out g)) (a6.out.below (aA u.out g)) (by omega) ap.out aY.out;rwa [bJ az.out] at h:Calls Tryz.prog 40 #[.agg (dv d),.slice PA pn pc,.slice CA cn cc,.slice RA rn rc] v fun e w'=>e = .returned (.bool false)/\Below v.heap.size v w'))
    go_region_held3 (fun w'=>KD w' w.heap.size d (K8e w' (w.heap.size+1) (.int .i64 x.net.inputs) (.slice SA sn sc) (.slice LA ln lc) (.slice OA on oc) (.slice BA bn bc) (.slice CA cn cc) (.slice PA pn pc) (.slice RA rn rc)))
     (first|exact j.out _ q)
     ((first
     | (go_at_call 35;(with_reducible refine (J.out _ q).mono ?_);rintro _ w5 ⟨rfl,B⟩;replace q:=aA q B;clear B)
     | (go_at_call 37;(with_reducible refine (Q.out _ q).mono ?_);rintro e5 w5 ⟨A5,n5,c5,rfl,o5,B⟩;have O5:=Hd o5.rd;clear o5;replace q:=aA q B;clear B)
     | (go_at_call 36;(with_reducible refine (U.out _ q A5 n5 c5 O5.out).mono ?_);rintro _ w6 ⟨rfl,B⟩;replace q:=aA q B;clear B)
     | (go_at_call 39;(with_reducible refine (av.out _ q).mono ?_);rintro e7 w7 ⟨A7,c7,rfl,o7,B⟩;have O7:=Hd o7.ints;clear o7;replace q:=aA q B;clear B)
     | (go_at_call 38;(with_reducible refine (ay.out _ q A7 c7 O7.out).mono ?_);rintro _ w8 ⟨rfl,B⟩;replace q:=aA q B;clear B)
     | (go_at_call 40;(with_reducible refine (aT.out _ q).mono ?_);rintro _ w4 ⟨rfl,B⟩;replace q:=aA q B;clear B)))
    have HD:=Hd (aA u.out q)
    clear q x0 W x2 x3 H y0 y1 Z y3 V Y y6 y7 D j
    go_wp2_with fail
    go_ret
    exact ⟨aO HR.out,HD.out⟩
   have aq:=Hd ao
   have HR:Hid (¬iQ d x):=fun h=>aq.out h.place
   clear ao
   go_enter Tryz.func8,Tryz.ntmps8
   go_upto_region 1 with fail
   generalize (w.alloc (.cells (dv d) 36)).alloc (.cells #[.int .i64 x.net.inputs,.slice SA sn sc,.slice LA ln lc,.slice OA on oc,.slice BA bn bc,.slice CA cn cc,.slice PA pn pc,.slice RA rn rc] 46)=z at *
   obtain ⟨x0,W,x2,x3,H⟩:=bX ax.out
   obtain ⟨y0,y1,Z,y3,V,Y,y6,y7,D⟩:=j6 aB.out
   have j:Hid (∀w',Below z.heap.size z w'→(KD w' w.heap.size d (K8e w' (w.heap.size+1) (.int .i64 x.net.inputs) (.slice SA sn sc) (.slice LA ln lc) (.slice OA on oc) (.slice BA bn bc) (.slice CA cn cc) (.slice PA pn pc) (.slice RA rn rc)))):=fun v g=>⟨(g.cell (p:=⟨w.heap.size,0,none⟩) H).trans x0,(g.cell (p:=⟨w.heap.size,1,none⟩) H).trans W,(g.cell (p:=⟨w.heap.size,2,none⟩) H).trans x2,(g.cell (p:=⟨w.heap.size,3,none⟩) H).trans x3,(g.cell (p:=⟨w.heap.size+1,0,none⟩) D).trans y0,(g.cell (p:=⟨w.heap.size+1,1,none⟩) D).trans y1,(g.cell (p:=⟨w.heap.size+1,2,none⟩) D).trans Z,(g.cell (p:=⟨w.heap.size+1,3,none⟩) D).trans y3,(g.cell (p:=⟨w.heap.size+1,4,none⟩) D).trans V,(g.cell (p:=⟨w.heap.size+1,5,none⟩) D).trans Y,(g.cell (p:=⟨w.heap.size+1,6,none⟩) D).trans y6,(g.cell (p:=⟨w.heap.size+1,7,none⟩) D).trans y7⟩
   have q:=(Below.refl z.heap.size z).drew
   have J:=Hd (fun (v:World) (g:Below z.heap.size z v)=>(by have h:=kQ x.net SA LA OA sn sc ln lc on oc x.blocks BA bn bc v (HN.out.below (aA u.out g)) (HB.out.below (aA u.out g)) au.out;rwa [ae I.out] at h:Calls Tryz.prog 35 #[jI x.net SA LA OA sn sc ln lc on oc,.slice BA bn bc] v fun e w'=>e = .returned (.bool true)/\Below v.heap.size v w'))
   have Q:=Hd (fun (v:World) (g:Below z.heap.size z v)=>mO x.net SA LA OA sn sc ln lc on oc x.blocks BA bn bc v (HN.out.below (aA u.out g)) (HB.out.below (aA u.out g)) I.out)
   have U:=Hd (fun (v:World) (g:Below z.heap.size z v) (A:Option Addr) (n c:Nat) (h:RdC v v.heap.size (ag (eu x.net x.blocks)) (.slice A n c))=>(by have h:=ko x.conns (eu x.net x.blocks) CA A cn cc n c v (HC.out.below (aA u.out g)) h aH ap.out;rwa [ae R.out] at h:Calls Tryz.prog 36 #[.slice CA cn cc,.slice A n c] v fun e w'=>e = .returned (.bool true)/\Below v.heap.size v w'))
   have av:=Hd (fun (v:World) (g:Below z.heap.size z v)=>qC x.blocks BA bn bc v (HB.out.below (aA u.out g)) aR)
   have ay:=Hd (fun (v:World) (g:Below z.heap.size z v) (A:Option Addr) (c:Nat) (h:dE v A bn (x.blocks.map Blk.kind))=>(by have h:=qD d (x.blocks.map Blk.kind) x.place A PA bn c pn pc v h (HP.out.ints.below (aA u.out g)) aV aQ;rwa [bJ aq.out] at h:Calls Tryz.prog 38 #[.agg (dv d),.slice A bn c,.slice PA pn pc] v fun e w'=>e = .returned (.bool false)/\Below v.heap.size v w'))
   refine wp_region_held_drew (S:=(fun w'=>KD w' w.heap.size d (K8e w' (w.heap.size+1) (.int .i64 x.net.inputs) (.slice SA sn sc) (.slice LA ln lc) (.slice OA on oc) (.slice BA bn bc) (.slice CA cn cc) (.slice PA pn pc) (.slice RA rn rc)))) (by kernel_rfl) ?_ (fun hHeld=>?_)
   ·(try dsimp only)
    first|exact j.out _ q
   refine onW 0 opA hHeld ?_
   refine onW 1 (opB opA) hHeld ?_
   refine onW 2 (opB (opB opA)) hHeld ?_
   refine onW 3 (opB (opB (opB opA))) hHeld ?_
   refine iZ (i:=4) (opC opA) (fun K G=>?_)
   go_simp
   (go_at_call 35;(with_reducible refine (J.out _ q).mono ?_);rintro _ w5 ⟨rfl,B⟩;replace q:=aA q B;clear B)
   first|refine G.out _ _ ?_ (fun hHeld=>?_)|(go_wp2_with fail;refine G.out _ _ ?_ (fun hHeld=>?_))
   ·(try dsimp only)
    first|exact j.out _ q
   clear G K
   try simp only [Act.put,List.setIfInBounds_toArray,List.set_cons_zero,List.set_cons_succ]
   refine onW 5 (opC (opB opA)) hHeld ?_
   refine onW 6 (opC (opB (opB opA))) hHeld ?_
   refine onW 7 (opC (opB (opB (opB opA)))) hHeld ?_
   refine onW 8 (opC (opC opA)) hHeld ?_
   refine onW 9 (opC (opC (opB opA))) hHeld ?_
   refine onW 10 (opC (opC (opB (opB opA)))) hHeld ?_
   refine onW 11 (opC (opC (opB (opB (opB opA))))) hHeld ?_
   refine iZ (i:=12) (opC (opC (opC opA))) (fun K G=>?_)
   go_simp
   (go_at_call 37;(with_reducible refine (Q.out _ q).mono ?_);rintro e5 w5 ⟨A5,n5,c5,rfl,o5,B⟩;have O5:=Hd o5.rd;clear o5;replace q:=aA q B;clear B)
   first|refine G.out _ _ ?_ (fun hHeld=>?_)|(go_wp2_with fail;refine G.out _ _ ?_ (fun hHeld=>?_))
   ·(try dsimp only)
    first|exact j.out _ q
   clear G K
   try simp only [Act.put,List.setIfInBounds_toArray,List.set_cons_zero,List.set_cons_succ]
   refine iZ (i:=13) (opC (opC (opC (opB opA)))) (fun K G=>?_)
   go_simp
   (go_at_call 36;(with_reducible refine (U.out _ q A5 n5 c5 O5.out).mono ?_);rintro _ w6 ⟨rfl,B⟩;replace q:=aA q B;clear B)
   first|refine G.out _ _ ?_ (fun hHeld=>?_)|(go_wp2_with fail;refine G.out _ _ ?_ (fun hHeld=>?_))
   ·(try dsimp only)
    first|exact j.out _ q
   clear G K
   try simp only [Act.put,List.setIfInBounds_toArray,List.set_cons_zero,List.set_cons_succ]
   refine onW 14 (opC (opC (opC (opB (opB opA))))) hHeld ?_
   refine onW 15 (opC (opC (opC (opB (opB (opB opA)))))) hHeld ?_
   refine onW 16 (opD opA) hHeld ?_
   refine onW 17 (opD (opB opA)) hHeld ?_
   refine onW 18 (opD (opB (opB opA))) hHeld ?_
   refine onW 20 (opD (opC opA)) hHeld ?_
   refine onW 21 (opD (opC (opB opA))) hHeld ?_
   refine iZ (i:=19) (opD (opB (opB (opB opA)))) (fun K G=>?_)
   go_simp
   (go_at_call 39;(with_reducible refine (av.out _ q).mono ?_);rintro e7 w7 ⟨A7,c7,rfl,o7,B⟩;have O7:=Hd o7.ints;clear o7;replace q:=aA q B;clear B)
   first|refine G.out _ _ ?_ (fun hHeld=>?_)|(go_wp2_with fail;refine G.out _ _ ?_ (fun hHeld=>?_))
   ·(try dsimp only)
    first|exact j.out _ q
   clear G K
   try simp only [Act.put,List.setIfInBounds_toArray,List.set_cons_zero,List.set_cons_succ]
   refine iZ (i:=22) (opD (opC (opB (opB opA)))) (fun K G=>?_)
   go_simp
   (go_at_call 38;(with_reducible refine (ay.out _ q A7 c7 O7.out).mono ?_);rintro _ w8 ⟨rfl,B⟩;replace q:=aA q B;clear B)
   first|refine G.out _ _ ?_ (fun hHeld=>?_)|(go_wp2_with fail;refine G.out _ _ ?_ (fun hHeld=>?_))
   ·(try dsimp only)
    first|exact j.out _ q
   clear G K
   try simp only [Act.put,List.setIfInBounds_toArray,List.set_cons_zero,List.set_cons_succ]
   refine onW 23 (opD (opC (opB (opB (opB opA))))) hHeld ?_
   refine onW 24 (opD (opC (opC opA))) hHeld ?_
   refine bW 25 (opD (opC (opC (opB opA)))) hHeld ?_
   refine bW 26 (opD (opC (opC (opB (opB opA))))) hHeld ?_
   refine bW 27 (opD (opC (opC (opB (opB (opB opA)))))) hHeld ?_
   refine bW 28 (opD (opC (opC (opC opA)))) hHeld ?_
   refine bW 29 (opD (opC (opC (opC (opB opA))))) hHeld ?_
   refine bW 30 (opD (opC (opC (opC (opB (opB opA)))))) hHeld ?_
   refine bW 31 (opD (opC (opC (opC (opB (opB (opB opA))))))) hHeld ?_
   refine bW 32 (opD (opD opA)) hHeld ?_
   refine onW 33 (opD (opD (opB opA))) hHeld ?_
   refine onW 34 (opD (opD (opB (opB opA)))) hHeld ?_
   refine wpAnyH_done (by kernel_rfl) ?_ _
   have HD:=Hd (aA u.out q)
   clear q x0 W x2 x3 H y0 y1 Z y3 V Y y6 y7 D j
   go_wp2_with fail
   go_ret
   exact ⟨aO HR.out,HD.out⟩
  have R:=Hd aL
  have HR:Hid (¬iQ d x):=fun h=>R.out h.conns
  clear aL
  go_enter Tryz.func8,Tryz.ntmps8
  go_upto_region 1 with fail
  generalize (w.alloc (.cells (dv d) 36)).alloc (.cells #[.int .i64 x.net.inputs,.slice SA sn sc,.slice LA ln lc,.slice OA on oc,.slice BA bn bc,.slice CA cn cc,.slice PA pn pc,.slice RA rn rc] 46)=z at *
  obtain ⟨x0,W,x2,x3,H⟩:=bX ax.out
  obtain ⟨y0,y1,Z,y3,V,Y,y6,y7,D⟩:=j6 aB.out
  have j:Hid (∀w',Below z.heap.size z w'→(KD w' w.heap.size d (K8e w' (w.heap.size+1) (.int .i64 x.net.inputs) (.slice SA sn sc) (.slice LA ln lc) (.slice OA on oc) (.slice BA bn bc) (.slice CA cn cc) (.slice PA pn pc) (.slice RA rn rc)))):=fun v g=>⟨(g.cell (p:=⟨w.heap.size,0,none⟩) H).trans x0,(g.cell (p:=⟨w.heap.size,1,none⟩) H).trans W,(g.cell (p:=⟨w.heap.size,2,none⟩) H).trans x2,(g.cell (p:=⟨w.heap.size,3,none⟩) H).trans x3,(g.cell (p:=⟨w.heap.size+1,0,none⟩) D).trans y0,(g.cell (p:=⟨w.heap.size+1,1,none⟩) D).trans y1,(g.cell (p:=⟨w.heap.size+1,2,none⟩) D).trans Z,(g.cell (p:=⟨w.heap.size+1,3,none⟩) D).trans y3,(g.cell (p:=⟨w.heap.size+1,4,none⟩) D).trans V,(g.cell (p:=⟨w.heap.size+1,5,none⟩) D).trans Y,(g.cell (p:=⟨w.heap.size+1,6,none⟩) D).trans y6,(g.cell (p:=⟨w.heap.size+1,7,none⟩) D).trans y7⟩
  have q:=(Below.refl z.heap.size z).drew
  have J:=Hd (fun (v:World) (g:Below z.heap.size z v)=>(by have h:=kQ x.net SA LA OA sn sc ln lc on oc x.blocks BA bn bc v (HN.out.below (aA u.out g)) (HB.out.below (aA u.out g)) au.out;rwa [ae I.out] at h:Calls Tryz.prog 35 #[jI x.net SA LA OA sn sc ln lc on oc,.slice BA bn bc] v fun e w'=>e = .returned (.bool true)/\Below v.heap.size v w'))
  have Q:=Hd (fun (v:World) (g:Below z.heap.size z v)=>mO x.net SA LA OA sn sc ln lc on oc x.blocks BA bn bc v (HN.out.below (aA u.out g)) (HB.out.below (aA u.out g)) I.out)
  have U:=Hd (fun (v:World) (g:Below z.heap.size z v) (A:Option Addr) (n c:Nat) (h:RdC v v.heap.size (ag (eu x.net x.blocks)) (.slice A n c))=>(by have h:=ko x.conns (eu x.net x.blocks) CA A cn cc n c v (HC.out.below (aA u.out g)) h aH ap.out;rwa [bJ R.out] at h:Calls Tryz.prog 36 #[.slice CA cn cc,.slice A n c] v fun e w'=>e = .returned (.bool false)/\Below v.heap.size v w'))
  refine wp_region_held_drew (S:=(fun w'=>KD w' w.heap.size d (K8e w' (w.heap.size+1) (.int .i64 x.net.inputs) (.slice SA sn sc) (.slice LA ln lc) (.slice OA on oc) (.slice BA bn bc) (.slice CA cn cc) (.slice PA pn pc) (.slice RA rn rc)))) (by kernel_rfl) ?_ (fun hHeld=>?_)
  ·(try dsimp only)
   first|exact j.out _ q
  refine onW 0 opA hHeld ?_
  refine onW 1 (opB opA) hHeld ?_
  refine onW 2 (opB (opB opA)) hHeld ?_
  refine onW 3 (opB (opB (opB opA))) hHeld ?_
  refine iZ (i:=4) (opC opA) (fun K G=>?_)
  go_simp
  (go_at_call 35;(with_reducible refine (J.out _ q).mono ?_);rintro _ w5 ⟨rfl,B⟩;replace q:=aA q B;clear B)
  first|refine G.out _ _ ?_ (fun hHeld=>?_)|(go_wp2_with fail;refine G.out _ _ ?_ (fun hHeld=>?_))
  ·(try dsimp only)
   first|exact j.out _ q
  clear G K
  try simp only [Act.put,List.setIfInBounds_toArray,List.set_cons_zero,List.set_cons_succ]
  refine onW 5 (opC (opB opA)) hHeld ?_
  refine onW 6 (opC (opB (opB opA))) hHeld ?_
  refine onW 7 (opC (opB (opB (opB opA)))) hHeld ?_
  refine onW 8 (opC (opC opA)) hHeld ?_
  refine onW 9 (opC (opC (opB opA))) hHeld ?_
  refine onW 10 (opC (opC (opB (opB opA)))) hHeld ?_
  refine onW 11 (opC (opC (opB (opB (opB opA))))) hHeld ?_
  refine iZ (i:=12) (opC (opC (opC opA))) (fun K G=>?_)
  go_simp
  (go_at_call 37;(with_reducible refine (Q.out _ q).mono ?_);rintro e5 w5 ⟨A5,n5,c5,rfl,o5,B⟩;have O5:=Hd o5.rd;clear o5;replace q:=aA q B;clear B)
  first|refine G.out _ _ ?_ (fun hHeld=>?_)|(go_wp2_with fail;refine G.out _ _ ?_ (fun hHeld=>?_))
  ·(try dsimp only)
   first|exact j.out _ q
  clear G K
  try simp only [Act.put,List.setIfInBounds_toArray,List.set_cons_zero,List.set_cons_succ]
  refine iZ (i:=13) (opC (opC (opC (opB opA)))) (fun K G=>?_)
  go_simp
  (go_at_call 36;(with_reducible refine (U.out _ q A5 n5 c5 O5.out).mono ?_);rintro _ w6 ⟨rfl,B⟩;replace q:=aA q B;clear B)
  first|refine G.out _ _ ?_ (fun hHeld=>?_)|(go_wp2_with fail;refine G.out _ _ ?_ (fun hHeld=>?_))
  ·(try dsimp only)
   first|exact j.out _ q
  clear G K
  try simp only [Act.put,List.setIfInBounds_toArray,List.set_cons_zero,List.set_cons_succ]
  refine onW 14 (opC (opC (opC (opB (opB opA))))) hHeld ?_
  refine onW 15 (opC (opC (opC (opB (opB (opB opA)))))) hHeld ?_
  refine bW 16 (opD opA) hHeld ?_
  refine bW 17 (opD (opB opA)) hHeld ?_
  refine bW 18 (opD (opB (opB opA))) hHeld ?_
  refine bW 19 (opD (opB (opB (opB opA)))) hHeld ?_
  refine bW 20 (opD (opC opA)) hHeld ?_
  refine bW 21 (opD (opC (opB opA))) hHeld ?_
  refine bW 22 (opD (opC (opB (opB opA)))) hHeld ?_
  refine onW 23 (opD (opC (opB (opB (opB opA))))) hHeld ?_
  refine onW 24 (opD (opC (opC opA))) hHeld ?_
  refine bW 25 (opD (opC (opC (opB opA)))) hHeld ?_
  refine bW 26 (opD (opC (opC (opB (opB opA))))) hHeld ?_
  refine bW 27 (opD (opC (opC (opB (opB (opB opA)))))) hHeld ?_
  refine bW 28 (opD (opC (opC (opC opA)))) hHeld ?_
  refine bW 29 (opD (opC (opC (opC (opB opA))))) hHeld ?_
  refine bW 30 (opD (opC (opC (opC (opB (opB opA)))))) hHeld ?_
  refine bW 31 (opD (opC (opC (opC (opB (opB (opB opA))))))) hHeld ?_
  refine bW 32 (opD (opD opA)) hHeld ?_
  refine onW 33 (opD (opD (opB opA))) hHeld ?_
  refine onW 34 (opD (opD (opB (opB opA)))) hHeld ?_
  refine wpAnyH_done (by kernel_rfl) ?_ _
  have HD:=Hd (aA u.out q)
  clear q x0 W x2 x3 H y0 y1 Z y3 V Y y6 y7 D j
  go_wp2_with fail
  go_ret
  exact ⟨aO HR.out,HD.out⟩
 have I:=Hd aF
 have HR:Hid (¬iQ d x):=fun h=>I.out h.pack
 clear aF
 go_enter Tryz.func8,Tryz.ntmps8
 go_upto_region 1 with fail
 generalize (w.alloc (.cells (dv d) 36)).alloc (.cells #[.int .i64 x.net.inputs,.slice SA sn sc,.slice LA ln lc,.slice OA on oc,.slice BA bn bc,.slice CA cn cc,.slice PA pn pc,.slice RA rn rc] 46)=z at *
 obtain ⟨x0,W,x2,x3,H⟩:=bX ax.out
 obtain ⟨y0,y1,Z,y3,V,Y,y6,y7,D⟩:=j6 aB.out
 have j:Hid (∀w',Below z.heap.size z w'→(KD w' w.heap.size d (K8e w' (w.heap.size+1) (.int .i64 x.net.inputs) (.slice SA sn sc) (.slice LA ln lc) (.slice OA on oc) (.slice BA bn bc) (.slice CA cn cc) (.slice PA pn pc) (.slice RA rn rc)))):=fun v g=>⟨(g.cell (p:=⟨w.heap.size,0,none⟩) H).trans x0,(g.cell (p:=⟨w.heap.size,1,none⟩) H).trans W,(g.cell (p:=⟨w.heap.size,2,none⟩) H).trans x2,(g.cell (p:=⟨w.heap.size,3,none⟩) H).trans x3,(g.cell (p:=⟨w.heap.size+1,0,none⟩) D).trans y0,(g.cell (p:=⟨w.heap.size+1,1,none⟩) D).trans y1,(g.cell (p:=⟨w.heap.size+1,2,none⟩) D).trans Z,(g.cell (p:=⟨w.heap.size+1,3,none⟩) D).trans y3,(g.cell (p:=⟨w.heap.size+1,4,none⟩) D).trans V,(g.cell (p:=⟨w.heap.size+1,5,none⟩) D).trans Y,(g.cell (p:=⟨w.heap.size+1,6,none⟩) D).trans y6,(g.cell (p:=⟨w.heap.size+1,7,none⟩) D).trans y7⟩
 have q:=(Below.refl z.heap.size z).drew
 have J:=Hd (fun (v:World) (g:Below z.heap.size z v)=>(by have h:=kQ x.net SA LA OA sn sc ln lc on oc x.blocks BA bn bc v (HN.out.below (aA u.out g)) (HB.out.below (aA u.out g)) au.out;rwa [bJ I.out] at h:Calls Tryz.prog 35 #[jI x.net SA LA OA sn sc ln lc on oc,.slice BA bn bc] v fun e w'=>e = .returned (.bool false)/\Below v.heap.size v w'))
 refine wp_region_held_drew (S:=(fun w'=>KD w' w.heap.size d (K8e w' (w.heap.size+1) (.int .i64 x.net.inputs) (.slice SA sn sc) (.slice LA ln lc) (.slice OA on oc) (.slice BA bn bc) (.slice CA cn cc) (.slice PA pn pc) (.slice RA rn rc)))) (by kernel_rfl) ?_ (fun hHeld=>?_)
 ·(try dsimp only)
  first|exact j.out _ q
 refine onW 0 opA hHeld ?_
 refine onW 1 (opB opA) hHeld ?_
 refine onW 2 (opB (opB opA)) hHeld ?_
 refine onW 3 (opB (opB (opB opA))) hHeld ?_
 refine iZ (i:=4) (opC opA) (fun K G=>?_)
 go_simp
 (go_at_call 35;(with_reducible refine (J.out _ q).mono ?_);rintro _ w5 ⟨rfl,B⟩;replace q:=aA q B;clear B)
 first|refine G.out _ _ ?_ (fun hHeld=>?_)|(go_wp2_with fail;refine G.out _ _ ?_ (fun hHeld=>?_))
 ·(try dsimp only)
  first|exact j.out _ q
 clear G K
 try simp only [Act.put,List.setIfInBounds_toArray,List.set_cons_zero,List.set_cons_succ]
 refine onW 5 (opC (opB opA)) hHeld ?_
 refine bW 6 (opC (opB (opB opA))) hHeld ?_
 refine bW 7 (opC (opB (opB (opB opA)))) hHeld ?_
 refine bW 8 (opC (opC opA)) hHeld ?_
 refine bW 9 (opC (opC (opB opA))) hHeld ?_
 refine bW 10 (opC (opC (opB (opB opA)))) hHeld ?_
 refine bW 11 (opC (opC (opB (opB (opB opA))))) hHeld ?_
 refine bW 12 (opC (opC (opC opA))) hHeld ?_
 refine bW 13 (opC (opC (opC (opB opA)))) hHeld ?_
 refine onW 14 (opC (opC (opC (opB (opB opA))))) hHeld ?_
 refine onW 15 (opC (opC (opC (opB (opB (opB opA)))))) hHeld ?_
 refine bW 16 (opD opA) hHeld ?_
 refine bW 17 (opD (opB opA)) hHeld ?_
 refine bW 18 (opD (opB (opB opA))) hHeld ?_
 refine bW 19 (opD (opB (opB (opB opA)))) hHeld ?_
 refine bW 20 (opD (opC opA)) hHeld ?_
 refine bW 21 (opD (opC (opB opA))) hHeld ?_
 refine bW 22 (opD (opC (opB (opB opA)))) hHeld ?_
 refine onW 23 (opD (opC (opB (opB (opB opA))))) hHeld ?_
 refine onW 24 (opD (opC (opC opA))) hHeld ?_
 refine bW 25 (opD (opC (opC (opB opA)))) hHeld ?_
 refine bW 26 (opD (opC (opC (opB (opB opA))))) hHeld ?_
 refine bW 27 (opD (opC (opC (opB (opB (opB opA)))))) hHeld ?_
 refine bW 28 (opD (opC (opC (opC opA)))) hHeld ?_
 refine bW 29 (opD (opC (opC (opC (opB opA))))) hHeld ?_
 refine bW 30 (opD (opC (opC (opC (opB (opB opA)))))) hHeld ?_
 refine bW 31 (opD (opC (opC (opC (opB (opB (opB opA))))))) hHeld ?_
 refine bW 32 (opD (opD opA)) hHeld ?_
 refine onW 33 (opD (opD (opB opA))) hHeld ?_
 refine onW 34 (opD (opD (opB (opB opA)))) hHeld ?_
 refine wpAnyH_done (by kernel_rfl) ?_ _
 have HD:=Hd (aA u.out q)
 clear q x0 W x2 x3 H y0 y1 Z y3 V Y y6 y7 D j
 go_wp2_with fail
 go_ret
 exact ⟨aO HR.out,HD.out⟩
end Go.Proofs.YtofihjoanjkdmaaGreat
