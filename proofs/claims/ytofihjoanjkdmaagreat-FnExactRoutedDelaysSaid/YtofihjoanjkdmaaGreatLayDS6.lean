/- The delays of a layout in the reference: RoutedDelays (printed by mkrd.py). -/
import Derived.Test.YtofihjoanjkdmaaGreatHeldT
import Derived.Test.YtofihjoanjkdmaaGreatLayDD
import Derived.Test.YtofihjoanjkdmaaGreatLayDM
import Derived.Test.YtofihjoanjkdmaaGreatLayDS5
import Derived.Test.YtofihjoanjkdmaaGreatLayS14
namespace Go.Proofs.YtofihjoanjkdmaaGreat
set_option maxHeartbeats 16000000
set_option maxRecDepth 100000
open Go.RowKit
theorem sj (d:Dev) (x:Lay) (SA LA OA BA CA PA RA:Option Addr) (sn sc ln lc on oc bn bc cn cc pn pc rn rc:Nat) (w:World) (h:j5 w x SA LA OA BA CA PA RA sn sc ln lc on oc bn bc cn cc pn pc rn rc) (hl:xG x 1048576) (ep:pn<=pc) (ed:pc<=1048576) :
  Calls Tryz.prog 13 #[.agg (dv d),sZ x SA LA OA BA CA PA RA sn sc ln lc on oc bn bc cn cc pn pc rn rc] w fun e w'=>∃AL nL cL AS nS cS,e = .returned (.tuple #[.agg #[.slice AL nL cL,.slice AS nS cS],.bool (tb (iQ d x))])/\aJ w w' [.cel (bg (delD d x).luts) (.slice AL nL cL),.cel (bg (delD d x).seqs) (.slice AS nS cS)]:=by
 obtain ⟨df,dp,_,_⟩:=h.lens
 obtain ⟨dx,bG,er⟩:=h.net.lens
 have eg:bn<=1048576:=by rw [←df];exact hl.blocks
 have eA:cn<=1048576:=by rw [←dp];exact hl.conns
 obtain ⟨bY,bs,cq,H1,bm⟩:=hd5 df dx bG h hl
 clear h hl df dp dx bG er
 have ah:=Hd (aD (aD (aD (Below.refl w.heap.size w) (.cells (dv d) 36)) (.cells #[.int .i64 x.net.inputs,.slice SA sn sc,.slice LA ln lc,.slice OA on oc,.slice BA bn bc,.slice CA cn cc,.slice PA pn pc,.slice RA rn rc] 46)) (.cells #[.slice none 0 0,.slice none 0 0] 52))
 have hx:=bS (.cells #[.slice none 0 0,.slice none 0 0] 52) (bS (.cells #[.int .i64 x.net.inputs,.slice SA sn sc,.slice LA ln lc,.slice OA on oc,.slice BA bn bc,.slice CA cn cc,.slice PA pn pc,.slice RA rn rc] 46) (aI w (.cells (dv d) 36)))
 have hy:=bS (.cells #[.slice none 0 0,.slice none 0 0] 52) (aI (w.alloc (.cells (dv d) 36)) (.cells #[.int .i64 x.net.inputs,.slice SA sn sc,.slice LA ln lc,.slice OA on oc,.slice BA bn bc,.slice CA cn cc,.slice PA pn pc,.slice RA rn rc] 46))
 have hz:=aI ((w.alloc (.cells (dv d) 36)).alloc (.cells #[.int .i64 x.net.inputs,.slice SA sn sc,.slice LA ln lc,.slice OA on oc,.slice BA bn bc,.slice CA cn cc,.slice PA pn pc,.slice RA rn rc] 46)) (.cells #[.slice none 0 0,.slice none 0 0] 52)
 simp only [World.size_alloc] at hy hz
 obtain ⟨aw,Z,bj⟩:=hd3 hx hy hz
 clear hx hy hz
 go_enter Tryz.func13,Tryz.ntmps13
 go_upto_region 1 with fail
 generalize ((w.alloc (.cells (dv d) 36)).alloc (.cells #[.int .i64 x.net.inputs,.slice SA sn sc,.slice LA ln lc,.slice OA on oc,.slice BA bn bc,.slice CA cn cc,.slice PA pn pc,.slice RA rn rc] 46)).alloc (.cells #[.slice none 0 0,.slice none 0 0] 52)=W9 at *
 obtain ⟨gY,b9⟩:∃g,w.heap.size+1=g:=⟨_,rfl⟩
 obtain ⟨gR,cm⟩:∃g,gY+1=g:=⟨_,rfl⟩
 rw [b9] at Z bj
 rw [cm] at bj
 (try rw [b9])
 (try rw [cm])
 obtain ⟨du,dy⟩:=hd2 b9 cm
 clear b9 cm
 obtain ⟨x0,x1,x2,x3,lx⟩:=bX (aC (Below.refl W9.heap.size W9) aw.out)
 obtain ⟨y0,y1,y2,y3,y4,y5,y6,y7,ly⟩:=j6 (aC (Below.refl W9.heap.size W9) Z.out)
 go_wp2_with fail
 refine (wB d x SA LA OA BA CA PA RA sn sc ln lc on oc bn bc cn cc pn pc rn rc _ (H1.out.below ah.out).net (H1.out.below ah.out).bl (H1.out.below ah.out).cn (H1.out.below ah.out).pl (H1.out.below ah.out).ro eg eA ep ed bm.out.les bm.out.sinks bm.out.nodes).mono ?_
 by_cases hf:iQ d x
 ·rw [ae hf]
  rintro _ w1 ⟨rfl,b1⟩
  obtain ⟨B1,HF⟩:=hd2 b1 hf
  have fk:bn<=64:=by rw [←bY.out];exact hf.pack.len
  have fp:ln<=400:=by rw [←cq.out];exact hf.pack.net.nlut
  have fO:sn<=12:=by rw [←bs.out];exact hf.pack.net.nseq
  clear b1 hf x0 x1 x2 x3 lx y0 y1 y2 y3 y4 y5 y6 y7 ly
  obtain ⟨-,y1,y2,ly⟩:=jU (aC B1.out Z.out)
  have mkL:=fun W=>lU ln (by omega) W
  have ek:=fun W=>lU sn (by omega) W
  have aj:=Hd (aJ.nil B1.out)
  go_upto_region 3 with fail
  go_cut [6] (fun p w'=>ni W9 ln sn p w')
  case first =>
   go_region
   all_goals
    go_wp2_with fail
    go_meet
    (try simp only [uH])
    first|exact (Bh aj.out ln sn).drew|exact (Bi aj.out ln sn).drew|exact (Bj aj.out ln sn).drew|exact (Bl aj.out ln sn).drew|exact (Bn aj.out ln sn).drew|exact (Bo aj.out ln sn).drew
  obtain ⟨V,I,G,rfl,dL⟩:=hcut
  have eL:=Hd dL
  clear dL mkL ek y1 y2 ly
  go_wp2_with fail
  go_loopw [7] (fun i wr=>∃(k:Nat) (R J:Array Value),k<=bn/\i = .int .i64 (k:Int)/\aJ W9 wr [.blk V #[.slice (some ⟨I,0,none⟩) ln ln,.slice (some ⟨G,0,none⟩) sn sn] 52,.blk I (R) 26,.cels (((delTo d x k).luts).map aG) (R).toList,.blk G (J) 26,.cels (((delTo d x k).seqs).map aG) (J).toList]) (fun i _=>bn - (intOf i).toNat)
  ·exact ⟨0,kS ln,kS sn,by omega,rfl,by rw [show delTo d x 0=⟨List.replicate x.net.luts.length [],List.replicate x.net.seqs.length []⟩ from rfl,cq.out,bs.out];exact eL.out⟩
  obtain ⟨k,R,J,hk,rfl,hs⟩:=hrel
  have aj:=Hd hs
  clear hs
  obtain ⟨y0,y1,y2,y3,y4,y5,y6,y7,ly⟩:=j6 (aC aj.out.bel Z.out)
  by_cases cN:k<bn
  ·have eM:=dT (by omega:k<bn)
   have cf:k<x.blocks.length:=by rw [bY.out];exact cN
   have a1:=Hd (aA ah.out aj.out.bel)
   obtain ⟨gb,ob,EA,en,ec,dD,ce,c0,c1,c2,r2⟩:=H1.out.bl.blk (k:=k) cf
   have ei:=aK a1.out ce
   rw [←a1.out.cell (p:=⟨gb,ob+k * 3,none⟩) ce] at c0
   rw [←a1.out.cell (p:=⟨gb,ob+k * 3+1,none⟩) ce] at c1
   rw [←a1.out.cell (p:=⟨gb,ob+k * 3+2,none⟩) ce] at c2
   have a5:dI x.net (jo x k):=by unfold jo;rw [List.getElem?_eq_getElem cf];exact HF.out.pack.fit _ (List.getElem_mem cf)
   have bw:=lW (d:=d) HF.out.pack k (by omega)
   obtain ⟨bx,bQ⟩:∃b,jo x k=b:=⟨_,rfl⟩
   have cB:delTo d x (k+1)=lesTo d x k bx.les (ramS d x k bx (delTo d x k)) bx.les.length:=by show blkS d x k _=_;unfold blkS;rw [bQ]
   rw [show x.blocks[k]?.getD Blk.zero=bx from bQ] at c0 c1 r2
   rw [bQ] at a5
   have dB:=lM a5
   have bH:=kH a5
   obtain ⟨kd,it,es⟩:=bx
   simp only at c0 c1 bH cB
   have eB:=Hd bQ
   have HE:=Hd (show RdC w w.heap.size (cO es) (.slice EA en ec) from r2)
   have b3:Hid (es.length=en):=HE.out.esN
   have fS:en<=2:=by rw [←b3.out];exact bH
   have ey:=Hd (show ∀e∈es,dQ x.net e from dB)
   obtain ⟨ch,eH⟩:=hd2 cB dD
   clear bQ bH dB r2 dD cB cf
   obtain rfl:=eH.out
   obtain ⟨D0,dn⟩:∃D,delTo d x k=D:=⟨_,rfl⟩
   rw [dn] at ch aj bw
   obtain ⟨i0,i1⟩:=ib (by omega:k<bn)
   have fe:k<=64:=by omega
   have bK:Hid (aJ W9 (wr.alloc (.cells #[.int .i64 kd,.int .i64 it,.slice EA en ec] 89)) [.blk V #[.slice (some ⟨I,0,none⟩) ln ln,.slice (some ⟨G,0,none⟩) sn sn] 52,.blk I (R) 26,.cels ((D0.luts).map aG) (R).toList,.blk G (J) 26,.cels ((D0.seqs).map aG) (J).toList,.blk wr.heap.size #[.int .i64 (kd),.int .i64 (it),.slice EA en ec] 89]):=Hd (aj.out.pushBlk _ _)
   obtain ⟨gk,cW⟩:∃g,wr.heap.size=g:=⟨_,rfl⟩
   go_upto_region 8 with fail
   rw [cW] at bK
   (try rw [cW])
   clear cW c0 c1 c2 ei dn
   generalize wr.alloc (.cells #[.int .i64 kd,.int .i64 it,.slice EA en ec] 89)=W1 at *
   have dd:Hid (aJ W9 W1 [.blk V #[.slice (some ⟨I,0,none⟩) ln ln,.slice (some ⟨G,0,none⟩) sn sn] 52,.blk I (R) 26,.cels ((D0.luts).map aG) (R).toList,.blk G (J) 26,.cels ((D0.seqs).map aG) (J).toList,.blk gk #[.int .i64 (kd),.int .i64 (it),.slice EA en ec] 89]):=bK
   clear bK aj a1 y0 y1 y2 y3 y4 y5 y6 y7 ly
   obtain ⟨k0,k1,k2,lk⟩:=jU (dd.out.blk 5 rfl).1
   by_cases b2:kd=2
   ·subst b2
    obtain ⟨X,hX⟩:∃X:Nat,it=(X:Int):=⟨it.toNat,by have:=il.1 a5.1;omega⟩
    subst hX
    have bD:X<x.net.seqs.length:=by have:=il.1 a5.1;omega
    have fR:X<sn:=by rw [←bs.out];exact bD
    have cE:=(a5.2.resolve_left (by rintro ⟨h,_⟩;change (2:Int)=3 at h;omega)).2
    have bI:es=[]:=cE.1
    have ef:(x.net.seqs[X]?.getD Sq.zero).kind=1:=by have h:=cE.2 rfl;simpa [ai.sq] using h
    have dW:=(HF.out.pack.net.seqs X bD).1.resolve_left (by rintro ⟨h,_⟩;omega)
    obtain ⟨sb,so,IA,im,ic,bN,bU,_,_,d2,rI⟩:=H1.out.net.sq.sq' (k:=X) bD
    have aM:=Hd rI.ints
    have bR:im=4:=by rw [←aM.out.1];exact dW.2.2
    have cK:=Hd bN
    have co:Hid (∀v,Below w.heap.size w v→v.cell? ⟨sb,so+X * 3+2,none⟩=some (.slice IA im ic)):=fun v hv=>(hv.cell (p:=⟨sb,so+X * 3+2,none⟩) bU).trans d2
    clear bN d2 rI ef dW cE
    obtain rfl:=cK.out
    subst bR
    obtain ⟨bi,oi,aS,aZ,aY⟩:=aM.out.2 (by omega)
    have bP:=Hd aS
    have eF:Hid (∀j,j<4→∀v,Below w.heap.size w v→v.cell? ⟨bi,oi+j,none⟩=some (.int .i64 ((x.net.seqs[X]?.getD Sq.zero).ins[j]?.getD 0))):=fun j hj v hv=>(hv.cell (p:=⟨bi,oi+j,none⟩) aZ).trans (aY j hj)
    clear aS aY
    obtain rfl:=bP.out
    have d2:(2:Int)=2:=rfl
    clear d2
    go_wp2_with fail
    clear k0 k1 k2 lk
    go_loopw [9] (fun i wr=>∃(j:Nat) (J:Array Value),j<=4/\i = .int .i64 (j:Int)/\aJ W9 wr [.blk V #[.slice (some ⟨I,0,none⟩) ln ln,.slice (some ⟨G,0,none⟩) sn sn] 52,.blk I (R) 26,.cels ((D0.luts).map aG) (R).toList,.blk G (J) 26,.cels ((dV D0.seqs X (rams d x k X j)).map aG) (J).toList,.blk gk #[.int .i64 (2),.int .i64 ((X:Int)),.slice EA en ec] 89]) (fun i _=>4 - (intOf i).toNat)
    ·exact ⟨0,J,by omega,rfl,by rw [show rams d x k X 0=[] from rfl,qW];exact dd.out⟩
    obtain ⟨j,J,hj,rfl,hs⟩:=hrel
    have HS:=Hd hs
    clear hs
    have ar:=Hd (aA ah.out HS.out.bel)
    by_cases bE:j<4
    ·have dj:decide ((j:Int)<4)=true:=by simp;omega
     have au:X<(dV D0.seqs X (rams d x k X j)).length:=by rw [jg,bw.sn];exact bD
     have bb:((dV D0.seqs X (rams d x k X j))[X]?.getD []).length<=5000:=by
      have h1:=oV bw.seqs X (ys:=rams d x k X j) (by rw [qL];omega) X
      omega
     have aV:dV D0.seqs X (rams d x k X (j+1))=(dV D0.seqs X (rams d x k X j)).set X ((dV D0.seqs X (rams d x k X j))[X]?.getD []++[ramW d x k X j]):=by rw [wQ,←pR (by rw [bw.sn];exact bD)]
     have bk:ramW d x k X j=if 0<(x.net.seqs[X]?.getD Sq.zero).ins[j]?.getD 0 then min 100 (sinkD d x ⟨(k:Int),(j:Int)⟩) else 0:=rfl
     have ci:=eF.out j bE _ ar.out
     have cj:=aK ar.out aZ
     have d2:=co.out _ ar.out
     have cC:=aK ar.out bU
     generalize (x.net.seqs[X]?.getD Sq.zero).ins[j]?.getD 0=v at *
     obtain ⟨Y,hY⟩:∃Y,ramW d x k X j=Y:=⟨_,rfl⟩
     rw [hY] at aV bk
     have aE:=Hd aV
     clear aV hY
     have j0:(0:Int)<=(j:Int):=by omega
     have j1:(j:Int)<((4:Nat):Int):=by omega
     obtain ⟨fP,ft⟩:=ib (by omega:X<sn)
     obtain ⟨k0,k1,k2,lk⟩:=jU (HS.out.blk 5 rfl).1
     obtain ⟨y0,y1,y2,y3,y4,y5,y6,y7,ly⟩:=j6 (aC HS.out.bel Z.out)
     obtain ⟨x0,x1,x2,x3,lx⟩:=bX (aC HS.out.bel aw.out)
     by_cases hv:0<v
     ·have dv:decide (v>0)=true:=decide_eq_true hv
      rw [if_pos hv] at bk
      go_wp2_with fail
      refine (uA d x _ LA OA _ CA PA RA sn sc ln lc on oc bn bc cn cc pn pc rn rc (k:Int) (j:Int) _ (H1.out.below ar.out) HF.out.routes bm.out).mono ?_
      rintro _ wa ⟨rfl,b5⟩
      have cy:=Hd (HS.out.below b5)
      have fN:=ry HF.out.routes ⟨(k:Int),(j:Int)⟩
      clear b5 ci cj d2 cC k0 k1 k2 lk x0 x1 x2 x3 lx y0 y1 y2 y3 y4 y5 y6 y7 ly
      generalize sinkD d x ⟨(k:Int),(j:Int)⟩=z at *
      have fd:(if z<100 then z else 100)=Y:=by rw [bk];split <;> omega
      generalize dc:dV D0.seqs X (rams d x k X j)=SQ at *
      have bL:=aE
      have cM:Hid (aJ W9 wa [.blk V #[.slice (some ⟨I,0,none⟩) ln ln,.slice (some ⟨G,0,none⟩) sn sn] 52,.blk I (R) 26,.cels ((D0.luts).map aG) (R).toList,.blk G (J) 26,.cels ((SQ).map aG) (J).toList,.blk gk #[.int .i64 (2),.int .i64 ((X:Int)),.slice EA en ec] 89]):=cy
      clear hv bk dc aE cy HS
      obtain ⟨B,nb,cb,aU,ay,u⟩:=cM.out.rowAt 4 X rfl au
      obtain ⟨aR,dS⟩:=hd2 aU ay
      have dX:nb<=5000:=by rw [←ay];exact bb
      have HT:Hid (aJ W9 wa.drew [.blk V #[.slice (some ⟨I,0,none⟩) ln ln,.slice (some ⟨G,0,none⟩) sn sn] 52,.blk I (R) 26,.cels ((D0.luts).map aG) (R).toList,.blk G (J) 26,.cels (((SQ).map aG).set X (.int 0)) ((J).toList.set X (.int .i64 0)),.blk gk #[.int .i64 (2),.int .i64 ((X:Int)),.slice EA en ec] 89,.cel (aG (SQ[X]?.getD [])) (.slice B nb cb)]):=Hd u.drew
      clear u aU ay
      have U:Hid (∀(v:World) (p1 p2 p4:Pc) (r:List Pc),aJ W9 v (.blk V #[.slice (some ⟨I,0,none⟩) ln ln,.slice (some ⟨G,0,none⟩) sn sn] 52 :: p1 :: p2 :: .blk G (J) 26 :: p4 :: .blk gk #[.int .i64 (2),.int .i64 ((X:Int)),.slice EA en ec] 89 ::  r)→(v.cell? ⟨V,0,none⟩=some (.slice (some ⟨I,0,none⟩) ln ln)/\v.cell? ⟨V,1,none⟩=some (.slice (some ⟨G,0,none⟩) sn sn)/\v.cell? ⟨gk,1,none⟩=some (.int .i64 (X:Int))/\v.cell? ⟨G,X,none⟩=some (.slice B nb cb))):=Hd fun v p1 p2 p4 r h=>⟨aF (k:=0) (h.blk 0 rfl).1 rfl,aF (k:=1) (h.blk 0 rfl).1 rfl,aF (k:=1) (h.blk 5 rfl).1 rfl,aF (k:=X) (h.blk 3 rfl).1 aR.out⟩
      go_upto_region 15 with fail
      refine wp_region_noPanic ?_
      refine jD 14 (fun w'=>w'.cell? ⟨V,0,none⟩=some (.slice (some ⟨I,0,none⟩) ln ln)/\w'.cell? ⟨V,1,none⟩=some (.slice (some ⟨G,0,none⟩) sn sn)/\w'.cell? ⟨gk,1,none⟩=some (.int .i64 (X:Int))/\w'.cell? ⟨G,X,none⟩=some (.slice B nb cb)) (U.out _ _ _ _ _ HT.out) (fun u H=>?_)
      refine onT u 0 opA H ?_
      refine onT u 1 (opB opA) H ?_
      refine onT u 2 (opB (opB opA)) H ?_
      refine onT u 3 (opB (opB (opB opA))) H ?_
      refine onT u 4 (opC opA) H ?_
      refine onT u 5 (opC (opB opA)) H ?_
      refine onT u 6 (opC (opB (opB opA))) H ?_
      refine onT u 7 (opC (opB (opB (opB opA)))) H ?_
      refine onT u 8 (opC (opC opA)) H ?_
      refine onT u 9 (opC (opC (opB opA))) H ?_
      refine onT u 10 (opC (opC (opB (opB opA)))) H ?_
      have HA:Hid (aJ W9 (wa.alloc (.cells #[.int .i64 (Y)] 3)).drew [.blk V #[.slice (some ⟨I,0,none⟩) ln ln,.slice (some ⟨G,0,none⟩) sn sn] 52,.blk I (R) 26,.cels ((D0.luts).map aG) (R).toList,.blk G (J) 26,.cels (((SQ).map aG).set X (.int 0)) ((J).toList.set X (.int .i64 0)),.blk gk #[.int .i64 (2),.int .i64 ((X:Int)),.slice EA en ec] 89,.cel (aG (SQ[X]?.getD [])) (.slice B nb cb)]):=Hd (HT.out.alloc _)
      refine lD u 11 (opC (opC (opB (opB (opB opA))))) (fun K hK=>?_)
      go_simp
      refine hK.out _ _ (U.out _ _ _ _ _ HA.out) (fun H=>?_)
      clear hK K
      try simp only [Act.put,List.setIfInBounds_toArray,List.set_cons_zero,List.set_cons_succ]
      refine lD u 12 (opC (opC (opC opA))) (fun K hK=>?_)
      refine gu rfl _ _ (by rfl) _ HA.out 6 B nb cb (SQ[X]?.getD []) Y _ (0,0) rfl (by rfl) (by rfl) (aI _ _) (by omega) ?_
      intro g8 Q w8 S8 _
      have aq:Hid (aJ W9 w8 [.blk V #[.slice (some ⟨I,0,none⟩) ln ln,.slice (some ⟨G,0,none⟩) sn sn] 52,.blk I (R) 26,.cels ((D0.luts).map aG) (R).toList,.blk G (J) 26,.cels (((SQ).map aG).set X (.int 0)) ((J).toList.set X (.int .i64 0)),.blk gk #[.int .i64 (2),.int .i64 ((X:Int)),.slice EA en ec] 89,.cel (aG (SQ[X]?.getD []++[Y])) (.slice (some ⟨g8,0,none⟩) (nb+1) Q)]):=Hd S8
      clear S8
      refine hK.out _ _ (U.out _ _ _ _ _ aq.out) (fun H=>?_)
      clear hK K
      try simp only [Act.put,List.setIfInBounds_toArray,List.set_cons_zero,List.set_cons_succ]
      have c8:=aF (k:=X) (aq.out.blk 3 rfl).1 aR.out
      have f8:=aW (aq.out.blk 3 rfl).1 X
      have q8:=aB (aq.out.blk 3 rfl).1
      refine onT u 13 (opC (opC (opC (opB opA)))) H ?_
      refine uJ u 14 (opC (opC (opC (opB (opB opA))))) ?_
      go_wp2_with fail
      refine NoPanic.normal ?_
      have a8:Hid (aJ W9 (w8.setCell ⟨G,X,none⟩ (.slice (some ⟨g8,0,none⟩) (nb+1) Q)) [.blk V #[.slice (some ⟨I,0,none⟩) ln ln,.slice (some ⟨G,0,none⟩) sn sn] 52,.blk I (R) 26,.cels ((D0.luts).map aG) (R).toList,.blk G ((J).setIfInBounds X (.slice (some ⟨g8,0,none⟩) (nb+1) Q)) 26,.cels (((SQ).set X (SQ[X]?.getD []++[Y])).map aG) ((J).setIfInBounds X (.slice (some ⟨g8,0,none⟩) (nb+1) Q)).toList,.blk gk #[.int .i64 (2),.int .i64 ((X:Int)),.slice EA en ec] 89]):=Hd (((aq.out.put 3 rfl X (.slice (some ⟨g8,0,none⟩) (nb+1) Q)).rowBack 4 6 X (by decide) rfl au rfl).sub (qs:=[.blk V #[.slice (some ⟨I,0,none⟩) ln ln,.slice (some ⟨G,0,none⟩) sn sn] 52,.blk I (R) 26,.cels ((D0.luts).map aG) (R).toList,.blk G ((J).setIfInBounds X (.slice (some ⟨g8,0,none⟩) (nb+1) Q)) 26,.cels (((SQ).set X (SQ[X]?.getD []++[Y])).map aG) ((J).setIfInBounds X (.slice (some ⟨g8,0,none⟩) (nb+1) Q)).toList,.blk gk #[.int .i64 (2),.int .i64 ((X:Int)),.slice EA en ec] 89]) (List.sublist_append_left _ [_]))
      go_wp2_with fail
      go_roundw
      ·exact ⟨j+1,_,by omega,by go_num,by rw [bL.out];exact a8.out⟩
      simp [intOf];omega
     have dv:decide (v>0)=false:=decide_eq_false hv
     rw [if_neg hv] at bk
     obtain ⟨wa,rfl⟩:∃y,y=wr:=⟨wr,rfl⟩
     generalize dc:dV D0.seqs X (rams d x k X j)=SQ at *
     have bL:=aE
     have cM:Hid (aJ W9 wa [.blk V #[.slice (some ⟨I,0,none⟩) ln ln,.slice (some ⟨G,0,none⟩) sn sn] 52,.blk I (R) 26,.cels ((D0.luts).map aG) (R).toList,.blk G (J) 26,.cels ((SQ).map aG) (J).toList,.blk gk #[.int .i64 (2),.int .i64 ((X:Int)),.slice EA en ec] 89]):=HS
     subst bk
     clear hv dc aE HS
     go_upto_region 15 with fail
     clear ci cj d2 cC k0 k1 k2 lk x0 x1 x2 x3 lx y0 y1 y2 y3 y4 y5 y6 y7 ly
     obtain ⟨B,nb,cb,aU,ay,u⟩:=cM.out.rowAt 4 X rfl au
     obtain ⟨aR,dS⟩:=hd2 aU ay
     have dX:nb<=5000:=by rw [←ay];exact bb
     have HT:Hid (aJ W9 wa.drew [.blk V #[.slice (some ⟨I,0,none⟩) ln ln,.slice (some ⟨G,0,none⟩) sn sn] 52,.blk I (R) 26,.cels ((D0.luts).map aG) (R).toList,.blk G (J) 26,.cels (((SQ).map aG).set X (.int 0)) ((J).toList.set X (.int .i64 0)),.blk gk #[.int .i64 (2),.int .i64 ((X:Int)),.slice EA en ec] 89,.cel (aG (SQ[X]?.getD [])) (.slice B nb cb)]):=Hd u.drew
     clear u aU ay
     have U:Hid (∀(v:World) (p1 p2 p4:Pc) (r:List Pc),aJ W9 v (.blk V #[.slice (some ⟨I,0,none⟩) ln ln,.slice (some ⟨G,0,none⟩) sn sn] 52 :: p1 :: p2 :: .blk G (J) 26 :: p4 :: .blk gk #[.int .i64 (2),.int .i64 ((X:Int)),.slice EA en ec] 89 ::  r)→(v.cell? ⟨V,0,none⟩=some (.slice (some ⟨I,0,none⟩) ln ln)/\v.cell? ⟨V,1,none⟩=some (.slice (some ⟨G,0,none⟩) sn sn)/\v.cell? ⟨gk,1,none⟩=some (.int .i64 (X:Int))/\v.cell? ⟨G,X,none⟩=some (.slice B nb cb))):=Hd fun v p1 p2 p4 r h=>⟨aF (k:=0) (h.blk 0 rfl).1 rfl,aF (k:=1) (h.blk 0 rfl).1 rfl,aF (k:=1) (h.blk 5 rfl).1 rfl,aF (k:=X) (h.blk 3 rfl).1 aR.out⟩
     refine wp_region_noPanic ?_
     refine jD 14 (fun w'=>w'.cell? ⟨V,0,none⟩=some (.slice (some ⟨I,0,none⟩) ln ln)/\w'.cell? ⟨V,1,none⟩=some (.slice (some ⟨G,0,none⟩) sn sn)/\w'.cell? ⟨gk,1,none⟩=some (.int .i64 (X:Int))/\w'.cell? ⟨G,X,none⟩=some (.slice B nb cb)) (U.out _ _ _ _ _ HT.out) (fun u H=>?_)
     refine onT u 0 opA H ?_
     refine onT u 1 (opB opA) H ?_
     refine onT u 2 (opB (opB opA)) H ?_
     refine onT u 3 (opB (opB (opB opA))) H ?_
     refine onT u 4 (opC opA) H ?_
     refine onT u 5 (opC (opB opA)) H ?_
     refine onT u 6 (opC (opB (opB opA))) H ?_
     refine onT u 7 (opC (opB (opB (opB opA)))) H ?_
     refine onT u 8 (opC (opC opA)) H ?_
     refine onT u 9 (opC (opC (opB opA))) H ?_
     refine onT u 10 (opC (opC (opB (opB opA)))) H ?_
     have HA:Hid (aJ W9 (wa.alloc (.cells #[.int .i64 (0)] 3)).drew [.blk V #[.slice (some ⟨I,0,none⟩) ln ln,.slice (some ⟨G,0,none⟩) sn sn] 52,.blk I (R) 26,.cels ((D0.luts).map aG) (R).toList,.blk G (J) 26,.cels (((SQ).map aG).set X (.int 0)) ((J).toList.set X (.int .i64 0)),.blk gk #[.int .i64 (2),.int .i64 ((X:Int)),.slice EA en ec] 89,.cel (aG (SQ[X]?.getD [])) (.slice B nb cb)]):=Hd (HT.out.alloc _)
     refine lD u 11 (opC (opC (opB (opB (opB opA))))) (fun K hK=>?_)
     go_simp
     refine hK.out _ _ (U.out _ _ _ _ _ HA.out) (fun H=>?_)
     clear hK K
     try simp only [Act.put,List.setIfInBounds_toArray,List.set_cons_zero,List.set_cons_succ]
     refine lD u 12 (opC (opC (opC opA))) (fun K hK=>?_)
     refine gu rfl _ _ (by rfl) _ HA.out 6 B nb cb (SQ[X]?.getD []) 0 _ (0,0) rfl (by rfl) (by rfl) (aI _ _) (by omega) ?_
     intro g8 Q w8 S8 _
     have aq:Hid (aJ W9 w8 [.blk V #[.slice (some ⟨I,0,none⟩) ln ln,.slice (some ⟨G,0,none⟩) sn sn] 52,.blk I (R) 26,.cels ((D0.luts).map aG) (R).toList,.blk G (J) 26,.cels (((SQ).map aG).set X (.int 0)) ((J).toList.set X (.int .i64 0)),.blk gk #[.int .i64 (2),.int .i64 ((X:Int)),.slice EA en ec] 89,.cel (aG (SQ[X]?.getD []++[0])) (.slice (some ⟨g8,0,none⟩) (nb+1) Q)]):=Hd S8
     clear S8
     refine hK.out _ _ (U.out _ _ _ _ _ aq.out) (fun H=>?_)
     clear hK K
     try simp only [Act.put,List.setIfInBounds_toArray,List.set_cons_zero,List.set_cons_succ]
     have c8:=aF (k:=X) (aq.out.blk 3 rfl).1 aR.out
     have f8:=aW (aq.out.blk 3 rfl).1 X
     have q8:=aB (aq.out.blk 3 rfl).1
     refine onT u 13 (opC (opC (opC (opB opA)))) H ?_
     refine uJ u 14 (opC (opC (opC (opB (opB opA))))) ?_
     go_wp2_with fail
     refine NoPanic.normal ?_
     have a8:Hid (aJ W9 (w8.setCell ⟨G,X,none⟩ (.slice (some ⟨g8,0,none⟩) (nb+1) Q)) [.blk V #[.slice (some ⟨I,0,none⟩) ln ln,.slice (some ⟨G,0,none⟩) sn sn] 52,.blk I (R) 26,.cels ((D0.luts).map aG) (R).toList,.blk G ((J).setIfInBounds X (.slice (some ⟨g8,0,none⟩) (nb+1) Q)) 26,.cels (((SQ).set X (SQ[X]?.getD []++[0])).map aG) ((J).setIfInBounds X (.slice (some ⟨g8,0,none⟩) (nb+1) Q)).toList,.blk gk #[.int .i64 (2),.int .i64 ((X:Int)),.slice EA en ec] 89]):=Hd (((aq.out.put 3 rfl X (.slice (some ⟨g8,0,none⟩) (nb+1) Q)).rowBack 4 6 X (by decide) rfl au rfl).sub (qs:=[.blk V #[.slice (some ⟨I,0,none⟩) ln ln,.slice (some ⟨G,0,none⟩) sn sn] 52,.blk I (R) 26,.cels ((D0.luts).map aG) (R).toList,.blk G ((J).setIfInBounds X (.slice (some ⟨g8,0,none⟩) (nb+1) Q)) 26,.cels (((SQ).set X (SQ[X]?.getD []++[0])).map aG) ((J).setIfInBounds X (.slice (some ⟨g8,0,none⟩) (nb+1) Q)).toList,.blk gk #[.int .i64 (2),.int .i64 ((X:Int)),.slice EA en ec] 89]) (List.sublist_append_left _ [_]))
     go_wp2_with fail
     go_roundw
     ·exact ⟨j+1,_,by omega,by go_num,by rw [bL.out];exact a8.out⟩
     simp [intOf];omega
    have eD:j=4:=by omega
    subst eD
    have dj:decide (((4:Nat):Int)<4)=false:=by simp
    have fn:decide ((4:Int)<4)=false:=by simp
    have d4:en=0:=by rw [←b3.out,bI];rfl
    have bz:Hid (delTo d x (k+1)=⟨D0.luts,dV D0.seqs X (rams d x k X 4)⟩):=by
     show _=_
     rw [ch.out,bI]
     rfl
    subst d4
    clear bI bE
    go_wp2_with fail
    obtain ⟨wb,rfl⟩:∃y,y=wr:=⟨wr,rfl⟩
    go_loopw [11] (fun i wr=>i = .int .i64 0/\wb=wr) (fun _ _=>0)
    ·exact ⟨rfl,rfl⟩
    obtain ⟨rfl,rfl⟩:=hrel
    obtain ⟨-,-,k2,lk⟩:=jU (HS.out.blk 5 rfl).1
    go_wp2_with fail
    go_roundw
    ·exact ⟨k+1,_,_,by omega,by go_num,by rw [bz.out];exact HS.out.sub (List.sublist_append_left _ [_])⟩
    simp [intOf];omega
   have d2:(kd==2)=false:=by simp [b2]
   have cs:ramS d x k ⟨kd,it,es⟩ D0=D0:=if_neg b2
   rw [cs] at ch
   clear b2 cs
   go_wp2_with fail
   clear k0 k1 k2 lk
   go_loopw [11] (fun i wr=>∃(q:Nat) (R J:Array Value),q<=en/\i = .int .i64 (q:Int)/\aJ W9 wr [.blk V #[.slice (some ⟨I,0,none⟩) ln ln,.slice (some ⟨G,0,none⟩) sn sn] 52,.blk I (R) 26,.cels (((lesTo d x k es D0 q).luts).map aG) (R).toList,.blk G (J) 26,.cels (((lesTo d x k es D0 q).seqs).map aG) (J).toList,.blk gk #[.int .i64 (kd),.int .i64 (it),.slice EA en ec] 89]) (fun i _=>en - (intOf i).toNat)
   ·exact ⟨0,R,J,by omega,rfl,dd.out⟩
   obtain ⟨q,R,J,hq,rfl,hs⟩:=hrel
   have br:=Hd hs
   clear hs
   obtain ⟨k0,k1,k2,lk⟩:=jU (br.out.blk 5 rfl).1
   by_cases eb:q<en
   ·have dq:=dT (by omega:q<en)
    have a9:q<es.length:=by rw [b3.out];exact eb
    have cX:=Hd (aA ah.out br.out.bel)
    obtain ⟨be,oe,d3,cI,dR,dU⟩:=HE.out.es (k:=q) a9
    have eC:=Hd d3
    have c0:=(cX.out.cell (p:=⟨be,oe+q * 2,none⟩) cI).trans dR
    have c1:=(cX.out.cell (p:=⟨be,oe+q * 2+1,none⟩) cI).trans dU
    have em:=aK cX.out cI
    have a6:=ey.out _ (List.getElem_mem a9)
    rw [show es[q]=es[q]?.getD LeT.zero by rw [List.getElem?_eq_getElem a9];rfl] at a6
    have cD:=rA d x k D0 a9
    have bf:=rY (d:=d) HF.out.pack.net bw k es q (by omega)
    have h3:(jo x k).kind=3:=by
     rw [eB.out]
     rcases a5.2 with h|h
     ·exact h.1
     have h4:es=[]:=h.2.1
     rw [h4] at a9
     simp at a9
    have fD:16 * k+4 * q<=1100:=by omega
    clear d3 dR dU a9
    obtain rfl:=eC.out
    generalize es[q]?.getD LeT.zero=e at *
    obtain ⟨a,b⟩:=e
    simp only at c0 c1
    obtain ⟨Dq,dA⟩:∃D,lesTo d x k es D0 q=D:=⟨_,rfl⟩
    rw [dA] at cD bf br
    have cR:=Hd cD
    clear cD dA
    obtain ⟨fy,fG⟩:=ib (by omega:q<en)
    have bB:Hid (aJ W9 (wr.alloc (.cells #[.int .i64 a,.int .i64 b] 94)) [.blk V #[.slice (some ⟨I,0,none⟩) ln ln,.slice (some ⟨G,0,none⟩) sn sn] 52,.blk I (R) 26,.cels ((Dq.luts).map aG) (R).toList,.blk G (J) 26,.cels ((Dq.seqs).map aG) (J).toList,.blk gk #[.int .i64 (kd),.int .i64 (it),.slice (some ⟨be,oe,none⟩) en ec] 89,.blk wr.heap.size #[.int .i64 (a),.int .i64 (b)] 94]):=Hd (br.out.pushBlk _ _)
    obtain ⟨ge,cg⟩:∃g,wr.heap.size=g:=⟨_,rfl⟩
    go_upto_region 20 with fail
    rw [cg] at bB
    (try rw [cg])
    have eE:=Hd cg
    clear cg k0 k1 k2 lk c0 c1 em
    generalize wr.alloc (.cells #[.int .i64 a,.int .i64 b] 94)=WE at *
    have ds:Hid (aJ W9 WE [.blk V #[.slice (some ⟨I,0,none⟩) ln ln,.slice (some ⟨G,0,none⟩) sn sn] 52,.blk I (R) 26,.cels ((Dq.luts).map aG) (R).toList,.blk G (J) 26,.cels ((Dq.seqs).map aG) (J).toList,.blk gk #[.int .i64 (kd),.int .i64 (it),.slice (some ⟨be,oe,none⟩) en ec] 89,.blk ge #[.int .i64 (a),.int .i64 (b)] 94]):=bB
    clear bB br eE
    by_cases ha:0<=a
    ·obtain ⟨m,hm⟩:∃m:Nat,a=(m:Int):=⟨a.toNat,by omega⟩
     subst hm
     have bM:m<x.net.luts.length:=by have h1:(m:Int)<(x.net.luts.length:Int):=a6.lut.2;omega
     have fI:m<ln:=by rw [←cq.out];exact bM
     obtain ⟨gt,ot,IA,im,ic,dr,dY,t0,_,rI⟩:=H1.out.net.lt.lut' (k:=m) bM
     have aM:=Hd rI.ints
     have bR:im<=4:=by rw [←aM.out.1];exact (HF.out.pack.net.luts m bM).1
     have eo:=Hd dr
     have cw:Hid (∀v,Below w.heap.size w v→v.cell? ⟨gt,ot+m * 2,none⟩=some (.slice IA im ic)):=fun v hv=>(hv.cell (p:=⟨gt,ot+m * 2,none⟩) dY).trans t0
     clear dr t0 rI
     obtain rfl:=eo.out
     have da:decide ((m:Int)≥0)=true:=by simp
     obtain ⟨fz,fT⟩:=ib (by omega:m<ln)
     go_wp2_with fail
     go_loopw [13] (fun i wr=>∃(j:Nat) (R:Array Value),j<=im/\i = .int .i64 (j:Int)/\aJ W9 wr [.blk V #[.slice (some ⟨I,0,none⟩) ln ln,.slice (some ⟨G,0,none⟩) sn sn] 52,.blk I (R) 26,.cels ((dV Dq.luts m (lutTo d x k m j)).map aG) (R).toList,.blk G (J) 26,.cels ((Dq.seqs).map aG) (J).toList,.blk gk #[.int .i64 (kd),.int .i64 (it),.slice (some ⟨be,oe,none⟩) en ec] 89,.blk ge #[.int .i64 ((m:Int)),.int .i64 (b)] 94]) (fun i _=>im - (intOf i).toNat)
     ·exact ⟨0,R,by omega,rfl,by rw [show lutTo d x k m 0=[] from rfl,qW];exact ds.out⟩
     obtain ⟨j,R,hj,rfl,hs⟩:=hrel
     have HS:=Hd hs
     clear hs
     have ar:=Hd (aA ah.out HS.out.bel)
     obtain ⟨e0,e1,le⟩:=fZ (HS.out.blk 6 rfl).1
     obtain ⟨y0,y1,y2,y3,y4,y5,y6,y7,ly⟩:=j6 (aC HS.out.bel Z.out)
     have t0:=cw.out _ ar.out
     have fr:=aK ar.out dY
     by_cases bE:j<im
     ·have dj:=dT (by omega:j<im)
      have au:m<(dV Dq.luts m (lutTo d x k m j)).length:=by rw [jg,bf.ln];exact bM
      have bG:(lutTo d x k m j).length<=4:=by unfold lutTo;rw [List.length_map,List.length_take];omega
      have bb:((dV Dq.luts m (lutTo d x k m j))[m]?.getD []).length<=5000:=by
       have h1:=oV bf.luts m (ys:=lutTo d x k m j) bG m
       omega
      have d5:j<(x.net.luts[m]?.getD Lt.zero).ins.length:=by rw [aM.out.1];exact bE
      obtain ⟨bi,oi,aS,aZ,aY⟩:=aM.out.2 (by omega)
      have aV:dV Dq.luts m (lutTo d x k m (j+1))=(dV Dq.luts m (lutTo d x k m j)).set m ((dV Dq.luts m (lutTo d x k m j))[m]?.getD []++[inpD d x k ((x.net.luts[m]?.getD Lt.zero).ins[j]?.getD 0)]):=by rw [uY d x k m d5,←pR (by rw [bf.ln];exact bM)]
      have aT:=aY j bE
      obtain ⟨nd,bh⟩:∃y,(x.net.luts[m]?.getD Lt.zero).ins[j]?.getD 0=y:=⟨_,rfl⟩
      rw [bh] at aT aV
      have bW:Hid (∀v,Below w.heap.size w v→v.cell? ⟨bi,oi+j,none⟩=some (.int .i64 nd)):=fun v hv=>(hv.cell (p:=⟨bi,oi+j,none⟩) aZ).trans aT
      have bP:=Hd aS
      obtain ⟨Y,hY⟩:∃Y,inpD d x k nd=Y:=⟨_,rfl⟩
      rw [hY] at aV
      obtain ⟨c6,aE⟩:=hd2 hY aV
      clear aV hY bh d5 bG aT aY aS
      obtain rfl:=bP.out
      have ej:=cw
      have ci:=bW.out _ ar.out
      have cj:=aK ar.out aZ
      generalize ez:dV Dq.luts m (lutTo d x k m j)=LQ at *
      have bL:=aE
      have dz:Hid (aJ W9 wr [.blk V #[.slice (some ⟨I,0,none⟩) ln ln,.slice (some ⟨G,0,none⟩) sn sn] 52,.blk I (R) 26,.cels ((LQ).map aG) (R).toList,.blk G (J) 26,.cels ((Dq.seqs).map aG) (J).toList,.blk gk #[.int .i64 (kd),.int .i64 (it),.slice (some ⟨be,oe,none⟩) en ec] 89,.blk ge #[.int .i64 ((m:Int)),.int .i64 (b)] 94]):=HS
      clear ez aE HS
      have HS:=dz
      clear dz
      obtain ⟨j0,j1⟩:=ib (by omega:j<im)
      obtain ⟨x0,x1,x2,x3,lx⟩:=bX (aC HS.out.bel aw.out)
      have cF:=Hd (fun (v:World) (hv:Below W9.heap.size W9 v) (nd:Int)=>sK d x SA _ OA _ CA PA RA sn sc ln lc on oc bn bc cn cc pn pc rn rc k nd v (H1.out.below (aA ah.out hv)) HF.out bm.out cN h3)
      obtain ⟨B,nb,cb,aU,ay,u⟩:=HS.out.rowAt 2 m rfl au
      obtain ⟨aR,dS⟩:=hd2 aU ay
      have dX:nb<=5000:=by rw [←ay];exact bb
      have HT:Hid (aJ W9 wr.drew [.blk V #[.slice (some ⟨I,0,none⟩) ln ln,.slice (some ⟨G,0,none⟩) sn sn] 52,.blk I (R) 26,.cels (((LQ).map aG).set m (.int 0)) ((R).toList.set m (.int .i64 0)),.blk G (J) 26,.cels ((Dq.seqs).map aG) (J).toList,.blk gk #[.int .i64 (kd),.int .i64 (it),.slice (some ⟨be,oe,none⟩) en ec] 89,.blk ge #[.int .i64 ((m:Int)),.int .i64 (b)] 94,.cel (aG (LQ[m]?.getD [])) (.slice B nb cb)]):=Hd u.drew
      clear u aU ay
      have c7:=HT.out.bel
      have U:Hid (∀(v:World) (p2 p3 p4:Pc) (r:List Pc),aJ W9 v (.blk V #[.slice (some ⟨I,0,none⟩) ln ln,.slice (some ⟨G,0,none⟩) sn sn] 52 :: .blk I (R) 26 :: p2 :: p3 :: p4 :: .blk gk #[.int .i64 (kd),.int .i64 (it),.slice (some ⟨be,oe,none⟩) en ec] 89 :: .blk ge #[.int .i64 ((m:Int)),.int .i64 (b)] 94 ::  r)→(v.cell? ⟨V,0,none⟩=some (.slice (some ⟨I,0,none⟩) ln ln)/\v.cell? ⟨V,1,none⟩=some (.slice (some ⟨G,0,none⟩) sn sn)/\KD v w.heap.size d (K8 v gY (.int .i64 x.net.inputs) (.slice SA sn sc) (.slice (some ⟨gt,ot,none⟩) ln lc) (.slice OA on oc) (.slice (some ⟨gb,ob,none⟩) bn bc) (.slice CA cn cc) (.slice PA pn pc) (.slice RA rn rc) (v.cell? ⟨gt,ot+m * 2,none⟩=some (.slice (some ⟨bi,oi,none⟩) im ic)/\v.cell? ⟨bi,oi+j,none⟩=some (.int .i64 nd)/\v.cell? ⟨ge,0,none⟩=some (.int .i64 (m:Int))/\v.cell? ⟨I,m,none⟩=some (.slice B nb cb))))):=Hd fun v p2 p3 p4 r h=>⟨aF (k:=0) (h.blk 0 rfl).1 rfl,aF (k:=1) (h.blk 0 rfl).1 rfl,aF (k:=0) (aC h.bel aw.out) rfl,aF (k:=1) (aC h.bel aw.out) rfl,aF (k:=2) (aC h.bel aw.out) rfl,aF (k:=3) (aC h.bel aw.out) rfl,aF (k:=0) (aC h.bel Z.out) rfl,aF (k:=1) (aC h.bel Z.out) rfl,aF (k:=2) (aC h.bel Z.out) rfl,aF (k:=3) (aC h.bel Z.out) rfl,aF (k:=4) (aC h.bel Z.out) rfl,aF (k:=5) (aC h.bel Z.out) rfl,aF (k:=6) (aC h.bel Z.out) rfl,aF (k:=7) (aC h.bel Z.out) rfl,ej.out _ (aA ah.out h.bel),bW.out _ (aA ah.out h.bel),aF (k:=0) (h.blk 6 rfl).1 rfl,aF (k:=m) (h.blk 1 rfl).1 aR.out⟩
      go_upto_region 23 with fail
      refine wp_region_noPanic ?_
      refine jD 28 (fun w'=>w'.cell? ⟨V,0,none⟩=some (.slice (some ⟨I,0,none⟩) ln ln)/\w'.cell? ⟨V,1,none⟩=some (.slice (some ⟨G,0,none⟩) sn sn)/\KD w' w.heap.size d (K8 w' gY (.int .i64 x.net.inputs) (.slice SA sn sc) (.slice (some ⟨gt,ot,none⟩) ln lc) (.slice OA on oc) (.slice (some ⟨gb,ob,none⟩) bn bc) (.slice CA cn cc) (.slice PA pn pc) (.slice RA rn rc) (w'.cell? ⟨gt,ot+m * 2,none⟩=some (.slice (some ⟨bi,oi,none⟩) im ic)/\w'.cell? ⟨bi,oi+j,none⟩=some (.int .i64 nd)/\w'.cell? ⟨ge,0,none⟩=some (.int .i64 (m:Int))/\w'.cell? ⟨I,m,none⟩=some (.slice B nb cb)))) (U.out _ _ _ _ _ HT.out) (fun u H=>?_)
      refine onT u 0 opA H ?_
      refine onT u 1 (opB opA) H ?_
      refine onT u 2 (opB (opB opA)) H ?_
      refine onT u 3 (opB (opB (opB opA))) H ?_
      refine onT u 4 (opC opA) H ?_
      refine onT u 5 (opC (opB opA)) H ?_
      refine onT u 6 (opC (opB (opB opA))) H ?_
      refine onT u 7 (opC (opB (opB (opB opA)))) H ?_
      refine onT u 8 (opC (opC opA)) H ?_
      refine onT u 9 (opC (opC (opB opA))) H ?_
      refine onT u 10 (opC (opC (opB (opB opA)))) H ?_
      refine onT u 11 (opC (opC (opB (opB (opB opA))))) H ?_
      refine onT u 12 (opC (opC (opC opA))) H ?_
      refine onT u 13 (opC (opC (opC (opB opA)))) H ?_
      refine onT u 14 (opC (opC (opC (opB (opB opA))))) H ?_
      refine onT u 15 (opC (opC (opC (opB (opB (opB opA)))))) H ?_
      refine onT u 16 (opD opA) H ?_
      refine onT u 17 (opD (opB opA)) H ?_
      refine onT u 18 (opD (opB (opB opA))) H ?_
      refine onT u 19 (opD (opB (opB (opB opA)))) H ?_
      refine onT u 20 (opD (opC opA)) H ?_
      refine onT u 21 (opD (opC (opB opA))) H ?_
      refine onT u 22 (opD (opC (opB (opB opA)))) H ?_
      refine onT u 23 (opD (opC (opB (opB (opB opA))))) H ?_
      refine lD u 24 (opD (opC (opC opA))) (fun K hK=>?_)
      go_simp
      go_at_call 56
      with_reducible refine (cF.out _ c7 _).mono ?_
      rw [c6.out]
      rintro _ w7 ⟨rfl,b7⟩
      have aO:=Hd (HT.out.below b7)
      clear b7
      refine hK.out _ _ (U.out _ _ _ _ _ aO.out) (fun H=>?_)
      clear hK K
      try simp only [Act.put,List.setIfInBounds_toArray,List.set_cons_zero,List.set_cons_succ]
      have HA:Hid (aJ W9 (w7.alloc (.cells #[.int .i64 (Y)] 3)) [.blk V #[.slice (some ⟨I,0,none⟩) ln ln,.slice (some ⟨G,0,none⟩) sn sn] 52,.blk I (R) 26,.cels (((LQ).map aG).set m (.int 0)) ((R).toList.set m (.int .i64 0)),.blk G (J) 26,.cels ((Dq.seqs).map aG) (J).toList,.blk gk #[.int .i64 (kd),.int .i64 (it),.slice (some ⟨be,oe,none⟩) en ec] 89,.blk ge #[.int .i64 ((m:Int)),.int .i64 (b)] 94,.cel (aG (LQ[m]?.getD [])) (.slice B nb cb)]):=Hd (aO.out.alloc _)
      refine lD u 25 (opD (opC (opC (opB opA)))) (fun K hK=>?_)
      go_simp
      refine hK.out _ _ (U.out _ _ _ _ _ HA.out) (fun H=>?_)
      clear hK K
      try simp only [Act.put,List.setIfInBounds_toArray,List.set_cons_zero,List.set_cons_succ]
      refine lD u 26 (opD (opC (opC (opB (opB opA))))) (fun K hK=>?_)
      refine gu rfl _ _ (by rfl) _ HA.out 7 B nb cb (LQ[m]?.getD []) Y _ (0,0) rfl (by rfl) (by rfl) (aI _ _) (by omega) ?_
      intro g8 Q w8 S8 _
      have aq:Hid (aJ W9 w8 [.blk V #[.slice (some ⟨I,0,none⟩) ln ln,.slice (some ⟨G,0,none⟩) sn sn] 52,.blk I (R) 26,.cels (((LQ).map aG).set m (.int 0)) ((R).toList.set m (.int .i64 0)),.blk G (J) 26,.cels ((Dq.seqs).map aG) (J).toList,.blk gk #[.int .i64 (kd),.int .i64 (it),.slice (some ⟨be,oe,none⟩) en ec] 89,.blk ge #[.int .i64 ((m:Int)),.int .i64 (b)] 94,.cel (aG (LQ[m]?.getD []++[Y])) (.slice (some ⟨g8,0,none⟩) (nb+1) Q)]):=Hd S8
      clear S8
      refine hK.out _ _ (U.out _ _ _ _ _ aq.out) (fun H=>?_)
      clear hK K
      try simp only [Act.put,List.setIfInBounds_toArray,List.set_cons_zero,List.set_cons_succ]
      have c8:=aF (k:=m) (aq.out.blk 1 rfl).1 aR.out
      have f8:=aW (aq.out.blk 1 rfl).1 m
      have q8:=aB (aq.out.blk 1 rfl).1
      refine onT u 27 (opD (opC (opC (opB (opB (opB opA)))))) H ?_
      refine uJ u 28 (opD (opC (opC (opC opA)))) ?_
      go_wp2_with fail
      refine NoPanic.normal ?_
      have a8:Hid (aJ W9 (w8.setCell ⟨I,m,none⟩ (.slice (some ⟨g8,0,none⟩) (nb+1) Q)) [.blk V #[.slice (some ⟨I,0,none⟩) ln ln,.slice (some ⟨G,0,none⟩) sn sn] 52,.blk I ((R).setIfInBounds m (.slice (some ⟨g8,0,none⟩) (nb+1) Q)) 26,.cels (((LQ).set m (LQ[m]?.getD []++[Y])).map aG) ((R).setIfInBounds m (.slice (some ⟨g8,0,none⟩) (nb+1) Q)).toList,.blk G (J) 26,.cels ((Dq.seqs).map aG) (J).toList,.blk gk #[.int .i64 (kd),.int .i64 (it),.slice (some ⟨be,oe,none⟩) en ec] 89,.blk ge #[.int .i64 ((m:Int)),.int .i64 (b)] 94]):=Hd (((aq.out.put 1 rfl m (.slice (some ⟨g8,0,none⟩) (nb+1) Q)).rowBack 2 7 m (by decide) rfl au rfl).sub (qs:=[.blk V #[.slice (some ⟨I,0,none⟩) ln ln,.slice (some ⟨G,0,none⟩) sn sn] 52,.blk I ((R).setIfInBounds m (.slice (some ⟨g8,0,none⟩) (nb+1) Q)) 26,.cels (((LQ).set m (LQ[m]?.getD []++[Y])).map aG) ((R).setIfInBounds m (.slice (some ⟨g8,0,none⟩) (nb+1) Q)).toList,.blk G (J) 26,.cels ((Dq.seqs).map aG) (J).toList,.blk gk #[.int .i64 (kd),.int .i64 (it),.slice (some ⟨be,oe,none⟩) en ec] 89,.blk ge #[.int .i64 ((m:Int)),.int .i64 (b)] 94]) (List.sublist_append_left _ [_]))
      go_wp2_with fail
      go_roundw
      ·exact ⟨j+1,_,by omega,by go_num,by rw [bL.out];exact a8.out⟩
      simp [intOf];omega
     have d1:j=im:=by omega
     have dj:=dF (by omega:im<=j)
     have eJ:Hid (lutTo d x k m j=lutW d x k m):=wS d x k m (by rw [aM.out.1,d1])
     rw [eJ.out] at HS
     clear d1
     by_cases hb:0<=b
     ·have db:decide (b≥0)=true:=decide_eq_true hb
      obtain ⟨f,hf⟩:∃f:Nat,b=(f:Int):=⟨b.toNat,by omega⟩
      subst hf
      have a7:f<x.net.seqs.length:=by have h1:(f:Int)<(x.net.seqs.length:Int):=a6.ff.2;omega
      have el:f<sn:=by rw [←bs.out];exact a7
      have au:f<Dq.seqs.length:=by rw [bf.sn];exact a7
      have aX:Hid (lesTo d x k es D0 (q+1)=⟨dV Dq.luts m (lutW d x k m),Dq.seqs.set f [0]⟩):=by
       show _=_
       rw [cR.out]
       simp [leS,ffW]
      have bC:J[f]?=some (J[f]'(by rw [HS.out.rowsN 4 rfl];exact au)):=Array.getElem?_eq_getElem _
      have cH:=aF (k:=f) (HS.out.blk 3 rfl).1 bC
      have fH:=aW (HS.out.blk 3 rfl).1 f
      have lH:=aB (HS.out.blk 3 rfl).1
      obtain ⟨ew,et⟩:=ib (by omega:f<sn)
      obtain ⟨o0,o1,lo⟩:=fZ (HS.out.blk 0 rfl).1
      have dC:=Hd (HS.out.pushOwn (aD (Below.refl _ _) (.cells #[.int .i64 0] 3)) (Own.made (cur:=#[.int .i64 (0)]) (aI wr _) (Nat.le_refl _) (by unfold maxLen;simp) rfl rfl:Own wr.heap.size (wr.alloc (.cells #[.int .i64 (0)] 3)) (some ⟨wr.heap.size,0,none⟩) 1 1 [0]))
      have cV:=dC.out.put 3 rfl f (.slice (some ⟨wr.heap.size,0,none⟩) 1 1)
      rw [World.setCell_alloc_past _ _ _ _ lH] at cV
      have dM:=Hd cV
      have ea:Hid (aJ W9 ((wr.setCell ⟨G,f,none⟩ (.slice (some ⟨wr.heap.size,0,none⟩) 1 1)).alloc (.cells #[.int .i64 0] 3)) [.blk V #[.slice (some ⟨I,0,none⟩) ln ln,.slice (some ⟨G,0,none⟩) sn sn] 52,.blk I (R) 26,.cels ((dV Dq.luts m (lutW d x k m)).map aG) (R).toList,.blk G (J.setIfInBounds f (.slice (some ⟨wr.heap.size,0,none⟩) 1 1)) 26,.cels ((Dq.seqs.set f [0]).map aG) (J.setIfInBounds f (.slice (some ⟨wr.heap.size,0,none⟩) 1 1)).toList,.blk gk #[.int .i64 (kd),.int .i64 (it),.slice (some ⟨be,oe,none⟩) en ec] 89]):=Hd ((dM.out.rowPut 4 7 f (by decide) (L:=Dq.seqs) (vs:=J) (r:=[0]) (v := .slice (some ⟨wr.heap.size,0,none⟩) 1 1) rfl au rfl).sub (List.sublist_append_left _ [_,_]))
      clear bC dC dM cV
      go_wp2_with fail
      go_roundw
      ·exact ⟨q+1,_,_,by omega,by go_num,by rw [aX.out];exact ea.out⟩
      simp [intOf];omega
     have db:decide (b≥0)=false:=decide_eq_false hb
     have aX:Hid (lesTo d x k es D0 (q+1)=⟨dV Dq.luts m (lutW d x k m),Dq.seqs⟩):=by
      show _=_
      rw [cR.out]
      unfold leS
      rw [if_neg hb]
      simp
     clear hb
     go_wp2_with fail
     go_roundw
     ·exact ⟨q+1,_,_,by omega,by go_num,by rw [aX.out];exact HS.out.sub (List.sublist_append_left _ [_])⟩
     simp [intOf];omega
    have da:decide (a≥0)=false:=by simpa using ha
    have hb:0<=b:=by have h1:=a6.lut.1;have h2:=a6.ff.1;have h3:=a6.one;change -1<=a at h1;change -1<=b at h2;change ¬(a=-1/\b=-1) at h3;omega
    have db:decide (b≥0)=true:=decide_eq_true hb
    obtain ⟨f,hf⟩:∃f:Nat,b=(f:Int):=⟨b.toNat,by omega⟩
    subst hf
    have a7:f<x.net.seqs.length:=by have h1:(f:Int)<(x.net.seqs.length:Int):=a6.ff.2;omega
    have el:f<sn:=by rw [←bs.out];exact a7
    have au:f<Dq.seqs.length:=by rw [bf.sn];exact a7
    obtain ⟨sb,so,IA,im,ic,bN,bU,_,_,d2,rI⟩:=H1.out.net.sq.sq' (k:=f) a7
    have aM:=Hd rI.ints
    have bR:1<=im:=by
     rw [←aM.out.1]
     rcases (HF.out.pack.net.seqs f a7).1 with h|h
     ·rw [h.2.2];exact Nat.le_refl _
     rw [h.2.2];omega
    have cK:=Hd bN
    have dw:Hid (∀v,Below w.heap.size w v→v.cell? ⟨sb,so+f * 3+2,none⟩=some (.slice IA im ic)):=fun v hv=>(hv.cell (p:=⟨sb,so+f * 3+2,none⟩) bU).trans d2
    clear bN d2 rI
    obtain rfl:=cK.out
    go_wp2_with fail
    go_loopw [13] (fun i wr=>i = .int .i64 0/\WE=wr) (fun _ _=>0)
    ·exact ⟨rfl,rfl⟩
    obtain ⟨rfl,rfl⟩:=hrel
    have HS:=ds
    obtain ⟨wr,rfl⟩:∃y,y=WE:=⟨WE,rfl⟩
    have ar:=Hd (aA ah.out HS.out.bel)
    obtain ⟨bi,oi,aS,aZ,aY⟩:=aM.out.2 bR
    have aT:=aY 0 (by omega)
    rw [Nat.add_zero] at aT
    obtain ⟨nd,bh⟩:∃y,(x.net.seqs[f]?.getD Sq.zero).ins[0]?.getD 0=y:=⟨_,rfl⟩
    rw [bh] at aT
    have bW:Hid (∀v,Below w.heap.size w v→v.cell? ⟨bi,oi,none⟩=some (.int .i64 nd)):=fun v hv=>(hv.cell (p:=⟨bi,oi,none⟩) aZ).trans aT
    have bP:=Hd aS
    obtain ⟨Y,hY⟩:∃Y,inpD d x k nd=Y:=⟨_,rfl⟩
    have c6:=Hd hY
    have aX:Hid (lesTo d x k es D0 (q+1)=⟨Dq.luts,Dq.seqs.set f [Y]⟩):=by
     show _=_
     rw [cR.out]
     unfold leS ffW
     rw [if_neg (show ¬0<=(LeT.mk a (f:Int)).lut from Int.not_le.mpr ha),if_pos (show 0<=(LeT.mk a (f:Int)).ff from hb),if_neg (show ¬0<=(LeT.mk a (f:Int)).lut from Int.not_le.mpr ha)]
     simp only [Int.toNat_natCast]
     rw [bh,hY]
    clear aS aY aT bh hY
    obtain rfl:=bP.out
    have co:=dw
    have bC:J[f]?=some (J[f]'(by rw [HS.out.rowsN 4 rfl];exact au)):=Array.getElem?_eq_getElem _
    have eG:=Hd bC
    obtain ⟨ew,et⟩:=ib (by omega:f<sn)
    have fB:(0:Int)<(im:Int):=by omega
    have fj:0<im:=bR
    clear bC
    obtain ⟨e0,e1,le⟩:=fZ (HS.out.blk 6 rfl).1
    obtain ⟨o0,o1,lo⟩:=fZ (HS.out.blk 0 rfl).1
    obtain ⟨y0,y1,y2,y3,y4,y5,y6,y7,ly⟩:=j6 (aC HS.out.bel Z.out)
    obtain ⟨x0,x1,x2,x3,lx⟩:=bX (aC HS.out.bel aw.out)
    have d2:=co.out _ ar.out
    have cC:=aK ar.out bU
    have ci:=bW.out _ ar.out
    have cj:=aK ar.out aZ
    have cF:=Hd (fun (v:World) (hv:Below W9.heap.size W9 v) (nd:Int)=>sK d x _ LA OA _ CA PA RA sn sc ln lc on oc bn bc cn cc pn pc rn rc k nd v (H1.out.below (aA ah.out hv)) HF.out bm.out cN h3)
    have U:Hid (∀(v:World) (p1 p2 p3 p4:Pc) (r:List Pc),aJ W9 v (.blk V #[.slice (some ⟨I,0,none⟩) ln ln,.slice (some ⟨G,0,none⟩) sn sn] 52 :: p1 :: p2 :: p3 :: p4 :: .blk gk #[.int .i64 (kd),.int .i64 (it),.slice (some ⟨be,oe,none⟩) en ec] 89 :: .blk ge #[.int .i64 (a),.int .i64 ((f:Int))] 94 ::  r)→(v.cell? ⟨V,0,none⟩=some (.slice (some ⟨I,0,none⟩) ln ln)/\v.cell? ⟨V,1,none⟩=some (.slice (some ⟨G,0,none⟩) sn sn)/\KD v w.heap.size d (K8 v gY (.int .i64 x.net.inputs) (.slice (some ⟨sb,so,none⟩) sn sc) (.slice LA ln lc) (.slice OA on oc) (.slice (some ⟨gb,ob,none⟩) bn bc) (.slice CA cn cc) (.slice PA pn pc) (.slice RA rn rc) (v.cell? ⟨sb,so+f * 3+2,none⟩=some (.slice (some ⟨bi,oi,none⟩) im ic)/\v.cell? ⟨bi,oi,none⟩=some (.int .i64 nd)/\v.cell? ⟨ge,1,none⟩=some (.int .i64 (f:Int)))))):=Hd fun v p1 p2 p3 p4 r h=>⟨aF (k:=0) (h.blk 0 rfl).1 rfl,aF (k:=1) (h.blk 0 rfl).1 rfl,aF (k:=0) (aC h.bel aw.out) rfl,aF (k:=1) (aC h.bel aw.out) rfl,aF (k:=2) (aC h.bel aw.out) rfl,aF (k:=3) (aC h.bel aw.out) rfl,aF (k:=0) (aC h.bel Z.out) rfl,aF (k:=1) (aC h.bel Z.out) rfl,aF (k:=2) (aC h.bel Z.out) rfl,aF (k:=3) (aC h.bel Z.out) rfl,aF (k:=4) (aC h.bel Z.out) rfl,aF (k:=5) (aC h.bel Z.out) rfl,aF (k:=6) (aC h.bel Z.out) rfl,aF (k:=7) (aC h.bel Z.out) rfl,co.out _ (aA ah.out h.bel),bW.out _ (aA ah.out h.bel),aF (k:=1) (h.blk 6 rfl).1 rfl⟩
    have HT:Hid (aJ W9 wr.drew [.blk V #[.slice (some ⟨I,0,none⟩) ln ln,.slice (some ⟨G,0,none⟩) sn sn] 52,.blk I (R) 26,.cels ((Dq.luts).map aG) (R).toList,.blk G (J) 26,.cels ((Dq.seqs).map aG) (J).toList,.blk gk #[.int .i64 (kd),.int .i64 (it),.slice (some ⟨be,oe,none⟩) en ec] 89,.blk ge #[.int .i64 (a),.int .i64 ((f:Int))] 94]):=Hd HS.out.drew
    have c7:=HT.out.bel
    go_upto_region 27 with fail
    refine wp_region_noPanic ?_
    refine jD 20 (fun w'=>w'.cell? ⟨V,0,none⟩=some (.slice (some ⟨I,0,none⟩) ln ln)/\w'.cell? ⟨V,1,none⟩=some (.slice (some ⟨G,0,none⟩) sn sn)/\KD w' w.heap.size d (K8 w' gY (.int .i64 x.net.inputs) (.slice (some ⟨sb,so,none⟩) sn sc) (.slice LA ln lc) (.slice OA on oc) (.slice (some ⟨gb,ob,none⟩) bn bc) (.slice CA cn cc) (.slice PA pn pc) (.slice RA rn rc) (w'.cell? ⟨sb,so+f * 3+2,none⟩=some (.slice (some ⟨bi,oi,none⟩) im ic)/\w'.cell? ⟨bi,oi,none⟩=some (.int .i64 nd)/\w'.cell? ⟨ge,1,none⟩=some (.int .i64 (f:Int))))) (U.out _ _ _ _ _ _ HT.out) (fun u H=>?_)
    refine onT u 0 opA H ?_
    refine onT u 1 (opB opA) H ?_
    refine onT u 2 (opB (opB opA)) H ?_
    refine onT u 3 (opB (opB (opB opA))) H ?_
    refine onT u 4 (opC opA) H ?_
    refine onT u 5 (opC (opB opA)) H ?_
    refine onT u 6 (opC (opB (opB opA))) H ?_
    refine onT u 7 (opC (opB (opB (opB opA)))) H ?_
    refine onT u 8 (opC (opC opA)) H ?_
    refine onT u 9 (opC (opC (opB opA))) H ?_
    refine onT u 10 (opC (opC (opB (opB opA)))) H ?_
    refine onT u 11 (opC (opC (opB (opB (opB opA))))) H ?_
    refine onT u 12 (opC (opC (opC opA))) H ?_
    refine onT u 13 (opC (opC (opC (opB opA)))) H ?_
    refine onT u 14 (opC (opC (opC (opB (opB opA))))) H ?_
    refine onT u 15 (opC (opC (opC (opB (opB (opB opA)))))) H ?_
    refine onT u 16 (opD opA) H ?_
    refine lD u 17 (opD (opB opA)) (fun K hK=>?_)
    go_simp
    go_at_call 56
    with_reducible refine (cF.out _ c7 _).mono ?_
    rw [c6.out]
    rintro _ w7 ⟨rfl,b7⟩
    have aO:=Hd (HT.out.below b7)
    clear b7
    refine hK.out _ _ (U.out _ _ _ _ _ _ aO.out) (fun H=>?_)
    clear hK K
    try simp only [Act.put,List.setIfInBounds_toArray,List.set_cons_zero,List.set_cons_succ]
    have HA:Hid (aJ W9 (w7.alloc (.cells #[.int .i64 Y] 3)) [.blk V #[.slice (some ⟨I,0,none⟩) ln ln,.slice (some ⟨G,0,none⟩) sn sn] 52,.blk I (R) 26,.cels ((Dq.luts).map aG) (R).toList,.blk G (J) 26,.cels ((Dq.seqs).map aG) (J).toList,.blk gk #[.int .i64 (kd),.int .i64 (it),.slice (some ⟨be,oe,none⟩) en ec] 89,.blk ge #[.int .i64 (a),.int .i64 ((f:Int))] 94]):=Hd (aO.out.alloc _)
    refine lD u 18 (opD (opB (opB opA))) (fun K hK=>?_)
    go_simp
    refine hK.out _ _ (U.out _ _ _ _ _ _ HA.out) (fun H=>?_)
    clear hK K
    try simp only [Act.put,List.setIfInBounds_toArray,List.set_cons_zero,List.set_cons_succ]
    have fQ:=aF (k:=f) (aO.out.blk 3 rfl).1 eG.out
    have fK:=aW (aO.out.blk 3 rfl).1 f
    have eO:=aB (aO.out.blk 3 rfl).1
    refine onT u 19 (opD (opB (opB (opB opA)))) H ?_
    refine uJ u 20 (opD (opC opA)) ?_
    go_wp2_with fail
    refine NoPanic.normal ?_
    have a8:Hid (aJ W9 ((w7.setCell ⟨G,f,none⟩ (.slice (some ⟨w7.heap.size,0,none⟩) 1 1)).alloc (.cells #[.int .i64 Y] 3)) [.blk V #[.slice (some ⟨I,0,none⟩) ln ln,.slice (some ⟨G,0,none⟩) sn sn] 52,.blk I (R) 26,.cels ((Dq.luts).map aG) (R).toList,.blk G (J.setIfInBounds f (.slice (some ⟨w7.heap.size,0,none⟩) 1 1)) 26,.cels ((Dq.seqs.set f [Y]).map aG) (J.setIfInBounds f (.slice (some ⟨w7.heap.size,0,none⟩) 1 1)).toList,.blk gk #[.int .i64 (kd),.int .i64 (it),.slice (some ⟨be,oe,none⟩) en ec] 89]):=Hd (by have h9:=(aO.out.pushOwn (aD (Below.refl _ _) (.cells #[.int .i64 Y] 3)) (Own.made (cur:=#[.int .i64 Y]) (aI w7 _) (Nat.le_refl _) (by unfold maxLen;simp) rfl rfl:Own w7.heap.size (w7.alloc (.cells #[.int .i64 Y] 3)) (some ⟨w7.heap.size,0,none⟩) 1 1 [Y])).put 3 rfl f (.slice (some ⟨w7.heap.size,0,none⟩) 1 1);rw [World.setCell_alloc_past _ _ _ _ eO] at h9;exact (h9.rowPut 4 7 f (by decide) (L:=Dq.seqs) (vs:=J) (r:=[Y]) (v := .slice (some ⟨w7.heap.size,0,none⟩) 1 1) rfl au rfl).sub (List.sublist_append_left _ [_,_]))
    go_wp2_with fail
    go_roundw
    ·exact ⟨q+1,_,_,by omega,by go_num,by rw [aX.out];exact a8.out⟩
    simp [intOf];omega
   have dO:q=en:=by omega
   have dq:=dF (by omega:en<=q)
   have bz:Hid (delTo d x (k+1)=lesTo d x k es D0 q):=by show _=_;rw [ch.out,dO,←b3.out]
   clear dO
   go_wp2_with fail
   go_roundw
   ·exact ⟨k+1,_,_,by omega,by go_num,by rw [bz.out];exact br.out.sub (List.sublist_append_left _ [_])⟩
   simp [intOf];omega
  have dZ:k=bn:=by omega
  have eM:=dF (by omega:bn<=k)
  have cP:Hid (delTo d x k=delays d x):=by show _=_;unfold delays;rw [dZ,bY.out]
  rw [cP.out] at aj
  have dt:(delays d x).luts.length=ln:=by have h:=(lW (d:=d) HF.out.pack k (by rw [bY.out];omega)).ln;rw [cP.out] at h;rw [h];exact cq.out
  have dN:(delays d x).seqs.length=sn:=by have h:=(lW (d:=d) HF.out.pack k (by rw [bY.out];omega)).sn;rw [cP.out] at h;rw [h];exact bs.out
  have cY:=aj.out.rowsN 2 rfl
  have c3:=aj.out.rowsN 4 rfl
  rw [dt] at cY
  rw [dN] at c3
  have dE:=Hd (aj.out.fuse 1 2 (by decide) rfl rfl cY (by unfold maxLen;omega))
  have dP:=Hd (dE.out.fuse 3 4 (by decide) rfl rfl c3 (by unfold maxLen;omega))
  have eK:Hid (aJ W9 wr [.cel (bg (delays d x).luts) (.slice (some ⟨I,0,none⟩) ln ln),.cel (bg (delays d x).seqs) (.slice (some ⟨G,0,none⟩) sn sn)]):=Hd (dP.out.sub (List.Sublist.cons _ (List.Sublist.cons_cons _ (List.Sublist.cons _ (List.Sublist.cons_cons _ (List.nil_sublist _))))))
  obtain ⟨o0,o1,lo⟩:=fZ (aj.out.blk 0 rfl).1
  have hr:=aC aj.out.bel bj.out
  obtain ⟨r0,r1⟩:=cs2 hr
  have rf:=fun j=>aW hr j
  have lr:=aB hr
  have cG:=Hd hr
  clear hr dZ dt dN cY c3 dE dP
  go_wp2_with fail
  refine bodyPost_ret (v := .tuple #[.agg #[.slice (some ⟨I,0,none⟩) ln ln,.slice (some ⟨G,0,none⟩) sn sn],.bool true]) (lV Tryz.results13 rfl (je (je cG.out (.slice (some ⟨I,0,none⟩) ln ln) rfl) (.slice (some ⟨G,0,none⟩) sn sn) rfl) Tryz.underlying52 (by kernel_rfl)) rfl ⟨_,_,_,_,_,_,by rw [ae HF.out],?_⟩
  have H:delD d x=delays d x:=if_pos HF.out
  rw [H]
  exact eK.out.lowerC ah.out (lo:=gR) (hi:=gR+1) (by have h1:=du.out;have h2:=dy.out;omega) (by have:=aB bj.out;omega) ((Chg.refl' _ _ _).set (by omega) (by omega) _ |>.set (by omega) (by omega) _)
 rw [bJ hf]
 rintro _ w1 ⟨rfl,b1⟩
 obtain ⟨B1,dm⟩:=hd2 b1 hf
 have hr:=aC b1 bj.out
 obtain ⟨r0,r1⟩:=cs2 hr
 have rf:=fun j=>aW hr j
 have lr:=aB hr
 have cG:=Hd hr
 clear hr b1 hf x0 x1 x2 x3 lx y0 y1 y2 y3 y4 y5 y6 y7 ly
 go_wp2_with fail
 refine bodyPost_ret (v := .tuple #[.agg #[.slice none 0 0,.slice none 0 0],.bool false]) (lV Tryz.results13 rfl (je (je cG.out (.slice none 0 0) rfl) (.slice none 0 0) rfl) Tryz.underlying52 (by kernel_rfl)) rfl ⟨none,0,0,none,0,0,by rw [bJ dm.out],?_⟩
 have H:delD d x=⟨[],[]⟩:=if_neg dm.out
 rw [H]
 have HG:aJ W9 w1 [.cel (bg []) (.slice none 0 0),.cel (bg []) (.slice none 0 0)]:=((aJ.nil B1.out).pushNil 26 1).pushNil 26 1
 exact HG.lowerC ah.out (lo:=gR) (hi:=gR+1) (by have h1:=du.out;have h2:=dy.out;omega) (by have:=aB bj.out;omega) ((Chg.refl' _ _ _).set (by omega) (by omega) _ |>.set (by omega) (by omega) _)
end Go.Proofs.YtofihjoanjkdmaaGreat
