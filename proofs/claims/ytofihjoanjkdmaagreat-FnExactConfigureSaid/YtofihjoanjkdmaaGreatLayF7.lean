/- Connections of blocks in the program (printed by mkcn.py). -/
import Derived.Test.YtofihjoanjkdmaaGreatLayF6
namespace Go.Proofs.YtofihjoanjkdmaaGreat
set_option maxHeartbeats 8000000
set_option maxRecDepth 100000
open Go.RowKit
theorem xG:(Tryz.prog.info? 26).map (fun i=>(i.zero,i.size,i.bytes))=some (some (.slice none 0 0),1,24):=by kernel_rfl
theorem zu:(Tryz.prog.info? 100).map (fun i=>(i.zero,i.size,i.bytes))=some (some (.agg #[.int .i64 0,.int .i64 0]),2,16):=by kernel_rfl
theorem xH:(Tryz.prog.info? 158).map (fun i=>(i.zero,i.size,i.bytes))=some (some (.agg #[.int .i64 0,.int .i64 0,.int .i64 0,.slice none 0 0]),4,48):=by kernel_rfl
theorem qa {w:World} {x:Int} {cs:List Cel} {vs:List Value} {F:List Nat} (h:fB w cs vs F):fB w (.int x :: cs) (.int .i64 x :: vs) F:=bK.2 ⟨_,_,[],F,rfl,rfl,ed.2 ⟨rfl,rfl⟩,h⟩
theorem zw {w:World} {c:Cel} {v:Value} {F:List Nat} (h:bO w c v F):fB w [c] [v] F:=bK.2 ⟨v,[],F,[],rfl,(List.append_nil _).symm,h,ek.2 ⟨rfl,rfl⟩⟩
theorem sw {W w w':World} {ps:List Pc} {A:Option Addr} {n c:Nat} {xs:List Int} (h:aJ W w ps) (g:Below w.heap.size w w') (ho:Own w.heap.size w' A n c xs):aJ W w' (.cels [aH xs] [.slice A n c] :: ps) :=
 h.cons g (show fB w' [aH xs] [.slice A n c] (blk A) from zw (eB.2 ⟨ho.more (Nat.zero_le _),rfl⟩)) (by cases A <;> simp [blk]) fun k hk=>by
  obtain ⟨a,rfl,rfl⟩:=nz.1 hk
  exact (ho.lt a rfl).1
theorem aJ.consPin {W w:World} {ps:List Pc} (h:aJ W w ps) (a b:Int):aJ W w (.cels [.int a,.int b] [.int .i64 a,.int .i64 b] :: ps) :=
 h.cons (Below.refl _ _) (G:=[]) (show fB w _ _ [] from qa (qa (ek.2 ⟨rfl,rfl⟩))) (by simp) (by simp)
theorem aJ.connCels {W w:World} {ps:List Pc} (h:aJ W w ps) (i:Nat) {ss:List bS} {A:Option Addr} {n c:Nat} (a b d:Int) (hi:ps[i]?=some (.cel (bR ss) (.slice A n c))):aJ W w (ps.set i (.cels [.int a,.int b,.int d,bR ss] [.int .i64 a,.int .i64 b,.int .i64 d,.slice A n c])) :=
 h.same i hi fun _ h=>qa (qa (qa (zw h)))
def vV (g:List (List Int)):Cel := .row 26 1 (g.map aH)
theorem xI (g:List (List Int)) (ps:List Int):vV (g++[ps]) = .row 26 1 (g.map aH++[aH ps]):=by unfold vV;rw [List.map_append];rfl
theorem RdC.rowsR {w:World} {B n c k:Nat} {A:Option Addr} {g:List (List Int)} (h:RdC w B (vV g) (.slice A n c)) (hk:k<g.length) :
  ∃b o S m p,A=some ⟨b,o,none⟩/\b<B/\w.cell? ⟨b,o+k,none⟩=some (.slice S m p)/\RdC w B (aH (g[k]?.getD [])) (.slice S m p):=by
 unfold vV at h
 obtain ⟨b,o,rfl,u,hc⟩:=h.cell (by simp;omega)
 obtain ⟨z,v,e1,q,j⟩:=hc k (by simpa using hk)
 rw [List.getElem?_map,List.getElem?_eq_getElem hk] at e1
 simp only [Option.map_some,Option.some.injEq] at e1
 subst e1
 obtain ⟨S,m,p,rfl⟩:=eu (e:=3) (s:=1) j
 exact ⟨b,o,S,m,p,rfl,u,q,by rw [List.getElem?_eq_getElem hk];exact j⟩
theorem oV (l:ag) (SA LA OA:Option Addr) (sn sc ln lc on oc:Nat) (bs:List Blk) (BA:Option Addr) (bn bc:Nat) (w:World) (h:fU w l SA LA OA sn sc ln lc on oc) (hB:RdC w w.heap.size (aa bs) (.slice BA bn bc)) (hp:fq l bs) :
  Calls Tryz.prog 47 #[jE l SA LA OA sn sc ln lc on oc,.slice BA bn bc] w fun e w'=>∃A n c,e = .returned (.slice A n c)/\gI w.heap.size w'.heap.size w' (ah (eY l bs)) (.slice A n c)/\Below w.heap.size w w':=by
 have a7:=Hd (aB (Below.refl w.heap.size w) (.cells (ai l SA LA OA sn sc ln lc on oc) 41))
 have bP:=Hd (aI w (.cells (ai l SA LA OA sn sc ln lc on oc) 41))
 have a1:=hB.blkN
 obtain ⟨R,HB,HN,HP,HF,ao⟩:=hd6 a1 hB h hp hp.net hp.fit
 have bl:=hp.len
 rw [a1] at bl
 have c3:Hid (∀i,i<=bn→(kw l bs i).length<=2 * i):=fun i hi=>qo ao.out (by rw [R.out];exact hi)
 have cG:Hid (∀b∈bs,b.les.length<=1048576):=fun b hb=>by have:=lT (ao.out b hb);omega
 clear hB a1 h hp
 obtain ⟨ci,bo,bF,bM,bh⟩:=info_parts xG
 obtain ⟨cH,bU,bK,bL,bj⟩:=info_parts zu
 obtain ⟨cx,bE,bJ,bB,bV⟩:=info_parts xH
 have aP:=Hd (And.intro bo (And.intro bF (And.intro bM bh)))
 have aN:=Hd (And.intro bU (And.intro bK (And.intro bL bj)))
 have ax:=Hd (And.intro bE (And.intro bJ (And.intro bB bV)))
 clear bo bF bM bh bU bK bL bj bE bJ bB bV
 go_enter Tryz.func47,Tryz.ntmps47
 go_upto_region 1 with fail
 generalize w.alloc (.cells (ai l SA LA OA sn sc ln lc on oc) 41)=W0 at *
 obtain ⟨x0,x1,x2,x3,lx⟩:=cO (bP.out)
 go_wp2_with fail
 refine (lM l SA LA OA sn sc ln lc on oc bs BA bn bc _ (HN.out.below a7.out) (HB.out.below a7.out) cG.out).mono ?_
 rw [ae HP.out]
 rintro _ w1 ⟨rfl,b1⟩
 have aL:=Hd (aA a7.out b1)
 have bY:=Hd (aD b1 bP.out)
 clear b1 x0 x1 x2 x3 lx
 obtain ⟨W9,rfl⟩:∃x,x=w1:=⟨w1,rfl⟩
 go_wp2_with fail
 go_loopw [5,24] (fun v i wr=>∃(k:Nat) (A:Option Addr) (c:Nat),k<=bn/\i = .int .i64 (k:Int)/\v = .slice A k c/\aJ W9 wr [.cel (vV ((bs.take k).map (jA l))) (.slice A k c)]) (fun _ i _=>bn - (intOf i).toNat)
 ·exact ⟨0,none,0,by omega,rfl,rfl,(aJ.refl W9).pushNil 26 1⟩
 obtain ⟨k,A1,aM,hk,rfl,rfl,hs⟩:=hrel
 have HS:=Hd hs
 clear hs
 by_cases a8:k<bn
 ·have a5:=dT (by omega:k<bn)
  have G:k<bs.length:=by rw [R.out];exact a8
  obtain ⟨bb,ob,EA,V,ec,al,I,c0,c1,c2,r2⟩:=HB.out.blk (k:=k) G
  have z:=aA aL.out HS.out.bel
  have cl:=aK z I
  rw [←z.cell (p:=⟨bb,ob+k * 3,none⟩) I] at c0
  rw [←z.cell (p:=⟨bb,ob+k * 3+1,none⟩) I] at c1
  rw [←z.cell (p:=⟨bb,ob+k * 3+2,none⟩) I] at c2
  have D:=ao.out _ (List.getElem_mem G)
  rw [show bs[k]=bs[k]?.getD Blk.zero by rw [List.getElem?_eq_getElem G];rfl] at D
  have a4:=Hd al
  have H:=Hd (show (bs.take (k+1)).map (jA l)=(bs.take k).map (jA l)++[jA l (bs[k]?.getD Blk.zero)] from by rw [mr G,List.map_append];rfl)
  clear G z al
  generalize bs[k]?.getD Blk.zero=b at *
  obtain ⟨kd,it,es⟩:=b
  simp only at c0 c1
  have HE:=Hd (show RdC w w.heap.size (cZ es) (.slice EA V ec) from r2)
  have am:es.length=V:=HE.out.esN
  have ct:V<=2:=by rw [←am];exact lT D
  have aZ:=Hd D.1
  obtain rfl:=a4.out
  obtain ⟨i0,i1⟩:=ib (by omega:k<bn)
  have HA:=Hd (HS.out.alloc (.cells #[.int .i64 kd,.int .i64 it,.slice EA V ec] 89))
  have aY:=Hd (aI wr (.cells #[.int .i64 kd,.int .i64 it,.slice EA V ec] 89))
  obtain ⟨y0,y1,y2,ly⟩:=jX aY.out
  clear r2 am D
  obtain ⟨x0,x1,x2,x3,lx⟩:=cO (aD HA.out.bel bY.out)
  go_wp2_with fail
  refine (mX l SA LA OA sn sc ln lc on oc kd it es EA V ec _ (HN.out.below (aA aL.out HA.out.bel)) HF.out (HE.out.below (aA aL.out HA.out.bel)) aZ.out (by omega)).mono ?_
  rintro _ w4 ⟨PA,pn,pc,rfl,op,b4⟩
  have aO:=Hd (sw HA.out b4 op)
  clear x0 x1 x2 x3 lx y0 y1 y2 ly c0 c1 c2 b4 op
  go_wp2_with (at_builtin;refine gQ rfl _ _ 50 26 rfl ci _ 1 24 Tryz.underlying50 aP.out.1 aP.out.2.1 aP.out.2.2.1 aP.out.2.2.2 rfl (by decide) (by decide) _ (aO.out.alloc (.cells #[.slice PA pn pc] 26)) 1 0 (by decide) k aM _ A1 (((bs.take k).map (jA l)).map aH) _ #[.slice PA pn pc] _ rfl rfl rfl rfl (aI _ _) rfl (by omega) ?_;intro g9 aG w9 S9 aj;have a3:=Hd S9.tail;clear S9 aj)
  go_roundw
  ·exact ⟨k+1,_,_,by omega,by go_num,rfl,by rw [H.out,xI];exact a3.out⟩
  simp [intOf];omega
 have aq:k=bn:=by omega
 have a5:=dF (by omega:bn<=k)
 have H:Hid (bs.take k=bs):=by show _=_;rw [aq];exact List.take_of_length_le (by rw [R.out];exact Nat.le_refl _)
 have bW:=Hd HS.out
 have W:=bW.out
 rw [H.out] at W
 obtain ⟨u,ak⟩:∃u,bs.map (jA l)=u:=⟨_,rfl⟩
 rw [ak] at W
 have cJ:=Hd (W.rd 0 rfl)
 have Z:=Hd (aA aL.out W.bel)
 have cm:=Hd (aD W.bel bY.out)
 have cC:=Hd ak
 have bT:Hid (u.length=bn):=by show _=_;rw [←ak,List.length_map,R.out]
 have ca:Hid (∀ps∈u,ps.length<=5):=fun ps hp=>by
  rw [←ak] at hp
  obtain ⟨b,hb,rfl⟩:=List.mem_map.1 hp
  exact yl HF.out (ao.out b hb)
 subst aq
 clear HS bW W ak H
 obtain ⟨W8,rfl⟩:∃y,y=wr:=⟨wr,rfl⟩
 obtain ⟨PA,rfl⟩:∃y,y=A1:=⟨A1,rfl⟩
 obtain ⟨pc,rfl⟩:∃y,y=aM:=⟨aM,rfl⟩
 obtain ⟨bn,rfl⟩:∃y,y=k:=⟨k,rfl⟩
 go_wp2_with fail
 go_loopw [8,37] (fun v i wr=>∃(k:Nat) (A:Option Addr) (n c:Nat),k<=bn/\i = .int .i64 (k:Int)/\v = .slice A n c/\n<=2 * k/\aJ W8 wr [.cel (ah (kw l bs k)) (.slice A n c)]) (fun _ i _=>bn - (intOf i).toNat)
 ·exact ⟨0,none,0,0,by omega,rfl,rfl,by omega,(aJ.refl W8).pushNil 158 4⟩
 obtain ⟨k,A1,n1,aM,hk,rfl,rfl,c9,hs⟩:=hrel
 have HS:=Hd hs
 clear hs
 by_cases a8:k<bn
 ·have a5:=dT (by omega:k<bn)
  have G:k<bs.length:=by rw [R.out];exact a8
  obtain ⟨bb,ob,EA,V,ec,al,I,c0,c1,c2,r2⟩:=HB.out.blk (k:=k) G
  have z:=aA Z.out HS.out.bel
  have cl:=aK z I
  rw [←z.cell (p:=⟨bb,ob+k * 3,none⟩) I] at c0
  rw [←z.cell (p:=⟨bb,ob+k * 3+1,none⟩) I] at c1
  rw [←z.cell (p:=⟨bb,ob+k * 3+2,none⟩) I] at c2
  have D:=ao.out _ (List.getElem_mem G)
  rw [show bs[k]=bs[k]?.getD Blk.zero by rw [List.getElem?_eq_getElem G];rfl] at D
  have a4:=Hd al
  have aT:=uY D
  have H:=Hd (qQ l bs k)
  rw [cC.out] at H
  clear G z al
  generalize bs[k]?.getD Blk.zero=b at *
  obtain ⟨kd,it,es⟩:=b
  simp only at c0 c1
  have HE:=Hd (show RdC w w.heap.size (cZ es) (.slice EA V ec) from r2)
  have am:es.length=V:=HE.out.esN
  have ct:V<=2:=by rw [←am];exact lT D
  have aZ:=Hd D.1
  obtain rfl:=a4.out
  obtain ⟨i0,i1⟩:=ib (by omega:k<bn)
  have HA:=Hd (HS.out.alloc (.cells #[.int .i64 kd,.int .i64 it,.slice EA V ec] 89))
  have aY:=Hd (aI wr (.cells #[.int .i64 kd,.int .i64 it,.slice EA V ec] 89))
  obtain ⟨y0,y1,y2,ly⟩:=jX aY.out
  clear r2 am D
  obtain ⟨x0,x1,x2,x3,lx⟩:=cO (aD HA.out.bel cm.out)
  go_wp2_with fail
  refine (yS l SA LA OA sn sc ln lc on oc kd it es EA V ec _ (HN.out.below (aA Z.out HA.out.bel)) HF.out (HE.out.below (aA Z.out HA.out.bel)) aZ.out (by omega)).mono ?_
  rintro _ w4 ⟨UA,Q,uc,rfl,ou,b4⟩
  have aO:=Hd (HA.out.pushOwn b4 ou)
  have dd:Q<=2:=by rw [←ou.len];exact aT
  clear x0 x1 x2 x3 lx y0 y1 y2 ly c0 c1 c2 b4 ou aT
  generalize kD l ⟨kd,it,es⟩=J at *
  generalize kw l bs k=CT at *
  have cy:=Hd (aO.out.ints 1 rfl).1
  rw [cy.out] at H
  go_wp2_with fail
  go_loopw [8,46] (fun v i wr=>∃(p:Nat) (A:Option Addr) (n c:Nat),p<=Q/\i = .int .i64 (p:Int)/\v = .slice A n c/\n<=2 * k+p/\aJ W8 wr [.cel (ah (CT++iO u k J p)) (.slice A n c),.cel (aH J) (.slice UA Q uc)]) (fun _ i _=>Q - (intOf i).toNat)
  ·exact ⟨0,_,_,_,by omega,rfl,rfl,by omega,by simpa [iO] using aO.out⟩
  obtain ⟨p,A2,n2,U,hp,rfl,rfl,cs,hs⟩:=hrel
  have ay:=Hd hs
  clear hs
  by_cases bQ:p<Q
  ·have cj:=dT (by omega:p<Q)
   obtain ⟨bu,ou,bO,b8,b0⟩:=(ay.out.ints 1 rfl).2 (by omega)
   have cg:=Hd bO
   have cu:=b0 p bQ
   have bC:=Hd (rQ u k J p)
   obtain rfl:=cg.out
   clear b0 bO
   generalize J[p]?.getD 0=N at *
   obtain ⟨i2,i3⟩:=ib (by omega:p<Q)
   have br:Hid (aJ W8 (wr.alloc (.cells #[.int .i64 N,.int .i64 (k:Int),.int .i64 (p:Int),.slice none 0 0] 158)) [.cel (ah (CT++iO u k J p)) (.slice A2 n2 U),.cel (aH J) (.slice (some ⟨bu,ou,none⟩) Q uc),.blk wr.heap.size #[.int .i64 N,.int .i64 (k:Int),.int .i64 (p:Int),.slice none 0 0] 158,.cel (bR (gu u N 0)) (.slice none 0 0)]):=((ay.out.pushBlk _ _).pushNil 100 2)
   obtain ⟨gc,au⟩:∃g,wr.heap.size=g:=⟨_,rfl⟩
   go_upto_region 17 with fail
   rw [au] at br
   (try rw [au])
   have cU:=Hd au
   clear au cu b8
   generalize wr.alloc (.cells #[.int .i64 N,.int .i64 (k:Int),.int .i64 (p:Int),.slice none 0 0] 158)=W6 at *
   go_wp2_with fail
   go_loopw [58] (fun i wr=>∃(j:Nat) (Y:Option Addr) (m c:Nat),j<=bn/\i = .int .i64 (j:Int)/\m<=5 * j/\aJ W8 wr [.cel (ah (CT++iO u k J p)) (.slice A2 n2 U),.cel (aH J) (.slice (some ⟨bu,ou,none⟩) Q uc),.blk gc #[.int .i64 N,.int .i64 (k:Int),.int .i64 (p:Int),.slice Y m c] 158,.cel (bR (gu u N j)) (.slice Y m c)]) (fun i _=>bn - (intOf i).toNat)
   ·exact ⟨0,none,0,0,by omega,rfl,by omega,br.out⟩
   obtain ⟨j,Y,m,mc,hj,rfl,hm,hs⟩:=hrel
   have K:=Hd hs
   clear hs
   by_cases b2:j<bn
   ·have ch:=dT (by omega:j<bn)
    have av:j<u.length:=by rw [bT.out];exact b2
    obtain ⟨bp,op,PT,pm,pp,bx,bA,cp,rp⟩:=cJ.out.rowsR (k:=j) av
    have cB:=Hd bx
    rw [←K.out.bel.cell (p:=⟨bp,op+j,none⟩) bA] at cp
    have cc:=aK K.out.bel bA
    have h5:=ca.out _ (List.getElem_mem av)
    rw [show u[j]=u[j]?.getD [] by rw [List.getElem?_eq_getElem av];rfl] at h5
    have bz:=Hd rp.ints
    have cW:pm<=5:=by rw [←rp.ints.1];exact h5
    have aQ:=Hd (sK u N j)
    rw [bz.out.1] at aQ
    clear av h5 rp bx
    obtain rfl:=cB.out
    generalize u[j]?.getD []=qs at *
    generalize gu u N j=SJ at *
    obtain ⟨i4,i5⟩:=ib (by omega:j<bn)
    obtain ⟨W5,rfl⟩:∃y,y=wr:=⟨wr,rfl⟩
    go_wp2_with fail
    clear cp cc
    go_loopw [65] (fun i wr=>∃(q:Nat) (Y:Option Addr) (m c:Nat),q<=pm/\i = .int .i64 (q:Int)/\m<=5 * j+q/\aJ W8 wr [.cel (ah (CT++iO u k J p)) (.slice A2 n2 U),.cel (aH J) (.slice (some ⟨bu,ou,none⟩) Q uc),.blk gc #[.int .i64 N,.int .i64 (k:Int),.int .i64 (p:Int),.slice Y m c] 158,.cel (bR (SJ++nO N j qs q)) (.slice Y m c)]) (fun i _=>pm - (intOf i).toNat)
    ·exact ⟨0,_,_,_,by omega,rfl,by omega,by simpa [nO] using K.out⟩
    obtain ⟨q,Y,m,mc,hq,rfl,hm,hs⟩:=hrel
    have B:=Hd hs
    clear hs
    by_cases bD:q<pm
    ·have ce:=dT (by omega:q<pm)
     obtain ⟨bq,oq,bN,bZ,bG⟩:=bz.out.2 (by omega)
     have cw:=Hd bN
     have cq:=(B.out.bel.cell (p:=⟨bq,oq+q,none⟩) bZ).trans (bG q bD)
     have cV:=aK B.out.bel bZ
     have bt:=Hd (ut N j qs q)
     clear bG bN
     obtain rfl:=cw.out
     generalize qs[q]?.getD 0=y at *
     generalize nO N j qs q=SQ at *
     obtain ⟨i6,i7⟩:=ib (by omega:q<pm)
     by_cases hy:y=N
     ·have dy:(y==N)=true:=by simp [hy]
      have HC:Hid (SJ++nO N j qs (q+1)=SJ++SQ++[⟨(j:Int),(q:Int)⟩]):=by show _=_;rw [bt.out,if_pos hy,List.append_assoc]
      have af:=(B.out.blk 2 rfl).1
      obtain ⟨-,-,-,z3,lz⟩:=cO af
      have cd:=Hd ((B.out.consPin (j:Int) (q:Int)).alloc (.cells #[.int .i64 (j:Int),.int .i64 (q:Int)] 100))
      have c6:m<=1000:=by omega
      clear af hy
      go_wp2_with (at_builtin;refine gQ rfl _ _ 156 100 rfl cH _ 2 16 Tryz.underlying156 aN.out.1 aN.out.2.1 aN.out.2.2.1 aN.out.2.2.2 rfl (by decide) (by decide) _ (cd.out) 4 0 (by decide) m mc _ Y ((SJ++SQ).flatMap bS.cells) _ #[.int .i64 (j:Int),.int .i64 (q:Int)] _ rfl rfl rfl rfl (aI _ _) rfl (by omega) ?_;intro g9 aG w9 S9 aj;have a6:=Hd (S9.tail.blk 2 rfl).1;have l9:=aF (k:=3) a6.out rfl;have f9:=aX a6.out 3;have q9:=aC a6.out;have cD:=Hd (S9.tail.put 2 rfl 3 (.slice (some ⟨g9,0,none⟩) (m+1) aG));clear S9 aj)
      go_roundw
      ·exact ⟨q+1,some ⟨g9,0,none⟩,m+1,aG,by omega,by go_num,by omega,by rw [HC.out];unfold bR;rw [xN];exact cD.out⟩
      simp [intOf];omega
     have dy:(y==N)=false:=by simp [hy]
     have HC:Hid (SJ++nO N j qs (q+1)=SJ++SQ):=by show _=_;rw [bt.out,if_neg hy,List.append_nil]
     clear hy
     go_wp2_with fail
     go_roundw
     ·exact ⟨q+1,Y,m,mc,by omega,by go_num,by omega,by rw [HC.out];exact B.out⟩
     simp [intOf];omega
    have cA:q=pm:=by omega
    have ce:=dF (by omega:pm<=q)
    rw [cA] at B hm
    go_wp2_with fail
    go_roundw
    ·exact ⟨j+1,Y,m,mc,by omega,by go_num,by omega,by rw [aQ.out];exact B.out⟩
    simp [intOf];omega
   have cb:j=bn:=by omega
   have ch:=dF (by omega:bn<=j)
   have aQ:Hid (gu u N j=gu u N u.length):=by show _=_;rw [bT.out,cb]
   rw [aQ.out] at K
   have af:=(K.out.blk 2 rfl).1
   obtain ⟨z0,z1,z2,z3,lz⟩:=cO af
   have cr:(gu u N u.length).length=m:=(K.out.rd 3 rfl).pinN
   clear af
   by_cases c4:m=0
   ·have dm:decide ((0:Int)<(m:Int))=false:=decide_eq_false (by omega)
    have cL:decide (0<m)=false:=decide_eq_false (by omega)
    have HC:Hid (iO u k J (p+1)=iO u k J p):=by show _=_;rw [bC.out];unfold uq;rw [if_pos (by omega),List.append_nil]
    have ad:=Hd (K.out.sub (qs:=[.cel (ah (CT++iO u k J p)) (.slice A2 n2 U),.cel (aH J) (.slice (some ⟨bu,ou,none⟩) Q uc)]) (List.Sublist.cons_cons _ (List.Sublist.cons_cons _ (List.nil_sublist _))))
    go_wp2_with fail
    go_roundw
    ·exact ⟨p+1,_,_,_,by omega,by go_num,rfl,by omega,by rw [HC.out];exact ad.out⟩
    simp [intOf];omega
   have dm:decide ((0:Int)<(m:Int))=true:=decide_eq_true (by omega)
   have cL:decide (0<m)=true:=decide_eq_true (by omega)
   have HC:Hid (CT++iO u k J (p+1)=CT++iO u k J p++[⟨N,⟨(k:Int),(p:Int)⟩,gu u N u.length⟩]):=by show _=_;rw [bC.out];unfold uq;rw [if_neg (by omega),List.append_assoc]
   have ad:=Hd ((K.out.connCels 3 N (k:Int) (p:Int) rfl).alloc (.cells #[.int .i64 N,.int .i64 (k:Int),.int .i64 (p:Int),.slice Y m mc] 158))
   have da:n2<=1000:=by omega
   clear cr
   go_wp2_with (at_builtin;refine gQ rfl _ _ 43 158 rfl cx _ 4 48 Tryz.underlying43 ax.out.1 ax.out.2.1 ax.out.2.2.1 ax.out.2.2.2 rfl (by decide) (by decide) _ (ad.out) 0 3 (by decide) n2 U _ A2 ((CT++iO u k J p).flatMap Cn.cells) _ #[.int .i64 N,.int .i64 (k:Int),.int .i64 (p:Int),.slice Y m mc] _ rfl rfl rfl rfl (aI _ _) rfl (by omega) ?_;intro g9 aG w9 S9 aj;have a3:=Hd (S9.sub (qs:=[_,_]) (List.Sublist.cons_cons _ (List.Sublist.cons_cons _ (List.nil_sublist _))));clear S9 aj)
   go_roundw
   ·exact ⟨p+1,_,_,_,by omega,by go_num,rfl,by omega,by rw [HC.out];unfold ah;rw [AC];exact a3.out⟩
   simp [intOf];omega
  have co:p=Q:=by omega
  have cj:=dF (by omega:Q<=p)
  rw [co] at ay cs
  have ad:=Hd (ay.out.sub (qs:=[.cel (ah (CT++iO u k J Q)) (.slice A2 n2 U)]) (List.Sublist.cons_cons _ (List.nil_sublist _)))
  go_wp2_with fail
  go_roundw
  ·exact ⟨k+1,_,_,_,by omega,by go_num,rfl,by omega,by rw [H.out];exact ad.out⟩
  simp [intOf];omega
 have aq:k=bn:=by omega
 have a5:=dF (by omega:bn<=k)
 have H:Hid (kw l bs k=eY l bs):=by show _=_;rw [aq];unfold eY;rw [R.out]
 rw [H.out] at HS
 go_wp2_with fail
 go_ret
 exact ⟨_,_,_,rfl,(HS.out.tree 0 rfl).widen Z.out.size (Nat.le_refl _),aA Z.out HS.out.bel⟩
end Go.Proofs.YtofihjoanjkdmaaGreat
