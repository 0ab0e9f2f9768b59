/- Connections of blocks in the program (printed by mkcn.py). -/
import Derived.Test.YtofihjoanjkdmaaGreatLayF6
namespace Go.Proofs.YtofihjoanjkdmaaGreat
set_option maxHeartbeats 8000000
set_option maxRecDepth 100000
open Go.RowKit
theorem tN:(Tryz.prog.info? 26).map (fun i=>(i.zero,i.size,i.bytes))=some (some (.slice none 0 0),1,24):=by kernel_rfl
theorem zq:(Tryz.prog.info? 100).map (fun i=>(i.zero,i.size,i.bytes))=some (some (.agg #[.int .i64 0,.int .i64 0]),2,16):=by kernel_rfl
theorem xH:(Tryz.prog.info? 158).map (fun i=>(i.zero,i.size,i.bytes))=some (some (.agg #[.int .i64 0,.int .i64 0,.int .i64 0,.slice none 0 0]),4,48):=by kernel_rfl
theorem qV {w:World} {x:Int} {cs:List Cel} {vs:List Value} {F:List Nat} (h:ek w cs vs F):ek w (.int x :: cs) (.int .i64 x :: vs) F:=dR.2 ⟨_,_,[],F,rfl,rfl,fU.2 ⟨rfl,rfl⟩,h⟩
theorem zt {w:World} {c:Cel} {v:Value} {F:List Nat} (h:dD w c v F):ek w [c] [v] F:=dR.2 ⟨v,[],F,[],rfl,(List.append_nil _).symm,h,fF.2 ⟨rfl,rfl⟩⟩
theorem si {W w w':World} {g:List Pc} {A:Option Addr} {n c:Nat} {xs:List Int} (h:aJ W w g) (j:Below w.heap.size w w') (ho:Own w.heap.size w' A n c xs):aJ W w' (.cels [aG xs] [.slice A n c] :: g) :=
 h.cons j (show ek w' [aG xs] [.slice A n c] (blk A) from zt (gB.2 ⟨ho.more (Nat.zero_le _),rfl⟩)) (by cases A <;> simp [blk]) fun k hk=>by
  obtain ⟨a,rfl,rfl⟩:=nz.1 hk
  exact (ho.lt a rfl).1
theorem aJ.consPin {W w:World} {g:List Pc} (h:aJ W w g) (a b:Int):aJ W w (.cels [.int a,.int b] [.int .i64 a,.int .i64 b] :: g) :=
 h.cons (Below.refl _ _) (G:=[]) (show ek w _ _ [] from qV (qV (fF.2 ⟨rfl,rfl⟩))) (by simp) (by simp)
theorem aJ.connCels {W w:World} {g:List Pc} (h:aJ W w g) (i:Nat) {ss:List ah} {A:Option Addr} {n c:Nat} (a b d:Int) (hi:g[i]?=some (.cel (bL ss) (.slice A n c))):aJ W w (g.set i (.cels [.int a,.int b,.int d,bL ss] [.int .i64 a,.int .i64 b,.int .i64 d,.slice A n c])) :=
 h.same i hi fun _ h=>qV (qV (qV (zt h)))
def bg (g:List (List Int)):Cel := .row 26 1 (g.map aG)
theorem xI (g:List (List Int)) (j:List Int):bg (g++[j]) = .row 26 1 (g.map aG++[aG j]):=by unfold bg;rw [List.map_append];rfl
theorem RdC.rowsR {w:World} {B n c k:Nat} {A:Option Addr} {g:List (List Int)} (h:RdC w B (bg g) (.slice A n c)) (hk:k<g.length) :
  ∃b o S m p,A=some ⟨b,o,none⟩/\b<B/\w.cell? ⟨b,o+k,none⟩=some (.slice S m p)/\RdC w B (aG (g[k]?.getD [])) (.slice S m p):=by
 unfold bg at h
 obtain ⟨b,o,rfl,q,hc⟩:=h.cell (by simp;omega)
 obtain ⟨z,v,e1,u,j⟩:=hc k (by simpa using hk)
 rw [List.getElem?_map,List.getElem?_eq_getElem hk] at e1
 simp only [Option.map_some,Option.some.injEq] at e1
 subst e1
 obtain ⟨S,m,p,rfl⟩:=eX (e:=3) (s:=1) j
 exact ⟨b,o,S,m,p,rfl,q,u,by rw [List.getElem?_eq_getElem hk];exact j⟩
theorem oL (l:ai) (SA LA OA:Option Addr) (sn sc ln lc on oc:Nat) (bs:List Blk) (BA:Option Addr) (bn bc:Nat) (w:World) (h:fo w l SA LA OA sn sc ln lc on oc) (hB:RdC w w.heap.size (aa bs) (.slice BA bn bc)) (hp:fQ l bs) :
  Calls Tryz.prog 47 #[jI l SA LA OA sn sc ln lc on oc,.slice BA bn bc] w fun e w'=>∃A n c,e = .returned (.slice A n c)/\gF w.heap.size w'.heap.size w' (ag (eu l bs)) (.slice A n c)/\Below w.heap.size w w':=by
 have a3:=Hd (aD (Below.refl w.heap.size w) (.cells (ak l SA LA OA sn sc ln lc on oc) 41))
 have bH:=Hd (aI w (.cells (ak l SA LA OA sn sc ln lc on oc) 41))
 have a7:=hB.blkN
 obtain ⟨W,HB,HN,HP,HF,am⟩:=hd6 a7 hB h hp hp.net hp.fit
 have bV:=hp.len
 rw [a7] at bV
 have c6:Hid (∀i,i<=bn→(kr l bs i).length<=2 * i):=fun i hi=>qh am.out (by rw [W.out];exact hi)
 have cr:Hid (∀b∈bs,b.les.length<=1048576):=fun b hb=>by have:=kH (am.out b hb);omega
 clear hB a7 h hp
 obtain ⟨cP,bv,bD,bj,bm⟩:=info_parts tN
 obtain ⟨cs,bo,bk,bK,bI⟩:=info_parts zq
 obtain ⟨cM,bY,bZ,bJ,b2⟩:=info_parts xH
 have aw:=Hd (And.intro bv (And.intro bD (And.intro bj bm)))
 have ar:=Hd (And.intro bo (And.intro bk (And.intro bK bI)))
 have aN:=Hd (And.intro bY (And.intro bZ (And.intro bJ b2)))
 clear bv bD bj bm bo bk bK bI bY bZ bJ b2
 go_enter Tryz.func47,Tryz.ntmps47
 go_upto_region 1 with fail
 generalize w.alloc (.cells (ak l SA LA OA sn sc ln lc on oc) 41)=W0 at *
 obtain ⟨x0,x1,x2,x3,lx⟩:=bX (bH.out)
 go_wp2_with fail
 refine (lJ l SA LA OA sn sc ln lc on oc bs BA bn bc _ (HN.out.below a3.out) (HB.out.below a3.out) cr.out).mono ?_
 rw [ae HP.out]
 rintro _ w1 ⟨rfl,b1⟩
 have aL:=Hd (aA a3.out b1)
 have b5:=Hd (aC b1 bH.out)
 clear b1 x0 x1 x2 x3 lx
 obtain ⟨W9,rfl⟩:∃x,x=w1:=⟨w1,rfl⟩
 go_wp2_with fail
 go_loopw [5,24] (fun v i wr=>∃(k:Nat) (A:Option Addr) (c:Nat),k<=bn/\i = .int .i64 (k:Int)/\v = .slice A k c/\aJ W9 wr [.cel (bg ((bs.take k).map (iy l))) (.slice A k c)]) (fun _ i _=>bn - (intOf i).toNat)
 ·exact ⟨0,none,0,by omega,rfl,rfl,(aJ.refl W9).pushNil 26 1⟩
 obtain ⟨k,A1,aH,hk,rfl,rfl,hs⟩:=hrel
 have HS:=Hd hs
 clear hs
 by_cases aY:k<bn
 ·have a9:=dT (by omega:k<bn)
  have G:k<bs.length:=by rw [W.out];exact aY
  obtain ⟨bb,ob,EA,V,ec,al,I,c0,c1,c2,r2⟩:=HB.out.blk (k:=k) G
  have B:=aA aL.out HS.out.bel
  have cj:=aK B I
  rw [←B.cell (p:=⟨bb,ob+k * 3,none⟩) I] at c0
  rw [←B.cell (p:=⟨bb,ob+k * 3+1,none⟩) I] at c1
  rw [←B.cell (p:=⟨bb,ob+k * 3+2,none⟩) I] at c2
  have H:=am.out _ (List.getElem_mem G)
  rw [show bs[k]=bs[k]?.getD Blk.zero by rw [List.getElem?_eq_getElem G];rfl] at H
  have aZ:=Hd al
  have D:=Hd (show (bs.take (k+1)).map (iy l)=(bs.take k).map (iy l)++[iy l (bs[k]?.getD Blk.zero)] from by rw [mq G,List.map_append];rfl)
  clear G B al
  generalize bs[k]?.getD Blk.zero=b at *
  obtain ⟨kd,it,es⟩:=b
  simp only at c0 c1
  have HE:=Hd (show RdC w w.heap.size (cO es) (.slice EA V ec) from r2)
  have ao:es.length=V:=HE.out.esN
  have cG:V<=2:=by rw [←ao];exact kH H
  have a4:=Hd H.1
  obtain rfl:=aZ.out
  obtain ⟨i0,i1⟩:=ib (by omega:k<bn)
  have HA:=Hd (HS.out.alloc (.cells #[.int .i64 kd,.int .i64 it,.slice EA V ec] 89))
  have a1:=Hd (aI wr (.cells #[.int .i64 kd,.int .i64 it,.slice EA V ec] 89))
  obtain ⟨y0,y1,y2,ly⟩:=jU a1.out
  clear r2 ao H
  obtain ⟨x0,x1,x2,x3,lx⟩:=bX (aC HA.out.bel b5.out)
  go_wp2_with fail
  refine (mU l SA LA OA sn sc ln lc on oc kd it es EA V ec _ (HN.out.below (aA aL.out HA.out.bel)) HF.out (HE.out.below (aA aL.out HA.out.bel)) a4.out (by omega)).mono ?_
  rintro _ w4 ⟨PA,pn,pc,rfl,op,b4⟩
  have aQ:=Hd (si HA.out b4 op)
  clear x0 x1 x2 x3 lx y0 y1 y2 ly c0 c1 c2 b4 op
  go_wp2_with (at_builtin;refine jL rfl _ _ 50 26 rfl cP _ 1 24 Tryz.underlying50 aw.out.1 aw.out.2.1 aw.out.2.2.1 aw.out.2.2.2 rfl (by decide) (by decide) _ (aQ.out.alloc (.cells #[.slice PA pn pc] 26)) 1 0 (by decide) k aH _ A1 (((bs.take k).map (iy l)).map aG) _ #[.slice PA pn pc] _ rfl rfl rfl rfl (aI _ _) rfl (by omega) ?_;intro g9 aO w9 S9 ap;have a0:=Hd S9.tail;clear S9 ap)
  go_roundw
  ·exact ⟨k+1,_,_,by omega,by go_num,rfl,by rw [D.out,xI];exact a0.out⟩
  simp [intOf];omega
 have aE:k=bn:=by omega
 have a9:=dF (by omega:bn<=k)
 have D:Hid (bs.take k=bs):=by show _=_;rw [aE];exact List.take_of_length_le (by rw [W.out];exact Nat.le_refl _)
 have bF:=Hd HS.out
 have R:=bF.out
 rw [D.out] at R
 obtain ⟨u,af⟩:∃u,bs.map (iy l)=u:=⟨_,rfl⟩
 rw [af] at R
 have cA:=Hd (R.rd 0 rfl)
 have ad:=Hd (aA aL.out R.bel)
 have cm:=Hd (aC R.bel b5.out)
 have ca:=Hd af
 have bO:Hid (u.length=bn):=by show _=_;rw [←af,List.length_map,W.out]
 have cK:Hid (∀ps∈u,ps.length<=5):=fun ps hp=>by
  rw [←af] at hp
  obtain ⟨b,hb,rfl⟩:=List.mem_map.1 hp
  exact yl HF.out (am.out b hb)
 subst aE
 clear HS bF R af D
 obtain ⟨W8,rfl⟩:∃y,y=wr:=⟨wr,rfl⟩
 obtain ⟨PA,rfl⟩:∃y,y=A1:=⟨A1,rfl⟩
 obtain ⟨pc,rfl⟩:∃y,y=aH:=⟨aH,rfl⟩
 obtain ⟨bn,rfl⟩:∃y,y=k:=⟨k,rfl⟩
 go_wp2_with fail
 go_loopw [8,37] (fun v i wr=>∃(k:Nat) (A:Option Addr) (n c:Nat),k<=bn/\i = .int .i64 (k:Int)/\v = .slice A n c/\n<=2 * k/\aJ W8 wr [.cel (ag (kr l bs k)) (.slice A n c)]) (fun _ i _=>bn - (intOf i).toNat)
 ·exact ⟨0,none,0,0,by omega,rfl,rfl,by omega,(aJ.refl W8).pushNil 158 4⟩
 obtain ⟨k,A1,n1,aH,hk,rfl,rfl,de,hs⟩:=hrel
 have HS:=Hd hs
 clear hs
 by_cases aY:k<bn
 ·have a9:=dT (by omega:k<bn)
  have G:k<bs.length:=by rw [W.out];exact aY
  obtain ⟨bb,ob,EA,V,ec,al,I,c0,c1,c2,r2⟩:=HB.out.blk (k:=k) G
  have B:=aA ad.out HS.out.bel
  have cj:=aK B I
  rw [←B.cell (p:=⟨bb,ob+k * 3,none⟩) I] at c0
  rw [←B.cell (p:=⟨bb,ob+k * 3+1,none⟩) I] at c1
  rw [←B.cell (p:=⟨bb,ob+k * 3+2,none⟩) I] at c2
  have H:=am.out _ (List.getElem_mem G)
  rw [show bs[k]=bs[k]?.getD Blk.zero by rw [List.getElem?_eq_getElem G];rfl] at H
  have aZ:=Hd al
  have aU:=ui H
  have D:=Hd (qP l bs k)
  rw [ca.out] at D
  clear G B al
  generalize bs[k]?.getD Blk.zero=b at *
  obtain ⟨kd,it,es⟩:=b
  simp only at c0 c1
  have HE:=Hd (show RdC w w.heap.size (cO es) (.slice EA V ec) from r2)
  have ao:es.length=V:=HE.out.esN
  have cG:V<=2:=by rw [←ao];exact kH H
  have a4:=Hd H.1
  obtain rfl:=aZ.out
  obtain ⟨i0,i1⟩:=ib (by omega:k<bn)
  have HA:=Hd (HS.out.alloc (.cells #[.int .i64 kd,.int .i64 it,.slice EA V ec] 89))
  have a1:=Hd (aI wr (.cells #[.int .i64 kd,.int .i64 it,.slice EA V ec] 89))
  obtain ⟨y0,y1,y2,ly⟩:=jU a1.out
  clear r2 ao H
  obtain ⟨x0,x1,x2,x3,lx⟩:=bX (aC HA.out.bel cm.out)
  go_wp2_with fail
  refine (yQ l SA LA OA sn sc ln lc on oc kd it es EA V ec _ (HN.out.below (aA ad.out HA.out.bel)) HF.out (HE.out.below (aA ad.out HA.out.bel)) a4.out (by omega)).mono ?_
  rintro _ w4 ⟨UA,Q,uc,rfl,ou,b4⟩
  have aQ:=Hd (HA.out.pushOwn b4 ou)
  have cX:Q<=2:=by rw [←ou.len];exact aU
  clear x0 x1 x2 x3 lx y0 y1 y2 ly c0 c1 c2 b4 ou aU
  generalize jy l ⟨kd,it,es⟩=J at *
  generalize kr l bs k=CT at *
  have cx:=Hd (aQ.out.ints 1 rfl).1
  rw [cx.out] at D
  go_wp2_with fail
  go_loopw [8,46] (fun v i wr=>∃(p:Nat) (A:Option Addr) (n c:Nat),p<=Q/\i = .int .i64 (p:Int)/\v = .slice A n c/\n<=2 * k+p/\aJ W8 wr [.cel (ag (CT++iK u k J p)) (.slice A n c),.cel (aG J) (.slice UA Q uc)]) (fun _ i _=>Q - (intOf i).toNat)
  ·exact ⟨0,_,_,_,by omega,rfl,rfl,by omega,by simpa [iK] using aQ.out⟩
  obtain ⟨p,A2,n2,U,hp,rfl,rfl,cv,hs⟩:=hrel
  have ay:=Hd hs
  clear hs
  by_cases bE:p<Q
  ·have ck:=dT (by omega:p<Q)
   obtain ⟨bu,ou,bB,co,bz⟩:=(ay.out.ints 1 rfl).2 (by omega)
   have cl:=Hd bB
   have cu:=bz p bE
   have bS:=Hd (rJ u k J p)
   obtain rfl:=cl.out
   clear bz bB
   generalize J[p]?.getD 0=N at *
   obtain ⟨i2,i3⟩:=ib (by omega:p<Q)
   have br:Hid (aJ W8 (wr.alloc (.cells #[.int .i64 N,.int .i64 (k:Int),.int .i64 (p:Int),.slice none 0 0] 158)) [.cel (ag (CT++iK u k J p)) (.slice A2 n2 U),.cel (aG J) (.slice (some ⟨bu,ou,none⟩) Q uc),.blk wr.heap.size #[.int .i64 N,.int .i64 (k:Int),.int .i64 (p:Int),.slice none 0 0] 158,.cel (bL (gV u N 0)) (.slice none 0 0)]):=((ay.out.pushBlk _ _).pushNil 100 2)
   obtain ⟨gc,az⟩:∃g,wr.heap.size=g:=⟨_,rfl⟩
   go_upto_region 17 with fail
   rw [az] at br
   (try rw [az])
   have c5:=Hd az
   clear az cu co
   generalize wr.alloc (.cells #[.int .i64 N,.int .i64 (k:Int),.int .i64 (p:Int),.slice none 0 0] 158)=W6 at *
   go_wp2_with fail
   go_loopw [58] (fun i wr=>∃(j:Nat) (Y:Option Addr) (m c:Nat),j<=bn/\i = .int .i64 (j:Int)/\m<=5 * j/\aJ W8 wr [.cel (ag (CT++iK u k J p)) (.slice A2 n2 U),.cel (aG J) (.slice (some ⟨bu,ou,none⟩) Q uc),.blk gc #[.int .i64 N,.int .i64 (k:Int),.int .i64 (p:Int),.slice Y m c] 158,.cel (bL (gV u N j)) (.slice Y m c)]) (fun i _=>bn - (intOf i).toNat)
   ·exact ⟨0,none,0,0,by omega,rfl,by omega,br.out⟩
   obtain ⟨j,Y,m,mc,hj,rfl,hm,hs⟩:=hrel
   have K:=Hd hs
   clear hs
   by_cases b3:j<bn
   ·have b9:=dT (by omega:j<bn)
    have aT:j<u.length:=by rw [bO.out];exact b3
    obtain ⟨bp,op,PT,pm,pp,bA,bN,cp,rp⟩:=cA.out.rowsR (k:=j) aT
    have cD:=Hd bA
    rw [←K.out.bel.cell (p:=⟨bp,op+j,none⟩) bN] at cp
    have cb:=aK K.out.bel bN
    have h5:=cK.out _ (List.getElem_mem aT)
    rw [show u[j]=u[j]?.getD [] by rw [List.getElem?_eq_getElem aT];rfl] at h5
    have bM:=Hd rp.ints
    have db:pm<=5:=by rw [←rp.ints.1];exact h5
    have ax:=Hd (sJ u N j)
    rw [bM.out.1] at ax
    clear aT h5 rp bA
    obtain rfl:=cD.out
    generalize u[j]?.getD []=qs at *
    generalize gV u N j=SJ at *
    obtain ⟨i4,i5⟩:=ib (by omega:j<bn)
    obtain ⟨W5,rfl⟩:∃y,y=wr:=⟨wr,rfl⟩
    go_wp2_with fail
    clear cp cb
    go_loopw [65] (fun i wr=>∃(q:Nat) (Y:Option Addr) (m c:Nat),q<=pm/\i = .int .i64 (q:Int)/\m<=5 * j+q/\aJ W8 wr [.cel (ag (CT++iK u k J p)) (.slice A2 n2 U),.cel (aG J) (.slice (some ⟨bu,ou,none⟩) Q uc),.blk gc #[.int .i64 N,.int .i64 (k:Int),.int .i64 (p:Int),.slice Y m c] 158,.cel (bL (SJ++nQ N j qs q)) (.slice Y m c)]) (fun i _=>pm - (intOf i).toNat)
    ·exact ⟨0,_,_,_,by omega,rfl,by omega,by simpa [nQ] using K.out⟩
    obtain ⟨q,Y,m,mc,hq,rfl,hm,hs⟩:=hrel
    have z:=Hd hs
    clear hs
    by_cases bG:q<pm
    ·have cg:=dT (by omega:q<pm)
     obtain ⟨bq,oq,bT,bU,b6⟩:=bM.out.2 (by omega)
     have cB:=Hd bT
     have cq:=(z.out.bel.cell (p:=⟨bq,oq+q,none⟩) bU).trans (b6 q bG)
     have dj:=aK z.out.bel bU
     have bW:=Hd (vH N j qs q)
     clear b6 bT
     obtain rfl:=cB.out
     generalize qs[q]?.getD 0=y at *
     generalize nQ N j qs q=SQ at *
     obtain ⟨i6,i7⟩:=ib (by omega:q<pm)
     by_cases hy:y=N
     ·have dy:(y==N)=true:=by simp [hy]
      have HC:Hid (SJ++nQ N j qs (q+1)=SJ++SQ++[⟨(j:Int),(q:Int)⟩]):=by show _=_;rw [bW.out,if_pos hy,List.append_assoc]
      have aj:=(z.out.blk 2 rfl).1
      obtain ⟨-,-,-,z3,lz⟩:=bX aj
      have cd:=Hd ((z.out.consPin (j:Int) (q:Int)).alloc (.cells #[.int .i64 (j:Int),.int .i64 (q:Int)] 100))
      have c9:m<=1000:=by omega
      clear aj hy
      go_wp2_with (at_builtin;refine jL rfl _ _ 156 100 rfl cs _ 2 16 Tryz.underlying156 ar.out.1 ar.out.2.1 ar.out.2.2.1 ar.out.2.2.2 rfl (by decide) (by decide) _ (cd.out) 4 0 (by decide) m mc _ Y ((SJ++SQ).flatMap ah.cells) _ #[.int .i64 (j:Int),.int .i64 (q:Int)] _ rfl rfl rfl rfl (aI _ _) rfl (by omega) ?_;intro g9 aO w9 S9 ap;have a6:=Hd (S9.tail.blk 2 rfl).1;have l9:=aF (k:=3) a6.out rfl;have f9:=aW a6.out 3;have q9:=aB a6.out;have cC:=Hd (S9.tail.put 2 rfl 3 (.slice (some ⟨g9,0,none⟩) (m+1) aO));clear S9 ap)
      go_roundw
      ·exact ⟨q+1,some ⟨g9,0,none⟩,m+1,aO,by omega,by go_num,by omega,by rw [HC.out];unfold bL;rw [xK];exact cC.out⟩
      simp [intOf];omega
     have dy:(y==N)=false:=by simp [hy]
     have HC:Hid (SJ++nQ N j qs (q+1)=SJ++SQ):=by show _=_;rw [bW.out,if_neg hy,List.append_nil]
     clear hy
     go_wp2_with fail
     go_roundw
     ·exact ⟨q+1,Y,m,mc,by omega,by go_num,by omega,by rw [HC.out];exact z.out⟩
     simp [intOf];omega
    have cF:q=pm:=by omega
    have cg:=dF (by omega:pm<=q)
    rw [cF] at z hm
    go_wp2_with fail
    go_roundw
    ·exact ⟨j+1,Y,m,mc,by omega,by go_num,by omega,by rw [ax.out];exact z.out⟩
    simp [intOf];omega
   have cz:j=bn:=by omega
   have b9:=dF (by omega:bn<=j)
   have ax:Hid (gV u N j=gV u N u.length):=by show _=_;rw [bO.out,cz]
   rw [ax.out] at K
   have aj:=(K.out.blk 2 rfl).1
   obtain ⟨z0,z1,z2,z3,lz⟩:=bX aj
   have cL:(gV u N u.length).length=m:=(K.out.rd 3 rfl).pinN
   clear aj
   by_cases cY:m=0
   ·have dm:decide ((0:Int)<(m:Int))=false:=decide_eq_false (by omega)
    have cw:decide (0<m)=false:=decide_eq_false (by omega)
    have HC:Hid (iK u k J (p+1)=iK u k J p):=by show _=_;rw [bS.out];unfold vG;rw [if_pos (by omega),List.append_nil]
    have Z:=Hd (K.out.sub (qs:=[.cel (ag (CT++iK u k J p)) (.slice A2 n2 U),.cel (aG J) (.slice (some ⟨bu,ou,none⟩) Q uc)]) (List.Sublist.cons_cons _ (List.Sublist.cons_cons _ (List.nil_sublist _))))
    go_wp2_with fail
    go_roundw
    ·exact ⟨p+1,_,_,_,by omega,by go_num,rfl,by omega,by rw [HC.out];exact Z.out⟩
    simp [intOf];omega
   have dm:decide ((0:Int)<(m:Int))=true:=decide_eq_true (by omega)
   have cw:decide (0<m)=true:=decide_eq_true (by omega)
   have HC:Hid (CT++iK u k J (p+1)=CT++iK u k J p++[⟨N,⟨(k:Int),(p:Int)⟩,gV u N u.length⟩]):=by show _=_;rw [bS.out];unfold vG;rw [if_neg (by omega),List.append_assoc]
   have Z:=Hd ((K.out.connCels 3 N (k:Int) (p:Int) rfl).alloc (.cells #[.int .i64 N,.int .i64 (k:Int),.int .i64 (p:Int),.slice Y m mc] 158))
   have da:n2<=1000:=by omega
   clear cL
   go_wp2_with (at_builtin;refine jL rfl _ _ 43 158 rfl cM _ 4 48 Tryz.underlying43 aN.out.1 aN.out.2.1 aN.out.2.2.1 aN.out.2.2.2 rfl (by decide) (by decide) _ (Z.out) 0 3 (by decide) n2 U _ A2 ((CT++iK u k J p).flatMap Cn.cells) _ #[.int .i64 N,.int .i64 (k:Int),.int .i64 (p:Int),.slice Y m mc] _ rfl rfl rfl rfl (aI _ _) rfl (by omega) ?_;intro g9 aO w9 S9 ap;have a0:=Hd (S9.sub (qs:=[_,_]) (List.Sublist.cons_cons _ (List.Sublist.cons_cons _ (List.nil_sublist _))));clear S9 ap)
   go_roundw
   ·exact ⟨p+1,_,_,_,by omega,by go_num,rfl,by omega,by rw [HC.out];unfold ag;rw [zw];exact a0.out⟩
   simp [intOf];omega
  have ch:p=Q:=by omega
  have ck:=dF (by omega:Q<=p)
  rw [ch] at ay cv
  have Z:=Hd (ay.out.sub (qs:=[.cel (ag (CT++iK u k J Q)) (.slice A2 n2 U)]) (List.Sublist.cons_cons _ (List.nil_sublist _)))
  go_wp2_with fail
  go_roundw
  ·exact ⟨k+1,_,_,_,by omega,by go_num,rfl,by omega,by rw [D.out];exact Z.out⟩
  simp [intOf];omega
 have aE:k=bn:=by omega
 have a9:=dF (by omega:bn<=k)
 have D:Hid (kr l bs k=eu l bs):=by show _=_;rw [aE];unfold eu;rw [W.out]
 rw [D.out] at HS
 go_wp2_with fail
 go_ret
 exact ⟨_,_,_,rfl,(HS.out.tree 0 rfl).widen ad.out.size (Nat.le_refl _),aA ad.out HS.out.bel⟩
end Go.Proofs.YtofihjoanjkdmaaGreat
