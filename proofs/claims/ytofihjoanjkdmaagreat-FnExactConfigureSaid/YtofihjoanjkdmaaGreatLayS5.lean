/- The reference's test of blocks (printed by mkpks.py). -/
import Derived.Test.YtofihjoanjkdmaaGreatLayF6
import Derived.Test.YtofihjoanjkdmaaGreatLayS15
namespace Go.Proofs.YtofihjoanjkdmaaGreat
set_option maxHeartbeats 4000000
set_option maxRecDepth 100000
open Go.RowKit
theorem EM {a b:List Int} {n m:Nat} (j:a.length=n) (g:b.length=m):(∀q:Nat,q<n+m→(a++b)[q]?.getD 0=1)↔(∀q:Nat,q<n→a[q]?.getD 0=1)/\∀q:Nat,q<m→b[q]?.getD 0=1:=by
 subst j g
 refine ⟨fun h=>⟨fun q hq=>?_,fun q hq=>?_⟩,fun h q hq=>?_⟩
 ·have:=h q (by omega)
  rwa [List.getElem?_append_left hq] at this
 ·have:=h (a.length+q) (by omega)
  rwa [List.getElem?_append_right (by omega),Nat.add_sub_cancel_left] at this
 rcases Nat.lt_or_ge q a.length with h1|h1
 ·rw [List.getElem?_append_left h1];exact h.1 q h1
 rw [List.getElem?_append_right h1];exact h.2 _ (by omega)
theorem Fy {a b c d:List Int} {n m p q:Nat} (u:a.length=n) (g:b.length=m) (hc:c.length=p) (z:d.length=q):(∀j:Nat,j<n+m+p+q→(a++b++c++d)[j]?.getD 0=1) ↔
  (((∀j:Nat,j<n→a[j]?.getD 0=1)/\∀j:Nat,j<m→b[j]?.getD 0=1)/\∀j:Nat,j<p→c[j]?.getD 0=1)/\∀j:Nat,j<q→d[j]?.getD 0=1:=by
 have h1:(a++b).length=n+m:=by rw [List.length_append,u,g]
 have h2:(a++b++c).length=n+m+p:=by rw [List.length_append,h1,hc]
 rw [EM h2 z,EM h1 hc,EM u g]
theorem kS (l:ag) (SA LA OA:Option Addr) (sn sc ln lc on oc:Nat) (bs:List Blk) (BA:Option Addr) (bn bc:Nat) (w:World) (h:fU w l SA LA OA sn sc ln lc on oc) (hB:RdC w w.heap.size (aa bs) (.slice BA bn bc)) (dc:∀b∈bs,b.les.length<=1048576) :
  Calls Tryz.prog 35 #[jE l SA LA OA sn sc ln lc on oc,.slice BA bn bc] w fun e w'=>e = .returned (.bool (tb (fq l bs)))/\Below w.heap.size w w':=by
 have b6:=Hd (aB (Below.refl w.heap.size w) (.cells (ai l SA LA OA sn sc ln lc on oc) 41))
 have ce:=Hd (aI w (.cells (ai l SA LA OA sn sc ln lc on oc) 41))
 have cy:=hB.blkN
 obtain ⟨cn,dt,HB,HN⟩:=hd4 cy dc hB h
 clear hB dc
 obtain ⟨cB,cp,cJ⟩:=h.lens
 obtain ⟨b2,b7,dk⟩:=hd3 cB cp cJ
 clear h
 by_cases hf:az l
 ·by_cases cC:bn<=64
  ·have dz:decide ((64:Int)<(bn:Int))=false:=decide_eq_false (by omega)
   have de:decide ((bn:Int)>64)=false:=decide_eq_false (by omega)
   have dP:=hf.nseq
   have dq:=hf.nlut
   have dE:=hf.nout
   have eo:=hf.inp
   rw [cB] at dP
   rw [cp] at dq
   rw [cJ] at dE
   have HF:=Hd hf
   obtain ⟨I,hI⟩:∃I:Nat,l.inputs=(I:Int):=⟨l.inputs.toNat,by omega⟩
   have dJ:Hid (l.inputs.toNat=I):=by show _=_;omega
   have co:=Hd hI
   have d5:I<=20:=by omega
   obtain ⟨i0,hi,cU,c4,cS⟩:=info_parts jL
   have mk:=fun (n:Nat) (hn:n<=1048576) W=>bv (P:=Tryz.prog) 26 3 i0 _ Tryz.underlying26 hi cU .i64 .i64 n n (Nat.le_refl _) (by rw [cS];omega) (by omega) W
   rw [c4] at mk
   simp only [Nat.mul_one,show (Value.int .i64 0).cells=#[Value.int .i64 0] from rfl,nu] at mk
   have cQ:=mk I (by omega)
   have dH:=mk on (by omega)
   have dN:=mk sn (by omega)
   have mkL:=mk ln (by omega)
   rw [←hI] at cQ
   clear mk hi cU c4 cS cB cp cJ hI cy
   go_enter Tryz.func35,Tryz.ntmps35
   go_upto_region 1 with fail
   generalize w.alloc (.cells (ai l SA LA OA sn sc ln lc on oc) 41)=W0 at *
   obtain ⟨x0,x1,x2,x3,lx⟩:=cO ce.out
   go_wp2_with fail
   refine (dQ l SA LA OA sn sc ln lc on oc _ (HN.out.below b6.out)).mono ?_
   rw [ae hf]
   rintro _ w1 ⟨rfl,b1⟩
   have aL:=Hd (aA b6.out b1)
   have b8:=Hd (aD b1 ce.out)
   clear b1 x0 x1 x2 x3 lx hf
   obtain ⟨x0,x1,x2,x3,lx⟩:=cO b8.out
   obtain ⟨H,rfl⟩:∃x,x=w1:=⟨w1,rfl⟩
   have dd:=Hd (aJ.refl H)
   go_upto_region 4 with fail
   have s1:=Aw dd.out I (by omega)
   clear x0 x1 x2 x3 lx
   generalize H.alloc (.cells (arr (List.replicate I 0)) 3)=m1 at s1 ⊢
   generalize H.heap.size=g1 at s1 ⊢
   have cG:=Hd s1
   clear s1 cQ
   obtain ⟨x0,x1,x2,x3,lx⟩:=cO (aD cG.out.bel b8.out)
   go_upto_region 5 with fail
   have s1:=Aw cG.out on (by omega)
   clear x0 x1 x2 x3 lx
   generalize m1.alloc (.cells (arr (List.replicate on 0)) 3)=m2 at s1 ⊢
   generalize m1.heap.size=g2 at s1 ⊢
   have cx:=Hd s1
   clear s1 dH
   obtain ⟨x0,x1,x2,x3,lx⟩:=cO (aD cx.out.bel b8.out)
   go_upto_region 6 with fail
   have s1:=Aw cx.out sn (by omega)
   clear x0 x1 x2 x3 lx
   generalize m2.alloc (.cells (arr (List.replicate sn 0)) 3)=m3 at s1 ⊢
   generalize m2.heap.size=g3 at s1 ⊢
   have a8:=Hd s1
   clear s1 dN
   obtain ⟨x0,x1,x2,x3,lx⟩:=cO (aD a8.out.bel b8.out)
   go_upto_region 7 with fail
   have s1:=Aw a8.out ln (by omega)
   clear x0 x1 x2 x3 lx
   generalize m3.alloc (.cells (arr (List.replicate ln 0)) 3)=m4 at s1 ⊢
   generalize m3.heap.size=g4 at s1 ⊢
   have bZ:=Hd s1
   clear s1 mkL
   have dy:Hid (aJ H m4 [.cel (aH (aG I (bA 0 []))) (.slice (some ⟨g1,0,none⟩) I I),.cel (aH (aG on (bA 1 []))) (.slice (some ⟨g2,0,none⟩) on on),.cel (aH (aG sn (di []))) (.slice (some ⟨g3,0,none⟩) sn sn),.cel (aH (aG ln (eT []))) (.slice (some ⟨g4,0,none⟩) ln ln)]):=bZ.out
   clear dd cG cx a8 bZ
   go_wp2_with fail
   go_loopw [9] (fun i wr=>∃k:Nat,k<=bn/\i = .int .i64 (k:Int)/\aJ H wr [.cel (aH (aG I (bA 0 (bs.take k)))) (.slice (some ⟨g1,0,none⟩) I I),.cel (aH (aG on (bA 1 (bs.take k)))) (.slice (some ⟨g2,0,none⟩) on on),.cel (aH (aG sn (di (bs.take k)))) (.slice (some ⟨g3,0,none⟩) sn sn),.cel (aH (aG ln (eT (bs.take k)))) (.slice (some ⟨g4,0,none⟩) ln ln)]/\∀b∈bs.take k,dM l b) (fun i _=>bn - (intOf i).toNat)
   ·exact ⟨0,by omega,rfl,by rw [List.take_zero];exact dy.out,by simp⟩
   obtain ⟨k,hk,rfl,hs,bx⟩:=hrel
   obtain ⟨HS,bw⟩:=hd2 hs bx
   clear hs bx
   by_cases dS:k<bn
   ·have dv:=dT (by omega:k<bn)
    have bL:k<bs.length:=by rw [cn.out];exact dS
    obtain ⟨bb,ob,EA,G,ec,dO,cf,c0,c1,c2,r2⟩:=HB.out.blk (k:=k) bL
    have g:=aA aL.out HS.out.bel
    have ea:=aK g cf
    rw [←g.cell (p:=⟨bb,ob+k * 3,none⟩) cf] at c0
    rw [←g.cell (p:=⟨bb,ob+k * 3+1,none⟩) cf] at c1
    rw [←g.cell (p:=⟨bb,ob+k * 3+2,none⟩) cf] at c2
    have bM:=Hd (mr bL)
    have bT:=dt.out _ (List.getElem_mem bL)
    have hg:dM l (bs[k]?.getD Blk.zero)→∀b∈bs.take (k+1),dM l b:=fun h b hb=>by
     rw [bM.out,List.mem_append,List.mem_singleton] at hb
     rcases hb with hb|rfl
     ·exact bw.out b hb
     exact h
    have df:¬dM l (bs[k]?.getD Blk.zero)→¬fq l bs:=fun h h'=>h (by rw [List.getElem?_eq_getElem bL];exact h'.fit _ (List.getElem_mem bL))
    obtain ⟨HG,bR⟩:=hd2 hg df
    have bm:Hid ((di (bs.take k)).length<=192):=by
     show _<=_
     have h1:=ww bw.out
     rw [List.length_take] at h1
     have h2:min k bs.length * 3<=64 * 3:=Nat.mul_le_mul_right 3 (by omega)
     omega
    have bV:Hid ((eT (bs.take k)).length<=128):=by
     show _<=_
     have h1:=xA bw.out
     rw [List.length_take] at h1
     have h2:min k bs.length * 2<=64 * 2:=Nat.mul_le_mul_right 2 (by omega)
     omega
    rw [show bs[k]=bs[k]?.getD Blk.zero by rw [List.getElem?_eq_getElem bL];rfl] at bT
    clear bL hg df
    generalize bs[k]?.getD Blk.zero=b at *
    obtain ⟨kd,it,es⟩:=b
    simp only at c0 c1 bT
    have HE:=Hd (show RdC w w.heap.size (cZ es) (.slice EA G ec) from r2)
    have br:Hid (es.length=G):=HE.out.esN
    have dL:G<=1048576:=by rw [←br.out];exact bT
    clear r2 bT
    subst dO
    obtain ⟨i0,i1⟩:=ib (by omega:k<bn)
    obtain ⟨wo,rfl⟩:∃x,x=wr:=⟨wr,rfl⟩
    have HA:=Hd (HS.out.pushBlk #[.int .i64 kd,.int .i64 it,.slice EA G ec] 89)
    have hx:=aD HA.out.bel b8.out
    obtain ⟨x0,x1,x2,x3,lx⟩:=cO hx
    obtain ⟨y0,y1,y2,ly⟩:=jX (HA.out.blk 4 rfl).1
    clear hx g
    go_wp2_with fail
    refine (yE l SA LA OA sn sc ln lc on oc kd it es EA G ec _ (HN.out.below (aA aL.out HA.out.bel)) HF.out (HE.out.below (aA aL.out HA.out.bel)) dL).mono ?_
    by_cases aF:dM l ⟨kd,it,es⟩
    ·rw [ae aF]
     have b5:=Hd (HG.out aF)
     have ci:=Hd (nU aF)
     have cg:Hid (G<=2):=by show _<=_;rw [←br.out];exact lT aF
     rintro _ w4 ⟨rfl,b4⟩
     have a8:=Hd (HA.out.below b4)
     clear x0 x1 x2 x3 lx y0 y1 y2 ly c0 c1 c2 HG bR
     rcases iL aF.1 with dI|dr|dR|dw
     ·subst dI
      have cj:=oZ.1 aF.1
      obtain ⟨X,rfl⟩:∃X:Nat,it=(X:Int):=⟨it.toNat,by omega⟩
      have hX:X<I:=by have:=co.out;omega
      have ax:=dX 0 (bs.take k) ⟨0,(X:Int),es⟩
      have ar:=dX 1 (bs.take k) ⟨0,(X:Int),es⟩
      have au:=ja (bs.take k) ⟨0,(X:Int),es⟩
      have aq:=jZ (bs.take k) ⟨0,(X:Int),es⟩
      rw [←bM.out] at ax ar au aq
      simp only [if_true,if_false,List.append_nil,Int.reduceEq] at ax ar au aq
      have a0:=eO 0 (bs.take k)
      have aZ:=eO 1 (bs.take k)
      rw [List.length_take] at a0 aZ
      obtain ⟨cX,fX,lX,aP⟩:=eD a8.out 0 rfl hX
      have ca:=fC (bA 0 (bs.take k)) (X:Int)
      have a9:Hid (aJ H (w4.setCell ⟨g1,X,none⟩ (.int .i64 (((cnt (bA 0 (bs.take k)) (X:Int):Nat):Int)+1))) [.cel (aH (aG I (bA 0 (bs.take k)++[(X:Int)]))) (.slice (some ⟨g1,0,none⟩) I I),.cel (aH (aG on (bA 1 (bs.take k)))) (.slice (some ⟨g2,0,none⟩) on on),.cel (aH (aG sn (di (bs.take k)))) (.slice (some ⟨g3,0,none⟩) sn sn),.cel (aH (aG ln (eT (bs.take k)))) (.slice (some ⟨g4,0,none⟩) ln ln),.blk wo.heap.size #[.int .i64 0,.int .i64 (X:Int),.slice EA G ec] 89]):=aP
      clear aP
      have bk:Hid ((di (bs.take k)).length<=1000):=by show _<=_;have:=bm.out;(try rw [List.length_append,List.length_singleton]);omega
      have bf:Hid ((eT (bs.take k)).length<=1000):=by show _<=_;have:=bV.out;omega
      obtain ⟨XB,a5⟩:∃XB,bA 0 (bs.take k)++[(X:Int)]=XB:=⟨_,rfl⟩
      obtain ⟨YB,a2⟩:∃YB,bA 1 (bs.take k)=YB:=⟨_,rfl⟩
      obtain ⟨K,a1⟩:∃K,di (bs.take k)=K:=⟨_,rfl⟩
      obtain ⟨R,a6⟩:∃R,eT (bs.take k)=R:=⟨_,rfl⟩
      rw [a5,a2,a1,a6] at a9
      rw [a5] at ax
      rw [a2] at ar
      rw [a1] at au bk
      rw [a6] at aq bf
      obtain ⟨bN,bS,bQ,bK⟩:=hd4 ax ar au aq
      clear ax ar au aq a5 a2 a1 a6
      generalize cnt (bA 0 (bs.take k)) (X:Int)=q at *
      have iq:q<=10000:=by have:=bm.out;omega
      have iX:(X:Int)<(I:Int):=by omega
      clear ca
      obtain ⟨y0,y1,ly⟩:=jv (a8.out.blk 4 rfl).1
      clear b4 a0 aZ aF
      go_upto_region 20 with fail
      clear y0 y1 ly cX fX lX
      go_wp2_with fail
      go_loopw [11] (fun i wr=>∃j:Nat,j<=G/\i = .int .i64 (j:Int)/\aJ H wr [.cel (aH (aG I (XB))) (.slice (some ⟨g1,0,none⟩) I I),.cel (aH (aG on (YB))) (.slice (some ⟨g2,0,none⟩) on on),.cel (aH (aG sn (K++bX (es.take j)))) (.slice (some ⟨g3,0,none⟩) sn sn),.cel (aH (aG ln (R++av (es.take j)))) (.slice (some ⟨g4,0,none⟩) ln ln),.blk wo.heap.size #[.int .i64 0,.int .i64 (X:Int),.slice EA G ec] 89]) (fun i _=>G - (intOf i).toNat)
      ·exact ⟨0,by omega,rfl,by rw [List.take_zero];simpa [bX,av] using a9.out⟩
      obtain ⟨j,hj,rfl,hs⟩:=hrel
      have af:=Hd hs
      clear hs
      obtain ⟨-,-,y2,ly⟩:=jX (af.out.blk 4 rfl).1
      by_cases bo:j<G
      ·have bI:=dT (by omega:j<G)
       have ao:j<es.length:=by rw [br.out];exact bo
       obtain ⟨be,oe,bp,B,c0,c1⟩:=HE.out.es (k:=j) ao
       have bG:=Hd bp
       have aW:=ci.out _ (List.getElem_mem ao)
       have u:=kN (es.take j) (es[j]?.getD LeT.zero)
       have D:=jY (es.take j) (es[j]?.getD LeT.zero)
       rw [←bU ao] at u D
       have aC:=kz (es.take j)
       have aE:=jh (es.take j)
       rw [List.length_take] at aC aE
       rw [show es[j]=es[j]?.getD LeT.zero by rw [List.getElem?_eq_getElem ao];rfl] at aW
       have Z:=aW.lut.2
       have ad:=aW.ff.2
       rw [b7.out] at Z
       rw [b2.out] at ad
       have Q:=cg.out
       have aT:=bk.out
       have aS:=bf.out
       clear aW ao bp
       generalize es[j]?.getD LeT.zero=e at *
       obtain ⟨a,b⟩:=e
       simp only at Z ad u D c0 c1
       obtain ⟨i0,i1⟩:=ib (by omega:j<G)
       have ap:=fC (K++bX (es.take j)) b
       have am:=fC (R++av (es.take j)) a
       rw [List.length_append] at ap am
       obtain ⟨bj,bh⟩:=hd2 c0 c1
       have g:=aA aL.out af.out.bel
       have aV:=aK g B
       rw [←g.cell (p:=⟨be,oe+j * 2,none⟩) B] at c0
       rw [←g.cell (p:=⟨be,oe+j * 2+1,none⟩) B] at c1
       clear g
       obtain rfl:=bG.out
       by_cases ha:0<=a
       ·have da:decide (a≥0)=true:=decide_eq_true ha
        rw [if_pos ha] at D
        obtain ⟨V,rfl⟩:=Int.eq_ofNat_of_zero_le ha
        have bF:V<ln:=by omega
        obtain ⟨cX,fX,lX,aP⟩:=eD af.out 3 rfl bF
        have z:Hid (aJ H (wr.setCell ⟨g4,V,none⟩ (.int .i64 (((cnt (R++av (es.take j)) (V:Int):Nat):Int)+1))) [.cel (aH (aG I (XB))) (.slice (some ⟨g1,0,none⟩) I I),.cel (aH (aG on (YB))) (.slice (some ⟨g2,0,none⟩) on on),.cel (aH (aG sn (K++bX (es.take j)))) (.slice (some ⟨g3,0,none⟩) sn sn),.cel (aH (aG ln (R++av (es.take (j+1))))) (.slice (some ⟨g4,0,none⟩) ln ln),.blk wo.heap.size #[.int .i64 0,.int .i64 (X:Int),.slice (some ⟨be,oe,none⟩) G ec] 89]):=by
         show aJ H _ _
         rw [D,←List.append_assoc]
         exact aP
        clear aP D
        generalize cnt (R++av (es.take j)) (V:Int)=bd at *
        have iX:(V:Int)<(ln:Int):=by omega
        have cE:bd<=10000:=by omega
        go_upto_region 25 with fail
        clear c0 c1 y2 ly aV cX fX lX
        generalize wr.setCell ⟨g4,V,none⟩ (.int .i64 ((bd:Int)+1))=W1 at *
        have g:=aA aL.out z.out.bel
        have aV:=aK g B
        have c0:=(g.cell (p:=⟨be,oe+j * 2,none⟩) B).trans bj.out
        have c1:=(g.cell (p:=⟨be,oe+j * 2+1,none⟩) B).trans bh.out
        obtain ⟨-,-,y2,ly⟩:=jX (z.out.blk 4 rfl).1
        clear g
        by_cases hb:0<=b
        ·have db:decide (b≥0)=true:=decide_eq_true hb
         rw [if_pos hb] at u
         obtain ⟨Y,rfl⟩:=Int.eq_ofNat_of_zero_le hb
         have a4:Y<sn:=by omega
         obtain ⟨cY,fY,lY,aw⟩:=eD z.out 2 rfl a4
         have J:Hid (aJ H (W1.setCell ⟨g3,Y,none⟩ (.int .i64 (((cnt (K++bX (es.take j)) (Y:Int):Nat):Int)+1))) [.cel (aH (aG I (XB))) (.slice (some ⟨g1,0,none⟩) I I),.cel (aH (aG on (YB))) (.slice (some ⟨g2,0,none⟩) on on),.cel (aH (aG sn (K++bX (es.take (j+1))))) (.slice (some ⟨g3,0,none⟩) sn sn),.cel (aH (aG ln (R++av (es.take (j+1))))) (.slice (some ⟨g4,0,none⟩) ln ln),.blk wo.heap.size #[.int .i64 0,.int .i64 (X:Int),.slice (some ⟨be,oe,none⟩) G ec] 89]):=by
          show aJ H _ _
          rw [u,←List.append_assoc]
          exact aw
         clear aw u
         generalize cnt (K++bX (es.take j)) (Y:Int)=a3 at *
         have iY:(Y:Int)<(sn:Int):=by omega
         have bO:a3<=10000:=by omega
         clear ap am aC aE Q aT aS Z ad
         go_wp2_with fail
         go_roundw
         ·exact ⟨j+1,by omega,by go_num,J.out⟩
         simp [intOf];omega
        have db:decide (b≥0)=false:=decide_eq_false hb
        rw [if_neg hb,List.append_nil] at u
        have J:Hid (aJ H W1 [.cel (aH (aG I (XB))) (.slice (some ⟨g1,0,none⟩) I I),.cel (aH (aG on (YB))) (.slice (some ⟨g2,0,none⟩) on on),.cel (aH (aG sn (K++bX (es.take (j+1))))) (.slice (some ⟨g3,0,none⟩) sn sn),.cel (aH (aG ln (R++av (es.take (j+1))))) (.slice (some ⟨g4,0,none⟩) ln ln),.blk wo.heap.size #[.int .i64 0,.int .i64 (X:Int),.slice (some ⟨be,oe,none⟩) G ec] 89]):=by
         show aJ H _ _
         rw [u]
         exact z.out
        clear u ap am aC aE Q aT aS Z ad
        go_wp2_with fail
        go_roundw
        ·exact ⟨j+1,by omega,by go_num,J.out⟩
        simp [intOf];omega
       have da:decide (a≥0)=false:=decide_eq_false ha
       rw [if_neg ha,List.append_nil] at D
       have z:Hid (aJ H wr [.cel (aH (aG I (XB))) (.slice (some ⟨g1,0,none⟩) I I),.cel (aH (aG on (YB))) (.slice (some ⟨g2,0,none⟩) on on),.cel (aH (aG sn (K++bX (es.take j)))) (.slice (some ⟨g3,0,none⟩) sn sn),.cel (aH (aG ln (R++av (es.take (j+1))))) (.slice (some ⟨g4,0,none⟩) ln ln),.blk wo.heap.size #[.int .i64 0,.int .i64 (X:Int),.slice (some ⟨be,oe,none⟩) G ec] 89]):=by
        show aJ H _ _
        rw [D]
        exact af.out
       clear D
       go_upto_region 25 with fail
       clear c0 c1 y2 ly aV
       have g:=aA aL.out z.out.bel
       have aV:=aK g B
       have c0:=(g.cell (p:=⟨be,oe+j * 2,none⟩) B).trans bj.out
       have c1:=(g.cell (p:=⟨be,oe+j * 2+1,none⟩) B).trans bh.out
       obtain ⟨-,-,y2,ly⟩:=jX (z.out.blk 4 rfl).1
       clear g
       by_cases hb:0<=b
       ·have db:decide (b≥0)=true:=decide_eq_true hb
        rw [if_pos hb] at u
        obtain ⟨Y,rfl⟩:=Int.eq_ofNat_of_zero_le hb
        have a4:Y<sn:=by omega
        obtain ⟨cY,fY,lY,aw⟩:=eD z.out 2 rfl a4
        have J:Hid (aJ H (wr.setCell ⟨g3,Y,none⟩ (.int .i64 (((cnt (K++bX (es.take j)) (Y:Int):Nat):Int)+1))) [.cel (aH (aG I (XB))) (.slice (some ⟨g1,0,none⟩) I I),.cel (aH (aG on (YB))) (.slice (some ⟨g2,0,none⟩) on on),.cel (aH (aG sn (K++bX (es.take (j+1))))) (.slice (some ⟨g3,0,none⟩) sn sn),.cel (aH (aG ln (R++av (es.take (j+1))))) (.slice (some ⟨g4,0,none⟩) ln ln),.blk wo.heap.size #[.int .i64 0,.int .i64 (X:Int),.slice (some ⟨be,oe,none⟩) G ec] 89]):=by
         show aJ H _ _
         rw [u,←List.append_assoc]
         exact aw
        clear aw u
        generalize cnt (K++bX (es.take j)) (Y:Int)=a3 at *
        have iY:(Y:Int)<(sn:Int):=by omega
        have bO:a3<=10000:=by omega
        clear ap am aC aE Q aT aS Z ad
        go_wp2_with fail
        go_roundw
        ·exact ⟨j+1,by omega,by go_num,J.out⟩
        simp [intOf];omega
       have db:decide (b≥0)=false:=decide_eq_false hb
       rw [if_neg hb,List.append_nil] at u
       have J:Hid (aJ H wr [.cel (aH (aG I (XB))) (.slice (some ⟨g1,0,none⟩) I I),.cel (aH (aG on (YB))) (.slice (some ⟨g2,0,none⟩) on on),.cel (aH (aG sn (K++bX (es.take (j+1))))) (.slice (some ⟨g3,0,none⟩) sn sn),.cel (aH (aG ln (R++av (es.take (j+1))))) (.slice (some ⟨g4,0,none⟩) ln ln),.blk wo.heap.size #[.int .i64 0,.int .i64 (X:Int),.slice (some ⟨be,oe,none⟩) G ec] 89]):=by
        show aJ H _ _
        rw [u]
        exact z.out
       clear u ap am aC aE Q aT aS Z ad
       go_wp2_with fail
       go_roundw
       ·exact ⟨j+1,by omega,by go_num,J.out⟩
       simp [intOf];omega
      have bg:j=G:=by omega
      have bI:=dF (by omega:G<=j)
      have HD:Hid (aJ H wr [.cel (aH (aG I (XB))) (.slice (some ⟨g1,0,none⟩) I I),.cel (aH (aG on (YB))) (.slice (some ⟨g2,0,none⟩) on on),.cel (aH (aG sn (K++bX es))) (.slice (some ⟨g3,0,none⟩) sn sn),.cel (aH (aG ln (R++av es))) (.slice (some ⟨g4,0,none⟩) ln ln),.blk wo.heap.size #[.int .i64 0,.int .i64 (X:Int),.slice EA G ec] 89]):=by
       have h:=af.out
       show aJ H _ _
       rwa [bg,List.take_of_length_le (by rw [br.out];exact Nat.le_refl _)] at h
      clear af bg
      go_wp2_with fail
      go_roundw
      ·exact ⟨k+1,by omega,by go_num,by rw [bN.out,bS.out,bQ.out,bK.out];exact HD.out.sub (List.sublist_append_left _ [_]),b5.out⟩
      simp [intOf];omega
     ·subst dr
      have cj:=og.1 aF.1
      rw [dk.out] at cj
      obtain ⟨X,rfl⟩:∃X:Nat,it=(X:Int):=⟨it.toNat,by omega⟩
      have hX:X<on:=by have:=co.out;omega
      have ax:=dX 0 (bs.take k) ⟨1,(X:Int),es⟩
      have ar:=dX 1 (bs.take k) ⟨1,(X:Int),es⟩
      have au:=ja (bs.take k) ⟨1,(X:Int),es⟩
      have aq:=jZ (bs.take k) ⟨1,(X:Int),es⟩
      rw [←bM.out] at ax ar au aq
      simp only [Int.reduceEq,reduceIte,List.append_nil] at ax ar au aq
      have a0:=eO 0 (bs.take k)
      have aZ:=eO 1 (bs.take k)
      rw [List.length_take] at a0 aZ
      obtain ⟨cX,fX,lX,aP⟩:=eD a8.out 1 rfl hX
      have ca:=fC (bA 1 (bs.take k)) (X:Int)
      have a9:Hid (aJ H (w4.setCell ⟨g2,X,none⟩ (.int .i64 (((cnt (bA 1 (bs.take k)) (X:Int):Nat):Int)+1))) [.cel (aH (aG I (bA 0 (bs.take k)))) (.slice (some ⟨g1,0,none⟩) I I),.cel (aH (aG on (bA 1 (bs.take k)++[(X:Int)]))) (.slice (some ⟨g2,0,none⟩) on on),.cel (aH (aG sn (di (bs.take k)))) (.slice (some ⟨g3,0,none⟩) sn sn),.cel (aH (aG ln (eT (bs.take k)))) (.slice (some ⟨g4,0,none⟩) ln ln),.blk wo.heap.size #[.int .i64 1,.int .i64 (X:Int),.slice EA G ec] 89]):=aP
      clear aP
      have bk:Hid ((di (bs.take k)).length<=1000):=by show _<=_;have:=bm.out;(try rw [List.length_append,List.length_singleton]);omega
      have bf:Hid ((eT (bs.take k)).length<=1000):=by show _<=_;have:=bV.out;omega
      obtain ⟨XB,a5⟩:∃XB,bA 0 (bs.take k)=XB:=⟨_,rfl⟩
      obtain ⟨YB,a2⟩:∃YB,bA 1 (bs.take k)++[(X:Int)]=YB:=⟨_,rfl⟩
      obtain ⟨K,a1⟩:∃K,di (bs.take k)=K:=⟨_,rfl⟩
      obtain ⟨R,a6⟩:∃R,eT (bs.take k)=R:=⟨_,rfl⟩
      rw [a5,a2,a1,a6] at a9
      rw [a5] at ax
      rw [a2] at ar
      rw [a1] at au bk
      rw [a6] at aq bf
      obtain ⟨bN,bS,bQ,bK⟩:=hd4 ax ar au aq
      clear ax ar au aq a5 a2 a1 a6
      generalize cnt (bA 1 (bs.take k)) (X:Int)=q at *
      have iq:q<=10000:=by have:=bm.out;omega
      have iX:(X:Int)<(on:Int):=by omega
      clear ca
      obtain ⟨y0,y1,ly⟩:=jv (a8.out.blk 4 rfl).1
      clear b4 a0 aZ aF
      go_upto_region 20 with fail
      clear y0 y1 ly cX fX lX
      go_wp2_with fail
      go_loopw [11] (fun i wr=>∃j:Nat,j<=G/\i = .int .i64 (j:Int)/\aJ H wr [.cel (aH (aG I (XB))) (.slice (some ⟨g1,0,none⟩) I I),.cel (aH (aG on (YB))) (.slice (some ⟨g2,0,none⟩) on on),.cel (aH (aG sn (K++bX (es.take j)))) (.slice (some ⟨g3,0,none⟩) sn sn),.cel (aH (aG ln (R++av (es.take j)))) (.slice (some ⟨g4,0,none⟩) ln ln),.blk wo.heap.size #[.int .i64 1,.int .i64 (X:Int),.slice EA G ec] 89]) (fun i _=>G - (intOf i).toNat)
      ·exact ⟨0,by omega,rfl,by rw [List.take_zero];simpa [bX,av] using a9.out⟩
      obtain ⟨j,hj,rfl,hs⟩:=hrel
      have af:=Hd hs
      clear hs
      obtain ⟨-,-,y2,ly⟩:=jX (af.out.blk 4 rfl).1
      by_cases bo:j<G
      ·have bI:=dT (by omega:j<G)
       have ao:j<es.length:=by rw [br.out];exact bo
       obtain ⟨be,oe,bp,B,c0,c1⟩:=HE.out.es (k:=j) ao
       have bG:=Hd bp
       have aW:=ci.out _ (List.getElem_mem ao)
       have u:=kN (es.take j) (es[j]?.getD LeT.zero)
       have D:=jY (es.take j) (es[j]?.getD LeT.zero)
       rw [←bU ao] at u D
       have aC:=kz (es.take j)
       have aE:=jh (es.take j)
       rw [List.length_take] at aC aE
       rw [show es[j]=es[j]?.getD LeT.zero by rw [List.getElem?_eq_getElem ao];rfl] at aW
       have Z:=aW.lut.2
       have ad:=aW.ff.2
       rw [b7.out] at Z
       rw [b2.out] at ad
       have Q:=cg.out
       have aT:=bk.out
       have aS:=bf.out
       clear aW ao bp
       generalize es[j]?.getD LeT.zero=e at *
       obtain ⟨a,b⟩:=e
       simp only at Z ad u D c0 c1
       obtain ⟨i0,i1⟩:=ib (by omega:j<G)
       have ap:=fC (K++bX (es.take j)) b
       have am:=fC (R++av (es.take j)) a
       rw [List.length_append] at ap am
       obtain ⟨bj,bh⟩:=hd2 c0 c1
       have g:=aA aL.out af.out.bel
       have aV:=aK g B
       rw [←g.cell (p:=⟨be,oe+j * 2,none⟩) B] at c0
       rw [←g.cell (p:=⟨be,oe+j * 2+1,none⟩) B] at c1
       clear g
       obtain rfl:=bG.out
       by_cases ha:0<=a
       ·have da:decide (a≥0)=true:=decide_eq_true ha
        rw [if_pos ha] at D
        obtain ⟨V,rfl⟩:=Int.eq_ofNat_of_zero_le ha
        have bF:V<ln:=by omega
        obtain ⟨cX,fX,lX,aP⟩:=eD af.out 3 rfl bF
        have z:Hid (aJ H (wr.setCell ⟨g4,V,none⟩ (.int .i64 (((cnt (R++av (es.take j)) (V:Int):Nat):Int)+1))) [.cel (aH (aG I (XB))) (.slice (some ⟨g1,0,none⟩) I I),.cel (aH (aG on (YB))) (.slice (some ⟨g2,0,none⟩) on on),.cel (aH (aG sn (K++bX (es.take j)))) (.slice (some ⟨g3,0,none⟩) sn sn),.cel (aH (aG ln (R++av (es.take (j+1))))) (.slice (some ⟨g4,0,none⟩) ln ln),.blk wo.heap.size #[.int .i64 1,.int .i64 (X:Int),.slice (some ⟨be,oe,none⟩) G ec] 89]):=by
         show aJ H _ _
         rw [D,←List.append_assoc]
         exact aP
        clear aP D
        generalize cnt (R++av (es.take j)) (V:Int)=bd at *
        have iX:(V:Int)<(ln:Int):=by omega
        have cE:bd<=10000:=by omega
        go_upto_region 25 with fail
        clear c0 c1 y2 ly aV cX fX lX
        generalize wr.setCell ⟨g4,V,none⟩ (.int .i64 ((bd:Int)+1))=W1 at *
        have g:=aA aL.out z.out.bel
        have aV:=aK g B
        have c0:=(g.cell (p:=⟨be,oe+j * 2,none⟩) B).trans bj.out
        have c1:=(g.cell (p:=⟨be,oe+j * 2+1,none⟩) B).trans bh.out
        obtain ⟨-,-,y2,ly⟩:=jX (z.out.blk 4 rfl).1
        clear g
        by_cases hb:0<=b
        ·have db:decide (b≥0)=true:=decide_eq_true hb
         rw [if_pos hb] at u
         obtain ⟨Y,rfl⟩:=Int.eq_ofNat_of_zero_le hb
         have a4:Y<sn:=by omega
         obtain ⟨cY,fY,lY,aw⟩:=eD z.out 2 rfl a4
         have J:Hid (aJ H (W1.setCell ⟨g3,Y,none⟩ (.int .i64 (((cnt (K++bX (es.take j)) (Y:Int):Nat):Int)+1))) [.cel (aH (aG I (XB))) (.slice (some ⟨g1,0,none⟩) I I),.cel (aH (aG on (YB))) (.slice (some ⟨g2,0,none⟩) on on),.cel (aH (aG sn (K++bX (es.take (j+1))))) (.slice (some ⟨g3,0,none⟩) sn sn),.cel (aH (aG ln (R++av (es.take (j+1))))) (.slice (some ⟨g4,0,none⟩) ln ln),.blk wo.heap.size #[.int .i64 1,.int .i64 (X:Int),.slice (some ⟨be,oe,none⟩) G ec] 89]):=by
          show aJ H _ _
          rw [u,←List.append_assoc]
          exact aw
         clear aw u
         generalize cnt (K++bX (es.take j)) (Y:Int)=a3 at *
         have iY:(Y:Int)<(sn:Int):=by omega
         have bO:a3<=10000:=by omega
         clear ap am aC aE Q aT aS Z ad
         go_wp2_with fail
         go_roundw
         ·exact ⟨j+1,by omega,by go_num,J.out⟩
         simp [intOf];omega
        have db:decide (b≥0)=false:=decide_eq_false hb
        rw [if_neg hb,List.append_nil] at u
        have J:Hid (aJ H W1 [.cel (aH (aG I (XB))) (.slice (some ⟨g1,0,none⟩) I I),.cel (aH (aG on (YB))) (.slice (some ⟨g2,0,none⟩) on on),.cel (aH (aG sn (K++bX (es.take (j+1))))) (.slice (some ⟨g3,0,none⟩) sn sn),.cel (aH (aG ln (R++av (es.take (j+1))))) (.slice (some ⟨g4,0,none⟩) ln ln),.blk wo.heap.size #[.int .i64 1,.int .i64 (X:Int),.slice (some ⟨be,oe,none⟩) G ec] 89]):=by
         show aJ H _ _
         rw [u]
         exact z.out
        clear u ap am aC aE Q aT aS Z ad
        go_wp2_with fail
        go_roundw
        ·exact ⟨j+1,by omega,by go_num,J.out⟩
        simp [intOf];omega
       have da:decide (a≥0)=false:=decide_eq_false ha
       rw [if_neg ha,List.append_nil] at D
       have z:Hid (aJ H wr [.cel (aH (aG I (XB))) (.slice (some ⟨g1,0,none⟩) I I),.cel (aH (aG on (YB))) (.slice (some ⟨g2,0,none⟩) on on),.cel (aH (aG sn (K++bX (es.take j)))) (.slice (some ⟨g3,0,none⟩) sn sn),.cel (aH (aG ln (R++av (es.take (j+1))))) (.slice (some ⟨g4,0,none⟩) ln ln),.blk wo.heap.size #[.int .i64 1,.int .i64 (X:Int),.slice (some ⟨be,oe,none⟩) G ec] 89]):=by
        show aJ H _ _
        rw [D]
        exact af.out
       clear D
       go_upto_region 25 with fail
       clear c0 c1 y2 ly aV
       have g:=aA aL.out z.out.bel
       have aV:=aK g B
       have c0:=(g.cell (p:=⟨be,oe+j * 2,none⟩) B).trans bj.out
       have c1:=(g.cell (p:=⟨be,oe+j * 2+1,none⟩) B).trans bh.out
       obtain ⟨-,-,y2,ly⟩:=jX (z.out.blk 4 rfl).1
       clear g
       by_cases hb:0<=b
       ·have db:decide (b≥0)=true:=decide_eq_true hb
        rw [if_pos hb] at u
        obtain ⟨Y,rfl⟩:=Int.eq_ofNat_of_zero_le hb
        have a4:Y<sn:=by omega
        obtain ⟨cY,fY,lY,aw⟩:=eD z.out 2 rfl a4
        have J:Hid (aJ H (wr.setCell ⟨g3,Y,none⟩ (.int .i64 (((cnt (K++bX (es.take j)) (Y:Int):Nat):Int)+1))) [.cel (aH (aG I (XB))) (.slice (some ⟨g1,0,none⟩) I I),.cel (aH (aG on (YB))) (.slice (some ⟨g2,0,none⟩) on on),.cel (aH (aG sn (K++bX (es.take (j+1))))) (.slice (some ⟨g3,0,none⟩) sn sn),.cel (aH (aG ln (R++av (es.take (j+1))))) (.slice (some ⟨g4,0,none⟩) ln ln),.blk wo.heap.size #[.int .i64 1,.int .i64 (X:Int),.slice (some ⟨be,oe,none⟩) G ec] 89]):=by
         show aJ H _ _
         rw [u,←List.append_assoc]
         exact aw
        clear aw u
        generalize cnt (K++bX (es.take j)) (Y:Int)=a3 at *
        have iY:(Y:Int)<(sn:Int):=by omega
        have bO:a3<=10000:=by omega
        clear ap am aC aE Q aT aS Z ad
        go_wp2_with fail
        go_roundw
        ·exact ⟨j+1,by omega,by go_num,J.out⟩
        simp [intOf];omega
       have db:decide (b≥0)=false:=decide_eq_false hb
       rw [if_neg hb,List.append_nil] at u
       have J:Hid (aJ H wr [.cel (aH (aG I (XB))) (.slice (some ⟨g1,0,none⟩) I I),.cel (aH (aG on (YB))) (.slice (some ⟨g2,0,none⟩) on on),.cel (aH (aG sn (K++bX (es.take (j+1))))) (.slice (some ⟨g3,0,none⟩) sn sn),.cel (aH (aG ln (R++av (es.take (j+1))))) (.slice (some ⟨g4,0,none⟩) ln ln),.blk wo.heap.size #[.int .i64 1,.int .i64 (X:Int),.slice (some ⟨be,oe,none⟩) G ec] 89]):=by
        show aJ H _ _
        rw [u]
        exact z.out
       clear u ap am aC aE Q aT aS Z ad
       go_wp2_with fail
       go_roundw
       ·exact ⟨j+1,by omega,by go_num,J.out⟩
       simp [intOf];omega
      have bg:j=G:=by omega
      have bI:=dF (by omega:G<=j)
      have HD:Hid (aJ H wr [.cel (aH (aG I (XB))) (.slice (some ⟨g1,0,none⟩) I I),.cel (aH (aG on (YB))) (.slice (some ⟨g2,0,none⟩) on on),.cel (aH (aG sn (K++bX es))) (.slice (some ⟨g3,0,none⟩) sn sn),.cel (aH (aG ln (R++av es))) (.slice (some ⟨g4,0,none⟩) ln ln),.blk wo.heap.size #[.int .i64 1,.int .i64 (X:Int),.slice EA G ec] 89]):=by
       have h:=af.out
       show aJ H _ _
       rwa [bg,List.take_of_length_le (by rw [br.out];exact Nat.le_refl _)] at h
      clear af bg
      go_wp2_with fail
      go_roundw
      ·exact ⟨k+1,by omega,by go_num,by rw [bN.out,bS.out,bQ.out,bK.out];exact HD.out.sub (List.sublist_append_left _ [_]),b5.out⟩
      simp [intOf];omega
     ·subst dR
      have cj:=jW.1 aF.1
      rw [b2.out] at cj
      obtain ⟨X,rfl⟩:∃X:Nat,it=(X:Int):=⟨it.toNat,by omega⟩
      have hX:X<sn:=by have:=co.out;omega
      have ax:=dX 0 (bs.take k) ⟨2,(X:Int),es⟩
      have ar:=dX 1 (bs.take k) ⟨2,(X:Int),es⟩
      have au:=ja (bs.take k) ⟨2,(X:Int),es⟩
      have aq:=jZ (bs.take k) ⟨2,(X:Int),es⟩
      rw [←bM.out] at ax ar au aq
      simp only [Int.reduceEq,reduceIte,List.append_nil] at ax ar au aq
      have a0:=eO 0 (bs.take k)
      have aZ:=eO 1 (bs.take k)
      rw [List.length_take] at a0 aZ
      obtain ⟨cX,fX,lX,aP⟩:=eD a8.out 2 rfl hX
      have ca:=fC (di (bs.take k)) (X:Int)
      have a9:Hid (aJ H (w4.setCell ⟨g3,X,none⟩ (.int .i64 (((cnt (di (bs.take k)) (X:Int):Nat):Int)+1))) [.cel (aH (aG I (bA 0 (bs.take k)))) (.slice (some ⟨g1,0,none⟩) I I),.cel (aH (aG on (bA 1 (bs.take k)))) (.slice (some ⟨g2,0,none⟩) on on),.cel (aH (aG sn (di (bs.take k)++[(X:Int)]))) (.slice (some ⟨g3,0,none⟩) sn sn),.cel (aH (aG ln (eT (bs.take k)))) (.slice (some ⟨g4,0,none⟩) ln ln),.blk wo.heap.size #[.int .i64 2,.int .i64 (X:Int),.slice EA G ec] 89]):=aP
      clear aP
      have bk:Hid ((di (bs.take k)++[(X:Int)]).length<=1000):=by show _<=_;have:=bm.out;(try rw [List.length_append,List.length_singleton]);omega
      have bf:Hid ((eT (bs.take k)).length<=1000):=by show _<=_;have:=bV.out;omega
      obtain ⟨XB,a5⟩:∃XB,bA 0 (bs.take k)=XB:=⟨_,rfl⟩
      obtain ⟨YB,a2⟩:∃YB,bA 1 (bs.take k)=YB:=⟨_,rfl⟩
      obtain ⟨K,a1⟩:∃K,di (bs.take k)++[(X:Int)]=K:=⟨_,rfl⟩
      obtain ⟨R,a6⟩:∃R,eT (bs.take k)=R:=⟨_,rfl⟩
      rw [a5,a2,a1,a6] at a9
      rw [a5] at ax
      rw [a2] at ar
      rw [a1] at au bk
      rw [a6] at aq bf
      obtain ⟨bN,bS,bQ,bK⟩:=hd4 ax ar au aq
      clear ax ar au aq a5 a2 a1 a6
      generalize cnt (di (bs.take k)) (X:Int)=q at *
      have iq:q<=10000:=by have:=bm.out;omega
      have iX:(X:Int)<(sn:Int):=by omega
      clear ca
      obtain ⟨y0,y1,ly⟩:=jv (a8.out.blk 4 rfl).1
      clear b4 a0 aZ aF
      go_upto_region 20 with fail
      clear y0 y1 ly cX fX lX
      go_wp2_with fail
      go_loopw [11] (fun i wr=>∃j:Nat,j<=G/\i = .int .i64 (j:Int)/\aJ H wr [.cel (aH (aG I (XB))) (.slice (some ⟨g1,0,none⟩) I I),.cel (aH (aG on (YB))) (.slice (some ⟨g2,0,none⟩) on on),.cel (aH (aG sn (K++bX (es.take j)))) (.slice (some ⟨g3,0,none⟩) sn sn),.cel (aH (aG ln (R++av (es.take j)))) (.slice (some ⟨g4,0,none⟩) ln ln),.blk wo.heap.size #[.int .i64 2,.int .i64 (X:Int),.slice EA G ec] 89]) (fun i _=>G - (intOf i).toNat)
      ·exact ⟨0,by omega,rfl,by rw [List.take_zero];simpa [bX,av] using a9.out⟩
      obtain ⟨j,hj,rfl,hs⟩:=hrel
      have af:=Hd hs
      clear hs
      obtain ⟨-,-,y2,ly⟩:=jX (af.out.blk 4 rfl).1
      by_cases bo:j<G
      ·have bI:=dT (by omega:j<G)
       have ao:j<es.length:=by rw [br.out];exact bo
       obtain ⟨be,oe,bp,B,c0,c1⟩:=HE.out.es (k:=j) ao
       have bG:=Hd bp
       have aW:=ci.out _ (List.getElem_mem ao)
       have u:=kN (es.take j) (es[j]?.getD LeT.zero)
       have D:=jY (es.take j) (es[j]?.getD LeT.zero)
       rw [←bU ao] at u D
       have aC:=kz (es.take j)
       have aE:=jh (es.take j)
       rw [List.length_take] at aC aE
       rw [show es[j]=es[j]?.getD LeT.zero by rw [List.getElem?_eq_getElem ao];rfl] at aW
       have Z:=aW.lut.2
       have ad:=aW.ff.2
       rw [b7.out] at Z
       rw [b2.out] at ad
       have Q:=cg.out
       have aT:=bk.out
       have aS:=bf.out
       clear aW ao bp
       generalize es[j]?.getD LeT.zero=e at *
       obtain ⟨a,b⟩:=e
       simp only at Z ad u D c0 c1
       obtain ⟨i0,i1⟩:=ib (by omega:j<G)
       have ap:=fC (K++bX (es.take j)) b
       have am:=fC (R++av (es.take j)) a
       rw [List.length_append] at ap am
       obtain ⟨bj,bh⟩:=hd2 c0 c1
       have g:=aA aL.out af.out.bel
       have aV:=aK g B
       rw [←g.cell (p:=⟨be,oe+j * 2,none⟩) B] at c0
       rw [←g.cell (p:=⟨be,oe+j * 2+1,none⟩) B] at c1
       clear g
       obtain rfl:=bG.out
       by_cases ha:0<=a
       ·have da:decide (a≥0)=true:=decide_eq_true ha
        rw [if_pos ha] at D
        obtain ⟨V,rfl⟩:=Int.eq_ofNat_of_zero_le ha
        have bF:V<ln:=by omega
        obtain ⟨cX,fX,lX,aP⟩:=eD af.out 3 rfl bF
        have z:Hid (aJ H (wr.setCell ⟨g4,V,none⟩ (.int .i64 (((cnt (R++av (es.take j)) (V:Int):Nat):Int)+1))) [.cel (aH (aG I (XB))) (.slice (some ⟨g1,0,none⟩) I I),.cel (aH (aG on (YB))) (.slice (some ⟨g2,0,none⟩) on on),.cel (aH (aG sn (K++bX (es.take j)))) (.slice (some ⟨g3,0,none⟩) sn sn),.cel (aH (aG ln (R++av (es.take (j+1))))) (.slice (some ⟨g4,0,none⟩) ln ln),.blk wo.heap.size #[.int .i64 2,.int .i64 (X:Int),.slice (some ⟨be,oe,none⟩) G ec] 89]):=by
         show aJ H _ _
         rw [D,←List.append_assoc]
         exact aP
        clear aP D
        generalize cnt (R++av (es.take j)) (V:Int)=bd at *
        have iX:(V:Int)<(ln:Int):=by omega
        have cE:bd<=10000:=by omega
        go_upto_region 25 with fail
        clear c0 c1 y2 ly aV cX fX lX
        generalize wr.setCell ⟨g4,V,none⟩ (.int .i64 ((bd:Int)+1))=W1 at *
        have g:=aA aL.out z.out.bel
        have aV:=aK g B
        have c0:=(g.cell (p:=⟨be,oe+j * 2,none⟩) B).trans bj.out
        have c1:=(g.cell (p:=⟨be,oe+j * 2+1,none⟩) B).trans bh.out
        obtain ⟨-,-,y2,ly⟩:=jX (z.out.blk 4 rfl).1
        clear g
        by_cases hb:0<=b
        ·have db:decide (b≥0)=true:=decide_eq_true hb
         rw [if_pos hb] at u
         obtain ⟨Y,rfl⟩:=Int.eq_ofNat_of_zero_le hb
         have a4:Y<sn:=by omega
         obtain ⟨cY,fY,lY,aw⟩:=eD z.out 2 rfl a4
         have J:Hid (aJ H (W1.setCell ⟨g3,Y,none⟩ (.int .i64 (((cnt (K++bX (es.take j)) (Y:Int):Nat):Int)+1))) [.cel (aH (aG I (XB))) (.slice (some ⟨g1,0,none⟩) I I),.cel (aH (aG on (YB))) (.slice (some ⟨g2,0,none⟩) on on),.cel (aH (aG sn (K++bX (es.take (j+1))))) (.slice (some ⟨g3,0,none⟩) sn sn),.cel (aH (aG ln (R++av (es.take (j+1))))) (.slice (some ⟨g4,0,none⟩) ln ln),.blk wo.heap.size #[.int .i64 2,.int .i64 (X:Int),.slice (some ⟨be,oe,none⟩) G ec] 89]):=by
          show aJ H _ _
          rw [u,←List.append_assoc]
          exact aw
         clear aw u
         generalize cnt (K++bX (es.take j)) (Y:Int)=a3 at *
         have iY:(Y:Int)<(sn:Int):=by omega
         have bO:a3<=10000:=by omega
         clear ap am aC aE Q aT aS Z ad
         go_wp2_with fail
         go_roundw
         ·exact ⟨j+1,by omega,by go_num,J.out⟩
         simp [intOf];omega
        have db:decide (b≥0)=false:=decide_eq_false hb
        rw [if_neg hb,List.append_nil] at u
        have J:Hid (aJ H W1 [.cel (aH (aG I (XB))) (.slice (some ⟨g1,0,none⟩) I I),.cel (aH (aG on (YB))) (.slice (some ⟨g2,0,none⟩) on on),.cel (aH (aG sn (K++bX (es.take (j+1))))) (.slice (some ⟨g3,0,none⟩) sn sn),.cel (aH (aG ln (R++av (es.take (j+1))))) (.slice (some ⟨g4,0,none⟩) ln ln),.blk wo.heap.size #[.int .i64 2,.int .i64 (X:Int),.slice (some ⟨be,oe,none⟩) G ec] 89]):=by
         show aJ H _ _
         rw [u]
         exact z.out
        clear u ap am aC aE Q aT aS Z ad
        go_wp2_with fail
        go_roundw
        ·exact ⟨j+1,by omega,by go_num,J.out⟩
        simp [intOf];omega
       have da:decide (a≥0)=false:=decide_eq_false ha
       rw [if_neg ha,List.append_nil] at D
       have z:Hid (aJ H wr [.cel (aH (aG I (XB))) (.slice (some ⟨g1,0,none⟩) I I),.cel (aH (aG on (YB))) (.slice (some ⟨g2,0,none⟩) on on),.cel (aH (aG sn (K++bX (es.take j)))) (.slice (some ⟨g3,0,none⟩) sn sn),.cel (aH (aG ln (R++av (es.take (j+1))))) (.slice (some ⟨g4,0,none⟩) ln ln),.blk wo.heap.size #[.int .i64 2,.int .i64 (X:Int),.slice (some ⟨be,oe,none⟩) G ec] 89]):=by
        show aJ H _ _
        rw [D]
        exact af.out
       clear D
       go_upto_region 25 with fail
       clear c0 c1 y2 ly aV
       have g:=aA aL.out z.out.bel
       have aV:=aK g B
       have c0:=(g.cell (p:=⟨be,oe+j * 2,none⟩) B).trans bj.out
       have c1:=(g.cell (p:=⟨be,oe+j * 2+1,none⟩) B).trans bh.out
       obtain ⟨-,-,y2,ly⟩:=jX (z.out.blk 4 rfl).1
       clear g
       by_cases hb:0<=b
       ·have db:decide (b≥0)=true:=decide_eq_true hb
        rw [if_pos hb] at u
        obtain ⟨Y,rfl⟩:=Int.eq_ofNat_of_zero_le hb
        have a4:Y<sn:=by omega
        obtain ⟨cY,fY,lY,aw⟩:=eD z.out 2 rfl a4
        have J:Hid (aJ H (wr.setCell ⟨g3,Y,none⟩ (.int .i64 (((cnt (K++bX (es.take j)) (Y:Int):Nat):Int)+1))) [.cel (aH (aG I (XB))) (.slice (some ⟨g1,0,none⟩) I I),.cel (aH (aG on (YB))) (.slice (some ⟨g2,0,none⟩) on on),.cel (aH (aG sn (K++bX (es.take (j+1))))) (.slice (some ⟨g3,0,none⟩) sn sn),.cel (aH (aG ln (R++av (es.take (j+1))))) (.slice (some ⟨g4,0,none⟩) ln ln),.blk wo.heap.size #[.int .i64 2,.int .i64 (X:Int),.slice (some ⟨be,oe,none⟩) G ec] 89]):=by
         show aJ H _ _
         rw [u,←List.append_assoc]
         exact aw
        clear aw u
        generalize cnt (K++bX (es.take j)) (Y:Int)=a3 at *
        have iY:(Y:Int)<(sn:Int):=by omega
        have bO:a3<=10000:=by omega
        clear ap am aC aE Q aT aS Z ad
        go_wp2_with fail
        go_roundw
        ·exact ⟨j+1,by omega,by go_num,J.out⟩
        simp [intOf];omega
       have db:decide (b≥0)=false:=decide_eq_false hb
       rw [if_neg hb,List.append_nil] at u
       have J:Hid (aJ H wr [.cel (aH (aG I (XB))) (.slice (some ⟨g1,0,none⟩) I I),.cel (aH (aG on (YB))) (.slice (some ⟨g2,0,none⟩) on on),.cel (aH (aG sn (K++bX (es.take (j+1))))) (.slice (some ⟨g3,0,none⟩) sn sn),.cel (aH (aG ln (R++av (es.take (j+1))))) (.slice (some ⟨g4,0,none⟩) ln ln),.blk wo.heap.size #[.int .i64 2,.int .i64 (X:Int),.slice (some ⟨be,oe,none⟩) G ec] 89]):=by
        show aJ H _ _
        rw [u]
        exact z.out
       clear u ap am aC aE Q aT aS Z ad
       go_wp2_with fail
       go_roundw
       ·exact ⟨j+1,by omega,by go_num,J.out⟩
       simp [intOf];omega
      have bg:j=G:=by omega
      have bI:=dF (by omega:G<=j)
      have HD:Hid (aJ H wr [.cel (aH (aG I (XB))) (.slice (some ⟨g1,0,none⟩) I I),.cel (aH (aG on (YB))) (.slice (some ⟨g2,0,none⟩) on on),.cel (aH (aG sn (K++bX es))) (.slice (some ⟨g3,0,none⟩) sn sn),.cel (aH (aG ln (R++av es))) (.slice (some ⟨g4,0,none⟩) ln ln),.blk wo.heap.size #[.int .i64 2,.int .i64 (X:Int),.slice EA G ec] 89]):=by
       have h:=af.out
       show aJ H _ _
       rwa [bg,List.take_of_length_le (by rw [br.out];exact Nat.le_refl _)] at h
      clear af bg
      go_wp2_with fail
      go_roundw
      ·exact ⟨k+1,by omega,by go_num,by rw [bN.out,bS.out,bQ.out,bK.out];exact HD.out.sub (List.sublist_append_left _ [_]),b5.out⟩
      simp [intOf];omega
     subst dw
     have ax:=dX 0 (bs.take k) ⟨3,it,es⟩
     have ar:=dX 1 (bs.take k) ⟨3,it,es⟩
     have au:=ja (bs.take k) ⟨3,it,es⟩
     have aq:=jZ (bs.take k) ⟨3,it,es⟩
     rw [←bM.out] at ax ar au aq
     simp only [Int.reduceEq,reduceIte,List.append_nil] at ax ar au aq
     have a0:=eO 0 (bs.take k)
     have aZ:=eO 1 (bs.take k)
     rw [List.length_take] at a0 aZ
     have a9:Hid (aJ H w4 [.cel (aH (aG I (bA 0 (bs.take k)))) (.slice (some ⟨g1,0,none⟩) I I),.cel (aH (aG on (bA 1 (bs.take k)))) (.slice (some ⟨g2,0,none⟩) on on),.cel (aH (aG sn (di (bs.take k)))) (.slice (some ⟨g3,0,none⟩) sn sn),.cel (aH (aG ln (eT (bs.take k)))) (.slice (some ⟨g4,0,none⟩) ln ln),.blk wo.heap.size #[.int .i64 3,.int .i64 it,.slice EA G ec] 89]):=a8.out
     have bk:Hid ((di (bs.take k)).length<=1000):=by show _<=_;have:=bm.out;(try rw [List.length_append,List.length_singleton]);omega
     have bf:Hid ((eT (bs.take k)).length<=1000):=by show _<=_;have:=bV.out;omega
     obtain ⟨XB,a5⟩:∃XB,bA 0 (bs.take k)=XB:=⟨_,rfl⟩
     obtain ⟨YB,a2⟩:∃YB,bA 1 (bs.take k)=YB:=⟨_,rfl⟩
     obtain ⟨K,a1⟩:∃K,di (bs.take k)=K:=⟨_,rfl⟩
     obtain ⟨R,a6⟩:∃R,eT (bs.take k)=R:=⟨_,rfl⟩
     rw [a5,a2,a1,a6] at a9
     rw [a5] at ax
     rw [a2] at ar
     rw [a1] at au bk
     rw [a6] at aq bf
     obtain ⟨bN,bS,bQ,bK⟩:=hd4 ax ar au aq
     clear ax ar au aq a5 a2 a1 a6
     obtain ⟨y0,y1,ly⟩:=jv (a8.out.blk 4 rfl).1
     clear b4 a0 aZ aF
     go_upto_region 20 with fail
     clear y0 y1 ly
     go_wp2_with fail
     go_loopw [11] (fun i wr=>∃j:Nat,j<=G/\i = .int .i64 (j:Int)/\aJ H wr [.cel (aH (aG I (XB))) (.slice (some ⟨g1,0,none⟩) I I),.cel (aH (aG on (YB))) (.slice (some ⟨g2,0,none⟩) on on),.cel (aH (aG sn (K++bX (es.take j)))) (.slice (some ⟨g3,0,none⟩) sn sn),.cel (aH (aG ln (R++av (es.take j)))) (.slice (some ⟨g4,0,none⟩) ln ln),.blk wo.heap.size #[.int .i64 3,.int .i64 it,.slice EA G ec] 89]) (fun i _=>G - (intOf i).toNat)
     ·exact ⟨0,by omega,rfl,by rw [List.take_zero];simpa [bX,av] using a9.out⟩
     obtain ⟨j,hj,rfl,hs⟩:=hrel
     have af:=Hd hs
     clear hs
     obtain ⟨-,-,y2,ly⟩:=jX (af.out.blk 4 rfl).1
     by_cases bo:j<G
     ·have bI:=dT (by omega:j<G)
      have ao:j<es.length:=by rw [br.out];exact bo
      obtain ⟨be,oe,bp,B,c0,c1⟩:=HE.out.es (k:=j) ao
      have bG:=Hd bp
      have aW:=ci.out _ (List.getElem_mem ao)
      have u:=kN (es.take j) (es[j]?.getD LeT.zero)
      have D:=jY (es.take j) (es[j]?.getD LeT.zero)
      rw [←bU ao] at u D
      have aC:=kz (es.take j)
      have aE:=jh (es.take j)
      rw [List.length_take] at aC aE
      rw [show es[j]=es[j]?.getD LeT.zero by rw [List.getElem?_eq_getElem ao];rfl] at aW
      have Z:=aW.lut.2
      have ad:=aW.ff.2
      rw [b7.out] at Z
      rw [b2.out] at ad
      have Q:=cg.out
      have aT:=bk.out
      have aS:=bf.out
      clear aW ao bp
      generalize es[j]?.getD LeT.zero=e at *
      obtain ⟨a,b⟩:=e
      simp only at Z ad u D c0 c1
      obtain ⟨i0,i1⟩:=ib (by omega:j<G)
      have ap:=fC (K++bX (es.take j)) b
      have am:=fC (R++av (es.take j)) a
      rw [List.length_append] at ap am
      obtain ⟨bj,bh⟩:=hd2 c0 c1
      have g:=aA aL.out af.out.bel
      have aV:=aK g B
      rw [←g.cell (p:=⟨be,oe+j * 2,none⟩) B] at c0
      rw [←g.cell (p:=⟨be,oe+j * 2+1,none⟩) B] at c1
      clear g
      obtain rfl:=bG.out
      by_cases ha:0<=a
      ·have da:decide (a≥0)=true:=decide_eq_true ha
       rw [if_pos ha] at D
       obtain ⟨V,rfl⟩:=Int.eq_ofNat_of_zero_le ha
       have bF:V<ln:=by omega
       obtain ⟨cX,fX,lX,aP⟩:=eD af.out 3 rfl bF
       have z:Hid (aJ H (wr.setCell ⟨g4,V,none⟩ (.int .i64 (((cnt (R++av (es.take j)) (V:Int):Nat):Int)+1))) [.cel (aH (aG I (XB))) (.slice (some ⟨g1,0,none⟩) I I),.cel (aH (aG on (YB))) (.slice (some ⟨g2,0,none⟩) on on),.cel (aH (aG sn (K++bX (es.take j)))) (.slice (some ⟨g3,0,none⟩) sn sn),.cel (aH (aG ln (R++av (es.take (j+1))))) (.slice (some ⟨g4,0,none⟩) ln ln),.blk wo.heap.size #[.int .i64 3,.int .i64 it,.slice (some ⟨be,oe,none⟩) G ec] 89]):=by
        show aJ H _ _
        rw [D,←List.append_assoc]
        exact aP
       clear aP D
       generalize cnt (R++av (es.take j)) (V:Int)=bd at *
       have iX:(V:Int)<(ln:Int):=by omega
       have cE:bd<=10000:=by omega
       go_upto_region 25 with fail
       clear c0 c1 y2 ly aV cX fX lX
       generalize wr.setCell ⟨g4,V,none⟩ (.int .i64 ((bd:Int)+1))=W1 at *
       have g:=aA aL.out z.out.bel
       have aV:=aK g B
       have c0:=(g.cell (p:=⟨be,oe+j * 2,none⟩) B).trans bj.out
       have c1:=(g.cell (p:=⟨be,oe+j * 2+1,none⟩) B).trans bh.out
       obtain ⟨-,-,y2,ly⟩:=jX (z.out.blk 4 rfl).1
       clear g
       by_cases hb:0<=b
       ·have db:decide (b≥0)=true:=decide_eq_true hb
        rw [if_pos hb] at u
        obtain ⟨Y,rfl⟩:=Int.eq_ofNat_of_zero_le hb
        have a4:Y<sn:=by omega
        obtain ⟨cY,fY,lY,aw⟩:=eD z.out 2 rfl a4
        have J:Hid (aJ H (W1.setCell ⟨g3,Y,none⟩ (.int .i64 (((cnt (K++bX (es.take j)) (Y:Int):Nat):Int)+1))) [.cel (aH (aG I (XB))) (.slice (some ⟨g1,0,none⟩) I I),.cel (aH (aG on (YB))) (.slice (some ⟨g2,0,none⟩) on on),.cel (aH (aG sn (K++bX (es.take (j+1))))) (.slice (some ⟨g3,0,none⟩) sn sn),.cel (aH (aG ln (R++av (es.take (j+1))))) (.slice (some ⟨g4,0,none⟩) ln ln),.blk wo.heap.size #[.int .i64 3,.int .i64 it,.slice (some ⟨be,oe,none⟩) G ec] 89]):=by
         show aJ H _ _
         rw [u,←List.append_assoc]
         exact aw
        clear aw u
        generalize cnt (K++bX (es.take j)) (Y:Int)=a3 at *
        have iY:(Y:Int)<(sn:Int):=by omega
        have bO:a3<=10000:=by omega
        clear ap am aC aE Q aT aS Z ad
        go_wp2_with fail
        go_roundw
        ·exact ⟨j+1,by omega,by go_num,J.out⟩
        simp [intOf];omega
       have db:decide (b≥0)=false:=decide_eq_false hb
       rw [if_neg hb,List.append_nil] at u
       have J:Hid (aJ H W1 [.cel (aH (aG I (XB))) (.slice (some ⟨g1,0,none⟩) I I),.cel (aH (aG on (YB))) (.slice (some ⟨g2,0,none⟩) on on),.cel (aH (aG sn (K++bX (es.take (j+1))))) (.slice (some ⟨g3,0,none⟩) sn sn),.cel (aH (aG ln (R++av (es.take (j+1))))) (.slice (some ⟨g4,0,none⟩) ln ln),.blk wo.heap.size #[.int .i64 3,.int .i64 it,.slice (some ⟨be,oe,none⟩) G ec] 89]):=by
        show aJ H _ _
        rw [u]
        exact z.out
       clear u ap am aC aE Q aT aS Z ad
       go_wp2_with fail
       go_roundw
       ·exact ⟨j+1,by omega,by go_num,J.out⟩
       simp [intOf];omega
      have da:decide (a≥0)=false:=decide_eq_false ha
      rw [if_neg ha,List.append_nil] at D
      have z:Hid (aJ H wr [.cel (aH (aG I (XB))) (.slice (some ⟨g1,0,none⟩) I I),.cel (aH (aG on (YB))) (.slice (some ⟨g2,0,none⟩) on on),.cel (aH (aG sn (K++bX (es.take j)))) (.slice (some ⟨g3,0,none⟩) sn sn),.cel (aH (aG ln (R++av (es.take (j+1))))) (.slice (some ⟨g4,0,none⟩) ln ln),.blk wo.heap.size #[.int .i64 3,.int .i64 it,.slice (some ⟨be,oe,none⟩) G ec] 89]):=by
       show aJ H _ _
       rw [D]
       exact af.out
      clear D
      go_upto_region 25 with fail
      clear c0 c1 y2 ly aV
      have g:=aA aL.out z.out.bel
      have aV:=aK g B
      have c0:=(g.cell (p:=⟨be,oe+j * 2,none⟩) B).trans bj.out
      have c1:=(g.cell (p:=⟨be,oe+j * 2+1,none⟩) B).trans bh.out
      obtain ⟨-,-,y2,ly⟩:=jX (z.out.blk 4 rfl).1
      clear g
      by_cases hb:0<=b
      ·have db:decide (b≥0)=true:=decide_eq_true hb
       rw [if_pos hb] at u
       obtain ⟨Y,rfl⟩:=Int.eq_ofNat_of_zero_le hb
       have a4:Y<sn:=by omega
       obtain ⟨cY,fY,lY,aw⟩:=eD z.out 2 rfl a4
       have J:Hid (aJ H (wr.setCell ⟨g3,Y,none⟩ (.int .i64 (((cnt (K++bX (es.take j)) (Y:Int):Nat):Int)+1))) [.cel (aH (aG I (XB))) (.slice (some ⟨g1,0,none⟩) I I),.cel (aH (aG on (YB))) (.slice (some ⟨g2,0,none⟩) on on),.cel (aH (aG sn (K++bX (es.take (j+1))))) (.slice (some ⟨g3,0,none⟩) sn sn),.cel (aH (aG ln (R++av (es.take (j+1))))) (.slice (some ⟨g4,0,none⟩) ln ln),.blk wo.heap.size #[.int .i64 3,.int .i64 it,.slice (some ⟨be,oe,none⟩) G ec] 89]):=by
        show aJ H _ _
        rw [u,←List.append_assoc]
        exact aw
       clear aw u
       generalize cnt (K++bX (es.take j)) (Y:Int)=a3 at *
       have iY:(Y:Int)<(sn:Int):=by omega
       have bO:a3<=10000:=by omega
       clear ap am aC aE Q aT aS Z ad
       go_wp2_with fail
       go_roundw
       ·exact ⟨j+1,by omega,by go_num,J.out⟩
       simp [intOf];omega
      have db:decide (b≥0)=false:=decide_eq_false hb
      rw [if_neg hb,List.append_nil] at u
      have J:Hid (aJ H wr [.cel (aH (aG I (XB))) (.slice (some ⟨g1,0,none⟩) I I),.cel (aH (aG on (YB))) (.slice (some ⟨g2,0,none⟩) on on),.cel (aH (aG sn (K++bX (es.take (j+1))))) (.slice (some ⟨g3,0,none⟩) sn sn),.cel (aH (aG ln (R++av (es.take (j+1))))) (.slice (some ⟨g4,0,none⟩) ln ln),.blk wo.heap.size #[.int .i64 3,.int .i64 it,.slice (some ⟨be,oe,none⟩) G ec] 89]):=by
       show aJ H _ _
       rw [u]
       exact z.out
      clear u ap am aC aE Q aT aS Z ad
      go_wp2_with fail
      go_roundw
      ·exact ⟨j+1,by omega,by go_num,J.out⟩
      simp [intOf];omega
     have bg:j=G:=by omega
     have bI:=dF (by omega:G<=j)
     have HD:Hid (aJ H wr [.cel (aH (aG I (XB))) (.slice (some ⟨g1,0,none⟩) I I),.cel (aH (aG on (YB))) (.slice (some ⟨g2,0,none⟩) on on),.cel (aH (aG sn (K++bX es))) (.slice (some ⟨g3,0,none⟩) sn sn),.cel (aH (aG ln (R++av es))) (.slice (some ⟨g4,0,none⟩) ln ln),.blk wo.heap.size #[.int .i64 3,.int .i64 it,.slice EA G ec] 89]):=by
      have h:=af.out
      show aJ H _ _
      rwa [bg,List.take_of_length_le (by rw [br.out];exact Nat.le_refl _)] at h
     clear af bg
     go_wp2_with fail
     go_roundw
     ·exact ⟨k+1,by omega,by go_num,by rw [bN.out,bS.out,bQ.out,bK.out];exact HD.out.sub (List.sublist_append_left _ [_]),b5.out⟩
     simp [intOf];omega
    rw [bJ aF]
    have HR:=Hd (bR.out aF)
    rintro _ w4 ⟨rfl,b4⟩
    have dK:=Hd (aA (aA aL.out HA.out.bel) b4)
    clear x0 x1 x2 x3 lx y0 y1 y2 ly c0 c1 c2 HG bR b4
    go_wp2_with fail
    go_ret
    exact ⟨aO HR.out,dK.out⟩
   have dl:k=bn:=by omega
   have dv:=dF (by omega:bn<=k)
   have bM:Hid (bs.take k=bs):=by show _=_;rw [dl];exact List.take_of_length_le (by rw [cn.out];exact Nat.le_refl _)
   rw [bM.out] at HS bw
   have dg:Hid ((∀q:Nat,q<I→(aG I (bA 0 bs))[q]?.getD 0=1)↔sJ l.inputs.toNat (bA 0 bs)):=by
    show _↔_
    rw [dJ.out]
    exact mD
   have dh:Hid ((∀q:Nat,q<on→(aG on (bA 1 bs))[q]?.getD 0=1)↔sJ l.outs.length (bA 1 bs)):=by
    show _↔_
    rw [dk.out]
    exact mD
   have dj:Hid ((∀q:Nat,q<sn→(aG sn (di bs))[q]?.getD 0=1)↔sJ l.seqs.length (di bs)):=by
    show _↔_
    rw [b2.out]
    exact mD
   have c8:Hid ((∀q:Nat,q<ln→(aG ln (eT bs))[q]?.getD 0=1)↔sJ l.luts.length (eT bs)):=by
    show _↔_
    rw [b7.out]
    exact mD
   have HU:Hid ((∀q:Nat,q<I+on+sn+ln→(aG I (bA 0 bs)++aG on (bA 1 bs)++aG sn (di bs)++aG ln (eT bs))[q]?.getD 0=1)↔fq l bs):=by
    show _↔_
    rw [Fy (lv ..) (lv ..) (lv ..) (lv ..),dg.out,dh.out,dj.out,c8.out]
    exact ⟨fun h=>⟨HF.out,by rw [cn.out];exact cC,bw.out,h.1.1.1,h.1.1.2,h.1.2,h.2⟩,fun h=>⟨⟨⟨h.ins,h.outs⟩,h.seqs⟩,h.luts⟩⟩
   clear dg dh dj c8 dl
   go_wp2_with (at_builtin;first
    | (refine lF rfl _ _ rfl _ cH.out 0 A6 (I+on+sn) c6 _ (some ⟨g4,0,none⟩) ln ln _ rfl rfl rfl (cH.out.ints 3 rfl) (by omega) ?_;intro A7 c7 w7 S7 _;have ct:=Hd S7;clear S7)
    | (refine lF rfl _ _ rfl _ bZ.out 0 A5 (I+on) c5 _ (some ⟨g3,0,none⟩) sn sn _ rfl rfl rfl (bZ.out.ints 2 rfl) (by omega) ?_;intro A6 c6 w6 S6 _;have cH:=Hd S6;clear S6)
    | (refine lF rfl _ _ rfl _ HS.out 0 (some ⟨g1,0,none⟩) I I _ (some ⟨g2,0,none⟩) on on _ rfl rfl rfl (HS.out.ints 1 rfl) (by omega) ?_;intro A5 c5 w5 S5 _;have bZ:=Hd S5;clear S5))
   have HO:=Hd (ct.out.ints 0 rfl)
   have cR:=Hd (aA aL.out ct.out.bel)
   clear HS bZ cH ct
   generalize hM:I+on+sn+ln=M at *
   have dV:M<=1099511627776:=by omega
   generalize dC:aG I (bA 0 bs)++aG on (bA 1 bs)++aG sn (di bs)++aG ln (eT bs)=U at *
   clear dC hM
   go_loopw [13] (fun i wr=>∃q:Nat,q<=M/\i = .int .i64 (q:Int)/\w7=wr/\∀j,j<q→U[j]?.getD 0=1) (fun i _=>M - (intOf i).toNat)
   ·exact ⟨0,by omega,rfl,rfl,fun j hj=>by omega⟩
   obtain ⟨q,hq,rfl,rfl,bx⟩:=hrel
   have cz:=Hd bx
   clear bx
   by_cases cm:q<M
   ·have ds:=dT (by omega:q<M)
    obtain ⟨bu,ou,cV,eh,cW⟩:=HO.out.2 (by omega)
    have cu:=cW q cm
    have dA:=Hd cV
    have HG:Hid (U[q]?.getD 0=1→∀j,j<q+1→U[j]?.getD 0=1):=fun h=>bW cz.out h
    have bR:Hid (U[q]?.getD 0≠1→¬fq l bs):=fun h h'=>h (HU.out.2 h' q cm)
    clear cW cV
    obtain rfl:=dA.out
    generalize U[q]?.getD 0=x at *
    obtain ⟨i0,i1⟩:=ib (by omega:q<M)
    by_cases hx:x=1
    ·have dx:(x != 1)=false:=by simp [hx]
     have b5:=Hd (HG.out hx)
     clear HG bR hx
     go_wp2_with fail
     go_roundw
     ·exact ⟨q+1,by omega,by go_num,by first|rfl|trivial,b5.out⟩
     simp [intOf];omega
    have dx:(x != 1)=true:=by simp [hx]
    have HR:=Hd (bR.out hx)
    clear HG bR hx
    go_wp2_with fail
    go_ret
    exact ⟨aO HR.out,cR.out⟩
   have c9:q=M:=by omega
   have ds:=dF (by omega:M<=q)
   have HR:Hid (fq l bs):=HU.out.1 (by rw [←c9];exact cz.out)
   clear cz c9
   go_wp2_with fail
   go_ret
   exact ⟨dU HR.out,cR.out⟩
  have dz:decide ((64:Int)<(bn:Int))=true:=decide_eq_true (by omega)
  have de:decide ((bn:Int)>64)=true:=decide_eq_true (by omega)
  have HR:Hid (¬fq l bs):=fun h=>cC (by rw [←cy];exact h.len)
  go_enter Tryz.func35,Tryz.ntmps35
  go_upto_region 1 with fail
  generalize w.alloc (.cells (ai l SA LA OA sn sc ln lc on oc) 41)=W0 at *
  obtain ⟨x0,x1,x2,x3,lx⟩:=cO ce.out
  go_wp2_with fail
  refine (dQ l SA LA OA sn sc ln lc on oc _ (HN.out.below b6.out)).mono ?_
  rw [ae hf]
  rintro _ w1 ⟨rfl,b1⟩
  have aL:=Hd (aA b6.out b1)
  clear b1 x0 x1 x2 x3 lx hf cC
  go_wp2_with fail
  go_ret
  exact ⟨aO HR.out,aL.out⟩
 have HR:Hid (¬fq l bs):=fun h=>hf h.net
 go_enter Tryz.func35,Tryz.ntmps35
 go_upto_region 1 with fail
 generalize w.alloc (.cells (ai l SA LA OA sn sc ln lc on oc) 41)=W0 at *
 obtain ⟨x0,x1,x2,x3,lx⟩:=cO ce.out
 go_wp2_with fail
 refine (dQ l SA LA OA sn sc ln lc on oc _ (HN.out.below b6.out)).mono ?_
 rw [bJ hf]
 rintro _ w1 ⟨rfl,b1⟩
 have aL:=Hd (aA b6.out b1)
 clear b1 x0 x1 x2 x3 lx hf
 go_wp2_with fail
 go_ret
 exact ⟨aO HR.out,aL.out⟩
end Go.Proofs.YtofihjoanjkdmaaGreat
