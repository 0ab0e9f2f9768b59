/- The reference's test of blocks (printed by mkpks.py). -/
import Derived.Test.YtofihjoanjkdmaaGreatLayF6
import Derived.Test.YtofihjoanjkdmaaGreatLayS15
namespace Go.Proofs.YtofihjoanjkdmaaGreat
set_option maxHeartbeats 4000000
set_option maxRecDepth 100000
open Go.RowKit
theorem EM {a b:List Int} {n m:Nat} (j:a.length=n) (g:b.length=m):(∀q:Nat,q<n+m→(a++b)[q]?.getD 0=1)↔(∀q:Nat,q<n→a[q]?.getD 0=1)/\∀q:Nat,q<m→b[q]?.getD 0=1:=by
 subst j g
 refine ⟨fun h=>⟨fun q hq=>?_,fun q hq=>?_⟩,fun h q hq=>?_⟩
 ·have:=h q (by omega)
  rwa [List.getElem?_append_left hq] at this
 ·have:=h (a.length+q) (by omega)
  rwa [List.getElem?_append_right (by omega),Nat.add_sub_cancel_left] at this
 rcases Nat.lt_or_ge q a.length with h1|h1
 ·rw [List.getElem?_append_left h1];exact h.1 q h1
 rw [List.getElem?_append_right h1];exact h.2 _ (by omega)
theorem Fy {a b c d:List Int} {n m p q:Nat} (u:a.length=n) (g:b.length=m) (hc:c.length=p) (z:d.length=q):(∀j:Nat,j<n+m+p+q→(a++b++c++d)[j]?.getD 0=1) ↔
  (((∀j:Nat,j<n→a[j]?.getD 0=1)/\∀j:Nat,j<m→b[j]?.getD 0=1)/\∀j:Nat,j<p→c[j]?.getD 0=1)/\∀j:Nat,j<q→d[j]?.getD 0=1:=by
 have h1:(a++b).length=n+m:=by rw [List.length_append,u,g]
 have h2:(a++b++c).length=n+m+p:=by rw [List.length_append,h1,hc]
 rw [EM h2 z,EM h1 hc,EM u g]
theorem kS (l:ag) (SA LA OA:Option Addr) (sn sc ln lc on oc:Nat) (bs:List Blk) (BA:Option Addr) (bn bc:Nat) (w:World) (h:fU w l SA LA OA sn sc ln lc on oc) (hB:RdC w w.heap.size (aa bs) (.slice BA bn bc)) (cQ:∀b∈bs,b.les.length<=1048576) :
  Calls Tryz.prog 35 #[jE l SA LA OA sn sc ln lc on oc,.slice BA bn bc] w fun e w'=>e = .returned (.bool (tb (fq l bs)))/\Below w.heap.size w w':=by
 have b3:=Hd (aB (Below.refl w.heap.size w) (.cells (ai l SA LA OA sn sc ln lc on oc) 41))
 have cj:=Hd (aI w (.cells (ai l SA LA OA sn sc ln lc on oc) 41))
 have cq:=hB.blkN
 obtain ⟨ct,dw,HB,HN⟩:=hd4 cq cQ hB h
 clear hB cQ
 obtain ⟨cp,cn,cD⟩:=h.lens
 obtain ⟨b2,b8,cT⟩:=hd3 cp cn cD
 clear h
 by_cases hf:az l
 ·by_cases cH:bn<=64
  ·have dJ:decide ((64:Int)<(bn:Int))=false:=decide_eq_false (by omega)
   have cW:decide ((bn:Int)>64)=false:=decide_eq_false (by omega)
   have du:=hf.nseq
   have dS:=hf.nlut
   have dr:=hf.nout
   have ek:=hf.inp
   rw [cp] at du
   rw [cn] at dS
   rw [cD] at dr
   have HF:=Hd hf
   obtain ⟨I,hI⟩:∃I:Nat,l.inputs=(I:Int):=⟨l.inputs.toNat,by omega⟩
   have dy:Hid (l.inputs.toNat=I):=by show _=_;omega
   have cw:=Hd hI
   have dW:I<=20:=by omega
   obtain ⟨i0,hi,c8,dj,c9⟩:=info_parts jL
   have mk:=fun (n:Nat) (hn:n<=1048576) W=>bv (P:=Tryz.prog) 26 3 i0 _ Tryz.underlying26 hi c8 .i64 .i64 n n (Nat.le_refl _) (by rw [c9];omega) (by omega) W
   rw [dj] at mk
   simp only [Nat.mul_one,show (Value.int .i64 0).cells=#[Value.int .i64 0] from rfl,nu] at mk
   have dl:=mk I (by omega)
   have dG:=mk on (by omega)
   have dp:=mk sn (by omega)
   have mkL:=mk ln (by omega)
   rw [←hI] at dl
   clear mk hi c8 dj c9 cp cn cD hI cq
   go_enter Tryz.func35,Tryz.ntmps35
   go_upto_region 1 with fail
   generalize w.alloc (.cells (ai l SA LA OA sn sc ln lc on oc) 41)=W0 at *
   obtain ⟨x0,x1,x2,x3,lx⟩:=cO cj.out
   go_wp2_with fail
   refine (dQ l SA LA OA sn sc ln lc on oc _ (HN.out.below b3.out)).mono ?_
   rw [ae hf]
   rintro _ w1 ⟨rfl,b1⟩
   have aM:=Hd (aA b3.out b1)
   have ca:=Hd (aD b1 cj.out)
   clear b1 x0 x1 x2 x3 lx hf
   obtain ⟨x0,x1,x2,x3,lx⟩:=cO ca.out
   obtain ⟨H,rfl⟩:∃x,x=w1:=⟨w1,rfl⟩
   have cU:=Hd (aJ.refl H)
   go_upto_region 4 with fail
   have s1:=Aw cU.out I (by omega)
   clear x0 x1 x2 x3 lx
   generalize H.alloc (.cells (arr (List.replicate I 0)) 3)=m1 at s1 ⊢
   generalize H.heap.size=g1 at s1 ⊢
   have cz:=Hd s1
   clear s1 dl
   obtain ⟨x0,x1,x2,x3,lx⟩:=cO (aD cz.out.bel ca.out)
   go_upto_region 5 with fail
   have s1:=Aw cz.out on (by omega)
   clear x0 x1 x2 x3 lx
   generalize m1.alloc (.cells (arr (List.replicate on 0)) 3)=m2 at s1 ⊢
   generalize m1.heap.size=g2 at s1 ⊢
   have cx:=Hd s1
   clear s1 dG
   obtain ⟨x0,x1,x2,x3,lx⟩:=cO (aD cx.out.bel ca.out)
   go_upto_region 6 with fail
   have s1:=Aw cx.out sn (by omega)
   clear x0 x1 x2 x3 lx
   generalize m2.alloc (.cells (arr (List.replicate sn 0)) 3)=m3 at s1 ⊢
   generalize m2.heap.size=g3 at s1 ⊢
   have a8:=Hd s1
   clear s1 dp
   obtain ⟨x0,x1,x2,x3,lx⟩:=cO (aD a8.out.bel ca.out)
   go_upto_region 7 with fail
   have s1:=Aw a8.out ln (by omega)
   clear x0 x1 x2 x3 lx
   generalize m3.alloc (.cells (arr (List.replicate ln 0)) 3)=m4 at s1 ⊢
   generalize m3.heap.size=g4 at s1 ⊢
   have bY:=Hd s1
   clear s1 mkL
   have dq:Hid (aJ H m4 [.cel (aH (aG I (bA 0 []))) (.slice (some ⟨g1,0,none⟩) I I),.cel (aH (aG on (bA 1 []))) (.slice (some ⟨g2,0,none⟩) on on),.cel (aH (aG sn (di []))) (.slice (some ⟨g3,0,none⟩) sn sn),.cel (aH (aG ln (eT []))) (.slice (some ⟨g4,0,none⟩) ln ln)]):=bY.out
   clear cU cz cx a8 bY
   go_wp2_with fail
   go_loopw [9] (fun i wr=>∃k:Nat,k<=bn/\i = .int .i64 (k:Int)/\aJ H wr [.cel (aH (aG I (bA 0 (bs.take k)))) (.slice (some ⟨g1,0,none⟩) I I),.cel (aH (aG on (bA 1 (bs.take k)))) (.slice (some ⟨g2,0,none⟩) on on),.cel (aH (aG sn (di (bs.take k)))) (.slice (some ⟨g3,0,none⟩) sn sn),.cel (aH (aG ln (eT (bs.take k)))) (.slice (some ⟨g4,0,none⟩) ln ln)]/\∀b∈bs.take k,dM l b) (fun i _=>bn - (intOf i).toNat)
   ·exact ⟨0,by omega,rfl,by rw [List.take_zero];exact dq.out,by simp⟩
   obtain ⟨k,hk,rfl,hs,bx⟩:=hrel
   obtain ⟨HS,bw⟩:=hd2 hs bx
   clear hs bx
   by_cases dR:k<bn
   ·have dO:=dT (by omega:k<bn)
    have bN:k<bs.length:=by rw [ct.out];exact dR
    obtain ⟨bb,ob,EA,G,ec,dH,ce,c0,c1,c2,r2⟩:=HB.out.blk (k:=k) bN
    have g:=aA aM.out HS.out.bel
    have ei:=aK g ce
    rw [←g.cell (p:=⟨bb,ob+k * 3,none⟩) ce] at c0
    rw [←g.cell (p:=⟨bb,ob+k * 3+1,none⟩) ce] at c1
    rw [←g.cell (p:=⟨bb,ob+k * 3+2,none⟩) ce] at c2
    have bR:=Hd (mr bN)
    have bV:=dw.out _ (List.getElem_mem bN)
    have hg:dM l (bs[k]?.getD Blk.zero)→∀b∈bs.take (k+1),dM l b:=fun h b hb=>by
     rw [bR.out,List.mem_append,List.mem_singleton] at hb
     rcases hb with hb|rfl
     ·exact bw.out b hb
     exact h
    have dd:¬dM l (bs[k]?.getD Blk.zero)→¬fq l bs:=fun h h'=>h (by rw [List.getElem?_eq_getElem bN];exact h'.fit _ (List.getElem_mem bN))
    obtain ⟨HG,bP⟩:=hd2 hg dd
    have bl:Hid ((di (bs.take k)).length<=192):=by
     show _<=_
     have h1:=ww bw.out
     rw [List.length_take] at h1
     have h2:min k bs.length * 3<=64 * 3:=Nat.mul_le_mul_right 3 (by omega)
     omega
    have bT:Hid ((eT (bs.take k)).length<=128):=by
     show _<=_
     have h1:=xA bw.out
     rw [List.length_take] at h1
     have h2:min k bs.length * 2<=64 * 2:=Nat.mul_le_mul_right 2 (by omega)
     omega
    rw [show bs[k]=bs[k]?.getD Blk.zero by rw [List.getElem?_eq_getElem bN];rfl] at bV
    clear bN hg dd
    generalize bs[k]?.getD Blk.zero=b at *
    obtain ⟨kd,it,es⟩:=b
    simp only at c0 c1 bV
    have HE:=Hd (show RdC w w.heap.size (cZ es) (.slice EA G ec) from r2)
    have br:Hid (es.length=G):=HE.out.esN
    have dN:G<=1048576:=by rw [←br.out];exact bV
    clear r2 bV
    subst dH
    obtain ⟨i0,i1⟩:=ib (by omega:k<bn)
    obtain ⟨wo,rfl⟩:∃x,x=wr:=⟨wr,rfl⟩
    have HA:=Hd (HS.out.pushBlk #[.int .i64 kd,.int .i64 it,.slice EA G ec] 89)
    have hx:=aD HA.out.bel ca.out
    obtain ⟨x0,x1,x2,x3,lx⟩:=cO hx
    obtain ⟨y0,y1,y2,ly⟩:=jX (HA.out.blk 4 rfl).1
    clear hx g
    go_wp2_with fail
    refine (yE l SA LA OA sn sc ln lc on oc kd it es EA G ec _ (HN.out.below (aA aM.out HA.out.bel)) HF.out (HE.out.below (aA aM.out HA.out.bel)) dN).mono ?_
    by_cases aF:dM l ⟨kd,it,es⟩
    ·rw [ae aF]
     have b6:=Hd (HG.out aF)
     have cg:=Hd (nU aF)
     have cd:Hid (G<=2):=by show _<=_;rw [←br.out];exact lT aF
     rintro _ w4 ⟨rfl,b4⟩
     have a8:=Hd (HA.out.below b4)
     clear x0 x1 x2 x3 lx y0 y1 y2 ly c0 c1 c2 HG bP
     rcases iL aF.1 with dt|dK|dz|dC
     ·subst dt
      have ch:=oZ.1 aF.1
      obtain ⟨X,rfl⟩:∃X:Nat,it=(X:Int):=⟨it.toNat,by omega⟩
      have hX:X<I:=by have:=cw.out;omega
      have ax:=dX 0 (bs.take k) ⟨0,(X:Int),es⟩
      have am:=dX 1 (bs.take k) ⟨0,(X:Int),es⟩
      have ar:=ja (bs.take k) ⟨0,(X:Int),es⟩
      have aC:=jZ (bs.take k) ⟨0,(X:Int),es⟩
      rw [←bR.out] at ax am ar aC
      simp only [if_true,if_false,List.append_nil,Int.reduceEq] at ax am ar aC
      have aZ:=eO 0 (bs.take k)
      have a0:=eO 1 (bs.take k)
      rw [List.length_take] at aZ a0
      obtain ⟨cX,fX,lX,aP⟩:=eD a8.out 0 rfl hX
      have b7:=fC (bA 0 (bs.take k)) (X:Int)
      have bd:Hid (aJ H (w4.setCell ⟨g1,X,none⟩ (.int .i64 (((cnt (bA 0 (bs.take k)) (X:Int):Nat):Int)+1))) [.cel (aH (aG I (bA 0 (bs.take k)++[(X:Int)]))) (.slice (some ⟨g1,0,none⟩) I I),.cel (aH (aG on (bA 1 (bs.take k)))) (.slice (some ⟨g2,0,none⟩) on on),.cel (aH (aG sn (di (bs.take k)))) (.slice (some ⟨g3,0,none⟩) sn sn),.cel (aH (aG ln (eT (bs.take k)))) (.slice (some ⟨g4,0,none⟩) ln ln),.blk wo.heap.size #[.int .i64 0,.int .i64 (X:Int),.slice EA G ec] 89]):=aP
      clear aP
      have bk:Hid ((di (bs.take k)).length<=1000):=by show _<=_;have:=bl.out;(try rw [List.length_append,List.length_singleton]);omega
      have bg:Hid ((eT (bs.take k)).length<=1000):=by show _<=_;have:=bT.out;omega
      obtain ⟨XB,a6⟩:∃XB,bA 0 (bs.take k)++[(X:Int)]=XB:=⟨_,rfl⟩
      obtain ⟨YB,a1⟩:∃YB,bA 1 (bs.take k)=YB:=⟨_,rfl⟩
      obtain ⟨J,a2⟩:∃J,di (bs.take k)=J:=⟨_,rfl⟩
      obtain ⟨R,a5⟩:∃R,eT (bs.take k)=R:=⟨_,rfl⟩
      rw [a6,a1,a2,a5] at bd
      rw [a6] at ax
      rw [a1] at am
      rw [a2] at ar bk
      rw [a5] at aC bg
      obtain ⟨bF,bI,bK,bL⟩:=hd4 ax am ar aC
      clear ax am ar aC a6 a1 a2 a5
      generalize cnt (bA 0 (bs.take k)) (X:Int)=q at *
      have iq:q<=10000:=by have:=bl.out;omega
      have iX:(X:Int)<(I:Int):=by omega
      clear b7
      obtain ⟨y0,y1,ly⟩:=jv (a8.out.blk 4 rfl).1
      clear b4 aZ a0 aF
      go_upto_region 20 with fail
      clear y0 y1 ly cX fX lX
      go_wp2_with fail
      go_loopw [11] (fun i wr=>∃j:Nat,j<=G/\i = .int .i64 (j:Int)/\aJ H wr [.cel (aH (aG I (XB))) (.slice (some ⟨g1,0,none⟩) I I),.cel (aH (aG on (YB))) (.slice (some ⟨g2,0,none⟩) on on),.cel (aH (aG sn (J++bX (es.take j)))) (.slice (some ⟨g3,0,none⟩) sn sn),.cel (aH (aG ln (R++av (es.take j)))) (.slice (some ⟨g4,0,none⟩) ln ln),.blk wo.heap.size #[.int .i64 0,.int .i64 (X:Int),.slice EA G ec] 89]) (fun i _=>G - (intOf i).toNat)
      ·exact ⟨0,by omega,rfl,by rw [List.take_zero];simpa [bX,av] using bd.out⟩
      obtain ⟨j,hj,rfl,hs⟩:=hrel
      have af:=Hd hs
      clear hs
      obtain ⟨-,-,y2,ly⟩:=jX (af.out.blk 4 rfl).1
      by_cases bp:j<G
      ·have bH:=dT (by omega:j<G)
       have aq:j<es.length:=by rw [br.out];exact bp
       obtain ⟨be,oe,a9,B,c0,c1⟩:=HE.out.es (k:=j) aq
       have bS:=Hd a9
       have aV:=cg.out _ (List.getElem_mem aq)
       have u:=kN (es.take j) (es[j]?.getD LeT.zero)
       have D:=jY (es.take j) (es[j]?.getD LeT.zero)
       rw [←bU aq] at u D
       have ap:=kz (es.take j)
       have aw:=jh (es.take j)
       rw [List.length_take] at ap aw
       rw [show es[j]=es[j]?.getD LeT.zero by rw [List.getElem?_eq_getElem aq];rfl] at aV
       have ad:=aV.lut.2
       have Z:=aV.ff.2
       rw [b8.out] at ad
       rw [b2.out] at Z
       have Q:=cd.out
       have aS:=bk.out
       have aT:=bg.out
       clear aV aq a9
       generalize es[j]?.getD LeT.zero=e at *
       obtain ⟨a,b⟩:=e
       simp only at ad Z u D c0 c1
       obtain ⟨i0,i1⟩:=ib (by omega:j<G)
       have ay:=fC (J++bX (es.take j)) b
       have au:=fC (R++av (es.take j)) a
       rw [List.length_append] at ay au
       obtain ⟨bo,bm⟩:=hd2 c0 c1
       have g:=aA aM.out af.out.bel
       have aW:=aK g B
       rw [←g.cell (p:=⟨be,oe+j * 2,none⟩) B] at c0
       rw [←g.cell (p:=⟨be,oe+j * 2+1,none⟩) B] at c1
       clear g
       obtain rfl:=bS.out
       by_cases ha:0<=a
       ·have da:decide (a≥0)=true:=decide_eq_true ha
        rw [if_pos ha] at D
        obtain ⟨V,rfl⟩:=Int.eq_ofNat_of_zero_le ha
        have bG:V<ln:=by omega
        obtain ⟨cX,fX,lX,aP⟩:=eD af.out 3 rfl bG
        have z:Hid (aJ H (wr.setCell ⟨g4,V,none⟩ (.int .i64 (((cnt (R++av (es.take j)) (V:Int):Nat):Int)+1))) [.cel (aH (aG I (XB))) (.slice (some ⟨g1,0,none⟩) I I),.cel (aH (aG on (YB))) (.slice (some ⟨g2,0,none⟩) on on),.cel (aH (aG sn (J++bX (es.take j)))) (.slice (some ⟨g3,0,none⟩) sn sn),.cel (aH (aG ln (R++av (es.take (j+1))))) (.slice (some ⟨g4,0,none⟩) ln ln),.blk wo.heap.size #[.int .i64 0,.int .i64 (X:Int),.slice (some ⟨be,oe,none⟩) G ec] 89]):=by
         show aJ H _ _
         rw [D,←List.append_assoc]
         exact aP
        clear aP D
        generalize cnt (R++av (es.take j)) (V:Int)=bj at *
        have iX:(V:Int)<(ln:Int):=by omega
        have cy:bj<=10000:=by omega
        go_upto_region 25 with fail
        clear c0 c1 y2 ly aW cX fX lX
        generalize wr.setCell ⟨g4,V,none⟩ (.int .i64 ((bj:Int)+1))=W1 at *
        have g:=aA aM.out z.out.bel
        have aW:=aK g B
        have c0:=(g.cell (p:=⟨be,oe+j * 2,none⟩) B).trans bo.out
        have c1:=(g.cell (p:=⟨be,oe+j * 2+1,none⟩) B).trans bm.out
        obtain ⟨-,-,y2,ly⟩:=jX (z.out.blk 4 rfl).1
        clear g
        by_cases hb:0<=b
        ·have db:decide (b≥0)=true:=decide_eq_true hb
         rw [if_pos hb] at u
         obtain ⟨Y,rfl⟩:=Int.eq_ofNat_of_zero_le hb
         have a4:Y<sn:=by omega
         obtain ⟨cY,fY,lY,aE⟩:=eD z.out 2 rfl a4
         have K:Hid (aJ H (W1.setCell ⟨g3,Y,none⟩ (.int .i64 (((cnt (J++bX (es.take j)) (Y:Int):Nat):Int)+1))) [.cel (aH (aG I (XB))) (.slice (some ⟨g1,0,none⟩) I I),.cel (aH (aG on (YB))) (.slice (some ⟨g2,0,none⟩) on on),.cel (aH (aG sn (J++bX (es.take (j+1))))) (.slice (some ⟨g3,0,none⟩) sn sn),.cel (aH (aG ln (R++av (es.take (j+1))))) (.slice (some ⟨g4,0,none⟩) ln ln),.blk wo.heap.size #[.int .i64 0,.int .i64 (X:Int),.slice (some ⟨be,oe,none⟩) G ec] 89]):=by
          show aJ H _ _
          rw [u,←List.append_assoc]
          exact aE
         clear aE u
         generalize cnt (J++bX (es.take j)) (Y:Int)=a3 at *
         have iY:(Y:Int)<(sn:Int):=by omega
         have bQ:a3<=10000:=by omega
         clear ay au ap aw Q aS aT ad Z
         go_wp2_with fail
         go_roundw
         ·exact ⟨j+1,by omega,by go_num,K.out⟩
         simp [intOf];omega
        have db:decide (b≥0)=false:=decide_eq_false hb
        rw [if_neg hb,List.append_nil] at u
        have K:Hid (aJ H W1 [.cel (aH (aG I (XB))) (.slice (some ⟨g1,0,none⟩) I I),.cel (aH (aG on (YB))) (.slice (some ⟨g2,0,none⟩) on on),.cel (aH (aG sn (J++bX (es.take (j+1))))) (.slice (some ⟨g3,0,none⟩) sn sn),.cel (aH (aG ln (R++av (es.take (j+1))))) (.slice (some ⟨g4,0,none⟩) ln ln),.blk wo.heap.size #[.int .i64 0,.int .i64 (X:Int),.slice (some ⟨be,oe,none⟩) G ec] 89]):=by
         show aJ H _ _
         rw [u]
         exact z.out
        clear u ay au ap aw Q aS aT ad Z
        go_wp2_with fail
        go_roundw
        ·exact ⟨j+1,by omega,by go_num,K.out⟩
        simp [intOf];omega
       have da:decide (a≥0)=false:=decide_eq_false ha
       rw [if_neg ha,List.append_nil] at D
       have z:Hid (aJ H wr [.cel (aH (aG I (XB))) (.slice (some ⟨g1,0,none⟩) I I),.cel (aH (aG on (YB))) (.slice (some ⟨g2,0,none⟩) on on),.cel (aH (aG sn (J++bX (es.take j)))) (.slice (some ⟨g3,0,none⟩) sn sn),.cel (aH (aG ln (R++av (es.take (j+1))))) (.slice (some ⟨g4,0,none⟩) ln ln),.blk wo.heap.size #[.int .i64 0,.int .i64 (X:Int),.slice (some ⟨be,oe,none⟩) G ec] 89]):=by
        show aJ H _ _
        rw [D]
        exact af.out
       clear D
       go_upto_region 25 with fail
       clear c0 c1 y2 ly aW
       have g:=aA aM.out z.out.bel
       have aW:=aK g B
       have c0:=(g.cell (p:=⟨be,oe+j * 2,none⟩) B).trans bo.out
       have c1:=(g.cell (p:=⟨be,oe+j * 2+1,none⟩) B).trans bm.out
       obtain ⟨-,-,y2,ly⟩:=jX (z.out.blk 4 rfl).1
       clear g
       by_cases hb:0<=b
       ·have db:decide (b≥0)=true:=decide_eq_true hb
        rw [if_pos hb] at u
        obtain ⟨Y,rfl⟩:=Int.eq_ofNat_of_zero_le hb
        have a4:Y<sn:=by omega
        obtain ⟨cY,fY,lY,aE⟩:=eD z.out 2 rfl a4
        have K:Hid (aJ H (wr.setCell ⟨g3,Y,none⟩ (.int .i64 (((cnt (J++bX (es.take j)) (Y:Int):Nat):Int)+1))) [.cel (aH (aG I (XB))) (.slice (some ⟨g1,0,none⟩) I I),.cel (aH (aG on (YB))) (.slice (some ⟨g2,0,none⟩) on on),.cel (aH (aG sn (J++bX (es.take (j+1))))) (.slice (some ⟨g3,0,none⟩) sn sn),.cel (aH (aG ln (R++av (es.take (j+1))))) (.slice (some ⟨g4,0,none⟩) ln ln),.blk wo.heap.size #[.int .i64 0,.int .i64 (X:Int),.slice (some ⟨be,oe,none⟩) G ec] 89]):=by
         show aJ H _ _
         rw [u,←List.append_assoc]
         exact aE
        clear aE u
        generalize cnt (J++bX (es.take j)) (Y:Int)=a3 at *
        have iY:(Y:Int)<(sn:Int):=by omega
        have bQ:a3<=10000:=by omega
        clear ay au ap aw Q aS aT ad Z
        go_wp2_with fail
        go_roundw
        ·exact ⟨j+1,by omega,by go_num,K.out⟩
        simp [intOf];omega
       have db:decide (b≥0)=false:=decide_eq_false hb
       rw [if_neg hb,List.append_nil] at u
       have K:Hid (aJ H wr [.cel (aH (aG I (XB))) (.slice (some ⟨g1,0,none⟩) I I),.cel (aH (aG on (YB))) (.slice (some ⟨g2,0,none⟩) on on),.cel (aH (aG sn (J++bX (es.take (j+1))))) (.slice (some ⟨g3,0,none⟩) sn sn),.cel (aH (aG ln (R++av (es.take (j+1))))) (.slice (some ⟨g4,0,none⟩) ln ln),.blk wo.heap.size #[.int .i64 0,.int .i64 (X:Int),.slice (some ⟨be,oe,none⟩) G ec] 89]):=by
        show aJ H _ _
        rw [u]
        exact z.out
       clear u ay au ap aw Q aS aT ad Z
       go_wp2_with fail
       go_roundw
       ·exact ⟨j+1,by omega,by go_num,K.out⟩
       simp [intOf];omega
      have bf:j=G:=by omega
      have bH:=dF (by omega:G<=j)
      have HD:Hid (aJ H wr [.cel (aH (aG I (XB))) (.slice (some ⟨g1,0,none⟩) I I),.cel (aH (aG on (YB))) (.slice (some ⟨g2,0,none⟩) on on),.cel (aH (aG sn (J++bX es))) (.slice (some ⟨g3,0,none⟩) sn sn),.cel (aH (aG ln (R++av es))) (.slice (some ⟨g4,0,none⟩) ln ln),.blk wo.heap.size #[.int .i64 0,.int .i64 (X:Int),.slice EA G ec] 89]):=by
       have h:=af.out
       show aJ H _ _
       rwa [bf,List.take_of_length_le (by rw [br.out];exact Nat.le_refl _)] at h
      clear af bf
      go_wp2_with fail
      go_roundw
      ·exact ⟨k+1,by omega,by go_num,by rw [bF.out,bI.out,bK.out,bL.out];exact HD.out.sub (List.sublist_append_left _ [_]),b6.out⟩
      simp [intOf];omega
     ·subst dK
      have ch:=og.1 aF.1
      rw [cT.out] at ch
      obtain ⟨X,rfl⟩:∃X:Nat,it=(X:Int):=⟨it.toNat,by omega⟩
      have hX:X<on:=by have:=cw.out;omega
      have ax:=dX 0 (bs.take k) ⟨1,(X:Int),es⟩
      have am:=dX 1 (bs.take k) ⟨1,(X:Int),es⟩
      have ar:=ja (bs.take k) ⟨1,(X:Int),es⟩
      have aC:=jZ (bs.take k) ⟨1,(X:Int),es⟩
      rw [←bR.out] at ax am ar aC
      simp only [Int.reduceEq,reduceIte,List.append_nil] at ax am ar aC
      have aZ:=eO 0 (bs.take k)
      have a0:=eO 1 (bs.take k)
      rw [List.length_take] at aZ a0
      obtain ⟨cX,fX,lX,aP⟩:=eD a8.out 1 rfl hX
      have b7:=fC (bA 1 (bs.take k)) (X:Int)
      have bd:Hid (aJ H (w4.setCell ⟨g2,X,none⟩ (.int .i64 (((cnt (bA 1 (bs.take k)) (X:Int):Nat):Int)+1))) [.cel (aH (aG I (bA 0 (bs.take k)))) (.slice (some ⟨g1,0,none⟩) I I),.cel (aH (aG on (bA 1 (bs.take k)++[(X:Int)]))) (.slice (some ⟨g2,0,none⟩) on on),.cel (aH (aG sn (di (bs.take k)))) (.slice (some ⟨g3,0,none⟩) sn sn),.cel (aH (aG ln (eT (bs.take k)))) (.slice (some ⟨g4,0,none⟩) ln ln),.blk wo.heap.size #[.int .i64 1,.int .i64 (X:Int),.slice EA G ec] 89]):=aP
      clear aP
      have bk:Hid ((di (bs.take k)).length<=1000):=by show _<=_;have:=bl.out;(try rw [List.length_append,List.length_singleton]);omega
      have bg:Hid ((eT (bs.take k)).length<=1000):=by show _<=_;have:=bT.out;omega
      obtain ⟨XB,a6⟩:∃XB,bA 0 (bs.take k)=XB:=⟨_,rfl⟩
      obtain ⟨YB,a1⟩:∃YB,bA 1 (bs.take k)++[(X:Int)]=YB:=⟨_,rfl⟩
      obtain ⟨J,a2⟩:∃J,di (bs.take k)=J:=⟨_,rfl⟩
      obtain ⟨R,a5⟩:∃R,eT (bs.take k)=R:=⟨_,rfl⟩
      rw [a6,a1,a2,a5] at bd
      rw [a6] at ax
      rw [a1] at am
      rw [a2] at ar bk
      rw [a5] at aC bg
      obtain ⟨bF,bI,bK,bL⟩:=hd4 ax am ar aC
      clear ax am ar aC a6 a1 a2 a5
      generalize cnt (bA 1 (bs.take k)) (X:Int)=q at *
      have iq:q<=10000:=by have:=bl.out;omega
      have iX:(X:Int)<(on:Int):=by omega
      clear b7
      obtain ⟨y0,y1,ly⟩:=jv (a8.out.blk 4 rfl).1
      clear b4 aZ a0 aF
      go_upto_region 20 with fail
      clear y0 y1 ly cX fX lX
      go_wp2_with fail
      go_loopw [11] (fun i wr=>∃j:Nat,j<=G/\i = .int .i64 (j:Int)/\aJ H wr [.cel (aH (aG I (XB))) (.slice (some ⟨g1,0,none⟩) I I),.cel (aH (aG on (YB))) (.slice (some ⟨g2,0,none⟩) on on),.cel (aH (aG sn (J++bX (es.take j)))) (.slice (some ⟨g3,0,none⟩) sn sn),.cel (aH (aG ln (R++av (es.take j)))) (.slice (some ⟨g4,0,none⟩) ln ln),.blk wo.heap.size #[.int .i64 1,.int .i64 (X:Int),.slice EA G ec] 89]) (fun i _=>G - (intOf i).toNat)
      ·exact ⟨0,by omega,rfl,by rw [List.take_zero];simpa [bX,av] using bd.out⟩
      obtain ⟨j,hj,rfl,hs⟩:=hrel
      have af:=Hd hs
      clear hs
      obtain ⟨-,-,y2,ly⟩:=jX (af.out.blk 4 rfl).1
      by_cases bp:j<G
      ·have bH:=dT (by omega:j<G)
       have aq:j<es.length:=by rw [br.out];exact bp
       obtain ⟨be,oe,a9,B,c0,c1⟩:=HE.out.es (k:=j) aq
       have bS:=Hd a9
       have aV:=cg.out _ (List.getElem_mem aq)
       have u:=kN (es.take j) (es[j]?.getD LeT.zero)
       have D:=jY (es.take j) (es[j]?.getD LeT.zero)
       rw [←bU aq] at u D
       have ap:=kz (es.take j)
       have aw:=jh (es.take j)
       rw [List.length_take] at ap aw
       rw [show es[j]=es[j]?.getD LeT.zero by rw [List.getElem?_eq_getElem aq];rfl] at aV
       have ad:=aV.lut.2
       have Z:=aV.ff.2
       rw [b8.out] at ad
       rw [b2.out] at Z
       have Q:=cd.out
       have aS:=bk.out
       have aT:=bg.out
       clear aV aq a9
       generalize es[j]?.getD LeT.zero=e at *
       obtain ⟨a,b⟩:=e
       simp only at ad Z u D c0 c1
       obtain ⟨i0,i1⟩:=ib (by omega:j<G)
       have ay:=fC (J++bX (es.take j)) b
       have au:=fC (R++av (es.take j)) a
       rw [List.length_append] at ay au
       obtain ⟨bo,bm⟩:=hd2 c0 c1
       have g:=aA aM.out af.out.bel
       have aW:=aK g B
       rw [←g.cell (p:=⟨be,oe+j * 2,none⟩) B] at c0
       rw [←g.cell (p:=⟨be,oe+j * 2+1,none⟩) B] at c1
       clear g
       obtain rfl:=bS.out
       by_cases ha:0<=a
       ·have da:decide (a≥0)=true:=decide_eq_true ha
        rw [if_pos ha] at D
        obtain ⟨V,rfl⟩:=Int.eq_ofNat_of_zero_le ha
        have bG:V<ln:=by omega
        obtain ⟨cX,fX,lX,aP⟩:=eD af.out 3 rfl bG
        have z:Hid (aJ H (wr.setCell ⟨g4,V,none⟩ (.int .i64 (((cnt (R++av (es.take j)) (V:Int):Nat):Int)+1))) [.cel (aH (aG I (XB))) (.slice (some ⟨g1,0,none⟩) I I),.cel (aH (aG on (YB))) (.slice (some ⟨g2,0,none⟩) on on),.cel (aH (aG sn (J++bX (es.take j)))) (.slice (some ⟨g3,0,none⟩) sn sn),.cel (aH (aG ln (R++av (es.take (j+1))))) (.slice (some ⟨g4,0,none⟩) ln ln),.blk wo.heap.size #[.int .i64 1,.int .i64 (X:Int),.slice (some ⟨be,oe,none⟩) G ec] 89]):=by
         show aJ H _ _
         rw [D,←List.append_assoc]
         exact aP
        clear aP D
        generalize cnt (R++av (es.take j)) (V:Int)=bj at *
        have iX:(V:Int)<(ln:Int):=by omega
        have cy:bj<=10000:=by omega
        go_upto_region 25 with fail
        clear c0 c1 y2 ly aW cX fX lX
        generalize wr.setCell ⟨g4,V,none⟩ (.int .i64 ((bj:Int)+1))=W1 at *
        have g:=aA aM.out z.out.bel
        have aW:=aK g B
        have c0:=(g.cell (p:=⟨be,oe+j * 2,none⟩) B).trans bo.out
        have c1:=(g.cell (p:=⟨be,oe+j * 2+1,none⟩) B).trans bm.out
        obtain ⟨-,-,y2,ly⟩:=jX (z.out.blk 4 rfl).1
        clear g
        by_cases hb:0<=b
        ·have db:decide (b≥0)=true:=decide_eq_true hb
         rw [if_pos hb] at u
         obtain ⟨Y,rfl⟩:=Int.eq_ofNat_of_zero_le hb
         have a4:Y<sn:=by omega
         obtain ⟨cY,fY,lY,aE⟩:=eD z.out 2 rfl a4
         have K:Hid (aJ H (W1.setCell ⟨g3,Y,none⟩ (.int .i64 (((cnt (J++bX (es.take j)) (Y:Int):Nat):Int)+1))) [.cel (aH (aG I (XB))) (.slice (some ⟨g1,0,none⟩) I I),.cel (aH (aG on (YB))) (.slice (some ⟨g2,0,none⟩) on on),.cel (aH (aG sn (J++bX (es.take (j+1))))) (.slice (some ⟨g3,0,none⟩) sn sn),.cel (aH (aG ln (R++av (es.take (j+1))))) (.slice (some ⟨g4,0,none⟩) ln ln),.blk wo.heap.size #[.int .i64 1,.int .i64 (X:Int),.slice (some ⟨be,oe,none⟩) G ec] 89]):=by
          show aJ H _ _
          rw [u,←List.append_assoc]
          exact aE
         clear aE u
         generalize cnt (J++bX (es.take j)) (Y:Int)=a3 at *
         have iY:(Y:Int)<(sn:Int):=by omega
         have bQ:a3<=10000:=by omega
         clear ay au ap aw Q aS aT ad Z
         go_wp2_with fail
         go_roundw
         ·exact ⟨j+1,by omega,by go_num,K.out⟩
         simp [intOf];omega
        have db:decide (b≥0)=false:=decide_eq_false hb
        rw [if_neg hb,List.append_nil] at u
        have K:Hid (aJ H W1 [.cel (aH (aG I (XB))) (.slice (some ⟨g1,0,none⟩) I I),.cel (aH (aG on (YB))) (.slice (some ⟨g2,0,none⟩) on on),.cel (aH (aG sn (J++bX (es.take (j+1))))) (.slice (some ⟨g3,0,none⟩) sn sn),.cel (aH (aG ln (R++av (es.take (j+1))))) (.slice (some ⟨g4,0,none⟩) ln ln),.blk wo.heap.size #[.int .i64 1,.int .i64 (X:Int),.slice (some ⟨be,oe,none⟩) G ec] 89]):=by
         show aJ H _ _
         rw [u]
         exact z.out
        clear u ay au ap aw Q aS aT ad Z
        go_wp2_with fail
        go_roundw
        ·exact ⟨j+1,by omega,by go_num,K.out⟩
        simp [intOf];omega
       have da:decide (a≥0)=false:=decide_eq_false ha
       rw [if_neg ha,List.append_nil] at D
       have z:Hid (aJ H wr [.cel (aH (aG I (XB))) (.slice (some ⟨g1,0,none⟩) I I),.cel (aH (aG on (YB))) (.slice (some ⟨g2,0,none⟩) on on),.cel (aH (aG sn (J++bX (es.take j)))) (.slice (some ⟨g3,0,none⟩) sn sn),.cel (aH (aG ln (R++av (es.take (j+1))))) (.slice (some ⟨g4,0,none⟩) ln ln),.blk wo.heap.size #[.int .i64 1,.int .i64 (X:Int),.slice (some ⟨be,oe,none⟩) G ec] 89]):=by
        show aJ H _ _
        rw [D]
        exact af.out
       clear D
       go_upto_region 25 with fail
       clear c0 c1 y2 ly aW
       have g:=aA aM.out z.out.bel
       have aW:=aK g B
       have c0:=(g.cell (p:=⟨be,oe+j * 2,none⟩) B).trans bo.out
       have c1:=(g.cell (p:=⟨be,oe+j * 2+1,none⟩) B).trans bm.out
       obtain ⟨-,-,y2,ly⟩:=jX (z.out.blk 4 rfl).1
       clear g
       by_cases hb:0<=b
       ·have db:decide (b≥0)=true:=decide_eq_true hb
        rw [if_pos hb] at u
        obtain ⟨Y,rfl⟩:=Int.eq_ofNat_of_zero_le hb
        have a4:Y<sn:=by omega
        obtain ⟨cY,fY,lY,aE⟩:=eD z.out 2 rfl a4
        have K:Hid (aJ H (wr.setCell ⟨g3,Y,none⟩ (.int .i64 (((cnt (J++bX (es.take j)) (Y:Int):Nat):Int)+1))) [.cel (aH (aG I (XB))) (.slice (some ⟨g1,0,none⟩) I I),.cel (aH (aG on (YB))) (.slice (some ⟨g2,0,none⟩) on on),.cel (aH (aG sn (J++bX (es.take (j+1))))) (.slice (some ⟨g3,0,none⟩) sn sn),.cel (aH (aG ln (R++av (es.take (j+1))))) (.slice (some ⟨g4,0,none⟩) ln ln),.blk wo.heap.size #[.int .i64 1,.int .i64 (X:Int),.slice (some ⟨be,oe,none⟩) G ec] 89]):=by
         show aJ H _ _
         rw [u,←List.append_assoc]
         exact aE
        clear aE u
        generalize cnt (J++bX (es.take j)) (Y:Int)=a3 at *
        have iY:(Y:Int)<(sn:Int):=by omega
        have bQ:a3<=10000:=by omega
        clear ay au ap aw Q aS aT ad Z
        go_wp2_with fail
        go_roundw
        ·exact ⟨j+1,by omega,by go_num,K.out⟩
        simp [intOf];omega
       have db:decide (b≥0)=false:=decide_eq_false hb
       rw [if_neg hb,List.append_nil] at u
       have K:Hid (aJ H wr [.cel (aH (aG I (XB))) (.slice (some ⟨g1,0,none⟩) I I),.cel (aH (aG on (YB))) (.slice (some ⟨g2,0,none⟩) on on),.cel (aH (aG sn (J++bX (es.take (j+1))))) (.slice (some ⟨g3,0,none⟩) sn sn),.cel (aH (aG ln (R++av (es.take (j+1))))) (.slice (some ⟨g4,0,none⟩) ln ln),.blk wo.heap.size #[.int .i64 1,.int .i64 (X:Int),.slice (some ⟨be,oe,none⟩) G ec] 89]):=by
        show aJ H _ _
        rw [u]
        exact z.out
       clear u ay au ap aw Q aS aT ad Z
       go_wp2_with fail
       go_roundw
       ·exact ⟨j+1,by omega,by go_num,K.out⟩
       simp [intOf];omega
      have bf:j=G:=by omega
      have bH:=dF (by omega:G<=j)
      have HD:Hid (aJ H wr [.cel (aH (aG I (XB))) (.slice (some ⟨g1,0,none⟩) I I),.cel (aH (aG on (YB))) (.slice (some ⟨g2,0,none⟩) on on),.cel (aH (aG sn (J++bX es))) (.slice (some ⟨g3,0,none⟩) sn sn),.cel (aH (aG ln (R++av es))) (.slice (some ⟨g4,0,none⟩) ln ln),.blk wo.heap.size #[.int .i64 1,.int .i64 (X:Int),.slice EA G ec] 89]):=by
       have h:=af.out
       show aJ H _ _
       rwa [bf,List.take_of_length_le (by rw [br.out];exact Nat.le_refl _)] at h
      clear af bf
      go_wp2_with fail
      go_roundw
      ·exact ⟨k+1,by omega,by go_num,by rw [bF.out,bI.out,bK.out,bL.out];exact HD.out.sub (List.sublist_append_left _ [_]),b6.out⟩
      simp [intOf];omega
     ·subst dz
      have ch:=jW.1 aF.1
      rw [b2.out] at ch
      obtain ⟨X,rfl⟩:∃X:Nat,it=(X:Int):=⟨it.toNat,by omega⟩
      have hX:X<sn:=by have:=cw.out;omega
      have ax:=dX 0 (bs.take k) ⟨2,(X:Int),es⟩
      have am:=dX 1 (bs.take k) ⟨2,(X:Int),es⟩
      have ar:=ja (bs.take k) ⟨2,(X:Int),es⟩
      have aC:=jZ (bs.take k) ⟨2,(X:Int),es⟩
      rw [←bR.out] at ax am ar aC
      simp only [Int.reduceEq,reduceIte,List.append_nil] at ax am ar aC
      have aZ:=eO 0 (bs.take k)
      have a0:=eO 1 (bs.take k)
      rw [List.length_take] at aZ a0
      obtain ⟨cX,fX,lX,aP⟩:=eD a8.out 2 rfl hX
      have b7:=fC (di (bs.take k)) (X:Int)
      have bd:Hid (aJ H (w4.setCell ⟨g3,X,none⟩ (.int .i64 (((cnt (di (bs.take k)) (X:Int):Nat):Int)+1))) [.cel (aH (aG I (bA 0 (bs.take k)))) (.slice (some ⟨g1,0,none⟩) I I),.cel (aH (aG on (bA 1 (bs.take k)))) (.slice (some ⟨g2,0,none⟩) on on),.cel (aH (aG sn (di (bs.take k)++[(X:Int)]))) (.slice (some ⟨g3,0,none⟩) sn sn),.cel (aH (aG ln (eT (bs.take k)))) (.slice (some ⟨g4,0,none⟩) ln ln),.blk wo.heap.size #[.int .i64 2,.int .i64 (X:Int),.slice EA G ec] 89]):=aP
      clear aP
      have bk:Hid ((di (bs.take k)++[(X:Int)]).length<=1000):=by show _<=_;have:=bl.out;(try rw [List.length_append,List.length_singleton]);omega
      have bg:Hid ((eT (bs.take k)).length<=1000):=by show _<=_;have:=bT.out;omega
      obtain ⟨XB,a6⟩:∃XB,bA 0 (bs.take k)=XB:=⟨_,rfl⟩
      obtain ⟨YB,a1⟩:∃YB,bA 1 (bs.take k)=YB:=⟨_,rfl⟩
      obtain ⟨J,a2⟩:∃J,di (bs.take k)++[(X:Int)]=J:=⟨_,rfl⟩
      obtain ⟨R,a5⟩:∃R,eT (bs.take k)=R:=⟨_,rfl⟩
      rw [a6,a1,a2,a5] at bd
      rw [a6] at ax
      rw [a1] at am
      rw [a2] at ar bk
      rw [a5] at aC bg
      obtain ⟨bF,bI,bK,bL⟩:=hd4 ax am ar aC
      clear ax am ar aC a6 a1 a2 a5
      generalize cnt (di (bs.take k)) (X:Int)=q at *
      have iq:q<=10000:=by have:=bl.out;omega
      have iX:(X:Int)<(sn:Int):=by omega
      clear b7
      obtain ⟨y0,y1,ly⟩:=jv (a8.out.blk 4 rfl).1
      clear b4 aZ a0 aF
      go_upto_region 20 with fail
      clear y0 y1 ly cX fX lX
      go_wp2_with fail
      go_loopw [11] (fun i wr=>∃j:Nat,j<=G/\i = .int .i64 (j:Int)/\aJ H wr [.cel (aH (aG I (XB))) (.slice (some ⟨g1,0,none⟩) I I),.cel (aH (aG on (YB))) (.slice (some ⟨g2,0,none⟩) on on),.cel (aH (aG sn (J++bX (es.take j)))) (.slice (some ⟨g3,0,none⟩) sn sn),.cel (aH (aG ln (R++av (es.take j)))) (.slice (some ⟨g4,0,none⟩) ln ln),.blk wo.heap.size #[.int .i64 2,.int .i64 (X:Int),.slice EA G ec] 89]) (fun i _=>G - (intOf i).toNat)
      ·exact ⟨0,by omega,rfl,by rw [List.take_zero];simpa [bX,av] using bd.out⟩
      obtain ⟨j,hj,rfl,hs⟩:=hrel
      have af:=Hd hs
      clear hs
      obtain ⟨-,-,y2,ly⟩:=jX (af.out.blk 4 rfl).1
      by_cases bp:j<G
      ·have bH:=dT (by omega:j<G)
       have aq:j<es.length:=by rw [br.out];exact bp
       obtain ⟨be,oe,a9,B,c0,c1⟩:=HE.out.es (k:=j) aq
       have bS:=Hd a9
       have aV:=cg.out _ (List.getElem_mem aq)
       have u:=kN (es.take j) (es[j]?.getD LeT.zero)
       have D:=jY (es.take j) (es[j]?.getD LeT.zero)
       rw [←bU aq] at u D
       have ap:=kz (es.take j)
       have aw:=jh (es.take j)
       rw [List.length_take] at ap aw
       rw [show es[j]=es[j]?.getD LeT.zero by rw [List.getElem?_eq_getElem aq];rfl] at aV
       have ad:=aV.lut.2
       have Z:=aV.ff.2
       rw [b8.out] at ad
       rw [b2.out] at Z
       have Q:=cd.out
       have aS:=bk.out
       have aT:=bg.out
       clear aV aq a9
       generalize es[j]?.getD LeT.zero=e at *
       obtain ⟨a,b⟩:=e
       simp only at ad Z u D c0 c1
       obtain ⟨i0,i1⟩:=ib (by omega:j<G)
       have ay:=fC (J++bX (es.take j)) b
       have au:=fC (R++av (es.take j)) a
       rw [List.length_append] at ay au
       obtain ⟨bo,bm⟩:=hd2 c0 c1
       have g:=aA aM.out af.out.bel
       have aW:=aK g B
       rw [←g.cell (p:=⟨be,oe+j * 2,none⟩) B] at c0
       rw [←g.cell (p:=⟨be,oe+j * 2+1,none⟩) B] at c1
       clear g
       obtain rfl:=bS.out
       by_cases ha:0<=a
       ·have da:decide (a≥0)=true:=decide_eq_true ha
        rw [if_pos ha] at D
        obtain ⟨V,rfl⟩:=Int.eq_ofNat_of_zero_le ha
        have bG:V<ln:=by omega
        obtain ⟨cX,fX,lX,aP⟩:=eD af.out 3 rfl bG
        have z:Hid (aJ H (wr.setCell ⟨g4,V,none⟩ (.int .i64 (((cnt (R++av (es.take j)) (V:Int):Nat):Int)+1))) [.cel (aH (aG I (XB))) (.slice (some ⟨g1,0,none⟩) I I),.cel (aH (aG on (YB))) (.slice (some ⟨g2,0,none⟩) on on),.cel (aH (aG sn (J++bX (es.take j)))) (.slice (some ⟨g3,0,none⟩) sn sn),.cel (aH (aG ln (R++av (es.take (j+1))))) (.slice (some ⟨g4,0,none⟩) ln ln),.blk wo.heap.size #[.int .i64 2,.int .i64 (X:Int),.slice (some ⟨be,oe,none⟩) G ec] 89]):=by
         show aJ H _ _
         rw [D,←List.append_assoc]
         exact aP
        clear aP D
        generalize cnt (R++av (es.take j)) (V:Int)=bj at *
        have iX:(V:Int)<(ln:Int):=by omega
        have cy:bj<=10000:=by omega
        go_upto_region 25 with fail
        clear c0 c1 y2 ly aW cX fX lX
        generalize wr.setCell ⟨g4,V,none⟩ (.int .i64 ((bj:Int)+1))=W1 at *
        have g:=aA aM.out z.out.bel
        have aW:=aK g B
        have c0:=(g.cell (p:=⟨be,oe+j * 2,none⟩) B).trans bo.out
        have c1:=(g.cell (p:=⟨be,oe+j * 2+1,none⟩) B).trans bm.out
        obtain ⟨-,-,y2,ly⟩:=jX (z.out.blk 4 rfl).1
        clear g
        by_cases hb:0<=b
        ·have db:decide (b≥0)=true:=decide_eq_true hb
         rw [if_pos hb] at u
         obtain ⟨Y,rfl⟩:=Int.eq_ofNat_of_zero_le hb
         have a4:Y<sn:=by omega
         obtain ⟨cY,fY,lY,aE⟩:=eD z.out 2 rfl a4
         have K:Hid (aJ H (W1.setCell ⟨g3,Y,none⟩ (.int .i64 (((cnt (J++bX (es.take j)) (Y:Int):Nat):Int)+1))) [.cel (aH (aG I (XB))) (.slice (some ⟨g1,0,none⟩) I I),.cel (aH (aG on (YB))) (.slice (some ⟨g2,0,none⟩) on on),.cel (aH (aG sn (J++bX (es.take (j+1))))) (.slice (some ⟨g3,0,none⟩) sn sn),.cel (aH (aG ln (R++av (es.take (j+1))))) (.slice (some ⟨g4,0,none⟩) ln ln),.blk wo.heap.size #[.int .i64 2,.int .i64 (X:Int),.slice (some ⟨be,oe,none⟩) G ec] 89]):=by
          show aJ H _ _
          rw [u,←List.append_assoc]
          exact aE
         clear aE u
         generalize cnt (J++bX (es.take j)) (Y:Int)=a3 at *
         have iY:(Y:Int)<(sn:Int):=by omega
         have bQ:a3<=10000:=by omega
         clear ay au ap aw Q aS aT ad Z
         go_wp2_with fail
         go_roundw
         ·exact ⟨j+1,by omega,by go_num,K.out⟩
         simp [intOf];omega
        have db:decide (b≥0)=false:=decide_eq_false hb
        rw [if_neg hb,List.append_nil] at u
        have K:Hid (aJ H W1 [.cel (aH (aG I (XB))) (.slice (some ⟨g1,0,none⟩) I I),.cel (aH (aG on (YB))) (.slice (some ⟨g2,0,none⟩) on on),.cel (aH (aG sn (J++bX (es.take (j+1))))) (.slice (some ⟨g3,0,none⟩) sn sn),.cel (aH (aG ln (R++av (es.take (j+1))))) (.slice (some ⟨g4,0,none⟩) ln ln),.blk wo.heap.size #[.int .i64 2,.int .i64 (X:Int),.slice (some ⟨be,oe,none⟩) G ec] 89]):=by
         show aJ H _ _
         rw [u]
         exact z.out
        clear u ay au ap aw Q aS aT ad Z
        go_wp2_with fail
        go_roundw
        ·exact ⟨j+1,by omega,by go_num,K.out⟩
        simp [intOf];omega
       have da:decide (a≥0)=false:=decide_eq_false ha
       rw [if_neg ha,List.append_nil] at D
       have z:Hid (aJ H wr [.cel (aH (aG I (XB))) (.slice (some ⟨g1,0,none⟩) I I),.cel (aH (aG on (YB))) (.slice (some ⟨g2,0,none⟩) on on),.cel (aH (aG sn (J++bX (es.take j)))) (.slice (some ⟨g3,0,none⟩) sn sn),.cel (aH (aG ln (R++av (es.take (j+1))))) (.slice (some ⟨g4,0,none⟩) ln ln),.blk wo.heap.size #[.int .i64 2,.int .i64 (X:Int),.slice (some ⟨be,oe,none⟩) G ec] 89]):=by
        show aJ H _ _
        rw [D]
        exact af.out
       clear D
       go_upto_region 25 with fail
       clear c0 c1 y2 ly aW
       have g:=aA aM.out z.out.bel
       have aW:=aK g B
       have c0:=(g.cell (p:=⟨be,oe+j * 2,none⟩) B).trans bo.out
       have c1:=(g.cell (p:=⟨be,oe+j * 2+1,none⟩) B).trans bm.out
       obtain ⟨-,-,y2,ly⟩:=jX (z.out.blk 4 rfl).1
       clear g
       by_cases hb:0<=b
       ·have db:decide (b≥0)=true:=decide_eq_true hb
        rw [if_pos hb] at u
        obtain ⟨Y,rfl⟩:=Int.eq_ofNat_of_zero_le hb
        have a4:Y<sn:=by omega
        obtain ⟨cY,fY,lY,aE⟩:=eD z.out 2 rfl a4
        have K:Hid (aJ H (wr.setCell ⟨g3,Y,none⟩ (.int .i64 (((cnt (J++bX (es.take j)) (Y:Int):Nat):Int)+1))) [.cel (aH (aG I (XB))) (.slice (some ⟨g1,0,none⟩) I I),.cel (aH (aG on (YB))) (.slice (some ⟨g2,0,none⟩) on on),.cel (aH (aG sn (J++bX (es.take (j+1))))) (.slice (some ⟨g3,0,none⟩) sn sn),.cel (aH (aG ln (R++av (es.take (j+1))))) (.slice (some ⟨g4,0,none⟩) ln ln),.blk wo.heap.size #[.int .i64 2,.int .i64 (X:Int),.slice (some ⟨be,oe,none⟩) G ec] 89]):=by
         show aJ H _ _
         rw [u,←List.append_assoc]
         exact aE
        clear aE u
        generalize cnt (J++bX (es.take j)) (Y:Int)=a3 at *
        have iY:(Y:Int)<(sn:Int):=by omega
        have bQ:a3<=10000:=by omega
        clear ay au ap aw Q aS aT ad Z
        go_wp2_with fail
        go_roundw
        ·exact ⟨j+1,by omega,by go_num,K.out⟩
        simp [intOf];omega
       have db:decide (b≥0)=false:=decide_eq_false hb
       rw [if_neg hb,List.append_nil] at u
       have K:Hid (aJ H wr [.cel (aH (aG I (XB))) (.slice (some ⟨g1,0,none⟩) I I),.cel (aH (aG on (YB))) (.slice (some ⟨g2,0,none⟩) on on),.cel (aH (aG sn (J++bX (es.take (j+1))))) (.slice (some ⟨g3,0,none⟩) sn sn),.cel (aH (aG ln (R++av (es.take (j+1))))) (.slice (some ⟨g4,0,none⟩) ln ln),.blk wo.heap.size #[.int .i64 2,.int .i64 (X:Int),.slice (some ⟨be,oe,none⟩) G ec] 89]):=by
        show aJ H _ _
        rw [u]
        exact z.out
       clear u ay au ap aw Q aS aT ad Z
       go_wp2_with fail
       go_roundw
       ·exact ⟨j+1,by omega,by go_num,K.out⟩
       simp [intOf];omega
      have bf:j=G:=by omega
      have bH:=dF (by omega:G<=j)
      have HD:Hid (aJ H wr [.cel (aH (aG I (XB))) (.slice (some ⟨g1,0,none⟩) I I),.cel (aH (aG on (YB))) (.slice (some ⟨g2,0,none⟩) on on),.cel (aH (aG sn (J++bX es))) (.slice (some ⟨g3,0,none⟩) sn sn),.cel (aH (aG ln (R++av es))) (.slice (some ⟨g4,0,none⟩) ln ln),.blk wo.heap.size #[.int .i64 2,.int .i64 (X:Int),.slice EA G ec] 89]):=by
       have h:=af.out
       show aJ H _ _
       rwa [bf,List.take_of_length_le (by rw [br.out];exact Nat.le_refl _)] at h
      clear af bf
      go_wp2_with fail
      go_roundw
      ·exact ⟨k+1,by omega,by go_num,by rw [bF.out,bI.out,bK.out,bL.out];exact HD.out.sub (List.sublist_append_left _ [_]),b6.out⟩
      simp [intOf];omega
     subst dC
     have ax:=dX 0 (bs.take k) ⟨3,it,es⟩
     have am:=dX 1 (bs.take k) ⟨3,it,es⟩
     have ar:=ja (bs.take k) ⟨3,it,es⟩
     have aC:=jZ (bs.take k) ⟨3,it,es⟩
     rw [←bR.out] at ax am ar aC
     simp only [Int.reduceEq,reduceIte,List.append_nil] at ax am ar aC
     have aZ:=eO 0 (bs.take k)
     have a0:=eO 1 (bs.take k)
     rw [List.length_take] at aZ a0
     have bd:Hid (aJ H w4 [.cel (aH (aG I (bA 0 (bs.take k)))) (.slice (some ⟨g1,0,none⟩) I I),.cel (aH (aG on (bA 1 (bs.take k)))) (.slice (some ⟨g2,0,none⟩) on on),.cel (aH (aG sn (di (bs.take k)))) (.slice (some ⟨g3,0,none⟩) sn sn),.cel (aH (aG ln (eT (bs.take k)))) (.slice (some ⟨g4,0,none⟩) ln ln),.blk wo.heap.size #[.int .i64 3,.int .i64 it,.slice EA G ec] 89]):=a8.out
     have bk:Hid ((di (bs.take k)).length<=1000):=by show _<=_;have:=bl.out;(try rw [List.length_append,List.length_singleton]);omega
     have bg:Hid ((eT (bs.take k)).length<=1000):=by show _<=_;have:=bT.out;omega
     obtain ⟨XB,a6⟩:∃XB,bA 0 (bs.take k)=XB:=⟨_,rfl⟩
     obtain ⟨YB,a1⟩:∃YB,bA 1 (bs.take k)=YB:=⟨_,rfl⟩
     obtain ⟨J,a2⟩:∃J,di (bs.take k)=J:=⟨_,rfl⟩
     obtain ⟨R,a5⟩:∃R,eT (bs.take k)=R:=⟨_,rfl⟩
     rw [a6,a1,a2,a5] at bd
     rw [a6] at ax
     rw [a1] at am
     rw [a2] at ar bk
     rw [a5] at aC bg
     obtain ⟨bF,bI,bK,bL⟩:=hd4 ax am ar aC
     clear ax am ar aC a6 a1 a2 a5
     obtain ⟨y0,y1,ly⟩:=jv (a8.out.blk 4 rfl).1
     clear b4 aZ a0 aF
     go_upto_region 20 with fail
     clear y0 y1 ly
     go_wp2_with fail
     go_loopw [11] (fun i wr=>∃j:Nat,j<=G/\i = .int .i64 (j:Int)/\aJ H wr [.cel (aH (aG I (XB))) (.slice (some ⟨g1,0,none⟩) I I),.cel (aH (aG on (YB))) (.slice (some ⟨g2,0,none⟩) on on),.cel (aH (aG sn (J++bX (es.take j)))) (.slice (some ⟨g3,0,none⟩) sn sn),.cel (aH (aG ln (R++av (es.take j)))) (.slice (some ⟨g4,0,none⟩) ln ln),.blk wo.heap.size #[.int .i64 3,.int .i64 it,.slice EA G ec] 89]) (fun i _=>G - (intOf i).toNat)
     ·exact ⟨0,by omega,rfl,by rw [List.take_zero];simpa [bX,av] using bd.out⟩
     obtain ⟨j,hj,rfl,hs⟩:=hrel
     have af:=Hd hs
     clear hs
     obtain ⟨-,-,y2,ly⟩:=jX (af.out.blk 4 rfl).1
     by_cases bp:j<G
     ·have bH:=dT (by omega:j<G)
      have aq:j<es.length:=by rw [br.out];exact bp
      obtain ⟨be,oe,a9,B,c0,c1⟩:=HE.out.es (k:=j) aq
      have bS:=Hd a9
      have aV:=cg.out _ (List.getElem_mem aq)
      have u:=kN (es.take j) (es[j]?.getD LeT.zero)
      have D:=jY (es.take j) (es[j]?.getD LeT.zero)
      rw [←bU aq] at u D
      have ap:=kz (es.take j)
      have aw:=jh (es.take j)
      rw [List.length_take] at ap aw
      rw [show es[j]=es[j]?.getD LeT.zero by rw [List.getElem?_eq_getElem aq];rfl] at aV
      have ad:=aV.lut.2
      have Z:=aV.ff.2
      rw [b8.out] at ad
      rw [b2.out] at Z
      have Q:=cd.out
      have aS:=bk.out
      have aT:=bg.out
      clear aV aq a9
      generalize es[j]?.getD LeT.zero=e at *
      obtain ⟨a,b⟩:=e
      simp only at ad Z u D c0 c1
      obtain ⟨i0,i1⟩:=ib (by omega:j<G)
      have ay:=fC (J++bX (es.take j)) b
      have au:=fC (R++av (es.take j)) a
      rw [List.length_append] at ay au
      obtain ⟨bo,bm⟩:=hd2 c0 c1
      have g:=aA aM.out af.out.bel
      have aW:=aK g B
      rw [←g.cell (p:=⟨be,oe+j * 2,none⟩) B] at c0
      rw [←g.cell (p:=⟨be,oe+j * 2+1,none⟩) B] at c1
      clear g
      obtain rfl:=bS.out
      by_cases ha:0<=a
      ·have da:decide (a≥0)=true:=decide_eq_true ha
       rw [if_pos ha] at D
       obtain ⟨V,rfl⟩:=Int.eq_ofNat_of_zero_le ha
       have bG:V<ln:=by omega
       obtain ⟨cX,fX,lX,aP⟩:=eD af.out 3 rfl bG
       have z:Hid (aJ H (wr.setCell ⟨g4,V,none⟩ (.int .i64 (((cnt (R++av (es.take j)) (V:Int):Nat):Int)+1))) [.cel (aH (aG I (XB))) (.slice (some ⟨g1,0,none⟩) I I),.cel (aH (aG on (YB))) (.slice (some ⟨g2,0,none⟩) on on),.cel (aH (aG sn (J++bX (es.take j)))) (.slice (some ⟨g3,0,none⟩) sn sn),.cel (aH (aG ln (R++av (es.take (j+1))))) (.slice (some ⟨g4,0,none⟩) ln ln),.blk wo.heap.size #[.int .i64 3,.int .i64 it,.slice (some ⟨be,oe,none⟩) G ec] 89]):=by
        show aJ H _ _
        rw [D,←List.append_assoc]
        exact aP
       clear aP D
       generalize cnt (R++av (es.take j)) (V:Int)=bj at *
       have iX:(V:Int)<(ln:Int):=by omega
       have cy:bj<=10000:=by omega
       go_upto_region 25 with fail
       clear c0 c1 y2 ly aW cX fX lX
       generalize wr.setCell ⟨g4,V,none⟩ (.int .i64 ((bj:Int)+1))=W1 at *
       have g:=aA aM.out z.out.bel
       have aW:=aK g B
       have c0:=(g.cell (p:=⟨be,oe+j * 2,none⟩) B).trans bo.out
       have c1:=(g.cell (p:=⟨be,oe+j * 2+1,none⟩) B).trans bm.out
       obtain ⟨-,-,y2,ly⟩:=jX (z.out.blk 4 rfl).1
       clear g
       by_cases hb:0<=b
       ·have db:decide (b≥0)=true:=decide_eq_true hb
        rw [if_pos hb] at u
        obtain ⟨Y,rfl⟩:=Int.eq_ofNat_of_zero_le hb
        have a4:Y<sn:=by omega
        obtain ⟨cY,fY,lY,aE⟩:=eD z.out 2 rfl a4
        have K:Hid (aJ H (W1.setCell ⟨g3,Y,none⟩ (.int .i64 (((cnt (J++bX (es.take j)) (Y:Int):Nat):Int)+1))) [.cel (aH (aG I (XB))) (.slice (some ⟨g1,0,none⟩) I I),.cel (aH (aG on (YB))) (.slice (some ⟨g2,0,none⟩) on on),.cel (aH (aG sn (J++bX (es.take (j+1))))) (.slice (some ⟨g3,0,none⟩) sn sn),.cel (aH (aG ln (R++av (es.take (j+1))))) (.slice (some ⟨g4,0,none⟩) ln ln),.blk wo.heap.size #[.int .i64 3,.int .i64 it,.slice (some ⟨be,oe,none⟩) G ec] 89]):=by
         show aJ H _ _
         rw [u,←List.append_assoc]
         exact aE
        clear aE u
        generalize cnt (J++bX (es.take j)) (Y:Int)=a3 at *
        have iY:(Y:Int)<(sn:Int):=by omega
        have bQ:a3<=10000:=by omega
        clear ay au ap aw Q aS aT ad Z
        go_wp2_with fail
        go_roundw
        ·exact ⟨j+1,by omega,by go_num,K.out⟩
        simp [intOf];omega
       have db:decide (b≥0)=false:=decide_eq_false hb
       rw [if_neg hb,List.append_nil] at u
       have K:Hid (aJ H W1 [.cel (aH (aG I (XB))) (.slice (some ⟨g1,0,none⟩) I I),.cel (aH (aG on (YB))) (.slice (some ⟨g2,0,none⟩) on on),.cel (aH (aG sn (J++bX (es.take (j+1))))) (.slice (some ⟨g3,0,none⟩) sn sn),.cel (aH (aG ln (R++av (es.take (j+1))))) (.slice (some ⟨g4,0,none⟩) ln ln),.blk wo.heap.size #[.int .i64 3,.int .i64 it,.slice (some ⟨be,oe,none⟩) G ec] 89]):=by
        show aJ H _ _
        rw [u]
        exact z.out
       clear u ay au ap aw Q aS aT ad Z
       go_wp2_with fail
       go_roundw
       ·exact ⟨j+1,by omega,by go_num,K.out⟩
       simp [intOf];omega
      have da:decide (a≥0)=false:=decide_eq_false ha
      rw [if_neg ha,List.append_nil] at D
      have z:Hid (aJ H wr [.cel (aH (aG I (XB))) (.slice (some ⟨g1,0,none⟩) I I),.cel (aH (aG on (YB))) (.slice (some ⟨g2,0,none⟩) on on),.cel (aH (aG sn (J++bX (es.take j)))) (.slice (some ⟨g3,0,none⟩) sn sn),.cel (aH (aG ln (R++av (es.take (j+1))))) (.slice (some ⟨g4,0,none⟩) ln ln),.blk wo.heap.size #[.int .i64 3,.int .i64 it,.slice (some ⟨be,oe,none⟩) G ec] 89]):=by
       show aJ H _ _
       rw [D]
       exact af.out
      clear D
      go_upto_region 25 with fail
      clear c0 c1 y2 ly aW
      have g:=aA aM.out z.out.bel
      have aW:=aK g B
      have c0:=(g.cell (p:=⟨be,oe+j * 2,none⟩) B).trans bo.out
      have c1:=(g.cell (p:=⟨be,oe+j * 2+1,none⟩) B).trans bm.out
      obtain ⟨-,-,y2,ly⟩:=jX (z.out.blk 4 rfl).1
      clear g
      by_cases hb:0<=b
      ·have db:decide (b≥0)=true:=decide_eq_true hb
       rw [if_pos hb] at u
       obtain ⟨Y,rfl⟩:=Int.eq_ofNat_of_zero_le hb
       have a4:Y<sn:=by omega
       obtain ⟨cY,fY,lY,aE⟩:=eD z.out 2 rfl a4
       have K:Hid (aJ H (wr.setCell ⟨g3,Y,none⟩ (.int .i64 (((cnt (J++bX (es.take j)) (Y:Int):Nat):Int)+1))) [.cel (aH (aG I (XB))) (.slice (some ⟨g1,0,none⟩) I I),.cel (aH (aG on (YB))) (.slice (some ⟨g2,0,none⟩) on on),.cel (aH (aG sn (J++bX (es.take (j+1))))) (.slice (some ⟨g3,0,none⟩) sn sn),.cel (aH (aG ln (R++av (es.take (j+1))))) (.slice (some ⟨g4,0,none⟩) ln ln),.blk wo.heap.size #[.int .i64 3,.int .i64 it,.slice (some ⟨be,oe,none⟩) G ec] 89]):=by
        show aJ H _ _
        rw [u,←List.append_assoc]
        exact aE
       clear aE u
       generalize cnt (J++bX (es.take j)) (Y:Int)=a3 at *
       have iY:(Y:Int)<(sn:Int):=by omega
       have bQ:a3<=10000:=by omega
       clear ay au ap aw Q aS aT ad Z
       go_wp2_with fail
       go_roundw
       ·exact ⟨j+1,by omega,by go_num,K.out⟩
       simp [intOf];omega
      have db:decide (b≥0)=false:=decide_eq_false hb
      rw [if_neg hb,List.append_nil] at u
      have K:Hid (aJ H wr [.cel (aH (aG I (XB))) (.slice (some ⟨g1,0,none⟩) I I),.cel (aH (aG on (YB))) (.slice (some ⟨g2,0,none⟩) on on),.cel (aH (aG sn (J++bX (es.take (j+1))))) (.slice (some ⟨g3,0,none⟩) sn sn),.cel (aH (aG ln (R++av (es.take (j+1))))) (.slice (some ⟨g4,0,none⟩) ln ln),.blk wo.heap.size #[.int .i64 3,.int .i64 it,.slice (some ⟨be,oe,none⟩) G ec] 89]):=by
       show aJ H _ _
       rw [u]
       exact z.out
      clear u ay au ap aw Q aS aT ad Z
      go_wp2_with fail
      go_roundw
      ·exact ⟨j+1,by omega,by go_num,K.out⟩
      simp [intOf];omega
     have bf:j=G:=by omega
     have bH:=dF (by omega:G<=j)
     have HD:Hid (aJ H wr [.cel (aH (aG I (XB))) (.slice (some ⟨g1,0,none⟩) I I),.cel (aH (aG on (YB))) (.slice (some ⟨g2,0,none⟩) on on),.cel (aH (aG sn (J++bX es))) (.slice (some ⟨g3,0,none⟩) sn sn),.cel (aH (aG ln (R++av es))) (.slice (some ⟨g4,0,none⟩) ln ln),.blk wo.heap.size #[.int .i64 3,.int .i64 it,.slice EA G ec] 89]):=by
      have h:=af.out
      show aJ H _ _
      rwa [bf,List.take_of_length_le (by rw [br.out];exact Nat.le_refl _)] at h
     clear af bf
     go_wp2_with fail
     go_roundw
     ·exact ⟨k+1,by omega,by go_num,by rw [bF.out,bI.out,bK.out,bL.out];exact HD.out.sub (List.sublist_append_left _ [_]),b6.out⟩
     simp [intOf];omega
    rw [bJ aF]
    have HR:=Hd (bP.out aF)
    rintro _ w4 ⟨rfl,b4⟩
    have dI:=Hd (aA (aA aM.out HA.out.bel) b4)
    clear x0 x1 x2 x3 lx y0 y1 y2 ly c0 c1 c2 HG bP b4
    go_wp2_with fail
    go_ret
    exact ⟨aO HR.out,dI.out⟩
   have cP:k=bn:=by omega
   have dO:=dF (by omega:bn<=k)
   have bR:Hid (bs.take k=bs):=by show _=_;rw [cP];exact List.take_of_length_le (by rw [ct.out];exact Nat.le_refl _)
   rw [bR.out] at HS bw
   have cS:Hid ((∀q:Nat,q<I→(aG I (bA 0 bs))[q]?.getD 0=1)↔sJ l.inputs.toNat (bA 0 bs)):=by
    show _↔_
    rw [dy.out]
    exact mD
   have c3:Hid ((∀q:Nat,q<on→(aG on (bA 1 bs))[q]?.getD 0=1)↔sJ l.outs.length (bA 1 bs)):=by
    show _↔_
    rw [cT.out]
    exact mD
   have c4:Hid ((∀q:Nat,q<sn→(aG sn (di bs))[q]?.getD 0=1)↔sJ l.seqs.length (di bs)):=by
    show _↔_
    rw [b2.out]
    exact mD
   have cV:Hid ((∀q:Nat,q<ln→(aG ln (eT bs))[q]?.getD 0=1)↔sJ l.luts.length (eT bs)):=by
    show _↔_
    rw [b8.out]
    exact mD
   have HU:Hid ((∀q:Nat,q<I+on+sn+ln→(aG I (bA 0 bs)++aG on (bA 1 bs)++aG sn (di bs)++aG ln (eT bs))[q]?.getD 0=1)↔fq l bs):=by
    show _↔_
    rw [Fy (lv ..) (lv ..) (lv ..) (lv ..),cS.out,c3.out,c4.out,cV.out]
    exact ⟨fun h=>⟨HF.out,by rw [ct.out];exact cH,bw.out,h.1.1.1,h.1.1.2,h.1.2,h.2⟩,fun h=>⟨⟨⟨h.ins,h.outs⟩,h.seqs⟩,h.luts⟩⟩
   clear cS c3 c4 cV cP
   go_wp2_with (at_builtin;first
    | (refine lF rfl _ _ rfl _ cC.out 0 A6 (I+on+sn) c6 _ (some ⟨g4,0,none⟩) ln ln _ rfl rfl rfl (cC.out.ints 3 rfl) (by omega) ?_;intro A7 c7 w7 S7 _;have cr:=Hd S7;clear S7)
    | (refine lF rfl _ _ rfl _ bY.out 0 A5 (I+on) c5 _ (some ⟨g3,0,none⟩) sn sn _ rfl rfl rfl (bY.out.ints 2 rfl) (by omega) ?_;intro A6 c6 w6 S6 _;have cC:=Hd S6;clear S6)
    | (refine lF rfl _ _ rfl _ HS.out 0 (some ⟨g1,0,none⟩) I I _ (some ⟨g2,0,none⟩) on on _ rfl rfl rfl (HS.out.ints 1 rfl) (by omega) ?_;intro A5 c5 w5 S5 _;have bY:=Hd S5;clear S5))
   have HO:=Hd (cr.out.ints 0 rfl)
   have de:=Hd (aA aM.out cr.out.bel)
   clear HS bY cC cr
   generalize hM:I+on+sn+ln=M at *
   have d3:M<=1099511627776:=by omega
   generalize ds:aG I (bA 0 bs)++aG on (bA 1 bs)++aG sn (di bs)++aG ln (eT bs)=U at *
   clear ds hM
   go_loopw [13] (fun i wr=>∃q:Nat,q<=M/\i = .int .i64 (q:Int)/\w7=wr/\∀j,j<q→U[j]?.getD 0=1) (fun i _=>M - (intOf i).toNat)
   ·exact ⟨0,by omega,rfl,rfl,fun j hj=>by omega⟩
   obtain ⟨q,hq,rfl,rfl,bx⟩:=hrel
   have cs:=Hd bx
   clear bx
   by_cases cm:q<M
   ·have dB:=dT (by omega:q<M)
    obtain ⟨bu,ou,df,eo,dk⟩:=HO.out.2 (by omega)
    have cu:=dk q cm
    have dL:=Hd df
    have HG:Hid (U[q]?.getD 0=1→∀j,j<q+1→U[j]?.getD 0=1):=fun h=>bW cs.out h
    have bP:Hid (U[q]?.getD 0≠1→¬fq l bs):=fun h h'=>h (HU.out.2 h' q cm)
    clear dk df
    obtain rfl:=dL.out
    generalize U[q]?.getD 0=x at *
    obtain ⟨i0,i1⟩:=ib (by omega:q<M)
    by_cases hx:x=1
    ·have dx:(x != 1)=false:=by simp [hx]
     have b6:=Hd (HG.out hx)
     clear HG bP hx
     go_wp2_with fail
     go_roundw
     ·exact ⟨q+1,by omega,by go_num,by first|rfl|trivial,b6.out⟩
     simp [intOf];omega
    have dx:(x != 1)=true:=by simp [hx]
    have HR:=Hd (bP.out hx)
    clear HG bP hx
    go_wp2_with fail
    go_ret
    exact ⟨aO HR.out,de.out⟩
   have dc:q=M:=by omega
   have dB:=dF (by omega:M<=q)
   have HR:Hid (fq l bs):=HU.out.1 (by rw [←dc];exact cs.out)
   clear cs dc
   go_wp2_with fail
   go_ret
   exact ⟨dU HR.out,de.out⟩
  have dJ:decide ((64:Int)<(bn:Int))=true:=decide_eq_true (by omega)
  have cW:decide ((bn:Int)>64)=true:=decide_eq_true (by omega)
  have HR:Hid (¬fq l bs):=fun h=>cH (by rw [←cq];exact h.len)
  go_enter Tryz.func35,Tryz.ntmps35
  go_upto_region 1 with fail
  generalize w.alloc (.cells (ai l SA LA OA sn sc ln lc on oc) 41)=W0 at *
  obtain ⟨x0,x1,x2,x3,lx⟩:=cO cj.out
  go_wp2_with fail
  refine (dQ l SA LA OA sn sc ln lc on oc _ (HN.out.below b3.out)).mono ?_
  rw [ae hf]
  rintro _ w1 ⟨rfl,b1⟩
  have aM:=Hd (aA b3.out b1)
  clear b1 x0 x1 x2 x3 lx hf cH
  go_wp2_with fail
  go_ret
  exact ⟨aO HR.out,aM.out⟩
 have HR:Hid (¬fq l bs):=fun h=>hf h.net
 go_enter Tryz.func35,Tryz.ntmps35
 go_upto_region 1 with fail
 generalize w.alloc (.cells (ai l SA LA OA sn sc ln lc on oc) 41)=W0 at *
 obtain ⟨x0,x1,x2,x3,lx⟩:=cO cj.out
 go_wp2_with fail
 refine (dQ l SA LA OA sn sc ln lc on oc _ (HN.out.below b3.out)).mono ?_
 rw [bJ hf]
 rintro _ w1 ⟨rfl,b1⟩
 have aM:=Hd (aA b3.out b1)
 clear b1 x0 x1 x2 x3 lx hf
 go_wp2_with fail
 go_ret
 exact ⟨aO HR.out,aM.out⟩
end Go.Proofs.YtofihjoanjkdmaaGreat
