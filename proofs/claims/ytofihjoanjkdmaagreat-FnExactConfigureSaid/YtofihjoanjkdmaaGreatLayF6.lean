/- The program's test of blocks (printed by mkpk.py). -/
import Derived.Deep.CutRange
import Derived.Deep.DeepCutAuto
import Derived.Test.YtofihjoanjkdmaaGreatLayF5
namespace Go.Proofs.YtofihjoanjkdmaaGreat
set_option maxHeartbeats 4000000
set_option maxRecDepth 100000
open Go.RowKit
theorem lM (l:ag) (SA LA OA:Option Addr) (sn sc ln lc on oc:Nat) (bs:List Blk) (BA:Option Addr) (bn bc:Nat) (w:World) (h:fU w l SA LA OA sn sc ln lc on oc) (hB:RdC w w.heap.size (aa bs) (.slice BA bn bc)) (cF:∀b∈bs,b.les.length<=1048576) :
  Calls Tryz.prog 45 #[jE l SA LA OA sn sc ln lc on oc,.slice BA bn bc] w fun e w'=>e = .returned (.bool (tb (fq l bs)))/\Below w.heap.size w w':=by
 have bB:=Hd (aB (Below.refl w.heap.size w) (.cells (ai l SA LA OA sn sc ln lc on oc) 41))
 have ca:=Hd (aI w (.cells (ai l SA LA OA sn sc ln lc on oc) 41))
 have cl:=hB.blkN
 obtain ⟨cn,dk,HB,HN⟩:=hd4 cl cF hB h
 clear hB cF
 obtain ⟨cj,ci,cs⟩:=h.lens
 obtain ⟨bz,bN,cH⟩:=hd3 cj ci cs
 clear h
 by_cases hf:az l
 ·by_cases ck:bn<=64
  ·have dy:decide ((64:Int)<(bn:Int))=false:=decide_eq_false (by omega)
   have dh:=hf.nseq
   have dI:=hf.nlut
   have de:=hf.nout
   have dY:=hf.inp
   rw [cj] at dh
   rw [ci] at dI
   rw [cs] at de
   have HF:=Hd hf
   obtain ⟨I,hI⟩:∃I:Nat,l.inputs=(I:Int):=⟨l.inputs.toNat,by omega⟩
   have dl:Hid (l.inputs.toNat=I):=by show _=_;omega
   have cp:=Hd hI
   have dJ:I<=20:=by omega
   obtain ⟨i0,hi,cN,cV,cP⟩:=info_parts jL
   have mk:=fun (n:Nat) (hn:n<=1048576) W=>bv (P:=Tryz.prog) 26 3 i0 _ Tryz.underlying26 hi cN .i64 .i64 n n (Nat.le_refl _) (by rw [cP];omega) (by omega) W
   rw [cV] at mk
   simp only [Nat.mul_one,show (Value.int .i64 0).cells=#[Value.int .i64 0] from rfl,nu] at mk
   have cW:=mk I (by omega)
   have du:=mk on (by omega)
   have dc:=mk sn (by omega)
   have mkL:=mk ln (by omega)
   rw [←hI] at cW
   clear mk hi cN cV cP cj ci cs hI cl
   go_enter Tryz.func45,Tryz.ntmps45
   go_upto_region 1 with fail
   generalize w.alloc (.cells (ai l SA LA OA sn sc ln lc on oc) 41)=W0 at *
   obtain ⟨x0,x1,x2,x3,lx⟩:=cO ca.out
   go_wp2_with fail
   refine (pY l SA LA OA sn sc ln lc on oc _ (HN.out.below bB.out)).mono ?_
   rw [ae hf]
   rintro _ w1 ⟨rfl,b1⟩
   have a1:=Hd (aA bB.out b1)
   have cw:=Hd (aD b1 ca.out)
   clear b1 x0 x1 x2 x3 lx hf
   obtain ⟨x0,x1,x2,x3,lx⟩:=cO cw.out
   obtain ⟨R,rfl⟩:∃x,x=w1:=⟨w1,rfl⟩
   go_upto_region 3 with fail
   go_cut [5,6] (fun p u w'=>Av R I on p u w')
   case first =>
    go_region
    all_goals
     go_wp2_with fail
     go_meet
     (try simp only [uB])
     first|exact (Bq R I on (by omega) (by omega))|exact (Br R I on (by omega) (by omega))|exact (Bq R I on (by omega) (by omega)).drew|exact (Br R I on (by omega) (by omega)).drew
   obtain ⟨g1,g2,rfl,rfl,cD⟩:=hcut
   obtain ⟨w2,rfl⟩:∃x,x=wc:=⟨wc,rfl⟩
   have ch:=Hd cD
   clear x0 x1 x2 x3 lx cD cW du
   obtain ⟨x0,x1,x2,x3,lx⟩:=cO (aD ch.out.bel cw.out)
   go_upto_region 4 with fail
   go_cut [7,8] (fun p u w'=>Av w2 sn ln p u w')
   case first =>
    go_region
    all_goals
     go_wp2_with fail
     go_meet
     (try simp only [uB])
     first|exact (Bq w2 sn ln (by omega) (by omega))|exact (Br w2 sn ln (by omega) (by omega))|exact (Bq w2 sn ln (by omega) (by omega)).drew|exact (Br w2 sn ln (by omega) (by omega)).drew
   obtain ⟨Z,g4,rfl,rfl,cS⟩:=hcut
   have dd:Hid (aJ R wc [.cel (aH (aG I (bA 0 []))) (.slice (some ⟨g1,0,none⟩) I I),.cel (aH (aG on (bA 1 []))) (.slice (some ⟨g2,0,none⟩) on on),.cel (aH (aG sn (di []))) (.slice (some ⟨Z,0,none⟩) sn sn),.cel (aH (aG ln (eT []))) (.slice (some ⟨g4,0,none⟩) ln ln)]):=ch.out.join cS
   clear x0 x1 x2 x3 lx cS dc mkL
   go_wp2_with fail
   go_loopw [38] (fun i wr=>∃k:Nat,k<=bn/\i = .int .i64 (k:Int)/\aJ R wr [.cel (aH (aG I (bA 0 (bs.take k)))) (.slice (some ⟨g1,0,none⟩) I I),.cel (aH (aG on (bA 1 (bs.take k)))) (.slice (some ⟨g2,0,none⟩) on on),.cel (aH (aG sn (di (bs.take k)))) (.slice (some ⟨Z,0,none⟩) sn sn),.cel (aH (aG ln (eT (bs.take k)))) (.slice (some ⟨g4,0,none⟩) ln ln)]/\∀b∈bs.take k,dM l b) (fun i _=>bn - (intOf i).toNat)
   ·exact ⟨0,by omega,rfl,by rw [List.take_zero];exact dd.out,by simp⟩
   obtain ⟨k,hk,rfl,hs,cf⟩:=hrel
   obtain ⟨HS,bf⟩:=hd2 hs cf
   clear hs cf
   by_cases dH:k<bn
   ·have dD:=dT (by omega:k<bn)
    have bq:k<bs.length:=by rw [cn.out];exact dH
    obtain ⟨bb,ob,EA,en,ec,dv,b5,c0,c1,c2,r2⟩:=HB.out.blk (k:=k) bq
    have V:=aA a1.out HS.out.bel
    have dW:=aK V b5
    rw [←V.cell (p:=⟨bb,ob+k * 3,none⟩) b5] at c0
    rw [←V.cell (p:=⟨bb,ob+k * 3+1,none⟩) b5] at c1
    rw [←V.cell (p:=⟨bb,ob+k * 3+2,none⟩) b5] at c2
    have bu:=Hd (mr bq)
    have bx:=dk.out _ (List.getElem_mem bq)
    have hg:dM l (bs[k]?.getD Blk.zero)→∀b∈bs.take (k+1),dM l b:=fun h b U=>by
     rw [bu.out,List.mem_append,List.mem_singleton] at U
     rcases U with U|rfl
     ·exact bf.out b U
     exact h
    have cQ:¬dM l (bs[k]?.getD Blk.zero)→¬fq l bs:=fun h h'=>h (by rw [List.getElem?_eq_getElem bq];exact h'.fit _ (List.getElem_mem bq))
    obtain ⟨HG,cu⟩:=hd2 hg cQ
    have a8:Hid ((di (bs.take k)).length<=192):=by
     show _<=_
     have h1:=ww bf.out
     rw [List.length_take] at h1
     have h2:min k bs.length * 3<=64 * 3:=Nat.mul_le_mul_right 3 (by omega)
     omega
    have bw:Hid ((eT (bs.take k)).length<=128):=by
     show _<=_
     have h1:=xA bf.out
     rw [List.length_take] at h1
     have h2:min k bs.length * 2<=64 * 2:=Nat.mul_le_mul_right 2 (by omega)
     omega
    rw [show bs[k]=bs[k]?.getD Blk.zero by rw [List.getElem?_eq_getElem bq];rfl] at bx
    clear bq hg cQ
    generalize bs[k]?.getD Blk.zero=b at *
    obtain ⟨kd,it,es⟩:=b
    simp only at c0 c1 bx
    have HE:=Hd (show RdC w w.heap.size (cZ es) (.slice EA en ec) from r2)
    have bd:Hid (es.length=en):=HE.out.esN
    have dB:en<=1048576:=by rw [←bd.out];exact bx
    clear r2 bx
    subst dv
    obtain ⟨i0,i1⟩:=ib (by omega:k<bn)
    have HA:=Hd (HS.out.alloc (.cells #[.int .i64 kd,.int .i64 it,.slice EA en ec] 89))
    have bL:=Hd (aI wr (.cells #[.int .i64 kd,.int .i64 it,.slice EA en ec] 89))
    have hx:=aD HA.out.bel cw.out
    obtain ⟨x0,x1,x2,x3,lx⟩:=cO hx
    obtain ⟨y0,y1,y2,ly⟩:=jX bL.out
    clear hx V
    go_wp2_with fail
    refine (zT l SA LA OA sn sc ln lc on oc kd it es EA en ec _ (HN.out.below (aA a1.out HA.out.bel)) HF.out (HE.out.below (aA a1.out HA.out.bel)) dB).mono ?_
    by_cases aw:dM l ⟨kd,it,es⟩
    ·rw [ae aw]
     have cd:=Hd (HG.out aw)
     have b6:=Hd (nU aw)
     have b3:Hid (en<=2):=by show _<=_;rw [←bd.out];exact lT aw
     rintro _ w4 ⟨rfl,b4⟩
     have cb:=Hd (HA.out.below b4)
     clear x0 x1 x2 x3 lx y0 y1 y2 ly c0 c1 c2 HG cu
     rcases iL aw.1 with df|dz|dm|dr
     ·subst df
      have b7:=oZ.1 aw.1
      obtain ⟨X,rfl⟩:∃X:Nat,it=(X:Int):=⟨it.toNat,by omega⟩
      have hX:X<I:=by have:=cp.out;omega
      have ao:=dX 0 (bs.take k) ⟨0,(X:Int),es⟩
      have ad:=dX 1 (bs.take k) ⟨0,(X:Int),es⟩
      have ak:=ja (bs.take k) ⟨0,(X:Int),es⟩
      have aq:=jZ (bs.take k) ⟨0,(X:Int),es⟩
      rw [←bu.out] at ao ad ak aq
      simp only [if_true,if_false,List.append_nil,Int.reduceEq] at ao ad ak aq
      have aM:=eO 0 (bs.take k)
      have aN:=eO 1 (bs.take k)
      rw [List.length_take] at aM aN
      obtain ⟨cX,fX,lX,G⟩:=eD cb.out 0 rfl hX
      have bK:=fC (bA 0 (bs.take k)) (X:Int)
      have a3:Hid (aJ R (w4.setCell ⟨g1,X,none⟩ (.int .i64 (((cnt (bA 0 (bs.take k)) (X:Int):Nat):Int)+1))) [.cel (aH (aG I (bA 0 (bs.take k)++[(X:Int)]))) (.slice (some ⟨g1,0,none⟩) I I),.cel (aH (aG on (bA 1 (bs.take k)))) (.slice (some ⟨g2,0,none⟩) on on),.cel (aH (aG sn (di (bs.take k)))) (.slice (some ⟨Z,0,none⟩) sn sn),.cel (aH (aG ln (eT (bs.take k)))) (.slice (some ⟨g4,0,none⟩) ln ln)]):=G
      clear G
      have cM:wr.heap.size≠g1:=by have:=(nV HS.out 0 rfl).1;omega
      have a7:Hid ((di (bs.take k)).length<=1000):=by show _<=_;have:=a8.out;(try rw [List.length_append,List.length_singleton]);omega
      have a5:Hid ((eT (bs.take k)).length<=1000):=by show _<=_;have:=bw.out;omega
      obtain ⟨XB,a0⟩:∃XB,bA 0 (bs.take k)++[(X:Int)]=XB:=⟨_,rfl⟩
      obtain ⟨YB,aU⟩:∃YB,bA 1 (bs.take k)=YB:=⟨_,rfl⟩
      obtain ⟨H,aV⟩:∃H,di (bs.take k)=H:=⟨_,rfl⟩
      obtain ⟨J,aZ⟩:∃J,eT (bs.take k)=J:=⟨_,rfl⟩
      rw [a0,aU,aV,aZ] at a3
      rw [a0] at ao
      rw [aU] at ad
      rw [aV] at ak a7
      rw [aZ] at aq a5
      obtain ⟨bh,bm,bo,bp⟩:=hd4 ao ad ak aq
      clear ao ad ak aq a0 aU aV aZ
      generalize cnt (bA 0 (bs.take k)) (X:Int)=q at *
      have iq:q<=10000:=by have:=a8.out;omega
      have iX:(X:Int)<(I:Int):=by omega
      clear bK
      obtain ⟨y0,y1,y2,ly⟩:=jX (aD b4 bL.out)
      clear b4 aM aN aw
      go_wp2_with fail
      clear y0 y1 y2 ly cX fX lX
      go_loopw [78] (fun i wr=>∃j:Nat,j<=en/\i = .int .i64 (j:Int)/\aJ R wr [.cel (aH (aG I (XB))) (.slice (some ⟨g1,0,none⟩) I I),.cel (aH (aG on (YB))) (.slice (some ⟨g2,0,none⟩) on on),.cel (aH (aG sn (H++bX (es.take j)))) (.slice (some ⟨Z,0,none⟩) sn sn),.cel (aH (aG ln (J++av (es.take j)))) (.slice (some ⟨g4,0,none⟩) ln ln)]) (fun i _=>en - (intOf i).toNat)
      ·exact ⟨0,by omega,rfl,by rw [List.take_zero];simpa [bX,av] using a3.out⟩
      obtain ⟨j,hj,rfl,hs⟩:=hrel
      have B:=Hd hs
      clear hs
      by_cases a9:j<en
      ·have bl:=dT (by omega:j<en)
       have aj:j<es.length:=by rw [bd.out];exact a9
       obtain ⟨be,oe,a2,aY,c0,c1⟩:=HE.out.es (k:=j) aj
       have cx:=Hd a2
       have V:=aA a1.out B.out.bel
       have cy:=aK V aY
       rw [←V.cell (p:=⟨be,oe+j * 2,none⟩) aY] at c0
       rw [←V.cell (p:=⟨be,oe+j * 2+1,none⟩) aY] at c1
       have aL:=b6.out _ (List.getElem_mem aj)
       have g:=kN (es.take j) (es[j]?.getD LeT.zero)
       have z:=jY (es.take j) (es[j]?.getD LeT.zero)
       rw [←bU aj] at g z
       have ah:=kz (es.take j)
       have am:=jh (es.take j)
       rw [List.length_take] at ah am
       rw [show es[j]=es[j]?.getD LeT.zero by rw [List.getElem?_eq_getElem aj];rfl] at aL
       have Q:=aL.lut.2
       have K:=aL.ff.2
       rw [bN.out] at Q
       rw [bz.out] at K
       have D:=b3.out
       have ay:=a7.out
       have aC:=a5.out
       clear aL aj V
       generalize es[j]?.getD LeT.zero=e at *
       obtain ⟨a,b⟩:=e
       simp only at Q K g z c0 c1
       obtain ⟨i0,i1⟩:=ib (by omega:j<en)
       have aF:=Hd (B.out.alloc (.cells #[.int .i64 a,.int .i64 b] 94))
       have hq:=aI wr (.cells #[.int .i64 a,.int .i64 b] 94)
       have HQ:=Hd hq
       obtain ⟨q0,q1,lq⟩:=jv hq
       have ap:=fC (H++bX (es.take j)) b
       have al:=fC (J++av (es.take j)) a
       rw [List.length_append] at ap al
       clear hq
       subst a2
       have bR:wr.heap.size≠Z:=by have:=(nV B.out 2 rfl).1;omega
       have bS:wr.heap.size≠g4:=by have:=(nV B.out 3 rfl).1;omega
       have cm:Z≠g4:=xg B.out 2 3 (by decide) rfl rfl
       by_cases ha:0<=a
       ·have da:decide (a≥0)=true:=decide_eq_true ha
        rw [if_pos ha] at z
        obtain ⟨X,rfl⟩:=Int.eq_ofNat_of_zero_le ha
        have bj:X<ln:=by omega
        obtain ⟨cX,fX,lX,G⟩:=eD aF.out 3 rfl bj
        by_cases U:0<=b
        ·have db:decide (b≥0)=true:=decide_eq_true U
         rw [if_pos U] at g
         obtain ⟨Y,rfl⟩:=Int.eq_ofNat_of_zero_le U
         have aE:Y<sn:=by omega
         obtain ⟨cY,fY,lY,ar⟩:=eD G 2 rfl aE
         obtain ⟨cA,cv,cq,_⟩:=eD aF.out 2 rfl aE
         have HN:=Hd ar
         have HR:Hid (aJ R (((wr.alloc (.cells #[.int .i64 (X:Int),.int .i64 (Y:Int)] 94)).setCell ⟨g4,X,none⟩ (.int .i64 (((cnt (J++av (es.take j)) (X:Int):Nat):Int)+1))).setCell ⟨Z,Y,none⟩ (.int .i64 (((cnt (H++bX (es.take j)) (Y:Int):Nat):Int)+1))) [.cel (aH (aG I (XB))) (.slice (some ⟨g1,0,none⟩) I I),.cel (aH (aG on (YB))) (.slice (some ⟨g2,0,none⟩) on on),.cel (aH (aG sn (H++bX (es.take (j+1))))) (.slice (some ⟨Z,0,none⟩) sn sn),.cel (aH (aG ln (J++av (es.take (j+1))))) (.slice (some ⟨g4,0,none⟩) ln ln)]):=by
          show aJ R _ _
          rw [g,z,←List.append_assoc,←List.append_assoc]
          exact HN.out
         clear G ar cY fY lY g z HN
         generalize cnt (J++av (es.take j)) (X:Int)=aX at *
         generalize cnt (H++bX (es.take j)) (Y:Int)=aW at *
         have iX:(X:Int)<(ln:Int):=by omega
         have iY:(Y:Int)<(sn:Int):=by omega
         have bk:aX<=10000:=by omega
         have bt:aW<=10000:=by omega
         clear ap al ah am D ay aC Q K
         go_wp2_with fail
         go_roundw
         ·exact ⟨j+1,by omega,by go_num,HR.out⟩
         simp [intOf];omega
        have db:decide (b≥0)=false:=decide_eq_false U
        rw [if_neg U,List.append_nil] at g
        have HN:=Hd G
        have HR:Hid (aJ R ((wr.alloc (.cells #[.int .i64 (X:Int),.int .i64 b] 94)).setCell ⟨g4,X,none⟩ (.int .i64 (((cnt (J++av (es.take j)) (X:Int):Nat):Int)+1))) [.cel (aH (aG I (XB))) (.slice (some ⟨g1,0,none⟩) I I),.cel (aH (aG on (YB))) (.slice (some ⟨g2,0,none⟩) on on),.cel (aH (aG sn (H++bX (es.take (j+1))))) (.slice (some ⟨Z,0,none⟩) sn sn),.cel (aH (aG ln (J++av (es.take (j+1))))) (.slice (some ⟨g4,0,none⟩) ln ln)]):=by
         show aJ R _ _
         rw [g,z,←List.append_assoc]
         exact HN.out
        clear G g z HN
        generalize cnt (J++av (es.take j)) (X:Int)=aX at *
        have iX:(X:Int)<(ln:Int):=by omega
        have bk:aX<=10000:=by omega
        clear ap al ah am D ay aC Q K
        go_wp2_with fail
        go_roundw
        ·exact ⟨j+1,by omega,by go_num,HR.out⟩
        simp [intOf];omega
       have da:decide (a≥0)=false:=decide_eq_false ha
       rw [if_neg ha,List.append_nil] at z
       by_cases U:0<=b
       ·have db:decide (b≥0)=true:=decide_eq_true U
        rw [if_pos U] at g
        obtain ⟨Y,rfl⟩:=Int.eq_ofNat_of_zero_le U
        have aE:Y<sn:=by omega
        obtain ⟨cY,fY,lY,ar⟩:=eD aF.out 2 rfl aE
        have HN:=Hd ar
        have HR:Hid (aJ R ((wr.alloc (.cells #[.int .i64 a,.int .i64 (Y:Int)] 94)).setCell ⟨Z,Y,none⟩ (.int .i64 (((cnt (H++bX (es.take j)) (Y:Int):Nat):Int)+1))) [.cel (aH (aG I (XB))) (.slice (some ⟨g1,0,none⟩) I I),.cel (aH (aG on (YB))) (.slice (some ⟨g2,0,none⟩) on on),.cel (aH (aG sn (H++bX (es.take (j+1))))) (.slice (some ⟨Z,0,none⟩) sn sn),.cel (aH (aG ln (J++av (es.take (j+1))))) (.slice (some ⟨g4,0,none⟩) ln ln)]):=by
         show aJ R _ _
         rw [g,z,←List.append_assoc]
         exact HN.out
        clear ar g z HN
        generalize cnt (H++bX (es.take j)) (Y:Int)=aW at *
        have iY:(Y:Int)<(sn:Int):=by omega
        have bt:aW<=10000:=by omega
        clear ap al ah am D ay aC Q K
        go_wp2_with fail
        go_roundw
        ·exact ⟨j+1,by omega,by go_num,HR.out⟩
        simp [intOf];omega
       have db:decide (b≥0)=false:=decide_eq_false U
       rw [if_neg U,List.append_nil] at g
       have HR:Hid (aJ R (wr.alloc (.cells #[.int .i64 a,.int .i64 b] 94)) [.cel (aH (aG I (XB))) (.slice (some ⟨g1,0,none⟩) I I),.cel (aH (aG on (YB))) (.slice (some ⟨g2,0,none⟩) on on),.cel (aH (aG sn (H++bX (es.take (j+1))))) (.slice (some ⟨Z,0,none⟩) sn sn),.cel (aH (aG ln (J++av (es.take (j+1))))) (.slice (some ⟨g4,0,none⟩) ln ln)]):=by
        show aJ R _ _
        rw [g,z]
        exact aF.out
       clear g z ap al ah am D ay aC Q K
       go_wp2_with fail
       go_roundw
       ·exact ⟨j+1,by omega,by go_num,HR.out⟩
       simp [intOf];omega
      have a4:j=en:=by omega
      have bl:=dF (by omega:en<=j)
      have HD:Hid (aJ R wr [.cel (aH (aG I (XB))) (.slice (some ⟨g1,0,none⟩) I I),.cel (aH (aG on (YB))) (.slice (some ⟨g2,0,none⟩) on on),.cel (aH (aG sn (H++bX es))) (.slice (some ⟨Z,0,none⟩) sn sn),.cel (aH (aG ln (J++av es))) (.slice (some ⟨g4,0,none⟩) ln ln)]):=by
       have h:=B.out
       show aJ R _ _
       rwa [a4,List.take_of_length_le (by rw [bd.out];exact Nat.le_refl _)] at h
      clear B a4
      go_wp2_with fail
      go_roundw
      ·exact ⟨k+1,by omega,by go_num,by rw [bh.out,bm.out,bo.out,bp.out];exact HD.out,cd.out⟩
      simp [intOf];omega
     ·subst dz
      have b7:=og.1 aw.1
      rw [cH.out] at b7
      obtain ⟨X,rfl⟩:∃X:Nat,it=(X:Int):=⟨it.toNat,by omega⟩
      have hX:X<on:=by have:=cp.out;omega
      have ao:=dX 0 (bs.take k) ⟨1,(X:Int),es⟩
      have ad:=dX 1 (bs.take k) ⟨1,(X:Int),es⟩
      have ak:=ja (bs.take k) ⟨1,(X:Int),es⟩
      have aq:=jZ (bs.take k) ⟨1,(X:Int),es⟩
      rw [←bu.out] at ao ad ak aq
      simp only [Int.reduceEq,reduceIte,List.append_nil] at ao ad ak aq
      have aM:=eO 0 (bs.take k)
      have aN:=eO 1 (bs.take k)
      rw [List.length_take] at aM aN
      obtain ⟨cX,fX,lX,G⟩:=eD cb.out 1 rfl hX
      have bK:=fC (bA 1 (bs.take k)) (X:Int)
      have a3:Hid (aJ R (w4.setCell ⟨g2,X,none⟩ (.int .i64 (((cnt (bA 1 (bs.take k)) (X:Int):Nat):Int)+1))) [.cel (aH (aG I (bA 0 (bs.take k)))) (.slice (some ⟨g1,0,none⟩) I I),.cel (aH (aG on (bA 1 (bs.take k)++[(X:Int)]))) (.slice (some ⟨g2,0,none⟩) on on),.cel (aH (aG sn (di (bs.take k)))) (.slice (some ⟨Z,0,none⟩) sn sn),.cel (aH (aG ln (eT (bs.take k)))) (.slice (some ⟨g4,0,none⟩) ln ln)]):=G
      clear G
      have cM:wr.heap.size≠g2:=by have:=(nV HS.out 1 rfl).1;omega
      have a7:Hid ((di (bs.take k)).length<=1000):=by show _<=_;have:=a8.out;(try rw [List.length_append,List.length_singleton]);omega
      have a5:Hid ((eT (bs.take k)).length<=1000):=by show _<=_;have:=bw.out;omega
      obtain ⟨XB,a0⟩:∃XB,bA 0 (bs.take k)=XB:=⟨_,rfl⟩
      obtain ⟨YB,aU⟩:∃YB,bA 1 (bs.take k)++[(X:Int)]=YB:=⟨_,rfl⟩
      obtain ⟨H,aV⟩:∃H,di (bs.take k)=H:=⟨_,rfl⟩
      obtain ⟨J,aZ⟩:∃J,eT (bs.take k)=J:=⟨_,rfl⟩
      rw [a0,aU,aV,aZ] at a3
      rw [a0] at ao
      rw [aU] at ad
      rw [aV] at ak a7
      rw [aZ] at aq a5
      obtain ⟨bh,bm,bo,bp⟩:=hd4 ao ad ak aq
      clear ao ad ak aq a0 aU aV aZ
      generalize cnt (bA 1 (bs.take k)) (X:Int)=q at *
      have iq:q<=10000:=by have:=a8.out;omega
      have iX:(X:Int)<(on:Int):=by omega
      clear bK
      obtain ⟨y0,y1,y2,ly⟩:=jX (aD b4 bL.out)
      clear b4 aM aN aw
      go_wp2_with fail
      clear y0 y1 y2 ly cX fX lX
      go_loopw [78] (fun i wr=>∃j:Nat,j<=en/\i = .int .i64 (j:Int)/\aJ R wr [.cel (aH (aG I (XB))) (.slice (some ⟨g1,0,none⟩) I I),.cel (aH (aG on (YB))) (.slice (some ⟨g2,0,none⟩) on on),.cel (aH (aG sn (H++bX (es.take j)))) (.slice (some ⟨Z,0,none⟩) sn sn),.cel (aH (aG ln (J++av (es.take j)))) (.slice (some ⟨g4,0,none⟩) ln ln)]) (fun i _=>en - (intOf i).toNat)
      ·exact ⟨0,by omega,rfl,by rw [List.take_zero];simpa [bX,av] using a3.out⟩
      obtain ⟨j,hj,rfl,hs⟩:=hrel
      have B:=Hd hs
      clear hs
      by_cases a9:j<en
      ·have bl:=dT (by omega:j<en)
       have aj:j<es.length:=by rw [bd.out];exact a9
       obtain ⟨be,oe,a2,aY,c0,c1⟩:=HE.out.es (k:=j) aj
       have cx:=Hd a2
       have V:=aA a1.out B.out.bel
       have cy:=aK V aY
       rw [←V.cell (p:=⟨be,oe+j * 2,none⟩) aY] at c0
       rw [←V.cell (p:=⟨be,oe+j * 2+1,none⟩) aY] at c1
       have aL:=b6.out _ (List.getElem_mem aj)
       have g:=kN (es.take j) (es[j]?.getD LeT.zero)
       have z:=jY (es.take j) (es[j]?.getD LeT.zero)
       rw [←bU aj] at g z
       have ah:=kz (es.take j)
       have am:=jh (es.take j)
       rw [List.length_take] at ah am
       rw [show es[j]=es[j]?.getD LeT.zero by rw [List.getElem?_eq_getElem aj];rfl] at aL
       have Q:=aL.lut.2
       have K:=aL.ff.2
       rw [bN.out] at Q
       rw [bz.out] at K
       have D:=b3.out
       have ay:=a7.out
       have aC:=a5.out
       clear aL aj V
       generalize es[j]?.getD LeT.zero=e at *
       obtain ⟨a,b⟩:=e
       simp only at Q K g z c0 c1
       obtain ⟨i0,i1⟩:=ib (by omega:j<en)
       have aF:=Hd (B.out.alloc (.cells #[.int .i64 a,.int .i64 b] 94))
       have hq:=aI wr (.cells #[.int .i64 a,.int .i64 b] 94)
       have HQ:=Hd hq
       obtain ⟨q0,q1,lq⟩:=jv hq
       have ap:=fC (H++bX (es.take j)) b
       have al:=fC (J++av (es.take j)) a
       rw [List.length_append] at ap al
       clear hq
       subst a2
       have bR:wr.heap.size≠Z:=by have:=(nV B.out 2 rfl).1;omega
       have bS:wr.heap.size≠g4:=by have:=(nV B.out 3 rfl).1;omega
       have cm:Z≠g4:=xg B.out 2 3 (by decide) rfl rfl
       by_cases ha:0<=a
       ·have da:decide (a≥0)=true:=decide_eq_true ha
        rw [if_pos ha] at z
        obtain ⟨X,rfl⟩:=Int.eq_ofNat_of_zero_le ha
        have bj:X<ln:=by omega
        obtain ⟨cX,fX,lX,G⟩:=eD aF.out 3 rfl bj
        by_cases U:0<=b
        ·have db:decide (b≥0)=true:=decide_eq_true U
         rw [if_pos U] at g
         obtain ⟨Y,rfl⟩:=Int.eq_ofNat_of_zero_le U
         have aE:Y<sn:=by omega
         obtain ⟨cY,fY,lY,ar⟩:=eD G 2 rfl aE
         obtain ⟨cA,cv,cq,_⟩:=eD aF.out 2 rfl aE
         have HN:=Hd ar
         have HR:Hid (aJ R (((wr.alloc (.cells #[.int .i64 (X:Int),.int .i64 (Y:Int)] 94)).setCell ⟨g4,X,none⟩ (.int .i64 (((cnt (J++av (es.take j)) (X:Int):Nat):Int)+1))).setCell ⟨Z,Y,none⟩ (.int .i64 (((cnt (H++bX (es.take j)) (Y:Int):Nat):Int)+1))) [.cel (aH (aG I (XB))) (.slice (some ⟨g1,0,none⟩) I I),.cel (aH (aG on (YB))) (.slice (some ⟨g2,0,none⟩) on on),.cel (aH (aG sn (H++bX (es.take (j+1))))) (.slice (some ⟨Z,0,none⟩) sn sn),.cel (aH (aG ln (J++av (es.take (j+1))))) (.slice (some ⟨g4,0,none⟩) ln ln)]):=by
          show aJ R _ _
          rw [g,z,←List.append_assoc,←List.append_assoc]
          exact HN.out
         clear G ar cY fY lY g z HN
         generalize cnt (J++av (es.take j)) (X:Int)=aX at *
         generalize cnt (H++bX (es.take j)) (Y:Int)=aW at *
         have iX:(X:Int)<(ln:Int):=by omega
         have iY:(Y:Int)<(sn:Int):=by omega
         have bk:aX<=10000:=by omega
         have bt:aW<=10000:=by omega
         clear ap al ah am D ay aC Q K
         go_wp2_with fail
         go_roundw
         ·exact ⟨j+1,by omega,by go_num,HR.out⟩
         simp [intOf];omega
        have db:decide (b≥0)=false:=decide_eq_false U
        rw [if_neg U,List.append_nil] at g
        have HN:=Hd G
        have HR:Hid (aJ R ((wr.alloc (.cells #[.int .i64 (X:Int),.int .i64 b] 94)).setCell ⟨g4,X,none⟩ (.int .i64 (((cnt (J++av (es.take j)) (X:Int):Nat):Int)+1))) [.cel (aH (aG I (XB))) (.slice (some ⟨g1,0,none⟩) I I),.cel (aH (aG on (YB))) (.slice (some ⟨g2,0,none⟩) on on),.cel (aH (aG sn (H++bX (es.take (j+1))))) (.slice (some ⟨Z,0,none⟩) sn sn),.cel (aH (aG ln (J++av (es.take (j+1))))) (.slice (some ⟨g4,0,none⟩) ln ln)]):=by
         show aJ R _ _
         rw [g,z,←List.append_assoc]
         exact HN.out
        clear G g z HN
        generalize cnt (J++av (es.take j)) (X:Int)=aX at *
        have iX:(X:Int)<(ln:Int):=by omega
        have bk:aX<=10000:=by omega
        clear ap al ah am D ay aC Q K
        go_wp2_with fail
        go_roundw
        ·exact ⟨j+1,by omega,by go_num,HR.out⟩
        simp [intOf];omega
       have da:decide (a≥0)=false:=decide_eq_false ha
       rw [if_neg ha,List.append_nil] at z
       by_cases U:0<=b
       ·have db:decide (b≥0)=true:=decide_eq_true U
        rw [if_pos U] at g
        obtain ⟨Y,rfl⟩:=Int.eq_ofNat_of_zero_le U
        have aE:Y<sn:=by omega
        obtain ⟨cY,fY,lY,ar⟩:=eD aF.out 2 rfl aE
        have HN:=Hd ar
        have HR:Hid (aJ R ((wr.alloc (.cells #[.int .i64 a,.int .i64 (Y:Int)] 94)).setCell ⟨Z,Y,none⟩ (.int .i64 (((cnt (H++bX (es.take j)) (Y:Int):Nat):Int)+1))) [.cel (aH (aG I (XB))) (.slice (some ⟨g1,0,none⟩) I I),.cel (aH (aG on (YB))) (.slice (some ⟨g2,0,none⟩) on on),.cel (aH (aG sn (H++bX (es.take (j+1))))) (.slice (some ⟨Z,0,none⟩) sn sn),.cel (aH (aG ln (J++av (es.take (j+1))))) (.slice (some ⟨g4,0,none⟩) ln ln)]):=by
         show aJ R _ _
         rw [g,z,←List.append_assoc]
         exact HN.out
        clear ar g z HN
        generalize cnt (H++bX (es.take j)) (Y:Int)=aW at *
        have iY:(Y:Int)<(sn:Int):=by omega
        have bt:aW<=10000:=by omega
        clear ap al ah am D ay aC Q K
        go_wp2_with fail
        go_roundw
        ·exact ⟨j+1,by omega,by go_num,HR.out⟩
        simp [intOf];omega
       have db:decide (b≥0)=false:=decide_eq_false U
       rw [if_neg U,List.append_nil] at g
       have HR:Hid (aJ R (wr.alloc (.cells #[.int .i64 a,.int .i64 b] 94)) [.cel (aH (aG I (XB))) (.slice (some ⟨g1,0,none⟩) I I),.cel (aH (aG on (YB))) (.slice (some ⟨g2,0,none⟩) on on),.cel (aH (aG sn (H++bX (es.take (j+1))))) (.slice (some ⟨Z,0,none⟩) sn sn),.cel (aH (aG ln (J++av (es.take (j+1))))) (.slice (some ⟨g4,0,none⟩) ln ln)]):=by
        show aJ R _ _
        rw [g,z]
        exact aF.out
       clear g z ap al ah am D ay aC Q K
       go_wp2_with fail
       go_roundw
       ·exact ⟨j+1,by omega,by go_num,HR.out⟩
       simp [intOf];omega
      have a4:j=en:=by omega
      have bl:=dF (by omega:en<=j)
      have HD:Hid (aJ R wr [.cel (aH (aG I (XB))) (.slice (some ⟨g1,0,none⟩) I I),.cel (aH (aG on (YB))) (.slice (some ⟨g2,0,none⟩) on on),.cel (aH (aG sn (H++bX es))) (.slice (some ⟨Z,0,none⟩) sn sn),.cel (aH (aG ln (J++av es))) (.slice (some ⟨g4,0,none⟩) ln ln)]):=by
       have h:=B.out
       show aJ R _ _
       rwa [a4,List.take_of_length_le (by rw [bd.out];exact Nat.le_refl _)] at h
      clear B a4
      go_wp2_with fail
      go_roundw
      ·exact ⟨k+1,by omega,by go_num,by rw [bh.out,bm.out,bo.out,bp.out];exact HD.out,cd.out⟩
      simp [intOf];omega
     ·subst dm
      have b7:=jW.1 aw.1
      rw [bz.out] at b7
      obtain ⟨X,rfl⟩:∃X:Nat,it=(X:Int):=⟨it.toNat,by omega⟩
      have hX:X<sn:=by have:=cp.out;omega
      have ao:=dX 0 (bs.take k) ⟨2,(X:Int),es⟩
      have ad:=dX 1 (bs.take k) ⟨2,(X:Int),es⟩
      have ak:=ja (bs.take k) ⟨2,(X:Int),es⟩
      have aq:=jZ (bs.take k) ⟨2,(X:Int),es⟩
      rw [←bu.out] at ao ad ak aq
      simp only [Int.reduceEq,reduceIte,List.append_nil] at ao ad ak aq
      have aM:=eO 0 (bs.take k)
      have aN:=eO 1 (bs.take k)
      rw [List.length_take] at aM aN
      obtain ⟨cX,fX,lX,G⟩:=eD cb.out 2 rfl hX
      have bK:=fC (di (bs.take k)) (X:Int)
      have a3:Hid (aJ R (w4.setCell ⟨Z,X,none⟩ (.int .i64 (((cnt (di (bs.take k)) (X:Int):Nat):Int)+1))) [.cel (aH (aG I (bA 0 (bs.take k)))) (.slice (some ⟨g1,0,none⟩) I I),.cel (aH (aG on (bA 1 (bs.take k)))) (.slice (some ⟨g2,0,none⟩) on on),.cel (aH (aG sn (di (bs.take k)++[(X:Int)]))) (.slice (some ⟨Z,0,none⟩) sn sn),.cel (aH (aG ln (eT (bs.take k)))) (.slice (some ⟨g4,0,none⟩) ln ln)]):=G
      clear G
      have cM:wr.heap.size≠Z:=by have:=(nV HS.out 2 rfl).1;omega
      have a7:Hid ((di (bs.take k)++[(X:Int)]).length<=1000):=by show _<=_;have:=a8.out;(try rw [List.length_append,List.length_singleton]);omega
      have a5:Hid ((eT (bs.take k)).length<=1000):=by show _<=_;have:=bw.out;omega
      obtain ⟨XB,a0⟩:∃XB,bA 0 (bs.take k)=XB:=⟨_,rfl⟩
      obtain ⟨YB,aU⟩:∃YB,bA 1 (bs.take k)=YB:=⟨_,rfl⟩
      obtain ⟨H,aV⟩:∃H,di (bs.take k)++[(X:Int)]=H:=⟨_,rfl⟩
      obtain ⟨J,aZ⟩:∃J,eT (bs.take k)=J:=⟨_,rfl⟩
      rw [a0,aU,aV,aZ] at a3
      rw [a0] at ao
      rw [aU] at ad
      rw [aV] at ak a7
      rw [aZ] at aq a5
      obtain ⟨bh,bm,bo,bp⟩:=hd4 ao ad ak aq
      clear ao ad ak aq a0 aU aV aZ
      generalize cnt (di (bs.take k)) (X:Int)=q at *
      have iq:q<=10000:=by have:=a8.out;omega
      have iX:(X:Int)<(sn:Int):=by omega
      clear bK
      obtain ⟨y0,y1,y2,ly⟩:=jX (aD b4 bL.out)
      clear b4 aM aN aw
      go_wp2_with fail
      clear y0 y1 y2 ly cX fX lX
      go_loopw [78] (fun i wr=>∃j:Nat,j<=en/\i = .int .i64 (j:Int)/\aJ R wr [.cel (aH (aG I (XB))) (.slice (some ⟨g1,0,none⟩) I I),.cel (aH (aG on (YB))) (.slice (some ⟨g2,0,none⟩) on on),.cel (aH (aG sn (H++bX (es.take j)))) (.slice (some ⟨Z,0,none⟩) sn sn),.cel (aH (aG ln (J++av (es.take j)))) (.slice (some ⟨g4,0,none⟩) ln ln)]) (fun i _=>en - (intOf i).toNat)
      ·exact ⟨0,by omega,rfl,by rw [List.take_zero];simpa [bX,av] using a3.out⟩
      obtain ⟨j,hj,rfl,hs⟩:=hrel
      have B:=Hd hs
      clear hs
      by_cases a9:j<en
      ·have bl:=dT (by omega:j<en)
       have aj:j<es.length:=by rw [bd.out];exact a9
       obtain ⟨be,oe,a2,aY,c0,c1⟩:=HE.out.es (k:=j) aj
       have cx:=Hd a2
       have V:=aA a1.out B.out.bel
       have cy:=aK V aY
       rw [←V.cell (p:=⟨be,oe+j * 2,none⟩) aY] at c0
       rw [←V.cell (p:=⟨be,oe+j * 2+1,none⟩) aY] at c1
       have aL:=b6.out _ (List.getElem_mem aj)
       have g:=kN (es.take j) (es[j]?.getD LeT.zero)
       have z:=jY (es.take j) (es[j]?.getD LeT.zero)
       rw [←bU aj] at g z
       have ah:=kz (es.take j)
       have am:=jh (es.take j)
       rw [List.length_take] at ah am
       rw [show es[j]=es[j]?.getD LeT.zero by rw [List.getElem?_eq_getElem aj];rfl] at aL
       have Q:=aL.lut.2
       have K:=aL.ff.2
       rw [bN.out] at Q
       rw [bz.out] at K
       have D:=b3.out
       have ay:=a7.out
       have aC:=a5.out
       clear aL aj V
       generalize es[j]?.getD LeT.zero=e at *
       obtain ⟨a,b⟩:=e
       simp only at Q K g z c0 c1
       obtain ⟨i0,i1⟩:=ib (by omega:j<en)
       have aF:=Hd (B.out.alloc (.cells #[.int .i64 a,.int .i64 b] 94))
       have hq:=aI wr (.cells #[.int .i64 a,.int .i64 b] 94)
       have HQ:=Hd hq
       obtain ⟨q0,q1,lq⟩:=jv hq
       have ap:=fC (H++bX (es.take j)) b
       have al:=fC (J++av (es.take j)) a
       rw [List.length_append] at ap al
       clear hq
       subst a2
       have bR:wr.heap.size≠Z:=by have:=(nV B.out 2 rfl).1;omega
       have bS:wr.heap.size≠g4:=by have:=(nV B.out 3 rfl).1;omega
       have cm:Z≠g4:=xg B.out 2 3 (by decide) rfl rfl
       by_cases ha:0<=a
       ·have da:decide (a≥0)=true:=decide_eq_true ha
        rw [if_pos ha] at z
        obtain ⟨X,rfl⟩:=Int.eq_ofNat_of_zero_le ha
        have bj:X<ln:=by omega
        obtain ⟨cX,fX,lX,G⟩:=eD aF.out 3 rfl bj
        by_cases U:0<=b
        ·have db:decide (b≥0)=true:=decide_eq_true U
         rw [if_pos U] at g
         obtain ⟨Y,rfl⟩:=Int.eq_ofNat_of_zero_le U
         have aE:Y<sn:=by omega
         obtain ⟨cY,fY,lY,ar⟩:=eD G 2 rfl aE
         obtain ⟨cA,cv,cq,_⟩:=eD aF.out 2 rfl aE
         have HN:=Hd ar
         have HR:Hid (aJ R (((wr.alloc (.cells #[.int .i64 (X:Int),.int .i64 (Y:Int)] 94)).setCell ⟨g4,X,none⟩ (.int .i64 (((cnt (J++av (es.take j)) (X:Int):Nat):Int)+1))).setCell ⟨Z,Y,none⟩ (.int .i64 (((cnt (H++bX (es.take j)) (Y:Int):Nat):Int)+1))) [.cel (aH (aG I (XB))) (.slice (some ⟨g1,0,none⟩) I I),.cel (aH (aG on (YB))) (.slice (some ⟨g2,0,none⟩) on on),.cel (aH (aG sn (H++bX (es.take (j+1))))) (.slice (some ⟨Z,0,none⟩) sn sn),.cel (aH (aG ln (J++av (es.take (j+1))))) (.slice (some ⟨g4,0,none⟩) ln ln)]):=by
          show aJ R _ _
          rw [g,z,←List.append_assoc,←List.append_assoc]
          exact HN.out
         clear G ar cY fY lY g z HN
         generalize cnt (J++av (es.take j)) (X:Int)=aX at *
         generalize cnt (H++bX (es.take j)) (Y:Int)=aW at *
         have iX:(X:Int)<(ln:Int):=by omega
         have iY:(Y:Int)<(sn:Int):=by omega
         have bk:aX<=10000:=by omega
         have bt:aW<=10000:=by omega
         clear ap al ah am D ay aC Q K
         go_wp2_with fail
         go_roundw
         ·exact ⟨j+1,by omega,by go_num,HR.out⟩
         simp [intOf];omega
        have db:decide (b≥0)=false:=decide_eq_false U
        rw [if_neg U,List.append_nil] at g
        have HN:=Hd G
        have HR:Hid (aJ R ((wr.alloc (.cells #[.int .i64 (X:Int),.int .i64 b] 94)).setCell ⟨g4,X,none⟩ (.int .i64 (((cnt (J++av (es.take j)) (X:Int):Nat):Int)+1))) [.cel (aH (aG I (XB))) (.slice (some ⟨g1,0,none⟩) I I),.cel (aH (aG on (YB))) (.slice (some ⟨g2,0,none⟩) on on),.cel (aH (aG sn (H++bX (es.take (j+1))))) (.slice (some ⟨Z,0,none⟩) sn sn),.cel (aH (aG ln (J++av (es.take (j+1))))) (.slice (some ⟨g4,0,none⟩) ln ln)]):=by
         show aJ R _ _
         rw [g,z,←List.append_assoc]
         exact HN.out
        clear G g z HN
        generalize cnt (J++av (es.take j)) (X:Int)=aX at *
        have iX:(X:Int)<(ln:Int):=by omega
        have bk:aX<=10000:=by omega
        clear ap al ah am D ay aC Q K
        go_wp2_with fail
        go_roundw
        ·exact ⟨j+1,by omega,by go_num,HR.out⟩
        simp [intOf];omega
       have da:decide (a≥0)=false:=decide_eq_false ha
       rw [if_neg ha,List.append_nil] at z
       by_cases U:0<=b
       ·have db:decide (b≥0)=true:=decide_eq_true U
        rw [if_pos U] at g
        obtain ⟨Y,rfl⟩:=Int.eq_ofNat_of_zero_le U
        have aE:Y<sn:=by omega
        obtain ⟨cY,fY,lY,ar⟩:=eD aF.out 2 rfl aE
        have HN:=Hd ar
        have HR:Hid (aJ R ((wr.alloc (.cells #[.int .i64 a,.int .i64 (Y:Int)] 94)).setCell ⟨Z,Y,none⟩ (.int .i64 (((cnt (H++bX (es.take j)) (Y:Int):Nat):Int)+1))) [.cel (aH (aG I (XB))) (.slice (some ⟨g1,0,none⟩) I I),.cel (aH (aG on (YB))) (.slice (some ⟨g2,0,none⟩) on on),.cel (aH (aG sn (H++bX (es.take (j+1))))) (.slice (some ⟨Z,0,none⟩) sn sn),.cel (aH (aG ln (J++av (es.take (j+1))))) (.slice (some ⟨g4,0,none⟩) ln ln)]):=by
         show aJ R _ _
         rw [g,z,←List.append_assoc]
         exact HN.out
        clear ar g z HN
        generalize cnt (H++bX (es.take j)) (Y:Int)=aW at *
        have iY:(Y:Int)<(sn:Int):=by omega
        have bt:aW<=10000:=by omega
        clear ap al ah am D ay aC Q K
        go_wp2_with fail
        go_roundw
        ·exact ⟨j+1,by omega,by go_num,HR.out⟩
        simp [intOf];omega
       have db:decide (b≥0)=false:=decide_eq_false U
       rw [if_neg U,List.append_nil] at g
       have HR:Hid (aJ R (wr.alloc (.cells #[.int .i64 a,.int .i64 b] 94)) [.cel (aH (aG I (XB))) (.slice (some ⟨g1,0,none⟩) I I),.cel (aH (aG on (YB))) (.slice (some ⟨g2,0,none⟩) on on),.cel (aH (aG sn (H++bX (es.take (j+1))))) (.slice (some ⟨Z,0,none⟩) sn sn),.cel (aH (aG ln (J++av (es.take (j+1))))) (.slice (some ⟨g4,0,none⟩) ln ln)]):=by
        show aJ R _ _
        rw [g,z]
        exact aF.out
       clear g z ap al ah am D ay aC Q K
       go_wp2_with fail
       go_roundw
       ·exact ⟨j+1,by omega,by go_num,HR.out⟩
       simp [intOf];omega
      have a4:j=en:=by omega
      have bl:=dF (by omega:en<=j)
      have HD:Hid (aJ R wr [.cel (aH (aG I (XB))) (.slice (some ⟨g1,0,none⟩) I I),.cel (aH (aG on (YB))) (.slice (some ⟨g2,0,none⟩) on on),.cel (aH (aG sn (H++bX es))) (.slice (some ⟨Z,0,none⟩) sn sn),.cel (aH (aG ln (J++av es))) (.slice (some ⟨g4,0,none⟩) ln ln)]):=by
       have h:=B.out
       show aJ R _ _
       rwa [a4,List.take_of_length_le (by rw [bd.out];exact Nat.le_refl _)] at h
      clear B a4
      go_wp2_with fail
      go_roundw
      ·exact ⟨k+1,by omega,by go_num,by rw [bh.out,bm.out,bo.out,bp.out];exact HD.out,cd.out⟩
      simp [intOf];omega
     subst dr
     have ao:=dX 0 (bs.take k) ⟨3,it,es⟩
     have ad:=dX 1 (bs.take k) ⟨3,it,es⟩
     have ak:=ja (bs.take k) ⟨3,it,es⟩
     have aq:=jZ (bs.take k) ⟨3,it,es⟩
     rw [←bu.out] at ao ad ak aq
     simp only [Int.reduceEq,reduceIte,List.append_nil] at ao ad ak aq
     have aM:=eO 0 (bs.take k)
     have aN:=eO 1 (bs.take k)
     rw [List.length_take] at aM aN
     have a3:Hid (aJ R w4 [.cel (aH (aG I (bA 0 (bs.take k)))) (.slice (some ⟨g1,0,none⟩) I I),.cel (aH (aG on (bA 1 (bs.take k)))) (.slice (some ⟨g2,0,none⟩) on on),.cel (aH (aG sn (di (bs.take k)))) (.slice (some ⟨Z,0,none⟩) sn sn),.cel (aH (aG ln (eT (bs.take k)))) (.slice (some ⟨g4,0,none⟩) ln ln)]):=cb.out
     have a7:Hid ((di (bs.take k)).length<=1000):=by show _<=_;have:=a8.out;(try rw [List.length_append,List.length_singleton]);omega
     have a5:Hid ((eT (bs.take k)).length<=1000):=by show _<=_;have:=bw.out;omega
     obtain ⟨XB,a0⟩:∃XB,bA 0 (bs.take k)=XB:=⟨_,rfl⟩
     obtain ⟨YB,aU⟩:∃YB,bA 1 (bs.take k)=YB:=⟨_,rfl⟩
     obtain ⟨H,aV⟩:∃H,di (bs.take k)=H:=⟨_,rfl⟩
     obtain ⟨J,aZ⟩:∃J,eT (bs.take k)=J:=⟨_,rfl⟩
     rw [a0,aU,aV,aZ] at a3
     rw [a0] at ao
     rw [aU] at ad
     rw [aV] at ak a7
     rw [aZ] at aq a5
     obtain ⟨bh,bm,bo,bp⟩:=hd4 ao ad ak aq
     clear ao ad ak aq a0 aU aV aZ
     obtain ⟨y0,y1,y2,ly⟩:=jX (aD b4 bL.out)
     clear b4 aM aN aw
     go_wp2_with fail
     clear y0 y1 y2 ly
     go_loopw [78] (fun i wr=>∃j:Nat,j<=en/\i = .int .i64 (j:Int)/\aJ R wr [.cel (aH (aG I (XB))) (.slice (some ⟨g1,0,none⟩) I I),.cel (aH (aG on (YB))) (.slice (some ⟨g2,0,none⟩) on on),.cel (aH (aG sn (H++bX (es.take j)))) (.slice (some ⟨Z,0,none⟩) sn sn),.cel (aH (aG ln (J++av (es.take j)))) (.slice (some ⟨g4,0,none⟩) ln ln)]) (fun i _=>en - (intOf i).toNat)
     ·exact ⟨0,by omega,rfl,by rw [List.take_zero];simpa [bX,av] using a3.out⟩
     obtain ⟨j,hj,rfl,hs⟩:=hrel
     have B:=Hd hs
     clear hs
     by_cases a9:j<en
     ·have bl:=dT (by omega:j<en)
      have aj:j<es.length:=by rw [bd.out];exact a9
      obtain ⟨be,oe,a2,aY,c0,c1⟩:=HE.out.es (k:=j) aj
      have cx:=Hd a2
      have V:=aA a1.out B.out.bel
      have cy:=aK V aY
      rw [←V.cell (p:=⟨be,oe+j * 2,none⟩) aY] at c0
      rw [←V.cell (p:=⟨be,oe+j * 2+1,none⟩) aY] at c1
      have aL:=b6.out _ (List.getElem_mem aj)
      have g:=kN (es.take j) (es[j]?.getD LeT.zero)
      have z:=jY (es.take j) (es[j]?.getD LeT.zero)
      rw [←bU aj] at g z
      have ah:=kz (es.take j)
      have am:=jh (es.take j)
      rw [List.length_take] at ah am
      rw [show es[j]=es[j]?.getD LeT.zero by rw [List.getElem?_eq_getElem aj];rfl] at aL
      have Q:=aL.lut.2
      have K:=aL.ff.2
      rw [bN.out] at Q
      rw [bz.out] at K
      have D:=b3.out
      have ay:=a7.out
      have aC:=a5.out
      clear aL aj V
      generalize es[j]?.getD LeT.zero=e at *
      obtain ⟨a,b⟩:=e
      simp only at Q K g z c0 c1
      obtain ⟨i0,i1⟩:=ib (by omega:j<en)
      have aF:=Hd (B.out.alloc (.cells #[.int .i64 a,.int .i64 b] 94))
      have hq:=aI wr (.cells #[.int .i64 a,.int .i64 b] 94)
      have HQ:=Hd hq
      obtain ⟨q0,q1,lq⟩:=jv hq
      have ap:=fC (H++bX (es.take j)) b
      have al:=fC (J++av (es.take j)) a
      rw [List.length_append] at ap al
      clear hq
      subst a2
      have bR:wr.heap.size≠Z:=by have:=(nV B.out 2 rfl).1;omega
      have bS:wr.heap.size≠g4:=by have:=(nV B.out 3 rfl).1;omega
      have cm:Z≠g4:=xg B.out 2 3 (by decide) rfl rfl
      by_cases ha:0<=a
      ·have da:decide (a≥0)=true:=decide_eq_true ha
       rw [if_pos ha] at z
       obtain ⟨X,rfl⟩:=Int.eq_ofNat_of_zero_le ha
       have bj:X<ln:=by omega
       obtain ⟨cX,fX,lX,G⟩:=eD aF.out 3 rfl bj
       by_cases U:0<=b
       ·have db:decide (b≥0)=true:=decide_eq_true U
        rw [if_pos U] at g
        obtain ⟨Y,rfl⟩:=Int.eq_ofNat_of_zero_le U
        have aE:Y<sn:=by omega
        obtain ⟨cY,fY,lY,ar⟩:=eD G 2 rfl aE
        obtain ⟨cA,cv,cq,_⟩:=eD aF.out 2 rfl aE
        have HN:=Hd ar
        have HR:Hid (aJ R (((wr.alloc (.cells #[.int .i64 (X:Int),.int .i64 (Y:Int)] 94)).setCell ⟨g4,X,none⟩ (.int .i64 (((cnt (J++av (es.take j)) (X:Int):Nat):Int)+1))).setCell ⟨Z,Y,none⟩ (.int .i64 (((cnt (H++bX (es.take j)) (Y:Int):Nat):Int)+1))) [.cel (aH (aG I (XB))) (.slice (some ⟨g1,0,none⟩) I I),.cel (aH (aG on (YB))) (.slice (some ⟨g2,0,none⟩) on on),.cel (aH (aG sn (H++bX (es.take (j+1))))) (.slice (some ⟨Z,0,none⟩) sn sn),.cel (aH (aG ln (J++av (es.take (j+1))))) (.slice (some ⟨g4,0,none⟩) ln ln)]):=by
         show aJ R _ _
         rw [g,z,←List.append_assoc,←List.append_assoc]
         exact HN.out
        clear G ar cY fY lY g z HN
        generalize cnt (J++av (es.take j)) (X:Int)=aX at *
        generalize cnt (H++bX (es.take j)) (Y:Int)=aW at *
        have iX:(X:Int)<(ln:Int):=by omega
        have iY:(Y:Int)<(sn:Int):=by omega
        have bk:aX<=10000:=by omega
        have bt:aW<=10000:=by omega
        clear ap al ah am D ay aC Q K
        go_wp2_with fail
        go_roundw
        ·exact ⟨j+1,by omega,by go_num,HR.out⟩
        simp [intOf];omega
       have db:decide (b≥0)=false:=decide_eq_false U
       rw [if_neg U,List.append_nil] at g
       have HN:=Hd G
       have HR:Hid (aJ R ((wr.alloc (.cells #[.int .i64 (X:Int),.int .i64 b] 94)).setCell ⟨g4,X,none⟩ (.int .i64 (((cnt (J++av (es.take j)) (X:Int):Nat):Int)+1))) [.cel (aH (aG I (XB))) (.slice (some ⟨g1,0,none⟩) I I),.cel (aH (aG on (YB))) (.slice (some ⟨g2,0,none⟩) on on),.cel (aH (aG sn (H++bX (es.take (j+1))))) (.slice (some ⟨Z,0,none⟩) sn sn),.cel (aH (aG ln (J++av (es.take (j+1))))) (.slice (some ⟨g4,0,none⟩) ln ln)]):=by
        show aJ R _ _
        rw [g,z,←List.append_assoc]
        exact HN.out
       clear G g z HN
       generalize cnt (J++av (es.take j)) (X:Int)=aX at *
       have iX:(X:Int)<(ln:Int):=by omega
       have bk:aX<=10000:=by omega
       clear ap al ah am D ay aC Q K
       go_wp2_with fail
       go_roundw
       ·exact ⟨j+1,by omega,by go_num,HR.out⟩
       simp [intOf];omega
      have da:decide (a≥0)=false:=decide_eq_false ha
      rw [if_neg ha,List.append_nil] at z
      by_cases U:0<=b
      ·have db:decide (b≥0)=true:=decide_eq_true U
       rw [if_pos U] at g
       obtain ⟨Y,rfl⟩:=Int.eq_ofNat_of_zero_le U
       have aE:Y<sn:=by omega
       obtain ⟨cY,fY,lY,ar⟩:=eD aF.out 2 rfl aE
       have HN:=Hd ar
       have HR:Hid (aJ R ((wr.alloc (.cells #[.int .i64 a,.int .i64 (Y:Int)] 94)).setCell ⟨Z,Y,none⟩ (.int .i64 (((cnt (H++bX (es.take j)) (Y:Int):Nat):Int)+1))) [.cel (aH (aG I (XB))) (.slice (some ⟨g1,0,none⟩) I I),.cel (aH (aG on (YB))) (.slice (some ⟨g2,0,none⟩) on on),.cel (aH (aG sn (H++bX (es.take (j+1))))) (.slice (some ⟨Z,0,none⟩) sn sn),.cel (aH (aG ln (J++av (es.take (j+1))))) (.slice (some ⟨g4,0,none⟩) ln ln)]):=by
        show aJ R _ _
        rw [g,z,←List.append_assoc]
        exact HN.out
       clear ar g z HN
       generalize cnt (H++bX (es.take j)) (Y:Int)=aW at *
       have iY:(Y:Int)<(sn:Int):=by omega
       have bt:aW<=10000:=by omega
       clear ap al ah am D ay aC Q K
       go_wp2_with fail
       go_roundw
       ·exact ⟨j+1,by omega,by go_num,HR.out⟩
       simp [intOf];omega
      have db:decide (b≥0)=false:=decide_eq_false U
      rw [if_neg U,List.append_nil] at g
      have HR:Hid (aJ R (wr.alloc (.cells #[.int .i64 a,.int .i64 b] 94)) [.cel (aH (aG I (XB))) (.slice (some ⟨g1,0,none⟩) I I),.cel (aH (aG on (YB))) (.slice (some ⟨g2,0,none⟩) on on),.cel (aH (aG sn (H++bX (es.take (j+1))))) (.slice (some ⟨Z,0,none⟩) sn sn),.cel (aH (aG ln (J++av (es.take (j+1))))) (.slice (some ⟨g4,0,none⟩) ln ln)]):=by
       show aJ R _ _
       rw [g,z]
       exact aF.out
      clear g z ap al ah am D ay aC Q K
      go_wp2_with fail
      go_roundw
      ·exact ⟨j+1,by omega,by go_num,HR.out⟩
      simp [intOf];omega
     have a4:j=en:=by omega
     have bl:=dF (by omega:en<=j)
     have HD:Hid (aJ R wr [.cel (aH (aG I (XB))) (.slice (some ⟨g1,0,none⟩) I I),.cel (aH (aG on (YB))) (.slice (some ⟨g2,0,none⟩) on on),.cel (aH (aG sn (H++bX es))) (.slice (some ⟨Z,0,none⟩) sn sn),.cel (aH (aG ln (J++av es))) (.slice (some ⟨g4,0,none⟩) ln ln)]):=by
      have h:=B.out
      show aJ R _ _
      rwa [a4,List.take_of_length_le (by rw [bd.out];exact Nat.le_refl _)] at h
     clear B a4
     go_wp2_with fail
     go_roundw
     ·exact ⟨k+1,by omega,by go_num,by rw [bh.out,bm.out,bo.out,bp.out];exact HD.out,cd.out⟩
     simp [intOf];omega
    rw [bJ aw]
    have HR:=Hd (cu.out aw)
    rintro _ w4 ⟨rfl,b4⟩
    have dw:=Hd (aA (aA a1.out HA.out.bel) b4)
    clear x0 x1 x2 x3 lx y0 y1 y2 ly c0 c1 c2 HG cu b4
    go_wp2_with fail
    go_ret
    exact ⟨aO HR.out,dw.out⟩
   have cE:k=bn:=by omega
   have dD:=dF (by omega:bn<=k)
   have bu:Hid (bs.take k=bs):=by show _=_;rw [cE];exact List.take_of_length_le (by rw [cn.out];exact Nat.le_refl _)
   rw [bu.out] at HS bf
   have dx:=Hd (HS.out.ints 0 rfl)
   have dE:=Hd (HS.out.ints 1 rfl)
   have dt:=Hd (HS.out.ints 2 rfl)
   have dA:=Hd (HS.out.ints 3 rfl)
   have bM:=Hd (aA a1.out HS.out.bel)
   have cG:Hid ((∀q:Nat,q<I→(aG I (bA 0 bs))[q]?.getD 0=1)↔sJ l.inputs.toNat (bA 0 bs)):=by
    show _↔_
    rw [dl.out]
    exact mD
   have cK:Hid ((∀q:Nat,q<on→(aG on (bA 1 bs))[q]?.getD 0=1)↔sJ l.outs.length (bA 1 bs)):=by
    show _↔_
    rw [cH.out]
    exact mD
   have cL:Hid ((∀q:Nat,q<sn→(aG sn (di bs))[q]?.getD 0=1)↔sJ l.seqs.length (di bs)):=by
    show _↔_
    rw [bz.out]
    exact mD
   have cJ:Hid ((∀q:Nat,q<ln→(aG ln (eT bs))[q]?.getD 0=1)↔sJ l.luts.length (eT bs)):=by
    show _↔_
    rw [bN.out]
    exact mD
   clear HS cE
   go_wp2_with fail
   refine (mR _ I I (aG I (bA 0 bs)) _ dx.out (by omega)).mono ?_
   by_cases q1:∀q:Nat,q<I→(aG I (bA 0 bs))[q]?.getD 0=1
   ·rw [ae q1]
    rintro _ v1 ⟨rfl,rfl⟩
    go_wp2_with fail
    refine (mR _ on on (aG on (bA 1 bs)) _ dE.out (by omega)).mono ?_
    by_cases q2:∀q:Nat,q<on→(aG on (bA 1 bs))[q]?.getD 0=1
    ·rw [ae q2]
     rintro _ v2 ⟨rfl,rfl⟩
     go_wp2_with fail
     refine (mR _ sn sn (aG sn (di bs)) _ dt.out (by omega)).mono ?_
     by_cases q3:∀q:Nat,q<sn→(aG sn (di bs))[q]?.getD 0=1
     ·rw [ae q3]
      rintro _ v3 ⟨rfl,rfl⟩
      go_wp2_with fail
      refine (mR _ ln ln (aG ln (eT bs)) _ dA.out (by omega)).mono ?_
      by_cases q4:∀q:Nat,q<ln→(aG ln (eT bs))[q]?.getD 0=1
      ·rw [ae q4]
       have HR:Hid (fq l bs):=⟨HF.out,by rw [cn.out];exact ck,bf.out,cG.out.1 q1,cK.out.1 q2,cL.out.1 q3,cJ.out.1 q4⟩
       rintro _ v4 ⟨rfl,rfl⟩
       go_wp2_with fail
       go_ret
       exact ⟨dU HR.out,bM.out⟩
      rw [bJ q4]
      have HR:Hid (¬fq l bs):=fun h=>q4 (cJ.out.2 h.luts)
      rintro _ v4 ⟨rfl,rfl⟩
      go_wp2_with fail
      go_ret
      exact ⟨aO HR.out,bM.out⟩
     rw [bJ q3]
     have HR:Hid (¬fq l bs):=fun h=>q3 (cL.out.2 h.seqs)
     rintro _ v3 ⟨rfl,rfl⟩
     go_wp2_with fail
     go_ret
     exact ⟨aO HR.out,bM.out⟩
    rw [bJ q2]
    have HR:Hid (¬fq l bs):=fun h=>q2 (cK.out.2 h.outs)
    rintro _ v2 ⟨rfl,rfl⟩
    go_wp2_with fail
    go_ret
    exact ⟨aO HR.out,bM.out⟩
   rw [bJ q1]
   have HR:Hid (¬fq l bs):=fun h=>q1 (cG.out.2 h.ins)
   rintro _ v1 ⟨rfl,rfl⟩
   go_wp2_with fail
   go_ret
   exact ⟨aO HR.out,bM.out⟩
  have dy:decide ((64:Int)<(bn:Int))=true:=decide_eq_true (by omega)
  have HR:Hid (¬fq l bs):=fun h=>ck (by rw [←cl];exact h.len)
  go_enter Tryz.func45,Tryz.ntmps45
  go_upto_region 1 with fail
  generalize w.alloc (.cells (ai l SA LA OA sn sc ln lc on oc) 41)=W0 at *
  obtain ⟨x0,x1,x2,x3,lx⟩:=cO ca.out
  go_wp2_with fail
  refine (pY l SA LA OA sn sc ln lc on oc _ (HN.out.below bB.out)).mono ?_
  rw [ae hf]
  rintro _ w1 ⟨rfl,b1⟩
  have a1:=Hd (aA bB.out b1)
  clear b1 x0 x1 x2 x3 lx hf ck
  go_wp2_with fail
  go_ret
  exact ⟨aO HR.out,a1.out⟩
 have HR:Hid (¬fq l bs):=fun h=>hf h.net
 go_enter Tryz.func45,Tryz.ntmps45
 go_upto_region 1 with fail
 generalize w.alloc (.cells (ai l SA LA OA sn sc ln lc on oc) 41)=W0 at *
 obtain ⟨x0,x1,x2,x3,lx⟩:=cO ca.out
 go_wp2_with fail
 refine (pY l SA LA OA sn sc ln lc on oc _ (HN.out.below bB.out)).mono ?_
 rw [bJ hf]
 rintro _ w1 ⟨rfl,b1⟩
 have a1:=Hd (aA bB.out b1)
 clear b1 x0 x1 x2 x3 lx hf
 go_wp2_with fail
 go_ret
 exact ⟨aO HR.out,a1.out⟩
end Go.Proofs.YtofihjoanjkdmaaGreat
