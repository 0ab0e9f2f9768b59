/- The program's test of blocks (printed by mkpk.py). -/
import Derived.Deep.CutRange
import Derived.Deep.DeepCutAuto
import Derived.Test.YtofihjoanjkdmaaGreatLayF5
namespace Go.Proofs.YtofihjoanjkdmaaGreat
set_option maxHeartbeats 4000000
set_option maxRecDepth 100000
open Go.RowKit
theorem lM (l:ag) (SA LA OA:Option Addr) (sn sc ln lc on oc:Nat) (bs:List Blk) (BA:Option Addr) (bn bc:Nat) (w:World) (h:fU w l SA LA OA sn sc ln lc on oc) (hB:RdC w w.heap.size (aa bs) (.slice BA bn bc)) (cM:∀b∈bs,b.les.length<=1048576) :
  Calls Tryz.prog 45 #[jE l SA LA OA sn sc ln lc on oc,.slice BA bn bc] w fun e w'=>e = .returned (.bool (tb (fq l bs)))/\Below w.heap.size w w':=by
 have bB:=Hd (aB (Below.refl w.heap.size w) (.cells (ai l SA LA OA sn sc ln lc on oc) 41))
 have b6:=Hd (aI w (.cells (ai l SA LA OA sn sc ln lc on oc) 41))
 have cs:=hB.blkN
 obtain ⟨ci,dj,HB,HN⟩:=hd4 cs cM hB h
 clear hB cM
 obtain ⟨cv,ck,cA⟩:=h.lens
 obtain ⟨bz,bK,cV⟩:=hd3 cv ck cA
 clear h
 by_cases hf:az l
 ·by_cases cw:bn<=64
  ·have dn:decide ((64:Int)<(bn:Int))=false:=decide_eq_false (by omega)
   have dG:=hf.nseq
   have dd:=hf.nlut
   have dt:=hf.nout
   have d0:=hf.inp
   rw [cv] at dG
   rw [ck] at dd
   rw [cA] at dt
   have HF:=Hd hf
   obtain ⟨I,hI⟩:∃I:Nat,l.inputs=(I:Int):=⟨l.inputs.toNat,by omega⟩
   have dy:Hid (l.inputs.toNat=I):=by show _=_;omega
   have cj:=Hd hI
   have dP:I<=20:=by omega
   obtain ⟨i0,hi,cH,cK,cE⟩:=info_parts jL
   have mk:=fun (n:Nat) (hn:n<=1048576) W=>bv (P:=Tryz.prog) 26 3 i0 _ Tryz.underlying26 hi cH .i64 .i64 n n (Nat.le_refl _) (by rw [cE];omega) (by omega) W
   rw [cK] at mk
   simp only [Nat.mul_one,show (Value.int .i64 0).cells=#[Value.int .i64 0] from rfl,nu] at mk
   have cD:=mk I (by omega)
   have dw:=mk on (by omega)
   have dC:=mk sn (by omega)
   have mkL:=mk ln (by omega)
   rw [←hI] at cD
   clear mk hi cH cK cE cv ck cA hI cs
   go_enter Tryz.func45,Tryz.ntmps45
   go_upto_region 1 with fail
   generalize w.alloc (.cells (ai l SA LA OA sn sc ln lc on oc) 41)=W0 at *
   obtain ⟨x0,x1,x2,x3,lx⟩:=cO b6.out
   go_wp2_with fail
   refine (pY l SA LA OA sn sc ln lc on oc _ (HN.out.below bB.out)).mono ?_
   rw [ae hf]
   rintro _ w1 ⟨rfl,b1⟩
   have a1:=Hd (aA bB.out b1)
   have cq:=Hd (aD b1 b6.out)
   clear b1 x0 x1 x2 x3 lx hf
   obtain ⟨x0,x1,x2,x3,lx⟩:=cO cq.out
   obtain ⟨J,rfl⟩:∃x,x=w1:=⟨w1,rfl⟩
   go_upto_region 3 with fail
   go_cut [5,6] (fun p u w'=>Av J I on p u w')
   case first =>
    go_region
    all_goals
     go_wp2_with fail
     go_meet
     (try simp only [uB])
     first|exact (Bq J I on (by omega) (by omega))|exact (Br J I on (by omega) (by omega))|exact (Bq J I on (by omega) (by omega)).drew|exact (Br J I on (by omega) (by omega)).drew
   obtain ⟨g1,g2,rfl,rfl,cI⟩:=hcut
   obtain ⟨w2,rfl⟩:∃x,x=wc:=⟨wc,rfl⟩
   have ch:=Hd cI
   clear x0 x1 x2 x3 lx cI cD dw
   obtain ⟨x0,x1,x2,x3,lx⟩:=cO (aD ch.out.bel cq.out)
   go_upto_region 4 with fail
   go_cut [7,8] (fun p u w'=>Av w2 sn ln p u w')
   case first =>
    go_region
    all_goals
     go_wp2_with fail
     go_meet
     (try simp only [uB])
     first|exact (Bq w2 sn ln (by omega) (by omega))|exact (Br w2 sn ln (by omega) (by omega))|exact (Bq w2 sn ln (by omega) (by omega)).drew|exact (Br w2 sn ln (by omega) (by omega)).drew
   obtain ⟨Z,g4,rfl,rfl,cG⟩:=hcut
   have dm:Hid (aJ J wc [.cel (aH (aG I (bA 0 []))) (.slice (some ⟨g1,0,none⟩) I I),.cel (aH (aG on (bA 1 []))) (.slice (some ⟨g2,0,none⟩) on on),.cel (aH (aG sn (di []))) (.slice (some ⟨Z,0,none⟩) sn sn),.cel (aH (aG ln (eT []))) (.slice (some ⟨g4,0,none⟩) ln ln)]):=ch.out.join cG
   clear x0 x1 x2 x3 lx cG dC mkL
   go_wp2_with fail
   go_loopw [38] (fun i wr=>∃k:Nat,k<=bn/\i = .int .i64 (k:Int)/\aJ J wr [.cel (aH (aG I (bA 0 (bs.take k)))) (.slice (some ⟨g1,0,none⟩) I I),.cel (aH (aG on (bA 1 (bs.take k)))) (.slice (some ⟨g2,0,none⟩) on on),.cel (aH (aG sn (di (bs.take k)))) (.slice (some ⟨Z,0,none⟩) sn sn),.cel (aH (aG ln (eT (bs.take k)))) (.slice (some ⟨g4,0,none⟩) ln ln)]/\∀b∈bs.take k,dM l b) (fun i _=>bn - (intOf i).toNat)
   ·exact ⟨0,by omega,rfl,by rw [List.take_zero];exact dm.out,by simp⟩
   obtain ⟨k,hk,rfl,hs,cg⟩:=hrel
   obtain ⟨HS,bf⟩:=hd2 hs cg
   clear hs cg
   by_cases dI:k<bn
   ·have dk:=dT (by omega:k<bn)
    have bl:k<bs.length:=by rw [ci.out];exact dI
    obtain ⟨bb,ob,EA,en,ec,dD,b7,c0,c1,c2,r2⟩:=HB.out.blk (k:=k) bl
    have V:=aA a1.out HS.out.bel
    have dQ:=aK V b7
    rw [←V.cell (p:=⟨bb,ob+k * 3,none⟩) b7] at c0
    rw [←V.cell (p:=⟨bb,ob+k * 3+1,none⟩) b7] at c1
    rw [←V.cell (p:=⟨bb,ob+k * 3+2,none⟩) b7] at c2
    have bm:=Hd (mr bl)
    have bw:=dj.out _ (List.getElem_mem bl)
    have hg:dM l (bs[k]?.getD Blk.zero)→∀b∈bs.take (k+1),dM l b:=fun h b U=>by
     rw [bm.out,List.mem_append,List.mem_singleton] at U
     rcases U with U|rfl
     ·exact bf.out b U
     exact h
    have cN:¬dM l (bs[k]?.getD Blk.zero)→¬fq l bs:=fun h h'=>h (by rw [List.getElem?_eq_getElem bl];exact h'.fit _ (List.getElem_mem bl))
    obtain ⟨HG,cz⟩:=hd2 hg cN
    have a7:Hid ((di (bs.take k)).length<=192):=by
     show _<=_
     have h1:=ww bf.out
     rw [List.length_take] at h1
     have h2:min k bs.length * 3<=64 * 3:=Nat.mul_le_mul_right 3 (by omega)
     omega
    have bx:Hid ((eT (bs.take k)).length<=128):=by
     show _<=_
     have h1:=xA bf.out
     rw [List.length_take] at h1
     have h2:min k bs.length * 2<=64 * 2:=Nat.mul_le_mul_right 2 (by omega)
     omega
    rw [show bs[k]=bs[k]?.getD Blk.zero by rw [List.getElem?_eq_getElem bl];rfl] at bw
    clear bl hg cN
    generalize bs[k]?.getD Blk.zero=b at *
    obtain ⟨kd,it,es⟩:=b
    simp only at c0 c1 bw
    have HE:=Hd (show RdC w w.heap.size (cZ es) (.slice EA en ec) from r2)
    have bd:Hid (es.length=en):=HE.out.esN
    have dB:en<=1048576:=by rw [←bd.out];exact bw
    clear r2 bw
    subst dD
    obtain ⟨i0,i1⟩:=ib (by omega:k<bn)
    have HA:=Hd (HS.out.alloc (.cells #[.int .i64 kd,.int .i64 it,.slice EA en ec] 89))
    have bL:=Hd (aI wr (.cells #[.int .i64 kd,.int .i64 it,.slice EA en ec] 89))
    have hx:=aD HA.out.bel cq.out
    obtain ⟨x0,x1,x2,x3,lx⟩:=cO hx
    obtain ⟨y0,y1,y2,ly⟩:=jX bL.out
    clear hx V
    go_wp2_with fail
    refine (zT l SA LA OA sn sc ln lc on oc kd it es EA en ec _ (HN.out.below (aA a1.out HA.out.bel)) HF.out (HE.out.below (aA a1.out HA.out.bel)) dB).mono ?_
    by_cases aw:dM l ⟨kd,it,es⟩
    ·rw [ae aw]
     have cc:=Hd (HG.out aw)
     have cd:=Hd (nU aw)
     have ca:Hid (en<=2):=by show _<=_;rw [←bd.out];exact lT aw
     rintro _ w4 ⟨rfl,b4⟩
     have b9:=Hd (HA.out.below b4)
     clear x0 x1 x2 x3 lx y0 y1 y2 ly c0 c1 c2 HG cz
     rcases iL aw.1 with dx|df|dH|dl
     ·subst dx
      have ce:=oZ.1 aw.1
      obtain ⟨X,rfl⟩:∃X:Nat,it=(X:Int):=⟨it.toNat,by omega⟩
      have hX:X<I:=by have:=cj.out;omega
      have ao:=dX 0 (bs.take k) ⟨0,(X:Int),es⟩
      have ak:=dX 1 (bs.take k) ⟨0,(X:Int),es⟩
      have al:=ja (bs.take k) ⟨0,(X:Int),es⟩
      have aj:=jZ (bs.take k) ⟨0,(X:Int),es⟩
      rw [←bm.out] at ao ak al aj
      simp only [if_true,if_false,List.append_nil,Int.reduceEq] at ao ak al aj
      have aQ:=eO 0 (bs.take k)
      have aM:=eO 1 (bs.take k)
      rw [List.length_take] at aQ aM
      obtain ⟨cX,fX,lX,G⟩:=eD b9.out 0 rfl hX
      have bV:=fC (bA 0 (bs.take k)) (X:Int)
      have a2:Hid (aJ J (w4.setCell ⟨g1,X,none⟩ (.int .i64 (((cnt (bA 0 (bs.take k)) (X:Int):Nat):Int)+1))) [.cel (aH (aG I (bA 0 (bs.take k)++[(X:Int)]))) (.slice (some ⟨g1,0,none⟩) I I),.cel (aH (aG on (bA 1 (bs.take k)))) (.slice (some ⟨g2,0,none⟩) on on),.cel (aH (aG sn (di (bs.take k)))) (.slice (some ⟨Z,0,none⟩) sn sn),.cel (aH (aG ln (eT (bs.take k)))) (.slice (some ⟨g4,0,none⟩) ln ln)]):=G
      clear G
      have cU:wr.heap.size≠g1:=by have:=(nV HS.out 0 rfl).1;omega
      have a5:Hid ((di (bs.take k)).length<=1000):=by show _<=_;have:=a7.out;(try rw [List.length_append,List.length_singleton]);omega
      have a3:Hid ((eT (bs.take k)).length<=1000):=by show _<=_;have:=bx.out;omega
      obtain ⟨XB,aZ⟩:∃XB,bA 0 (bs.take k)++[(X:Int)]=XB:=⟨_,rfl⟩
      obtain ⟨YB,aX⟩:∃YB,bA 1 (bs.take k)=YB:=⟨_,rfl⟩
      obtain ⟨R,aU⟩:∃R,di (bs.take k)=R:=⟨_,rfl⟩
      obtain ⟨H,a0⟩:∃H,eT (bs.take k)=H:=⟨_,rfl⟩
      rw [aZ,aX,aU,a0] at a2
      rw [aZ] at ao
      rw [aX] at ak
      rw [aU] at al a5
      rw [a0] at aj a3
      obtain ⟨bo,bu,bt,bk⟩:=hd4 ao ak al aj
      clear ao ak al aj aZ aX aU a0
      generalize cnt (bA 0 (bs.take k)) (X:Int)=q at *
      have iq:q<=10000:=by have:=a7.out;omega
      have iX:(X:Int)<(I:Int):=by omega
      clear bV
      obtain ⟨y0,y1,y2,ly⟩:=jX (aD b4 bL.out)
      clear b4 aQ aM aw
      go_wp2_with fail
      clear y0 y1 y2 ly cX fX lX
      go_loopw [78] (fun i wr=>∃j:Nat,j<=en/\i = .int .i64 (j:Int)/\aJ J wr [.cel (aH (aG I (XB))) (.slice (some ⟨g1,0,none⟩) I I),.cel (aH (aG on (YB))) (.slice (some ⟨g2,0,none⟩) on on),.cel (aH (aG sn (R++bX (es.take j)))) (.slice (some ⟨Z,0,none⟩) sn sn),.cel (aH (aG ln (H++av (es.take j)))) (.slice (some ⟨g4,0,none⟩) ln ln)]) (fun i _=>en - (intOf i).toNat)
      ·exact ⟨0,by omega,rfl,by rw [List.take_zero];simpa [bX,av] using a2.out⟩
      obtain ⟨j,hj,rfl,hs⟩:=hrel
      have B:=Hd hs
      clear hs
      by_cases a8:j<en
      ·have bj:=dT (by omega:j<en)
       have af:j<es.length:=by rw [bd.out];exact a8
       obtain ⟨be,oe,a9,aW,c0,c1⟩:=HE.out.es (k:=j) af
       have cm:=Hd a9
       have V:=aA a1.out B.out.bel
       have cr:=aK V aW
       rw [←V.cell (p:=⟨be,oe+j * 2,none⟩) aW] at c0
       rw [←V.cell (p:=⟨be,oe+j * 2+1,none⟩) aW] at c1
       have aF:=cd.out _ (List.getElem_mem af)
       have g:=kN (es.take j) (es[j]?.getD LeT.zero)
       have z:=jY (es.take j) (es[j]?.getD LeT.zero)
       rw [←bU af] at g z
       have aq:=kz (es.take j)
       have ar:=jh (es.take j)
       rw [List.length_take] at aq ar
       rw [show es[j]=es[j]?.getD LeT.zero by rw [List.getElem?_eq_getElem af];rfl] at aF
       have K:=aF.lut.2
       have Q:=aF.ff.2
       rw [bK.out] at K
       rw [bz.out] at Q
       have D:=ca.out
       have aC:=a5.out
       have ay:=a3.out
       clear aF af V
       generalize es[j]?.getD LeT.zero=e at *
       obtain ⟨a,b⟩:=e
       simp only at K Q g z c0 c1
       obtain ⟨i0,i1⟩:=ib (by omega:j<en)
       have aE:=Hd (B.out.alloc (.cells #[.int .i64 a,.int .i64 b] 94))
       have hq:=aI wr (.cells #[.int .i64 a,.int .i64 b] 94)
       have HQ:=Hd hq
       obtain ⟨q0,q1,lq⟩:=jv hq
       have ah:=fC (R++bX (es.take j)) b
       have ad:=fC (H++av (es.take j)) a
       rw [List.length_append] at ah ad
       clear hq
       subst a9
       have bS:wr.heap.size≠Z:=by have:=(nV B.out 2 rfl).1;omega
       have bO:wr.heap.size≠g4:=by have:=(nV B.out 3 rfl).1;omega
       have cn:Z≠g4:=xg B.out 2 3 (by decide) rfl rfl
       by_cases ha:0<=a
       ·have da:decide (a≥0)=true:=decide_eq_true ha
        rw [if_pos ha] at z
        obtain ⟨X,rfl⟩:=Int.eq_ofNat_of_zero_le ha
        have bh:X<ln:=by omega
        obtain ⟨cX,fX,lX,G⟩:=eD aE.out 3 rfl bh
        by_cases U:0<=b
        ·have db:decide (b≥0)=true:=decide_eq_true U
         rw [if_pos U] at g
         obtain ⟨Y,rfl⟩:=Int.eq_ofNat_of_zero_le U
         have aL:Y<sn:=by omega
         obtain ⟨cY,fY,lY,am⟩:=eD G 2 rfl aL
         obtain ⟨cp,cy,cu,_⟩:=eD aE.out 2 rfl aL
         have HN:=Hd am
         have HR:Hid (aJ J (((wr.alloc (.cells #[.int .i64 (X:Int),.int .i64 (Y:Int)] 94)).setCell ⟨g4,X,none⟩ (.int .i64 (((cnt (H++av (es.take j)) (X:Int):Nat):Int)+1))).setCell ⟨Z,Y,none⟩ (.int .i64 (((cnt (R++bX (es.take j)) (Y:Int):Nat):Int)+1))) [.cel (aH (aG I (XB))) (.slice (some ⟨g1,0,none⟩) I I),.cel (aH (aG on (YB))) (.slice (some ⟨g2,0,none⟩) on on),.cel (aH (aG sn (R++bX (es.take (j+1))))) (.slice (some ⟨Z,0,none⟩) sn sn),.cel (aH (aG ln (H++av (es.take (j+1))))) (.slice (some ⟨g4,0,none⟩) ln ln)]):=by
          show aJ J _ _
          rw [g,z,←List.append_assoc,←List.append_assoc]
          exact HN.out
         clear G am cY fY lY g z HN
         generalize cnt (H++av (es.take j)) (X:Int)=aV at *
         generalize cnt (R++bX (es.take j)) (Y:Int)=aY at *
         have iX:(X:Int)<(ln:Int):=by omega
         have iY:(Y:Int)<(sn:Int):=by omega
         have br:aV<=10000:=by omega
         have bp:aY<=10000:=by omega
         clear ah ad aq ar D aC ay K Q
         go_wp2_with fail
         go_roundw
         ·exact ⟨j+1,by omega,by go_num,HR.out⟩
         simp [intOf];omega
        have db:decide (b≥0)=false:=decide_eq_false U
        rw [if_neg U,List.append_nil] at g
        have HN:=Hd G
        have HR:Hid (aJ J ((wr.alloc (.cells #[.int .i64 (X:Int),.int .i64 b] 94)).setCell ⟨g4,X,none⟩ (.int .i64 (((cnt (H++av (es.take j)) (X:Int):Nat):Int)+1))) [.cel (aH (aG I (XB))) (.slice (some ⟨g1,0,none⟩) I I),.cel (aH (aG on (YB))) (.slice (some ⟨g2,0,none⟩) on on),.cel (aH (aG sn (R++bX (es.take (j+1))))) (.slice (some ⟨Z,0,none⟩) sn sn),.cel (aH (aG ln (H++av (es.take (j+1))))) (.slice (some ⟨g4,0,none⟩) ln ln)]):=by
         show aJ J _ _
         rw [g,z,←List.append_assoc]
         exact HN.out
        clear G g z HN
        generalize cnt (H++av (es.take j)) (X:Int)=aV at *
        have iX:(X:Int)<(ln:Int):=by omega
        have br:aV<=10000:=by omega
        clear ah ad aq ar D aC ay K Q
        go_wp2_with fail
        go_roundw
        ·exact ⟨j+1,by omega,by go_num,HR.out⟩
        simp [intOf];omega
       have da:decide (a≥0)=false:=decide_eq_false ha
       rw [if_neg ha,List.append_nil] at z
       by_cases U:0<=b
       ·have db:decide (b≥0)=true:=decide_eq_true U
        rw [if_pos U] at g
        obtain ⟨Y,rfl⟩:=Int.eq_ofNat_of_zero_le U
        have aL:Y<sn:=by omega
        obtain ⟨cY,fY,lY,am⟩:=eD aE.out 2 rfl aL
        have HN:=Hd am
        have HR:Hid (aJ J ((wr.alloc (.cells #[.int .i64 a,.int .i64 (Y:Int)] 94)).setCell ⟨Z,Y,none⟩ (.int .i64 (((cnt (R++bX (es.take j)) (Y:Int):Nat):Int)+1))) [.cel (aH (aG I (XB))) (.slice (some ⟨g1,0,none⟩) I I),.cel (aH (aG on (YB))) (.slice (some ⟨g2,0,none⟩) on on),.cel (aH (aG sn (R++bX (es.take (j+1))))) (.slice (some ⟨Z,0,none⟩) sn sn),.cel (aH (aG ln (H++av (es.take (j+1))))) (.slice (some ⟨g4,0,none⟩) ln ln)]):=by
         show aJ J _ _
         rw [g,z,←List.append_assoc]
         exact HN.out
        clear am g z HN
        generalize cnt (R++bX (es.take j)) (Y:Int)=aY at *
        have iY:(Y:Int)<(sn:Int):=by omega
        have bp:aY<=10000:=by omega
        clear ah ad aq ar D aC ay K Q
        go_wp2_with fail
        go_roundw
        ·exact ⟨j+1,by omega,by go_num,HR.out⟩
        simp [intOf];omega
       have db:decide (b≥0)=false:=decide_eq_false U
       rw [if_neg U,List.append_nil] at g
       have HR:Hid (aJ J (wr.alloc (.cells #[.int .i64 a,.int .i64 b] 94)) [.cel (aH (aG I (XB))) (.slice (some ⟨g1,0,none⟩) I I),.cel (aH (aG on (YB))) (.slice (some ⟨g2,0,none⟩) on on),.cel (aH (aG sn (R++bX (es.take (j+1))))) (.slice (some ⟨Z,0,none⟩) sn sn),.cel (aH (aG ln (H++av (es.take (j+1))))) (.slice (some ⟨g4,0,none⟩) ln ln)]):=by
        show aJ J _ _
        rw [g,z]
        exact aE.out
       clear g z ah ad aq ar D aC ay K Q
       go_wp2_with fail
       go_roundw
       ·exact ⟨j+1,by omega,by go_num,HR.out⟩
       simp [intOf];omega
      have a4:j=en:=by omega
      have bj:=dF (by omega:en<=j)
      have HD:Hid (aJ J wr [.cel (aH (aG I (XB))) (.slice (some ⟨g1,0,none⟩) I I),.cel (aH (aG on (YB))) (.slice (some ⟨g2,0,none⟩) on on),.cel (aH (aG sn (R++bX es))) (.slice (some ⟨Z,0,none⟩) sn sn),.cel (aH (aG ln (H++av es))) (.slice (some ⟨g4,0,none⟩) ln ln)]):=by
       have h:=B.out
       show aJ J _ _
       rwa [a4,List.take_of_length_le (by rw [bd.out];exact Nat.le_refl _)] at h
      clear B a4
      go_wp2_with fail
      go_roundw
      ·exact ⟨k+1,by omega,by go_num,by rw [bo.out,bu.out,bt.out,bk.out];exact HD.out,cc.out⟩
      simp [intOf];omega
     ·subst df
      have ce:=og.1 aw.1
      rw [cV.out] at ce
      obtain ⟨X,rfl⟩:∃X:Nat,it=(X:Int):=⟨it.toNat,by omega⟩
      have hX:X<on:=by have:=cj.out;omega
      have ao:=dX 0 (bs.take k) ⟨1,(X:Int),es⟩
      have ak:=dX 1 (bs.take k) ⟨1,(X:Int),es⟩
      have al:=ja (bs.take k) ⟨1,(X:Int),es⟩
      have aj:=jZ (bs.take k) ⟨1,(X:Int),es⟩
      rw [←bm.out] at ao ak al aj
      simp only [Int.reduceEq,reduceIte,List.append_nil] at ao ak al aj
      have aQ:=eO 0 (bs.take k)
      have aM:=eO 1 (bs.take k)
      rw [List.length_take] at aQ aM
      obtain ⟨cX,fX,lX,G⟩:=eD b9.out 1 rfl hX
      have bV:=fC (bA 1 (bs.take k)) (X:Int)
      have a2:Hid (aJ J (w4.setCell ⟨g2,X,none⟩ (.int .i64 (((cnt (bA 1 (bs.take k)) (X:Int):Nat):Int)+1))) [.cel (aH (aG I (bA 0 (bs.take k)))) (.slice (some ⟨g1,0,none⟩) I I),.cel (aH (aG on (bA 1 (bs.take k)++[(X:Int)]))) (.slice (some ⟨g2,0,none⟩) on on),.cel (aH (aG sn (di (bs.take k)))) (.slice (some ⟨Z,0,none⟩) sn sn),.cel (aH (aG ln (eT (bs.take k)))) (.slice (some ⟨g4,0,none⟩) ln ln)]):=G
      clear G
      have cU:wr.heap.size≠g2:=by have:=(nV HS.out 1 rfl).1;omega
      have a5:Hid ((di (bs.take k)).length<=1000):=by show _<=_;have:=a7.out;(try rw [List.length_append,List.length_singleton]);omega
      have a3:Hid ((eT (bs.take k)).length<=1000):=by show _<=_;have:=bx.out;omega
      obtain ⟨XB,aZ⟩:∃XB,bA 0 (bs.take k)=XB:=⟨_,rfl⟩
      obtain ⟨YB,aX⟩:∃YB,bA 1 (bs.take k)++[(X:Int)]=YB:=⟨_,rfl⟩
      obtain ⟨R,aU⟩:∃R,di (bs.take k)=R:=⟨_,rfl⟩
      obtain ⟨H,a0⟩:∃H,eT (bs.take k)=H:=⟨_,rfl⟩
      rw [aZ,aX,aU,a0] at a2
      rw [aZ] at ao
      rw [aX] at ak
      rw [aU] at al a5
      rw [a0] at aj a3
      obtain ⟨bo,bu,bt,bk⟩:=hd4 ao ak al aj
      clear ao ak al aj aZ aX aU a0
      generalize cnt (bA 1 (bs.take k)) (X:Int)=q at *
      have iq:q<=10000:=by have:=a7.out;omega
      have iX:(X:Int)<(on:Int):=by omega
      clear bV
      obtain ⟨y0,y1,y2,ly⟩:=jX (aD b4 bL.out)
      clear b4 aQ aM aw
      go_wp2_with fail
      clear y0 y1 y2 ly cX fX lX
      go_loopw [78] (fun i wr=>∃j:Nat,j<=en/\i = .int .i64 (j:Int)/\aJ J wr [.cel (aH (aG I (XB))) (.slice (some ⟨g1,0,none⟩) I I),.cel (aH (aG on (YB))) (.slice (some ⟨g2,0,none⟩) on on),.cel (aH (aG sn (R++bX (es.take j)))) (.slice (some ⟨Z,0,none⟩) sn sn),.cel (aH (aG ln (H++av (es.take j)))) (.slice (some ⟨g4,0,none⟩) ln ln)]) (fun i _=>en - (intOf i).toNat)
      ·exact ⟨0,by omega,rfl,by rw [List.take_zero];simpa [bX,av] using a2.out⟩
      obtain ⟨j,hj,rfl,hs⟩:=hrel
      have B:=Hd hs
      clear hs
      by_cases a8:j<en
      ·have bj:=dT (by omega:j<en)
       have af:j<es.length:=by rw [bd.out];exact a8
       obtain ⟨be,oe,a9,aW,c0,c1⟩:=HE.out.es (k:=j) af
       have cm:=Hd a9
       have V:=aA a1.out B.out.bel
       have cr:=aK V aW
       rw [←V.cell (p:=⟨be,oe+j * 2,none⟩) aW] at c0
       rw [←V.cell (p:=⟨be,oe+j * 2+1,none⟩) aW] at c1
       have aF:=cd.out _ (List.getElem_mem af)
       have g:=kN (es.take j) (es[j]?.getD LeT.zero)
       have z:=jY (es.take j) (es[j]?.getD LeT.zero)
       rw [←bU af] at g z
       have aq:=kz (es.take j)
       have ar:=jh (es.take j)
       rw [List.length_take] at aq ar
       rw [show es[j]=es[j]?.getD LeT.zero by rw [List.getElem?_eq_getElem af];rfl] at aF
       have K:=aF.lut.2
       have Q:=aF.ff.2
       rw [bK.out] at K
       rw [bz.out] at Q
       have D:=ca.out
       have aC:=a5.out
       have ay:=a3.out
       clear aF af V
       generalize es[j]?.getD LeT.zero=e at *
       obtain ⟨a,b⟩:=e
       simp only at K Q g z c0 c1
       obtain ⟨i0,i1⟩:=ib (by omega:j<en)
       have aE:=Hd (B.out.alloc (.cells #[.int .i64 a,.int .i64 b] 94))
       have hq:=aI wr (.cells #[.int .i64 a,.int .i64 b] 94)
       have HQ:=Hd hq
       obtain ⟨q0,q1,lq⟩:=jv hq
       have ah:=fC (R++bX (es.take j)) b
       have ad:=fC (H++av (es.take j)) a
       rw [List.length_append] at ah ad
       clear hq
       subst a9
       have bS:wr.heap.size≠Z:=by have:=(nV B.out 2 rfl).1;omega
       have bO:wr.heap.size≠g4:=by have:=(nV B.out 3 rfl).1;omega
       have cn:Z≠g4:=xg B.out 2 3 (by decide) rfl rfl
       by_cases ha:0<=a
       ·have da:decide (a≥0)=true:=decide_eq_true ha
        rw [if_pos ha] at z
        obtain ⟨X,rfl⟩:=Int.eq_ofNat_of_zero_le ha
        have bh:X<ln:=by omega
        obtain ⟨cX,fX,lX,G⟩:=eD aE.out 3 rfl bh
        by_cases U:0<=b
        ·have db:decide (b≥0)=true:=decide_eq_true U
         rw [if_pos U] at g
         obtain ⟨Y,rfl⟩:=Int.eq_ofNat_of_zero_le U
         have aL:Y<sn:=by omega
         obtain ⟨cY,fY,lY,am⟩:=eD G 2 rfl aL
         obtain ⟨cp,cy,cu,_⟩:=eD aE.out 2 rfl aL
         have HN:=Hd am
         have HR:Hid (aJ J (((wr.alloc (.cells #[.int .i64 (X:Int),.int .i64 (Y:Int)] 94)).setCell ⟨g4,X,none⟩ (.int .i64 (((cnt (H++av (es.take j)) (X:Int):Nat):Int)+1))).setCell ⟨Z,Y,none⟩ (.int .i64 (((cnt (R++bX (es.take j)) (Y:Int):Nat):Int)+1))) [.cel (aH (aG I (XB))) (.slice (some ⟨g1,0,none⟩) I I),.cel (aH (aG on (YB))) (.slice (some ⟨g2,0,none⟩) on on),.cel (aH (aG sn (R++bX (es.take (j+1))))) (.slice (some ⟨Z,0,none⟩) sn sn),.cel (aH (aG ln (H++av (es.take (j+1))))) (.slice (some ⟨g4,0,none⟩) ln ln)]):=by
          show aJ J _ _
          rw [g,z,←List.append_assoc,←List.append_assoc]
          exact HN.out
         clear G am cY fY lY g z HN
         generalize cnt (H++av (es.take j)) (X:Int)=aV at *
         generalize cnt (R++bX (es.take j)) (Y:Int)=aY at *
         have iX:(X:Int)<(ln:Int):=by omega
         have iY:(Y:Int)<(sn:Int):=by omega
         have br:aV<=10000:=by omega
         have bp:aY<=10000:=by omega
         clear ah ad aq ar D aC ay K Q
         go_wp2_with fail
         go_roundw
         ·exact ⟨j+1,by omega,by go_num,HR.out⟩
         simp [intOf];omega
        have db:decide (b≥0)=false:=decide_eq_false U
        rw [if_neg U,List.append_nil] at g
        have HN:=Hd G
        have HR:Hid (aJ J ((wr.alloc (.cells #[.int .i64 (X:Int),.int .i64 b] 94)).setCell ⟨g4,X,none⟩ (.int .i64 (((cnt (H++av (es.take j)) (X:Int):Nat):Int)+1))) [.cel (aH (aG I (XB))) (.slice (some ⟨g1,0,none⟩) I I),.cel (aH (aG on (YB))) (.slice (some ⟨g2,0,none⟩) on on),.cel (aH (aG sn (R++bX (es.take (j+1))))) (.slice (some ⟨Z,0,none⟩) sn sn),.cel (aH (aG ln (H++av (es.take (j+1))))) (.slice (some ⟨g4,0,none⟩) ln ln)]):=by
         show aJ J _ _
         rw [g,z,←List.append_assoc]
         exact HN.out
        clear G g z HN
        generalize cnt (H++av (es.take j)) (X:Int)=aV at *
        have iX:(X:Int)<(ln:Int):=by omega
        have br:aV<=10000:=by omega
        clear ah ad aq ar D aC ay K Q
        go_wp2_with fail
        go_roundw
        ·exact ⟨j+1,by omega,by go_num,HR.out⟩
        simp [intOf];omega
       have da:decide (a≥0)=false:=decide_eq_false ha
       rw [if_neg ha,List.append_nil] at z
       by_cases U:0<=b
       ·have db:decide (b≥0)=true:=decide_eq_true U
        rw [if_pos U] at g
        obtain ⟨Y,rfl⟩:=Int.eq_ofNat_of_zero_le U
        have aL:Y<sn:=by omega
        obtain ⟨cY,fY,lY,am⟩:=eD aE.out 2 rfl aL
        have HN:=Hd am
        have HR:Hid (aJ J ((wr.alloc (.cells #[.int .i64 a,.int .i64 (Y:Int)] 94)).setCell ⟨Z,Y,none⟩ (.int .i64 (((cnt (R++bX (es.take j)) (Y:Int):Nat):Int)+1))) [.cel (aH (aG I (XB))) (.slice (some ⟨g1,0,none⟩) I I),.cel (aH (aG on (YB))) (.slice (some ⟨g2,0,none⟩) on on),.cel (aH (aG sn (R++bX (es.take (j+1))))) (.slice (some ⟨Z,0,none⟩) sn sn),.cel (aH (aG ln (H++av (es.take (j+1))))) (.slice (some ⟨g4,0,none⟩) ln ln)]):=by
         show aJ J _ _
         rw [g,z,←List.append_assoc]
         exact HN.out
        clear am g z HN
        generalize cnt (R++bX (es.take j)) (Y:Int)=aY at *
        have iY:(Y:Int)<(sn:Int):=by omega
        have bp:aY<=10000:=by omega
        clear ah ad aq ar D aC ay K Q
        go_wp2_with fail
        go_roundw
        ·exact ⟨j+1,by omega,by go_num,HR.out⟩
        simp [intOf];omega
       have db:decide (b≥0)=false:=decide_eq_false U
       rw [if_neg U,List.append_nil] at g
       have HR:Hid (aJ J (wr.alloc (.cells #[.int .i64 a,.int .i64 b] 94)) [.cel (aH (aG I (XB))) (.slice (some ⟨g1,0,none⟩) I I),.cel (aH (aG on (YB))) (.slice (some ⟨g2,0,none⟩) on on),.cel (aH (aG sn (R++bX (es.take (j+1))))) (.slice (some ⟨Z,0,none⟩) sn sn),.cel (aH (aG ln (H++av (es.take (j+1))))) (.slice (some ⟨g4,0,none⟩) ln ln)]):=by
        show aJ J _ _
        rw [g,z]
        exact aE.out
       clear g z ah ad aq ar D aC ay K Q
       go_wp2_with fail
       go_roundw
       ·exact ⟨j+1,by omega,by go_num,HR.out⟩
       simp [intOf];omega
      have a4:j=en:=by omega
      have bj:=dF (by omega:en<=j)
      have HD:Hid (aJ J wr [.cel (aH (aG I (XB))) (.slice (some ⟨g1,0,none⟩) I I),.cel (aH (aG on (YB))) (.slice (some ⟨g2,0,none⟩) on on),.cel (aH (aG sn (R++bX es))) (.slice (some ⟨Z,0,none⟩) sn sn),.cel (aH (aG ln (H++av es))) (.slice (some ⟨g4,0,none⟩) ln ln)]):=by
       have h:=B.out
       show aJ J _ _
       rwa [a4,List.take_of_length_le (by rw [bd.out];exact Nat.le_refl _)] at h
      clear B a4
      go_wp2_with fail
      go_roundw
      ·exact ⟨k+1,by omega,by go_num,by rw [bo.out,bu.out,bt.out,bk.out];exact HD.out,cc.out⟩
      simp [intOf];omega
     ·subst dH
      have ce:=jW.1 aw.1
      rw [bz.out] at ce
      obtain ⟨X,rfl⟩:∃X:Nat,it=(X:Int):=⟨it.toNat,by omega⟩
      have hX:X<sn:=by have:=cj.out;omega
      have ao:=dX 0 (bs.take k) ⟨2,(X:Int),es⟩
      have ak:=dX 1 (bs.take k) ⟨2,(X:Int),es⟩
      have al:=ja (bs.take k) ⟨2,(X:Int),es⟩
      have aj:=jZ (bs.take k) ⟨2,(X:Int),es⟩
      rw [←bm.out] at ao ak al aj
      simp only [Int.reduceEq,reduceIte,List.append_nil] at ao ak al aj
      have aQ:=eO 0 (bs.take k)
      have aM:=eO 1 (bs.take k)
      rw [List.length_take] at aQ aM
      obtain ⟨cX,fX,lX,G⟩:=eD b9.out 2 rfl hX
      have bV:=fC (di (bs.take k)) (X:Int)
      have a2:Hid (aJ J (w4.setCell ⟨Z,X,none⟩ (.int .i64 (((cnt (di (bs.take k)) (X:Int):Nat):Int)+1))) [.cel (aH (aG I (bA 0 (bs.take k)))) (.slice (some ⟨g1,0,none⟩) I I),.cel (aH (aG on (bA 1 (bs.take k)))) (.slice (some ⟨g2,0,none⟩) on on),.cel (aH (aG sn (di (bs.take k)++[(X:Int)]))) (.slice (some ⟨Z,0,none⟩) sn sn),.cel (aH (aG ln (eT (bs.take k)))) (.slice (some ⟨g4,0,none⟩) ln ln)]):=G
      clear G
      have cU:wr.heap.size≠Z:=by have:=(nV HS.out 2 rfl).1;omega
      have a5:Hid ((di (bs.take k)++[(X:Int)]).length<=1000):=by show _<=_;have:=a7.out;(try rw [List.length_append,List.length_singleton]);omega
      have a3:Hid ((eT (bs.take k)).length<=1000):=by show _<=_;have:=bx.out;omega
      obtain ⟨XB,aZ⟩:∃XB,bA 0 (bs.take k)=XB:=⟨_,rfl⟩
      obtain ⟨YB,aX⟩:∃YB,bA 1 (bs.take k)=YB:=⟨_,rfl⟩
      obtain ⟨R,aU⟩:∃R,di (bs.take k)++[(X:Int)]=R:=⟨_,rfl⟩
      obtain ⟨H,a0⟩:∃H,eT (bs.take k)=H:=⟨_,rfl⟩
      rw [aZ,aX,aU,a0] at a2
      rw [aZ] at ao
      rw [aX] at ak
      rw [aU] at al a5
      rw [a0] at aj a3
      obtain ⟨bo,bu,bt,bk⟩:=hd4 ao ak al aj
      clear ao ak al aj aZ aX aU a0
      generalize cnt (di (bs.take k)) (X:Int)=q at *
      have iq:q<=10000:=by have:=a7.out;omega
      have iX:(X:Int)<(sn:Int):=by omega
      clear bV
      obtain ⟨y0,y1,y2,ly⟩:=jX (aD b4 bL.out)
      clear b4 aQ aM aw
      go_wp2_with fail
      clear y0 y1 y2 ly cX fX lX
      go_loopw [78] (fun i wr=>∃j:Nat,j<=en/\i = .int .i64 (j:Int)/\aJ J wr [.cel (aH (aG I (XB))) (.slice (some ⟨g1,0,none⟩) I I),.cel (aH (aG on (YB))) (.slice (some ⟨g2,0,none⟩) on on),.cel (aH (aG sn (R++bX (es.take j)))) (.slice (some ⟨Z,0,none⟩) sn sn),.cel (aH (aG ln (H++av (es.take j)))) (.slice (some ⟨g4,0,none⟩) ln ln)]) (fun i _=>en - (intOf i).toNat)
      ·exact ⟨0,by omega,rfl,by rw [List.take_zero];simpa [bX,av] using a2.out⟩
      obtain ⟨j,hj,rfl,hs⟩:=hrel
      have B:=Hd hs
      clear hs
      by_cases a8:j<en
      ·have bj:=dT (by omega:j<en)
       have af:j<es.length:=by rw [bd.out];exact a8
       obtain ⟨be,oe,a9,aW,c0,c1⟩:=HE.out.es (k:=j) af
       have cm:=Hd a9
       have V:=aA a1.out B.out.bel
       have cr:=aK V aW
       rw [←V.cell (p:=⟨be,oe+j * 2,none⟩) aW] at c0
       rw [←V.cell (p:=⟨be,oe+j * 2+1,none⟩) aW] at c1
       have aF:=cd.out _ (List.getElem_mem af)
       have g:=kN (es.take j) (es[j]?.getD LeT.zero)
       have z:=jY (es.take j) (es[j]?.getD LeT.zero)
       rw [←bU af] at g z
       have aq:=kz (es.take j)
       have ar:=jh (es.take j)
       rw [List.length_take] at aq ar
       rw [show es[j]=es[j]?.getD LeT.zero by rw [List.getElem?_eq_getElem af];rfl] at aF
       have K:=aF.lut.2
       have Q:=aF.ff.2
       rw [bK.out] at K
       rw [bz.out] at Q
       have D:=ca.out
       have aC:=a5.out
       have ay:=a3.out
       clear aF af V
       generalize es[j]?.getD LeT.zero=e at *
       obtain ⟨a,b⟩:=e
       simp only at K Q g z c0 c1
       obtain ⟨i0,i1⟩:=ib (by omega:j<en)
       have aE:=Hd (B.out.alloc (.cells #[.int .i64 a,.int .i64 b] 94))
       have hq:=aI wr (.cells #[.int .i64 a,.int .i64 b] 94)
       have HQ:=Hd hq
       obtain ⟨q0,q1,lq⟩:=jv hq
       have ah:=fC (R++bX (es.take j)) b
       have ad:=fC (H++av (es.take j)) a
       rw [List.length_append] at ah ad
       clear hq
       subst a9
       have bS:wr.heap.size≠Z:=by have:=(nV B.out 2 rfl).1;omega
       have bO:wr.heap.size≠g4:=by have:=(nV B.out 3 rfl).1;omega
       have cn:Z≠g4:=xg B.out 2 3 (by decide) rfl rfl
       by_cases ha:0<=a
       ·have da:decide (a≥0)=true:=decide_eq_true ha
        rw [if_pos ha] at z
        obtain ⟨X,rfl⟩:=Int.eq_ofNat_of_zero_le ha
        have bh:X<ln:=by omega
        obtain ⟨cX,fX,lX,G⟩:=eD aE.out 3 rfl bh
        by_cases U:0<=b
        ·have db:decide (b≥0)=true:=decide_eq_true U
         rw [if_pos U] at g
         obtain ⟨Y,rfl⟩:=Int.eq_ofNat_of_zero_le U
         have aL:Y<sn:=by omega
         obtain ⟨cY,fY,lY,am⟩:=eD G 2 rfl aL
         obtain ⟨cp,cy,cu,_⟩:=eD aE.out 2 rfl aL
         have HN:=Hd am
         have HR:Hid (aJ J (((wr.alloc (.cells #[.int .i64 (X:Int),.int .i64 (Y:Int)] 94)).setCell ⟨g4,X,none⟩ (.int .i64 (((cnt (H++av (es.take j)) (X:Int):Nat):Int)+1))).setCell ⟨Z,Y,none⟩ (.int .i64 (((cnt (R++bX (es.take j)) (Y:Int):Nat):Int)+1))) [.cel (aH (aG I (XB))) (.slice (some ⟨g1,0,none⟩) I I),.cel (aH (aG on (YB))) (.slice (some ⟨g2,0,none⟩) on on),.cel (aH (aG sn (R++bX (es.take (j+1))))) (.slice (some ⟨Z,0,none⟩) sn sn),.cel (aH (aG ln (H++av (es.take (j+1))))) (.slice (some ⟨g4,0,none⟩) ln ln)]):=by
          show aJ J _ _
          rw [g,z,←List.append_assoc,←List.append_assoc]
          exact HN.out
         clear G am cY fY lY g z HN
         generalize cnt (H++av (es.take j)) (X:Int)=aV at *
         generalize cnt (R++bX (es.take j)) (Y:Int)=aY at *
         have iX:(X:Int)<(ln:Int):=by omega
         have iY:(Y:Int)<(sn:Int):=by omega
         have br:aV<=10000:=by omega
         have bp:aY<=10000:=by omega
         clear ah ad aq ar D aC ay K Q
         go_wp2_with fail
         go_roundw
         ·exact ⟨j+1,by omega,by go_num,HR.out⟩
         simp [intOf];omega
        have db:decide (b≥0)=false:=decide_eq_false U
        rw [if_neg U,List.append_nil] at g
        have HN:=Hd G
        have HR:Hid (aJ J ((wr.alloc (.cells #[.int .i64 (X:Int),.int .i64 b] 94)).setCell ⟨g4,X,none⟩ (.int .i64 (((cnt (H++av (es.take j)) (X:Int):Nat):Int)+1))) [.cel (aH (aG I (XB))) (.slice (some ⟨g1,0,none⟩) I I),.cel (aH (aG on (YB))) (.slice (some ⟨g2,0,none⟩) on on),.cel (aH (aG sn (R++bX (es.take (j+1))))) (.slice (some ⟨Z,0,none⟩) sn sn),.cel (aH (aG ln (H++av (es.take (j+1))))) (.slice (some ⟨g4,0,none⟩) ln ln)]):=by
         show aJ J _ _
         rw [g,z,←List.append_assoc]
         exact HN.out
        clear G g z HN
        generalize cnt (H++av (es.take j)) (X:Int)=aV at *
        have iX:(X:Int)<(ln:Int):=by omega
        have br:aV<=10000:=by omega
        clear ah ad aq ar D aC ay K Q
        go_wp2_with fail
        go_roundw
        ·exact ⟨j+1,by omega,by go_num,HR.out⟩
        simp [intOf];omega
       have da:decide (a≥0)=false:=decide_eq_false ha
       rw [if_neg ha,List.append_nil] at z
       by_cases U:0<=b
       ·have db:decide (b≥0)=true:=decide_eq_true U
        rw [if_pos U] at g
        obtain ⟨Y,rfl⟩:=Int.eq_ofNat_of_zero_le U
        have aL:Y<sn:=by omega
        obtain ⟨cY,fY,lY,am⟩:=eD aE.out 2 rfl aL
        have HN:=Hd am
        have HR:Hid (aJ J ((wr.alloc (.cells #[.int .i64 a,.int .i64 (Y:Int)] 94)).setCell ⟨Z,Y,none⟩ (.int .i64 (((cnt (R++bX (es.take j)) (Y:Int):Nat):Int)+1))) [.cel (aH (aG I (XB))) (.slice (some ⟨g1,0,none⟩) I I),.cel (aH (aG on (YB))) (.slice (some ⟨g2,0,none⟩) on on),.cel (aH (aG sn (R++bX (es.take (j+1))))) (.slice (some ⟨Z,0,none⟩) sn sn),.cel (aH (aG ln (H++av (es.take (j+1))))) (.slice (some ⟨g4,0,none⟩) ln ln)]):=by
         show aJ J _ _
         rw [g,z,←List.append_assoc]
         exact HN.out
        clear am g z HN
        generalize cnt (R++bX (es.take j)) (Y:Int)=aY at *
        have iY:(Y:Int)<(sn:Int):=by omega
        have bp:aY<=10000:=by omega
        clear ah ad aq ar D aC ay K Q
        go_wp2_with fail
        go_roundw
        ·exact ⟨j+1,by omega,by go_num,HR.out⟩
        simp [intOf];omega
       have db:decide (b≥0)=false:=decide_eq_false U
       rw [if_neg U,List.append_nil] at g
       have HR:Hid (aJ J (wr.alloc (.cells #[.int .i64 a,.int .i64 b] 94)) [.cel (aH (aG I (XB))) (.slice (some ⟨g1,0,none⟩) I I),.cel (aH (aG on (YB))) (.slice (some ⟨g2,0,none⟩) on on),.cel (aH (aG sn (R++bX (es.take (j+1))))) (.slice (some ⟨Z,0,none⟩) sn sn),.cel (aH (aG ln (H++av (es.take (j+1))))) (.slice (some ⟨g4,0,none⟩) ln ln)]):=by
        show aJ J _ _
        rw [g,z]
        exact aE.out
       clear g z ah ad aq ar D aC ay K Q
       go_wp2_with fail
       go_roundw
       ·exact ⟨j+1,by omega,by go_num,HR.out⟩
       simp [intOf];omega
      have a4:j=en:=by omega
      have bj:=dF (by omega:en<=j)
      have HD:Hid (aJ J wr [.cel (aH (aG I (XB))) (.slice (some ⟨g1,0,none⟩) I I),.cel (aH (aG on (YB))) (.slice (some ⟨g2,0,none⟩) on on),.cel (aH (aG sn (R++bX es))) (.slice (some ⟨Z,0,none⟩) sn sn),.cel (aH (aG ln (H++av es))) (.slice (some ⟨g4,0,none⟩) ln ln)]):=by
       have h:=B.out
       show aJ J _ _
       rwa [a4,List.take_of_length_le (by rw [bd.out];exact Nat.le_refl _)] at h
      clear B a4
      go_wp2_with fail
      go_roundw
      ·exact ⟨k+1,by omega,by go_num,by rw [bo.out,bu.out,bt.out,bk.out];exact HD.out,cc.out⟩
      simp [intOf];omega
     subst dl
     have ao:=dX 0 (bs.take k) ⟨3,it,es⟩
     have ak:=dX 1 (bs.take k) ⟨3,it,es⟩
     have al:=ja (bs.take k) ⟨3,it,es⟩
     have aj:=jZ (bs.take k) ⟨3,it,es⟩
     rw [←bm.out] at ao ak al aj
     simp only [Int.reduceEq,reduceIte,List.append_nil] at ao ak al aj
     have aQ:=eO 0 (bs.take k)
     have aM:=eO 1 (bs.take k)
     rw [List.length_take] at aQ aM
     have a2:Hid (aJ J w4 [.cel (aH (aG I (bA 0 (bs.take k)))) (.slice (some ⟨g1,0,none⟩) I I),.cel (aH (aG on (bA 1 (bs.take k)))) (.slice (some ⟨g2,0,none⟩) on on),.cel (aH (aG sn (di (bs.take k)))) (.slice (some ⟨Z,0,none⟩) sn sn),.cel (aH (aG ln (eT (bs.take k)))) (.slice (some ⟨g4,0,none⟩) ln ln)]):=b9.out
     have a5:Hid ((di (bs.take k)).length<=1000):=by show _<=_;have:=a7.out;(try rw [List.length_append,List.length_singleton]);omega
     have a3:Hid ((eT (bs.take k)).length<=1000):=by show _<=_;have:=bx.out;omega
     obtain ⟨XB,aZ⟩:∃XB,bA 0 (bs.take k)=XB:=⟨_,rfl⟩
     obtain ⟨YB,aX⟩:∃YB,bA 1 (bs.take k)=YB:=⟨_,rfl⟩
     obtain ⟨R,aU⟩:∃R,di (bs.take k)=R:=⟨_,rfl⟩
     obtain ⟨H,a0⟩:∃H,eT (bs.take k)=H:=⟨_,rfl⟩
     rw [aZ,aX,aU,a0] at a2
     rw [aZ] at ao
     rw [aX] at ak
     rw [aU] at al a5
     rw [a0] at aj a3
     obtain ⟨bo,bu,bt,bk⟩:=hd4 ao ak al aj
     clear ao ak al aj aZ aX aU a0
     obtain ⟨y0,y1,y2,ly⟩:=jX (aD b4 bL.out)
     clear b4 aQ aM aw
     go_wp2_with fail
     clear y0 y1 y2 ly
     go_loopw [78] (fun i wr=>∃j:Nat,j<=en/\i = .int .i64 (j:Int)/\aJ J wr [.cel (aH (aG I (XB))) (.slice (some ⟨g1,0,none⟩) I I),.cel (aH (aG on (YB))) (.slice (some ⟨g2,0,none⟩) on on),.cel (aH (aG sn (R++bX (es.take j)))) (.slice (some ⟨Z,0,none⟩) sn sn),.cel (aH (aG ln (H++av (es.take j)))) (.slice (some ⟨g4,0,none⟩) ln ln)]) (fun i _=>en - (intOf i).toNat)
     ·exact ⟨0,by omega,rfl,by rw [List.take_zero];simpa [bX,av] using a2.out⟩
     obtain ⟨j,hj,rfl,hs⟩:=hrel
     have B:=Hd hs
     clear hs
     by_cases a8:j<en
     ·have bj:=dT (by omega:j<en)
      have af:j<es.length:=by rw [bd.out];exact a8
      obtain ⟨be,oe,a9,aW,c0,c1⟩:=HE.out.es (k:=j) af
      have cm:=Hd a9
      have V:=aA a1.out B.out.bel
      have cr:=aK V aW
      rw [←V.cell (p:=⟨be,oe+j * 2,none⟩) aW] at c0
      rw [←V.cell (p:=⟨be,oe+j * 2+1,none⟩) aW] at c1
      have aF:=cd.out _ (List.getElem_mem af)
      have g:=kN (es.take j) (es[j]?.getD LeT.zero)
      have z:=jY (es.take j) (es[j]?.getD LeT.zero)
      rw [←bU af] at g z
      have aq:=kz (es.take j)
      have ar:=jh (es.take j)
      rw [List.length_take] at aq ar
      rw [show es[j]=es[j]?.getD LeT.zero by rw [List.getElem?_eq_getElem af];rfl] at aF
      have K:=aF.lut.2
      have Q:=aF.ff.2
      rw [bK.out] at K
      rw [bz.out] at Q
      have D:=ca.out
      have aC:=a5.out
      have ay:=a3.out
      clear aF af V
      generalize es[j]?.getD LeT.zero=e at *
      obtain ⟨a,b⟩:=e
      simp only at K Q g z c0 c1
      obtain ⟨i0,i1⟩:=ib (by omega:j<en)
      have aE:=Hd (B.out.alloc (.cells #[.int .i64 a,.int .i64 b] 94))
      have hq:=aI wr (.cells #[.int .i64 a,.int .i64 b] 94)
      have HQ:=Hd hq
      obtain ⟨q0,q1,lq⟩:=jv hq
      have ah:=fC (R++bX (es.take j)) b
      have ad:=fC (H++av (es.take j)) a
      rw [List.length_append] at ah ad
      clear hq
      subst a9
      have bS:wr.heap.size≠Z:=by have:=(nV B.out 2 rfl).1;omega
      have bO:wr.heap.size≠g4:=by have:=(nV B.out 3 rfl).1;omega
      have cn:Z≠g4:=xg B.out 2 3 (by decide) rfl rfl
      by_cases ha:0<=a
      ·have da:decide (a≥0)=true:=decide_eq_true ha
       rw [if_pos ha] at z
       obtain ⟨X,rfl⟩:=Int.eq_ofNat_of_zero_le ha
       have bh:X<ln:=by omega
       obtain ⟨cX,fX,lX,G⟩:=eD aE.out 3 rfl bh
       by_cases U:0<=b
       ·have db:decide (b≥0)=true:=decide_eq_true U
        rw [if_pos U] at g
        obtain ⟨Y,rfl⟩:=Int.eq_ofNat_of_zero_le U
        have aL:Y<sn:=by omega
        obtain ⟨cY,fY,lY,am⟩:=eD G 2 rfl aL
        obtain ⟨cp,cy,cu,_⟩:=eD aE.out 2 rfl aL
        have HN:=Hd am
        have HR:Hid (aJ J (((wr.alloc (.cells #[.int .i64 (X:Int),.int .i64 (Y:Int)] 94)).setCell ⟨g4,X,none⟩ (.int .i64 (((cnt (H++av (es.take j)) (X:Int):Nat):Int)+1))).setCell ⟨Z,Y,none⟩ (.int .i64 (((cnt (R++bX (es.take j)) (Y:Int):Nat):Int)+1))) [.cel (aH (aG I (XB))) (.slice (some ⟨g1,0,none⟩) I I),.cel (aH (aG on (YB))) (.slice (some ⟨g2,0,none⟩) on on),.cel (aH (aG sn (R++bX (es.take (j+1))))) (.slice (some ⟨Z,0,none⟩) sn sn),.cel (aH (aG ln (H++av (es.take (j+1))))) (.slice (some ⟨g4,0,none⟩) ln ln)]):=by
         show aJ J _ _
         rw [g,z,←List.append_assoc,←List.append_assoc]
         exact HN.out
        clear G am cY fY lY g z HN
        generalize cnt (H++av (es.take j)) (X:Int)=aV at *
        generalize cnt (R++bX (es.take j)) (Y:Int)=aY at *
        have iX:(X:Int)<(ln:Int):=by omega
        have iY:(Y:Int)<(sn:Int):=by omega
        have br:aV<=10000:=by omega
        have bp:aY<=10000:=by omega
        clear ah ad aq ar D aC ay K Q
        go_wp2_with fail
        go_roundw
        ·exact ⟨j+1,by omega,by go_num,HR.out⟩
        simp [intOf];omega
       have db:decide (b≥0)=false:=decide_eq_false U
       rw [if_neg U,List.append_nil] at g
       have HN:=Hd G
       have HR:Hid (aJ J ((wr.alloc (.cells #[.int .i64 (X:Int),.int .i64 b] 94)).setCell ⟨g4,X,none⟩ (.int .i64 (((cnt (H++av (es.take j)) (X:Int):Nat):Int)+1))) [.cel (aH (aG I (XB))) (.slice (some ⟨g1,0,none⟩) I I),.cel (aH (aG on (YB))) (.slice (some ⟨g2,0,none⟩) on on),.cel (aH (aG sn (R++bX (es.take (j+1))))) (.slice (some ⟨Z,0,none⟩) sn sn),.cel (aH (aG ln (H++av (es.take (j+1))))) (.slice (some ⟨g4,0,none⟩) ln ln)]):=by
        show aJ J _ _
        rw [g,z,←List.append_assoc]
        exact HN.out
       clear G g z HN
       generalize cnt (H++av (es.take j)) (X:Int)=aV at *
       have iX:(X:Int)<(ln:Int):=by omega
       have br:aV<=10000:=by omega
       clear ah ad aq ar D aC ay K Q
       go_wp2_with fail
       go_roundw
       ·exact ⟨j+1,by omega,by go_num,HR.out⟩
       simp [intOf];omega
      have da:decide (a≥0)=false:=decide_eq_false ha
      rw [if_neg ha,List.append_nil] at z
      by_cases U:0<=b
      ·have db:decide (b≥0)=true:=decide_eq_true U
       rw [if_pos U] at g
       obtain ⟨Y,rfl⟩:=Int.eq_ofNat_of_zero_le U
       have aL:Y<sn:=by omega
       obtain ⟨cY,fY,lY,am⟩:=eD aE.out 2 rfl aL
       have HN:=Hd am
       have HR:Hid (aJ J ((wr.alloc (.cells #[.int .i64 a,.int .i64 (Y:Int)] 94)).setCell ⟨Z,Y,none⟩ (.int .i64 (((cnt (R++bX (es.take j)) (Y:Int):Nat):Int)+1))) [.cel (aH (aG I (XB))) (.slice (some ⟨g1,0,none⟩) I I),.cel (aH (aG on (YB))) (.slice (some ⟨g2,0,none⟩) on on),.cel (aH (aG sn (R++bX (es.take (j+1))))) (.slice (some ⟨Z,0,none⟩) sn sn),.cel (aH (aG ln (H++av (es.take (j+1))))) (.slice (some ⟨g4,0,none⟩) ln ln)]):=by
        show aJ J _ _
        rw [g,z,←List.append_assoc]
        exact HN.out
       clear am g z HN
       generalize cnt (R++bX (es.take j)) (Y:Int)=aY at *
       have iY:(Y:Int)<(sn:Int):=by omega
       have bp:aY<=10000:=by omega
       clear ah ad aq ar D aC ay K Q
       go_wp2_with fail
       go_roundw
       ·exact ⟨j+1,by omega,by go_num,HR.out⟩
       simp [intOf];omega
      have db:decide (b≥0)=false:=decide_eq_false U
      rw [if_neg U,List.append_nil] at g
      have HR:Hid (aJ J (wr.alloc (.cells #[.int .i64 a,.int .i64 b] 94)) [.cel (aH (aG I (XB))) (.slice (some ⟨g1,0,none⟩) I I),.cel (aH (aG on (YB))) (.slice (some ⟨g2,0,none⟩) on on),.cel (aH (aG sn (R++bX (es.take (j+1))))) (.slice (some ⟨Z,0,none⟩) sn sn),.cel (aH (aG ln (H++av (es.take (j+1))))) (.slice (some ⟨g4,0,none⟩) ln ln)]):=by
       show aJ J _ _
       rw [g,z]
       exact aE.out
      clear g z ah ad aq ar D aC ay K Q
      go_wp2_with fail
      go_roundw
      ·exact ⟨j+1,by omega,by go_num,HR.out⟩
      simp [intOf];omega
     have a4:j=en:=by omega
     have bj:=dF (by omega:en<=j)
     have HD:Hid (aJ J wr [.cel (aH (aG I (XB))) (.slice (some ⟨g1,0,none⟩) I I),.cel (aH (aG on (YB))) (.slice (some ⟨g2,0,none⟩) on on),.cel (aH (aG sn (R++bX es))) (.slice (some ⟨Z,0,none⟩) sn sn),.cel (aH (aG ln (H++av es))) (.slice (some ⟨g4,0,none⟩) ln ln)]):=by
      have h:=B.out
      show aJ J _ _
      rwa [a4,List.take_of_length_le (by rw [bd.out];exact Nat.le_refl _)] at h
     clear B a4
     go_wp2_with fail
     go_roundw
     ·exact ⟨k+1,by omega,by go_num,by rw [bo.out,bu.out,bt.out,bk.out];exact HD.out,cc.out⟩
     simp [intOf];omega
    rw [bJ aw]
    have HR:=Hd (cz.out aw)
    rintro _ w4 ⟨rfl,b4⟩
    have dA:=Hd (aA (aA a1.out HA.out.bel) b4)
    clear x0 x1 x2 x3 lx y0 y1 y2 ly c0 c1 c2 HG cz b4
    go_wp2_with fail
    go_ret
    exact ⟨aO HR.out,dA.out⟩
   have cW:k=bn:=by omega
   have dk:=dF (by omega:bn<=k)
   have bm:Hid (bs.take k=bs):=by show _=_;rw [cW];exact List.take_of_length_le (by rw [ci.out];exact Nat.le_refl _)
   rw [bm.out] at HS bf
   have dE:=Hd (HS.out.ints 0 rfl)
   have dv:=Hd (HS.out.ints 1 rfl)
   have dq:=Hd (HS.out.ints 2 rfl)
   have ds:=Hd (HS.out.ints 3 rfl)
   have bQ:=Hd (aA a1.out HS.out.bel)
   have cP:Hid ((∀q:Nat,q<I→(aG I (bA 0 bs))[q]?.getD 0=1)↔sJ l.inputs.toNat (bA 0 bs)):=by
    show _↔_
    rw [dy.out]
    exact mD
   have cR:Hid ((∀q:Nat,q<on→(aG on (bA 1 bs))[q]?.getD 0=1)↔sJ l.outs.length (bA 1 bs)):=by
    show _↔_
    rw [cV.out]
    exact mD
   have cS:Hid ((∀q:Nat,q<sn→(aG sn (di bs))[q]?.getD 0=1)↔sJ l.seqs.length (di bs)):=by
    show _↔_
    rw [bz.out]
    exact mD
   have cL:Hid ((∀q:Nat,q<ln→(aG ln (eT bs))[q]?.getD 0=1)↔sJ l.luts.length (eT bs)):=by
    show _↔_
    rw [bK.out]
    exact mD
   clear HS cW
   go_wp2_with fail
   refine (mR _ I I (aG I (bA 0 bs)) _ dE.out (by omega)).mono ?_
   by_cases q1:∀q:Nat,q<I→(aG I (bA 0 bs))[q]?.getD 0=1
   ·rw [ae q1]
    rintro _ v1 ⟨rfl,rfl⟩
    go_wp2_with fail
    refine (mR _ on on (aG on (bA 1 bs)) _ dv.out (by omega)).mono ?_
    by_cases q2:∀q:Nat,q<on→(aG on (bA 1 bs))[q]?.getD 0=1
    ·rw [ae q2]
     rintro _ v2 ⟨rfl,rfl⟩
     go_wp2_with fail
     refine (mR _ sn sn (aG sn (di bs)) _ dq.out (by omega)).mono ?_
     by_cases q3:∀q:Nat,q<sn→(aG sn (di bs))[q]?.getD 0=1
     ·rw [ae q3]
      rintro _ v3 ⟨rfl,rfl⟩
      go_wp2_with fail
      refine (mR _ ln ln (aG ln (eT bs)) _ ds.out (by omega)).mono ?_
      by_cases q4:∀q:Nat,q<ln→(aG ln (eT bs))[q]?.getD 0=1
      ·rw [ae q4]
       have HR:Hid (fq l bs):=⟨HF.out,by rw [ci.out];exact cw,bf.out,cP.out.1 q1,cR.out.1 q2,cS.out.1 q3,cL.out.1 q4⟩
       rintro _ v4 ⟨rfl,rfl⟩
       go_wp2_with fail
       go_ret
       exact ⟨dU HR.out,bQ.out⟩
      rw [bJ q4]
      have HR:Hid (¬fq l bs):=fun h=>q4 (cL.out.2 h.luts)
      rintro _ v4 ⟨rfl,rfl⟩
      go_wp2_with fail
      go_ret
      exact ⟨aO HR.out,bQ.out⟩
     rw [bJ q3]
     have HR:Hid (¬fq l bs):=fun h=>q3 (cS.out.2 h.seqs)
     rintro _ v3 ⟨rfl,rfl⟩
     go_wp2_with fail
     go_ret
     exact ⟨aO HR.out,bQ.out⟩
    rw [bJ q2]
    have HR:Hid (¬fq l bs):=fun h=>q2 (cR.out.2 h.outs)
    rintro _ v2 ⟨rfl,rfl⟩
    go_wp2_with fail
    go_ret
    exact ⟨aO HR.out,bQ.out⟩
   rw [bJ q1]
   have HR:Hid (¬fq l bs):=fun h=>q1 (cP.out.2 h.ins)
   rintro _ v1 ⟨rfl,rfl⟩
   go_wp2_with fail
   go_ret
   exact ⟨aO HR.out,bQ.out⟩
  have dn:decide ((64:Int)<(bn:Int))=true:=decide_eq_true (by omega)
  have HR:Hid (¬fq l bs):=fun h=>cw (by rw [←cs];exact h.len)
  go_enter Tryz.func45,Tryz.ntmps45
  go_upto_region 1 with fail
  generalize w.alloc (.cells (ai l SA LA OA sn sc ln lc on oc) 41)=W0 at *
  obtain ⟨x0,x1,x2,x3,lx⟩:=cO b6.out
  go_wp2_with fail
  refine (pY l SA LA OA sn sc ln lc on oc _ (HN.out.below bB.out)).mono ?_
  rw [ae hf]
  rintro _ w1 ⟨rfl,b1⟩
  have a1:=Hd (aA bB.out b1)
  clear b1 x0 x1 x2 x3 lx hf cw
  go_wp2_with fail
  go_ret
  exact ⟨aO HR.out,a1.out⟩
 have HR:Hid (¬fq l bs):=fun h=>hf h.net
 go_enter Tryz.func45,Tryz.ntmps45
 go_upto_region 1 with fail
 generalize w.alloc (.cells (ai l SA LA OA sn sc ln lc on oc) 41)=W0 at *
 obtain ⟨x0,x1,x2,x3,lx⟩:=cO b6.out
 go_wp2_with fail
 refine (pY l SA LA OA sn sc ln lc on oc _ (HN.out.below bB.out)).mono ?_
 rw [bJ hf]
 rintro _ w1 ⟨rfl,b1⟩
 have a1:=Hd (aA bB.out b1)
 clear b1 x0 x1 x2 x3 lx hf
 go_wp2_with fail
 go_ret
 exact ⟨aO HR.out,a1.out⟩
end Go.Proofs.YtofihjoanjkdmaaGreat
