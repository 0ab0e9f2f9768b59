/- The program's test of blocks (printed by mkpk.py). -/
import Derived.Deep.CutRange
import Derived.Deep.DeepCutAuto
import Derived.Test.YtofihjoanjkdmaaGreatLayF5
namespace Go.Proofs.YtofihjoanjkdmaaGreat
set_option maxHeartbeats 4000000
set_option maxRecDepth 100000
open Go.RowKit
theorem lJ (l:ai) (SA LA OA:Option Addr) (sn sc ln lc on oc:Nat) (bs:List Blk) (BA:Option Addr) (bn bc:Nat) (w:World) (h:fo w l SA LA OA sn sc ln lc on oc) (hB:RdC w w.heap.size (aa bs) (.slice BA bn bc)) (cL:∀b∈bs,b.les.length<=1048576) :
  Calls Tryz.prog 45 #[jI l SA LA OA sn sc ln lc on oc,.slice BA bn bc] w fun e w'=>e = .returned (.bool (tb (fQ l bs)))/\Below w.heap.size w w':=by
 have bw:=Hd (aD (Below.refl w.heap.size w) (.cells (ak l SA LA OA sn sc ln lc on oc) 41))
 have b8:=Hd (aI w (.cells (ak l SA LA OA sn sc ln lc on oc) 41))
 have cw:=hB.blkN
 obtain ⟨cx,dE,HB,HN⟩:=hd4 cw cL hB h
 clear hB cL
 obtain ⟨ck,cl,cp⟩:=h.lens
 obtain ⟨bx,bQ,cG⟩:=hd3 ck cl cp
 clear h
 by_cases hf:bA l
 ·by_cases cn:bn<=64
  ·have dt:decide ((64:Int)<(bn:Int))=false:=decide_eq_false (by omega)
   have dl:=hf.nseq
   have dC:=hf.nlut
   have dg:=hf.nout
   have dO:=hf.inp
   rw [ck] at dl
   rw [cl] at dC
   rw [cp] at dg
   have HF:=Hd hf
   obtain ⟨I,hI⟩:∃I:Nat,l.inputs=(I:Int):=⟨l.inputs.toNat,by omega⟩
   have dx:Hid (l.inputs.toNat=I):=by show _=_;omega
   have ci:=Hd hI
   have dL:I<=20:=by omega
   obtain ⟨i0,hi,cI,cE,cD⟩:=info_parts kC
   have mk:=fun (n:Nat) (hn:n<=1048576) W=>dP (P:=Tryz.prog) 26 3 i0 _ Tryz.underlying26 hi cI .i64 .i64 n n (Nat.le_refl _) (by rw [cD];omega) (by omega) W
   rw [cE] at mk
   simp only [Nat.mul_one,show (Value.int .i64 0).cells=#[Value.int .i64 0] from rfl,sw] at mk
   have cH:=mk I (by omega)
   have dG:=mk on (by omega)
   have dp:=mk sn (by omega)
   have mkL:=mk ln (by omega)
   rw [←hI] at cH
   clear mk hi cI cE cD ck cl cp hI cw
   go_enter Tryz.func45,Tryz.ntmps45
   go_upto_region 1 with fail
   generalize w.alloc (.cells (ak l SA LA OA sn sc ln lc on oc) 41)=W0 at *
   obtain ⟨x0,x1,x2,x3,lx⟩:=bX b8.out
   go_wp2_with fail
   refine (pU l SA LA OA sn sc ln lc on oc _ (HN.out.below bw.out)).mono ?_
   rw [ae hf]
   rintro _ w1 ⟨rfl,b1⟩
   have a0:=Hd (aA bw.out b1)
   have cz:=Hd (aC b1 b8.out)
   clear b1 x0 x1 x2 x3 lx hf
   obtain ⟨x0,x1,x2,x3,lx⟩:=bX cz.out
   obtain ⟨H,rfl⟩:∃x,x=w1:=⟨w1,rfl⟩
   go_upto_region 3 with fail
   go_cut [5,6] (fun p u w'=>Ai H I on p u w')
   case first =>
    go_region
    all_goals
     go_wp2_with fail
     go_meet
     (try simp only [uD])
     first|exact (Bc H I on (by omega) (by omega))|exact (Be H I on (by omega) (by omega))|exact (Bc H I on (by omega) (by omega)).drew|exact (Be H I on (by omega) (by omega)).drew
   obtain ⟨g1,g2,rfl,rfl,cR⟩:=hcut
   obtain ⟨w2,rfl⟩:∃x,x=wc:=⟨wc,rfl⟩
   have ch:=Hd cR
   clear x0 x1 x2 x3 lx cR cH dG
   obtain ⟨x0,x1,x2,x3,lx⟩:=bX (aC ch.out.bel cz.out)
   go_upto_region 4 with fail
   go_cut [7,8] (fun p u w'=>Ai w2 sn ln p u w')
   case first =>
    go_region
    all_goals
     go_wp2_with fail
     go_meet
     (try simp only [uD])
     first|exact (Bc w2 sn ln (by omega) (by omega))|exact (Be w2 sn ln (by omega) (by omega))|exact (Bc w2 sn ln (by omega) (by omega)).drew|exact (Be w2 sn ln (by omega) (by omega)).drew
   obtain ⟨Z,g4,rfl,rfl,cU⟩:=hcut
   have du:Hid (aJ H wc [.cel (aG (aH I (bC 0 []))) (.slice (some ⟨g1,0,none⟩) I I),.cel (aG (aH on (bC 1 []))) (.slice (some ⟨g2,0,none⟩) on on),.cel (aG (aH sn (dw []))) (.slice (some ⟨Z,0,none⟩) sn sn),.cel (aG (aH ln (eZ []))) (.slice (some ⟨g4,0,none⟩) ln ln)]):=ch.out.join cU
   clear x0 x1 x2 x3 lx cU dp mkL
   go_wp2_with fail
   go_loopw [38] (fun i wr=>∃k:Nat,k<=bn/\i = .int .i64 (k:Int)/\aJ H wr [.cel (aG (aH I (bC 0 (bs.take k)))) (.slice (some ⟨g1,0,none⟩) I I),.cel (aG (aH on (bC 1 (bs.take k)))) (.slice (some ⟨g2,0,none⟩) on on),.cel (aG (aH sn (dw (bs.take k)))) (.slice (some ⟨Z,0,none⟩) sn sn),.cel (aG (aH ln (eZ (bs.take k)))) (.slice (some ⟨g4,0,none⟩) ln ln)]/\∀b∈bs.take k,dI l b) (fun i _=>bn - (intOf i).toNat)
   ·exact ⟨0,by omega,rfl,by rw [List.take_zero];exact du.out,by simp⟩
   obtain ⟨k,hk,rfl,hs,cf⟩:=hrel
   obtain ⟨HS,bd⟩:=hd2 hs cf
   clear hs cf
   by_cases de:k<bn
   ·have dA:=dT (by omega:k<bn)
    have bl:k<bs.length:=by rw [cx.out];exact de
    obtain ⟨bb,ob,EA,en,ec,ds,b7,c0,c1,c2,r2⟩:=HB.out.blk (k:=k) bl
    have V:=aA a0.out HS.out.bel
    have dW:=aK V b7
    rw [←V.cell (p:=⟨bb,ob+k * 3,none⟩) b7] at c0
    rw [←V.cell (p:=⟨bb,ob+k * 3+1,none⟩) b7] at c1
    rw [←V.cell (p:=⟨bb,ob+k * 3+2,none⟩) b7] at c2
    have bk:=Hd (mq bl)
    have bv:=dE.out _ (List.getElem_mem bl)
    have hg:dI l (bs[k]?.getD Blk.zero)→∀b∈bs.take (k+1),dI l b:=fun h b U=>by
     rw [bk.out,List.mem_append,List.mem_singleton] at U
     rcases U with U|rfl
     ·exact bd.out b U
     exact h
    have cF:¬dI l (bs[k]?.getD Blk.zero)→¬fQ l bs:=fun h h'=>h (by rw [List.getElem?_eq_getElem bl];exact h'.fit _ (List.getElem_mem bl))
    obtain ⟨HG,co⟩:=hd2 hg cF
    have a7:Hid ((dw (bs.take k)).length<=192):=by
     show _<=_
     have h1:=wu bd.out
     rw [List.length_take] at h1
     have h2:min k bs.length * 3<=64 * 3:=Nat.mul_le_mul_right 3 (by omega)
     omega
    have bu:Hid ((eZ (bs.take k)).length<=128):=by
     show _<=_
     have h1:=ww bd.out
     rw [List.length_take] at h1
     have h2:min k bs.length * 2<=64 * 2:=Nat.mul_le_mul_right 2 (by omega)
     omega
    rw [show bs[k]=bs[k]?.getD Blk.zero by rw [List.getElem?_eq_getElem bl];rfl] at bv
    clear bl hg cF
    generalize bs[k]?.getD Blk.zero=b at *
    obtain ⟨kd,it,es⟩:=b
    simp only at c0 c1 bv
    have HE:=Hd (show RdC w w.heap.size (cO es) (.slice EA en ec) from r2)
    have a9:Hid (es.length=en):=HE.out.esN
    have dB:en<=1048576:=by rw [←a9.out];exact bv
    clear r2 bv
    subst ds
    obtain ⟨i0,i1⟩:=ib (by omega:k<bn)
    have HA:=Hd (HS.out.alloc (.cells #[.int .i64 kd,.int .i64 it,.slice EA en ec] 89))
    have bM:=Hd (aI wr (.cells #[.int .i64 kd,.int .i64 it,.slice EA en ec] 89))
    have hx:=aC HA.out.bel cz.out
    obtain ⟨x0,x1,x2,x3,lx⟩:=bX hx
    obtain ⟨y0,y1,y2,ly⟩:=jU bM.out
    clear hx V
    go_wp2_with fail
    refine (zS l SA LA OA sn sc ln lc on oc kd it es EA en ec _ (HN.out.below (aA a0.out HA.out.bel)) HF.out (HE.out.below (aA a0.out HA.out.bel)) dB).mono ?_
    by_cases av:dI l ⟨kd,it,es⟩
    ·rw [ae av]
     have cc:=Hd (HG.out av)
     have cb:=Hd (lM av)
     have b5:Hid (en<=2):=by show _<=_;rw [←a9.out];exact kH av
     rintro _ w4 ⟨rfl,b4⟩
     have cd:=Hd (HA.out.below b4)
     clear x0 x1 x2 x3 lx y0 y1 y2 ly c0 c1 c2 HG co
     rcases jJ av.1 with dd|dq|c9|dc
     ·subst dd
      have b9:=oN.1 av.1
      obtain ⟨X,rfl⟩:∃X:Nat,it=(X:Int):=⟨it.toNat,by omega⟩
      have hX:X<I:=by have:=ci.out;omega
      have aq:=dX 0 (bs.take k) ⟨0,(X:Int),es⟩
      have ah:=dX 1 (bs.take k) ⟨0,(X:Int),es⟩
      have ao:=jY (bs.take k) ⟨0,(X:Int),es⟩
      have am:=jX (bs.take k) ⟨0,(X:Int),es⟩
      rw [←bk.out] at aq ah ao am
      simp only [if_true,if_false,List.append_nil,Int.reduceEq] at aq ah ao am
      have aP:=eU 0 (bs.take k)
      have aQ:=eU 1 (bs.take k)
      rw [List.length_take] at aP aQ
      obtain ⟨cX,fX,lX,G⟩:=eP cd.out 0 rfl hX
      have bP:=fC (bC 0 (bs.take k)) (X:Int)
      have a2:Hid (aJ H (w4.setCell ⟨g1,X,none⟩ (.int .i64 (((cnt (bC 0 (bs.take k)) (X:Int):Nat):Int)+1))) [.cel (aG (aH I (bC 0 (bs.take k)++[(X:Int)]))) (.slice (some ⟨g1,0,none⟩) I I),.cel (aG (aH on (bC 1 (bs.take k)))) (.slice (some ⟨g2,0,none⟩) on on),.cel (aG (aH sn (dw (bs.take k)))) (.slice (some ⟨Z,0,none⟩) sn sn),.cel (aG (aH ln (eZ (bs.take k)))) (.slice (some ⟨g4,0,none⟩) ln ln)]):=G
      clear G
      have cJ:wr.heap.size≠g1:=by have:=(nY HS.out 0 rfl).1;omega
      have a6:Hid ((dw (bs.take k)).length<=1000):=by show _<=_;have:=a7.out;(try rw [List.length_append,List.length_singleton]);omega
      have a3:Hid ((eZ (bs.take k)).length<=1000):=by show _<=_;have:=bu.out;omega
      obtain ⟨XB,aX⟩:∃XB,bC 0 (bs.take k)++[(X:Int)]=XB:=⟨_,rfl⟩
      obtain ⟨YB,aZ⟩:∃YB,bC 1 (bs.take k)=YB:=⟨_,rfl⟩
      obtain ⟨R,aU⟩:∃R,dw (bs.take k)=R:=⟨_,rfl⟩
      obtain ⟨K,aV⟩:∃K,eZ (bs.take k)=K:=⟨_,rfl⟩
      rw [aX,aZ,aU,aV] at a2
      rw [aX] at aq
      rw [aZ] at ah
      rw [aU] at ao a6
      rw [aV] at am a3
      obtain ⟨bt,bp,bo,bm⟩:=hd4 aq ah ao am
      clear aq ah ao am aX aZ aU aV
      generalize cnt (bC 0 (bs.take k)) (X:Int)=q at *
      have iq:q<=10000:=by have:=a7.out;omega
      have iX:(X:Int)<(I:Int):=by omega
      clear bP
      obtain ⟨y0,y1,y2,ly⟩:=jU (aC b4 bM.out)
      clear b4 aP aQ av
      go_wp2_with fail
      clear y0 y1 y2 ly cX fX lX
      go_loopw [78] (fun i wr=>∃j:Nat,j<=en/\i = .int .i64 (j:Int)/\aJ H wr [.cel (aG (aH I (XB))) (.slice (some ⟨g1,0,none⟩) I I),.cel (aG (aH on (YB))) (.slice (some ⟨g2,0,none⟩) on on),.cel (aG (aH sn (R++bV (es.take j)))) (.slice (some ⟨Z,0,none⟩) sn sn),.cel (aG (aH ln (K++ax (es.take j)))) (.slice (some ⟨g4,0,none⟩) ln ln)]) (fun i _=>en - (intOf i).toNat)
      ·exact ⟨0,by omega,rfl,by rw [List.take_zero];simpa [bV,ax] using a2.out⟩
      obtain ⟨j,hj,rfl,hs⟩:=hrel
      have B:=Hd hs
      clear hs
      by_cases a8:j<en
      ·have bg:=dT (by omega:j<en)
       have ar:j<es.length:=by rw [a9.out];exact a8
       obtain ⟨be,oe,a5,aY,c0,c1⟩:=HE.out.es (k:=j) ar
       have cq:=Hd a5
       have V:=aA a0.out B.out.bel
       have cv:=aK V aY
       rw [←V.cell (p:=⟨be,oe+j * 2,none⟩) aY] at c0
       rw [←V.cell (p:=⟨be,oe+j * 2+1,none⟩) aY] at c1
       have aE:=cb.out _ (List.getElem_mem ar)
       have g:=kK (es.take j) (es[j]?.getD LeT.zero)
       have z:=jW (es.take j) (es[j]?.getD LeT.zero)
       rw [←bN ar] at g z
       have ad:=kw (es.take j)
       have ag:=ji (es.take j)
       rw [List.length_take] at ad ag
       rw [show es[j]=es[j]?.getD LeT.zero by rw [List.getElem?_eq_getElem ar];rfl] at aE
       have J:=aE.lut.2
       have Q:=aE.ff.2
       rw [bQ.out] at J
       rw [bx.out] at Q
       have D:=b5.out
       have az:=a6.out
       have aB:=a3.out
       clear aE ar V
       generalize es[j]?.getD LeT.zero=e at *
       obtain ⟨a,b⟩:=e
       simp only at J Q g z c0 c1
       obtain ⟨i0,i1⟩:=ib (by omega:j<en)
       have aF:=Hd (B.out.alloc (.cells #[.int .i64 a,.int .i64 b] 94))
       have hq:=aI wr (.cells #[.int .i64 a,.int .i64 b] 94)
       have HQ:=Hd hq
       obtain ⟨q0,q1,lq⟩:=fZ hq
       have aj:=fC (R++bV (es.take j)) b
       have ap:=fC (K++ax (es.take j)) a
       rw [List.length_append] at aj ap
       clear hq
       subst a5
       have bK:wr.heap.size≠Z:=by have:=(nY B.out 2 rfl).1;omega
       have bU:wr.heap.size≠g4:=by have:=(nY B.out 3 rfl).1;omega
       have cm:Z≠g4:=xu B.out 2 3 (by decide) rfl rfl
       by_cases ha:0<=a
       ·have da:decide (a≥0)=true:=decide_eq_true ha
        rw [if_pos ha] at z
        obtain ⟨X,rfl⟩:=Int.eq_ofNat_of_zero_le ha
        have bj:X<ln:=by omega
        obtain ⟨cX,fX,lX,G⟩:=eP aF.out 3 rfl bj
        by_cases U:0<=b
        ·have db:decide (b≥0)=true:=decide_eq_true U
         rw [if_pos U] at g
         obtain ⟨Y,rfl⟩:=Int.eq_ofNat_of_zero_le U
         have ay:Y<sn:=by omega
         obtain ⟨cY,fY,lY,al⟩:=eP G 2 rfl ay
         obtain ⟨cs,cu,cy,_⟩:=eP aF.out 2 rfl ay
         have HN:=Hd al
         have HR:Hid (aJ H (((wr.alloc (.cells #[.int .i64 (X:Int),.int .i64 (Y:Int)] 94)).setCell ⟨g4,X,none⟩ (.int .i64 (((cnt (K++ax (es.take j)) (X:Int):Nat):Int)+1))).setCell ⟨Z,Y,none⟩ (.int .i64 (((cnt (R++bV (es.take j)) (Y:Int):Nat):Int)+1))) [.cel (aG (aH I (XB))) (.slice (some ⟨g1,0,none⟩) I I),.cel (aG (aH on (YB))) (.slice (some ⟨g2,0,none⟩) on on),.cel (aG (aH sn (R++bV (es.take (j+1))))) (.slice (some ⟨Z,0,none⟩) sn sn),.cel (aG (aH ln (K++ax (es.take (j+1))))) (.slice (some ⟨g4,0,none⟩) ln ln)]):=by
          show aJ H _ _
          rw [g,z,←List.append_assoc,←List.append_assoc]
          exact HN.out
         clear G al cY fY lY g z HN
         generalize cnt (K++ax (es.take j)) (X:Int)=aW at *
         generalize cnt (R++bV (es.take j)) (Y:Int)=aT at *
         have iX:(X:Int)<(ln:Int):=by omega
         have iY:(Y:Int)<(sn:Int):=by omega
         have bq:aW<=10000:=by omega
         have br:aT<=10000:=by omega
         clear aj ap ad ag D az aB J Q
         go_wp2_with fail
         go_roundw
         ·exact ⟨j+1,by omega,by go_num,HR.out⟩
         simp [intOf];omega
        have db:decide (b≥0)=false:=decide_eq_false U
        rw [if_neg U,List.append_nil] at g
        have HN:=Hd G
        have HR:Hid (aJ H ((wr.alloc (.cells #[.int .i64 (X:Int),.int .i64 b] 94)).setCell ⟨g4,X,none⟩ (.int .i64 (((cnt (K++ax (es.take j)) (X:Int):Nat):Int)+1))) [.cel (aG (aH I (XB))) (.slice (some ⟨g1,0,none⟩) I I),.cel (aG (aH on (YB))) (.slice (some ⟨g2,0,none⟩) on on),.cel (aG (aH sn (R++bV (es.take (j+1))))) (.slice (some ⟨Z,0,none⟩) sn sn),.cel (aG (aH ln (K++ax (es.take (j+1))))) (.slice (some ⟨g4,0,none⟩) ln ln)]):=by
         show aJ H _ _
         rw [g,z,←List.append_assoc]
         exact HN.out
        clear G g z HN
        generalize cnt (K++ax (es.take j)) (X:Int)=aW at *
        have iX:(X:Int)<(ln:Int):=by omega
        have bq:aW<=10000:=by omega
        clear aj ap ad ag D az aB J Q
        go_wp2_with fail
        go_roundw
        ·exact ⟨j+1,by omega,by go_num,HR.out⟩
        simp [intOf];omega
       have da:decide (a≥0)=false:=decide_eq_false ha
       rw [if_neg ha,List.append_nil] at z
       by_cases U:0<=b
       ·have db:decide (b≥0)=true:=decide_eq_true U
        rw [if_pos U] at g
        obtain ⟨Y,rfl⟩:=Int.eq_ofNat_of_zero_le U
        have ay:Y<sn:=by omega
        obtain ⟨cY,fY,lY,al⟩:=eP aF.out 2 rfl ay
        have HN:=Hd al
        have HR:Hid (aJ H ((wr.alloc (.cells #[.int .i64 a,.int .i64 (Y:Int)] 94)).setCell ⟨Z,Y,none⟩ (.int .i64 (((cnt (R++bV (es.take j)) (Y:Int):Nat):Int)+1))) [.cel (aG (aH I (XB))) (.slice (some ⟨g1,0,none⟩) I I),.cel (aG (aH on (YB))) (.slice (some ⟨g2,0,none⟩) on on),.cel (aG (aH sn (R++bV (es.take (j+1))))) (.slice (some ⟨Z,0,none⟩) sn sn),.cel (aG (aH ln (K++ax (es.take (j+1))))) (.slice (some ⟨g4,0,none⟩) ln ln)]):=by
         show aJ H _ _
         rw [g,z,←List.append_assoc]
         exact HN.out
        clear al g z HN
        generalize cnt (R++bV (es.take j)) (Y:Int)=aT at *
        have iY:(Y:Int)<(sn:Int):=by omega
        have br:aT<=10000:=by omega
        clear aj ap ad ag D az aB J Q
        go_wp2_with fail
        go_roundw
        ·exact ⟨j+1,by omega,by go_num,HR.out⟩
        simp [intOf];omega
       have db:decide (b≥0)=false:=decide_eq_false U
       rw [if_neg U,List.append_nil] at g
       have HR:Hid (aJ H (wr.alloc (.cells #[.int .i64 a,.int .i64 b] 94)) [.cel (aG (aH I (XB))) (.slice (some ⟨g1,0,none⟩) I I),.cel (aG (aH on (YB))) (.slice (some ⟨g2,0,none⟩) on on),.cel (aG (aH sn (R++bV (es.take (j+1))))) (.slice (some ⟨Z,0,none⟩) sn sn),.cel (aG (aH ln (K++ax (es.take (j+1))))) (.slice (some ⟨g4,0,none⟩) ln ln)]):=by
        show aJ H _ _
        rw [g,z]
        exact aF.out
       clear g z aj ap ad ag D az aB J Q
       go_wp2_with fail
       go_roundw
       ·exact ⟨j+1,by omega,by go_num,HR.out⟩
       simp [intOf];omega
      have a4:j=en:=by omega
      have bg:=dF (by omega:en<=j)
      have HD:Hid (aJ H wr [.cel (aG (aH I (XB))) (.slice (some ⟨g1,0,none⟩) I I),.cel (aG (aH on (YB))) (.slice (some ⟨g2,0,none⟩) on on),.cel (aG (aH sn (R++bV es))) (.slice (some ⟨Z,0,none⟩) sn sn),.cel (aG (aH ln (K++ax es))) (.slice (some ⟨g4,0,none⟩) ln ln)]):=by
       have h:=B.out
       show aJ H _ _
       rwa [a4,List.take_of_length_le (by rw [a9.out];exact Nat.le_refl _)] at h
      clear B a4
      go_wp2_with fail
      go_roundw
      ·exact ⟨k+1,by omega,by go_num,by rw [bt.out,bp.out,bo.out,bm.out];exact HD.out,cc.out⟩
      simp [intOf];omega
     ·subst dq
      have b9:=oO.1 av.1
      rw [cG.out] at b9
      obtain ⟨X,rfl⟩:∃X:Nat,it=(X:Int):=⟨it.toNat,by omega⟩
      have hX:X<on:=by have:=ci.out;omega
      have aq:=dX 0 (bs.take k) ⟨1,(X:Int),es⟩
      have ah:=dX 1 (bs.take k) ⟨1,(X:Int),es⟩
      have ao:=jY (bs.take k) ⟨1,(X:Int),es⟩
      have am:=jX (bs.take k) ⟨1,(X:Int),es⟩
      rw [←bk.out] at aq ah ao am
      simp only [Int.reduceEq,reduceIte,List.append_nil] at aq ah ao am
      have aP:=eU 0 (bs.take k)
      have aQ:=eU 1 (bs.take k)
      rw [List.length_take] at aP aQ
      obtain ⟨cX,fX,lX,G⟩:=eP cd.out 1 rfl hX
      have bP:=fC (bC 1 (bs.take k)) (X:Int)
      have a2:Hid (aJ H (w4.setCell ⟨g2,X,none⟩ (.int .i64 (((cnt (bC 1 (bs.take k)) (X:Int):Nat):Int)+1))) [.cel (aG (aH I (bC 0 (bs.take k)))) (.slice (some ⟨g1,0,none⟩) I I),.cel (aG (aH on (bC 1 (bs.take k)++[(X:Int)]))) (.slice (some ⟨g2,0,none⟩) on on),.cel (aG (aH sn (dw (bs.take k)))) (.slice (some ⟨Z,0,none⟩) sn sn),.cel (aG (aH ln (eZ (bs.take k)))) (.slice (some ⟨g4,0,none⟩) ln ln)]):=G
      clear G
      have cJ:wr.heap.size≠g2:=by have:=(nY HS.out 1 rfl).1;omega
      have a6:Hid ((dw (bs.take k)).length<=1000):=by show _<=_;have:=a7.out;(try rw [List.length_append,List.length_singleton]);omega
      have a3:Hid ((eZ (bs.take k)).length<=1000):=by show _<=_;have:=bu.out;omega
      obtain ⟨XB,aX⟩:∃XB,bC 0 (bs.take k)=XB:=⟨_,rfl⟩
      obtain ⟨YB,aZ⟩:∃YB,bC 1 (bs.take k)++[(X:Int)]=YB:=⟨_,rfl⟩
      obtain ⟨R,aU⟩:∃R,dw (bs.take k)=R:=⟨_,rfl⟩
      obtain ⟨K,aV⟩:∃K,eZ (bs.take k)=K:=⟨_,rfl⟩
      rw [aX,aZ,aU,aV] at a2
      rw [aX] at aq
      rw [aZ] at ah
      rw [aU] at ao a6
      rw [aV] at am a3
      obtain ⟨bt,bp,bo,bm⟩:=hd4 aq ah ao am
      clear aq ah ao am aX aZ aU aV
      generalize cnt (bC 1 (bs.take k)) (X:Int)=q at *
      have iq:q<=10000:=by have:=a7.out;omega
      have iX:(X:Int)<(on:Int):=by omega
      clear bP
      obtain ⟨y0,y1,y2,ly⟩:=jU (aC b4 bM.out)
      clear b4 aP aQ av
      go_wp2_with fail
      clear y0 y1 y2 ly cX fX lX
      go_loopw [78] (fun i wr=>∃j:Nat,j<=en/\i = .int .i64 (j:Int)/\aJ H wr [.cel (aG (aH I (XB))) (.slice (some ⟨g1,0,none⟩) I I),.cel (aG (aH on (YB))) (.slice (some ⟨g2,0,none⟩) on on),.cel (aG (aH sn (R++bV (es.take j)))) (.slice (some ⟨Z,0,none⟩) sn sn),.cel (aG (aH ln (K++ax (es.take j)))) (.slice (some ⟨g4,0,none⟩) ln ln)]) (fun i _=>en - (intOf i).toNat)
      ·exact ⟨0,by omega,rfl,by rw [List.take_zero];simpa [bV,ax] using a2.out⟩
      obtain ⟨j,hj,rfl,hs⟩:=hrel
      have B:=Hd hs
      clear hs
      by_cases a8:j<en
      ·have bg:=dT (by omega:j<en)
       have ar:j<es.length:=by rw [a9.out];exact a8
       obtain ⟨be,oe,a5,aY,c0,c1⟩:=HE.out.es (k:=j) ar
       have cq:=Hd a5
       have V:=aA a0.out B.out.bel
       have cv:=aK V aY
       rw [←V.cell (p:=⟨be,oe+j * 2,none⟩) aY] at c0
       rw [←V.cell (p:=⟨be,oe+j * 2+1,none⟩) aY] at c1
       have aE:=cb.out _ (List.getElem_mem ar)
       have g:=kK (es.take j) (es[j]?.getD LeT.zero)
       have z:=jW (es.take j) (es[j]?.getD LeT.zero)
       rw [←bN ar] at g z
       have ad:=kw (es.take j)
       have ag:=ji (es.take j)
       rw [List.length_take] at ad ag
       rw [show es[j]=es[j]?.getD LeT.zero by rw [List.getElem?_eq_getElem ar];rfl] at aE
       have J:=aE.lut.2
       have Q:=aE.ff.2
       rw [bQ.out] at J
       rw [bx.out] at Q
       have D:=b5.out
       have az:=a6.out
       have aB:=a3.out
       clear aE ar V
       generalize es[j]?.getD LeT.zero=e at *
       obtain ⟨a,b⟩:=e
       simp only at J Q g z c0 c1
       obtain ⟨i0,i1⟩:=ib (by omega:j<en)
       have aF:=Hd (B.out.alloc (.cells #[.int .i64 a,.int .i64 b] 94))
       have hq:=aI wr (.cells #[.int .i64 a,.int .i64 b] 94)
       have HQ:=Hd hq
       obtain ⟨q0,q1,lq⟩:=fZ hq
       have aj:=fC (R++bV (es.take j)) b
       have ap:=fC (K++ax (es.take j)) a
       rw [List.length_append] at aj ap
       clear hq
       subst a5
       have bK:wr.heap.size≠Z:=by have:=(nY B.out 2 rfl).1;omega
       have bU:wr.heap.size≠g4:=by have:=(nY B.out 3 rfl).1;omega
       have cm:Z≠g4:=xu B.out 2 3 (by decide) rfl rfl
       by_cases ha:0<=a
       ·have da:decide (a≥0)=true:=decide_eq_true ha
        rw [if_pos ha] at z
        obtain ⟨X,rfl⟩:=Int.eq_ofNat_of_zero_le ha
        have bj:X<ln:=by omega
        obtain ⟨cX,fX,lX,G⟩:=eP aF.out 3 rfl bj
        by_cases U:0<=b
        ·have db:decide (b≥0)=true:=decide_eq_true U
         rw [if_pos U] at g
         obtain ⟨Y,rfl⟩:=Int.eq_ofNat_of_zero_le U
         have ay:Y<sn:=by omega
         obtain ⟨cY,fY,lY,al⟩:=eP G 2 rfl ay
         obtain ⟨cs,cu,cy,_⟩:=eP aF.out 2 rfl ay
         have HN:=Hd al
         have HR:Hid (aJ H (((wr.alloc (.cells #[.int .i64 (X:Int),.int .i64 (Y:Int)] 94)).setCell ⟨g4,X,none⟩ (.int .i64 (((cnt (K++ax (es.take j)) (X:Int):Nat):Int)+1))).setCell ⟨Z,Y,none⟩ (.int .i64 (((cnt (R++bV (es.take j)) (Y:Int):Nat):Int)+1))) [.cel (aG (aH I (XB))) (.slice (some ⟨g1,0,none⟩) I I),.cel (aG (aH on (YB))) (.slice (some ⟨g2,0,none⟩) on on),.cel (aG (aH sn (R++bV (es.take (j+1))))) (.slice (some ⟨Z,0,none⟩) sn sn),.cel (aG (aH ln (K++ax (es.take (j+1))))) (.slice (some ⟨g4,0,none⟩) ln ln)]):=by
          show aJ H _ _
          rw [g,z,←List.append_assoc,←List.append_assoc]
          exact HN.out
         clear G al cY fY lY g z HN
         generalize cnt (K++ax (es.take j)) (X:Int)=aW at *
         generalize cnt (R++bV (es.take j)) (Y:Int)=aT at *
         have iX:(X:Int)<(ln:Int):=by omega
         have iY:(Y:Int)<(sn:Int):=by omega
         have bq:aW<=10000:=by omega
         have br:aT<=10000:=by omega
         clear aj ap ad ag D az aB J Q
         go_wp2_with fail
         go_roundw
         ·exact ⟨j+1,by omega,by go_num,HR.out⟩
         simp [intOf];omega
        have db:decide (b≥0)=false:=decide_eq_false U
        rw [if_neg U,List.append_nil] at g
        have HN:=Hd G
        have HR:Hid (aJ H ((wr.alloc (.cells #[.int .i64 (X:Int),.int .i64 b] 94)).setCell ⟨g4,X,none⟩ (.int .i64 (((cnt (K++ax (es.take j)) (X:Int):Nat):Int)+1))) [.cel (aG (aH I (XB))) (.slice (some ⟨g1,0,none⟩) I I),.cel (aG (aH on (YB))) (.slice (some ⟨g2,0,none⟩) on on),.cel (aG (aH sn (R++bV (es.take (j+1))))) (.slice (some ⟨Z,0,none⟩) sn sn),.cel (aG (aH ln (K++ax (es.take (j+1))))) (.slice (some ⟨g4,0,none⟩) ln ln)]):=by
         show aJ H _ _
         rw [g,z,←List.append_assoc]
         exact HN.out
        clear G g z HN
        generalize cnt (K++ax (es.take j)) (X:Int)=aW at *
        have iX:(X:Int)<(ln:Int):=by omega
        have bq:aW<=10000:=by omega
        clear aj ap ad ag D az aB J Q
        go_wp2_with fail
        go_roundw
        ·exact ⟨j+1,by omega,by go_num,HR.out⟩
        simp [intOf];omega
       have da:decide (a≥0)=false:=decide_eq_false ha
       rw [if_neg ha,List.append_nil] at z
       by_cases U:0<=b
       ·have db:decide (b≥0)=true:=decide_eq_true U
        rw [if_pos U] at g
        obtain ⟨Y,rfl⟩:=Int.eq_ofNat_of_zero_le U
        have ay:Y<sn:=by omega
        obtain ⟨cY,fY,lY,al⟩:=eP aF.out 2 rfl ay
        have HN:=Hd al
        have HR:Hid (aJ H ((wr.alloc (.cells #[.int .i64 a,.int .i64 (Y:Int)] 94)).setCell ⟨Z,Y,none⟩ (.int .i64 (((cnt (R++bV (es.take j)) (Y:Int):Nat):Int)+1))) [.cel (aG (aH I (XB))) (.slice (some ⟨g1,0,none⟩) I I),.cel (aG (aH on (YB))) (.slice (some ⟨g2,0,none⟩) on on),.cel (aG (aH sn (R++bV (es.take (j+1))))) (.slice (some ⟨Z,0,none⟩) sn sn),.cel (aG (aH ln (K++ax (es.take (j+1))))) (.slice (some ⟨g4,0,none⟩) ln ln)]):=by
         show aJ H _ _
         rw [g,z,←List.append_assoc]
         exact HN.out
        clear al g z HN
        generalize cnt (R++bV (es.take j)) (Y:Int)=aT at *
        have iY:(Y:Int)<(sn:Int):=by omega
        have br:aT<=10000:=by omega
        clear aj ap ad ag D az aB J Q
        go_wp2_with fail
        go_roundw
        ·exact ⟨j+1,by omega,by go_num,HR.out⟩
        simp [intOf];omega
       have db:decide (b≥0)=false:=decide_eq_false U
       rw [if_neg U,List.append_nil] at g
       have HR:Hid (aJ H (wr.alloc (.cells #[.int .i64 a,.int .i64 b] 94)) [.cel (aG (aH I (XB))) (.slice (some ⟨g1,0,none⟩) I I),.cel (aG (aH on (YB))) (.slice (some ⟨g2,0,none⟩) on on),.cel (aG (aH sn (R++bV (es.take (j+1))))) (.slice (some ⟨Z,0,none⟩) sn sn),.cel (aG (aH ln (K++ax (es.take (j+1))))) (.slice (some ⟨g4,0,none⟩) ln ln)]):=by
        show aJ H _ _
        rw [g,z]
        exact aF.out
       clear g z aj ap ad ag D az aB J Q
       go_wp2_with fail
       go_roundw
       ·exact ⟨j+1,by omega,by go_num,HR.out⟩
       simp [intOf];omega
      have a4:j=en:=by omega
      have bg:=dF (by omega:en<=j)
      have HD:Hid (aJ H wr [.cel (aG (aH I (XB))) (.slice (some ⟨g1,0,none⟩) I I),.cel (aG (aH on (YB))) (.slice (some ⟨g2,0,none⟩) on on),.cel (aG (aH sn (R++bV es))) (.slice (some ⟨Z,0,none⟩) sn sn),.cel (aG (aH ln (K++ax es))) (.slice (some ⟨g4,0,none⟩) ln ln)]):=by
       have h:=B.out
       show aJ H _ _
       rwa [a4,List.take_of_length_le (by rw [a9.out];exact Nat.le_refl _)] at h
      clear B a4
      go_wp2_with fail
      go_roundw
      ·exact ⟨k+1,by omega,by go_num,by rw [bt.out,bp.out,bo.out,bm.out];exact HD.out,cc.out⟩
      simp [intOf];omega
     ·subst c9
      have b9:=il.1 av.1
      rw [bx.out] at b9
      obtain ⟨X,rfl⟩:∃X:Nat,it=(X:Int):=⟨it.toNat,by omega⟩
      have hX:X<sn:=by have:=ci.out;omega
      have aq:=dX 0 (bs.take k) ⟨2,(X:Int),es⟩
      have ah:=dX 1 (bs.take k) ⟨2,(X:Int),es⟩
      have ao:=jY (bs.take k) ⟨2,(X:Int),es⟩
      have am:=jX (bs.take k) ⟨2,(X:Int),es⟩
      rw [←bk.out] at aq ah ao am
      simp only [Int.reduceEq,reduceIte,List.append_nil] at aq ah ao am
      have aP:=eU 0 (bs.take k)
      have aQ:=eU 1 (bs.take k)
      rw [List.length_take] at aP aQ
      obtain ⟨cX,fX,lX,G⟩:=eP cd.out 2 rfl hX
      have bP:=fC (dw (bs.take k)) (X:Int)
      have a2:Hid (aJ H (w4.setCell ⟨Z,X,none⟩ (.int .i64 (((cnt (dw (bs.take k)) (X:Int):Nat):Int)+1))) [.cel (aG (aH I (bC 0 (bs.take k)))) (.slice (some ⟨g1,0,none⟩) I I),.cel (aG (aH on (bC 1 (bs.take k)))) (.slice (some ⟨g2,0,none⟩) on on),.cel (aG (aH sn (dw (bs.take k)++[(X:Int)]))) (.slice (some ⟨Z,0,none⟩) sn sn),.cel (aG (aH ln (eZ (bs.take k)))) (.slice (some ⟨g4,0,none⟩) ln ln)]):=G
      clear G
      have cJ:wr.heap.size≠Z:=by have:=(nY HS.out 2 rfl).1;omega
      have a6:Hid ((dw (bs.take k)++[(X:Int)]).length<=1000):=by show _<=_;have:=a7.out;(try rw [List.length_append,List.length_singleton]);omega
      have a3:Hid ((eZ (bs.take k)).length<=1000):=by show _<=_;have:=bu.out;omega
      obtain ⟨XB,aX⟩:∃XB,bC 0 (bs.take k)=XB:=⟨_,rfl⟩
      obtain ⟨YB,aZ⟩:∃YB,bC 1 (bs.take k)=YB:=⟨_,rfl⟩
      obtain ⟨R,aU⟩:∃R,dw (bs.take k)++[(X:Int)]=R:=⟨_,rfl⟩
      obtain ⟨K,aV⟩:∃K,eZ (bs.take k)=K:=⟨_,rfl⟩
      rw [aX,aZ,aU,aV] at a2
      rw [aX] at aq
      rw [aZ] at ah
      rw [aU] at ao a6
      rw [aV] at am a3
      obtain ⟨bt,bp,bo,bm⟩:=hd4 aq ah ao am
      clear aq ah ao am aX aZ aU aV
      generalize cnt (dw (bs.take k)) (X:Int)=q at *
      have iq:q<=10000:=by have:=a7.out;omega
      have iX:(X:Int)<(sn:Int):=by omega
      clear bP
      obtain ⟨y0,y1,y2,ly⟩:=jU (aC b4 bM.out)
      clear b4 aP aQ av
      go_wp2_with fail
      clear y0 y1 y2 ly cX fX lX
      go_loopw [78] (fun i wr=>∃j:Nat,j<=en/\i = .int .i64 (j:Int)/\aJ H wr [.cel (aG (aH I (XB))) (.slice (some ⟨g1,0,none⟩) I I),.cel (aG (aH on (YB))) (.slice (some ⟨g2,0,none⟩) on on),.cel (aG (aH sn (R++bV (es.take j)))) (.slice (some ⟨Z,0,none⟩) sn sn),.cel (aG (aH ln (K++ax (es.take j)))) (.slice (some ⟨g4,0,none⟩) ln ln)]) (fun i _=>en - (intOf i).toNat)
      ·exact ⟨0,by omega,rfl,by rw [List.take_zero];simpa [bV,ax] using a2.out⟩
      obtain ⟨j,hj,rfl,hs⟩:=hrel
      have B:=Hd hs
      clear hs
      by_cases a8:j<en
      ·have bg:=dT (by omega:j<en)
       have ar:j<es.length:=by rw [a9.out];exact a8
       obtain ⟨be,oe,a5,aY,c0,c1⟩:=HE.out.es (k:=j) ar
       have cq:=Hd a5
       have V:=aA a0.out B.out.bel
       have cv:=aK V aY
       rw [←V.cell (p:=⟨be,oe+j * 2,none⟩) aY] at c0
       rw [←V.cell (p:=⟨be,oe+j * 2+1,none⟩) aY] at c1
       have aE:=cb.out _ (List.getElem_mem ar)
       have g:=kK (es.take j) (es[j]?.getD LeT.zero)
       have z:=jW (es.take j) (es[j]?.getD LeT.zero)
       rw [←bN ar] at g z
       have ad:=kw (es.take j)
       have ag:=ji (es.take j)
       rw [List.length_take] at ad ag
       rw [show es[j]=es[j]?.getD LeT.zero by rw [List.getElem?_eq_getElem ar];rfl] at aE
       have J:=aE.lut.2
       have Q:=aE.ff.2
       rw [bQ.out] at J
       rw [bx.out] at Q
       have D:=b5.out
       have az:=a6.out
       have aB:=a3.out
       clear aE ar V
       generalize es[j]?.getD LeT.zero=e at *
       obtain ⟨a,b⟩:=e
       simp only at J Q g z c0 c1
       obtain ⟨i0,i1⟩:=ib (by omega:j<en)
       have aF:=Hd (B.out.alloc (.cells #[.int .i64 a,.int .i64 b] 94))
       have hq:=aI wr (.cells #[.int .i64 a,.int .i64 b] 94)
       have HQ:=Hd hq
       obtain ⟨q0,q1,lq⟩:=fZ hq
       have aj:=fC (R++bV (es.take j)) b
       have ap:=fC (K++ax (es.take j)) a
       rw [List.length_append] at aj ap
       clear hq
       subst a5
       have bK:wr.heap.size≠Z:=by have:=(nY B.out 2 rfl).1;omega
       have bU:wr.heap.size≠g4:=by have:=(nY B.out 3 rfl).1;omega
       have cm:Z≠g4:=xu B.out 2 3 (by decide) rfl rfl
       by_cases ha:0<=a
       ·have da:decide (a≥0)=true:=decide_eq_true ha
        rw [if_pos ha] at z
        obtain ⟨X,rfl⟩:=Int.eq_ofNat_of_zero_le ha
        have bj:X<ln:=by omega
        obtain ⟨cX,fX,lX,G⟩:=eP aF.out 3 rfl bj
        by_cases U:0<=b
        ·have db:decide (b≥0)=true:=decide_eq_true U
         rw [if_pos U] at g
         obtain ⟨Y,rfl⟩:=Int.eq_ofNat_of_zero_le U
         have ay:Y<sn:=by omega
         obtain ⟨cY,fY,lY,al⟩:=eP G 2 rfl ay
         obtain ⟨cs,cu,cy,_⟩:=eP aF.out 2 rfl ay
         have HN:=Hd al
         have HR:Hid (aJ H (((wr.alloc (.cells #[.int .i64 (X:Int),.int .i64 (Y:Int)] 94)).setCell ⟨g4,X,none⟩ (.int .i64 (((cnt (K++ax (es.take j)) (X:Int):Nat):Int)+1))).setCell ⟨Z,Y,none⟩ (.int .i64 (((cnt (R++bV (es.take j)) (Y:Int):Nat):Int)+1))) [.cel (aG (aH I (XB))) (.slice (some ⟨g1,0,none⟩) I I),.cel (aG (aH on (YB))) (.slice (some ⟨g2,0,none⟩) on on),.cel (aG (aH sn (R++bV (es.take (j+1))))) (.slice (some ⟨Z,0,none⟩) sn sn),.cel (aG (aH ln (K++ax (es.take (j+1))))) (.slice (some ⟨g4,0,none⟩) ln ln)]):=by
          show aJ H _ _
          rw [g,z,←List.append_assoc,←List.append_assoc]
          exact HN.out
         clear G al cY fY lY g z HN
         generalize cnt (K++ax (es.take j)) (X:Int)=aW at *
         generalize cnt (R++bV (es.take j)) (Y:Int)=aT at *
         have iX:(X:Int)<(ln:Int):=by omega
         have iY:(Y:Int)<(sn:Int):=by omega
         have bq:aW<=10000:=by omega
         have br:aT<=10000:=by omega
         clear aj ap ad ag D az aB J Q
         go_wp2_with fail
         go_roundw
         ·exact ⟨j+1,by omega,by go_num,HR.out⟩
         simp [intOf];omega
        have db:decide (b≥0)=false:=decide_eq_false U
        rw [if_neg U,List.append_nil] at g
        have HN:=Hd G
        have HR:Hid (aJ H ((wr.alloc (.cells #[.int .i64 (X:Int),.int .i64 b] 94)).setCell ⟨g4,X,none⟩ (.int .i64 (((cnt (K++ax (es.take j)) (X:Int):Nat):Int)+1))) [.cel (aG (aH I (XB))) (.slice (some ⟨g1,0,none⟩) I I),.cel (aG (aH on (YB))) (.slice (some ⟨g2,0,none⟩) on on),.cel (aG (aH sn (R++bV (es.take (j+1))))) (.slice (some ⟨Z,0,none⟩) sn sn),.cel (aG (aH ln (K++ax (es.take (j+1))))) (.slice (some ⟨g4,0,none⟩) ln ln)]):=by
         show aJ H _ _
         rw [g,z,←List.append_assoc]
         exact HN.out
        clear G g z HN
        generalize cnt (K++ax (es.take j)) (X:Int)=aW at *
        have iX:(X:Int)<(ln:Int):=by omega
        have bq:aW<=10000:=by omega
        clear aj ap ad ag D az aB J Q
        go_wp2_with fail
        go_roundw
        ·exact ⟨j+1,by omega,by go_num,HR.out⟩
        simp [intOf];omega
       have da:decide (a≥0)=false:=decide_eq_false ha
       rw [if_neg ha,List.append_nil] at z
       by_cases U:0<=b
       ·have db:decide (b≥0)=true:=decide_eq_true U
        rw [if_pos U] at g
        obtain ⟨Y,rfl⟩:=Int.eq_ofNat_of_zero_le U
        have ay:Y<sn:=by omega
        obtain ⟨cY,fY,lY,al⟩:=eP aF.out 2 rfl ay
        have HN:=Hd al
        have HR:Hid (aJ H ((wr.alloc (.cells #[.int .i64 a,.int .i64 (Y:Int)] 94)).setCell ⟨Z,Y,none⟩ (.int .i64 (((cnt (R++bV (es.take j)) (Y:Int):Nat):Int)+1))) [.cel (aG (aH I (XB))) (.slice (some ⟨g1,0,none⟩) I I),.cel (aG (aH on (YB))) (.slice (some ⟨g2,0,none⟩) on on),.cel (aG (aH sn (R++bV (es.take (j+1))))) (.slice (some ⟨Z,0,none⟩) sn sn),.cel (aG (aH ln (K++ax (es.take (j+1))))) (.slice (some ⟨g4,0,none⟩) ln ln)]):=by
         show aJ H _ _
         rw [g,z,←List.append_assoc]
         exact HN.out
        clear al g z HN
        generalize cnt (R++bV (es.take j)) (Y:Int)=aT at *
        have iY:(Y:Int)<(sn:Int):=by omega
        have br:aT<=10000:=by omega
        clear aj ap ad ag D az aB J Q
        go_wp2_with fail
        go_roundw
        ·exact ⟨j+1,by omega,by go_num,HR.out⟩
        simp [intOf];omega
       have db:decide (b≥0)=false:=decide_eq_false U
       rw [if_neg U,List.append_nil] at g
       have HR:Hid (aJ H (wr.alloc (.cells #[.int .i64 a,.int .i64 b] 94)) [.cel (aG (aH I (XB))) (.slice (some ⟨g1,0,none⟩) I I),.cel (aG (aH on (YB))) (.slice (some ⟨g2,0,none⟩) on on),.cel (aG (aH sn (R++bV (es.take (j+1))))) (.slice (some ⟨Z,0,none⟩) sn sn),.cel (aG (aH ln (K++ax (es.take (j+1))))) (.slice (some ⟨g4,0,none⟩) ln ln)]):=by
        show aJ H _ _
        rw [g,z]
        exact aF.out
       clear g z aj ap ad ag D az aB J Q
       go_wp2_with fail
       go_roundw
       ·exact ⟨j+1,by omega,by go_num,HR.out⟩
       simp [intOf];omega
      have a4:j=en:=by omega
      have bg:=dF (by omega:en<=j)
      have HD:Hid (aJ H wr [.cel (aG (aH I (XB))) (.slice (some ⟨g1,0,none⟩) I I),.cel (aG (aH on (YB))) (.slice (some ⟨g2,0,none⟩) on on),.cel (aG (aH sn (R++bV es))) (.slice (some ⟨Z,0,none⟩) sn sn),.cel (aG (aH ln (K++ax es))) (.slice (some ⟨g4,0,none⟩) ln ln)]):=by
       have h:=B.out
       show aJ H _ _
       rwa [a4,List.take_of_length_le (by rw [a9.out];exact Nat.le_refl _)] at h
      clear B a4
      go_wp2_with fail
      go_roundw
      ·exact ⟨k+1,by omega,by go_num,by rw [bt.out,bp.out,bo.out,bm.out];exact HD.out,cc.out⟩
      simp [intOf];omega
     subst dc
     have aq:=dX 0 (bs.take k) ⟨3,it,es⟩
     have ah:=dX 1 (bs.take k) ⟨3,it,es⟩
     have ao:=jY (bs.take k) ⟨3,it,es⟩
     have am:=jX (bs.take k) ⟨3,it,es⟩
     rw [←bk.out] at aq ah ao am
     simp only [Int.reduceEq,reduceIte,List.append_nil] at aq ah ao am
     have aP:=eU 0 (bs.take k)
     have aQ:=eU 1 (bs.take k)
     rw [List.length_take] at aP aQ
     have a2:Hid (aJ H w4 [.cel (aG (aH I (bC 0 (bs.take k)))) (.slice (some ⟨g1,0,none⟩) I I),.cel (aG (aH on (bC 1 (bs.take k)))) (.slice (some ⟨g2,0,none⟩) on on),.cel (aG (aH sn (dw (bs.take k)))) (.slice (some ⟨Z,0,none⟩) sn sn),.cel (aG (aH ln (eZ (bs.take k)))) (.slice (some ⟨g4,0,none⟩) ln ln)]):=cd.out
     have a6:Hid ((dw (bs.take k)).length<=1000):=by show _<=_;have:=a7.out;(try rw [List.length_append,List.length_singleton]);omega
     have a3:Hid ((eZ (bs.take k)).length<=1000):=by show _<=_;have:=bu.out;omega
     obtain ⟨XB,aX⟩:∃XB,bC 0 (bs.take k)=XB:=⟨_,rfl⟩
     obtain ⟨YB,aZ⟩:∃YB,bC 1 (bs.take k)=YB:=⟨_,rfl⟩
     obtain ⟨R,aU⟩:∃R,dw (bs.take k)=R:=⟨_,rfl⟩
     obtain ⟨K,aV⟩:∃K,eZ (bs.take k)=K:=⟨_,rfl⟩
     rw [aX,aZ,aU,aV] at a2
     rw [aX] at aq
     rw [aZ] at ah
     rw [aU] at ao a6
     rw [aV] at am a3
     obtain ⟨bt,bp,bo,bm⟩:=hd4 aq ah ao am
     clear aq ah ao am aX aZ aU aV
     obtain ⟨y0,y1,y2,ly⟩:=jU (aC b4 bM.out)
     clear b4 aP aQ av
     go_wp2_with fail
     clear y0 y1 y2 ly
     go_loopw [78] (fun i wr=>∃j:Nat,j<=en/\i = .int .i64 (j:Int)/\aJ H wr [.cel (aG (aH I (XB))) (.slice (some ⟨g1,0,none⟩) I I),.cel (aG (aH on (YB))) (.slice (some ⟨g2,0,none⟩) on on),.cel (aG (aH sn (R++bV (es.take j)))) (.slice (some ⟨Z,0,none⟩) sn sn),.cel (aG (aH ln (K++ax (es.take j)))) (.slice (some ⟨g4,0,none⟩) ln ln)]) (fun i _=>en - (intOf i).toNat)
     ·exact ⟨0,by omega,rfl,by rw [List.take_zero];simpa [bV,ax] using a2.out⟩
     obtain ⟨j,hj,rfl,hs⟩:=hrel
     have B:=Hd hs
     clear hs
     by_cases a8:j<en
     ·have bg:=dT (by omega:j<en)
      have ar:j<es.length:=by rw [a9.out];exact a8
      obtain ⟨be,oe,a5,aY,c0,c1⟩:=HE.out.es (k:=j) ar
      have cq:=Hd a5
      have V:=aA a0.out B.out.bel
      have cv:=aK V aY
      rw [←V.cell (p:=⟨be,oe+j * 2,none⟩) aY] at c0
      rw [←V.cell (p:=⟨be,oe+j * 2+1,none⟩) aY] at c1
      have aE:=cb.out _ (List.getElem_mem ar)
      have g:=kK (es.take j) (es[j]?.getD LeT.zero)
      have z:=jW (es.take j) (es[j]?.getD LeT.zero)
      rw [←bN ar] at g z
      have ad:=kw (es.take j)
      have ag:=ji (es.take j)
      rw [List.length_take] at ad ag
      rw [show es[j]=es[j]?.getD LeT.zero by rw [List.getElem?_eq_getElem ar];rfl] at aE
      have J:=aE.lut.2
      have Q:=aE.ff.2
      rw [bQ.out] at J
      rw [bx.out] at Q
      have D:=b5.out
      have az:=a6.out
      have aB:=a3.out
      clear aE ar V
      generalize es[j]?.getD LeT.zero=e at *
      obtain ⟨a,b⟩:=e
      simp only at J Q g z c0 c1
      obtain ⟨i0,i1⟩:=ib (by omega:j<en)
      have aF:=Hd (B.out.alloc (.cells #[.int .i64 a,.int .i64 b] 94))
      have hq:=aI wr (.cells #[.int .i64 a,.int .i64 b] 94)
      have HQ:=Hd hq
      obtain ⟨q0,q1,lq⟩:=fZ hq
      have aj:=fC (R++bV (es.take j)) b
      have ap:=fC (K++ax (es.take j)) a
      rw [List.length_append] at aj ap
      clear hq
      subst a5
      have bK:wr.heap.size≠Z:=by have:=(nY B.out 2 rfl).1;omega
      have bU:wr.heap.size≠g4:=by have:=(nY B.out 3 rfl).1;omega
      have cm:Z≠g4:=xu B.out 2 3 (by decide) rfl rfl
      by_cases ha:0<=a
      ·have da:decide (a≥0)=true:=decide_eq_true ha
       rw [if_pos ha] at z
       obtain ⟨X,rfl⟩:=Int.eq_ofNat_of_zero_le ha
       have bj:X<ln:=by omega
       obtain ⟨cX,fX,lX,G⟩:=eP aF.out 3 rfl bj
       by_cases U:0<=b
       ·have db:decide (b≥0)=true:=decide_eq_true U
        rw [if_pos U] at g
        obtain ⟨Y,rfl⟩:=Int.eq_ofNat_of_zero_le U
        have ay:Y<sn:=by omega
        obtain ⟨cY,fY,lY,al⟩:=eP G 2 rfl ay
        obtain ⟨cs,cu,cy,_⟩:=eP aF.out 2 rfl ay
        have HN:=Hd al
        have HR:Hid (aJ H (((wr.alloc (.cells #[.int .i64 (X:Int),.int .i64 (Y:Int)] 94)).setCell ⟨g4,X,none⟩ (.int .i64 (((cnt (K++ax (es.take j)) (X:Int):Nat):Int)+1))).setCell ⟨Z,Y,none⟩ (.int .i64 (((cnt (R++bV (es.take j)) (Y:Int):Nat):Int)+1))) [.cel (aG (aH I (XB))) (.slice (some ⟨g1,0,none⟩) I I),.cel (aG (aH on (YB))) (.slice (some ⟨g2,0,none⟩) on on),.cel (aG (aH sn (R++bV (es.take (j+1))))) (.slice (some ⟨Z,0,none⟩) sn sn),.cel (aG (aH ln (K++ax (es.take (j+1))))) (.slice (some ⟨g4,0,none⟩) ln ln)]):=by
         show aJ H _ _
         rw [g,z,←List.append_assoc,←List.append_assoc]
         exact HN.out
        clear G al cY fY lY g z HN
        generalize cnt (K++ax (es.take j)) (X:Int)=aW at *
        generalize cnt (R++bV (es.take j)) (Y:Int)=aT at *
        have iX:(X:Int)<(ln:Int):=by omega
        have iY:(Y:Int)<(sn:Int):=by omega
        have bq:aW<=10000:=by omega
        have br:aT<=10000:=by omega
        clear aj ap ad ag D az aB J Q
        go_wp2_with fail
        go_roundw
        ·exact ⟨j+1,by omega,by go_num,HR.out⟩
        simp [intOf];omega
       have db:decide (b≥0)=false:=decide_eq_false U
       rw [if_neg U,List.append_nil] at g
       have HN:=Hd G
       have HR:Hid (aJ H ((wr.alloc (.cells #[.int .i64 (X:Int),.int .i64 b] 94)).setCell ⟨g4,X,none⟩ (.int .i64 (((cnt (K++ax (es.take j)) (X:Int):Nat):Int)+1))) [.cel (aG (aH I (XB))) (.slice (some ⟨g1,0,none⟩) I I),.cel (aG (aH on (YB))) (.slice (some ⟨g2,0,none⟩) on on),.cel (aG (aH sn (R++bV (es.take (j+1))))) (.slice (some ⟨Z,0,none⟩) sn sn),.cel (aG (aH ln (K++ax (es.take (j+1))))) (.slice (some ⟨g4,0,none⟩) ln ln)]):=by
        show aJ H _ _
        rw [g,z,←List.append_assoc]
        exact HN.out
       clear G g z HN
       generalize cnt (K++ax (es.take j)) (X:Int)=aW at *
       have iX:(X:Int)<(ln:Int):=by omega
       have bq:aW<=10000:=by omega
       clear aj ap ad ag D az aB J Q
       go_wp2_with fail
       go_roundw
       ·exact ⟨j+1,by omega,by go_num,HR.out⟩
       simp [intOf];omega
      have da:decide (a≥0)=false:=decide_eq_false ha
      rw [if_neg ha,List.append_nil] at z
      by_cases U:0<=b
      ·have db:decide (b≥0)=true:=decide_eq_true U
       rw [if_pos U] at g
       obtain ⟨Y,rfl⟩:=Int.eq_ofNat_of_zero_le U
       have ay:Y<sn:=by omega
       obtain ⟨cY,fY,lY,al⟩:=eP aF.out 2 rfl ay
       have HN:=Hd al
       have HR:Hid (aJ H ((wr.alloc (.cells #[.int .i64 a,.int .i64 (Y:Int)] 94)).setCell ⟨Z,Y,none⟩ (.int .i64 (((cnt (R++bV (es.take j)) (Y:Int):Nat):Int)+1))) [.cel (aG (aH I (XB))) (.slice (some ⟨g1,0,none⟩) I I),.cel (aG (aH on (YB))) (.slice (some ⟨g2,0,none⟩) on on),.cel (aG (aH sn (R++bV (es.take (j+1))))) (.slice (some ⟨Z,0,none⟩) sn sn),.cel (aG (aH ln (K++ax (es.take (j+1))))) (.slice (some ⟨g4,0,none⟩) ln ln)]):=by
        show aJ H _ _
        rw [g,z,←List.append_assoc]
        exact HN.out
       clear al g z HN
       generalize cnt (R++bV (es.take j)) (Y:Int)=aT at *
       have iY:(Y:Int)<(sn:Int):=by omega
       have br:aT<=10000:=by omega
       clear aj ap ad ag D az aB J Q
       go_wp2_with fail
       go_roundw
       ·exact ⟨j+1,by omega,by go_num,HR.out⟩
       simp [intOf];omega
      have db:decide (b≥0)=false:=decide_eq_false U
      rw [if_neg U,List.append_nil] at g
      have HR:Hid (aJ H (wr.alloc (.cells #[.int .i64 a,.int .i64 b] 94)) [.cel (aG (aH I (XB))) (.slice (some ⟨g1,0,none⟩) I I),.cel (aG (aH on (YB))) (.slice (some ⟨g2,0,none⟩) on on),.cel (aG (aH sn (R++bV (es.take (j+1))))) (.slice (some ⟨Z,0,none⟩) sn sn),.cel (aG (aH ln (K++ax (es.take (j+1))))) (.slice (some ⟨g4,0,none⟩) ln ln)]):=by
       show aJ H _ _
       rw [g,z]
       exact aF.out
      clear g z aj ap ad ag D az aB J Q
      go_wp2_with fail
      go_roundw
      ·exact ⟨j+1,by omega,by go_num,HR.out⟩
      simp [intOf];omega
     have a4:j=en:=by omega
     have bg:=dF (by omega:en<=j)
     have HD:Hid (aJ H wr [.cel (aG (aH I (XB))) (.slice (some ⟨g1,0,none⟩) I I),.cel (aG (aH on (YB))) (.slice (some ⟨g2,0,none⟩) on on),.cel (aG (aH sn (R++bV es))) (.slice (some ⟨Z,0,none⟩) sn sn),.cel (aG (aH ln (K++ax es))) (.slice (some ⟨g4,0,none⟩) ln ln)]):=by
      have h:=B.out
      show aJ H _ _
      rwa [a4,List.take_of_length_le (by rw [a9.out];exact Nat.le_refl _)] at h
     clear B a4
     go_wp2_with fail
     go_roundw
     ·exact ⟨k+1,by omega,by go_num,by rw [bt.out,bp.out,bo.out,bm.out];exact HD.out,cc.out⟩
     simp [intOf];omega
    rw [bJ av]
    have HR:=Hd (co.out av)
    rintro _ w4 ⟨rfl,b4⟩
    have dj:=Hd (aA (aA a0.out HA.out.bel) b4)
    clear x0 x1 x2 x3 lx y0 y1 y2 ly c0 c1 c2 HG co b4
    go_wp2_with fail
    go_ret
    exact ⟨aO HR.out,dj.out⟩
   have cM:k=bn:=by omega
   have dA:=dF (by omega:bn<=k)
   have bk:Hid (bs.take k=bs):=by show _=_;rw [cM];exact List.take_of_length_le (by rw [cx.out];exact Nat.le_refl _)
   rw [bk.out] at HS bd
   have dn:=Hd (HS.out.ints 0 rfl)
   have dy:=Hd (HS.out.ints 1 rfl)
   have dD:=Hd (HS.out.ints 2 rfl)
   have c8:=Hd (HS.out.ints 3 rfl)
   have bO:=Hd (aA a0.out HS.out.bel)
   have cK:Hid ((∀q:Nat,q<I→(aH I (bC 0 bs))[q]?.getD 0=1)↔sI l.inputs.toNat (bC 0 bs)):=by
    show _↔_
    rw [dx.out]
    exact lZ
   have cC:Hid ((∀q:Nat,q<on→(aH on (bC 1 bs))[q]?.getD 0=1)↔sI l.outs.length (bC 1 bs)):=by
    show _↔_
    rw [cG.out]
    exact lZ
   have cS:Hid ((∀q:Nat,q<sn→(aH sn (dw bs))[q]?.getD 0=1)↔sI l.seqs.length (dw bs)):=by
    show _↔_
    rw [bx.out]
    exact lZ
   have cP:Hid ((∀q:Nat,q<ln→(aH ln (eZ bs))[q]?.getD 0=1)↔sI l.luts.length (eZ bs)):=by
    show _↔_
    rw [bQ.out]
    exact lZ
   clear HS cM
   go_wp2_with fail
   refine (mJ _ I I (aH I (bC 0 bs)) _ dn.out (by omega)).mono ?_
   by_cases q1:∀q:Nat,q<I→(aH I (bC 0 bs))[q]?.getD 0=1
   ·rw [ae q1]
    rintro _ v1 ⟨rfl,rfl⟩
    go_wp2_with fail
    refine (mJ _ on on (aH on (bC 1 bs)) _ dy.out (by omega)).mono ?_
    by_cases q2:∀q:Nat,q<on→(aH on (bC 1 bs))[q]?.getD 0=1
    ·rw [ae q2]
     rintro _ v2 ⟨rfl,rfl⟩
     go_wp2_with fail
     refine (mJ _ sn sn (aH sn (dw bs)) _ dD.out (by omega)).mono ?_
     by_cases q3:∀q:Nat,q<sn→(aH sn (dw bs))[q]?.getD 0=1
     ·rw [ae q3]
      rintro _ v3 ⟨rfl,rfl⟩
      go_wp2_with fail
      refine (mJ _ ln ln (aH ln (eZ bs)) _ c8.out (by omega)).mono ?_
      by_cases q4:∀q:Nat,q<ln→(aH ln (eZ bs))[q]?.getD 0=1
      ·rw [ae q4]
       have HR:Hid (fQ l bs):=⟨HF.out,by rw [cx.out];exact cn,bd.out,cK.out.1 q1,cC.out.1 q2,cS.out.1 q3,cP.out.1 q4⟩
       rintro _ v4 ⟨rfl,rfl⟩
       go_wp2_with fail
       go_ret
       exact ⟨dU HR.out,bO.out⟩
      rw [bJ q4]
      have HR:Hid (¬fQ l bs):=fun h=>q4 (cP.out.2 h.luts)
      rintro _ v4 ⟨rfl,rfl⟩
      go_wp2_with fail
      go_ret
      exact ⟨aO HR.out,bO.out⟩
     rw [bJ q3]
     have HR:Hid (¬fQ l bs):=fun h=>q3 (cS.out.2 h.seqs)
     rintro _ v3 ⟨rfl,rfl⟩
     go_wp2_with fail
     go_ret
     exact ⟨aO HR.out,bO.out⟩
    rw [bJ q2]
    have HR:Hid (¬fQ l bs):=fun h=>q2 (cC.out.2 h.outs)
    rintro _ v2 ⟨rfl,rfl⟩
    go_wp2_with fail
    go_ret
    exact ⟨aO HR.out,bO.out⟩
   rw [bJ q1]
   have HR:Hid (¬fQ l bs):=fun h=>q1 (cK.out.2 h.ins)
   rintro _ v1 ⟨rfl,rfl⟩
   go_wp2_with fail
   go_ret
   exact ⟨aO HR.out,bO.out⟩
  have dt:decide ((64:Int)<(bn:Int))=true:=decide_eq_true (by omega)
  have HR:Hid (¬fQ l bs):=fun h=>cn (by rw [←cw];exact h.len)
  go_enter Tryz.func45,Tryz.ntmps45
  go_upto_region 1 with fail
  generalize w.alloc (.cells (ak l SA LA OA sn sc ln lc on oc) 41)=W0 at *
  obtain ⟨x0,x1,x2,x3,lx⟩:=bX b8.out
  go_wp2_with fail
  refine (pU l SA LA OA sn sc ln lc on oc _ (HN.out.below bw.out)).mono ?_
  rw [ae hf]
  rintro _ w1 ⟨rfl,b1⟩
  have a0:=Hd (aA bw.out b1)
  clear b1 x0 x1 x2 x3 lx hf cn
  go_wp2_with fail
  go_ret
  exact ⟨aO HR.out,a0.out⟩
 have HR:Hid (¬fQ l bs):=fun h=>hf h.net
 go_enter Tryz.func45,Tryz.ntmps45
 go_upto_region 1 with fail
 generalize w.alloc (.cells (ak l SA LA OA sn sc ln lc on oc) 41)=W0 at *
 obtain ⟨x0,x1,x2,x3,lx⟩:=bX b8.out
 go_wp2_with fail
 refine (pU l SA LA OA sn sc ln lc on oc _ (HN.out.below bw.out)).mono ?_
 rw [bJ hf]
 rintro _ w1 ⟨rfl,b1⟩
 have a0:=Hd (aA bw.out b1)
 clear b1 x0 x1 x2 x3 lx hf
 go_wp2_with fail
 go_ret
 exact ⟨aO HR.out,a0.out⟩
end Go.Proofs.YtofihjoanjkdmaaGreat
