/- The program's test of blocks (printed by mkpk.py). -/
import Derived.Deep.CutRange
import Derived.Deep.DeepCutAuto
import Derived.Test.YtofihjoanjkdmaaGreatLayF5
namespace Go.Proofs.YtofihjoanjkdmaaGreat
set_option maxHeartbeats 4000000
set_option maxRecDepth 100000
open Go.RowKit
theorem jf (l:ai) (SA LA OA:Option Addr) (sn sc ln lc on oc:Nat) (bs:List Blk) (BA:Option Addr) (bn bc:Nat) (w:World) (h:fI w l SA LA OA sn sc ln lc on oc) (hB:RdC w w.heap.size (bE bs) (.slice BA bn bc)) (hbd:∀b∈bs,b.les.length<=1048576) :
  Calls Tryz.prog 45 #[iD l SA LA OA sn sc ln lc on oc,.slice BA bn bc] w fun e w'=>e = .returned (.bool (tb (eY l bs)))/\Below w.heap.size w w':=by
 have HB0:=Hd (aF (Below.refl w.heap.size w) (.cells (av l SA LA OA sn sc ln lc on oc) 41))
 have HXB:=Hd (aK w (.cells (av l SA LA OA sn sc ln lc on oc) 41))
 have hbl:=hB.blkN
 have HBL:=Hd hbl
 have HBD:=Hd hbd
 have HB:=Hd hB
 have HN:=Hd h
 clear hB hbd
 obtain ⟨hsl,hll,hol⟩:=h.lens
 have HSL:=Hd hsl
 have HLL:=Hd hll
 have HOL:=Hd hol
 clear h
 by_cases hf:bB l
 ·by_cases h64:bn<=64
  ·have d64:decide ((64:Int)<(bn:Int))=false:=decide_eq_false (by omega)
   have hsn:=hf.nseq
   have hln:=hf.nlut
   have hon:=hf.nout
   have hin:=hf.inp
   rw [hsl] at hsn
   rw [hll] at hln
   rw [hol] at hon
   have HF:=Hd hf
   obtain ⟨I,hI⟩:∃I:Nat,l.inputs=(I:Int):=⟨l.inputs.toNat,by omega⟩
   have HIN:Hid (l.inputs.toNat=I):=by show _=_;omega
   have HII:=Hd hI
   have hI20:I<=20:=by omega
   obtain ⟨i0,hi,hz0,hz1,hz2⟩:=info_parts jC
   have mk:=fun (n:Nat) (hn:n<=1048576) W=>dB (P:=Tryz.prog) 26 3 i0 _ Tryz.underlying26 hi hz0 .i64 .i64 n n (Nat.le_refl _) (by rw [hz2];omega) (by omega) W
   rw [hz1] at mk
   simp only [Nat.mul_one,show (Value.int .i64 0).cells=#[Value.int .i64 0] from rfl,oV] at mk
   have mkI:=mk I (by omega)
   have mkO:=mk on (by omega)
   have mkS:=mk sn (by omega)
   have mkL:=mk ln (by omega)
   rw [←hI] at mkI
   clear mk hi hz0 hz1 hz2 hsl hll hol hI hbl
   go_enter Tryz.func45,Tryz.ntmps45
   go_upto_region 1 with fail
   generalize w.alloc (.cells (av l SA LA OA sn sc ln lc on oc) 41)=W0 at *
   have x0:=aA (k:=0) HXB.out rfl
   have x1:=aA (k:=1) HXB.out rfl
   have x2:=aA (k:=2) HXB.out rfl
   have x3:=aA (k:=3) HXB.out rfl
   have lx:=aC HXB.out
   go_wp2_with fail
   refine (mI l SA LA OA sn sc ln lc on oc _ (HN.out.below HB0.out)).mono ?_
   rw [aa hf]
   rintro _ w1 ⟨rfl,b1⟩
   have HBW:=Hd (aB HB0.out b1)
   have HX9:=Hd (aD b1 HXB.out)
   clear b1 x0 x1 x2 x3 lx hf
   have x0:=aA (k:=0) HX9.out rfl
   have x1:=aA (k:=1) HX9.out rfl
   have x2:=aA (k:=2) HX9.out rfl
   have x3:=aA (k:=3) HX9.out rfl
   have lx:=aC HX9.out
   obtain ⟨W9,rfl⟩:∃x,x=w1:=⟨w1,rfl⟩
   go_upto_region 3 with fail
   go_cut [5,6] (fun p u w'=>vg W9 I on p u w')
   case first =>
    go_region
    all_goals
     go_wp2_with fail
     go_meet
     (try simp only [pI])
     first|exact (wT W9 I on (by omega) (by omega))|exact (wU W9 I on (by omega) (by omega))|exact (wT W9 I on (by omega) (by omega)).drew|exact (wU W9 I on (by omega) (by omega)).drew
   obtain ⟨g1,g2,rfl,rfl,S12⟩:=hcut
   obtain ⟨w2,rfl⟩:∃x,x=wc:=⟨wc,rfl⟩
   have HS12:=Hd S12
   clear x0 x1 x2 x3 lx S12 mkI mkO
   have hx:=aD HS12.out.bel HX9.out
   have x0:=aA (k:=0) hx rfl
   have x1:=aA (k:=1) hx rfl
   have x2:=aA (k:=2) hx rfl
   have x3:=aA (k:=3) hx rfl
   have lx:=aC hx
   clear hx
   go_upto_region 4 with fail
   go_cut [7,8] (fun p u w'=>vg w2 sn ln p u w')
   case first =>
    go_region
    all_goals
     go_wp2_with fail
     go_meet
     (try simp only [pI])
     first|exact (wT w2 sn ln (by omega) (by omega))|exact (wU w2 sn ln (by omega) (by omega))|exact (wT w2 sn ln (by omega) (by omega)).drew|exact (wU w2 sn ln (by omega) (by omega)).drew
   obtain ⟨g3,g4,rfl,rfl,S34⟩:=hcut
   have HS0:Hid (aM W9 wc [.cel (aJ (aG I (ak 0 []))) (.slice (some ⟨g1,0,none⟩) I I),.cel (aJ (aG on (ak 1 []))) (.slice (some ⟨g2,0,none⟩) on on),.cel (aJ (aG sn (dH []))) (.slice (some ⟨g3,0,none⟩) sn sn),.cel (aJ (aG ln (dX []))) (.slice (some ⟨g4,0,none⟩) ln ln)]):=HS12.out.join S34
   clear x0 x1 x2 x3 lx S34 mkS mkL
   go_wp2_with fail
   go_loopw [38] (fun i wr=>∃k:Nat,k<=bn/\i = .int .i64 (k:Int)/\aM W9 wr [.cel (aJ (aG I (ak 0 (bs.take k)))) (.slice (some ⟨g1,0,none⟩) I I),.cel (aJ (aG on (ak 1 (bs.take k)))) (.slice (some ⟨g2,0,none⟩) on on),.cel (aJ (aG sn (dH (bs.take k)))) (.slice (some ⟨g3,0,none⟩) sn sn),.cel (aJ (aG ln (dX (bs.take k)))) (.slice (some ⟨g4,0,none⟩) ln ln)]/\∀b∈bs.take k,cZ l b) (fun i _=>bn - (intOf i).toNat)
   case atStart=>exact ⟨0,by omega,rfl,by rw [List.take_zero];exact HS0.out,by simp⟩
   case round =>
    obtain ⟨k,hk,rfl,hs,hall⟩:=hrel
    have HS:=Hd hs
    have HALL:=Hd hall
    clear hs hall
    by_cases hlt:k<bn
    ·have hdk:decide ((k:Int)<(bn:Int))=true:=by simp;omega
     have hkl:k<bs.length:=by rw [HBL.out];exact hlt
     obtain ⟨bb,ob,EA,en,ec,hBA,hbb,c0,c1,c2,r2⟩:=HB.out.blk (k:=k) hkl
     have hBB:=aB HBW.out HS.out.bel
     have lbb:=aL hBB hbb
     rw [←hBB.cell (p:=⟨bb,ob+k * 3,none⟩) hbb] at c0
     rw [←hBB.cell (p:=⟨bb,ob+k * 3+1,none⟩) hbb] at c1
     rw [←hBB.cell (p:=⟨bb,ob+k * 3+2,none⟩) hbb] at c2
     have HTK:=Hd (kP hkl)
     have hbd1:=HBD.out _ (List.getElem_mem hkl)
     have hg:cZ l (bs[k]?.getD Blk.zero)→∀b∈bs.take (k+1),cZ l b:=fun h b hb=>by
      rw [HTK.out,List.mem_append,List.mem_singleton] at hb
      rcases hb with hb|rfl
      ·exact HALL.out b hb
      ·exact h
     have hno:¬cZ l (bs[k]?.getD Blk.zero)→¬eY l bs:=fun h h'=>h (by rw [List.getElem?_eq_getElem hkl];exact h'.fit _ (List.getElem_mem hkl))
     have HG:=Hd hg
     have HNO:=Hd hno
     have HSL3:Hid ((dH (bs.take k)).length<=192):=by
      show _<=_
      have h1:=rJ HALL.out
      rw [List.length_take] at h1
      have h2:min k bs.length * 3<=64 * 3:=Nat.mul_le_mul_right 3 (by omega)
      omega
     have HLL3:Hid ((dX (bs.take k)).length<=128):=by
      show _<=_
      have h1:=rM HALL.out
      rw [List.length_take] at h1
      have h2:min k bs.length * 2<=64 * 2:=Nat.mul_le_mul_right 2 (by omega)
      omega
     rw [show bs[k]=bs[k]?.getD Blk.zero by rw [List.getElem?_eq_getElem hkl];rfl] at hbd1
     clear hkl hg hno
     generalize bs[k]?.getD Blk.zero=b at *
     obtain ⟨kd,it,es⟩:=b
     simp only at c0 c1 hbd1
     have HE:=Hd (show RdC w w.heap.size (dF es) (.slice EA en ec) from r2)
     have HEL:Hid (es.length=en):=HE.out.esN
     have hen:en<=1048576:=by rw [←HEL.out];exact hbd1
     clear r2 hbd1
     subst hBA
     have i0:(0:Int)<=(k:Int):=by omega
     have i1:(k:Int)<(bn:Int):=by omega
     have HA:=Hd (HS.out.alloc (.cells #[.int .i64 kd,.int .i64 it,.slice EA en ec] 89))
     have HYA:=Hd (aK wr (.cells #[.int .i64 kd,.int .i64 it,.slice EA en ec] 89))
     have hx:=aD HA.out.bel HX9.out
     have x0:=aA (k:=0) hx rfl
     have x1:=aA (k:=1) hx rfl
     have x2:=aA (k:=2) hx rfl
     have x3:=aA (k:=3) hx rfl
     have lx:=aC hx
     have y0:=aA (k:=0) HYA.out rfl
     have y1:=aA (k:=1) HYA.out rfl
     have y2:=aA (k:=2) HYA.out rfl
     have ly:=aC HYA.out
     clear hx hBB
     go_wp2_with fail
     refine (uY l SA LA OA sn sc ln lc on oc kd it es EA en ec _ (HN.out.below (aB HBW.out HA.out.bel)) HF.out (HE.out.below (aB HBW.out HA.out.bel)) hen).mono ?_
     by_cases hfit:cZ l ⟨kd,it,es⟩
     ·rw [aa hfit]
      have HG2:=Hd (HG.out hfit)
      have HEF:=Hd (qL hfit)
      have HLE:Hid (en<=2):=by show _<=_;rw [←HEL.out];exact lV hfit
      rintro _ w4 ⟨rfl,b4⟩
      have HS4:=Hd (HA.out.below b4)
      clear x0 x1 x2 x3 lx y0 y1 y2 ly c0 c1 c2 HG HNO
      rcases gm hfit.1 with hk0|hk1|hk2|hk3
      ·subst hk0
       have hit:=lT.1 hfit.1
       obtain ⟨X,rfl⟩:∃X:Nat,it=(X:Int):=⟨it.toNat,by omega⟩
       have hX:X<I:=by have:=HII.out;omega
       have hT1:=dC 0 (bs.take k) ⟨0,(X:Int),es⟩
       have hT2:=dC 1 (bs.take k) ⟨0,(X:Int),es⟩
       have hT3:=iI (bs.take k) ⟨0,(X:Int),es⟩
       have hT4:=iH (bs.take k) ⟨0,(X:Int),es⟩
       rw [←HTK.out] at hT1 hT2 hT3 hT4
       simp only [if_true,if_false,List.append_nil,Int.reduceEq] at hT1 hT2 hT3 hT4
       have hil0:=dW 0 (bs.take k)
       have hil1:=dW 1 (bs.take k)
       rw [List.length_take] at hil0 hil1
       obtain ⟨cX,fX,lX,hN1⟩:=dU HS4.out 0 rfl hX
       have hcX:=d9 (ak 0 (bs.take k)) (X:Int)
       have HSS:Hid (aM W9 (w4.setCell ⟨g1,X,none⟩ (.int .i64 (((cnt (ak 0 (bs.take k)) (X:Int):Nat):Int)+1))) [.cel (aJ (aG I (ak 0 (bs.take k)++[(X:Int)]))) (.slice (some ⟨g1,0,none⟩) I I),.cel (aJ (aG on (ak 1 (bs.take k)))) (.slice (some ⟨g2,0,none⟩) on on),.cel (aJ (aG sn (dH (bs.take k)))) (.slice (some ⟨g3,0,none⟩) sn sn),.cel (aJ (aG ln (dX (bs.take k)))) (.slice (some ⟨g4,0,none⟩) ln ln)]):=hN1
       clear hN1
       have hne:wr.heap.size≠g1:=by have:=(ky HS.out 0 rfl).1;omega
       have HSB:Hid ((dH (bs.take k)).length<=1000):=by show _<=_;have:=HSL3.out;(try rw [List.length_append,List.length_singleton]);omega
       have HLB:Hid ((dX (bs.take k)).length<=1000):=by show _<=_;have:=HLL3.out;omega
       obtain ⟨XB,hXB⟩:∃XB,ak 0 (bs.take k)++[(X:Int)]=XB:=⟨_,rfl⟩
       obtain ⟨YB,hYB⟩:∃YB,ak 1 (bs.take k)=YB:=⟨_,rfl⟩
       obtain ⟨SB,hSB⟩:∃SB,dH (bs.take k)=SB:=⟨_,rfl⟩
       obtain ⟨LB,hLB⟩:∃LB,dX (bs.take k)=LB:=⟨_,rfl⟩
       rw [hXB,hYB,hSB,hLB] at HSS
       rw [hXB] at hT1
       rw [hYB] at hT2
       rw [hSB] at hT3 HSB
       rw [hLB] at hT4 HLB
       have HT1:=Hd hT1
       have HT2:=Hd hT2
       have HT3:=Hd hT3
       have HT4:=Hd hT4
       clear hT1 hT2 hT3 hT4 hXB hYB hSB hLB
       generalize cnt (ak 0 (bs.take k)) (X:Int)=q at *
       have iq:q<=10000:=by have:=HSL3.out;omega
       have iX:(X:Int)<(I:Int):=by omega
       clear hcX
       have hy:=aD b4 HYA.out
       have y0:=aA (k:=0) hy rfl
       have y1:=aA (k:=1) hy rfl
       have y2:=aA (k:=2) hy rfl
       have ly:=aC hy
       clear hy b4 hil0 hil1 hfit
       go_wp2_with fail
       clear y0 y1 y2 ly
       clear cX fX lX
       go_loopw [78] (fun i wr=>∃j:Nat,j<=en/\i = .int .i64 (j:Int)/\aM W9 wr [.cel (aJ (aG I (XB))) (.slice (some ⟨g1,0,none⟩) I I),.cel (aJ (aG on (YB))) (.slice (some ⟨g2,0,none⟩) on on),.cel (aJ (aG sn (SB++bN (es.take j)))) (.slice (some ⟨g3,0,none⟩) sn sn),.cel (aJ (aG ln (LB++ag (es.take j)))) (.slice (some ⟨g4,0,none⟩) ln ln)]) (fun i _=>en - (intOf i).toNat)
       case atStart=>exact ⟨0,by omega,rfl,by rw [List.take_zero];simpa [bN,ag] using HSS.out⟩
       case round =>
        obtain ⟨j,hj,rfl,hs⟩:=hrel
        have HSJ:=Hd hs
        clear hs
        by_cases hltj:j<en
        ·have hdj:decide ((j:Int)<(en:Int))=true:=by simp;omega
         have hjl:j<es.length:=by rw [HEL.out];exact hltj
         obtain ⟨be,oe,hEA,hbe,c0,c1⟩:=HE.out.es (k:=j) hjl
         have HEA:=Hd hEA
         have hBB:=aB HBW.out HSJ.out.bel
         have lbe:=aL hBB hbe
         rw [←hBB.cell (p:=⟨be,oe+j * 2,none⟩) hbe] at c0
         rw [←hBB.cell (p:=⟨be,oe+j * 2+1,none⟩) hbe] at c1
         have hel:=HEF.out _ (List.getElem_mem hjl)
         have hff:=jJ (es.take j) (es[j]?.getD LeT.zero)
         have hlu:=iG (es.take j) (es[j]?.getD LeT.zero)
         rw [←bJ hjl] at hff hlu
         have hfl:=jY (es.take j)
         have hul:=iU (es.take j)
         rw [List.length_take] at hfl hul
         rw [show es[j]=es[j]?.getD LeT.zero by rw [List.getElem?_eq_getElem hjl];rfl] at hel
         have he1:=hel.lut.2
         have he2:=hel.ff.2
         rw [HLL.out] at he1
         rw [HSL.out] at he2
         have hle2:=HLE.out
         have hsb:=HSB.out
         have hlb:=HLB.out
         clear hel hjl hBB
         generalize es[j]?.getD LeT.zero=e at *
         obtain ⟨a,b⟩:=e
         simp only at he1 he2 hff hlu c0 c1
         have i0:(0:Int)<=(j:Int):=by omega
         have i1:(j:Int)<(en:Int):=by omega
         have HAL:=Hd (HSJ.out.alloc (.cells #[.int .i64 a,.int .i64 b] 94))
         have hq:=aK wr (.cells #[.int .i64 a,.int .i64 b] 94)
         have HQ:=Hd hq
         have q0:=aA (k:=0) hq rfl
         have q1:=aA (k:=1) hq rfl
         have lq:=aC hq
         have hcs:=d9 (SB++bN (es.take j)) b
         have hcl:=d9 (LB++ag (es.take j)) a
         rw [List.length_append] at hcs hcl
         clear hq
         subst hEA
         have hne3:wr.heap.size≠g3:=by have:=(ky HSJ.out 2 rfl).1;omega
         have hne4:wr.heap.size≠g4:=by have:=(ky HSJ.out 3 rfl).1;omega
         have h34:g3≠g4:=sP HSJ.out 2 3 (by decide) rfl rfl
         by_cases ha:0<=a
         ·have da:decide (a≥0)=true:=decide_eq_true ha
          rw [if_pos ha] at hlu
          obtain ⟨X,rfl⟩:=Int.eq_ofNat_of_zero_le ha
          have hXl:X<ln:=by omega
          obtain ⟨cX,fX,lX,hN1⟩:=dU HAL.out 3 rfl hXl
          by_cases hb:0<=b
          ·have db:decide (b≥0)=true:=decide_eq_true hb
           rw [if_pos hb] at hff
           obtain ⟨Y,rfl⟩:=Int.eq_ofNat_of_zero_le hb
           have hYl:Y<sn:=by omega
           obtain ⟨cY,fY,lY,hN2⟩:=dU hN1 2 rfl hYl
           obtain ⟨cY',fY',lY',_⟩:=dU HAL.out 2 rfl hYl
           have HN:=Hd hN2
           have HR:Hid (aM W9 (((wr.alloc (.cells #[.int .i64 (X:Int),.int .i64 (Y:Int)] 94)).setCell ⟨g4,X,none⟩ (.int .i64 (((cnt (LB++ag (es.take j)) (X:Int):Nat):Int)+1))).setCell ⟨g3,Y,none⟩ (.int .i64 (((cnt (SB++bN (es.take j)) (Y:Int):Nat):Int)+1))) [.cel (aJ (aG I (XB))) (.slice (some ⟨g1,0,none⟩) I I),.cel (aJ (aG on (YB))) (.slice (some ⟨g2,0,none⟩) on on),.cel (aJ (aG sn (SB++bN (es.take (j+1))))) (.slice (some ⟨g3,0,none⟩) sn sn),.cel (aJ (aG ln (LB++ag (es.take (j+1))))) (.slice (some ⟨g4,0,none⟩) ln ln)]):=by
            show aM W9 _ _
            rw [hff,hlu,←List.append_assoc,←List.append_assoc]
            exact HN.out
           clear hN1 hN2 cY fY lY hff hlu HN
           generalize cnt (LB++ag (es.take j)) (X:Int)=q1' at *
           generalize cnt (SB++bN (es.take j)) (Y:Int)=q2' at *
           have iX:(X:Int)<(ln:Int):=by omega
           have iY:(Y:Int)<(sn:Int):=by omega
           have iq1:q1'<=10000:=by omega
           have iq2:q2'<=10000:=by omega
           clear hcs hcl hfl hul hle2 hsb hlb he1 he2
           go_wp2_with fail
           go_roundw
           case rel=>exact ⟨j+1,by omega,by go_num,HR.out⟩
           case measure=>simp [intOf];omega
          ·have db:decide (b≥0)=false:=decide_eq_false hb
           rw [if_neg hb,List.append_nil] at hff
           have HN:=Hd hN1
           have HR:Hid (aM W9 ((wr.alloc (.cells #[.int .i64 (X:Int),.int .i64 b] 94)).setCell ⟨g4,X,none⟩ (.int .i64 (((cnt (LB++ag (es.take j)) (X:Int):Nat):Int)+1))) [.cel (aJ (aG I (XB))) (.slice (some ⟨g1,0,none⟩) I I),.cel (aJ (aG on (YB))) (.slice (some ⟨g2,0,none⟩) on on),.cel (aJ (aG sn (SB++bN (es.take (j+1))))) (.slice (some ⟨g3,0,none⟩) sn sn),.cel (aJ (aG ln (LB++ag (es.take (j+1))))) (.slice (some ⟨g4,0,none⟩) ln ln)]):=by
            show aM W9 _ _
            rw [hff,hlu,←List.append_assoc]
            exact HN.out
           clear hN1 hff hlu HN
           generalize cnt (LB++ag (es.take j)) (X:Int)=q1' at *
           have iX:(X:Int)<(ln:Int):=by omega
           have iq1:q1'<=10000:=by omega
           clear hcs hcl hfl hul hle2 hsb hlb he1 he2
           go_wp2_with fail
           go_roundw
           case rel=>exact ⟨j+1,by omega,by go_num,HR.out⟩
           case measure=>simp [intOf];omega
         ·have da:decide (a≥0)=false:=decide_eq_false ha
          rw [if_neg ha,List.append_nil] at hlu
          by_cases hb:0<=b
          ·have db:decide (b≥0)=true:=decide_eq_true hb
           rw [if_pos hb] at hff
           obtain ⟨Y,rfl⟩:=Int.eq_ofNat_of_zero_le hb
           have hYl:Y<sn:=by omega
           obtain ⟨cY,fY,lY,hN2⟩:=dU HAL.out 2 rfl hYl
           have HN:=Hd hN2
           have HR:Hid (aM W9 ((wr.alloc (.cells #[.int .i64 a,.int .i64 (Y:Int)] 94)).setCell ⟨g3,Y,none⟩ (.int .i64 (((cnt (SB++bN (es.take j)) (Y:Int):Nat):Int)+1))) [.cel (aJ (aG I (XB))) (.slice (some ⟨g1,0,none⟩) I I),.cel (aJ (aG on (YB))) (.slice (some ⟨g2,0,none⟩) on on),.cel (aJ (aG sn (SB++bN (es.take (j+1))))) (.slice (some ⟨g3,0,none⟩) sn sn),.cel (aJ (aG ln (LB++ag (es.take (j+1))))) (.slice (some ⟨g4,0,none⟩) ln ln)]):=by
            show aM W9 _ _
            rw [hff,hlu,←List.append_assoc]
            exact HN.out
           clear hN2 hff hlu HN
           generalize cnt (SB++bN (es.take j)) (Y:Int)=q2' at *
           have iY:(Y:Int)<(sn:Int):=by omega
           have iq2:q2'<=10000:=by omega
           clear hcs hcl hfl hul hle2 hsb hlb he1 he2
           go_wp2_with fail
           go_roundw
           case rel=>exact ⟨j+1,by omega,by go_num,HR.out⟩
           case measure=>simp [intOf];omega
          ·have db:decide (b≥0)=false:=decide_eq_false hb
           rw [if_neg hb,List.append_nil] at hff
           have HR:Hid (aM W9 (wr.alloc (.cells #[.int .i64 a,.int .i64 b] 94)) [.cel (aJ (aG I (XB))) (.slice (some ⟨g1,0,none⟩) I I),.cel (aJ (aG on (YB))) (.slice (some ⟨g2,0,none⟩) on on),.cel (aJ (aG sn (SB++bN (es.take (j+1))))) (.slice (some ⟨g3,0,none⟩) sn sn),.cel (aJ (aG ln (LB++ag (es.take (j+1))))) (.slice (some ⟨g4,0,none⟩) ln ln)]):=by
            show aM W9 _ _
            rw [hff,hlu]
            exact HAL.out
           clear hff hlu hcs hcl hfl hul hle2 hsb hlb he1 he2
           go_wp2_with fail
           go_roundw
           case rel=>exact ⟨j+1,by omega,by go_num,HR.out⟩
           case measure=>simp [intOf];omega
        ·have hjn:j=en:=by omega
         have hdj:decide ((j:Int)<(en:Int))=false:=by simp;omega
         have HD:Hid (aM W9 wr [.cel (aJ (aG I (XB))) (.slice (some ⟨g1,0,none⟩) I I),.cel (aJ (aG on (YB))) (.slice (some ⟨g2,0,none⟩) on on),.cel (aJ (aG sn (SB++bN es))) (.slice (some ⟨g3,0,none⟩) sn sn),.cel (aJ (aG ln (LB++ag es))) (.slice (some ⟨g4,0,none⟩) ln ln)]):=by
          have h:=HSJ.out
          show aM W9 _ _
          rwa [hjn,List.take_of_length_le (by rw [HEL.out];exact Nat.le_refl _)] at h
         clear HSJ hjn
         go_wp2_with fail
         go_roundw
         case rel=>exact ⟨k+1,by omega,by go_num,by rw [HT1.out,HT2.out,HT3.out,HT4.out];exact HD.out,HG2.out⟩
         case measure=>simp [intOf];omega
      ·subst hk1
       have hit:=lU.1 hfit.1
       rw [HOL.out] at hit
       obtain ⟨X,rfl⟩:∃X:Nat,it=(X:Int):=⟨it.toNat,by omega⟩
       have hX:X<on:=by have:=HII.out;omega
       have hT1:=dC 0 (bs.take k) ⟨1,(X:Int),es⟩
       have hT2:=dC 1 (bs.take k) ⟨1,(X:Int),es⟩
       have hT3:=iI (bs.take k) ⟨1,(X:Int),es⟩
       have hT4:=iH (bs.take k) ⟨1,(X:Int),es⟩
       rw [←HTK.out] at hT1 hT2 hT3 hT4
       simp only [Int.reduceEq,reduceIte,List.append_nil] at hT1 hT2 hT3 hT4
       have hil0:=dW 0 (bs.take k)
       have hil1:=dW 1 (bs.take k)
       rw [List.length_take] at hil0 hil1
       obtain ⟨cX,fX,lX,hN1⟩:=dU HS4.out 1 rfl hX
       have hcX:=d9 (ak 1 (bs.take k)) (X:Int)
       have HSS:Hid (aM W9 (w4.setCell ⟨g2,X,none⟩ (.int .i64 (((cnt (ak 1 (bs.take k)) (X:Int):Nat):Int)+1))) [.cel (aJ (aG I (ak 0 (bs.take k)))) (.slice (some ⟨g1,0,none⟩) I I),.cel (aJ (aG on (ak 1 (bs.take k)++[(X:Int)]))) (.slice (some ⟨g2,0,none⟩) on on),.cel (aJ (aG sn (dH (bs.take k)))) (.slice (some ⟨g3,0,none⟩) sn sn),.cel (aJ (aG ln (dX (bs.take k)))) (.slice (some ⟨g4,0,none⟩) ln ln)]):=hN1
       clear hN1
       have hne:wr.heap.size≠g2:=by have:=(ky HS.out 1 rfl).1;omega
       have HSB:Hid ((dH (bs.take k)).length<=1000):=by show _<=_;have:=HSL3.out;(try rw [List.length_append,List.length_singleton]);omega
       have HLB:Hid ((dX (bs.take k)).length<=1000):=by show _<=_;have:=HLL3.out;omega
       obtain ⟨XB,hXB⟩:∃XB,ak 0 (bs.take k)=XB:=⟨_,rfl⟩
       obtain ⟨YB,hYB⟩:∃YB,ak 1 (bs.take k)++[(X:Int)]=YB:=⟨_,rfl⟩
       obtain ⟨SB,hSB⟩:∃SB,dH (bs.take k)=SB:=⟨_,rfl⟩
       obtain ⟨LB,hLB⟩:∃LB,dX (bs.take k)=LB:=⟨_,rfl⟩
       rw [hXB,hYB,hSB,hLB] at HSS
       rw [hXB] at hT1
       rw [hYB] at hT2
       rw [hSB] at hT3 HSB
       rw [hLB] at hT4 HLB
       have HT1:=Hd hT1
       have HT2:=Hd hT2
       have HT3:=Hd hT3
       have HT4:=Hd hT4
       clear hT1 hT2 hT3 hT4 hXB hYB hSB hLB
       generalize cnt (ak 1 (bs.take k)) (X:Int)=q at *
       have iq:q<=10000:=by have:=HSL3.out;omega
       have iX:(X:Int)<(on:Int):=by omega
       clear hcX
       have hy:=aD b4 HYA.out
       have y0:=aA (k:=0) hy rfl
       have y1:=aA (k:=1) hy rfl
       have y2:=aA (k:=2) hy rfl
       have ly:=aC hy
       clear hy b4 hil0 hil1 hfit
       go_wp2_with fail
       clear y0 y1 y2 ly
       clear cX fX lX
       go_loopw [78] (fun i wr=>∃j:Nat,j<=en/\i = .int .i64 (j:Int)/\aM W9 wr [.cel (aJ (aG I (XB))) (.slice (some ⟨g1,0,none⟩) I I),.cel (aJ (aG on (YB))) (.slice (some ⟨g2,0,none⟩) on on),.cel (aJ (aG sn (SB++bN (es.take j)))) (.slice (some ⟨g3,0,none⟩) sn sn),.cel (aJ (aG ln (LB++ag (es.take j)))) (.slice (some ⟨g4,0,none⟩) ln ln)]) (fun i _=>en - (intOf i).toNat)
       case atStart=>exact ⟨0,by omega,rfl,by rw [List.take_zero];simpa [bN,ag] using HSS.out⟩
       case round =>
        obtain ⟨j,hj,rfl,hs⟩:=hrel
        have HSJ:=Hd hs
        clear hs
        by_cases hltj:j<en
        ·have hdj:decide ((j:Int)<(en:Int))=true:=by simp;omega
         have hjl:j<es.length:=by rw [HEL.out];exact hltj
         obtain ⟨be,oe,hEA,hbe,c0,c1⟩:=HE.out.es (k:=j) hjl
         have HEA:=Hd hEA
         have hBB:=aB HBW.out HSJ.out.bel
         have lbe:=aL hBB hbe
         rw [←hBB.cell (p:=⟨be,oe+j * 2,none⟩) hbe] at c0
         rw [←hBB.cell (p:=⟨be,oe+j * 2+1,none⟩) hbe] at c1
         have hel:=HEF.out _ (List.getElem_mem hjl)
         have hff:=jJ (es.take j) (es[j]?.getD LeT.zero)
         have hlu:=iG (es.take j) (es[j]?.getD LeT.zero)
         rw [←bJ hjl] at hff hlu
         have hfl:=jY (es.take j)
         have hul:=iU (es.take j)
         rw [List.length_take] at hfl hul
         rw [show es[j]=es[j]?.getD LeT.zero by rw [List.getElem?_eq_getElem hjl];rfl] at hel
         have he1:=hel.lut.2
         have he2:=hel.ff.2
         rw [HLL.out] at he1
         rw [HSL.out] at he2
         have hle2:=HLE.out
         have hsb:=HSB.out
         have hlb:=HLB.out
         clear hel hjl hBB
         generalize es[j]?.getD LeT.zero=e at *
         obtain ⟨a,b⟩:=e
         simp only at he1 he2 hff hlu c0 c1
         have i0:(0:Int)<=(j:Int):=by omega
         have i1:(j:Int)<(en:Int):=by omega
         have HAL:=Hd (HSJ.out.alloc (.cells #[.int .i64 a,.int .i64 b] 94))
         have hq:=aK wr (.cells #[.int .i64 a,.int .i64 b] 94)
         have HQ:=Hd hq
         have q0:=aA (k:=0) hq rfl
         have q1:=aA (k:=1) hq rfl
         have lq:=aC hq
         have hcs:=d9 (SB++bN (es.take j)) b
         have hcl:=d9 (LB++ag (es.take j)) a
         rw [List.length_append] at hcs hcl
         clear hq
         subst hEA
         have hne3:wr.heap.size≠g3:=by have:=(ky HSJ.out 2 rfl).1;omega
         have hne4:wr.heap.size≠g4:=by have:=(ky HSJ.out 3 rfl).1;omega
         have h34:g3≠g4:=sP HSJ.out 2 3 (by decide) rfl rfl
         by_cases ha:0<=a
         ·have da:decide (a≥0)=true:=decide_eq_true ha
          rw [if_pos ha] at hlu
          obtain ⟨X,rfl⟩:=Int.eq_ofNat_of_zero_le ha
          have hXl:X<ln:=by omega
          obtain ⟨cX,fX,lX,hN1⟩:=dU HAL.out 3 rfl hXl
          by_cases hb:0<=b
          ·have db:decide (b≥0)=true:=decide_eq_true hb
           rw [if_pos hb] at hff
           obtain ⟨Y,rfl⟩:=Int.eq_ofNat_of_zero_le hb
           have hYl:Y<sn:=by omega
           obtain ⟨cY,fY,lY,hN2⟩:=dU hN1 2 rfl hYl
           obtain ⟨cY',fY',lY',_⟩:=dU HAL.out 2 rfl hYl
           have HN:=Hd hN2
           have HR:Hid (aM W9 (((wr.alloc (.cells #[.int .i64 (X:Int),.int .i64 (Y:Int)] 94)).setCell ⟨g4,X,none⟩ (.int .i64 (((cnt (LB++ag (es.take j)) (X:Int):Nat):Int)+1))).setCell ⟨g3,Y,none⟩ (.int .i64 (((cnt (SB++bN (es.take j)) (Y:Int):Nat):Int)+1))) [.cel (aJ (aG I (XB))) (.slice (some ⟨g1,0,none⟩) I I),.cel (aJ (aG on (YB))) (.slice (some ⟨g2,0,none⟩) on on),.cel (aJ (aG sn (SB++bN (es.take (j+1))))) (.slice (some ⟨g3,0,none⟩) sn sn),.cel (aJ (aG ln (LB++ag (es.take (j+1))))) (.slice (some ⟨g4,0,none⟩) ln ln)]):=by
            show aM W9 _ _
            rw [hff,hlu,←List.append_assoc,←List.append_assoc]
            exact HN.out
           clear hN1 hN2 cY fY lY hff hlu HN
           generalize cnt (LB++ag (es.take j)) (X:Int)=q1' at *
           generalize cnt (SB++bN (es.take j)) (Y:Int)=q2' at *
           have iX:(X:Int)<(ln:Int):=by omega
           have iY:(Y:Int)<(sn:Int):=by omega
           have iq1:q1'<=10000:=by omega
           have iq2:q2'<=10000:=by omega
           clear hcs hcl hfl hul hle2 hsb hlb he1 he2
           go_wp2_with fail
           go_roundw
           case rel=>exact ⟨j+1,by omega,by go_num,HR.out⟩
           case measure=>simp [intOf];omega
          ·have db:decide (b≥0)=false:=decide_eq_false hb
           rw [if_neg hb,List.append_nil] at hff
           have HN:=Hd hN1
           have HR:Hid (aM W9 ((wr.alloc (.cells #[.int .i64 (X:Int),.int .i64 b] 94)).setCell ⟨g4,X,none⟩ (.int .i64 (((cnt (LB++ag (es.take j)) (X:Int):Nat):Int)+1))) [.cel (aJ (aG I (XB))) (.slice (some ⟨g1,0,none⟩) I I),.cel (aJ (aG on (YB))) (.slice (some ⟨g2,0,none⟩) on on),.cel (aJ (aG sn (SB++bN (es.take (j+1))))) (.slice (some ⟨g3,0,none⟩) sn sn),.cel (aJ (aG ln (LB++ag (es.take (j+1))))) (.slice (some ⟨g4,0,none⟩) ln ln)]):=by
            show aM W9 _ _
            rw [hff,hlu,←List.append_assoc]
            exact HN.out
           clear hN1 hff hlu HN
           generalize cnt (LB++ag (es.take j)) (X:Int)=q1' at *
           have iX:(X:Int)<(ln:Int):=by omega
           have iq1:q1'<=10000:=by omega
           clear hcs hcl hfl hul hle2 hsb hlb he1 he2
           go_wp2_with fail
           go_roundw
           case rel=>exact ⟨j+1,by omega,by go_num,HR.out⟩
           case measure=>simp [intOf];omega
         ·have da:decide (a≥0)=false:=decide_eq_false ha
          rw [if_neg ha,List.append_nil] at hlu
          by_cases hb:0<=b
          ·have db:decide (b≥0)=true:=decide_eq_true hb
           rw [if_pos hb] at hff
           obtain ⟨Y,rfl⟩:=Int.eq_ofNat_of_zero_le hb
           have hYl:Y<sn:=by omega
           obtain ⟨cY,fY,lY,hN2⟩:=dU HAL.out 2 rfl hYl
           have HN:=Hd hN2
           have HR:Hid (aM W9 ((wr.alloc (.cells #[.int .i64 a,.int .i64 (Y:Int)] 94)).setCell ⟨g3,Y,none⟩ (.int .i64 (((cnt (SB++bN (es.take j)) (Y:Int):Nat):Int)+1))) [.cel (aJ (aG I (XB))) (.slice (some ⟨g1,0,none⟩) I I),.cel (aJ (aG on (YB))) (.slice (some ⟨g2,0,none⟩) on on),.cel (aJ (aG sn (SB++bN (es.take (j+1))))) (.slice (some ⟨g3,0,none⟩) sn sn),.cel (aJ (aG ln (LB++ag (es.take (j+1))))) (.slice (some ⟨g4,0,none⟩) ln ln)]):=by
            show aM W9 _ _
            rw [hff,hlu,←List.append_assoc]
            exact HN.out
           clear hN2 hff hlu HN
           generalize cnt (SB++bN (es.take j)) (Y:Int)=q2' at *
           have iY:(Y:Int)<(sn:Int):=by omega
           have iq2:q2'<=10000:=by omega
           clear hcs hcl hfl hul hle2 hsb hlb he1 he2
           go_wp2_with fail
           go_roundw
           case rel=>exact ⟨j+1,by omega,by go_num,HR.out⟩
           case measure=>simp [intOf];omega
          ·have db:decide (b≥0)=false:=decide_eq_false hb
           rw [if_neg hb,List.append_nil] at hff
           have HR:Hid (aM W9 (wr.alloc (.cells #[.int .i64 a,.int .i64 b] 94)) [.cel (aJ (aG I (XB))) (.slice (some ⟨g1,0,none⟩) I I),.cel (aJ (aG on (YB))) (.slice (some ⟨g2,0,none⟩) on on),.cel (aJ (aG sn (SB++bN (es.take (j+1))))) (.slice (some ⟨g3,0,none⟩) sn sn),.cel (aJ (aG ln (LB++ag (es.take (j+1))))) (.slice (some ⟨g4,0,none⟩) ln ln)]):=by
            show aM W9 _ _
            rw [hff,hlu]
            exact HAL.out
           clear hff hlu hcs hcl hfl hul hle2 hsb hlb he1 he2
           go_wp2_with fail
           go_roundw
           case rel=>exact ⟨j+1,by omega,by go_num,HR.out⟩
           case measure=>simp [intOf];omega
        ·have hjn:j=en:=by omega
         have hdj:decide ((j:Int)<(en:Int))=false:=by simp;omega
         have HD:Hid (aM W9 wr [.cel (aJ (aG I (XB))) (.slice (some ⟨g1,0,none⟩) I I),.cel (aJ (aG on (YB))) (.slice (some ⟨g2,0,none⟩) on on),.cel (aJ (aG sn (SB++bN es))) (.slice (some ⟨g3,0,none⟩) sn sn),.cel (aJ (aG ln (LB++ag es))) (.slice (some ⟨g4,0,none⟩) ln ln)]):=by
          have h:=HSJ.out
          show aM W9 _ _
          rwa [hjn,List.take_of_length_le (by rw [HEL.out];exact Nat.le_refl _)] at h
         clear HSJ hjn
         go_wp2_with fail
         go_roundw
         case rel=>exact ⟨k+1,by omega,by go_num,by rw [HT1.out,HT2.out,HT3.out,HT4.out];exact HD.out,HG2.out⟩
         case measure=>simp [intOf];omega
      ·subst hk2
       have hit:=jG.1 hfit.1
       rw [HSL.out] at hit
       obtain ⟨X,rfl⟩:∃X:Nat,it=(X:Int):=⟨it.toNat,by omega⟩
       have hX:X<sn:=by have:=HII.out;omega
       have hT1:=dC 0 (bs.take k) ⟨2,(X:Int),es⟩
       have hT2:=dC 1 (bs.take k) ⟨2,(X:Int),es⟩
       have hT3:=iI (bs.take k) ⟨2,(X:Int),es⟩
       have hT4:=iH (bs.take k) ⟨2,(X:Int),es⟩
       rw [←HTK.out] at hT1 hT2 hT3 hT4
       simp only [Int.reduceEq,reduceIte,List.append_nil] at hT1 hT2 hT3 hT4
       have hil0:=dW 0 (bs.take k)
       have hil1:=dW 1 (bs.take k)
       rw [List.length_take] at hil0 hil1
       obtain ⟨cX,fX,lX,hN1⟩:=dU HS4.out 2 rfl hX
       have hcX:=d9 (dH (bs.take k)) (X:Int)
       have HSS:Hid (aM W9 (w4.setCell ⟨g3,X,none⟩ (.int .i64 (((cnt (dH (bs.take k)) (X:Int):Nat):Int)+1))) [.cel (aJ (aG I (ak 0 (bs.take k)))) (.slice (some ⟨g1,0,none⟩) I I),.cel (aJ (aG on (ak 1 (bs.take k)))) (.slice (some ⟨g2,0,none⟩) on on),.cel (aJ (aG sn (dH (bs.take k)++[(X:Int)]))) (.slice (some ⟨g3,0,none⟩) sn sn),.cel (aJ (aG ln (dX (bs.take k)))) (.slice (some ⟨g4,0,none⟩) ln ln)]):=hN1
       clear hN1
       have hne:wr.heap.size≠g3:=by have:=(ky HS.out 2 rfl).1;omega
       have HSB:Hid ((dH (bs.take k)++[(X:Int)]).length<=1000):=by show _<=_;have:=HSL3.out;(try rw [List.length_append,List.length_singleton]);omega
       have HLB:Hid ((dX (bs.take k)).length<=1000):=by show _<=_;have:=HLL3.out;omega
       obtain ⟨XB,hXB⟩:∃XB,ak 0 (bs.take k)=XB:=⟨_,rfl⟩
       obtain ⟨YB,hYB⟩:∃YB,ak 1 (bs.take k)=YB:=⟨_,rfl⟩
       obtain ⟨SB,hSB⟩:∃SB,dH (bs.take k)++[(X:Int)]=SB:=⟨_,rfl⟩
       obtain ⟨LB,hLB⟩:∃LB,dX (bs.take k)=LB:=⟨_,rfl⟩
       rw [hXB,hYB,hSB,hLB] at HSS
       rw [hXB] at hT1
       rw [hYB] at hT2
       rw [hSB] at hT3 HSB
       rw [hLB] at hT4 HLB
       have HT1:=Hd hT1
       have HT2:=Hd hT2
       have HT3:=Hd hT3
       have HT4:=Hd hT4
       clear hT1 hT2 hT3 hT4 hXB hYB hSB hLB
       generalize cnt (dH (bs.take k)) (X:Int)=q at *
       have iq:q<=10000:=by have:=HSL3.out;omega
       have iX:(X:Int)<(sn:Int):=by omega
       clear hcX
       have hy:=aD b4 HYA.out
       have y0:=aA (k:=0) hy rfl
       have y1:=aA (k:=1) hy rfl
       have y2:=aA (k:=2) hy rfl
       have ly:=aC hy
       clear hy b4 hil0 hil1 hfit
       go_wp2_with fail
       clear y0 y1 y2 ly
       clear cX fX lX
       go_loopw [78] (fun i wr=>∃j:Nat,j<=en/\i = .int .i64 (j:Int)/\aM W9 wr [.cel (aJ (aG I (XB))) (.slice (some ⟨g1,0,none⟩) I I),.cel (aJ (aG on (YB))) (.slice (some ⟨g2,0,none⟩) on on),.cel (aJ (aG sn (SB++bN (es.take j)))) (.slice (some ⟨g3,0,none⟩) sn sn),.cel (aJ (aG ln (LB++ag (es.take j)))) (.slice (some ⟨g4,0,none⟩) ln ln)]) (fun i _=>en - (intOf i).toNat)
       case atStart=>exact ⟨0,by omega,rfl,by rw [List.take_zero];simpa [bN,ag] using HSS.out⟩
       case round =>
        obtain ⟨j,hj,rfl,hs⟩:=hrel
        have HSJ:=Hd hs
        clear hs
        by_cases hltj:j<en
        ·have hdj:decide ((j:Int)<(en:Int))=true:=by simp;omega
         have hjl:j<es.length:=by rw [HEL.out];exact hltj
         obtain ⟨be,oe,hEA,hbe,c0,c1⟩:=HE.out.es (k:=j) hjl
         have HEA:=Hd hEA
         have hBB:=aB HBW.out HSJ.out.bel
         have lbe:=aL hBB hbe
         rw [←hBB.cell (p:=⟨be,oe+j * 2,none⟩) hbe] at c0
         rw [←hBB.cell (p:=⟨be,oe+j * 2+1,none⟩) hbe] at c1
         have hel:=HEF.out _ (List.getElem_mem hjl)
         have hff:=jJ (es.take j) (es[j]?.getD LeT.zero)
         have hlu:=iG (es.take j) (es[j]?.getD LeT.zero)
         rw [←bJ hjl] at hff hlu
         have hfl:=jY (es.take j)
         have hul:=iU (es.take j)
         rw [List.length_take] at hfl hul
         rw [show es[j]=es[j]?.getD LeT.zero by rw [List.getElem?_eq_getElem hjl];rfl] at hel
         have he1:=hel.lut.2
         have he2:=hel.ff.2
         rw [HLL.out] at he1
         rw [HSL.out] at he2
         have hle2:=HLE.out
         have hsb:=HSB.out
         have hlb:=HLB.out
         clear hel hjl hBB
         generalize es[j]?.getD LeT.zero=e at *
         obtain ⟨a,b⟩:=e
         simp only at he1 he2 hff hlu c0 c1
         have i0:(0:Int)<=(j:Int):=by omega
         have i1:(j:Int)<(en:Int):=by omega
         have HAL:=Hd (HSJ.out.alloc (.cells #[.int .i64 a,.int .i64 b] 94))
         have hq:=aK wr (.cells #[.int .i64 a,.int .i64 b] 94)
         have HQ:=Hd hq
         have q0:=aA (k:=0) hq rfl
         have q1:=aA (k:=1) hq rfl
         have lq:=aC hq
         have hcs:=d9 (SB++bN (es.take j)) b
         have hcl:=d9 (LB++ag (es.take j)) a
         rw [List.length_append] at hcs hcl
         clear hq
         subst hEA
         have hne3:wr.heap.size≠g3:=by have:=(ky HSJ.out 2 rfl).1;omega
         have hne4:wr.heap.size≠g4:=by have:=(ky HSJ.out 3 rfl).1;omega
         have h34:g3≠g4:=sP HSJ.out 2 3 (by decide) rfl rfl
         by_cases ha:0<=a
         ·have da:decide (a≥0)=true:=decide_eq_true ha
          rw [if_pos ha] at hlu
          obtain ⟨X,rfl⟩:=Int.eq_ofNat_of_zero_le ha
          have hXl:X<ln:=by omega
          obtain ⟨cX,fX,lX,hN1⟩:=dU HAL.out 3 rfl hXl
          by_cases hb:0<=b
          ·have db:decide (b≥0)=true:=decide_eq_true hb
           rw [if_pos hb] at hff
           obtain ⟨Y,rfl⟩:=Int.eq_ofNat_of_zero_le hb
           have hYl:Y<sn:=by omega
           obtain ⟨cY,fY,lY,hN2⟩:=dU hN1 2 rfl hYl
           obtain ⟨cY',fY',lY',_⟩:=dU HAL.out 2 rfl hYl
           have HN:=Hd hN2
           have HR:Hid (aM W9 (((wr.alloc (.cells #[.int .i64 (X:Int),.int .i64 (Y:Int)] 94)).setCell ⟨g4,X,none⟩ (.int .i64 (((cnt (LB++ag (es.take j)) (X:Int):Nat):Int)+1))).setCell ⟨g3,Y,none⟩ (.int .i64 (((cnt (SB++bN (es.take j)) (Y:Int):Nat):Int)+1))) [.cel (aJ (aG I (XB))) (.slice (some ⟨g1,0,none⟩) I I),.cel (aJ (aG on (YB))) (.slice (some ⟨g2,0,none⟩) on on),.cel (aJ (aG sn (SB++bN (es.take (j+1))))) (.slice (some ⟨g3,0,none⟩) sn sn),.cel (aJ (aG ln (LB++ag (es.take (j+1))))) (.slice (some ⟨g4,0,none⟩) ln ln)]):=by
            show aM W9 _ _
            rw [hff,hlu,←List.append_assoc,←List.append_assoc]
            exact HN.out
           clear hN1 hN2 cY fY lY hff hlu HN
           generalize cnt (LB++ag (es.take j)) (X:Int)=q1' at *
           generalize cnt (SB++bN (es.take j)) (Y:Int)=q2' at *
           have iX:(X:Int)<(ln:Int):=by omega
           have iY:(Y:Int)<(sn:Int):=by omega
           have iq1:q1'<=10000:=by omega
           have iq2:q2'<=10000:=by omega
           clear hcs hcl hfl hul hle2 hsb hlb he1 he2
           go_wp2_with fail
           go_roundw
           case rel=>exact ⟨j+1,by omega,by go_num,HR.out⟩
           case measure=>simp [intOf];omega
          ·have db:decide (b≥0)=false:=decide_eq_false hb
           rw [if_neg hb,List.append_nil] at hff
           have HN:=Hd hN1
           have HR:Hid (aM W9 ((wr.alloc (.cells #[.int .i64 (X:Int),.int .i64 b] 94)).setCell ⟨g4,X,none⟩ (.int .i64 (((cnt (LB++ag (es.take j)) (X:Int):Nat):Int)+1))) [.cel (aJ (aG I (XB))) (.slice (some ⟨g1,0,none⟩) I I),.cel (aJ (aG on (YB))) (.slice (some ⟨g2,0,none⟩) on on),.cel (aJ (aG sn (SB++bN (es.take (j+1))))) (.slice (some ⟨g3,0,none⟩) sn sn),.cel (aJ (aG ln (LB++ag (es.take (j+1))))) (.slice (some ⟨g4,0,none⟩) ln ln)]):=by
            show aM W9 _ _
            rw [hff,hlu,←List.append_assoc]
            exact HN.out
           clear hN1 hff hlu HN
           generalize cnt (LB++ag (es.take j)) (X:Int)=q1' at *
           have iX:(X:Int)<(ln:Int):=by omega
           have iq1:q1'<=10000:=by omega
           clear hcs hcl hfl hul hle2 hsb hlb he1 he2
           go_wp2_with fail
           go_roundw
           case rel=>exact ⟨j+1,by omega,by go_num,HR.out⟩
           case measure=>simp [intOf];omega
         ·have da:decide (a≥0)=false:=decide_eq_false ha
          rw [if_neg ha,List.append_nil] at hlu
          by_cases hb:0<=b
          ·have db:decide (b≥0)=true:=decide_eq_true hb
           rw [if_pos hb] at hff
           obtain ⟨Y,rfl⟩:=Int.eq_ofNat_of_zero_le hb
           have hYl:Y<sn:=by omega
           obtain ⟨cY,fY,lY,hN2⟩:=dU HAL.out 2 rfl hYl
           have HN:=Hd hN2
           have HR:Hid (aM W9 ((wr.alloc (.cells #[.int .i64 a,.int .i64 (Y:Int)] 94)).setCell ⟨g3,Y,none⟩ (.int .i64 (((cnt (SB++bN (es.take j)) (Y:Int):Nat):Int)+1))) [.cel (aJ (aG I (XB))) (.slice (some ⟨g1,0,none⟩) I I),.cel (aJ (aG on (YB))) (.slice (some ⟨g2,0,none⟩) on on),.cel (aJ (aG sn (SB++bN (es.take (j+1))))) (.slice (some ⟨g3,0,none⟩) sn sn),.cel (aJ (aG ln (LB++ag (es.take (j+1))))) (.slice (some ⟨g4,0,none⟩) ln ln)]):=by
            show aM W9 _ _
            rw [hff,hlu,←List.append_assoc]
            exact HN.out
           clear hN2 hff hlu HN
           generalize cnt (SB++bN (es.take j)) (Y:Int)=q2' at *
           have iY:(Y:Int)<(sn:Int):=by omega
           have iq2:q2'<=10000:=by omega
           clear hcs hcl hfl hul hle2 hsb hlb he1 he2
           go_wp2_with fail
           go_roundw
           case rel=>exact ⟨j+1,by omega,by go_num,HR.out⟩
           case measure=>simp [intOf];omega
          ·have db:decide (b≥0)=false:=decide_eq_false hb
           rw [if_neg hb,List.append_nil] at hff
           have HR:Hid (aM W9 (wr.alloc (.cells #[.int .i64 a,.int .i64 b] 94)) [.cel (aJ (aG I (XB))) (.slice (some ⟨g1,0,none⟩) I I),.cel (aJ (aG on (YB))) (.slice (some ⟨g2,0,none⟩) on on),.cel (aJ (aG sn (SB++bN (es.take (j+1))))) (.slice (some ⟨g3,0,none⟩) sn sn),.cel (aJ (aG ln (LB++ag (es.take (j+1))))) (.slice (some ⟨g4,0,none⟩) ln ln)]):=by
            show aM W9 _ _
            rw [hff,hlu]
            exact HAL.out
           clear hff hlu hcs hcl hfl hul hle2 hsb hlb he1 he2
           go_wp2_with fail
           go_roundw
           case rel=>exact ⟨j+1,by omega,by go_num,HR.out⟩
           case measure=>simp [intOf];omega
        ·have hjn:j=en:=by omega
         have hdj:decide ((j:Int)<(en:Int))=false:=by simp;omega
         have HD:Hid (aM W9 wr [.cel (aJ (aG I (XB))) (.slice (some ⟨g1,0,none⟩) I I),.cel (aJ (aG on (YB))) (.slice (some ⟨g2,0,none⟩) on on),.cel (aJ (aG sn (SB++bN es))) (.slice (some ⟨g3,0,none⟩) sn sn),.cel (aJ (aG ln (LB++ag es))) (.slice (some ⟨g4,0,none⟩) ln ln)]):=by
          have h:=HSJ.out
          show aM W9 _ _
          rwa [hjn,List.take_of_length_le (by rw [HEL.out];exact Nat.le_refl _)] at h
         clear HSJ hjn
         go_wp2_with fail
         go_roundw
         case rel=>exact ⟨k+1,by omega,by go_num,by rw [HT1.out,HT2.out,HT3.out,HT4.out];exact HD.out,HG2.out⟩
         case measure=>simp [intOf];omega
      ·subst hk3
       have hT1:=dC 0 (bs.take k) ⟨3,it,es⟩
       have hT2:=dC 1 (bs.take k) ⟨3,it,es⟩
       have hT3:=iI (bs.take k) ⟨3,it,es⟩
       have hT4:=iH (bs.take k) ⟨3,it,es⟩
       rw [←HTK.out] at hT1 hT2 hT3 hT4
       simp only [Int.reduceEq,reduceIte,List.append_nil] at hT1 hT2 hT3 hT4
       have hil0:=dW 0 (bs.take k)
       have hil1:=dW 1 (bs.take k)
       rw [List.length_take] at hil0 hil1
       have HSS:Hid (aM W9 w4 [.cel (aJ (aG I (ak 0 (bs.take k)))) (.slice (some ⟨g1,0,none⟩) I I),.cel (aJ (aG on (ak 1 (bs.take k)))) (.slice (some ⟨g2,0,none⟩) on on),.cel (aJ (aG sn (dH (bs.take k)))) (.slice (some ⟨g3,0,none⟩) sn sn),.cel (aJ (aG ln (dX (bs.take k)))) (.slice (some ⟨g4,0,none⟩) ln ln)]):=HS4.out
       have HSB:Hid ((dH (bs.take k)).length<=1000):=by show _<=_;have:=HSL3.out;(try rw [List.length_append,List.length_singleton]);omega
       have HLB:Hid ((dX (bs.take k)).length<=1000):=by show _<=_;have:=HLL3.out;omega
       obtain ⟨XB,hXB⟩:∃XB,ak 0 (bs.take k)=XB:=⟨_,rfl⟩
       obtain ⟨YB,hYB⟩:∃YB,ak 1 (bs.take k)=YB:=⟨_,rfl⟩
       obtain ⟨SB,hSB⟩:∃SB,dH (bs.take k)=SB:=⟨_,rfl⟩
       obtain ⟨LB,hLB⟩:∃LB,dX (bs.take k)=LB:=⟨_,rfl⟩
       rw [hXB,hYB,hSB,hLB] at HSS
       rw [hXB] at hT1
       rw [hYB] at hT2
       rw [hSB] at hT3 HSB
       rw [hLB] at hT4 HLB
       have HT1:=Hd hT1
       have HT2:=Hd hT2
       have HT3:=Hd hT3
       have HT4:=Hd hT4
       clear hT1 hT2 hT3 hT4 hXB hYB hSB hLB
       have hy:=aD b4 HYA.out
       have y0:=aA (k:=0) hy rfl
       have y1:=aA (k:=1) hy rfl
       have y2:=aA (k:=2) hy rfl
       have ly:=aC hy
       clear hy b4 hil0 hil1 hfit
       go_wp2_with fail
       clear y0 y1 y2 ly
       go_loopw [78] (fun i wr=>∃j:Nat,j<=en/\i = .int .i64 (j:Int)/\aM W9 wr [.cel (aJ (aG I (XB))) (.slice (some ⟨g1,0,none⟩) I I),.cel (aJ (aG on (YB))) (.slice (some ⟨g2,0,none⟩) on on),.cel (aJ (aG sn (SB++bN (es.take j)))) (.slice (some ⟨g3,0,none⟩) sn sn),.cel (aJ (aG ln (LB++ag (es.take j)))) (.slice (some ⟨g4,0,none⟩) ln ln)]) (fun i _=>en - (intOf i).toNat)
       case atStart=>exact ⟨0,by omega,rfl,by rw [List.take_zero];simpa [bN,ag] using HSS.out⟩
       case round =>
        obtain ⟨j,hj,rfl,hs⟩:=hrel
        have HSJ:=Hd hs
        clear hs
        by_cases hltj:j<en
        ·have hdj:decide ((j:Int)<(en:Int))=true:=by simp;omega
         have hjl:j<es.length:=by rw [HEL.out];exact hltj
         obtain ⟨be,oe,hEA,hbe,c0,c1⟩:=HE.out.es (k:=j) hjl
         have HEA:=Hd hEA
         have hBB:=aB HBW.out HSJ.out.bel
         have lbe:=aL hBB hbe
         rw [←hBB.cell (p:=⟨be,oe+j * 2,none⟩) hbe] at c0
         rw [←hBB.cell (p:=⟨be,oe+j * 2+1,none⟩) hbe] at c1
         have hel:=HEF.out _ (List.getElem_mem hjl)
         have hff:=jJ (es.take j) (es[j]?.getD LeT.zero)
         have hlu:=iG (es.take j) (es[j]?.getD LeT.zero)
         rw [←bJ hjl] at hff hlu
         have hfl:=jY (es.take j)
         have hul:=iU (es.take j)
         rw [List.length_take] at hfl hul
         rw [show es[j]=es[j]?.getD LeT.zero by rw [List.getElem?_eq_getElem hjl];rfl] at hel
         have he1:=hel.lut.2
         have he2:=hel.ff.2
         rw [HLL.out] at he1
         rw [HSL.out] at he2
         have hle2:=HLE.out
         have hsb:=HSB.out
         have hlb:=HLB.out
         clear hel hjl hBB
         generalize es[j]?.getD LeT.zero=e at *
         obtain ⟨a,b⟩:=e
         simp only at he1 he2 hff hlu c0 c1
         have i0:(0:Int)<=(j:Int):=by omega
         have i1:(j:Int)<(en:Int):=by omega
         have HAL:=Hd (HSJ.out.alloc (.cells #[.int .i64 a,.int .i64 b] 94))
         have hq:=aK wr (.cells #[.int .i64 a,.int .i64 b] 94)
         have HQ:=Hd hq
         have q0:=aA (k:=0) hq rfl
         have q1:=aA (k:=1) hq rfl
         have lq:=aC hq
         have hcs:=d9 (SB++bN (es.take j)) b
         have hcl:=d9 (LB++ag (es.take j)) a
         rw [List.length_append] at hcs hcl
         clear hq
         subst hEA
         have hne3:wr.heap.size≠g3:=by have:=(ky HSJ.out 2 rfl).1;omega
         have hne4:wr.heap.size≠g4:=by have:=(ky HSJ.out 3 rfl).1;omega
         have h34:g3≠g4:=sP HSJ.out 2 3 (by decide) rfl rfl
         by_cases ha:0<=a
         ·have da:decide (a≥0)=true:=decide_eq_true ha
          rw [if_pos ha] at hlu
          obtain ⟨X,rfl⟩:=Int.eq_ofNat_of_zero_le ha
          have hXl:X<ln:=by omega
          obtain ⟨cX,fX,lX,hN1⟩:=dU HAL.out 3 rfl hXl
          by_cases hb:0<=b
          ·have db:decide (b≥0)=true:=decide_eq_true hb
           rw [if_pos hb] at hff
           obtain ⟨Y,rfl⟩:=Int.eq_ofNat_of_zero_le hb
           have hYl:Y<sn:=by omega
           obtain ⟨cY,fY,lY,hN2⟩:=dU hN1 2 rfl hYl
           obtain ⟨cY',fY',lY',_⟩:=dU HAL.out 2 rfl hYl
           have HN:=Hd hN2
           have HR:Hid (aM W9 (((wr.alloc (.cells #[.int .i64 (X:Int),.int .i64 (Y:Int)] 94)).setCell ⟨g4,X,none⟩ (.int .i64 (((cnt (LB++ag (es.take j)) (X:Int):Nat):Int)+1))).setCell ⟨g3,Y,none⟩ (.int .i64 (((cnt (SB++bN (es.take j)) (Y:Int):Nat):Int)+1))) [.cel (aJ (aG I (XB))) (.slice (some ⟨g1,0,none⟩) I I),.cel (aJ (aG on (YB))) (.slice (some ⟨g2,0,none⟩) on on),.cel (aJ (aG sn (SB++bN (es.take (j+1))))) (.slice (some ⟨g3,0,none⟩) sn sn),.cel (aJ (aG ln (LB++ag (es.take (j+1))))) (.slice (some ⟨g4,0,none⟩) ln ln)]):=by
            show aM W9 _ _
            rw [hff,hlu,←List.append_assoc,←List.append_assoc]
            exact HN.out
           clear hN1 hN2 cY fY lY hff hlu HN
           generalize cnt (LB++ag (es.take j)) (X:Int)=q1' at *
           generalize cnt (SB++bN (es.take j)) (Y:Int)=q2' at *
           have iX:(X:Int)<(ln:Int):=by omega
           have iY:(Y:Int)<(sn:Int):=by omega
           have iq1:q1'<=10000:=by omega
           have iq2:q2'<=10000:=by omega
           clear hcs hcl hfl hul hle2 hsb hlb he1 he2
           go_wp2_with fail
           go_roundw
           case rel=>exact ⟨j+1,by omega,by go_num,HR.out⟩
           case measure=>simp [intOf];omega
          ·have db:decide (b≥0)=false:=decide_eq_false hb
           rw [if_neg hb,List.append_nil] at hff
           have HN:=Hd hN1
           have HR:Hid (aM W9 ((wr.alloc (.cells #[.int .i64 (X:Int),.int .i64 b] 94)).setCell ⟨g4,X,none⟩ (.int .i64 (((cnt (LB++ag (es.take j)) (X:Int):Nat):Int)+1))) [.cel (aJ (aG I (XB))) (.slice (some ⟨g1,0,none⟩) I I),.cel (aJ (aG on (YB))) (.slice (some ⟨g2,0,none⟩) on on),.cel (aJ (aG sn (SB++bN (es.take (j+1))))) (.slice (some ⟨g3,0,none⟩) sn sn),.cel (aJ (aG ln (LB++ag (es.take (j+1))))) (.slice (some ⟨g4,0,none⟩) ln ln)]):=by
            show aM W9 _ _
            rw [hff,hlu,←List.append_assoc]
            exact HN.out
           clear hN1 hff hlu HN
           generalize cnt (LB++ag (es.take j)) (X:Int)=q1' at *
           have iX:(X:Int)<(ln:Int):=by omega
           have iq1:q1'<=10000:=by omega
           clear hcs hcl hfl hul hle2 hsb hlb he1 he2
           go_wp2_with fail
           go_roundw
           case rel=>exact ⟨j+1,by omega,by go_num,HR.out⟩
           case measure=>simp [intOf];omega
         ·have da:decide (a≥0)=false:=decide_eq_false ha
          rw [if_neg ha,List.append_nil] at hlu
          by_cases hb:0<=b
          ·have db:decide (b≥0)=true:=decide_eq_true hb
           rw [if_pos hb] at hff
           obtain ⟨Y,rfl⟩:=Int.eq_ofNat_of_zero_le hb
           have hYl:Y<sn:=by omega
           obtain ⟨cY,fY,lY,hN2⟩:=dU HAL.out 2 rfl hYl
           have HN:=Hd hN2
           have HR:Hid (aM W9 ((wr.alloc (.cells #[.int .i64 a,.int .i64 (Y:Int)] 94)).setCell ⟨g3,Y,none⟩ (.int .i64 (((cnt (SB++bN (es.take j)) (Y:Int):Nat):Int)+1))) [.cel (aJ (aG I (XB))) (.slice (some ⟨g1,0,none⟩) I I),.cel (aJ (aG on (YB))) (.slice (some ⟨g2,0,none⟩) on on),.cel (aJ (aG sn (SB++bN (es.take (j+1))))) (.slice (some ⟨g3,0,none⟩) sn sn),.cel (aJ (aG ln (LB++ag (es.take (j+1))))) (.slice (some ⟨g4,0,none⟩) ln ln)]):=by
            show aM W9 _ _
            rw [hff,hlu,←List.append_assoc]
            exact HN.out
           clear hN2 hff hlu HN
           generalize cnt (SB++bN (es.take j)) (Y:Int)=q2' at *
           have iY:(Y:Int)<(sn:Int):=by omega
           have iq2:q2'<=10000:=by omega
           clear hcs hcl hfl hul hle2 hsb hlb he1 he2
           go_wp2_with fail
           go_roundw
           case rel=>exact ⟨j+1,by omega,by go_num,HR.out⟩
           case measure=>simp [intOf];omega
          ·have db:decide (b≥0)=false:=decide_eq_false hb
           rw [if_neg hb,List.append_nil] at hff
           have HR:Hid (aM W9 (wr.alloc (.cells #[.int .i64 a,.int .i64 b] 94)) [.cel (aJ (aG I (XB))) (.slice (some ⟨g1,0,none⟩) I I),.cel (aJ (aG on (YB))) (.slice (some ⟨g2,0,none⟩) on on),.cel (aJ (aG sn (SB++bN (es.take (j+1))))) (.slice (some ⟨g3,0,none⟩) sn sn),.cel (aJ (aG ln (LB++ag (es.take (j+1))))) (.slice (some ⟨g4,0,none⟩) ln ln)]):=by
            show aM W9 _ _
            rw [hff,hlu]
            exact HAL.out
           clear hff hlu hcs hcl hfl hul hle2 hsb hlb he1 he2
           go_wp2_with fail
           go_roundw
           case rel=>exact ⟨j+1,by omega,by go_num,HR.out⟩
           case measure=>simp [intOf];omega
        ·have hjn:j=en:=by omega
         have hdj:decide ((j:Int)<(en:Int))=false:=by simp;omega
         have HD:Hid (aM W9 wr [.cel (aJ (aG I (XB))) (.slice (some ⟨g1,0,none⟩) I I),.cel (aJ (aG on (YB))) (.slice (some ⟨g2,0,none⟩) on on),.cel (aJ (aG sn (SB++bN es))) (.slice (some ⟨g3,0,none⟩) sn sn),.cel (aJ (aG ln (LB++ag es))) (.slice (some ⟨g4,0,none⟩) ln ln)]):=by
          have h:=HSJ.out
          show aM W9 _ _
          rwa [hjn,List.take_of_length_le (by rw [HEL.out];exact Nat.le_refl _)] at h
         clear HSJ hjn
         go_wp2_with fail
         go_roundw
         case rel=>exact ⟨k+1,by omega,by go_num,by rw [HT1.out,HT2.out,HT3.out,HT4.out];exact HD.out,HG2.out⟩
         case measure=>simp [intOf];omega
     ·rw [bF hfit]
      have HR:=Hd (HNO.out hfit)
      rintro _ w4 ⟨rfl,b4⟩
      have HB4:=Hd (aB (aB HBW.out HA.out.bel) b4)
      clear x0 x1 x2 x3 lx y0 y1 y2 ly c0 c1 c2 HG HNO b4
      go_wp2_with fail
      go_ret
      exact ⟨aP HR.out,HB4.out⟩
    ·have hkn:k=bn:=by omega
     have hdk:decide ((k:Int)<(bn:Int))=false:=by simp;omega
     have HTK:Hid (bs.take k=bs):=by show _=_;rw [hkn];exact List.take_of_length_le (by rw [HBL.out];exact Nat.le_refl _)
     rw [HTK.out] at HS HALL
     have HO1:=Hd (HS.out.ints 0 rfl)
     have HO2:=Hd (HS.out.ints 1 rfl)
     have HO3:=Hd (HS.out.ints 2 rfl)
     have HO4:=Hd (HS.out.ints 3 rfl)
     have HBE:=Hd (aB HBW.out HS.out.bel)
     have HP1:Hid ((∀q:Nat,q<I→(aG I (ak 0 bs))[q]?.getD 0=1)↔oC l.inputs.toNat (ak 0 bs)):=by
      show _↔_
      rw [HIN.out]
      exact jr
     have HP2:Hid ((∀q:Nat,q<on→(aG on (ak 1 bs))[q]?.getD 0=1)↔oC l.outs.length (ak 1 bs)):=by
      show _↔_
      rw [HOL.out]
      exact jr
     have HP3:Hid ((∀q:Nat,q<sn→(aG sn (dH bs))[q]?.getD 0=1)↔oC l.seqs.length (dH bs)):=by
      show _↔_
      rw [HSL.out]
      exact jr
     have HP4:Hid ((∀q:Nat,q<ln→(aG ln (dX bs))[q]?.getD 0=1)↔oC l.luts.length (dX bs)):=by
      show _↔_
      rw [HLL.out]
      exact jr
     clear HS hkn
     go_wp2_with fail
     refine (kD _ I I (aG I (ak 0 bs)) _ HO1.out (by omega)).mono ?_
     by_cases q1:∀q:Nat,q<I→(aG I (ak 0 bs))[q]?.getD 0=1
     ·rw [aa q1]
      rintro _ v1 ⟨rfl,rfl⟩
      go_wp2_with fail
      refine (kD _ on on (aG on (ak 1 bs)) _ HO2.out (by omega)).mono ?_
      by_cases q2:∀q:Nat,q<on→(aG on (ak 1 bs))[q]?.getD 0=1
      ·rw [aa q2]
       rintro _ v2 ⟨rfl,rfl⟩
       go_wp2_with fail
       refine (kD _ sn sn (aG sn (dH bs)) _ HO3.out (by omega)).mono ?_
       by_cases q3:∀q:Nat,q<sn→(aG sn (dH bs))[q]?.getD 0=1
       ·rw [aa q3]
        rintro _ v3 ⟨rfl,rfl⟩
        go_wp2_with fail
        refine (kD _ ln ln (aG ln (dX bs)) _ HO4.out (by omega)).mono ?_
        by_cases q4:∀q:Nat,q<ln→(aG ln (dX bs))[q]?.getD 0=1
        ·rw [aa q4]
         have HR:Hid (eY l bs):=⟨HF.out,by rw [HBL.out];exact h64,HALL.out,HP1.out.1 q1,HP2.out.1 q2,HP3.out.1 q3,HP4.out.1 q4⟩
         rintro _ v4 ⟨rfl,rfl⟩
         go_wp2_with fail
         go_ret
         exact ⟨cO HR.out,HBE.out⟩
        ·rw [bF q4]
         have HR:Hid (¬eY l bs):=fun h=>q4 (HP4.out.2 h.luts)
         rintro _ v4 ⟨rfl,rfl⟩
         go_wp2_with fail
         go_ret
         exact ⟨aP HR.out,HBE.out⟩
       ·rw [bF q3]
        have HR:Hid (¬eY l bs):=fun h=>q3 (HP3.out.2 h.seqs)
        rintro _ v3 ⟨rfl,rfl⟩
        go_wp2_with fail
        go_ret
        exact ⟨aP HR.out,HBE.out⟩
      ·rw [bF q2]
       have HR:Hid (¬eY l bs):=fun h=>q2 (HP2.out.2 h.outs)
       rintro _ v2 ⟨rfl,rfl⟩
       go_wp2_with fail
       go_ret
       exact ⟨aP HR.out,HBE.out⟩
     ·rw [bF q1]
      have HR:Hid (¬eY l bs):=fun h=>q1 (HP1.out.2 h.ins)
      rintro _ v1 ⟨rfl,rfl⟩
      go_wp2_with fail
      go_ret
      exact ⟨aP HR.out,HBE.out⟩
  ·have d64:decide ((64:Int)<(bn:Int))=true:=decide_eq_true (by omega)
   have HR:Hid (¬eY l bs):=fun h=>h64 (by rw [←hbl];exact h.len)
   go_enter Tryz.func45,Tryz.ntmps45
   go_upto_region 1 with fail
   generalize w.alloc (.cells (av l SA LA OA sn sc ln lc on oc) 41)=W0 at *
   have x0:=aA (k:=0) HXB.out rfl
   have x1:=aA (k:=1) HXB.out rfl
   have x2:=aA (k:=2) HXB.out rfl
   have x3:=aA (k:=3) HXB.out rfl
   have lx:=aC HXB.out
   go_wp2_with fail
   refine (mI l SA LA OA sn sc ln lc on oc _ (HN.out.below HB0.out)).mono ?_
   rw [aa hf]
   rintro _ w1 ⟨rfl,b1⟩
   have HBW:=Hd (aB HB0.out b1)
   clear b1 x0 x1 x2 x3 lx hf h64
   go_wp2_with fail
   go_ret
   exact ⟨aP HR.out,HBW.out⟩
 ·have HR:Hid (¬eY l bs):=fun h=>hf h.net
  go_enter Tryz.func45,Tryz.ntmps45
  go_upto_region 1 with fail
  generalize w.alloc (.cells (av l SA LA OA sn sc ln lc on oc) 41)=W0 at *
  have x0:=aA (k:=0) HXB.out rfl
  have x1:=aA (k:=1) HXB.out rfl
  have x2:=aA (k:=2) HXB.out rfl
  have x3:=aA (k:=3) HXB.out rfl
  have lx:=aC HXB.out
  go_wp2_with fail
  refine (mI l SA LA OA sn sc ln lc on oc _ (HN.out.below HB0.out)).mono ?_
  rw [bF hf]
  rintro _ w1 ⟨rfl,b1⟩
  have HBW:=Hd (aB HB0.out b1)
  clear b1 x0 x1 x2 x3 lx hf
  go_wp2_with fail
  go_ret
  exact ⟨aP HR.out,HBW.out⟩
end Go.Proofs.YtofihjoanjkdmaaGreat
