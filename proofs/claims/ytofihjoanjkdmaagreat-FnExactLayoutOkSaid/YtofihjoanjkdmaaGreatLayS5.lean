/- The reference's test of blocks (printed by mkpks.py). -/
import Derived.Test.YtofihjoanjkdmaaGreatLayF6
import Derived.Test.YtofihjoanjkdmaaGreatLayS15
namespace Go.Proofs.YtofihjoanjkdmaaGreat
set_option maxHeartbeats 4000000
set_option maxRecDepth 100000
open Go.RowKit
theorem yS {a b:List Int} {n m:Nat} (ha:a.length=n) (hb:b.length=m):(∀q:Nat,q<n+m→(a++b)[q]?.getD 0=1)↔(∀q:Nat,q<n→a[q]?.getD 0=1)/\∀q:Nat,q<m→b[q]?.getD 0=1:=by
 subst ha hb
 refine ⟨fun h=>⟨fun q hq=>?_,fun q hq=>?_⟩,fun h q hq=>?_⟩
 ·have:=h q (by omega)
  rwa [List.getElem?_append_left hq] at this
 ·have:=h (a.length+q) (by omega)
  rwa [List.getElem?_append_right (by omega),Nat.add_sub_cancel_left] at this
 ·rcases Nat.lt_or_ge q a.length with h1|h1
  ·rw [List.getElem?_append_left h1];exact h.1 q h1
  ·rw [List.getElem?_append_right h1];exact h.2 _ (by omega)
theorem zW {a b c d:List Int} {n m p q:Nat} (ha:a.length=n) (hb:b.length=m) (hc:c.length=p) (hd:d.length=q):(∀j:Nat,j<n+m+p+q→(a++b++c++d)[j]?.getD 0=1) ↔
  (((∀j:Nat,j<n→a[j]?.getD 0=1)/\∀j:Nat,j<m→b[j]?.getD 0=1)/\∀j:Nat,j<p→c[j]?.getD 0=1)/\∀j:Nat,j<q→d[j]?.getD 0=1:=by
 have h1:(a++b).length=n+m:=by rw [List.length_append,ha,hb]
 have h2:(a++b++c).length=n+m+p:=by rw [List.length_append,h1,hc]
 rw [yS h2 hd,yS h1 hc,yS ha hb]
theorem jO (l:ai) (SA LA OA:Option Addr) (sn sc ln lc on oc:Nat) (bs:List Blk) (BA:Option Addr) (bn bc:Nat) (w:World) (h:fI w l SA LA OA sn sc ln lc on oc) (hB:RdC w w.heap.size (bE bs) (.slice BA bn bc)) (hbd:∀b∈bs,b.les.length<=1048576) :
  Calls Tryz.prog 35 #[iD l SA LA OA sn sc ln lc on oc,.slice BA bn bc] w fun e w'=>e = .returned (.bool (tb (eY l bs)))/\Below w.heap.size w w':=by
 have HB0:=Hd (aF (Below.refl w.heap.size w) (.cells (av l SA LA OA sn sc ln lc on oc) 41))
 have HXB:=Hd (aK w (.cells (av l SA LA OA sn sc ln lc on oc) 41))
 have hbl:=hB.blkN
 have HBL:=Hd hbl
 have HBD:=Hd hbd
 have HB:=Hd hB
 have HN:=Hd h
 clear hB hbd
 obtain ⟨hsl,hll,hol⟩:=h.lens
 have HSL:=Hd hsl
 have HLL:=Hd hll
 have HOL:=Hd hol
 clear h
 by_cases hf:bB l
 ·by_cases h64:bn<=64
  ·have d64:decide ((64:Int)<(bn:Int))=false:=decide_eq_false (by omega)
   have d64':decide ((bn:Int)>64)=false:=decide_eq_false (by omega)
   have hsn:=hf.nseq
   have hln:=hf.nlut
   have hon:=hf.nout
   have hin:=hf.inp
   rw [hsl] at hsn
   rw [hll] at hln
   rw [hol] at hon
   have HF:=Hd hf
   obtain ⟨I,hI⟩:∃I:Nat,l.inputs=(I:Int):=⟨l.inputs.toNat,by omega⟩
   have HIN:Hid (l.inputs.toNat=I):=by show _=_;omega
   have HII:=Hd hI
   have hI20:I<=20:=by omega
   obtain ⟨i0,hi,hz0,hz1,hz2⟩:=info_parts jC
   have mk:=fun (n:Nat) (hn:n<=1048576) W=>dB (P:=Tryz.prog) 26 3 i0 _ Tryz.underlying26 hi hz0 .i64 .i64 n n (Nat.le_refl _) (by rw [hz2];omega) (by omega) W
   rw [hz1] at mk
   simp only [Nat.mul_one,show (Value.int .i64 0).cells=#[Value.int .i64 0] from rfl,oV] at mk
   have mkI:=mk I (by omega)
   have mkO:=mk on (by omega)
   have mkS:=mk sn (by omega)
   have mkL:=mk ln (by omega)
   rw [←hI] at mkI
   clear mk hi hz0 hz1 hz2 hsl hll hol hI hbl
   go_enter Tryz.func35,Tryz.ntmps35
   go_upto_region 1 with fail
   generalize w.alloc (.cells (av l SA LA OA sn sc ln lc on oc) 41)=W0 at *
   have x0:=aA (k:=0) HXB.out rfl
   have x1:=aA (k:=1) HXB.out rfl
   have x2:=aA (k:=2) HXB.out rfl
   have x3:=aA (k:=3) HXB.out rfl
   have lx:=aC HXB.out
   go_wp2_with fail
   refine (bv l SA LA OA sn sc ln lc on oc _ (HN.out.below HB0.out)).mono ?_
   rw [aa hf]
   rintro _ w1 ⟨rfl,b1⟩
   have HBW:=Hd (aB HB0.out b1)
   have HX9:=Hd (aD b1 HXB.out)
   clear b1 x0 x1 x2 x3 lx hf
   have x0:=aA (k:=0) HX9.out rfl
   have x1:=aA (k:=1) HX9.out rfl
   have x2:=aA (k:=2) HX9.out rfl
   have x3:=aA (k:=3) HX9.out rfl
   have lx:=aC HX9.out
   obtain ⟨W9,rfl⟩:∃x,x=w1:=⟨w1,rfl⟩
   have HS1:=Hd (aM.refl W9)
   go_upto_region 4 with fail
   have s1:=vk HS1.out I (by omega)
   clear x0 x1 x2 x3 lx
   generalize W9.alloc (.cells (arr (List.replicate I 0)) 3)=m1 at s1 ⊢
   generalize W9.heap.size=g1 at s1 ⊢
   have HS2:=Hd s1
   clear s1 mkI
   have hx:=aD HS2.out.bel HX9.out
   have x0:=aA (k:=0) hx rfl
   have x1:=aA (k:=1) hx rfl
   have x2:=aA (k:=2) hx rfl
   have x3:=aA (k:=3) hx rfl
   have lx:=aC hx
   clear hx
   go_upto_region 5 with fail
   have s1:=vk HS2.out on (by omega)
   clear x0 x1 x2 x3 lx
   generalize m1.alloc (.cells (arr (List.replicate on 0)) 3)=m2 at s1 ⊢
   generalize m1.heap.size=g2 at s1 ⊢
   have HS3:=Hd s1
   clear s1 mkO
   have hx:=aD HS3.out.bel HX9.out
   have x0:=aA (k:=0) hx rfl
   have x1:=aA (k:=1) hx rfl
   have x2:=aA (k:=2) hx rfl
   have x3:=aA (k:=3) hx rfl
   have lx:=aC hx
   clear hx
   go_upto_region 6 with fail
   have s1:=vk HS3.out sn (by omega)
   clear x0 x1 x2 x3 lx
   generalize m2.alloc (.cells (arr (List.replicate sn 0)) 3)=m3 at s1 ⊢
   generalize m2.heap.size=g3 at s1 ⊢
   have HS4:=Hd s1
   clear s1 mkS
   have hx:=aD HS4.out.bel HX9.out
   have x0:=aA (k:=0) hx rfl
   have x1:=aA (k:=1) hx rfl
   have x2:=aA (k:=2) hx rfl
   have x3:=aA (k:=3) hx rfl
   have lx:=aC hx
   clear hx
   go_upto_region 7 with fail
   have s1:=vk HS4.out ln (by omega)
   clear x0 x1 x2 x3 lx
   generalize m3.alloc (.cells (arr (List.replicate ln 0)) 3)=m4 at s1 ⊢
   generalize m3.heap.size=g4 at s1 ⊢
   have HS5:=Hd s1
   clear s1 mkL
   have HS0:Hid (aM W9 m4 [.cel (aJ (aG I (ak 0 []))) (.slice (some ⟨g1,0,none⟩) I I),.cel (aJ (aG on (ak 1 []))) (.slice (some ⟨g2,0,none⟩) on on),.cel (aJ (aG sn (dH []))) (.slice (some ⟨g3,0,none⟩) sn sn),.cel (aJ (aG ln (dX []))) (.slice (some ⟨g4,0,none⟩) ln ln)]):=HS5.out
   clear HS1 HS2 HS3 HS4 HS5
   go_wp2_with fail
   go_loopw [9] (fun i wr=>∃k:Nat,k<=bn/\i = .int .i64 (k:Int)/\aM W9 wr [.cel (aJ (aG I (ak 0 (bs.take k)))) (.slice (some ⟨g1,0,none⟩) I I),.cel (aJ (aG on (ak 1 (bs.take k)))) (.slice (some ⟨g2,0,none⟩) on on),.cel (aJ (aG sn (dH (bs.take k)))) (.slice (some ⟨g3,0,none⟩) sn sn),.cel (aJ (aG ln (dX (bs.take k)))) (.slice (some ⟨g4,0,none⟩) ln ln)]/\∀b∈bs.take k,cZ l b) (fun i _=>bn - (intOf i).toNat)
   case atStart=>exact ⟨0,by omega,rfl,by rw [List.take_zero];exact HS0.out,by simp⟩
   case round =>
    obtain ⟨k,hk,rfl,hs,hall⟩:=hrel
    have HS:=Hd hs
    have HALL:=Hd hall
    clear hs hall
    by_cases hlt:k<bn
    ·have hdk:decide ((k:Int)<(bn:Int))=true:=by simp;omega
     have hkl:k<bs.length:=by rw [HBL.out];exact hlt
     obtain ⟨bb,ob,EA,en,ec,hBA,hbb,c0,c1,c2,r2⟩:=HB.out.blk (k:=k) hkl
     have hBB:=aB HBW.out HS.out.bel
     have lbb:=aL hBB hbb
     rw [←hBB.cell (p:=⟨bb,ob+k * 3,none⟩) hbb] at c0
     rw [←hBB.cell (p:=⟨bb,ob+k * 3+1,none⟩) hbb] at c1
     rw [←hBB.cell (p:=⟨bb,ob+k * 3+2,none⟩) hbb] at c2
     have HTK:=Hd (kP hkl)
     have hbd1:=HBD.out _ (List.getElem_mem hkl)
     have hg:cZ l (bs[k]?.getD Blk.zero)→∀b∈bs.take (k+1),cZ l b:=fun h b hb=>by
      rw [HTK.out,List.mem_append,List.mem_singleton] at hb
      rcases hb with hb|rfl
      ·exact HALL.out b hb
      ·exact h
     have hno:¬cZ l (bs[k]?.getD Blk.zero)→¬eY l bs:=fun h h'=>h (by rw [List.getElem?_eq_getElem hkl];exact h'.fit _ (List.getElem_mem hkl))
     have HG:=Hd hg
     have HNO:=Hd hno
     have HSL3:Hid ((dH (bs.take k)).length<=192):=by
      show _<=_
      have h1:=rJ HALL.out
      rw [List.length_take] at h1
      have h2:min k bs.length * 3<=64 * 3:=Nat.mul_le_mul_right 3 (by omega)
      omega
     have HLL3:Hid ((dX (bs.take k)).length<=128):=by
      show _<=_
      have h1:=rM HALL.out
      rw [List.length_take] at h1
      have h2:min k bs.length * 2<=64 * 2:=Nat.mul_le_mul_right 2 (by omega)
      omega
     rw [show bs[k]=bs[k]?.getD Blk.zero by rw [List.getElem?_eq_getElem hkl];rfl] at hbd1
     clear hkl hg hno
     generalize bs[k]?.getD Blk.zero=b at *
     obtain ⟨kd,it,es⟩:=b
     simp only at c0 c1 hbd1
     have HE:=Hd (show RdC w w.heap.size (dF es) (.slice EA en ec) from r2)
     have HEL:Hid (es.length=en):=HE.out.esN
     have hen:en<=1048576:=by rw [←HEL.out];exact hbd1
     clear r2 hbd1
     subst hBA
     have i0:(0:Int)<=(k:Int):=by omega
     have i1:(k:Int)<(bn:Int):=by omega
     obtain ⟨wo,rfl⟩:∃x,x=wr:=⟨wr,rfl⟩
     have HA:=Hd (HS.out.pushBlk #[.int .i64 kd,.int .i64 it,.slice EA en ec] 89)
     have hx:=aD HA.out.bel HX9.out
     have x0:=aA (k:=0) hx rfl
     have x1:=aA (k:=1) hx rfl
     have x2:=aA (k:=2) hx rfl
     have x3:=aA (k:=3) hx rfl
     have lx:=aC hx
     have y0:=aA (k:=0) (HA.out.blk 4 rfl).1 rfl
     have y1:=aA (k:=1) (HA.out.blk 4 rfl).1 rfl
     have y2:=aA (k:=2) (HA.out.blk 4 rfl).1 rfl
     have ly:=aC (HA.out.blk 4 rfl).1
     clear hx hBB
     go_wp2_with fail
     refine (tF l SA LA OA sn sc ln lc on oc kd it es EA en ec _ (HN.out.below (aB HBW.out HA.out.bel)) HF.out (HE.out.below (aB HBW.out HA.out.bel)) hen).mono ?_
     by_cases hfit:cZ l ⟨kd,it,es⟩
     ·rw [aa hfit]
      have HG2:=Hd (HG.out hfit)
      have HEF:=Hd (qL hfit)
      have HLE:Hid (en<=2):=by show _<=_;rw [←HEL.out];exact lV hfit
      rintro _ w4 ⟨rfl,b4⟩
      have HS4:=Hd (HA.out.below b4)
      clear x0 x1 x2 x3 lx y0 y1 y2 ly c0 c1 c2 HG HNO
      rcases gm hfit.1 with hk0|hk1|hk2|hk3
      ·subst hk0
       have hit:=lT.1 hfit.1
       obtain ⟨X,rfl⟩:∃X:Nat,it=(X:Int):=⟨it.toNat,by omega⟩
       have hX:X<I:=by have:=HII.out;omega
       have hT1:=dC 0 (bs.take k) ⟨0,(X:Int),es⟩
       have hT2:=dC 1 (bs.take k) ⟨0,(X:Int),es⟩
       have hT3:=iI (bs.take k) ⟨0,(X:Int),es⟩
       have hT4:=iH (bs.take k) ⟨0,(X:Int),es⟩
       rw [←HTK.out] at hT1 hT2 hT3 hT4
       simp only [if_true,if_false,List.append_nil,Int.reduceEq] at hT1 hT2 hT3 hT4
       have hil0:=dW 0 (bs.take k)
       have hil1:=dW 1 (bs.take k)
       rw [List.length_take] at hil0 hil1
       obtain ⟨cX,fX,lX,hN1⟩:=dU HS4.out 0 rfl hX
       have hcX:=d9 (ak 0 (bs.take k)) (X:Int)
       have HSS:Hid (aM W9 (w4.setCell ⟨g1,X,none⟩ (.int .i64 (((cnt (ak 0 (bs.take k)) (X:Int):Nat):Int)+1))) [.cel (aJ (aG I (ak 0 (bs.take k)++[(X:Int)]))) (.slice (some ⟨g1,0,none⟩) I I),.cel (aJ (aG on (ak 1 (bs.take k)))) (.slice (some ⟨g2,0,none⟩) on on),.cel (aJ (aG sn (dH (bs.take k)))) (.slice (some ⟨g3,0,none⟩) sn sn),.cel (aJ (aG ln (dX (bs.take k)))) (.slice (some ⟨g4,0,none⟩) ln ln),.blk wo.heap.size #[.int .i64 0,.int .i64 (X:Int),.slice EA en ec] 89]):=hN1
       clear hN1
       have HSB:Hid ((dH (bs.take k)).length<=1000):=by show _<=_;have:=HSL3.out;(try rw [List.length_append,List.length_singleton]);omega
       have HLB:Hid ((dX (bs.take k)).length<=1000):=by show _<=_;have:=HLL3.out;omega
       obtain ⟨XB,hXB⟩:∃XB,ak 0 (bs.take k)++[(X:Int)]=XB:=⟨_,rfl⟩
       obtain ⟨YB,hYB⟩:∃YB,ak 1 (bs.take k)=YB:=⟨_,rfl⟩
       obtain ⟨SB,hSB⟩:∃SB,dH (bs.take k)=SB:=⟨_,rfl⟩
       obtain ⟨LB,hLB⟩:∃LB,dX (bs.take k)=LB:=⟨_,rfl⟩
       rw [hXB,hYB,hSB,hLB] at HSS
       rw [hXB] at hT1
       rw [hYB] at hT2
       rw [hSB] at hT3 HSB
       rw [hLB] at hT4 HLB
       have HT1:=Hd hT1
       have HT2:=Hd hT2
       have HT3:=Hd hT3
       have HT4:=Hd hT4
       clear hT1 hT2 hT3 hT4 hXB hYB hSB hLB
       generalize cnt (ak 0 (bs.take k)) (X:Int)=q at *
       have iq:q<=10000:=by have:=HSL3.out;omega
       have iX:(X:Int)<(I:Int):=by omega
       clear hcX
       have y0:=aA (k:=0) (HS4.out.blk 4 rfl).1 rfl
       have y1:=aA (k:=1) (HS4.out.blk 4 rfl).1 rfl
       have ly:=aC (HS4.out.blk 4 rfl).1
       clear b4 hil0 hil1 hfit
       go_upto_region 20 with fail
       clear y0 y1 ly
       clear cX fX lX
       go_wp2_with fail
       go_loopw [11] (fun i wr=>∃j:Nat,j<=en/\i = .int .i64 (j:Int)/\aM W9 wr [.cel (aJ (aG I (XB))) (.slice (some ⟨g1,0,none⟩) I I),.cel (aJ (aG on (YB))) (.slice (some ⟨g2,0,none⟩) on on),.cel (aJ (aG sn (SB++bN (es.take j)))) (.slice (some ⟨g3,0,none⟩) sn sn),.cel (aJ (aG ln (LB++ag (es.take j)))) (.slice (some ⟨g4,0,none⟩) ln ln),.blk wo.heap.size #[.int .i64 0,.int .i64 (X:Int),.slice EA en ec] 89]) (fun i _=>en - (intOf i).toNat)
       case atStart=>exact ⟨0,by omega,rfl,by rw [List.take_zero];simpa [bN,ag] using HSS.out⟩
       case round =>
        obtain ⟨j,hj,rfl,hs⟩:=hrel
        have HSJ:=Hd hs
        clear hs
        have y2:=aA (k:=2) (HSJ.out.blk 4 rfl).1 rfl
        have ly:=aC (HSJ.out.blk 4 rfl).1
        by_cases hltj:j<en
        ·have hdj:decide ((j:Int)<(en:Int))=true:=by simp;omega
         have hjl:j<es.length:=by rw [HEL.out];exact hltj
         obtain ⟨be,oe,hEA,hbe,c0,c1⟩:=HE.out.es (k:=j) hjl
         have HEA:=Hd hEA
         have hel:=HEF.out _ (List.getElem_mem hjl)
         have hff:=jJ (es.take j) (es[j]?.getD LeT.zero)
         have hlu:=iG (es.take j) (es[j]?.getD LeT.zero)
         rw [←bJ hjl] at hff hlu
         have hfl:=jY (es.take j)
         have hul:=iU (es.take j)
         rw [List.length_take] at hfl hul
         rw [show es[j]=es[j]?.getD LeT.zero by rw [List.getElem?_eq_getElem hjl];rfl] at hel
         have he1:=hel.lut.2
         have he2:=hel.ff.2
         rw [HLL.out] at he1
         rw [HSL.out] at he2
         have hle2:=HLE.out
         have hsb:=HSB.out
         have hlb:=HLB.out
         clear hel hjl hEA
         generalize es[j]?.getD LeT.zero=e at *
         obtain ⟨a,b⟩:=e
         simp only at he1 he2 hff hlu c0 c1
         have i0:(0:Int)<=(j:Int):=by omega
         have i1:(j:Int)<(en:Int):=by omega
         have hcs:=d9 (SB++bN (es.take j)) b
         have hcl:=d9 (LB++ag (es.take j)) a
         rw [List.length_append] at hcs hcl
         have HC0:=Hd c0
         have HC1:=Hd c1
         have hBB:=aB HBW.out HSJ.out.bel
         have lbe:=aL hBB hbe
         rw [←hBB.cell (p:=⟨be,oe+j * 2,none⟩) hbe] at c0
         rw [←hBB.cell (p:=⟨be,oe+j * 2+1,none⟩) hbe] at c1
         clear hBB
         obtain rfl:=HEA.out
         by_cases ha:0<=a
         ·have da:decide (a≥0)=true:=decide_eq_true ha
          rw [if_pos ha] at hlu
          obtain ⟨V,rfl⟩:=Int.eq_ofNat_of_zero_le ha
          have hXl:V<ln:=by omega
          obtain ⟨cX,fX,lX,hN1⟩:=dU HSJ.out 3 rfl hXl
          have HN1:Hid (aM W9 (wr.setCell ⟨g4,V,none⟩ (.int .i64 (((cnt (LB++ag (es.take j)) (V:Int):Nat):Int)+1))) [.cel (aJ (aG I (XB))) (.slice (some ⟨g1,0,none⟩) I I),.cel (aJ (aG on (YB))) (.slice (some ⟨g2,0,none⟩) on on),.cel (aJ (aG sn (SB++bN (es.take j)))) (.slice (some ⟨g3,0,none⟩) sn sn),.cel (aJ (aG ln (LB++ag (es.take (j+1))))) (.slice (some ⟨g4,0,none⟩) ln ln),.blk wo.heap.size #[.int .i64 0,.int .i64 (X:Int),.slice (some ⟨be,oe,none⟩) en ec] 89]):=by
           show aM W9 _ _
           rw [hlu,←List.append_assoc]
           exact hN1
          clear hN1 hlu
          generalize cnt (LB++ag (es.take j)) (V:Int)=q1' at *
          have iX:(V:Int)<(ln:Int):=by omega
          have iq1:q1'<=10000:=by omega
          go_upto_region 25 with fail
          clear c0 c1 y2 ly lbe cX fX lX
          generalize wr.setCell ⟨g4,V,none⟩ (.int .i64 ((q1':Int)+1))=W1 at *
          have hBB:=aB HBW.out HN1.out.bel
          have lbe:=aL hBB hbe
          have c0:=(hBB.cell (p:=⟨be,oe+j * 2,none⟩) hbe).trans HC0.out
          have c1:=(hBB.cell (p:=⟨be,oe+j * 2+1,none⟩) hbe).trans HC1.out
          have y2:=aA (k:=2) (HN1.out.blk 4 rfl).1 rfl
          have ly:=aC (HN1.out.blk 4 rfl).1
          clear hBB
          by_cases hb:0<=b
          ·have db:decide (b≥0)=true:=decide_eq_true hb
           rw [if_pos hb] at hff
           obtain ⟨Y,rfl⟩:=Int.eq_ofNat_of_zero_le hb
           have hYl:Y<sn:=by omega
           obtain ⟨cY,fY,lY,hN2⟩:=dU HN1.out 2 rfl hYl
           have HN2:Hid (aM W9 (W1.setCell ⟨g3,Y,none⟩ (.int .i64 (((cnt (SB++bN (es.take j)) (Y:Int):Nat):Int)+1))) [.cel (aJ (aG I (XB))) (.slice (some ⟨g1,0,none⟩) I I),.cel (aJ (aG on (YB))) (.slice (some ⟨g2,0,none⟩) on on),.cel (aJ (aG sn (SB++bN (es.take (j+1))))) (.slice (some ⟨g3,0,none⟩) sn sn),.cel (aJ (aG ln (LB++ag (es.take (j+1))))) (.slice (some ⟨g4,0,none⟩) ln ln),.blk wo.heap.size #[.int .i64 0,.int .i64 (X:Int),.slice (some ⟨be,oe,none⟩) en ec] 89]):=by
            show aM W9 _ _
            rw [hff,←List.append_assoc]
            exact hN2
           clear hN2 hff
           generalize cnt (SB++bN (es.take j)) (Y:Int)=q2' at *
           have iY:(Y:Int)<(sn:Int):=by omega
           have iq2:q2'<=10000:=by omega
           clear hcs hcl hfl hul hle2 hsb hlb he1 he2
           go_wp2_with fail
           go_roundw
           case rel=>exact ⟨j+1,by omega,by go_num,HN2.out⟩
           case measure=>simp [intOf];omega
          ·have db:decide (b≥0)=false:=decide_eq_false hb
           rw [if_neg hb,List.append_nil] at hff
           have HN2:Hid (aM W9 W1 [.cel (aJ (aG I (XB))) (.slice (some ⟨g1,0,none⟩) I I),.cel (aJ (aG on (YB))) (.slice (some ⟨g2,0,none⟩) on on),.cel (aJ (aG sn (SB++bN (es.take (j+1))))) (.slice (some ⟨g3,0,none⟩) sn sn),.cel (aJ (aG ln (LB++ag (es.take (j+1))))) (.slice (some ⟨g4,0,none⟩) ln ln),.blk wo.heap.size #[.int .i64 0,.int .i64 (X:Int),.slice (some ⟨be,oe,none⟩) en ec] 89]):=by
            show aM W9 _ _
            rw [hff]
            exact HN1.out
           clear hff hcs hcl hfl hul hle2 hsb hlb he1 he2
           go_wp2_with fail
           go_roundw
           case rel=>exact ⟨j+1,by omega,by go_num,HN2.out⟩
           case measure=>simp [intOf];omega
         ·have da:decide (a≥0)=false:=decide_eq_false ha
          rw [if_neg ha,List.append_nil] at hlu
          have HN1:Hid (aM W9 wr [.cel (aJ (aG I (XB))) (.slice (some ⟨g1,0,none⟩) I I),.cel (aJ (aG on (YB))) (.slice (some ⟨g2,0,none⟩) on on),.cel (aJ (aG sn (SB++bN (es.take j)))) (.slice (some ⟨g3,0,none⟩) sn sn),.cel (aJ (aG ln (LB++ag (es.take (j+1))))) (.slice (some ⟨g4,0,none⟩) ln ln),.blk wo.heap.size #[.int .i64 0,.int .i64 (X:Int),.slice (some ⟨be,oe,none⟩) en ec] 89]):=by
           show aM W9 _ _
           rw [hlu]
           exact HSJ.out
          clear hlu
          go_upto_region 25 with fail
          clear c0 c1 y2 ly lbe
          have hBB:=aB HBW.out HN1.out.bel
          have lbe:=aL hBB hbe
          have c0:=(hBB.cell (p:=⟨be,oe+j * 2,none⟩) hbe).trans HC0.out
          have c1:=(hBB.cell (p:=⟨be,oe+j * 2+1,none⟩) hbe).trans HC1.out
          have y2:=aA (k:=2) (HN1.out.blk 4 rfl).1 rfl
          have ly:=aC (HN1.out.blk 4 rfl).1
          clear hBB
          by_cases hb:0<=b
          ·have db:decide (b≥0)=true:=decide_eq_true hb
           rw [if_pos hb] at hff
           obtain ⟨Y,rfl⟩:=Int.eq_ofNat_of_zero_le hb
           have hYl:Y<sn:=by omega
           obtain ⟨cY,fY,lY,hN2⟩:=dU HN1.out 2 rfl hYl
           have HN2:Hid (aM W9 (wr.setCell ⟨g3,Y,none⟩ (.int .i64 (((cnt (SB++bN (es.take j)) (Y:Int):Nat):Int)+1))) [.cel (aJ (aG I (XB))) (.slice (some ⟨g1,0,none⟩) I I),.cel (aJ (aG on (YB))) (.slice (some ⟨g2,0,none⟩) on on),.cel (aJ (aG sn (SB++bN (es.take (j+1))))) (.slice (some ⟨g3,0,none⟩) sn sn),.cel (aJ (aG ln (LB++ag (es.take (j+1))))) (.slice (some ⟨g4,0,none⟩) ln ln),.blk wo.heap.size #[.int .i64 0,.int .i64 (X:Int),.slice (some ⟨be,oe,none⟩) en ec] 89]):=by
            show aM W9 _ _
            rw [hff,←List.append_assoc]
            exact hN2
           clear hN2 hff
           generalize cnt (SB++bN (es.take j)) (Y:Int)=q2' at *
           have iY:(Y:Int)<(sn:Int):=by omega
           have iq2:q2'<=10000:=by omega
           clear hcs hcl hfl hul hle2 hsb hlb he1 he2
           go_wp2_with fail
           go_roundw
           case rel=>exact ⟨j+1,by omega,by go_num,HN2.out⟩
           case measure=>simp [intOf];omega
          ·have db:decide (b≥0)=false:=decide_eq_false hb
           rw [if_neg hb,List.append_nil] at hff
           have HN2:Hid (aM W9 wr [.cel (aJ (aG I (XB))) (.slice (some ⟨g1,0,none⟩) I I),.cel (aJ (aG on (YB))) (.slice (some ⟨g2,0,none⟩) on on),.cel (aJ (aG sn (SB++bN (es.take (j+1))))) (.slice (some ⟨g3,0,none⟩) sn sn),.cel (aJ (aG ln (LB++ag (es.take (j+1))))) (.slice (some ⟨g4,0,none⟩) ln ln),.blk wo.heap.size #[.int .i64 0,.int .i64 (X:Int),.slice (some ⟨be,oe,none⟩) en ec] 89]):=by
            show aM W9 _ _
            rw [hff]
            exact HN1.out
           clear hff hcs hcl hfl hul hle2 hsb hlb he1 he2
           go_wp2_with fail
           go_roundw
           case rel=>exact ⟨j+1,by omega,by go_num,HN2.out⟩
           case measure=>simp [intOf];omega
        ·have hjn:j=en:=by omega
         have hdj:decide ((j:Int)<(en:Int))=false:=by simp;omega
         have HD:Hid (aM W9 wr [.cel (aJ (aG I (XB))) (.slice (some ⟨g1,0,none⟩) I I),.cel (aJ (aG on (YB))) (.slice (some ⟨g2,0,none⟩) on on),.cel (aJ (aG sn (SB++bN es))) (.slice (some ⟨g3,0,none⟩) sn sn),.cel (aJ (aG ln (LB++ag es))) (.slice (some ⟨g4,0,none⟩) ln ln),.blk wo.heap.size #[.int .i64 0,.int .i64 (X:Int),.slice EA en ec] 89]):=by
          have h:=HSJ.out
          show aM W9 _ _
          rwa [hjn,List.take_of_length_le (by rw [HEL.out];exact Nat.le_refl _)] at h
         clear HSJ hjn
         go_wp2_with fail
         go_roundw
         case rel=>exact ⟨k+1,by omega,by go_num,by rw [HT1.out,HT2.out,HT3.out,HT4.out];exact HD.out.sub (List.sublist_append_left _ [_]),HG2.out⟩
         case measure=>simp [intOf];omega
      ·subst hk1
       have hit:=lU.1 hfit.1
       rw [HOL.out] at hit
       obtain ⟨X,rfl⟩:∃X:Nat,it=(X:Int):=⟨it.toNat,by omega⟩
       have hX:X<on:=by have:=HII.out;omega
       have hT1:=dC 0 (bs.take k) ⟨1,(X:Int),es⟩
       have hT2:=dC 1 (bs.take k) ⟨1,(X:Int),es⟩
       have hT3:=iI (bs.take k) ⟨1,(X:Int),es⟩
       have hT4:=iH (bs.take k) ⟨1,(X:Int),es⟩
       rw [←HTK.out] at hT1 hT2 hT3 hT4
       simp only [Int.reduceEq,reduceIte,List.append_nil] at hT1 hT2 hT3 hT4
       have hil0:=dW 0 (bs.take k)
       have hil1:=dW 1 (bs.take k)
       rw [List.length_take] at hil0 hil1
       obtain ⟨cX,fX,lX,hN1⟩:=dU HS4.out 1 rfl hX
       have hcX:=d9 (ak 1 (bs.take k)) (X:Int)
       have HSS:Hid (aM W9 (w4.setCell ⟨g2,X,none⟩ (.int .i64 (((cnt (ak 1 (bs.take k)) (X:Int):Nat):Int)+1))) [.cel (aJ (aG I (ak 0 (bs.take k)))) (.slice (some ⟨g1,0,none⟩) I I),.cel (aJ (aG on (ak 1 (bs.take k)++[(X:Int)]))) (.slice (some ⟨g2,0,none⟩) on on),.cel (aJ (aG sn (dH (bs.take k)))) (.slice (some ⟨g3,0,none⟩) sn sn),.cel (aJ (aG ln (dX (bs.take k)))) (.slice (some ⟨g4,0,none⟩) ln ln),.blk wo.heap.size #[.int .i64 1,.int .i64 (X:Int),.slice EA en ec] 89]):=hN1
       clear hN1
       have HSB:Hid ((dH (bs.take k)).length<=1000):=by show _<=_;have:=HSL3.out;(try rw [List.length_append,List.length_singleton]);omega
       have HLB:Hid ((dX (bs.take k)).length<=1000):=by show _<=_;have:=HLL3.out;omega
       obtain ⟨XB,hXB⟩:∃XB,ak 0 (bs.take k)=XB:=⟨_,rfl⟩
       obtain ⟨YB,hYB⟩:∃YB,ak 1 (bs.take k)++[(X:Int)]=YB:=⟨_,rfl⟩
       obtain ⟨SB,hSB⟩:∃SB,dH (bs.take k)=SB:=⟨_,rfl⟩
       obtain ⟨LB,hLB⟩:∃LB,dX (bs.take k)=LB:=⟨_,rfl⟩
       rw [hXB,hYB,hSB,hLB] at HSS
       rw [hXB] at hT1
       rw [hYB] at hT2
       rw [hSB] at hT3 HSB
       rw [hLB] at hT4 HLB
       have HT1:=Hd hT1
       have HT2:=Hd hT2
       have HT3:=Hd hT3
       have HT4:=Hd hT4
       clear hT1 hT2 hT3 hT4 hXB hYB hSB hLB
       generalize cnt (ak 1 (bs.take k)) (X:Int)=q at *
       have iq:q<=10000:=by have:=HSL3.out;omega
       have iX:(X:Int)<(on:Int):=by omega
       clear hcX
       have y0:=aA (k:=0) (HS4.out.blk 4 rfl).1 rfl
       have y1:=aA (k:=1) (HS4.out.blk 4 rfl).1 rfl
       have ly:=aC (HS4.out.blk 4 rfl).1
       clear b4 hil0 hil1 hfit
       go_upto_region 20 with fail
       clear y0 y1 ly
       clear cX fX lX
       go_wp2_with fail
       go_loopw [11] (fun i wr=>∃j:Nat,j<=en/\i = .int .i64 (j:Int)/\aM W9 wr [.cel (aJ (aG I (XB))) (.slice (some ⟨g1,0,none⟩) I I),.cel (aJ (aG on (YB))) (.slice (some ⟨g2,0,none⟩) on on),.cel (aJ (aG sn (SB++bN (es.take j)))) (.slice (some ⟨g3,0,none⟩) sn sn),.cel (aJ (aG ln (LB++ag (es.take j)))) (.slice (some ⟨g4,0,none⟩) ln ln),.blk wo.heap.size #[.int .i64 1,.int .i64 (X:Int),.slice EA en ec] 89]) (fun i _=>en - (intOf i).toNat)
       case atStart=>exact ⟨0,by omega,rfl,by rw [List.take_zero];simpa [bN,ag] using HSS.out⟩
       case round =>
        obtain ⟨j,hj,rfl,hs⟩:=hrel
        have HSJ:=Hd hs
        clear hs
        have y2:=aA (k:=2) (HSJ.out.blk 4 rfl).1 rfl
        have ly:=aC (HSJ.out.blk 4 rfl).1
        by_cases hltj:j<en
        ·have hdj:decide ((j:Int)<(en:Int))=true:=by simp;omega
         have hjl:j<es.length:=by rw [HEL.out];exact hltj
         obtain ⟨be,oe,hEA,hbe,c0,c1⟩:=HE.out.es (k:=j) hjl
         have HEA:=Hd hEA
         have hel:=HEF.out _ (List.getElem_mem hjl)
         have hff:=jJ (es.take j) (es[j]?.getD LeT.zero)
         have hlu:=iG (es.take j) (es[j]?.getD LeT.zero)
         rw [←bJ hjl] at hff hlu
         have hfl:=jY (es.take j)
         have hul:=iU (es.take j)
         rw [List.length_take] at hfl hul
         rw [show es[j]=es[j]?.getD LeT.zero by rw [List.getElem?_eq_getElem hjl];rfl] at hel
         have he1:=hel.lut.2
         have he2:=hel.ff.2
         rw [HLL.out] at he1
         rw [HSL.out] at he2
         have hle2:=HLE.out
         have hsb:=HSB.out
         have hlb:=HLB.out
         clear hel hjl hEA
         generalize es[j]?.getD LeT.zero=e at *
         obtain ⟨a,b⟩:=e
         simp only at he1 he2 hff hlu c0 c1
         have i0:(0:Int)<=(j:Int):=by omega
         have i1:(j:Int)<(en:Int):=by omega
         have hcs:=d9 (SB++bN (es.take j)) b
         have hcl:=d9 (LB++ag (es.take j)) a
         rw [List.length_append] at hcs hcl
         have HC0:=Hd c0
         have HC1:=Hd c1
         have hBB:=aB HBW.out HSJ.out.bel
         have lbe:=aL hBB hbe
         rw [←hBB.cell (p:=⟨be,oe+j * 2,none⟩) hbe] at c0
         rw [←hBB.cell (p:=⟨be,oe+j * 2+1,none⟩) hbe] at c1
         clear hBB
         obtain rfl:=HEA.out
         by_cases ha:0<=a
         ·have da:decide (a≥0)=true:=decide_eq_true ha
          rw [if_pos ha] at hlu
          obtain ⟨V,rfl⟩:=Int.eq_ofNat_of_zero_le ha
          have hXl:V<ln:=by omega
          obtain ⟨cX,fX,lX,hN1⟩:=dU HSJ.out 3 rfl hXl
          have HN1:Hid (aM W9 (wr.setCell ⟨g4,V,none⟩ (.int .i64 (((cnt (LB++ag (es.take j)) (V:Int):Nat):Int)+1))) [.cel (aJ (aG I (XB))) (.slice (some ⟨g1,0,none⟩) I I),.cel (aJ (aG on (YB))) (.slice (some ⟨g2,0,none⟩) on on),.cel (aJ (aG sn (SB++bN (es.take j)))) (.slice (some ⟨g3,0,none⟩) sn sn),.cel (aJ (aG ln (LB++ag (es.take (j+1))))) (.slice (some ⟨g4,0,none⟩) ln ln),.blk wo.heap.size #[.int .i64 1,.int .i64 (X:Int),.slice (some ⟨be,oe,none⟩) en ec] 89]):=by
           show aM W9 _ _
           rw [hlu,←List.append_assoc]
           exact hN1
          clear hN1 hlu
          generalize cnt (LB++ag (es.take j)) (V:Int)=q1' at *
          have iX:(V:Int)<(ln:Int):=by omega
          have iq1:q1'<=10000:=by omega
          go_upto_region 25 with fail
          clear c0 c1 y2 ly lbe cX fX lX
          generalize wr.setCell ⟨g4,V,none⟩ (.int .i64 ((q1':Int)+1))=W1 at *
          have hBB:=aB HBW.out HN1.out.bel
          have lbe:=aL hBB hbe
          have c0:=(hBB.cell (p:=⟨be,oe+j * 2,none⟩) hbe).trans HC0.out
          have c1:=(hBB.cell (p:=⟨be,oe+j * 2+1,none⟩) hbe).trans HC1.out
          have y2:=aA (k:=2) (HN1.out.blk 4 rfl).1 rfl
          have ly:=aC (HN1.out.blk 4 rfl).1
          clear hBB
          by_cases hb:0<=b
          ·have db:decide (b≥0)=true:=decide_eq_true hb
           rw [if_pos hb] at hff
           obtain ⟨Y,rfl⟩:=Int.eq_ofNat_of_zero_le hb
           have hYl:Y<sn:=by omega
           obtain ⟨cY,fY,lY,hN2⟩:=dU HN1.out 2 rfl hYl
           have HN2:Hid (aM W9 (W1.setCell ⟨g3,Y,none⟩ (.int .i64 (((cnt (SB++bN (es.take j)) (Y:Int):Nat):Int)+1))) [.cel (aJ (aG I (XB))) (.slice (some ⟨g1,0,none⟩) I I),.cel (aJ (aG on (YB))) (.slice (some ⟨g2,0,none⟩) on on),.cel (aJ (aG sn (SB++bN (es.take (j+1))))) (.slice (some ⟨g3,0,none⟩) sn sn),.cel (aJ (aG ln (LB++ag (es.take (j+1))))) (.slice (some ⟨g4,0,none⟩) ln ln),.blk wo.heap.size #[.int .i64 1,.int .i64 (X:Int),.slice (some ⟨be,oe,none⟩) en ec] 89]):=by
            show aM W9 _ _
            rw [hff,←List.append_assoc]
            exact hN2
           clear hN2 hff
           generalize cnt (SB++bN (es.take j)) (Y:Int)=q2' at *
           have iY:(Y:Int)<(sn:Int):=by omega
           have iq2:q2'<=10000:=by omega
           clear hcs hcl hfl hul hle2 hsb hlb he1 he2
           go_wp2_with fail
           go_roundw
           case rel=>exact ⟨j+1,by omega,by go_num,HN2.out⟩
           case measure=>simp [intOf];omega
          ·have db:decide (b≥0)=false:=decide_eq_false hb
           rw [if_neg hb,List.append_nil] at hff
           have HN2:Hid (aM W9 W1 [.cel (aJ (aG I (XB))) (.slice (some ⟨g1,0,none⟩) I I),.cel (aJ (aG on (YB))) (.slice (some ⟨g2,0,none⟩) on on),.cel (aJ (aG sn (SB++bN (es.take (j+1))))) (.slice (some ⟨g3,0,none⟩) sn sn),.cel (aJ (aG ln (LB++ag (es.take (j+1))))) (.slice (some ⟨g4,0,none⟩) ln ln),.blk wo.heap.size #[.int .i64 1,.int .i64 (X:Int),.slice (some ⟨be,oe,none⟩) en ec] 89]):=by
            show aM W9 _ _
            rw [hff]
            exact HN1.out
           clear hff hcs hcl hfl hul hle2 hsb hlb he1 he2
           go_wp2_with fail
           go_roundw
           case rel=>exact ⟨j+1,by omega,by go_num,HN2.out⟩
           case measure=>simp [intOf];omega
         ·have da:decide (a≥0)=false:=decide_eq_false ha
          rw [if_neg ha,List.append_nil] at hlu
          have HN1:Hid (aM W9 wr [.cel (aJ (aG I (XB))) (.slice (some ⟨g1,0,none⟩) I I),.cel (aJ (aG on (YB))) (.slice (some ⟨g2,0,none⟩) on on),.cel (aJ (aG sn (SB++bN (es.take j)))) (.slice (some ⟨g3,0,none⟩) sn sn),.cel (aJ (aG ln (LB++ag (es.take (j+1))))) (.slice (some ⟨g4,0,none⟩) ln ln),.blk wo.heap.size #[.int .i64 1,.int .i64 (X:Int),.slice (some ⟨be,oe,none⟩) en ec] 89]):=by
           show aM W9 _ _
           rw [hlu]
           exact HSJ.out
          clear hlu
          go_upto_region 25 with fail
          clear c0 c1 y2 ly lbe
          have hBB:=aB HBW.out HN1.out.bel
          have lbe:=aL hBB hbe
          have c0:=(hBB.cell (p:=⟨be,oe+j * 2,none⟩) hbe).trans HC0.out
          have c1:=(hBB.cell (p:=⟨be,oe+j * 2+1,none⟩) hbe).trans HC1.out
          have y2:=aA (k:=2) (HN1.out.blk 4 rfl).1 rfl
          have ly:=aC (HN1.out.blk 4 rfl).1
          clear hBB
          by_cases hb:0<=b
          ·have db:decide (b≥0)=true:=decide_eq_true hb
           rw [if_pos hb] at hff
           obtain ⟨Y,rfl⟩:=Int.eq_ofNat_of_zero_le hb
           have hYl:Y<sn:=by omega
           obtain ⟨cY,fY,lY,hN2⟩:=dU HN1.out 2 rfl hYl
           have HN2:Hid (aM W9 (wr.setCell ⟨g3,Y,none⟩ (.int .i64 (((cnt (SB++bN (es.take j)) (Y:Int):Nat):Int)+1))) [.cel (aJ (aG I (XB))) (.slice (some ⟨g1,0,none⟩) I I),.cel (aJ (aG on (YB))) (.slice (some ⟨g2,0,none⟩) on on),.cel (aJ (aG sn (SB++bN (es.take (j+1))))) (.slice (some ⟨g3,0,none⟩) sn sn),.cel (aJ (aG ln (LB++ag (es.take (j+1))))) (.slice (some ⟨g4,0,none⟩) ln ln),.blk wo.heap.size #[.int .i64 1,.int .i64 (X:Int),.slice (some ⟨be,oe,none⟩) en ec] 89]):=by
            show aM W9 _ _
            rw [hff,←List.append_assoc]
            exact hN2
           clear hN2 hff
           generalize cnt (SB++bN (es.take j)) (Y:Int)=q2' at *
           have iY:(Y:Int)<(sn:Int):=by omega
           have iq2:q2'<=10000:=by omega
           clear hcs hcl hfl hul hle2 hsb hlb he1 he2
           go_wp2_with fail
           go_roundw
           case rel=>exact ⟨j+1,by omega,by go_num,HN2.out⟩
           case measure=>simp [intOf];omega
          ·have db:decide (b≥0)=false:=decide_eq_false hb
           rw [if_neg hb,List.append_nil] at hff
           have HN2:Hid (aM W9 wr [.cel (aJ (aG I (XB))) (.slice (some ⟨g1,0,none⟩) I I),.cel (aJ (aG on (YB))) (.slice (some ⟨g2,0,none⟩) on on),.cel (aJ (aG sn (SB++bN (es.take (j+1))))) (.slice (some ⟨g3,0,none⟩) sn sn),.cel (aJ (aG ln (LB++ag (es.take (j+1))))) (.slice (some ⟨g4,0,none⟩) ln ln),.blk wo.heap.size #[.int .i64 1,.int .i64 (X:Int),.slice (some ⟨be,oe,none⟩) en ec] 89]):=by
            show aM W9 _ _
            rw [hff]
            exact HN1.out
           clear hff hcs hcl hfl hul hle2 hsb hlb he1 he2
           go_wp2_with fail
           go_roundw
           case rel=>exact ⟨j+1,by omega,by go_num,HN2.out⟩
           case measure=>simp [intOf];omega
        ·have hjn:j=en:=by omega
         have hdj:decide ((j:Int)<(en:Int))=false:=by simp;omega
         have HD:Hid (aM W9 wr [.cel (aJ (aG I (XB))) (.slice (some ⟨g1,0,none⟩) I I),.cel (aJ (aG on (YB))) (.slice (some ⟨g2,0,none⟩) on on),.cel (aJ (aG sn (SB++bN es))) (.slice (some ⟨g3,0,none⟩) sn sn),.cel (aJ (aG ln (LB++ag es))) (.slice (some ⟨g4,0,none⟩) ln ln),.blk wo.heap.size #[.int .i64 1,.int .i64 (X:Int),.slice EA en ec] 89]):=by
          have h:=HSJ.out
          show aM W9 _ _
          rwa [hjn,List.take_of_length_le (by rw [HEL.out];exact Nat.le_refl _)] at h
         clear HSJ hjn
         go_wp2_with fail
         go_roundw
         case rel=>exact ⟨k+1,by omega,by go_num,by rw [HT1.out,HT2.out,HT3.out,HT4.out];exact HD.out.sub (List.sublist_append_left _ [_]),HG2.out⟩
         case measure=>simp [intOf];omega
      ·subst hk2
       have hit:=jG.1 hfit.1
       rw [HSL.out] at hit
       obtain ⟨X,rfl⟩:∃X:Nat,it=(X:Int):=⟨it.toNat,by omega⟩
       have hX:X<sn:=by have:=HII.out;omega
       have hT1:=dC 0 (bs.take k) ⟨2,(X:Int),es⟩
       have hT2:=dC 1 (bs.take k) ⟨2,(X:Int),es⟩
       have hT3:=iI (bs.take k) ⟨2,(X:Int),es⟩
       have hT4:=iH (bs.take k) ⟨2,(X:Int),es⟩
       rw [←HTK.out] at hT1 hT2 hT3 hT4
       simp only [Int.reduceEq,reduceIte,List.append_nil] at hT1 hT2 hT3 hT4
       have hil0:=dW 0 (bs.take k)
       have hil1:=dW 1 (bs.take k)
       rw [List.length_take] at hil0 hil1
       obtain ⟨cX,fX,lX,hN1⟩:=dU HS4.out 2 rfl hX
       have hcX:=d9 (dH (bs.take k)) (X:Int)
       have HSS:Hid (aM W9 (w4.setCell ⟨g3,X,none⟩ (.int .i64 (((cnt (dH (bs.take k)) (X:Int):Nat):Int)+1))) [.cel (aJ (aG I (ak 0 (bs.take k)))) (.slice (some ⟨g1,0,none⟩) I I),.cel (aJ (aG on (ak 1 (bs.take k)))) (.slice (some ⟨g2,0,none⟩) on on),.cel (aJ (aG sn (dH (bs.take k)++[(X:Int)]))) (.slice (some ⟨g3,0,none⟩) sn sn),.cel (aJ (aG ln (dX (bs.take k)))) (.slice (some ⟨g4,0,none⟩) ln ln),.blk wo.heap.size #[.int .i64 2,.int .i64 (X:Int),.slice EA en ec] 89]):=hN1
       clear hN1
       have HSB:Hid ((dH (bs.take k)++[(X:Int)]).length<=1000):=by show _<=_;have:=HSL3.out;(try rw [List.length_append,List.length_singleton]);omega
       have HLB:Hid ((dX (bs.take k)).length<=1000):=by show _<=_;have:=HLL3.out;omega
       obtain ⟨XB,hXB⟩:∃XB,ak 0 (bs.take k)=XB:=⟨_,rfl⟩
       obtain ⟨YB,hYB⟩:∃YB,ak 1 (bs.take k)=YB:=⟨_,rfl⟩
       obtain ⟨SB,hSB⟩:∃SB,dH (bs.take k)++[(X:Int)]=SB:=⟨_,rfl⟩
       obtain ⟨LB,hLB⟩:∃LB,dX (bs.take k)=LB:=⟨_,rfl⟩
       rw [hXB,hYB,hSB,hLB] at HSS
       rw [hXB] at hT1
       rw [hYB] at hT2
       rw [hSB] at hT3 HSB
       rw [hLB] at hT4 HLB
       have HT1:=Hd hT1
       have HT2:=Hd hT2
       have HT3:=Hd hT3
       have HT4:=Hd hT4
       clear hT1 hT2 hT3 hT4 hXB hYB hSB hLB
       generalize cnt (dH (bs.take k)) (X:Int)=q at *
       have iq:q<=10000:=by have:=HSL3.out;omega
       have iX:(X:Int)<(sn:Int):=by omega
       clear hcX
       have y0:=aA (k:=0) (HS4.out.blk 4 rfl).1 rfl
       have y1:=aA (k:=1) (HS4.out.blk 4 rfl).1 rfl
       have ly:=aC (HS4.out.blk 4 rfl).1
       clear b4 hil0 hil1 hfit
       go_upto_region 20 with fail
       clear y0 y1 ly
       clear cX fX lX
       go_wp2_with fail
       go_loopw [11] (fun i wr=>∃j:Nat,j<=en/\i = .int .i64 (j:Int)/\aM W9 wr [.cel (aJ (aG I (XB))) (.slice (some ⟨g1,0,none⟩) I I),.cel (aJ (aG on (YB))) (.slice (some ⟨g2,0,none⟩) on on),.cel (aJ (aG sn (SB++bN (es.take j)))) (.slice (some ⟨g3,0,none⟩) sn sn),.cel (aJ (aG ln (LB++ag (es.take j)))) (.slice (some ⟨g4,0,none⟩) ln ln),.blk wo.heap.size #[.int .i64 2,.int .i64 (X:Int),.slice EA en ec] 89]) (fun i _=>en - (intOf i).toNat)
       case atStart=>exact ⟨0,by omega,rfl,by rw [List.take_zero];simpa [bN,ag] using HSS.out⟩
       case round =>
        obtain ⟨j,hj,rfl,hs⟩:=hrel
        have HSJ:=Hd hs
        clear hs
        have y2:=aA (k:=2) (HSJ.out.blk 4 rfl).1 rfl
        have ly:=aC (HSJ.out.blk 4 rfl).1
        by_cases hltj:j<en
        ·have hdj:decide ((j:Int)<(en:Int))=true:=by simp;omega
         have hjl:j<es.length:=by rw [HEL.out];exact hltj
         obtain ⟨be,oe,hEA,hbe,c0,c1⟩:=HE.out.es (k:=j) hjl
         have HEA:=Hd hEA
         have hel:=HEF.out _ (List.getElem_mem hjl)
         have hff:=jJ (es.take j) (es[j]?.getD LeT.zero)
         have hlu:=iG (es.take j) (es[j]?.getD LeT.zero)
         rw [←bJ hjl] at hff hlu
         have hfl:=jY (es.take j)
         have hul:=iU (es.take j)
         rw [List.length_take] at hfl hul
         rw [show es[j]=es[j]?.getD LeT.zero by rw [List.getElem?_eq_getElem hjl];rfl] at hel
         have he1:=hel.lut.2
         have he2:=hel.ff.2
         rw [HLL.out] at he1
         rw [HSL.out] at he2
         have hle2:=HLE.out
         have hsb:=HSB.out
         have hlb:=HLB.out
         clear hel hjl hEA
         generalize es[j]?.getD LeT.zero=e at *
         obtain ⟨a,b⟩:=e
         simp only at he1 he2 hff hlu c0 c1
         have i0:(0:Int)<=(j:Int):=by omega
         have i1:(j:Int)<(en:Int):=by omega
         have hcs:=d9 (SB++bN (es.take j)) b
         have hcl:=d9 (LB++ag (es.take j)) a
         rw [List.length_append] at hcs hcl
         have HC0:=Hd c0
         have HC1:=Hd c1
         have hBB:=aB HBW.out HSJ.out.bel
         have lbe:=aL hBB hbe
         rw [←hBB.cell (p:=⟨be,oe+j * 2,none⟩) hbe] at c0
         rw [←hBB.cell (p:=⟨be,oe+j * 2+1,none⟩) hbe] at c1
         clear hBB
         obtain rfl:=HEA.out
         by_cases ha:0<=a
         ·have da:decide (a≥0)=true:=decide_eq_true ha
          rw [if_pos ha] at hlu
          obtain ⟨V,rfl⟩:=Int.eq_ofNat_of_zero_le ha
          have hXl:V<ln:=by omega
          obtain ⟨cX,fX,lX,hN1⟩:=dU HSJ.out 3 rfl hXl
          have HN1:Hid (aM W9 (wr.setCell ⟨g4,V,none⟩ (.int .i64 (((cnt (LB++ag (es.take j)) (V:Int):Nat):Int)+1))) [.cel (aJ (aG I (XB))) (.slice (some ⟨g1,0,none⟩) I I),.cel (aJ (aG on (YB))) (.slice (some ⟨g2,0,none⟩) on on),.cel (aJ (aG sn (SB++bN (es.take j)))) (.slice (some ⟨g3,0,none⟩) sn sn),.cel (aJ (aG ln (LB++ag (es.take (j+1))))) (.slice (some ⟨g4,0,none⟩) ln ln),.blk wo.heap.size #[.int .i64 2,.int .i64 (X:Int),.slice (some ⟨be,oe,none⟩) en ec] 89]):=by
           show aM W9 _ _
           rw [hlu,←List.append_assoc]
           exact hN1
          clear hN1 hlu
          generalize cnt (LB++ag (es.take j)) (V:Int)=q1' at *
          have iX:(V:Int)<(ln:Int):=by omega
          have iq1:q1'<=10000:=by omega
          go_upto_region 25 with fail
          clear c0 c1 y2 ly lbe cX fX lX
          generalize wr.setCell ⟨g4,V,none⟩ (.int .i64 ((q1':Int)+1))=W1 at *
          have hBB:=aB HBW.out HN1.out.bel
          have lbe:=aL hBB hbe
          have c0:=(hBB.cell (p:=⟨be,oe+j * 2,none⟩) hbe).trans HC0.out
          have c1:=(hBB.cell (p:=⟨be,oe+j * 2+1,none⟩) hbe).trans HC1.out
          have y2:=aA (k:=2) (HN1.out.blk 4 rfl).1 rfl
          have ly:=aC (HN1.out.blk 4 rfl).1
          clear hBB
          by_cases hb:0<=b
          ·have db:decide (b≥0)=true:=decide_eq_true hb
           rw [if_pos hb] at hff
           obtain ⟨Y,rfl⟩:=Int.eq_ofNat_of_zero_le hb
           have hYl:Y<sn:=by omega
           obtain ⟨cY,fY,lY,hN2⟩:=dU HN1.out 2 rfl hYl
           have HN2:Hid (aM W9 (W1.setCell ⟨g3,Y,none⟩ (.int .i64 (((cnt (SB++bN (es.take j)) (Y:Int):Nat):Int)+1))) [.cel (aJ (aG I (XB))) (.slice (some ⟨g1,0,none⟩) I I),.cel (aJ (aG on (YB))) (.slice (some ⟨g2,0,none⟩) on on),.cel (aJ (aG sn (SB++bN (es.take (j+1))))) (.slice (some ⟨g3,0,none⟩) sn sn),.cel (aJ (aG ln (LB++ag (es.take (j+1))))) (.slice (some ⟨g4,0,none⟩) ln ln),.blk wo.heap.size #[.int .i64 2,.int .i64 (X:Int),.slice (some ⟨be,oe,none⟩) en ec] 89]):=by
            show aM W9 _ _
            rw [hff,←List.append_assoc]
            exact hN2
           clear hN2 hff
           generalize cnt (SB++bN (es.take j)) (Y:Int)=q2' at *
           have iY:(Y:Int)<(sn:Int):=by omega
           have iq2:q2'<=10000:=by omega
           clear hcs hcl hfl hul hle2 hsb hlb he1 he2
           go_wp2_with fail
           go_roundw
           case rel=>exact ⟨j+1,by omega,by go_num,HN2.out⟩
           case measure=>simp [intOf];omega
          ·have db:decide (b≥0)=false:=decide_eq_false hb
           rw [if_neg hb,List.append_nil] at hff
           have HN2:Hid (aM W9 W1 [.cel (aJ (aG I (XB))) (.slice (some ⟨g1,0,none⟩) I I),.cel (aJ (aG on (YB))) (.slice (some ⟨g2,0,none⟩) on on),.cel (aJ (aG sn (SB++bN (es.take (j+1))))) (.slice (some ⟨g3,0,none⟩) sn sn),.cel (aJ (aG ln (LB++ag (es.take (j+1))))) (.slice (some ⟨g4,0,none⟩) ln ln),.blk wo.heap.size #[.int .i64 2,.int .i64 (X:Int),.slice (some ⟨be,oe,none⟩) en ec] 89]):=by
            show aM W9 _ _
            rw [hff]
            exact HN1.out
           clear hff hcs hcl hfl hul hle2 hsb hlb he1 he2
           go_wp2_with fail
           go_roundw
           case rel=>exact ⟨j+1,by omega,by go_num,HN2.out⟩
           case measure=>simp [intOf];omega
         ·have da:decide (a≥0)=false:=decide_eq_false ha
          rw [if_neg ha,List.append_nil] at hlu
          have HN1:Hid (aM W9 wr [.cel (aJ (aG I (XB))) (.slice (some ⟨g1,0,none⟩) I I),.cel (aJ (aG on (YB))) (.slice (some ⟨g2,0,none⟩) on on),.cel (aJ (aG sn (SB++bN (es.take j)))) (.slice (some ⟨g3,0,none⟩) sn sn),.cel (aJ (aG ln (LB++ag (es.take (j+1))))) (.slice (some ⟨g4,0,none⟩) ln ln),.blk wo.heap.size #[.int .i64 2,.int .i64 (X:Int),.slice (some ⟨be,oe,none⟩) en ec] 89]):=by
           show aM W9 _ _
           rw [hlu]
           exact HSJ.out
          clear hlu
          go_upto_region 25 with fail
          clear c0 c1 y2 ly lbe
          have hBB:=aB HBW.out HN1.out.bel
          have lbe:=aL hBB hbe
          have c0:=(hBB.cell (p:=⟨be,oe+j * 2,none⟩) hbe).trans HC0.out
          have c1:=(hBB.cell (p:=⟨be,oe+j * 2+1,none⟩) hbe).trans HC1.out
          have y2:=aA (k:=2) (HN1.out.blk 4 rfl).1 rfl
          have ly:=aC (HN1.out.blk 4 rfl).1
          clear hBB
          by_cases hb:0<=b
          ·have db:decide (b≥0)=true:=decide_eq_true hb
           rw [if_pos hb] at hff
           obtain ⟨Y,rfl⟩:=Int.eq_ofNat_of_zero_le hb
           have hYl:Y<sn:=by omega
           obtain ⟨cY,fY,lY,hN2⟩:=dU HN1.out 2 rfl hYl
           have HN2:Hid (aM W9 (wr.setCell ⟨g3,Y,none⟩ (.int .i64 (((cnt (SB++bN (es.take j)) (Y:Int):Nat):Int)+1))) [.cel (aJ (aG I (XB))) (.slice (some ⟨g1,0,none⟩) I I),.cel (aJ (aG on (YB))) (.slice (some ⟨g2,0,none⟩) on on),.cel (aJ (aG sn (SB++bN (es.take (j+1))))) (.slice (some ⟨g3,0,none⟩) sn sn),.cel (aJ (aG ln (LB++ag (es.take (j+1))))) (.slice (some ⟨g4,0,none⟩) ln ln),.blk wo.heap.size #[.int .i64 2,.int .i64 (X:Int),.slice (some ⟨be,oe,none⟩) en ec] 89]):=by
            show aM W9 _ _
            rw [hff,←List.append_assoc]
            exact hN2
           clear hN2 hff
           generalize cnt (SB++bN (es.take j)) (Y:Int)=q2' at *
           have iY:(Y:Int)<(sn:Int):=by omega
           have iq2:q2'<=10000:=by omega
           clear hcs hcl hfl hul hle2 hsb hlb he1 he2
           go_wp2_with fail
           go_roundw
           case rel=>exact ⟨j+1,by omega,by go_num,HN2.out⟩
           case measure=>simp [intOf];omega
          ·have db:decide (b≥0)=false:=decide_eq_false hb
           rw [if_neg hb,List.append_nil] at hff
           have HN2:Hid (aM W9 wr [.cel (aJ (aG I (XB))) (.slice (some ⟨g1,0,none⟩) I I),.cel (aJ (aG on (YB))) (.slice (some ⟨g2,0,none⟩) on on),.cel (aJ (aG sn (SB++bN (es.take (j+1))))) (.slice (some ⟨g3,0,none⟩) sn sn),.cel (aJ (aG ln (LB++ag (es.take (j+1))))) (.slice (some ⟨g4,0,none⟩) ln ln),.blk wo.heap.size #[.int .i64 2,.int .i64 (X:Int),.slice (some ⟨be,oe,none⟩) en ec] 89]):=by
            show aM W9 _ _
            rw [hff]
            exact HN1.out
           clear hff hcs hcl hfl hul hle2 hsb hlb he1 he2
           go_wp2_with fail
           go_roundw
           case rel=>exact ⟨j+1,by omega,by go_num,HN2.out⟩
           case measure=>simp [intOf];omega
        ·have hjn:j=en:=by omega
         have hdj:decide ((j:Int)<(en:Int))=false:=by simp;omega
         have HD:Hid (aM W9 wr [.cel (aJ (aG I (XB))) (.slice (some ⟨g1,0,none⟩) I I),.cel (aJ (aG on (YB))) (.slice (some ⟨g2,0,none⟩) on on),.cel (aJ (aG sn (SB++bN es))) (.slice (some ⟨g3,0,none⟩) sn sn),.cel (aJ (aG ln (LB++ag es))) (.slice (some ⟨g4,0,none⟩) ln ln),.blk wo.heap.size #[.int .i64 2,.int .i64 (X:Int),.slice EA en ec] 89]):=by
          have h:=HSJ.out
          show aM W9 _ _
          rwa [hjn,List.take_of_length_le (by rw [HEL.out];exact Nat.le_refl _)] at h
         clear HSJ hjn
         go_wp2_with fail
         go_roundw
         case rel=>exact ⟨k+1,by omega,by go_num,by rw [HT1.out,HT2.out,HT3.out,HT4.out];exact HD.out.sub (List.sublist_append_left _ [_]),HG2.out⟩
         case measure=>simp [intOf];omega
      ·subst hk3
       have hT1:=dC 0 (bs.take k) ⟨3,it,es⟩
       have hT2:=dC 1 (bs.take k) ⟨3,it,es⟩
       have hT3:=iI (bs.take k) ⟨3,it,es⟩
       have hT4:=iH (bs.take k) ⟨3,it,es⟩
       rw [←HTK.out] at hT1 hT2 hT3 hT4
       simp only [Int.reduceEq,reduceIte,List.append_nil] at hT1 hT2 hT3 hT4
       have hil0:=dW 0 (bs.take k)
       have hil1:=dW 1 (bs.take k)
       rw [List.length_take] at hil0 hil1
       have HSS:Hid (aM W9 w4 [.cel (aJ (aG I (ak 0 (bs.take k)))) (.slice (some ⟨g1,0,none⟩) I I),.cel (aJ (aG on (ak 1 (bs.take k)))) (.slice (some ⟨g2,0,none⟩) on on),.cel (aJ (aG sn (dH (bs.take k)))) (.slice (some ⟨g3,0,none⟩) sn sn),.cel (aJ (aG ln (dX (bs.take k)))) (.slice (some ⟨g4,0,none⟩) ln ln),.blk wo.heap.size #[.int .i64 3,.int .i64 it,.slice EA en ec] 89]):=HS4.out
       have HSB:Hid ((dH (bs.take k)).length<=1000):=by show _<=_;have:=HSL3.out;(try rw [List.length_append,List.length_singleton]);omega
       have HLB:Hid ((dX (bs.take k)).length<=1000):=by show _<=_;have:=HLL3.out;omega
       obtain ⟨XB,hXB⟩:∃XB,ak 0 (bs.take k)=XB:=⟨_,rfl⟩
       obtain ⟨YB,hYB⟩:∃YB,ak 1 (bs.take k)=YB:=⟨_,rfl⟩
       obtain ⟨SB,hSB⟩:∃SB,dH (bs.take k)=SB:=⟨_,rfl⟩
       obtain ⟨LB,hLB⟩:∃LB,dX (bs.take k)=LB:=⟨_,rfl⟩
       rw [hXB,hYB,hSB,hLB] at HSS
       rw [hXB] at hT1
       rw [hYB] at hT2
       rw [hSB] at hT3 HSB
       rw [hLB] at hT4 HLB
       have HT1:=Hd hT1
       have HT2:=Hd hT2
       have HT3:=Hd hT3
       have HT4:=Hd hT4
       clear hT1 hT2 hT3 hT4 hXB hYB hSB hLB
       have y0:=aA (k:=0) (HS4.out.blk 4 rfl).1 rfl
       have y1:=aA (k:=1) (HS4.out.blk 4 rfl).1 rfl
       have ly:=aC (HS4.out.blk 4 rfl).1
       clear b4 hil0 hil1 hfit
       go_upto_region 20 with fail
       clear y0 y1 ly
       go_wp2_with fail
       go_loopw [11] (fun i wr=>∃j:Nat,j<=en/\i = .int .i64 (j:Int)/\aM W9 wr [.cel (aJ (aG I (XB))) (.slice (some ⟨g1,0,none⟩) I I),.cel (aJ (aG on (YB))) (.slice (some ⟨g2,0,none⟩) on on),.cel (aJ (aG sn (SB++bN (es.take j)))) (.slice (some ⟨g3,0,none⟩) sn sn),.cel (aJ (aG ln (LB++ag (es.take j)))) (.slice (some ⟨g4,0,none⟩) ln ln),.blk wo.heap.size #[.int .i64 3,.int .i64 it,.slice EA en ec] 89]) (fun i _=>en - (intOf i).toNat)
       case atStart=>exact ⟨0,by omega,rfl,by rw [List.take_zero];simpa [bN,ag] using HSS.out⟩
       case round =>
        obtain ⟨j,hj,rfl,hs⟩:=hrel
        have HSJ:=Hd hs
        clear hs
        have y2:=aA (k:=2) (HSJ.out.blk 4 rfl).1 rfl
        have ly:=aC (HSJ.out.blk 4 rfl).1
        by_cases hltj:j<en
        ·have hdj:decide ((j:Int)<(en:Int))=true:=by simp;omega
         have hjl:j<es.length:=by rw [HEL.out];exact hltj
         obtain ⟨be,oe,hEA,hbe,c0,c1⟩:=HE.out.es (k:=j) hjl
         have HEA:=Hd hEA
         have hel:=HEF.out _ (List.getElem_mem hjl)
         have hff:=jJ (es.take j) (es[j]?.getD LeT.zero)
         have hlu:=iG (es.take j) (es[j]?.getD LeT.zero)
         rw [←bJ hjl] at hff hlu
         have hfl:=jY (es.take j)
         have hul:=iU (es.take j)
         rw [List.length_take] at hfl hul
         rw [show es[j]=es[j]?.getD LeT.zero by rw [List.getElem?_eq_getElem hjl];rfl] at hel
         have he1:=hel.lut.2
         have he2:=hel.ff.2
         rw [HLL.out] at he1
         rw [HSL.out] at he2
         have hle2:=HLE.out
         have hsb:=HSB.out
         have hlb:=HLB.out
         clear hel hjl hEA
         generalize es[j]?.getD LeT.zero=e at *
         obtain ⟨a,b⟩:=e
         simp only at he1 he2 hff hlu c0 c1
         have i0:(0:Int)<=(j:Int):=by omega
         have i1:(j:Int)<(en:Int):=by omega
         have hcs:=d9 (SB++bN (es.take j)) b
         have hcl:=d9 (LB++ag (es.take j)) a
         rw [List.length_append] at hcs hcl
         have HC0:=Hd c0
         have HC1:=Hd c1
         have hBB:=aB HBW.out HSJ.out.bel
         have lbe:=aL hBB hbe
         rw [←hBB.cell (p:=⟨be,oe+j * 2,none⟩) hbe] at c0
         rw [←hBB.cell (p:=⟨be,oe+j * 2+1,none⟩) hbe] at c1
         clear hBB
         obtain rfl:=HEA.out
         by_cases ha:0<=a
         ·have da:decide (a≥0)=true:=decide_eq_true ha
          rw [if_pos ha] at hlu
          obtain ⟨V,rfl⟩:=Int.eq_ofNat_of_zero_le ha
          have hXl:V<ln:=by omega
          obtain ⟨cX,fX,lX,hN1⟩:=dU HSJ.out 3 rfl hXl
          have HN1:Hid (aM W9 (wr.setCell ⟨g4,V,none⟩ (.int .i64 (((cnt (LB++ag (es.take j)) (V:Int):Nat):Int)+1))) [.cel (aJ (aG I (XB))) (.slice (some ⟨g1,0,none⟩) I I),.cel (aJ (aG on (YB))) (.slice (some ⟨g2,0,none⟩) on on),.cel (aJ (aG sn (SB++bN (es.take j)))) (.slice (some ⟨g3,0,none⟩) sn sn),.cel (aJ (aG ln (LB++ag (es.take (j+1))))) (.slice (some ⟨g4,0,none⟩) ln ln),.blk wo.heap.size #[.int .i64 3,.int .i64 it,.slice (some ⟨be,oe,none⟩) en ec] 89]):=by
           show aM W9 _ _
           rw [hlu,←List.append_assoc]
           exact hN1
          clear hN1 hlu
          generalize cnt (LB++ag (es.take j)) (V:Int)=q1' at *
          have iX:(V:Int)<(ln:Int):=by omega
          have iq1:q1'<=10000:=by omega
          go_upto_region 25 with fail
          clear c0 c1 y2 ly lbe cX fX lX
          generalize wr.setCell ⟨g4,V,none⟩ (.int .i64 ((q1':Int)+1))=W1 at *
          have hBB:=aB HBW.out HN1.out.bel
          have lbe:=aL hBB hbe
          have c0:=(hBB.cell (p:=⟨be,oe+j * 2,none⟩) hbe).trans HC0.out
          have c1:=(hBB.cell (p:=⟨be,oe+j * 2+1,none⟩) hbe).trans HC1.out
          have y2:=aA (k:=2) (HN1.out.blk 4 rfl).1 rfl
          have ly:=aC (HN1.out.blk 4 rfl).1
          clear hBB
          by_cases hb:0<=b
          ·have db:decide (b≥0)=true:=decide_eq_true hb
           rw [if_pos hb] at hff
           obtain ⟨Y,rfl⟩:=Int.eq_ofNat_of_zero_le hb
           have hYl:Y<sn:=by omega
           obtain ⟨cY,fY,lY,hN2⟩:=dU HN1.out 2 rfl hYl
           have HN2:Hid (aM W9 (W1.setCell ⟨g3,Y,none⟩ (.int .i64 (((cnt (SB++bN (es.take j)) (Y:Int):Nat):Int)+1))) [.cel (aJ (aG I (XB))) (.slice (some ⟨g1,0,none⟩) I I),.cel (aJ (aG on (YB))) (.slice (some ⟨g2,0,none⟩) on on),.cel (aJ (aG sn (SB++bN (es.take (j+1))))) (.slice (some ⟨g3,0,none⟩) sn sn),.cel (aJ (aG ln (LB++ag (es.take (j+1))))) (.slice (some ⟨g4,0,none⟩) ln ln),.blk wo.heap.size #[.int .i64 3,.int .i64 it,.slice (some ⟨be,oe,none⟩) en ec] 89]):=by
            show aM W9 _ _
            rw [hff,←List.append_assoc]
            exact hN2
           clear hN2 hff
           generalize cnt (SB++bN (es.take j)) (Y:Int)=q2' at *
           have iY:(Y:Int)<(sn:Int):=by omega
           have iq2:q2'<=10000:=by omega
           clear hcs hcl hfl hul hle2 hsb hlb he1 he2
           go_wp2_with fail
           go_roundw
           case rel=>exact ⟨j+1,by omega,by go_num,HN2.out⟩
           case measure=>simp [intOf];omega
          ·have db:decide (b≥0)=false:=decide_eq_false hb
           rw [if_neg hb,List.append_nil] at hff
           have HN2:Hid (aM W9 W1 [.cel (aJ (aG I (XB))) (.slice (some ⟨g1,0,none⟩) I I),.cel (aJ (aG on (YB))) (.slice (some ⟨g2,0,none⟩) on on),.cel (aJ (aG sn (SB++bN (es.take (j+1))))) (.slice (some ⟨g3,0,none⟩) sn sn),.cel (aJ (aG ln (LB++ag (es.take (j+1))))) (.slice (some ⟨g4,0,none⟩) ln ln),.blk wo.heap.size #[.int .i64 3,.int .i64 it,.slice (some ⟨be,oe,none⟩) en ec] 89]):=by
            show aM W9 _ _
            rw [hff]
            exact HN1.out
           clear hff hcs hcl hfl hul hle2 hsb hlb he1 he2
           go_wp2_with fail
           go_roundw
           case rel=>exact ⟨j+1,by omega,by go_num,HN2.out⟩
           case measure=>simp [intOf];omega
         ·have da:decide (a≥0)=false:=decide_eq_false ha
          rw [if_neg ha,List.append_nil] at hlu
          have HN1:Hid (aM W9 wr [.cel (aJ (aG I (XB))) (.slice (some ⟨g1,0,none⟩) I I),.cel (aJ (aG on (YB))) (.slice (some ⟨g2,0,none⟩) on on),.cel (aJ (aG sn (SB++bN (es.take j)))) (.slice (some ⟨g3,0,none⟩) sn sn),.cel (aJ (aG ln (LB++ag (es.take (j+1))))) (.slice (some ⟨g4,0,none⟩) ln ln),.blk wo.heap.size #[.int .i64 3,.int .i64 it,.slice (some ⟨be,oe,none⟩) en ec] 89]):=by
           show aM W9 _ _
           rw [hlu]
           exact HSJ.out
          clear hlu
          go_upto_region 25 with fail
          clear c0 c1 y2 ly lbe
          have hBB:=aB HBW.out HN1.out.bel
          have lbe:=aL hBB hbe
          have c0:=(hBB.cell (p:=⟨be,oe+j * 2,none⟩) hbe).trans HC0.out
          have c1:=(hBB.cell (p:=⟨be,oe+j * 2+1,none⟩) hbe).trans HC1.out
          have y2:=aA (k:=2) (HN1.out.blk 4 rfl).1 rfl
          have ly:=aC (HN1.out.blk 4 rfl).1
          clear hBB
          by_cases hb:0<=b
          ·have db:decide (b≥0)=true:=decide_eq_true hb
           rw [if_pos hb] at hff
           obtain ⟨Y,rfl⟩:=Int.eq_ofNat_of_zero_le hb
           have hYl:Y<sn:=by omega
           obtain ⟨cY,fY,lY,hN2⟩:=dU HN1.out 2 rfl hYl
           have HN2:Hid (aM W9 (wr.setCell ⟨g3,Y,none⟩ (.int .i64 (((cnt (SB++bN (es.take j)) (Y:Int):Nat):Int)+1))) [.cel (aJ (aG I (XB))) (.slice (some ⟨g1,0,none⟩) I I),.cel (aJ (aG on (YB))) (.slice (some ⟨g2,0,none⟩) on on),.cel (aJ (aG sn (SB++bN (es.take (j+1))))) (.slice (some ⟨g3,0,none⟩) sn sn),.cel (aJ (aG ln (LB++ag (es.take (j+1))))) (.slice (some ⟨g4,0,none⟩) ln ln),.blk wo.heap.size #[.int .i64 3,.int .i64 it,.slice (some ⟨be,oe,none⟩) en ec] 89]):=by
            show aM W9 _ _
            rw [hff,←List.append_assoc]
            exact hN2
           clear hN2 hff
           generalize cnt (SB++bN (es.take j)) (Y:Int)=q2' at *
           have iY:(Y:Int)<(sn:Int):=by omega
           have iq2:q2'<=10000:=by omega
           clear hcs hcl hfl hul hle2 hsb hlb he1 he2
           go_wp2_with fail
           go_roundw
           case rel=>exact ⟨j+1,by omega,by go_num,HN2.out⟩
           case measure=>simp [intOf];omega
          ·have db:decide (b≥0)=false:=decide_eq_false hb
           rw [if_neg hb,List.append_nil] at hff
           have HN2:Hid (aM W9 wr [.cel (aJ (aG I (XB))) (.slice (some ⟨g1,0,none⟩) I I),.cel (aJ (aG on (YB))) (.slice (some ⟨g2,0,none⟩) on on),.cel (aJ (aG sn (SB++bN (es.take (j+1))))) (.slice (some ⟨g3,0,none⟩) sn sn),.cel (aJ (aG ln (LB++ag (es.take (j+1))))) (.slice (some ⟨g4,0,none⟩) ln ln),.blk wo.heap.size #[.int .i64 3,.int .i64 it,.slice (some ⟨be,oe,none⟩) en ec] 89]):=by
            show aM W9 _ _
            rw [hff]
            exact HN1.out
           clear hff hcs hcl hfl hul hle2 hsb hlb he1 he2
           go_wp2_with fail
           go_roundw
           case rel=>exact ⟨j+1,by omega,by go_num,HN2.out⟩
           case measure=>simp [intOf];omega
        ·have hjn:j=en:=by omega
         have hdj:decide ((j:Int)<(en:Int))=false:=by simp;omega
         have HD:Hid (aM W9 wr [.cel (aJ (aG I (XB))) (.slice (some ⟨g1,0,none⟩) I I),.cel (aJ (aG on (YB))) (.slice (some ⟨g2,0,none⟩) on on),.cel (aJ (aG sn (SB++bN es))) (.slice (some ⟨g3,0,none⟩) sn sn),.cel (aJ (aG ln (LB++ag es))) (.slice (some ⟨g4,0,none⟩) ln ln),.blk wo.heap.size #[.int .i64 3,.int .i64 it,.slice EA en ec] 89]):=by
          have h:=HSJ.out
          show aM W9 _ _
          rwa [hjn,List.take_of_length_le (by rw [HEL.out];exact Nat.le_refl _)] at h
         clear HSJ hjn
         go_wp2_with fail
         go_roundw
         case rel=>exact ⟨k+1,by omega,by go_num,by rw [HT1.out,HT2.out,HT3.out,HT4.out];exact HD.out.sub (List.sublist_append_left _ [_]),HG2.out⟩
         case measure=>simp [intOf];omega
     ·rw [bF hfit]
      have HR:=Hd (HNO.out hfit)
      rintro _ w4 ⟨rfl,b4⟩
      have HB4:=Hd (aB (aB HBW.out HA.out.bel) b4)
      clear x0 x1 x2 x3 lx y0 y1 y2 ly c0 c1 c2 HG HNO b4
      go_wp2_with fail
      go_ret
      exact ⟨aP HR.out,HB4.out⟩
    ·have hkn:k=bn:=by omega
     have hdk:decide ((k:Int)<(bn:Int))=false:=by simp;omega
     have HTK:Hid (bs.take k=bs):=by show _=_;rw [hkn];exact List.take_of_length_le (by rw [HBL.out];exact Nat.le_refl _)
     rw [HTK.out] at HS HALL
     have HP1:Hid ((∀q:Nat,q<I→(aG I (ak 0 bs))[q]?.getD 0=1)↔oC l.inputs.toNat (ak 0 bs)):=by
      show _↔_
      rw [HIN.out]
      exact jr
     have HP2:Hid ((∀q:Nat,q<on→(aG on (ak 1 bs))[q]?.getD 0=1)↔oC l.outs.length (ak 1 bs)):=by
      show _↔_
      rw [HOL.out]
      exact jr
     have HP3:Hid ((∀q:Nat,q<sn→(aG sn (dH bs))[q]?.getD 0=1)↔oC l.seqs.length (dH bs)):=by
      show _↔_
      rw [HSL.out]
      exact jr
     have HP4:Hid ((∀q:Nat,q<ln→(aG ln (dX bs))[q]?.getD 0=1)↔oC l.luts.length (dX bs)):=by
      show _↔_
      rw [HLL.out]
      exact jr
     have HU:Hid ((∀q:Nat,q<I+on+sn+ln→(aG I (ak 0 bs)++aG on (ak 1 bs)++aG sn (dH bs)++aG ln (dX bs))[q]?.getD 0=1)↔eY l bs):=by
      show _↔_
      rw [zW (jq ..) (jq ..) (jq ..) (jq ..),HP1.out,HP2.out,HP3.out,HP4.out]
      exact ⟨fun h=>⟨HF.out,by rw [HBL.out];exact h64,HALL.out,h.1.1.1,h.1.1.2,h.1.2,h.2⟩,fun h=>⟨⟨⟨h.ins,h.outs⟩,h.seqs⟩,h.luts⟩⟩
     clear HP1 HP2 HP3 HP4 hkn
     go_wp2_with (at_builtin;first
      | (refine ja rfl _ _ rfl _ HS6.out 0 A6 (I+on+sn) c6 _ (some ⟨g4,0,none⟩) ln ln _ rfl rfl rfl (HS6.out.ints 3 rfl) (by omega) ?_;intro A7 c7 w7 S7 _;have HS7:=Hd S7;clear S7)
      | (refine ja rfl _ _ rfl _ HS5.out 0 A5 (I+on) c5 _ (some ⟨g3,0,none⟩) sn sn _ rfl rfl rfl (HS5.out.ints 2 rfl) (by omega) ?_;intro A6 c6 w6 S6 _;have HS6:=Hd S6;clear S6)
      | (refine ja rfl _ _ rfl _ HS.out 0 (some ⟨g1,0,none⟩) I I _ (some ⟨g2,0,none⟩) on on _ rfl rfl rfl (HS.out.ints 1 rfl) (by omega) ?_;intro A5 c5 w5 S5 _;have HS5:=Hd S5;clear S5))
     have HO:=Hd (HS7.out.ints 0 rfl)
     have HB7:=Hd (aB HBW.out HS7.out.bel)
     clear HS HS5 HS6 HS7
     generalize hM:I+on+sn+ln=M at *
     have hM20:M<=1099511627776:=by omega
     generalize hUU:aG I (ak 0 bs)++aG on (ak 1 bs)++aG sn (dH bs)++aG ln (dX bs)=U at *
     clear hUU hM
     go_loopw [13] (fun i wr=>∃q:Nat,q<=M/\i = .int .i64 (q:Int)/\w7=wr/\∀j,j<q→U[j]?.getD 0=1) (fun i _=>M - (intOf i).toNat)
     case atStart=>exact ⟨0,by omega,rfl,rfl,fun j hj=>by omega⟩
     case round =>
      obtain ⟨q,hq,rfl,rfl,hall⟩:=hrel
      have HAQ:=Hd hall
      clear hall
      by_cases hltq:q<M
      ·have hdq:decide ((q:Int)<(M:Int))=true:=by simp;omega
       obtain ⟨bu,ou,hA7,hbu,hcu⟩:=HO.out.2 (by omega)
       have cu:=hcu q hltq
       have HA7:=Hd hA7
       have HG:Hid (U[q]?.getD 0=1→∀j,j<q+1→U[j]?.getD 0=1):=fun h=>bS HAQ.out h
       have HNO:Hid (U[q]?.getD 0≠1→¬eY l bs):=fun h h'=>h (HU.out.2 h' q hltq)
       clear hcu hA7
       obtain rfl:=HA7.out
       generalize U[q]?.getD 0=x at *
       have i0:(0:Int)<=(q:Int):=by omega
       have i1:(q:Int)<(M:Int):=by omega
       by_cases hx:x=1
       ·have dx:(x != 1)=false:=by simp [hx]
        have HG2:=Hd (HG.out hx)
        clear HG HNO hx
        go_wp2_with fail
        go_roundw
        case rel=>exact ⟨q+1,by omega,by go_num,by first|rfl|trivial,HG2.out⟩
        case measure=>simp [intOf];omega
       ·have dx:(x != 1)=true:=by simp [hx]
        have HR:=Hd (HNO.out hx)
        clear HG HNO hx
        go_wp2_with fail
        go_ret
        exact ⟨aP HR.out,HB7.out⟩
      ·have hqn:q=M:=by omega
       have hdq:decide ((q:Int)<(M:Int))=false:=by simp;omega
       have HR:Hid (eY l bs):=HU.out.1 (by rw [←hqn];exact HAQ.out)
       clear HAQ hqn
       go_wp2_with fail
       go_ret
       exact ⟨cO HR.out,HB7.out⟩
  ·have d64:decide ((64:Int)<(bn:Int))=true:=decide_eq_true (by omega)
   have d64':decide ((bn:Int)>64)=true:=decide_eq_true (by omega)
   have HR:Hid (¬eY l bs):=fun h=>h64 (by rw [←hbl];exact h.len)
   go_enter Tryz.func35,Tryz.ntmps35
   go_upto_region 1 with fail
   generalize w.alloc (.cells (av l SA LA OA sn sc ln lc on oc) 41)=W0 at *
   have x0:=aA (k:=0) HXB.out rfl
   have x1:=aA (k:=1) HXB.out rfl
   have x2:=aA (k:=2) HXB.out rfl
   have x3:=aA (k:=3) HXB.out rfl
   have lx:=aC HXB.out
   go_wp2_with fail
   refine (bv l SA LA OA sn sc ln lc on oc _ (HN.out.below HB0.out)).mono ?_
   rw [aa hf]
   rintro _ w1 ⟨rfl,b1⟩
   have HBW:=Hd (aB HB0.out b1)
   clear b1 x0 x1 x2 x3 lx hf h64
   go_wp2_with fail
   go_ret
   exact ⟨aP HR.out,HBW.out⟩
 ·have HR:Hid (¬eY l bs):=fun h=>hf h.net
  go_enter Tryz.func35,Tryz.ntmps35
  go_upto_region 1 with fail
  generalize w.alloc (.cells (av l SA LA OA sn sc ln lc on oc) 41)=W0 at *
  have x0:=aA (k:=0) HXB.out rfl
  have x1:=aA (k:=1) HXB.out rfl
  have x2:=aA (k:=2) HXB.out rfl
  have x3:=aA (k:=3) HXB.out rfl
  have lx:=aC HXB.out
  go_wp2_with fail
  refine (bv l SA LA OA sn sc ln lc on oc _ (HN.out.below HB0.out)).mono ?_
  rw [bF hf]
  rintro _ w1 ⟨rfl,b1⟩
  have HBW:=Hd (aB HB0.out b1)
  clear b1 x0 x1 x2 x3 lx hf
  go_wp2_with fail
  go_ret
  exact ⟨aP HR.out,HBW.out⟩
end Go.Proofs.YtofihjoanjkdmaaGreat
