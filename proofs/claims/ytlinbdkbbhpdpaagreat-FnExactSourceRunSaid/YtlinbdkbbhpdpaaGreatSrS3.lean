/- Valid modules and designs in the reference (printed by mkss3.py). -/
import Derived.Test.YtlinbdkbbhpdpaaGreatSrS2
namespace Go.Proofs.YtlinbdkbbhpdpaaGreat
set_option maxRecDepth 100000
open Go.RowKit

theorem portFit_kd {m:MdT} {s:Int} (h:InSg m s) (hs:∀k,k<m.sigs.length→SgFit (sgK m.sigs k)):0≤kdOf m s:=by
 rw [kdOf_in h]
 exact (hs s.toNat (by have:=h.1;have:=h.2;omega)).1.1.1
set_option maxHeartbeats 2500000 in
theorem smoduleOk_any (d:List MdT) (DA:Option Addr) (dn dc kk:Nat) (w:World) (h:RdC w w.heap.size (celMd d) (.slice DA dn dc)) (hkk:kk<dn) :
  Calls Tryz.prog 151 #[.agg #[.slice DA dn dc],.int .i64 (kk:Int)] w fun e w'=>e = .returned (.bool (tb (MdFit d kk)))∧Below w.heap.size w w':=by
 have HDL:=Lib.hid h.mdN
 have HD:=Lib.hid h
 clear h
 obtain ⟨bd,od,SA,AA,JA,MA,sn,sc,an,ac,jn,jc,mn,mc,rfl,hbd,e0,e1,e2,e3,rm⟩:=HD.out.md (k:=kk) hkk
 have HM:=Lib.hid rm
 clear rm
 have HB0:=Lib.hid (below_new (Below.refl w.heap.size w) (.cells #[.slice (some ⟨bd,od,none⟩) dn dc] 48))
 have HXB:=Lib.hid (heap_new w (.cells #[.slice (some ⟨bd,od,none⟩) dn dc] 48))
 have j0:(0:Int)≤(kk:Int):=by omega
 have j1:(kk:Int)<(dn:Int):=by omega
 have HCA:=Lib.hid (fun (v:World) (hv:RdC v v.heap.size (celMd d) (.slice (some ⟨bd,od,none⟩) dn dc))=>sl04Counts_any d _ dn dc kk v hv hkk)
 by_cases hci:CntFit d∧InsFit d kk
 ·have HC:=Lib.hid (tb_true hci)
  obtain ⟨hcf,hif⟩:=hci
  have hdn:dn≤4:=by have:=hcf.1;rw [HDL.out] at this;exact this
  have hcn:=hcf.2 kk (by rw [HDL.out];exact hkk)
  have hs30:sn≤30:=by have h1:=hcn.sg;rw [HM.out.lens.1] at h1;exact h1
  have ha30:an≤30:=by have h1:=hcn.asg;rw [HM.out.lens.2.1] at h1;exact h1
  have hj3:jn≤3:=by have h1:=hcn.ins;rw [HM.out.lens.2.2.1] at h1;exact h1
  have hm2:mn≤2:=by have h1:=hcn.mm;rw [HM.out.lens.2.2.2] at h1;exact h1
  clear hcn
  go_enter Tryz.func151,Tryz.ntmps151
  go_upto_region 1 with fail
  generalize w.alloc (.cells #[.slice (some ⟨bd,od,none⟩) dn dc] 48)=W9 at *
  have hx:=HXB.out
  have x0:=cell_heap (k:=0) hx rfl
  have lx:=heap_lt0 hx
  clear hx
  go_wp2_with fail
  refine (HCA.out _ (HD.out.below HB0.out)).mono ?_
  rw [HC.out]
  rintro _ w2 ⟨rfl,b2⟩
  have HB2:=Lib.hid (below_tr HB0.out b2)
  have HX2:=Lib.hid (heap_tr b2 HXB.out)
  clear b2 x0 lx
  have hx:=HX2.out
  have x0:=cell_heap (k:=0) hx rfl
  have lx:=heap_lt0 hx
  clear hx
  rw [←HB2.out.cell (p:=⟨bd,od+kk * 4,none⟩) hbd] at e0
  rw [←HB2.out.cell (p:=⟨bd,od+kk * 4+1,none⟩) hbd] at e1
  rw [←HB2.out.cell (p:=⟨bd,od+kk * 4+2,none⟩) hbd] at e2
  rw [←HB2.out.cell (p:=⟨bd,od+kk * 4+3,none⟩) hbd] at e3
  have lbd:=below_lt HB2.out hbd
  have HB8:=Lib.hid (below_new HB2.out (.cells #[.slice SA sn sc,.slice AA an ac,.slice JA jn jc,.slice MA mn mc] 108))
  have HXD:=Lib.hid (heap_al (.cells #[.slice SA sn sc,.slice AA an ac,.slice JA jn jc,.slice MA mn mc] 108) HX2.out)
  have hm:=heap_new w2 (.cells #[.slice SA sn sc,.slice AA an ac,.slice JA jn jc,.slice MA mn mc] 108)
  have HXM:=Lib.hid hm
  clear hm
  go_upto_region 4 with fail
  obtain ⟨gM,hgM⟩:∃g,w2.heap.size=g:=⟨_,rfl⟩
  rw [hgM] at HXM
  (try rw [hgM])
  clear hgM
  generalize w2.alloc (.cells #[.slice SA sn sc,.slice AA an ac,.slice JA jn jc,.slice MA mn mc] 108)=W8 at *
  clear x0 lx e0 e1 e2 e3 lbd
  go_wp2_with fail
  go_loopw [6] (fun i wr=>∃k:Nat,k≤sn∧i = .int .i64 (k:Int)∧Below W8.heap.size W8 wr∧(∀s:Nat,s<k→SgFit (sgK (mdK d kk).sigs s)∧(Driven (sgK (mdK d kk).sigs s).kind→(drvs d (mdK d kk)).count (s:Int)=1))) (fun i _=>sn - (intOf i).toNat)
  case atStart=>exact ⟨0,by omega,rfl,Below.refl _ _,fun s hs=>by omega⟩
  case round =>
   obtain ⟨k,hlek,rfl,hb,hall⟩:=hrel
   have HALL:=Lib.hid hall
   have HBW:=Lib.hid hb
   have HB:=Lib.hid (below_tr HB8.out hb)
   clear hb hall
   have hx:=heap_tr HBW.out HXM.out
   have x0:=cell_heap (k:=0) hx rfl
   have lx:=heap_lt0 hx
   clear hx
   by_cases hlt:k<sn
   ·have hdk:decide ((k:Int)<(sn:Int))=true:=by simp;omega
    have i0:(0:Int)≤(k:Int):=by omega
    have i1:(k:Int)<(sn:Int):=by omega
    have hkl:k<(mdK d kk).sigs.length:=by rw [HM.out.lens.1];exact hlt
    obtain ⟨bs,os,hSA,hbs,c0,c1,c2⟩:=HM.out.sg.sgE (k:=k) hkl
    subst hSA
    rw [←HB.out.cell (p:=⟨bs,os+k * 3,none⟩) hbs] at c0
    rw [←HB.out.cell (p:=⟨bs,os+k * 3+1,none⟩) hbs] at c1
    rw [←HB.out.cell (p:=⟨bs,os+k * 3+2,none⟩) hbs] at c2
    have lbs:=below_lt HB.out hbs
    have HNO:=Lib.hid (fun (h:¬SgFit (sgK (mdK d kk).sigs k)) (h2:MdFit d kk)=>h (h2.sig k hkl))
    have HNC:=Lib.hid (fun (h1:Driven (sgK (mdK d kk).sigs k).kind) (h:¬(drvs d (mdK d kk)).count (k:Int)=1) (h2:MdFit d kk)=>h (h2.once k hkl h1))
    have HG:=Lib.hid (fun (h:SgFit (sgK (mdK d kk).sigs k)∧(Driven (sgK (mdK d kk).sigs k).kind→(drvs d (mdK d kk)).count (k:Int)=1))=>all_succ HALL.out h)
    have HDC:=Lib.hid (fun (v:World) (hv:RdC v v.heap.size (celMd d) (.slice (some ⟨bd,od,none⟩) dn dc))=>sdriverCount_any d _ dn dc kk k v hv hkk hcf hif hkl)
    unfold sgK at HNO HG HNC
    generalize (mdK d kk).sigs[k]?.getD SgT.zero=q at *
    obtain ⟨kd,wd,it⟩:=q
    obtain ⟨cv,hcv⟩:∃c,(drvs d (mdK d kk)).count (k:Int)=c:=⟨_,rfl⟩
    rw [hcv] at HG HDC HNC
    simp only at c0 c1 c2 HG HNC
    have HE:Hid (SgFit ⟨kd,wd,it⟩↔((0≤kd∧kd≤3)∧0≤wd∧wd≤4)∧(it=0∨kd=3∧0≤it∧it≤15)):=Iff.rfl
    clear hkl hbs hcv
    cases h1:inR kd 0 3 with
    | false =>
     have HR:=Lib.hid (HNO.out fun h=>not_in h1 (HE.out.1 h).1.1)
     have H1:=Lib.hid h1
     clear h1
     have HBV:=Lib.hid (below_new HBW.out (.cells #[.int .i64 kd,.int .i64 wd,.int .i64 it] 155))
     have HB1:=Lib.hid (below_new HB.out (.cells #[.int .i64 kd,.int .i64 wd,.int .i64 it] 155))
     have hy:=heap_new wr (.cells #[.int .i64 kd,.int .i64 wd,.int .i64 it] 155)
     have HY:=Lib.hid hy
     have y0:=cell_heap (k:=0) hy rfl
     have y1:=cell_heap (k:=1) hy rfl
     have y2:=cell_heap (k:=2) hy rfl
     have ly:=heap_lt0 hy
     clear hy
     go_upto_region 8 with fail
     generalize wr.alloc (.cells #[.int .i64 kd,.int .i64 wd,.int .i64 it] 155)=W5 at *
     clear x0 lx
     have hx:=heap_tr HBV.out HXM.out
     have x0:=cell_heap (k:=0) hx rfl
     have lx:=heap_lt0 hx
     clear hx
     have hd:=heap_tr HBV.out HXD.out
     have d0:=cell_heap (k:=0) hd rfl
     have ld:=heap_lt0 hd
     clear hd
     go_wp2_with fail
     refine (l01In_any kd 0 3 _).mono ?_
     rw [H1.out]
     rintro _ w' ⟨rfl,rfl⟩
     go_wp2_with fail
     go_ret
     exact ⟨ret_ff HR.out,HB1.out⟩
    | true =>
     have k1:=inR_iff.1 h1
     have H1:=Lib.hid h1
     clear h1
     cases h2:inR wd 0 4 with
     | false =>
      have HR:=Lib.hid (HNO.out fun h=>not_in h2 (HE.out.1 h).1.2)
      have H2:=Lib.hid h2
      clear h2
      have HBV:=Lib.hid (below_new HBW.out (.cells #[.int .i64 kd,.int .i64 wd,.int .i64 it] 155))
      have HB1:=Lib.hid (below_new HB.out (.cells #[.int .i64 kd,.int .i64 wd,.int .i64 it] 155))
      have hy:=heap_new wr (.cells #[.int .i64 kd,.int .i64 wd,.int .i64 it] 155)
      have HY:=Lib.hid hy
      have y0:=cell_heap (k:=0) hy rfl
      have y1:=cell_heap (k:=1) hy rfl
      have y2:=cell_heap (k:=2) hy rfl
      have ly:=heap_lt0 hy
      clear hy
      go_upto_region 8 with fail
      generalize wr.alloc (.cells #[.int .i64 kd,.int .i64 wd,.int .i64 it] 155)=W5 at *
      clear x0 lx
      have hx:=heap_tr HBV.out HXM.out
      have x0:=cell_heap (k:=0) hx rfl
      have lx:=heap_lt0 hx
      clear hx
      have hd:=heap_tr HBV.out HXD.out
      have d0:=cell_heap (k:=0) hd rfl
      have ld:=heap_lt0 hd
      clear hd
      go_wp2_with fail
      refine (l01In_any kd 0 3 _).mono ?_
      rw [H1.out]
      rintro _ w' ⟨rfl,rfl⟩
      go_wp2_with fail
      refine (l01In_any wd 0 4 _).mono ?_
      rw [H2.out]
      rintro _ w' ⟨rfl,rfl⟩
      go_wp2_with fail
      go_ret
      exact ⟨ret_ff HR.out,HB1.out⟩
     | true =>
      have k2:=inR_iff.1 h2
      have H2:=Lib.hid h2
      clear h2
      cases h3:inR it 0 15 with
      | false =>
       have HR:=Lib.hid (HNO.out fun h=>not_in h3 ((HE.out.1 h).2.elim (fun h=>by omega) fun h=>h.2))
       have H3:=Lib.hid h3
       clear h3
       have HBV:=Lib.hid (below_new HBW.out (.cells #[.int .i64 kd,.int .i64 wd,.int .i64 it] 155))
       have HB1:=Lib.hid (below_new HB.out (.cells #[.int .i64 kd,.int .i64 wd,.int .i64 it] 155))
       have hy:=heap_new wr (.cells #[.int .i64 kd,.int .i64 wd,.int .i64 it] 155)
       have HY:=Lib.hid hy
       have y0:=cell_heap (k:=0) hy rfl
       have y1:=cell_heap (k:=1) hy rfl
       have y2:=cell_heap (k:=2) hy rfl
       have ly:=heap_lt0 hy
       clear hy
       go_upto_region 8 with fail
       generalize wr.alloc (.cells #[.int .i64 kd,.int .i64 wd,.int .i64 it] 155)=W5 at *
       clear x0 lx
       have hx:=heap_tr HBV.out HXM.out
       have x0:=cell_heap (k:=0) hx rfl
       have lx:=heap_lt0 hx
       clear hx
       have hd:=heap_tr HBV.out HXD.out
       have d0:=cell_heap (k:=0) hd rfl
       have ld:=heap_lt0 hd
       clear hd
       go_wp2_with fail
       refine (l01In_any kd 0 3 _).mono ?_
       rw [H1.out]
       rintro _ w' ⟨rfl,rfl⟩
       go_wp2_with fail
       refine (l01In_any wd 0 4 _).mono ?_
       rw [H2.out]
       rintro _ w' ⟨rfl,rfl⟩
       go_wp2_with fail
       refine (l01In_any it 0 15 _).mono ?_
       rw [H3.out]
       rintro _ w' ⟨rfl,rfl⟩
       go_wp2_with fail
       go_ret
       exact ⟨ret_ff HR.out,HB1.out⟩
      | true =>
       have k3:=inR_iff.1 h3
       have H3:=Lib.hid h3
       clear h3
       by_cases hi0:it=0
       ·have di:(it != 0)=false:=by simp [hi0]
        have HFT:=Lib.hid (HE.out.2 ⟨⟨k1,k2⟩,.inl hi0⟩)
        by_cases hk0:kd=0
        ·have dk:(kd != 0)=false:=by simp [hk0]
         have HG2:=Lib.hid (HG.out ⟨HFT.out,fun h=>by rcases h with h|h|h <;> omega⟩)
         clear hi0 hk0
         have HBV:=Lib.hid (below_new HBW.out (.cells #[.int .i64 kd,.int .i64 wd,.int .i64 it] 155))
         have HB1:=Lib.hid (below_new HB.out (.cells #[.int .i64 kd,.int .i64 wd,.int .i64 it] 155))
         have hy:=heap_new wr (.cells #[.int .i64 kd,.int .i64 wd,.int .i64 it] 155)
         have HY:=Lib.hid hy
         have y0:=cell_heap (k:=0) hy rfl
         have y1:=cell_heap (k:=1) hy rfl
         have y2:=cell_heap (k:=2) hy rfl
         have ly:=heap_lt0 hy
         clear hy
         go_upto_region 8 with fail
         generalize wr.alloc (.cells #[.int .i64 kd,.int .i64 wd,.int .i64 it] 155)=W5 at *
         clear x0 lx
         have hx:=heap_tr HBV.out HXM.out
         have x0:=cell_heap (k:=0) hx rfl
         have lx:=heap_lt0 hx
         clear hx
         have hd:=heap_tr HBV.out HXD.out
         have d0:=cell_heap (k:=0) hd rfl
         have ld:=heap_lt0 hd
         clear hd
         go_wp2_with fail
         refine (l01In_any kd 0 3 _).mono ?_
         rw [H1.out]
         rintro _ w' ⟨rfl,rfl⟩
         go_wp2_with fail
         refine (l01In_any wd 0 4 _).mono ?_
         rw [H2.out]
         rintro _ w' ⟨rfl,rfl⟩
         go_wp2_with fail
         refine (l01In_any it 0 15 _).mono ?_
         rw [H3.out]
         rintro _ w' ⟨rfl,rfl⟩
         go_wp2_with fail
         go_roundw
         case rel=>exact ⟨k+1,by omega,by go_num,HBV.out,HG2.out⟩
         case measure=>simp [intOf];omega
        ·have dk:(kd != 0)=true:=by simp [hk0]
         have HDR:Hid (Driven kd):=by show Driven kd;unfold Driven;omega
         clear hi0 hk0
         by_cases hc1:cv=1
         ·have dc1:((cv:Int) != 1)=false:=by simp [hc1]
          have HG2:=Lib.hid (HG.out ⟨HFT.out,fun _=>hc1⟩)
          clear hc1
          have HBV:=Lib.hid (below_new HBW.out (.cells #[.int .i64 kd,.int .i64 wd,.int .i64 it] 155))
          have HB1:=Lib.hid (below_new HB.out (.cells #[.int .i64 kd,.int .i64 wd,.int .i64 it] 155))
          have hy:=heap_new wr (.cells #[.int .i64 kd,.int .i64 wd,.int .i64 it] 155)
          have HY:=Lib.hid hy
          have y0:=cell_heap (k:=0) hy rfl
          have y1:=cell_heap (k:=1) hy rfl
          have y2:=cell_heap (k:=2) hy rfl
          have ly:=heap_lt0 hy
          clear hy
          go_upto_region 8 with fail
          generalize wr.alloc (.cells #[.int .i64 kd,.int .i64 wd,.int .i64 it] 155)=W5 at *
          clear x0 lx
          have hx:=heap_tr HBV.out HXM.out
          have x0:=cell_heap (k:=0) hx rfl
          have lx:=heap_lt0 hx
          clear hx
          have hd:=heap_tr HBV.out HXD.out
          have d0:=cell_heap (k:=0) hd rfl
          have ld:=heap_lt0 hd
          clear hd
          go_wp2_with fail
          refine (l01In_any kd 0 3 _).mono ?_
          rw [H1.out]
          rintro _ w' ⟨rfl,rfl⟩
          go_wp2_with fail
          refine (l01In_any wd 0 4 _).mono ?_
          rw [H2.out]
          rintro _ w' ⟨rfl,rfl⟩
          go_wp2_with fail
          refine (l01In_any it 0 15 _).mono ?_
          rw [H3.out]
          rintro _ w' ⟨rfl,rfl⟩
          go_wp2_with fail
          refine (HDC.out _ (HD.out.below HB1.out)).mono ?_
          rintro _ w6 ⟨rfl,b6⟩
          have HB6:=Lib.hid (below_tr HBV.out b6)
          clear b6 c0 c1 c2 y0 y1 y2 ly x0 lx d0 ld
          go_wp2_with fail
          go_roundw
          case rel=>exact ⟨k+1,by omega,by go_num,HB6.out,HG2.out⟩
          case measure=>simp [intOf];omega
         ·have dc1:((cv:Int) != 1)=true:=by simp;omega
          have HR:=Lib.hid (HNC.out HDR.out hc1)
          clear hc1
          have HBV:=Lib.hid (below_new HBW.out (.cells #[.int .i64 kd,.int .i64 wd,.int .i64 it] 155))
          have HB1:=Lib.hid (below_new HB.out (.cells #[.int .i64 kd,.int .i64 wd,.int .i64 it] 155))
          have hy:=heap_new wr (.cells #[.int .i64 kd,.int .i64 wd,.int .i64 it] 155)
          have HY:=Lib.hid hy
          have y0:=cell_heap (k:=0) hy rfl
          have y1:=cell_heap (k:=1) hy rfl
          have y2:=cell_heap (k:=2) hy rfl
          have ly:=heap_lt0 hy
          clear hy
          go_upto_region 8 with fail
          generalize wr.alloc (.cells #[.int .i64 kd,.int .i64 wd,.int .i64 it] 155)=W5 at *
          clear x0 lx
          have hx:=heap_tr HBV.out HXM.out
          have x0:=cell_heap (k:=0) hx rfl
          have lx:=heap_lt0 hx
          clear hx
          have hd:=heap_tr HBV.out HXD.out
          have d0:=cell_heap (k:=0) hd rfl
          have ld:=heap_lt0 hd
          clear hd
          go_wp2_with fail
          refine (l01In_any kd 0 3 _).mono ?_
          rw [H1.out]
          rintro _ w' ⟨rfl,rfl⟩
          go_wp2_with fail
          refine (l01In_any wd 0 4 _).mono ?_
          rw [H2.out]
          rintro _ w' ⟨rfl,rfl⟩
          go_wp2_with fail
          refine (l01In_any it 0 15 _).mono ?_
          rw [H3.out]
          rintro _ w' ⟨rfl,rfl⟩
          go_wp2_with fail
          refine (HDC.out _ (HD.out.below HB1.out)).mono ?_
          rintro _ w6 ⟨rfl,b6⟩
          have HB6:=Lib.hid (below_tr HB1.out b6)
          clear b6 c0 c1 c2 y0 y1 y2 ly x0 lx d0 ld
          go_wp2_with fail
          go_ret
          exact ⟨ret_ff HR.out,HB6.out⟩
       ·have di:(it != 0)=true:=by simp [hi0]
        by_cases hk3:kd=3
        ·have dk3:(kd != 3)=false:=by simp [hk3]
         have dk:(kd != 0)=true:=by simp [hk3]
         have HFT:=Lib.hid (HE.out.2 ⟨⟨k1,k2⟩,.inr ⟨hk3,k3⟩⟩)
         have HDR:Hid (Driven kd) := .inr (.inr hk3)
         clear hi0 hk3
         by_cases hc1:cv=1
         ·have dc1:((cv:Int) != 1)=false:=by simp [hc1]
          have HG2:=Lib.hid (HG.out ⟨HFT.out,fun _=>hc1⟩)
          clear hc1
          have HBV:=Lib.hid (below_new HBW.out (.cells #[.int .i64 kd,.int .i64 wd,.int .i64 it] 155))
          have HB1:=Lib.hid (below_new HB.out (.cells #[.int .i64 kd,.int .i64 wd,.int .i64 it] 155))
          have hy:=heap_new wr (.cells #[.int .i64 kd,.int .i64 wd,.int .i64 it] 155)
          have HY:=Lib.hid hy
          have y0:=cell_heap (k:=0) hy rfl
          have y1:=cell_heap (k:=1) hy rfl
          have y2:=cell_heap (k:=2) hy rfl
          have ly:=heap_lt0 hy
          clear hy
          go_upto_region 8 with fail
          generalize wr.alloc (.cells #[.int .i64 kd,.int .i64 wd,.int .i64 it] 155)=W5 at *
          clear x0 lx
          have hx:=heap_tr HBV.out HXM.out
          have x0:=cell_heap (k:=0) hx rfl
          have lx:=heap_lt0 hx
          clear hx
          have hd:=heap_tr HBV.out HXD.out
          have d0:=cell_heap (k:=0) hd rfl
          have ld:=heap_lt0 hd
          clear hd
          go_wp2_with fail
          refine (l01In_any kd 0 3 _).mono ?_
          rw [H1.out]
          rintro _ w' ⟨rfl,rfl⟩
          go_wp2_with fail
          refine (l01In_any wd 0 4 _).mono ?_
          rw [H2.out]
          rintro _ w' ⟨rfl,rfl⟩
          go_wp2_with fail
          refine (l01In_any it 0 15 _).mono ?_
          rw [H3.out]
          rintro _ w' ⟨rfl,rfl⟩
          go_wp2_with fail
          refine (HDC.out _ (HD.out.below HB1.out)).mono ?_
          rintro _ w6 ⟨rfl,b6⟩
          have HB6:=Lib.hid (below_tr HBV.out b6)
          clear b6 c0 c1 c2 y0 y1 y2 ly x0 lx d0 ld
          go_wp2_with fail
          go_roundw
          case rel=>exact ⟨k+1,by omega,by go_num,HB6.out,HG2.out⟩
          case measure=>simp [intOf];omega
         ·have dc1:((cv:Int) != 1)=true:=by simp;omega
          have HR:=Lib.hid (HNC.out HDR.out hc1)
          clear hc1
          have HBV:=Lib.hid (below_new HBW.out (.cells #[.int .i64 kd,.int .i64 wd,.int .i64 it] 155))
          have HB1:=Lib.hid (below_new HB.out (.cells #[.int .i64 kd,.int .i64 wd,.int .i64 it] 155))
          have hy:=heap_new wr (.cells #[.int .i64 kd,.int .i64 wd,.int .i64 it] 155)
          have HY:=Lib.hid hy
          have y0:=cell_heap (k:=0) hy rfl
          have y1:=cell_heap (k:=1) hy rfl
          have y2:=cell_heap (k:=2) hy rfl
          have ly:=heap_lt0 hy
          clear hy
          go_upto_region 8 with fail
          generalize wr.alloc (.cells #[.int .i64 kd,.int .i64 wd,.int .i64 it] 155)=W5 at *
          clear x0 lx
          have hx:=heap_tr HBV.out HXM.out
          have x0:=cell_heap (k:=0) hx rfl
          have lx:=heap_lt0 hx
          clear hx
          have hd:=heap_tr HBV.out HXD.out
          have d0:=cell_heap (k:=0) hd rfl
          have ld:=heap_lt0 hd
          clear hd
          go_wp2_with fail
          refine (l01In_any kd 0 3 _).mono ?_
          rw [H1.out]
          rintro _ w' ⟨rfl,rfl⟩
          go_wp2_with fail
          refine (l01In_any wd 0 4 _).mono ?_
          rw [H2.out]
          rintro _ w' ⟨rfl,rfl⟩
          go_wp2_with fail
          refine (l01In_any it 0 15 _).mono ?_
          rw [H3.out]
          rintro _ w' ⟨rfl,rfl⟩
          go_wp2_with fail
          refine (HDC.out _ (HD.out.below HB1.out)).mono ?_
          rintro _ w6 ⟨rfl,b6⟩
          have HB6:=Lib.hid (below_tr HB1.out b6)
          clear b6 c0 c1 c2 y0 y1 y2 ly x0 lx d0 ld
          go_wp2_with fail
          go_ret
          exact ⟨ret_ff HR.out,HB6.out⟩
        ·have dk3:(kd != 3)=true:=by simp [hk3]
         have HR:=Lib.hid (HNO.out fun h=>(HE.out.1 h).2.elim hi0 fun h=>hk3 h.1)
         clear hi0 hk3
         have HBV:=Lib.hid (below_new HBW.out (.cells #[.int .i64 kd,.int .i64 wd,.int .i64 it] 155))
         have HB1:=Lib.hid (below_new HB.out (.cells #[.int .i64 kd,.int .i64 wd,.int .i64 it] 155))
         have hy:=heap_new wr (.cells #[.int .i64 kd,.int .i64 wd,.int .i64 it] 155)
         have HY:=Lib.hid hy
         have y0:=cell_heap (k:=0) hy rfl
         have y1:=cell_heap (k:=1) hy rfl
         have y2:=cell_heap (k:=2) hy rfl
         have ly:=heap_lt0 hy
         clear hy
         go_upto_region 8 with fail
         generalize wr.alloc (.cells #[.int .i64 kd,.int .i64 wd,.int .i64 it] 155)=W5 at *
         clear x0 lx
         have hx:=heap_tr HBV.out HXM.out
         have x0:=cell_heap (k:=0) hx rfl
         have lx:=heap_lt0 hx
         clear hx
         have hd:=heap_tr HBV.out HXD.out
         have d0:=cell_heap (k:=0) hd rfl
         have ld:=heap_lt0 hd
         clear hd
         go_wp2_with fail
         refine (l01In_any kd 0 3 _).mono ?_
         rw [H1.out]
         rintro _ w' ⟨rfl,rfl⟩
         go_wp2_with fail
         refine (l01In_any wd 0 4 _).mono ?_
         rw [H2.out]
         rintro _ w' ⟨rfl,rfl⟩
         go_wp2_with fail
         refine (l01In_any it 0 15 _).mono ?_
         rw [H3.out]
         rintro _ w' ⟨rfl,rfl⟩
         go_wp2_with fail
         go_ret
         exact ⟨ret_ff HR.out,HB1.out⟩
   ·have hkn:k=sn:=by omega
    have hdk:decide ((k:Int)<(sn:Int))=false:=by simp;omega
    clear hlt
    subst k
    have HF1:Hid (∀s,s<(mdK d kk).sigs.length→SgFit (sgK (mdK d kk).sigs s)):=fun i hi=>(HALL.out i (by rw [HM.out.lens.1] at hi;exact hi)).1
    have HFC:Hid (∀s:Nat,s<(mdK d kk).sigs.length→Driven (sgK (mdK d kk).sigs s).kind→(drvs d (mdK d kk)).count (s:Int)=1):=fun i hi=>(HALL.out i (by rw [HM.out.lens.1] at hi;exact hi)).2
    have hsf:=HF1.out
    go_wp2_with fail
    clear x0 lx
    go_loopw [8] (fun i wr=>∃k:Nat,k≤an∧i = .int .i64 (k:Int)∧Below W8.heap.size W8 wr∧(∀i,i<k→AsFit (mdK d kk) ((mdK d kk).asgs[i]?.getD AsT.zero))) (fun i _=>an - (intOf i).toNat)
    case atStart=>exact ⟨0,by omega,rfl,HBW.out,fun i hi=>by omega⟩
    case round =>
     obtain ⟨k,hlek,rfl,hb,hall⟩:=hrel
     have HALL:=Lib.hid hall
     have HBW:=Lib.hid hb
     have HB:=Lib.hid (below_tr HB8.out hb)
     clear hb hall
     have hx:=heap_tr HBW.out HXM.out
     have x1:=cell_heap (k:=1) hx rfl
     have lx:=heap_lt0 hx
     clear hx
     by_cases hlt:k<an
     ·have hdk:decide ((k:Int)<(an:Int))=true:=by simp;omega
      have i0:(0:Int)≤(k:Int):=by omega
      have i1:(k:Int)<(an:Int):=by omega
      have hkl:k<(mdK d kk).asgs.length:=by rw [HM.out.lens.2.1];exact hlt
      obtain ⟨ba,oa,QA,qn,qc,hAA,hba,c0,c1,r0⟩:=HM.out.asg.asE (k:=k) hkl
      subst hAA
      rw [←HB.out.cell (p:=⟨ba,oa+k * 2,none⟩) hba] at c0
      rw [←HB.out.cell (p:=⟨ba,oa+k * 2+1,none⟩) hba] at c1
      have lba:=below_lt HB.out hba
      have HR0:=Lib.hid r0
      have HNO:=Lib.hid (fun (h:¬AsFit (mdK d kk) ((mdK d kk).asgs[k]?.getD AsT.zero)) (h2:MdFit d kk)=>h (h2.asg k hkl))
      have HG:=Lib.hid (fun h:AsFit (mdK d kk) ((mdK d kk).asgs[k]?.getD AsT.zero)=>all_succ HALL.out h)
      generalize (mdK d kk).asgs[k]?.getD AsT.zero=q at *
      obtain ⟨tg,ops⟩:=q
      simp only at c0 c1 HR0
      clear hkl hba r0
      have HAF:Hid (AsFit (mdK d kk) ⟨tg,ops⟩↔(Drives (mdK d kk) tg∨kdOf (mdK d kk) tg=3)∧OpsFit ops (sn:Int)):=by
       show ((InSg (mdK d kk) tg∧Driven (sgK (mdK d kk).sigs tg.toNat).kind)∧OpsFit ops ((mdK d kk).sigs.length:Int))↔_
       rw [HM.out.lens.1]
       have h3:(InSg (mdK d kk) tg∧Driven (sgK (mdK d kk).sigs tg.toNat).kind)↔(Drives (mdK d kk) tg∨kdOf (mdK d kk) tg=3):=by
        by_cases h:InSg (mdK d kk) tg
        ·rw [kdOf_in h]
         unfold Drives Driven
         constructor
         ·rintro ⟨_,h1|h1|h1⟩
          ·exact .inl ⟨h,.inl h1⟩
          ·exact .inl ⟨h,.inr h1⟩
          ·exact .inr h1
         ·rintro (⟨_,h1|h1⟩|h1)
          ·exact ⟨h,.inl h1⟩
          ·exact ⟨h,.inr (.inl h1)⟩
          ·exact ⟨h,.inr (.inr h1)⟩
        ·rw [kdOf_out h]
         constructor
         ·exact fun h1=>absurd h1.1 h
         ·rintro (h1|h1)
          ·exact absurd h1.1 h
          ·omega
       rw [h3]
      clear x1 lx
      have hx:=heap_tr HBW.out HXM.out
      have x0:=cell_heap (k:=0) hx rfl
      have x1:=cell_heap (k:=1) hx rfl
      have x2:=cell_heap (k:=2) hx rfl
      have x3:=cell_heap (k:=3) hx rfl
      have lx:=heap_lt0 hx
      clear hx
      by_cases hdv:Drives (mdK d kk) tg
      ·have HT:=Lib.hid (tb_true hdv)
       by_cases hof:OpsFit ops (sn:Int)
       ·have HG2:=Lib.hid (HG.out (HAF.out.2 ⟨.inl hdv,hof⟩))
        have HO:=Lib.hid (tb_true hof)
        clear hdv hof
        have HBV:=Lib.hid (below_new HBW.out (.cells #[.int .i64 tg,.slice QA qn qc] 196))
        have HB1:=Lib.hid (below_new HB.out (.cells #[.int .i64 tg,.slice QA qn qc] 196))
        have hy:=heap_new wr (.cells #[.int .i64 tg,.slice QA qn qc] 196)
        have HY:=Lib.hid hy
        have y0:=cell_heap (k:=0) hy rfl
        have y1:=cell_heap (k:=1) hy rfl
        have ly:=heap_lt0 hy
        clear hy
        go_upto_region 16 with fail
        generalize wr.alloc (.cells #[.int .i64 tg,.slice QA qn qc] 196)=W5 at *
        clear x0 x1 x2 x3 lx
        have hx:=heap_tr HBV.out HXM.out
        have x0:=cell_heap (k:=0) hx rfl
        have x1:=cell_heap (k:=1) hx rfl
        have x2:=cell_heap (k:=2) hx rfl
        have x3:=cell_heap (k:=3) hx rfl
        have lx:=heap_lt0 hx
        clear hx
        go_wp2_with fail
        refine (sl04Driven_any (mdK d kk) SA _ JA MA sn sc an ac jn jc mn mc tg _ (HM.out.below HB1.out)).mono ?_
        rw [HT.out]
        rintro _ w6 ⟨rfl,b6⟩
        have HB6:=Lib.hid (below_tr HB1.out b6)
        have HBV6:=Lib.hid (below_tr HBV.out b6)
        have HY6:=Lib.hid (heap_tr b6 HY.out)
        clear b6 y0 y1 ly x0 x1 x2 x3 lx
        have hy:=HY6.out
        have y0:=cell_heap (k:=0) hy rfl
        have y1:=cell_heap (k:=1) hy rfl
        have ly:=heap_lt0 hy
        clear hy
        have hx:=heap_tr HBV6.out HXM.out
        have x0:=cell_heap (k:=0) hx rfl
        have x1:=cell_heap (k:=1) hx rfl
        have x2:=cell_heap (k:=2) hx rfl
        have x3:=cell_heap (k:=3) hx rfl
        have lx:=heap_lt0 hx
        clear hx
        go_wp2_with fail
        refine (sopsOk_any ops QA qn qc (sn:Int) _ (HR0.out.below HB6.out)).mono ?_
        rw [HO.out]
        rintro _ w8 ⟨rfl,b8⟩
        have HB8x:=Lib.hid (below_tr HB6.out b8)
        have HBV8:=Lib.hid (below_tr HBV6.out b8)
        clear b8 y0 y1 ly x0 x1 x2 x3 lx
        go_wp2_with fail
        go_roundw
        case rel=>exact ⟨k+1,by omega,by go_num,HBV8.out,HG2.out⟩
        case measure=>simp [intOf];omega
       ·have HR:=Lib.hid (HNO.out fun h=>hof (HAF.out.1 h).2)
        have HO:=Lib.hid (tb_false hof)
        clear hdv hof
        have HBV:=Lib.hid (below_new HBW.out (.cells #[.int .i64 tg,.slice QA qn qc] 196))
        have HB1:=Lib.hid (below_new HB.out (.cells #[.int .i64 tg,.slice QA qn qc] 196))
        have hy:=heap_new wr (.cells #[.int .i64 tg,.slice QA qn qc] 196)
        have HY:=Lib.hid hy
        have y0:=cell_heap (k:=0) hy rfl
        have y1:=cell_heap (k:=1) hy rfl
        have ly:=heap_lt0 hy
        clear hy
        go_upto_region 16 with fail
        generalize wr.alloc (.cells #[.int .i64 tg,.slice QA qn qc] 196)=W5 at *
        clear x0 x1 x2 x3 lx
        have hx:=heap_tr HBV.out HXM.out
        have x0:=cell_heap (k:=0) hx rfl
        have x1:=cell_heap (k:=1) hx rfl
        have x2:=cell_heap (k:=2) hx rfl
        have x3:=cell_heap (k:=3) hx rfl
        have lx:=heap_lt0 hx
        clear hx
        go_wp2_with fail
        refine (sl04Driven_any (mdK d kk) SA _ JA MA sn sc an ac jn jc mn mc tg _ (HM.out.below HB1.out)).mono ?_
        rw [HT.out]
        rintro _ w6 ⟨rfl,b6⟩
        have HB6:=Lib.hid (below_tr HB1.out b6)
        have HBV6:=Lib.hid (below_tr HBV.out b6)
        have HY6:=Lib.hid (heap_tr b6 HY.out)
        clear b6 y0 y1 ly x0 x1 x2 x3 lx
        have hy:=HY6.out
        have y0:=cell_heap (k:=0) hy rfl
        have y1:=cell_heap (k:=1) hy rfl
        have ly:=heap_lt0 hy
        clear hy
        have hx:=heap_tr HBV6.out HXM.out
        have x0:=cell_heap (k:=0) hx rfl
        have x1:=cell_heap (k:=1) hx rfl
        have x2:=cell_heap (k:=2) hx rfl
        have x3:=cell_heap (k:=3) hx rfl
        have lx:=heap_lt0 hx
        clear hx
        go_wp2_with fail
        refine (sopsOk_any ops QA qn qc (sn:Int) _ (HR0.out.below HB6.out)).mono ?_
        rw [HO.out]
        rintro _ w8 ⟨rfl,b8⟩
        have HB8x:=Lib.hid (below_tr HB6.out b8)
        have HBV8:=Lib.hid (below_tr HBV6.out b8)
        clear b8 y0 y1 ly x0 x1 x2 x3 lx
        go_wp2_with fail
        go_ret
        exact ⟨ret_ff HR.out,HB8x.out⟩
      ·have HT:=Lib.hid (tb_false hdv)
       obtain ⟨kd,hkd⟩:∃k,kdOf (mdK d kk) tg=k:=⟨_,rfl⟩
       rw [hkd] at HAF
       have HK:=Lib.hid hkd
       clear hkd
       by_cases h3:kd=3
       ·have d3:(kd != 3)=false:=by simp [h3]
        by_cases hof:OpsFit ops (sn:Int)
        ·have HG2:=Lib.hid (HG.out (HAF.out.2 ⟨.inr h3,hof⟩))
         have HO:=Lib.hid (tb_true hof)
         clear hdv hof h3
         have HBV:=Lib.hid (below_new HBW.out (.cells #[.int .i64 tg,.slice QA qn qc] 196))
         have HB1:=Lib.hid (below_new HB.out (.cells #[.int .i64 tg,.slice QA qn qc] 196))
         have hy:=heap_new wr (.cells #[.int .i64 tg,.slice QA qn qc] 196)
         have HY:=Lib.hid hy
         have y0:=cell_heap (k:=0) hy rfl
         have y1:=cell_heap (k:=1) hy rfl
         have ly:=heap_lt0 hy
         clear hy
         go_upto_region 16 with fail
         generalize wr.alloc (.cells #[.int .i64 tg,.slice QA qn qc] 196)=W5 at *
         clear x0 x1 x2 x3 lx
         have hx:=heap_tr HBV.out HXM.out
         have x0:=cell_heap (k:=0) hx rfl
         have x1:=cell_heap (k:=1) hx rfl
         have x2:=cell_heap (k:=2) hx rfl
         have x3:=cell_heap (k:=3) hx rfl
         have lx:=heap_lt0 hx
         clear hx
         go_wp2_with fail
         refine (sl04Driven_any (mdK d kk) SA _ JA MA sn sc an ac jn jc mn mc tg _ (HM.out.below HB1.out)).mono ?_
         rw [HT.out]
         rintro _ w6 ⟨rfl,b6⟩
         have HB6:=Lib.hid (below_tr HB1.out b6)
         have HBV6:=Lib.hid (below_tr HBV.out b6)
         have HY6:=Lib.hid (heap_tr b6 HY.out)
         clear b6 y0 y1 ly x0 x1 x2 x3 lx
         have hy:=HY6.out
         have y0:=cell_heap (k:=0) hy rfl
         have y1:=cell_heap (k:=1) hy rfl
         have ly:=heap_lt0 hy
         clear hy
         have hx:=heap_tr HBV6.out HXM.out
         have x0:=cell_heap (k:=0) hx rfl
         have x1:=cell_heap (k:=1) hx rfl
         have x2:=cell_heap (k:=2) hx rfl
         have x3:=cell_heap (k:=3) hx rfl
         have lx:=heap_lt0 hx
         clear hx
         go_wp2_with fail
         refine (sl04Kind_any (mdK d kk) SA _ JA MA sn sc an ac jn jc mn mc tg _ (HM.out.below HB6.out)).mono ?_
         rw [HK.out]
         rintro _ w7 ⟨rfl,b7⟩
         have HB7:=Lib.hid (below_tr HB6.out b7)
         have HBV7:=Lib.hid (below_tr HBV6.out b7)
         have HY7:=Lib.hid (heap_tr b7 HY6.out)
         clear b7 y0 y1 ly x0 x1 x2 x3 lx
         have hy:=HY7.out
         have y0:=cell_heap (k:=0) hy rfl
         have y1:=cell_heap (k:=1) hy rfl
         have ly:=heap_lt0 hy
         clear hy
         have hx:=heap_tr HBV7.out HXM.out
         have x0:=cell_heap (k:=0) hx rfl
         have x1:=cell_heap (k:=1) hx rfl
         have x2:=cell_heap (k:=2) hx rfl
         have x3:=cell_heap (k:=3) hx rfl
         have lx:=heap_lt0 hx
         clear hx
         go_wp2_with fail
         refine (sopsOk_any ops QA qn qc (sn:Int) _ (HR0.out.below HB7.out)).mono ?_
         rw [HO.out]
         rintro _ w8 ⟨rfl,b8⟩
         have HB8x:=Lib.hid (below_tr HB7.out b8)
         have HBV8:=Lib.hid (below_tr HBV7.out b8)
         clear b8 y0 y1 ly x0 x1 x2 x3 lx
         go_wp2_with fail
         go_roundw
         case rel=>exact ⟨k+1,by omega,by go_num,HBV8.out,HG2.out⟩
         case measure=>simp [intOf];omega
        ·have HR:=Lib.hid (HNO.out fun h=>hof (HAF.out.1 h).2)
         have HO:=Lib.hid (tb_false hof)
         clear hdv hof h3
         have HBV:=Lib.hid (below_new HBW.out (.cells #[.int .i64 tg,.slice QA qn qc] 196))
         have HB1:=Lib.hid (below_new HB.out (.cells #[.int .i64 tg,.slice QA qn qc] 196))
         have hy:=heap_new wr (.cells #[.int .i64 tg,.slice QA qn qc] 196)
         have HY:=Lib.hid hy
         have y0:=cell_heap (k:=0) hy rfl
         have y1:=cell_heap (k:=1) hy rfl
         have ly:=heap_lt0 hy
         clear hy
         go_upto_region 16 with fail
         generalize wr.alloc (.cells #[.int .i64 tg,.slice QA qn qc] 196)=W5 at *
         clear x0 x1 x2 x3 lx
         have hx:=heap_tr HBV.out HXM.out
         have x0:=cell_heap (k:=0) hx rfl
         have x1:=cell_heap (k:=1) hx rfl
         have x2:=cell_heap (k:=2) hx rfl
         have x3:=cell_heap (k:=3) hx rfl
         have lx:=heap_lt0 hx
         clear hx
         go_wp2_with fail
         refine (sl04Driven_any (mdK d kk) SA _ JA MA sn sc an ac jn jc mn mc tg _ (HM.out.below HB1.out)).mono ?_
         rw [HT.out]
         rintro _ w6 ⟨rfl,b6⟩
         have HB6:=Lib.hid (below_tr HB1.out b6)
         have HBV6:=Lib.hid (below_tr HBV.out b6)
         have HY6:=Lib.hid (heap_tr b6 HY.out)
         clear b6 y0 y1 ly x0 x1 x2 x3 lx
         have hy:=HY6.out
         have y0:=cell_heap (k:=0) hy rfl
         have y1:=cell_heap (k:=1) hy rfl
         have ly:=heap_lt0 hy
         clear hy
         have hx:=heap_tr HBV6.out HXM.out
         have x0:=cell_heap (k:=0) hx rfl
         have x1:=cell_heap (k:=1) hx rfl
         have x2:=cell_heap (k:=2) hx rfl
         have x3:=cell_heap (k:=3) hx rfl
         have lx:=heap_lt0 hx
         clear hx
         go_wp2_with fail
         refine (sl04Kind_any (mdK d kk) SA _ JA MA sn sc an ac jn jc mn mc tg _ (HM.out.below HB6.out)).mono ?_
         rw [HK.out]
         rintro _ w7 ⟨rfl,b7⟩
         have HB7:=Lib.hid (below_tr HB6.out b7)
         have HBV7:=Lib.hid (below_tr HBV6.out b7)
         have HY7:=Lib.hid (heap_tr b7 HY6.out)
         clear b7 y0 y1 ly x0 x1 x2 x3 lx
         have hy:=HY7.out
         have y0:=cell_heap (k:=0) hy rfl
         have y1:=cell_heap (k:=1) hy rfl
         have ly:=heap_lt0 hy
         clear hy
         have hx:=heap_tr HBV7.out HXM.out
         have x0:=cell_heap (k:=0) hx rfl
         have x1:=cell_heap (k:=1) hx rfl
         have x2:=cell_heap (k:=2) hx rfl
         have x3:=cell_heap (k:=3) hx rfl
         have lx:=heap_lt0 hx
         clear hx
         go_wp2_with fail
         refine (sopsOk_any ops QA qn qc (sn:Int) _ (HR0.out.below HB7.out)).mono ?_
         rw [HO.out]
         rintro _ w8 ⟨rfl,b8⟩
         have HB8x:=Lib.hid (below_tr HB7.out b8)
         have HBV8:=Lib.hid (below_tr HBV7.out b8)
         clear b8 y0 y1 ly x0 x1 x2 x3 lx
         go_wp2_with fail
         go_ret
         exact ⟨ret_ff HR.out,HB8x.out⟩
       ·have d3:(kd != 3)=true:=by simp [h3]
        have HR:=Lib.hid (HNO.out fun h=>(HAF.out.1 h).1.elim hdv h3)
        clear hdv h3
        have HBV:=Lib.hid (below_new HBW.out (.cells #[.int .i64 tg,.slice QA qn qc] 196))
        have HB1:=Lib.hid (below_new HB.out (.cells #[.int .i64 tg,.slice QA qn qc] 196))
        have hy:=heap_new wr (.cells #[.int .i64 tg,.slice QA qn qc] 196)
        have HY:=Lib.hid hy
        have y0:=cell_heap (k:=0) hy rfl
        have y1:=cell_heap (k:=1) hy rfl
        have ly:=heap_lt0 hy
        clear hy
        go_upto_region 16 with fail
        generalize wr.alloc (.cells #[.int .i64 tg,.slice QA qn qc] 196)=W5 at *
        clear x0 x1 x2 x3 lx
        have hx:=heap_tr HBV.out HXM.out
        have x0:=cell_heap (k:=0) hx rfl
        have x1:=cell_heap (k:=1) hx rfl
        have x2:=cell_heap (k:=2) hx rfl
        have x3:=cell_heap (k:=3) hx rfl
        have lx:=heap_lt0 hx
        clear hx
        go_wp2_with fail
        refine (sl04Driven_any (mdK d kk) SA _ JA MA sn sc an ac jn jc mn mc tg _ (HM.out.below HB1.out)).mono ?_
        rw [HT.out]
        rintro _ w6 ⟨rfl,b6⟩
        have HB6:=Lib.hid (below_tr HB1.out b6)
        have HBV6:=Lib.hid (below_tr HBV.out b6)
        have HY6:=Lib.hid (heap_tr b6 HY.out)
        clear b6 y0 y1 ly x0 x1 x2 x3 lx
        have hy:=HY6.out
        have y0:=cell_heap (k:=0) hy rfl
        have y1:=cell_heap (k:=1) hy rfl
        have ly:=heap_lt0 hy
        clear hy
        have hx:=heap_tr HBV6.out HXM.out
        have x0:=cell_heap (k:=0) hx rfl
        have x1:=cell_heap (k:=1) hx rfl
        have x2:=cell_heap (k:=2) hx rfl
        have x3:=cell_heap (k:=3) hx rfl
        have lx:=heap_lt0 hx
        clear hx
        go_wp2_with fail
        refine (sl04Kind_any (mdK d kk) SA _ JA MA sn sc an ac jn jc mn mc tg _ (HM.out.below HB6.out)).mono ?_
        rw [HK.out]
        rintro _ w7 ⟨rfl,b7⟩
        have HB7:=Lib.hid (below_tr HB6.out b7)
        have HBV7:=Lib.hid (below_tr HBV6.out b7)
        have HY7:=Lib.hid (heap_tr b7 HY6.out)
        clear b7 y0 y1 ly x0 x1 x2 x3 lx
        have hy:=HY7.out
        have y0:=cell_heap (k:=0) hy rfl
        have y1:=cell_heap (k:=1) hy rfl
        have ly:=heap_lt0 hy
        clear hy
        have hx:=heap_tr HBV7.out HXM.out
        have x0:=cell_heap (k:=0) hx rfl
        have x1:=cell_heap (k:=1) hx rfl
        have x2:=cell_heap (k:=2) hx rfl
        have x3:=cell_heap (k:=3) hx rfl
        have lx:=heap_lt0 hx
        clear hx
        go_wp2_with fail
        go_ret
        exact ⟨ret_ff HR.out,HB7.out⟩
     ·have hkn:k=an:=by omega
      have hdk:decide ((k:Int)<(an:Int))=false:=by simp;omega
      clear hlt
      subst k
      have HF2:Hid (∀i,i<(mdK d kk).asgs.length→AsFit (mdK d kk) ((mdK d kk).asgs[i]?.getD AsT.zero)):=fun i hi=>HALL.out i (by rw [HM.out.lens.2.1] at hi;exact hi)
      go_wp2_with fail
      clear x1 lx
      go_loopw [10] (fun i wr=>∃k:Nat,k≤jn∧i = .int .i64 (k:Int)∧Below W8.heap.size W8 wr∧(∀i,i<k→InFit d (mdK d kk) ((mdK d kk).insts[i]?.getD InT.zero))) (fun i _=>jn - (intOf i).toNat)
      case atStart=>exact ⟨0,by omega,rfl,HBW.out,fun i hi=>by omega⟩
      case round =>
       obtain ⟨k,hlek,rfl,hb,hall⟩:=hrel
       have HALL:=Lib.hid hall
       have HBW:=Lib.hid hb
       have HB:=Lib.hid (below_tr HB8.out hb)
       clear hb hall
       have hx:=heap_tr HBW.out HXM.out
       have x2:=cell_heap (k:=2) hx rfl
       have lx:=heap_lt0 hx
       clear hx
       by_cases hlt:k<jn
       ·have hdk:decide ((k:Int)<(jn:Int))=true:=by simp;omega
        have i0:(0:Int)≤(k:Int):=by omega
        have i1:(k:Int)<(jn:Int):=by omega
        have hkl:k<(mdK d kk).insts.length:=by rw [HM.out.lens.2.2.1];exact hlt
        have hkl2:=Lib.hid hkl
        obtain ⟨bi,oi,PA,pn,pc,hJA,hbi,c0,c1,c2,r0⟩:=HM.out.ins.inE (k:=k) hkl
        subst hJA
        rw [←HB.out.cell (p:=⟨bi,oi+k * 3,none⟩) hbi] at c0
        rw [←HB.out.cell (p:=⟨bi,oi+k * 3+1,none⟩) hbi] at c1
        rw [←HB.out.cell (p:=⟨bi,oi+k * 3+2,none⟩) hbi] at c2
        have lbi:=below_lt HB.out hbi
        have HR0:=Lib.hid r0
        have hin:=hif k hkl
        have HNI:=Lib.hid (fun (h:¬InFit d (mdK d kk) ((mdK d kk).insts[k]?.getD InT.zero)) (h2:MdFit d kk)=>h (h2.inst k hkl))
        have HG3:=Lib.hid (fun h:InFit d (mdK d kk) ((mdK d kk).insts[k]?.getD InT.zero)=>all_succ HALL.out h)
        have hIE:InFit d (mdK d kk) ((mdK d kk).insts[k]?.getD InT.zero)↔InFit d (mdK d kk) ((mdK d kk).insts[k]?.getD InT.zero):=Iff.rfl
        obtain ⟨q,hq⟩:∃q,(mdK d kk).insts[k]?.getD InT.zero=q:=⟨_,rfl⟩
        conv at hIE=>rhs;rw [hq]
        rw [hq] at c0 c1 HR0 hin
        clear hkl hbi r0 hq
        obtain ⟨mo,pa,po⟩:=q
        simp only at c0 c1 c2 HR0
        obtain ⟨hm1,hm2⟩:=hin
        simp only at hm1 hm2
        obtain ⟨M,rfl⟩:∃M:Nat,mo=(M:Int):=⟨mo.toNat,by omega⟩
        rw [Int.toNat_natCast] at hm2
        have HIE:Hid (InFit d (mdK d kk) ((mdK d kk).insts[k]?.getD InT.zero)↔(0≤pa∧pa≤4)∧∀j,j<(portsOf (mdK d M)).length→PortFit (mdK d kk) (mdK d M) po j):=by
         show _↔_
         rw [hIE]
         show (_∧∀j,j<(portsOf (mdK d (M:Int).toNat)).length→PortFit (mdK d kk) (mdK d (M:Int).toNat) po j)↔_
         rw [Int.toNat_natCast]
        clear hIE
        have hpn:=HR0.out.ints.1
        have hpl:=portsOf_len (mdK d M)
        obtain ⟨bd2,od2,SA2,AA2,JA2,MA2,sn2,sc2,an2,ac2,jn2,jc2,mn2,mc2,hDA2,hbd2,e02,e12,e22,e32,rm2⟩:=HD.out.md (k:=M) (by omega)
        have HM2:=Lib.hid rm2
        clear rm2
        injection hDA2 with hDA2
        injection hDA2 with hDA2 hDA3
        subst hDA2 hDA3
        have i2:(0:Int)≤(M:Int):=by omega
        have i3:(M:Int)<(dn:Int):=by omega
        have HBV:=Lib.hid (below_new HBW.out (.cells #[.int .i64 (M:Int),.int .i64 pa,.slice PA pn pc] 202))
        have HB1:=Lib.hid (below_new HB.out (.cells #[.int .i64 (M:Int),.int .i64 pa,.slice PA pn pc] 202))
        have hy:=heap_new wr (.cells #[.int .i64 (M:Int),.int .i64 pa,.slice PA pn pc] 202)
        have HY:=Lib.hid hy
        have y0:=cell_heap (k:=0) hy rfl
        have y1:=cell_heap (k:=1) hy rfl
        have y2:=cell_heap (k:=2) hy rfl
        have ly:=heap_lt0 hy
        clear hy
        go_upto_region 22 with fail
        generalize wr.alloc (.cells #[.int .i64 (M:Int),.int .i64 pa,.slice PA pn pc] 202)=W5 at *
        clear x2 lx c0 c1 c2 lbi
        rw [←HB1.out.cell (p:=⟨bd,od+M * 4,none⟩) hbd2] at e02
        rw [←HB1.out.cell (p:=⟨bd,od+M * 4+1,none⟩) hbd2] at e12
        rw [←HB1.out.cell (p:=⟨bd,od+M * 4+2,none⟩) hbd2] at e22
        rw [←HB1.out.cell (p:=⟨bd,od+M * 4+3,none⟩) hbd2] at e32
        have lbd2:=below_lt HB1.out hbd2
        have hd:=heap_tr HBV.out HXD.out
        have d0:=cell_heap (k:=0) hd rfl
        have ld:=heap_lt0 hd
        clear hd
        have hx:=heap_tr HBV.out HXM.out
        have x2:=cell_heap (k:=2) hx rfl
        have lx:=heap_lt0 hx
        clear hx
        have HBN:=Lib.hid (below_new HB1.out (.cells #[.slice SA2 sn2 sc2,.slice AA2 an2 ac2,.slice JA2 jn2 jc2,.slice MA2 mn2 mc2] 108))
        have HBVN:=Lib.hid (below_new HBV.out (.cells #[.slice SA2 sn2 sc2,.slice AA2 an2 ac2,.slice JA2 jn2 jc2,.slice MA2 mn2 mc2] 108))
        have hu:=heap_new W5 (.cells #[.slice SA2 sn2 sc2,.slice AA2 an2 ac2,.slice JA2 jn2 jc2,.slice MA2 mn2 mc2] 108)
        have HXN0:=Lib.hid hu
        have HY2:=Lib.hid (heap_al (.cells #[.slice SA2 sn2 sc2,.slice AA2 an2 ac2,.slice JA2 jn2 jc2,.slice MA2 mn2 mc2] 108) HY.out)
        have u0:=cell_heap (k:=0) hu rfl
        have u1:=cell_heap (k:=1) hu rfl
        have u2:=cell_heap (k:=2) hu rfl
        have u3:=cell_heap (k:=3) hu rfl
        have lu:=heap_lt0 hu
        clear hu
        go_upto_region 23 with fail
        obtain ⟨gN,hgN⟩:∃g,W5.heap.size=g:=⟨_,rfl⟩
        rw [hgN] at HXN0 u0 u1 u2 u3
        (try rw [hgN])
        clear hgN
        generalize W5.alloc (.cells #[.slice SA2 sn2 sc2,.slice AA2 an2 ac2,.slice JA2 jn2 jc2,.slice MA2 mn2 mc2] 108)=W6 at *
        clear x2 lx d0 ld y0 y1 y2 ly e02 e12 e22 e32 lbd2
        go_wp2_with fail
        refine (sportsOf_any (mdK d M) SA2 AA2 JA2 MA2 sn2 sc2 an2 ac2 jn2 jc2 mn2 mc2 _ (HM2.out.below HBN.out)).mono ?_
        rintro _ w4 ⟨A4,n4,rfl,S4⟩
        have HPI:=Lib.hid (S4.ints 0 rfl)
        have HB4:=Lib.hid (below_tr HBN.out S4.bel)
        have HBW4:=Lib.hid (below_tr HBVN.out S4.bel)
        have HXN:=Lib.hid (heap_tr S4.bel HXN0.out)
        have HY3:=Lib.hid (heap_tr S4.bel HY2.out)
        have HXM4:=Lib.hid (heap_tr HBW4.out HXM.out)
        clear S4 u0 u1 u2 u3 lu HXN0 HY2 HBN HBVN
        have hy:=HY3.out
        have y1:=cell_heap (k:=1) hy rfl
        have ly:=heap_lt0 hy
        clear hy
        cases h1:inR pa 0 4 with
        | false =>
         have HR:=Lib.hid (HNI.out fun h=>not_in h1 (HIE.out.1 h).1)
         have H1:=Lib.hid h1
         clear h1
         go_wp2_with fail
         refine (l01In_any pa 0 4 _).mono ?_
         rw [H1.out]
         rintro _ w' ⟨rfl,rfl⟩
         go_wp2_with fail
         go_ret
         exact ⟨ret_ff HR.out,HB4.out⟩
        | true =>
         have hpa:=inR_iff.1 h1
         have H1:=Lib.hid h1
         clear h1
         go_wp2_with fail
         refine (l01In_any pa 0 4 _).mono ?_
         rw [H1.out]
         rintro _ w' ⟨rfl,rfl⟩
         clear y1 ly
         go_wp2_with fail
         go_loopw [14] (fun i wr=>∃j:Nat,j≤(portsOf (mdK d M)).length∧i = .int .i64 (j:Int)∧Below w4.heap.size w4 wr∧(∀i,i<j→PortFit (mdK d kk) (mdK d M) po i)) (fun i _=>(portsOf (mdK d M)).length - (intOf i).toNat)
         case atStart=>exact ⟨0,by omega,rfl,Below.refl _ _,fun j hj=>by omega⟩
         case round =>
          obtain ⟨j,hlej,rfl,hb,hall⟩:=hrel
          have HALL:=Lib.hid hall
          have HBW:=Lib.hid hb
          have HB:=Lib.hid (below_tr HB4.out hb)
          clear hb hall

          by_cases hltj:j<(portsOf (mdK d M)).length
          ·have hdkj:decide ((j:Int)<((portsOf (mdK d M)).length:Int))=true:=by simp;omega
           have i0j:(0:Int)≤(j:Int):=by omega
           have i1j:(j:Int)<((portsOf (mdK d M)).length:Int):=by omega
           have hpp:=portsOf_at hltj
           obtain ⟨bp,op,hA4,hbp,hcp⟩:=HPI.out.2 (by omega)
           have cp:=(HBW.out.cell (p:=⟨bp,op+j,none⟩) hbp).trans (hcp j hltj)
           have lbp:=below_lt HBW.out hbp
           subst hA4
           clear hcp hbp
           obtain ⟨bw,ow,hPA,hbw,hcw⟩:=HR0.out.ints.2 (by omega)
           have cw:=(HB.out.cell (p:=⟨bw,ow+j,none⟩) hbw).trans (hcw j (by omega))
           have lbw:=below_lt HB.out hbw
           subst hPA
           clear hcw hbw
           have HNO:=Lib.hid (fun (h:¬PortFit (mdK d kk) (mdK d M) po j) (h2:MdFit d kk)=>h ((HIE.out.1 (h2.inst k hkl2.out)).2 j hltj))
           have HG:=Lib.hid (fun h:PortFit (mdK d kk) (mdK d M) po j=>all_succ HALL.out h)
           have HPF:Hid (PortFit (mdK d kk) (mdK d M) po j↔InSg (mdK d kk) (po[j]?.getD 0)∧((sgK (mdK d M).sigs ((portsOf (mdK d M))[j]?.getD 0).toNat).kind=1→Drives (mdK d kk) (po[j]?.getD 0))):=Iff.rfl
           obtain ⟨Q,hQ⟩:∃Q:Nat,(portsOf (mdK d M))[j]?.getD 0=(Q:Int):=⟨((portsOf (mdK d M))[j]?.getD 0).toNat,by omega⟩
           rw [hQ] at hpp cp HPF
           rw [Int.toNat_natCast] at HPF
           have hQs:Q<sn2:=by have h1:=HM2.out.lens.1;omega
           obtain ⟨bs,os,hSA2,hbs,z0,z1,z2⟩:=HM2.out.sg.sgE (k:=Q) (by rw [HM2.out.lens.1];exact hQs)
           have z0:=(HB.out.cell (p:=⟨bs,os+Q * 3,none⟩) hbs).trans z0
           have lbs:=below_lt HB.out hbs
           have HKD:Hid ((sgK (mdK d M).sigs Q).kind=((mdK d M).sigs[Q]?.getD SgT.zero).kind):=rfl
           rw [HKD.out] at HPF
           generalize ((mdK d M).sigs[Q]?.getD SgT.zero).kind=kd at *
           generalize po[j]?.getD 0=pj at *
           subst hSA2
           clear hQ z1 z2 hbs HKD
           have q0:(0:Int)≤(Q:Int):=by omega
           have q1:(Q:Int)<(sn2:Int):=by omega
           have j2:(j:Int)<(pn:Int):=by omega
           have hx:=heap_tr HBW.out HXM4.out
           have x0:=cell_heap (k:=0) hx rfl
           have x1:=cell_heap (k:=1) hx rfl
           have x2:=cell_heap (k:=2) hx rfl
           have x3:=cell_heap (k:=3) hx rfl
           have lx:=heap_lt0 hx
           clear hx
           have hz:=heap_tr HBW.out HY3.out
           have zz2:=cell_heap (k:=2) hz rfl
           have lzz:=heap_lt0 hz
           clear hz
           have hu:=heap_tr HBW.out HXN.out
           have u0:=cell_heap (k:=0) hu rfl
           have lu:=heap_lt0 hu
           clear hu
           go_upto_region 29 with fail
           obtain ⟨kq,hkq⟩:∃k,kdOf (mdK d kk) pj=k:=⟨_,rfl⟩
           have HLK:=Lib.hid (fun (v:Sub wr)=>(by have h:=sl04Kind_any (mdK d kk) SA AA (some ⟨bi,oi,none⟩) MA sn sc an ac jn jc mn mc pj v.v (HM.out.below (below_tr HB.out v.h));rwa [hkq] at h:Calls Tryz.prog 194 #[.agg #[.slice SA sn sc,.slice AA an ac,.slice (some ⟨bi,oi,none⟩) jn jc,.slice MA mn mc],.int .i64 pj] v.v fun e w'=>e = .returned (.int .i64 kq)∧Below v.v.heap.size v.v w'))
           have HLD:=Lib.hid (fun (v:Sub wr)=>sl04Driven_any (mdK d kk) SA AA (some ⟨bi,oi,none⟩) MA sn sc an ac jn jc mn mc pj v.v (HM.out.below (below_tr HB.out v.h)))
           by_cases hin:InSg (mdK d kk) pj
           ·have hge:decide (kq<0)=false:=by
             have h1:=portFit_kd hin hsf
             rw [hkq] at h1
             exact decide_eq_false (by omega)
            by_cases hk1:kd=1
            ·have d1:(kd==1)=true:=by simp [hk1]
             by_cases hdv:Drives (mdK d kk) pj
             ·rw [tb_true hdv] at HLD
              have HG2:=Lib.hid (HG.out (HPF.out.2 ⟨hin,fun _=>hdv⟩))
              clear hkq hin hk1 hdv
              have hsub:=sub_ne wr
              have hsc:=sub_cell wr
              refine wp_region_below wr (by kernel_rfl) (by kernel_rfl) (Below.refl _ _) ?_
              repeat (go_big_quiet_step ((first
               | (go_at_call 194;with_reducible exact calls_sub (HLK.out _))
               | (go_at_call 193;with_reducible exact calls_sub (HLD.out _)))))
              refine wpQuiet_nil ?_
              rintro _ ⟨⟨w5,hD⟩,rfl⟩
              clear hsub hsc
              have HB2:=Lib.hid (below_tr HBW.out hD)
              clear hD
              go_wp2_with fail
              go_roundw
              case rel=>exact ⟨j+1,by omega,by go_num,HB2.out,HG2.out⟩
              case measure=>simp [intOf];omega
             ·rw [tb_false hdv] at HLD
              have HR:=Lib.hid (HNO.out fun h=>hdv ((HPF.out.1 h).2 hk1))
              clear hkq hin hk1 hdv
              have hsub:=sub_ne wr
              have hsc:=sub_cell wr
              refine wp_region_below wr (by kernel_rfl) (by kernel_rfl) (Below.refl _ _) ?_
              repeat (go_big_quiet_step ((first
               | (go_at_call 194;with_reducible exact calls_sub (HLK.out _))
               | (go_at_call 193;with_reducible exact calls_sub (HLD.out _)))))
              refine wpQuiet_nil ?_
              rintro _ ⟨⟨w5,hD⟩,rfl⟩
              clear hsub hsc
              have HB2:=Lib.hid (below_tr HB.out hD)
              clear hD
              go_wp2_with fail
              go_ret
              exact ⟨ret_ff HR.out,HB2.out⟩
            ·have d1:(kd==1)=false:=by simp [hk1]
             have HG2:=Lib.hid (HG.out (HPF.out.2 ⟨hin,fun h=>absurd h hk1⟩))
             clear hkq hin hk1
             have hsub:=sub_ne wr
             have hsc:=sub_cell wr
             refine wp_region_below wr (by kernel_rfl) (by kernel_rfl) (Below.refl _ _) ?_
             repeat (go_big_quiet_step ((first
              | (go_at_call 194;with_reducible exact calls_sub (HLK.out _)))))
             refine wpQuiet_nil ?_
             rintro _ ⟨⟨w5,hD⟩,rfl⟩
             clear hsub hsc
             have HB2:=Lib.hid (below_tr HBW.out hD)
             clear hD
             go_wp2_with fail
             go_roundw
             case rel=>exact ⟨j+1,by omega,by go_num,HB2.out,HG2.out⟩
             case measure=>simp [intOf];omega
           ·have hge:decide (kq<0)=true:=by
             rw [kdOf_out hin] at hkq
             exact decide_eq_true (by omega)
            have HR:=Lib.hid (HNO.out fun h=>hin (HPF.out.1 h).1)
            clear hkq hin
            have hsub:=sub_ne wr
            have hsc:=sub_cell wr
            refine wp_region_below wr (by kernel_rfl) (by kernel_rfl) (Below.refl _ _) ?_
            repeat (go_big_quiet_step ((first
             | (go_at_call 194;with_reducible exact calls_sub (HLK.out _)))))
            refine wpQuiet_nil ?_
            rintro _ ⟨⟨w5,hD⟩,rfl⟩
            clear hsub hsc
            have HB2:=Lib.hid (below_tr HB.out hD)
            clear hD
            go_wp2_with fail
            go_ret
            exact ⟨ret_ff HR.out,HB2.out⟩
          ·have hkn:j=(portsOf (mdK d M)).length:=by omega
           have hdkj:decide ((j:Int)<((portsOf (mdK d M)).length:Int))=false:=by simp;omega
           clear hltj
           subst j
           have HG2:=Lib.hid (HG3.out (HIE.out.2 ⟨hpa,fun j hj=>HALL.out j hj⟩))
           go_wp2_with fail
           go_roundw
           case rel=>exact ⟨k+1,by omega,by go_num,below_tr HBW4.out HBW.out,HG2.out⟩
           case measure=>simp [intOf];omega
       ·have hkn:k=jn:=by omega
        have hdk:decide ((k:Int)<(jn:Int))=false:=by simp;omega
        clear hlt
        subst k
        have HF3:Hid (∀i,i<(mdK d kk).insts.length→InFit d (mdK d kk) ((mdK d kk).insts[i]?.getD InT.zero)):=fun i hi=>HALL.out i (by rw [HM.out.lens.2.2.1] at hi;exact hi)
        go_wp2_with fail
        clear x2 lx
        go_loopw [15] (fun i wr=>∃k:Nat,k≤mn∧i = .int .i64 (k:Int)∧Below W8.heap.size W8 wr∧(∀i,i<k→MmFit (mdK d kk) ((mdK d kk).mems[i]?.getD MmT.zero))) (fun i _=>mn - (intOf i).toNat)
        case atStart=>exact ⟨0,by omega,rfl,HBW.out,fun i hi=>by omega⟩
        case round =>
         obtain ⟨k,hlek,rfl,hb,hall⟩:=hrel
         have HALL:=Lib.hid hall
         have HBW:=Lib.hid hb
         have HB:=Lib.hid (below_tr HB8.out hb)
         clear hb hall
         have hx:=heap_tr HBW.out HXM.out
         have x3:=cell_heap (k:=3) hx rfl
         have lx:=heap_lt0 hx
         clear hx
         by_cases hlt:k<mn
         ·have hdk:decide ((k:Int)<(mn:Int))=true:=by simp;omega
          have i0:(0:Int)≤(k:Int):=by omega
          have i1:(k:Int)<(mn:Int):=by omega
          have hkl:k<(mdK d kk).mems.length:=by rw [HM.out.lens.2.2.2];exact hlt
          obtain ⟨bm,om,hMA,hbm,c0,c1,c2,c3⟩:=HM.out.mm.mmE (k:=k) hkl
          subst hMA
          rw [←HB.out.cell (p:=⟨bm,om+k * 4,none⟩) hbm] at c0
          rw [←HB.out.cell (p:=⟨bm,om+k * 4+1,none⟩) hbm] at c1
          rw [←HB.out.cell (p:=⟨bm,om+k * 4+2,none⟩) hbm] at c2
          rw [←HB.out.cell (p:=⟨bm,om+k * 4+3,none⟩) hbm] at c3
          have lbm:=below_lt HB.out hbm
          have HNO:=Lib.hid (fun (h:¬MmFit (mdK d kk) ((mdK d kk).mems[k]?.getD MmT.zero)) (h2:MdFit d kk)=>h (h2.mem k hkl))
          have HG:=Lib.hid (fun h:MmFit (mdK d kk) ((mdK d kk).mems[k]?.getD MmT.zero)=>all_succ HALL.out h)
          generalize (mdK d kk).mems[k]?.getD MmT.zero=q at *
          obtain ⟨ma,md,mw,mo⟩:=q
          simp only at c0 c1 c2 c3
          have HME:Hid (MmFit (mdK d kk) ⟨ma,md,mw,mo⟩↔InSg (mdK d kk) ma∧InSg (mdK d kk) md∧InSg (mdK d kk) mw∧Drives (mdK d kk) mo):=Iff.rfl
          clear hkl hbm
          clear x3 lx
          have hx:=heap_tr HBW.out HXM.out
          have x0:=cell_heap (k:=0) hx rfl
          have x1:=cell_heap (k:=1) hx rfl
          have x2:=cell_heap (k:=2) hx rfl
          have x3:=cell_heap (k:=3) hx rfl
          have lx:=heap_lt0 hx
          clear hx
          obtain ⟨k0,hk0⟩:∃k,kdOf (mdK d kk) ma=k:=⟨_,rfl⟩
          have HK0:=Lib.hid hk0
          by_cases hs0:InSg (mdK d kk) ma
          ·have hge0:decide (k0<0)=false:=by
            have h1:=portFit_kd hs0 hsf
            rw [hk0] at h1
            exact decide_eq_false (by omega)
           clear hk0
           obtain ⟨k1,hk1⟩:∃k,kdOf (mdK d kk) md=k:=⟨_,rfl⟩
           have HK1:=Lib.hid hk1
           by_cases hs1:InSg (mdK d kk) md
           ·have hge1:decide (k1<0)=false:=by
             have h1:=portFit_kd hs1 hsf
             rw [hk1] at h1
             exact decide_eq_false (by omega)
            clear hk1
            obtain ⟨k2,hk2⟩:∃k,kdOf (mdK d kk) mw=k:=⟨_,rfl⟩
            have HK2:=Lib.hid hk2
            by_cases hs2:InSg (mdK d kk) mw
            ·have hge2:decide (k2<0)=false:=by
              have h1:=portFit_kd hs2 hsf
              rw [hk2] at h1
              exact decide_eq_false (by omega)
             clear hk2
             by_cases hf:Drives (mdK d kk) mo
             ·have HG2:=Lib.hid (HG.out (HME.out.2 ⟨hs0,hs1,hs2,hf⟩))
              have HT:=Lib.hid (tb_true hf)
              have HBV:=Lib.hid (below_new HBW.out (.cells #[.int .i64 ma,.int .i64 md,.int .i64 mw,.int .i64 mo] 200))
              have HB1:=Lib.hid (below_new HB.out (.cells #[.int .i64 ma,.int .i64 md,.int .i64 mw,.int .i64 mo] 200))
              have hy:=heap_new wr (.cells #[.int .i64 ma,.int .i64 md,.int .i64 mw,.int .i64 mo] 200)
              have HY:=Lib.hid hy
              have y0:=cell_heap (k:=0) hy rfl
              have y1:=cell_heap (k:=1) hy rfl
              have y2:=cell_heap (k:=2) hy rfl
              have y3:=cell_heap (k:=3) hy rfl
              have ly:=heap_lt0 hy
              clear hy
              go_upto_region 35 with fail
              generalize wr.alloc (.cells #[.int .i64 ma,.int .i64 md,.int .i64 mw,.int .i64 mo] 200)=W5 at *
              clear x0 x1 x2 x3 lx
              have hx:=heap_tr HBV.out HXM.out
              have x0:=cell_heap (k:=0) hx rfl
              have x1:=cell_heap (k:=1) hx rfl
              have x2:=cell_heap (k:=2) hx rfl
              have x3:=cell_heap (k:=3) hx rfl
              have lx:=heap_lt0 hx
              clear hx
              go_wp2_with fail
              refine (sl04Kind_any (mdK d kk) SA AA JA _ sn sc an ac jn jc mn mc ma _ (HM.out.below HB1.out)).mono ?_
              rw [HK0.out]
              rintro _ w20 ⟨rfl,b6⟩
              have HB20:=Lib.hid (below_tr HB1.out b6)
              have HBV20:=Lib.hid (below_tr HBV.out b6)
              have HY20:=Lib.hid (heap_tr b6 HY.out)
              clear b6 y0 y1 y2 y3 ly x0 x1 x2 x3 lx
              have hy:=HY20.out
              have y0:=cell_heap (k:=0) hy rfl
              have y1:=cell_heap (k:=1) hy rfl
              have y2:=cell_heap (k:=2) hy rfl
              have y3:=cell_heap (k:=3) hy rfl
              have ly:=heap_lt0 hy
              clear hy
              have hx:=heap_tr HBV20.out HXM.out
              have x0:=cell_heap (k:=0) hx rfl
              have x1:=cell_heap (k:=1) hx rfl
              have x2:=cell_heap (k:=2) hx rfl
              have x3:=cell_heap (k:=3) hx rfl
              have lx:=heap_lt0 hx
              clear hx
              go_wp2_with fail
              refine (sl04Kind_any (mdK d kk) SA AA JA _ sn sc an ac jn jc mn mc md _ (HM.out.below HB20.out)).mono ?_
              rw [HK1.out]
              rintro _ w21 ⟨rfl,b6⟩
              have HB21:=Lib.hid (below_tr HB20.out b6)
              have HBV21:=Lib.hid (below_tr HBV20.out b6)
              have HY21:=Lib.hid (heap_tr b6 HY20.out)
              clear b6 y0 y1 y2 y3 ly x0 x1 x2 x3 lx
              have hy:=HY21.out
              have y0:=cell_heap (k:=0) hy rfl
              have y1:=cell_heap (k:=1) hy rfl
              have y2:=cell_heap (k:=2) hy rfl
              have y3:=cell_heap (k:=3) hy rfl
              have ly:=heap_lt0 hy
              clear hy
              have hx:=heap_tr HBV21.out HXM.out
              have x0:=cell_heap (k:=0) hx rfl
              have x1:=cell_heap (k:=1) hx rfl
              have x2:=cell_heap (k:=2) hx rfl
              have x3:=cell_heap (k:=3) hx rfl
              have lx:=heap_lt0 hx
              clear hx
              go_wp2_with fail
              refine (sl04Kind_any (mdK d kk) SA AA JA _ sn sc an ac jn jc mn mc mw _ (HM.out.below HB21.out)).mono ?_
              rw [HK2.out]
              rintro _ w22 ⟨rfl,b6⟩
              have HB22:=Lib.hid (below_tr HB21.out b6)
              have HBV22:=Lib.hid (below_tr HBV21.out b6)
              have HY22:=Lib.hid (heap_tr b6 HY21.out)
              clear b6 y0 y1 y2 y3 ly x0 x1 x2 x3 lx
              have hy:=HY22.out
              have y0:=cell_heap (k:=0) hy rfl
              have y1:=cell_heap (k:=1) hy rfl
              have y2:=cell_heap (k:=2) hy rfl
              have y3:=cell_heap (k:=3) hy rfl
              have ly:=heap_lt0 hy
              clear hy
              have hx:=heap_tr HBV22.out HXM.out
              have x0:=cell_heap (k:=0) hx rfl
              have x1:=cell_heap (k:=1) hx rfl
              have x2:=cell_heap (k:=2) hx rfl
              have x3:=cell_heap (k:=3) hx rfl
              have lx:=heap_lt0 hx
              clear hx
              go_wp2_with fail
              refine (sl04Driven_any (mdK d kk) SA AA JA _ sn sc an ac jn jc mn mc mo _ (HM.out.below HB22.out)).mono ?_
              rw [HT.out]
              rintro _ w6 ⟨rfl,b6⟩
              have HB6:=Lib.hid (below_tr HBV22.out b6)
              clear b6 y0 y1 y2 y3 ly x0 x1 x2 x3 lx
              go_wp2_with fail
              go_roundw
              case rel=>exact ⟨k+1,by omega,by go_num,HB6.out,HG2.out⟩
              case measure=>simp [intOf];omega
             ·have HR:=Lib.hid (HNO.out fun h=>hf (HME.out.1 h).2.2.2)
              have HT:=Lib.hid (tb_false hf)
              have HBV:=Lib.hid (below_new HBW.out (.cells #[.int .i64 ma,.int .i64 md,.int .i64 mw,.int .i64 mo] 200))
              have HB1:=Lib.hid (below_new HB.out (.cells #[.int .i64 ma,.int .i64 md,.int .i64 mw,.int .i64 mo] 200))
              have hy:=heap_new wr (.cells #[.int .i64 ma,.int .i64 md,.int .i64 mw,.int .i64 mo] 200)
              have HY:=Lib.hid hy
              have y0:=cell_heap (k:=0) hy rfl
              have y1:=cell_heap (k:=1) hy rfl
              have y2:=cell_heap (k:=2) hy rfl
              have y3:=cell_heap (k:=3) hy rfl
              have ly:=heap_lt0 hy
              clear hy
              go_upto_region 35 with fail
              generalize wr.alloc (.cells #[.int .i64 ma,.int .i64 md,.int .i64 mw,.int .i64 mo] 200)=W5 at *
              clear x0 x1 x2 x3 lx
              have hx:=heap_tr HBV.out HXM.out
              have x0:=cell_heap (k:=0) hx rfl
              have x1:=cell_heap (k:=1) hx rfl
              have x2:=cell_heap (k:=2) hx rfl
              have x3:=cell_heap (k:=3) hx rfl
              have lx:=heap_lt0 hx
              clear hx
              go_wp2_with fail
              refine (sl04Kind_any (mdK d kk) SA AA JA _ sn sc an ac jn jc mn mc ma _ (HM.out.below HB1.out)).mono ?_
              rw [HK0.out]
              rintro _ w20 ⟨rfl,b6⟩
              have HB20:=Lib.hid (below_tr HB1.out b6)
              have HBV20:=Lib.hid (below_tr HBV.out b6)
              have HY20:=Lib.hid (heap_tr b6 HY.out)
              clear b6 y0 y1 y2 y3 ly x0 x1 x2 x3 lx
              have hy:=HY20.out
              have y0:=cell_heap (k:=0) hy rfl
              have y1:=cell_heap (k:=1) hy rfl
              have y2:=cell_heap (k:=2) hy rfl
              have y3:=cell_heap (k:=3) hy rfl
              have ly:=heap_lt0 hy
              clear hy
              have hx:=heap_tr HBV20.out HXM.out
              have x0:=cell_heap (k:=0) hx rfl
              have x1:=cell_heap (k:=1) hx rfl
              have x2:=cell_heap (k:=2) hx rfl
              have x3:=cell_heap (k:=3) hx rfl
              have lx:=heap_lt0 hx
              clear hx
              go_wp2_with fail
              refine (sl04Kind_any (mdK d kk) SA AA JA _ sn sc an ac jn jc mn mc md _ (HM.out.below HB20.out)).mono ?_
              rw [HK1.out]
              rintro _ w21 ⟨rfl,b6⟩
              have HB21:=Lib.hid (below_tr HB20.out b6)
              have HBV21:=Lib.hid (below_tr HBV20.out b6)
              have HY21:=Lib.hid (heap_tr b6 HY20.out)
              clear b6 y0 y1 y2 y3 ly x0 x1 x2 x3 lx
              have hy:=HY21.out
              have y0:=cell_heap (k:=0) hy rfl
              have y1:=cell_heap (k:=1) hy rfl
              have y2:=cell_heap (k:=2) hy rfl
              have y3:=cell_heap (k:=3) hy rfl
              have ly:=heap_lt0 hy
              clear hy
              have hx:=heap_tr HBV21.out HXM.out
              have x0:=cell_heap (k:=0) hx rfl
              have x1:=cell_heap (k:=1) hx rfl
              have x2:=cell_heap (k:=2) hx rfl
              have x3:=cell_heap (k:=3) hx rfl
              have lx:=heap_lt0 hx
              clear hx
              go_wp2_with fail
              refine (sl04Kind_any (mdK d kk) SA AA JA _ sn sc an ac jn jc mn mc mw _ (HM.out.below HB21.out)).mono ?_
              rw [HK2.out]
              rintro _ w22 ⟨rfl,b6⟩
              have HB22:=Lib.hid (below_tr HB21.out b6)
              have HBV22:=Lib.hid (below_tr HBV21.out b6)
              have HY22:=Lib.hid (heap_tr b6 HY21.out)
              clear b6 y0 y1 y2 y3 ly x0 x1 x2 x3 lx
              have hy:=HY22.out
              have y0:=cell_heap (k:=0) hy rfl
              have y1:=cell_heap (k:=1) hy rfl
              have y2:=cell_heap (k:=2) hy rfl
              have y3:=cell_heap (k:=3) hy rfl
              have ly:=heap_lt0 hy
              clear hy
              have hx:=heap_tr HBV22.out HXM.out
              have x0:=cell_heap (k:=0) hx rfl
              have x1:=cell_heap (k:=1) hx rfl
              have x2:=cell_heap (k:=2) hx rfl
              have x3:=cell_heap (k:=3) hx rfl
              have lx:=heap_lt0 hx
              clear hx
              go_wp2_with fail
              refine (sl04Driven_any (mdK d kk) SA AA JA _ sn sc an ac jn jc mn mc mo _ (HM.out.below HB22.out)).mono ?_
              rw [HT.out]
              rintro _ w6 ⟨rfl,b6⟩
              have HB6:=Lib.hid (below_tr HB22.out b6)
              clear b6 y0 y1 y2 y3 ly x0 x1 x2 x3 lx
              go_wp2_with fail
              go_ret
              exact ⟨ret_ff HR.out,HB6.out⟩
            ·have hge2:decide (k2<0)=true:=by
              rw [kdOf_out hs2] at hk2
              exact decide_eq_true (by omega)
             have HR:=Lib.hid (HNO.out fun h=>hs2 (HME.out.1 h).2.2.1)
             clear hk2
             have HBV:=Lib.hid (below_new HBW.out (.cells #[.int .i64 ma,.int .i64 md,.int .i64 mw,.int .i64 mo] 200))
             have HB1:=Lib.hid (below_new HB.out (.cells #[.int .i64 ma,.int .i64 md,.int .i64 mw,.int .i64 mo] 200))
             have hy:=heap_new wr (.cells #[.int .i64 ma,.int .i64 md,.int .i64 mw,.int .i64 mo] 200)
             have HY:=Lib.hid hy
             have y0:=cell_heap (k:=0) hy rfl
             have y1:=cell_heap (k:=1) hy rfl
             have y2:=cell_heap (k:=2) hy rfl
             have y3:=cell_heap (k:=3) hy rfl
             have ly:=heap_lt0 hy
             clear hy
             go_upto_region 35 with fail
             generalize wr.alloc (.cells #[.int .i64 ma,.int .i64 md,.int .i64 mw,.int .i64 mo] 200)=W5 at *
             clear x0 x1 x2 x3 lx
             have hx:=heap_tr HBV.out HXM.out
             have x0:=cell_heap (k:=0) hx rfl
             have x1:=cell_heap (k:=1) hx rfl
             have x2:=cell_heap (k:=2) hx rfl
             have x3:=cell_heap (k:=3) hx rfl
             have lx:=heap_lt0 hx
             clear hx
             go_wp2_with fail
             refine (sl04Kind_any (mdK d kk) SA AA JA _ sn sc an ac jn jc mn mc ma _ (HM.out.below HB1.out)).mono ?_
             rw [HK0.out]
             rintro _ w20 ⟨rfl,b6⟩
             have HB20:=Lib.hid (below_tr HB1.out b6)
             have HBV20:=Lib.hid (below_tr HBV.out b6)
             have HY20:=Lib.hid (heap_tr b6 HY.out)
             clear b6 y0 y1 y2 y3 ly x0 x1 x2 x3 lx
             have hy:=HY20.out
             have y0:=cell_heap (k:=0) hy rfl
             have y1:=cell_heap (k:=1) hy rfl
             have y2:=cell_heap (k:=2) hy rfl
             have y3:=cell_heap (k:=3) hy rfl
             have ly:=heap_lt0 hy
             clear hy
             have hx:=heap_tr HBV20.out HXM.out
             have x0:=cell_heap (k:=0) hx rfl
             have x1:=cell_heap (k:=1) hx rfl
             have x2:=cell_heap (k:=2) hx rfl
             have x3:=cell_heap (k:=3) hx rfl
             have lx:=heap_lt0 hx
             clear hx
             go_wp2_with fail
             refine (sl04Kind_any (mdK d kk) SA AA JA _ sn sc an ac jn jc mn mc md _ (HM.out.below HB20.out)).mono ?_
             rw [HK1.out]
             rintro _ w21 ⟨rfl,b6⟩
             have HB21:=Lib.hid (below_tr HB20.out b6)
             have HBV21:=Lib.hid (below_tr HBV20.out b6)
             have HY21:=Lib.hid (heap_tr b6 HY20.out)
             clear b6 y0 y1 y2 y3 ly x0 x1 x2 x3 lx
             have hy:=HY21.out
             have y0:=cell_heap (k:=0) hy rfl
             have y1:=cell_heap (k:=1) hy rfl
             have y2:=cell_heap (k:=2) hy rfl
             have y3:=cell_heap (k:=3) hy rfl
             have ly:=heap_lt0 hy
             clear hy
             have hx:=heap_tr HBV21.out HXM.out
             have x0:=cell_heap (k:=0) hx rfl
             have x1:=cell_heap (k:=1) hx rfl
             have x2:=cell_heap (k:=2) hx rfl
             have x3:=cell_heap (k:=3) hx rfl
             have lx:=heap_lt0 hx
             clear hx
             go_wp2_with fail
             refine (sl04Kind_any (mdK d kk) SA AA JA _ sn sc an ac jn jc mn mc mw _ (HM.out.below HB21.out)).mono ?_
             rw [HK2.out]
             rintro _ w22 ⟨rfl,b6⟩
             have HB22:=Lib.hid (below_tr HB21.out b6)
             have HBV22:=Lib.hid (below_tr HBV21.out b6)
             have HY22:=Lib.hid (heap_tr b6 HY21.out)
             clear b6 y0 y1 y2 y3 ly x0 x1 x2 x3 lx
             have hy:=HY22.out
             have y0:=cell_heap (k:=0) hy rfl
             have y1:=cell_heap (k:=1) hy rfl
             have y2:=cell_heap (k:=2) hy rfl
             have y3:=cell_heap (k:=3) hy rfl
             have ly:=heap_lt0 hy
             clear hy
             have hx:=heap_tr HBV22.out HXM.out
             have x0:=cell_heap (k:=0) hx rfl
             have x1:=cell_heap (k:=1) hx rfl
             have x2:=cell_heap (k:=2) hx rfl
             have x3:=cell_heap (k:=3) hx rfl
             have lx:=heap_lt0 hx
             clear hx
             go_wp2_with fail
             go_ret
             exact ⟨ret_ff HR.out,HB22.out⟩
           ·have hge1:decide (k1<0)=true:=by
             rw [kdOf_out hs1] at hk1
             exact decide_eq_true (by omega)
            have HR:=Lib.hid (HNO.out fun h=>hs1 (HME.out.1 h).2.1)
            clear hk1
            have HBV:=Lib.hid (below_new HBW.out (.cells #[.int .i64 ma,.int .i64 md,.int .i64 mw,.int .i64 mo] 200))
            have HB1:=Lib.hid (below_new HB.out (.cells #[.int .i64 ma,.int .i64 md,.int .i64 mw,.int .i64 mo] 200))
            have hy:=heap_new wr (.cells #[.int .i64 ma,.int .i64 md,.int .i64 mw,.int .i64 mo] 200)
            have HY:=Lib.hid hy
            have y0:=cell_heap (k:=0) hy rfl
            have y1:=cell_heap (k:=1) hy rfl
            have y2:=cell_heap (k:=2) hy rfl
            have y3:=cell_heap (k:=3) hy rfl
            have ly:=heap_lt0 hy
            clear hy
            go_upto_region 35 with fail
            generalize wr.alloc (.cells #[.int .i64 ma,.int .i64 md,.int .i64 mw,.int .i64 mo] 200)=W5 at *
            clear x0 x1 x2 x3 lx
            have hx:=heap_tr HBV.out HXM.out
            have x0:=cell_heap (k:=0) hx rfl
            have x1:=cell_heap (k:=1) hx rfl
            have x2:=cell_heap (k:=2) hx rfl
            have x3:=cell_heap (k:=3) hx rfl
            have lx:=heap_lt0 hx
            clear hx
            go_wp2_with fail
            refine (sl04Kind_any (mdK d kk) SA AA JA _ sn sc an ac jn jc mn mc ma _ (HM.out.below HB1.out)).mono ?_
            rw [HK0.out]
            rintro _ w20 ⟨rfl,b6⟩
            have HB20:=Lib.hid (below_tr HB1.out b6)
            have HBV20:=Lib.hid (below_tr HBV.out b6)
            have HY20:=Lib.hid (heap_tr b6 HY.out)
            clear b6 y0 y1 y2 y3 ly x0 x1 x2 x3 lx
            have hy:=HY20.out
            have y0:=cell_heap (k:=0) hy rfl
            have y1:=cell_heap (k:=1) hy rfl
            have y2:=cell_heap (k:=2) hy rfl
            have y3:=cell_heap (k:=3) hy rfl
            have ly:=heap_lt0 hy
            clear hy
            have hx:=heap_tr HBV20.out HXM.out
            have x0:=cell_heap (k:=0) hx rfl
            have x1:=cell_heap (k:=1) hx rfl
            have x2:=cell_heap (k:=2) hx rfl
            have x3:=cell_heap (k:=3) hx rfl
            have lx:=heap_lt0 hx
            clear hx
            go_wp2_with fail
            refine (sl04Kind_any (mdK d kk) SA AA JA _ sn sc an ac jn jc mn mc md _ (HM.out.below HB20.out)).mono ?_
            rw [HK1.out]
            rintro _ w21 ⟨rfl,b6⟩
            have HB21:=Lib.hid (below_tr HB20.out b6)
            have HBV21:=Lib.hid (below_tr HBV20.out b6)
            have HY21:=Lib.hid (heap_tr b6 HY20.out)
            clear b6 y0 y1 y2 y3 ly x0 x1 x2 x3 lx
            have hy:=HY21.out
            have y0:=cell_heap (k:=0) hy rfl
            have y1:=cell_heap (k:=1) hy rfl
            have y2:=cell_heap (k:=2) hy rfl
            have y3:=cell_heap (k:=3) hy rfl
            have ly:=heap_lt0 hy
            clear hy
            have hx:=heap_tr HBV21.out HXM.out
            have x0:=cell_heap (k:=0) hx rfl
            have x1:=cell_heap (k:=1) hx rfl
            have x2:=cell_heap (k:=2) hx rfl
            have x3:=cell_heap (k:=3) hx rfl
            have lx:=heap_lt0 hx
            clear hx
            go_wp2_with fail
            go_ret
            exact ⟨ret_ff HR.out,HB21.out⟩
          ·have hge0:decide (k0<0)=true:=by
            rw [kdOf_out hs0] at hk0
            exact decide_eq_true (by omega)
           have HR:=Lib.hid (HNO.out fun h=>hs0 (HME.out.1 h).1)
           clear hk0
           have HBV:=Lib.hid (below_new HBW.out (.cells #[.int .i64 ma,.int .i64 md,.int .i64 mw,.int .i64 mo] 200))
           have HB1:=Lib.hid (below_new HB.out (.cells #[.int .i64 ma,.int .i64 md,.int .i64 mw,.int .i64 mo] 200))
           have hy:=heap_new wr (.cells #[.int .i64 ma,.int .i64 md,.int .i64 mw,.int .i64 mo] 200)
           have HY:=Lib.hid hy
           have y0:=cell_heap (k:=0) hy rfl
           have y1:=cell_heap (k:=1) hy rfl
           have y2:=cell_heap (k:=2) hy rfl
           have y3:=cell_heap (k:=3) hy rfl
           have ly:=heap_lt0 hy
           clear hy
           go_upto_region 35 with fail
           generalize wr.alloc (.cells #[.int .i64 ma,.int .i64 md,.int .i64 mw,.int .i64 mo] 200)=W5 at *
           clear x0 x1 x2 x3 lx
           have hx:=heap_tr HBV.out HXM.out
           have x0:=cell_heap (k:=0) hx rfl
           have x1:=cell_heap (k:=1) hx rfl
           have x2:=cell_heap (k:=2) hx rfl
           have x3:=cell_heap (k:=3) hx rfl
           have lx:=heap_lt0 hx
           clear hx
           go_wp2_with fail
           refine (sl04Kind_any (mdK d kk) SA AA JA _ sn sc an ac jn jc mn mc ma _ (HM.out.below HB1.out)).mono ?_
           rw [HK0.out]
           rintro _ w20 ⟨rfl,b6⟩
           have HB20:=Lib.hid (below_tr HB1.out b6)
           have HBV20:=Lib.hid (below_tr HBV.out b6)
           have HY20:=Lib.hid (heap_tr b6 HY.out)
           clear b6 y0 y1 y2 y3 ly x0 x1 x2 x3 lx
           have hy:=HY20.out
           have y0:=cell_heap (k:=0) hy rfl
           have y1:=cell_heap (k:=1) hy rfl
           have y2:=cell_heap (k:=2) hy rfl
           have y3:=cell_heap (k:=3) hy rfl
           have ly:=heap_lt0 hy
           clear hy
           have hx:=heap_tr HBV20.out HXM.out
           have x0:=cell_heap (k:=0) hx rfl
           have x1:=cell_heap (k:=1) hx rfl
           have x2:=cell_heap (k:=2) hx rfl
           have x3:=cell_heap (k:=3) hx rfl
           have lx:=heap_lt0 hx
           clear hx
           go_wp2_with fail
           go_ret
           exact ⟨ret_ff HR.out,HB20.out⟩
         ·have hkn:k=mn:=by omega
          have hdk:decide ((k:Int)<(mn:Int))=false:=by simp;omega
          clear hlt
          subst k
          have HR:Hid (MdFit d kk):=⟨by rw [HDL.out];exact hkk,hcf,hif,HF1.out,HF2.out,HF3.out,fun i hi=>HALL.out i (by rw [HM.out.lens.2.2.2] at hi;exact hi),HFC.out⟩
          go_wp2_with fail
          go_ret
          exact ⟨ret_tt HR.out,HB.out⟩
 ·have HC:=Lib.hid (tb_false hci)
  have HR:Hid (¬MdFit d kk):=fun h=>hci ⟨h.cnt,h.ins⟩
  clear hci
  go_enter Tryz.func151,Tryz.ntmps151
  go_upto_region 1 with fail
  generalize w.alloc (.cells #[.slice (some ⟨bd,od,none⟩) dn dc] 48)=W9 at *
  have hx:=HXB.out
  have x0:=cell_heap (k:=0) hx rfl
  have lx:=heap_lt0 hx
  clear hx
  go_wp2_with fail
  refine (HCA.out _ (HD.out.below HB0.out)).mono ?_
  rw [HC.out]
  rintro _ w2 ⟨rfl,b2⟩
  have HB2:=Lib.hid (below_tr HB0.out b2)
  have HX2:=Lib.hid (heap_tr b2 HXB.out)
  clear b2 x0 lx
  go_wp2_with fail
  go_ret
  exact ⟨ret_ff HR.out,HB2.out⟩
set_option maxHeartbeats 2000000 in
theorem sdesignOk_any (d:List MdT) (DA:Option Addr) (dn dc:Nat) (w:World) (h:RdC w w.heap.size (celMd d) (.slice DA dn dc)) :
  Calls Tryz.prog 97 #[.agg #[.slice DA dn dc]] w fun e w'=>e = .returned (.bool (tb (DsFit d)))∧Below w.heap.size w w':=by
 have HDL:=Lib.hid h.mdN
 have HD:=Lib.hid h
 clear h
 have HB0:=Lib.hid (below_new (Below.refl w.heap.size w) (.cells #[.slice DA dn dc] 48))
 have HXB:=Lib.hid (heap_new w (.cells #[.slice DA dn dc] 48))
 cases h1:inR (dn:Int) 1 4 with
 | false =>
  have HR:Hid (¬DsFit d):=fun h=>not_in h1 ⟨by have:=h.pos;rw [HDL.out] at this;omega,by have:=h.le;rw [HDL.out] at this;omega⟩
  have H1:=Lib.hid h1
  clear h1
  go_enter Tryz.func97,Tryz.ntmps97
  go_upto_region 1 with fail
  generalize w.alloc (.cells #[.slice DA dn dc] 48)=W9 at *
  have hx:=HXB.out
  have x0:=cell_heap (k:=0) hx rfl
  have lx:=heap_lt0 hx
  clear hx
  go_wp2_with fail
  refine (l01In_any (dn:Int) 1 4 _).mono ?_
  rw [H1.out]
  rintro _ w' ⟨rfl,rfl⟩
  go_wp2_with fail
  go_ret
  exact ⟨ret_ff HR.out,HB0.out⟩
 | true =>
  have h2:=inR_iff.1 h1
  have H1:=Lib.hid h1
  clear h1
  go_enter Tryz.func97,Tryz.ntmps97
  go_upto_region 1 with fail
  generalize w.alloc (.cells #[.slice DA dn dc] 48)=W9 at *
  have hx:=HXB.out
  have x0:=cell_heap (k:=0) hx rfl
  have lx:=heap_lt0 hx
  clear hx
  go_wp2_with fail
  refine (l01In_any (dn:Int) 1 4 _).mono ?_
  rw [H1.out]
  rintro _ w' ⟨rfl,rfl⟩
  clear x0 lx
  go_wp2_with fail
  go_loopw [3] (fun i wr=>∃k:Nat,k≤dn∧i = .int .i64 (k:Int)∧Below W9.heap.size W9 wr∧(∀i,i<k→MdFit d i)) (fun i _=>dn - (intOf i).toNat)
  case atStart=>exact ⟨0,by omega,rfl,Below.refl _ _,fun i hi=>by omega⟩
  case round =>
   obtain ⟨k,hlek,rfl,hb,hall⟩:=hrel
   have HALL:=Lib.hid hall
   have HBW:=Lib.hid hb
   have HB:=Lib.hid (below_tr HB0.out hb)
   clear hb hall
   have hx:=heap_tr HBW.out HXB.out
   have x0:=cell_heap (k:=0) hx rfl
   have lx:=heap_lt0 hx
   clear hx
   by_cases hlt:k<dn
   ·have hdk:decide ((k:Int)<(dn:Int))=true:=by simp;omega
    have i0:(0:Int)≤(k:Int):=by omega
    have i1:(k:Int)<(dn:Int):=by omega
    go_wp2_with fail
    refine (smoduleOk_any d DA dn dc k _ (HD.out.below HB.out) hlt).mono ?_
    by_cases hf:MdFit d k
    ·have HG2:=Lib.hid (all_succ HALL.out hf)
     rw [tb_true hf]
     clear hf
     rintro _ w6 ⟨rfl,b6⟩
     have HB6:=Lib.hid (below_tr HBW.out b6)
     clear b6 x0 lx
     go_wp2_with fail
     go_roundw
     case rel=>exact ⟨k+1,by omega,by go_num,HB6.out,HG2.out⟩
     case measure=>simp [intOf];omega
    ·have HR:Hid (¬DsFit d):=fun h=>hf (h.md k (by rw [HDL.out];exact hlt))
     rw [tb_false hf]
     clear hf
     rintro _ w6 ⟨rfl,b6⟩
     have HB6:=Lib.hid (below_tr HB.out b6)
     clear b6 x0 lx
     go_wp2_with fail
     go_ret
     exact ⟨ret_ff HR.out,HB6.out⟩
   ·have hkn:k=dn:=by omega
    have hdk:decide ((k:Int)<(dn:Int))=false:=by simp;omega
    clear hlt
    subst k
    have HR:Hid (DsFit d):=⟨by rw [HDL.out];omega,by rw [HDL.out];omega,fun i hi=>HALL.out i (by rw [HDL.out] at hi;exact hi)⟩
    go_wp2_with fail
    go_ret
    exact ⟨ret_tt HR.out,HB.out⟩
end Go.Proofs.YtlinbdkbbhpdpaaGreat
