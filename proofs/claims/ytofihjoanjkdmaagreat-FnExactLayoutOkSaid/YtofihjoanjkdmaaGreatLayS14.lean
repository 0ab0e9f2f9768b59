/- Connections in the reference: the same (printed by mkscs.py). -/
import Derived.Test.YtofihjoanjkdmaaGreatLayG7
import Derived.Test.YtofihjoanjkdmaaGreatLayS13
import Derived.Test.YtofihjoanjkdmaaGreatLayS6
namespace Go.Proofs.YtofihjoanjkdmaaGreat
set_option maxHeartbeats 8000000
set_option maxRecDepth 100000
open Go.RowKit
theorem jV (xs bs:List Cn) (CA DA:Option Addr) (cn cc dn dc:Nat) (w:World) (hC:RdC w w.heap.size (bD xs) (.slice CA cn cc)) (hD:RdC w w.heap.size (bD bs) (.slice DA dn dc)) (hn:cn<=1048576) (hbd:∀c∈xs,c.sinks.length<=1048576) :
  Calls Tryz.prog 36 #[.slice CA cn cc,.slice DA dn dc] w fun e w'=>e = .returned (.bool (tb (xs=bs)))/\Below w.heap.size w w':=by
 have hcl:=hC.cnN
 have hdl:=hD.cnN
 have HCL:=Hd hcl
 have HDL:=Hd hdl
 have HC:=Hd hC
 have HD0:=Hd hD
 have HBD:=Hd hbd
 clear hC hD hbd
 by_cases hcd:cn=dn
 ·subst hcd
  have dn0:((cn:Int) != (cn:Int))=false:=by simp
  clear hcl hdl
  go_enter Tryz.func36,Tryz.ntmps36
  go_wp2_with fail
  go_loopw [5] (fun i wr=>∃k:Nat,k<=cn/\i = .int .i64 (k:Int)/\Below w.heap.size w wr/\∀j,j<k→xs[j]?.getD Cn.zero=bs[j]?.getD Cn.zero) (fun i _=>cn - (intOf i).toNat)
  case atStart=>exact ⟨0,by omega,rfl,Below.refl _ _,fun j hj=>by omega⟩
  case round =>
   obtain ⟨k,hk,rfl,hb,hall⟩:=hrel
   have HB1:=Hd hb
   have HALL:=Hd hall
   clear hb hall
   by_cases hlt:k<cn
   ·have hdk:decide ((k:Int)<(cn:Int))=true:=by simp;omega
    have hkl:k<xs.length:=by rw [HCL.out];exact hlt
    have hkm:k<bs.length:=by rw [HDL.out];exact hlt
    obtain ⟨bc,oc,SA,m,mc,hCA,hbc,c0,c1,c2,c3,rs⟩:=HC.out.cn (k:=k) hkl
    obtain ⟨bd,od,TA,m',mc',hDA,hbd,d0,d1,d2,d3,rt⟩:=HD0.out.cn (k:=k) hkm
    have HCA:=Hd hCA
    have HDA:=Hd hDA
    have lbc:=aL HB1.out hbc
    have lbd:=aL HB1.out hbd
    rw [←HB1.out.cell (p:=⟨bc,oc+k * 4,none⟩) hbc] at c0
    rw [←HB1.out.cell (p:=⟨bd,od+k * 4,none⟩) hbd] at d0
    rw [←HB1.out.cell (p:=⟨bc,oc+k * 4+1,none⟩) hbc] at c1
    rw [←HB1.out.cell (p:=⟨bd,od+k * 4+1,none⟩) hbd] at d1
    rw [←HB1.out.cell (p:=⟨bc,oc+k * 4+2,none⟩) hbc] at c2
    rw [←HB1.out.cell (p:=⟨bd,od+k * 4+2,none⟩) hbd] at d2
    rw [←HB1.out.cell (p:=⟨bc,oc+k * 4+3,none⟩) hbc] at c3
    rw [←HB1.out.cell (p:=⟨bd,od+k * 4+3,none⟩) hbd] at d3
    have hg:xs[k]?.getD Cn.zero=bs[k]?.getD Cn.zero→∀j,j<k+1→xs[j]?.getD Cn.zero=bs[j]?.getD Cn.zero:=fun h=>bS HALL.out h
    have hno:xs=bs→xs[k]?.getD Cn.zero=bs[k]?.getD Cn.zero:=fun h=>by rw [h]
    have hbd1:=HBD.out _ (List.getElem_mem hkl)
    rw [show xs[k]=xs[k]?.getD Cn.zero by rw [List.getElem?_eq_getElem hkl];rfl] at hbd1
    have HG:=Hd hg
    have HNC:=Hd hno
    clear hkl hkm hg hno hCA hDA
    obtain rfl:=HCA.out
    obtain rfl:=HDA.out
    generalize xs[k]?.getD Cn.zero=a at *
    generalize bs[k]?.getD Cn.zero=b at *
    obtain ⟨N,⟨p,q⟩,ss⟩:=a
    obtain ⟨N',⟨p',q'⟩,ts⟩:=b
    simp only at c0 c1 c2 c3 d0 d1 d2 d3 hbd1
    have HSS:=Hd (show RdC w w.heap.size (bM ss) (.slice SA m mc) from rs)
    have HTS:=Hd (show RdC w w.heap.size (bM ts) (.slice TA m' mc') from rt)
    have HSL:Hid (ss.length=m):=HSS.out.pinN
    have HTL:Hid (ts.length=m'):=HTS.out.pinN
    have hm:m<=1048576:=by rw [←HSL.out];exact hbd1
    have i0:(0:Int)<=(k:Int):=by omega
    have i1:(k:Int)<(cn:Int):=by omega
    clear rs rt hbd1
    by_cases hN:N=N'
    ·subst hN
     have dN:(N != N)=false:=by simp
     by_cases hpq:p=p'/\q=q'
     ·obtain ⟨rfl,rfl⟩:=hpq
      by_cases hmm:m=m'
      ·subst hmm
       have dm:((m:Int) != (m:Int))=false:=by simp
       have HGC:Hid (ss=ts→∀j,j<k+1→xs[j]?.getD Cn.zero=bs[j]?.getD Cn.zero):=fun h=>HG.out (by rw [h])
       clear HG
       go_upto_region 6 with fail
       have hsub:=aZ wr
       have hsc:=aR wr
       refine aI wr (by kernel_rfl) (by kernel_rfl) (Below.refl _ _) ?_
       repeat (go_big_quiet_step ((fail)))
       refine wpQuiet_nil ?_
       rintro _ ⟨⟨w5,hD⟩,rfl⟩
       clear hsub hsc
       have HD:=Hd (aB HB1.out hD)
       clear hD
       have HBD1:=Hd HD.out
       have C3:=Hd ((HB1.out.cell (p:=⟨bc,oc+k * 4+3,none⟩) hbc).symm.trans c3)
       have D3:=Hd ((HB1.out.cell (p:=⟨bd,od+k * 4+3,none⟩) hbd).symm.trans d3)
       have c3':=(HD.out.cell (p:=⟨bc,oc+k * 4+3,none⟩) hbc).trans (((HB1.out.cell (p:=⟨bc,oc+k * 4+3,none⟩) hbc)).symm.trans c3)
       have d3':=(HD.out.cell (p:=⟨bd,od+k * 4+3,none⟩) hbd).trans (((HB1.out.cell (p:=⟨bd,od+k * 4+3,none⟩) hbd)).symm.trans d3)
       have lbc':=aL HD.out hbc
       have lbd':=aL HD.out hbd
       clear c0 c1 c2 c3 d0 d1 d2 d3 lbc lbd
       go_wp2_with fail
       clear c3' d3' lbc' lbd'
       go_loopw [6] (fun i wr=>∃j:Nat,j<=m/\i = .int .i64 (j:Int)/\Below w.heap.size w wr/\∀q,q<j→ss[q]?.getD bQ.zero=ts[q]?.getD bQ.zero) (fun i _=>m - (intOf i).toNat)
       case atStart=>exact ⟨0,by omega,rfl,HD.out,fun q hq=>by omega⟩
       case round =>
        obtain ⟨j,hj,rfl,hb,hall⟩:=hrel
        have HB1:=Hd hb
        have HA3:=Hd hall
        clear hb hall
        have c3':=(HB1.out.cell (p:=⟨bc,oc+k * 4+3,none⟩) hbc).trans C3.out
        have d3':=(HB1.out.cell (p:=⟨bd,od+k * 4+3,none⟩) hbd).trans D3.out
        have lbc':=aL HB1.out hbc
        have lbd':=aL HB1.out hbd
        have i2':(0:Int)<=(j:Int):=by omega
        by_cases hltj:j<m
        ·have hdj:decide ((j:Int)<(m:Int))=true:=by simp;omega
         have hjl:j<ss.length:=by rw [HSL.out];exact hltj
         have hjt:j<ts.length:=by rw [HTL.out];exact hltj
         obtain ⟨bp,op,hSA,hbp,d0,d1⟩:=HSS.out.pin (k:=j) hjl
         obtain ⟨bq,oq,hTA,hbq,e0,e1⟩:=HTS.out.pin (k:=j) hjt
         have HSA:=Hd hSA
         have HTA:=Hd hTA
         have lbp:=aL HB1.out hbp
         have lbq:=aL HB1.out hbq
         rw [←HB1.out.cell (p:=⟨bp,op+j * 2,none⟩) hbp] at d0
         rw [←HB1.out.cell (p:=⟨bp,op+j * 2+1,none⟩) hbp] at d1
         rw [←HB1.out.cell (p:=⟨bq,oq+j * 2,none⟩) hbq] at e0
         rw [←HB1.out.cell (p:=⟨bq,oq+j * 2+1,none⟩) hbq] at e1
         have HG:Hid (ss[j]?.getD bQ.zero=ts[j]?.getD bQ.zero→∀q,q<j+1→ss[q]?.getD bQ.zero=ts[q]?.getD bQ.zero):=fun h=>bS HA3.out h
         have HN:Hid (ss[j]?.getD bQ.zero≠ts[j]?.getD bQ.zero→xs≠bs):=fun h h'=>h (by
          have h2:=HNC.out h'
          injection h2 with _ _ h3
          rw [h3])
         clear hjl hjt hSA hTA
         obtain rfl:=HSA.out
         obtain rfl:=HTA.out
         generalize ss[j]?.getD bQ.zero=s at *
         generalize ts[j]?.getD bQ.zero=t at *
         obtain ⟨x,y⟩:=s
         obtain ⟨x',y'⟩:=t
         simp only at d0 d1 e0 e1
         have i2:(0:Int)<=(j:Int):=by omega
         have i3:(j:Int)<(m:Int):=by omega
         by_cases hxy:x=x'/\y=y'
         ·obtain ⟨rfl,rfl⟩:=hxy
          have HG2:=Hd (HG.out rfl)
          clear HG HN
          go_upto_region 11 with fail
          have hsub:=aZ wr
          have hsc:=aR wr
          refine aI wr (by kernel_rfl) (by kernel_rfl) (Below.refl _ _) ?_
          repeat (go_big_quiet_step ((fail)))
          refine wpQuiet_nil ?_
          rintro _ ⟨⟨w5,hD⟩,rfl⟩
          clear hsub hsc
          have HD:=Hd (aB HB1.out hD)
          clear hD
          clear d0 d1 e0 e1 lbp lbq c3' d3' lbc' lbd'
          go_wp2_with fail
          go_roundw
          case rel=>exact ⟨j+1,by omega,by go_num,HD.out,HG2.out⟩
          case measure=>simp [intOf];omega
         ·have HR:Hid (¬xs=bs):=HN.out fun h=>hxy (by injection h with h1 h2;exact ⟨h1,h2⟩)
          clear HG HN
          by_cases hx:x=x'
          ·subst hx
           have dy:(y==y')=false:=by
            cases hb:y==y' with
            | false=>rfl
            | true=>exact absurd ⟨rfl,by simpa using hb⟩ hxy
           go_upto_region 11 with fail
           have hsub:=aZ wr
           have hsc:=aR wr
           refine aI wr (by kernel_rfl) (by kernel_rfl) (Below.refl _ _) ?_
           repeat (go_big_quiet_step ((fail)))
           refine wpQuiet_nil ?_
           rintro _ ⟨⟨w5,hD⟩,rfl⟩
           clear hsub hsc
           have HD:=Hd (aB HB1.out hD)
           clear hD
           clear d0 d1 e0 e1 lbp lbq c3' d3' lbc' lbd'
           go_wp2_with fail
           go_ret
           exact ⟨aP HR.out,HD.out⟩
          ·have dx:(x==x')=false:=by
            cases hb:x==x' with
            | false=>rfl
            | true=>exact absurd (by simpa using hb) hx
           go_upto_region 11 with fail
           have hsub:=aZ wr
           have hsc:=aR wr
           refine aI wr (by kernel_rfl) (by kernel_rfl) (Below.refl _ _) ?_
           repeat (go_big_quiet_step ((fail)))
           refine wpQuiet_nil ?_
           rintro _ ⟨⟨w5,hD⟩,rfl⟩
           clear hsub hsc
           have HD:=Hd (aB HB1.out hD)
           clear hD
           clear d0 d1 e0 e1 lbp lbq c3' d3' lbc' lbd'
           go_wp2_with fail
           go_ret
           exact ⟨aP HR.out,HD.out⟩
        ·have hjm:j=m:=by omega
         have hdj:decide ((j:Int)<(m:Int))=false:=by simp;omega
         have HG2:=Hd (HGC.out (by
          apply List.ext_getElem
          ·rw [HSL.out,HTL.out]
          ·intro q h1 h2
           have h:=HA3.out q (by rw [hjm,←HSL.out];exact h1)
           rwa [List.getElem?_eq_getElem h1,List.getElem?_eq_getElem h2] at h))
         clear HA3 hjm
         go_wp2_with fail
         go_roundw
         case rel=>exact ⟨k+1,by omega,by go_num,HB1.out,HG2.out⟩
         case measure=>simp [intOf];omega
      ·have HR:Hid (¬xs=bs):=fun h=>hmm (by
        have h2:=HNC.out h
        injection h2 with _ _ h3
        rw [←HSL.out,←HTL.out,h3])
       have dm:((m:Int) != (m':Int))=true:=by simp;omega
       clear HG HNC hmm
       go_upto_region 6 with fail
       have hsub:=aZ wr
       have hsc:=aR wr
       refine aI wr (by kernel_rfl) (by kernel_rfl) (Below.refl _ _) ?_
       repeat (go_big_quiet_step ((fail)))
       refine wpQuiet_nil ?_
       rintro _ ⟨⟨w5,hD⟩,rfl⟩
       clear hsub hsc
       have HD:=Hd (aB HB1.out hD)
       clear hD
       clear c0 c1 c2 c3 d0 d1 d2 d3 lbc lbd
       go_wp2_with fail
       go_ret
       exact ⟨aP HR.out,HD.out⟩
     ·have HR:Hid (¬xs=bs):=fun h=>hpq (by
       have h2:=HNC.out h
       injection h2 with _ h3 _
       injection h3 with h4 h5
       exact ⟨h4,h5⟩)
      clear HG HNC
      by_cases hp:p=p'
      ·subst hp
       have dq:(q==q')=false:=by
        cases hb:q==q' with
        | false=>rfl
        | true=>exact absurd ⟨rfl,by simpa using hb⟩ hpq
       go_upto_region 6 with fail
       have hsub:=aZ wr
       have hsc:=aR wr
       refine aI wr (by kernel_rfl) (by kernel_rfl) (Below.refl _ _) ?_
       repeat (go_big_quiet_step ((fail)))
       refine wpQuiet_nil ?_
       rintro _ ⟨⟨w5,hD⟩,rfl⟩
       clear hsub hsc
       have HD:=Hd (aB HB1.out hD)
       clear hD
       clear c0 c1 c2 c3 d0 d1 d2 d3 lbc lbd
       go_wp2_with fail
       go_ret
       exact ⟨aP HR.out,HD.out⟩
      ·have dp:(p==p')=false:=by
        cases hb:p==p' with
        | false=>rfl
        | true=>exact absurd (by simpa using hb) hp
       go_upto_region 6 with fail
       have hsub:=aZ wr
       have hsc:=aR wr
       refine aI wr (by kernel_rfl) (by kernel_rfl) (Below.refl _ _) ?_
       repeat (go_big_quiet_step ((fail)))
       refine wpQuiet_nil ?_
       rintro _ ⟨⟨w5,hD⟩,rfl⟩
       clear hsub hsc
       have HD:=Hd (aB HB1.out hD)
       clear hD
       clear c0 c1 c2 c3 d0 d1 d2 d3 lbc lbd
       go_wp2_with fail
       go_ret
       exact ⟨aP HR.out,HD.out⟩
    ·have HR:Hid (¬xs=bs):=fun h=>hN (by
      have h2:=HNC.out h
      injection h2 with h3 _ _)
     have dN:(N != N')=true:=by simp [hN]
     clear HG HNC hN
     go_upto_region 6 with fail
     have hsub:=aZ wr
     have hsc:=aR wr
     refine aI wr (by kernel_rfl) (by kernel_rfl) (Below.refl _ _) ?_
     repeat (go_big_quiet_step ((fail)))
     refine wpQuiet_nil ?_
     rintro _ ⟨⟨w5,hD⟩,rfl⟩
     clear hsub hsc
     have HD:=Hd (aB HB1.out hD)
     clear hD
     clear c0 c1 c2 c3 d0 d1 d2 d3 lbc lbd
     go_wp2_with fail
     go_ret
     exact ⟨aP HR.out,HD.out⟩
   ·have hkn:k=cn:=by omega
    have hdk:decide ((k:Int)<(cn:Int))=false:=by simp;omega
    have HR:Hid (xs=bs):=by
     show xs=bs
     apply List.ext_getElem
     ·rw [HCL.out,HDL.out]
     ·intro q h1 h2
      have h:=HALL.out q (by rw [hkn,←HCL.out];exact h1)
      rwa [List.getElem?_eq_getElem h1,List.getElem?_eq_getElem h2] at h
    clear HALL hkn
    go_wp2_with fail
    go_ret
    exact ⟨cO HR.out,HB1.out⟩
 ·have HR:Hid (¬xs=bs):=fun h=>hcd (by rw [←hcl,←hdl,h])
  have dn0:((cn:Int) != (dn:Int))=true:=by simp;omega
  clear hcl hdl hcd
  go_enter Tryz.func36,Tryz.ntmps36
  go_wp2_with fail
  go_ret
  exact ⟨aP HR.out,Below.refl _ _⟩
theorem qm (d:Dev) (x:Lay) (SA LA OA BA CA PA RA:Option Addr) (sn sc ln lc on oc bn bc cn cc pn pc rn rc:Nat) (w:World) (hN:fI w x.net SA LA OA sn sc ln lc on oc) (hB:RdC w w.heap.size (bE x.blocks) (.slice BA bn bc)) (hC:RdC w w.heap.size (bD x.conns) (.slice CA cn cc)) (hP:RdC w w.heap.size (aJ x.place) (.slice PA pn pc)) (hR:RdC w w.heap.size (bR x.routes) (.slice RA rn rc))
  (hbn:bn<=1048576) (hcn:cn<=1048576) (hpc:pn<=pc) (hpb:pc<=1048576) (hbb:∀b∈x.blocks,b.les.length<=1048576) (hbc:∀c∈x.conns,c.sinks.length<=1048576) (hbr:∀r∈x.routes,r.nodes.length<=1048576/\r.from_.length<=1048576) :
  Calls Tryz.prog 8 #[.agg #[.int .i64 d.W,.int .i64 d.H,.int .i64 d.T,.int .i64 d.R],sH x SA LA OA BA CA PA RA sn sc ln lc on oc bn bc cn cc pn pc rn rc] w fun e w'=>e = .returned (.bool (tb (jg d x)))/\Below w.heap.size w w':=by
 have HN:=Hd hN
 have HB:=Hd hB
 have HC:=Hd hC
 have HP:=Hd hP
 have HR0:=Hd hR
 have HBB:=Hd hbb
 have HBC:=Hd hbc
 have HBR:=Hd hbr
 clear hN hB hC hP hR hbb hbc hbr
 have HB0:=Hd (aF (aF (Below.refl w.heap.size w) (.cells #[.int .i64 d.W,.int .i64 d.H,.int .i64 d.T,.int .i64 d.R] 36)) (.cells #[.int .i64 x.net.inputs,.slice SA sn sc,.slice LA ln lc,.slice OA on oc,.slice BA bn bc,.slice CA cn cc,.slice PA pn pc,.slice RA rn rc] 46))
 have hx:=bg (.cells #[.int .i64 x.net.inputs,.slice SA sn sc,.slice LA ln lc,.slice OA on oc,.slice BA bn bc,.slice CA cn cc,.slice PA pn pc,.slice RA rn rc] 46) (aK w (.cells #[.int .i64 d.W,.int .i64 d.H,.int .i64 d.T,.int .i64 d.R] 36))
 have hy:=aK (w.alloc (.cells #[.int .i64 d.W,.int .i64 d.H,.int .i64 d.T,.int .i64 d.R] 36)) (.cells #[.int .i64 x.net.inputs,.slice SA sn sc,.slice LA ln lc,.slice OA on oc,.slice BA bn bc,.slice CA cn cc,.slice PA pn pc,.slice RA rn rc] 46)
 simp only [World.size_alloc] at hy
 have HXB:=Hd hx
 have HYB:=Hd hy
 clear hx hy
 by_cases hpf:eY x.net x.blocks
 ·have HPF:=Hd hpf
  clear hpf
  by_cases hsc:x.conns=df x.net x.blocks
  ·have HSC:=Hd hsc
   clear hsc
   by_cases hpc':di d (x.blocks.map Blk.kind) x.place
   ·have HPC:=Hd hpc'
    clear hpc'
    by_cases hrf:eD d x.place x.conns x.routes
    ·have HRF:=Hd hrf
     have HR:Hid (jg d x):=⟨HPF.out,HSC.out,HPC.out,HRF.out⟩
     clear hrf
     go_enter Tryz.func8,Tryz.ntmps8
     go_upto_region 1 with fail
     generalize (w.alloc (.cells #[.int .i64 d.W,.int .i64 d.H,.int .i64 d.T,.int .i64 d.R] 36)).alloc (.cells #[.int .i64 x.net.inputs,.slice SA sn sc,.slice LA ln lc,.slice OA on oc,.slice BA bn bc,.slice CA cn cc,.slice PA pn pc,.slice RA rn rc] 46)=W9 at *
     have x0:=aA (k:=0) HXB.out rfl
     have x1:=aA (k:=1) HXB.out rfl
     have x2:=aA (k:=2) HXB.out rfl
     have x3:=aA (k:=3) HXB.out rfl
     have lx:=aC HXB.out
     have y0:=aA (k:=0) HYB.out rfl
     have y1:=aA (k:=1) HYB.out rfl
     have y2:=aA (k:=2) HYB.out rfl
     have y3:=aA (k:=3) HYB.out rfl
     have y4:=aA (k:=4) HYB.out rfl
     have y5:=aA (k:=5) HYB.out rfl
     have y6:=aA (k:=6) HYB.out rfl
     have y7:=aA (k:=7) HYB.out rfl
     have ly:=aC HYB.out
     have HKEEP:Hid (∀w',Below W9.heap.size W9 w'→(w'.cell? ⟨w.heap.size,0,none⟩=some (.int .i64 d.W)/\w'.cell? ⟨w.heap.size,1,none⟩=some (.int .i64 d.H)/\w'.cell? ⟨w.heap.size,2,none⟩=some (.int .i64 d.T)/\w'.cell? ⟨w.heap.size,3,none⟩=some (.int .i64 d.R)/\w'.cell? ⟨w.heap.size+1,0,none⟩=some (.int .i64 x.net.inputs)/\w'.cell? ⟨w.heap.size+1,1,none⟩=some (.slice SA sn sc)/\w'.cell? ⟨w.heap.size+1,2,none⟩=some (.slice LA ln lc)/\w'.cell? ⟨w.heap.size+1,3,none⟩=some (.slice OA on oc)/\w'.cell? ⟨w.heap.size+1,4,none⟩=some (.slice BA bn bc)/\w'.cell? ⟨w.heap.size+1,5,none⟩=some (.slice CA cn cc)/\w'.cell? ⟨w.heap.size+1,6,none⟩=some (.slice PA pn pc)/\w'.cell? ⟨w.heap.size+1,7,none⟩=some (.slice RA rn rc))):=fun v hv=>⟨(hv.cell (p:=⟨w.heap.size,0,none⟩) lx).trans x0,(hv.cell (p:=⟨w.heap.size,1,none⟩) lx).trans x1,(hv.cell (p:=⟨w.heap.size,2,none⟩) lx).trans x2,(hv.cell (p:=⟨w.heap.size,3,none⟩) lx).trans x3,(hv.cell (p:=⟨w.heap.size+1,0,none⟩) ly).trans y0,(hv.cell (p:=⟨w.heap.size+1,1,none⟩) ly).trans y1,(hv.cell (p:=⟨w.heap.size+1,2,none⟩) ly).trans y2,(hv.cell (p:=⟨w.heap.size+1,3,none⟩) ly).trans y3,(hv.cell (p:=⟨w.heap.size+1,4,none⟩) ly).trans y4,(hv.cell (p:=⟨w.heap.size+1,5,none⟩) ly).trans y5,(hv.cell (p:=⟨w.heap.size+1,6,none⟩) ly).trans y6,(hv.cell (p:=⟨w.heap.size+1,7,none⟩) ly).trans y7⟩
     have hD:=(Below.refl W9.heap.size W9).drew
     have HPK:=Hd (fun (v:World) (hv:Below W9.heap.size W9 v)=>(by have h:=jO x.net SA LA OA sn sc ln lc on oc x.blocks BA bn bc v (HN.out.below (aB HB0.out hv)) (HB.out.below (aB HB0.out hv)) HBB.out;rwa [aa HPF.out] at h:Calls Tryz.prog 35 #[iD x.net SA LA OA sn sc ln lc on oc,.slice BA bn bc] v fun e w'=>e = .returned (.bool true)/\Below v.heap.size v w'))
     have HCN:=Hd (fun (v:World) (hv:Below W9.heap.size W9 v)=>kE x.net SA LA OA sn sc ln lc on oc x.blocks BA bn bc v (HN.out.below (aB HB0.out hv)) (HB.out.below (aB HB0.out hv)) HPF.out)
     have HSM:=Hd (fun (v:World) (hv:Below W9.heap.size W9 v) (A:Option Addr) (n c:Nat) (h:RdC v v.heap.size (bD (df x.net x.blocks)) (.slice A n c))=>(by have h:=jV x.conns (df x.net x.blocks) CA A cn cc n c v (HC.out.below (aB HB0.out hv)) h hcn HBC.out;rwa [aa HSC.out] at h:Calls Tryz.prog 36 #[.slice CA cn cc,.slice A n c] v fun e w'=>e = .returned (.bool true)/\Below v.heap.size v w'))
     have HKD:=Hd (fun (v:World) (hv:Below W9.heap.size W9 v)=>mV x.blocks BA bn bc v (HB.out.below (aB HB0.out hv)) hbn)
     have HPL:=Hd (fun (v:World) (hv:Below W9.heap.size W9 v) (A:Option Addr) (c:Nat) (h:dA v A bn (x.blocks.map Blk.kind))=>(by have h:=mW d (x.blocks.map Blk.kind) x.place A PA bn c pn pc v h (HP.out.ints.below (aB HB0.out hv)) hpc hpb;rwa [aa HPC.out] at h:Calls Tryz.prog 38 #[.agg #[.int .i64 d.W,.int .i64 d.H,.int .i64 d.T,.int .i64 d.R],.slice A bn c,.slice PA pn pc] v fun e w'=>e = .returned (.bool true)/\Below v.heap.size v w'))
     have HRO:=Hd (fun (v:World) (hv:Below W9.heap.size W9 v)=>(by have h:=nR d x.place x.conns x.routes PA CA RA pn pc cn cc rn rc v (HP.out.ints.below (aB HB0.out hv)) (HC.out.below (aB HB0.out hv)) (HR0.out.below (aB HB0.out hv)) (by omega) HBC.out HBR.out;rwa [aa HRF.out] at h:Calls Tryz.prog 40 #[.agg #[.int .i64 d.W,.int .i64 d.H,.int .i64 d.T,.int .i64 d.R],.slice PA pn pc,.slice CA cn cc,.slice RA rn rc] v fun e w'=>e = .returned (.bool true)/\Below v.heap.size v w'))
     go_region_held3 (fun w'=>w'.cell? ⟨w.heap.size,0,none⟩=some (.int .i64 d.W)/\w'.cell? ⟨w.heap.size,1,none⟩=some (.int .i64 d.H)/\w'.cell? ⟨w.heap.size,2,none⟩=some (.int .i64 d.T)/\w'.cell? ⟨w.heap.size,3,none⟩=some (.int .i64 d.R)/\w'.cell? ⟨w.heap.size+1,0,none⟩=some (.int .i64 x.net.inputs)/\w'.cell? ⟨w.heap.size+1,1,none⟩=some (.slice SA sn sc)/\w'.cell? ⟨w.heap.size+1,2,none⟩=some (.slice LA ln lc)/\w'.cell? ⟨w.heap.size+1,3,none⟩=some (.slice OA on oc)/\w'.cell? ⟨w.heap.size+1,4,none⟩=some (.slice BA bn bc)/\w'.cell? ⟨w.heap.size+1,5,none⟩=some (.slice CA cn cc)/\w'.cell? ⟨w.heap.size+1,6,none⟩=some (.slice PA pn pc)/\w'.cell? ⟨w.heap.size+1,7,none⟩=some (.slice RA rn rc))
      (first|exact HKEEP.out _ hD)
      ((first
      | (go_at_call 35;(with_reducible refine (HPK.out _ hD).mono ?_);rintro _ w5 ⟨rfl,b5⟩;replace hD:=aB hD b5;clear b5)
      | (go_at_call 37;(with_reducible refine (HCN.out _ hD).mono ?_);rintro e5 w5 ⟨A5,n5,c5,rfl,o5,b5⟩;have O5:=Hd o5.rd;clear o5;replace hD:=aB hD b5;clear b5)
      | (go_at_call 36;(with_reducible refine (HSM.out _ hD A5 n5 c5 O5.out).mono ?_);rintro _ w6 ⟨rfl,b5⟩;replace hD:=aB hD b5;clear b5)
      | (go_at_call 39;(with_reducible refine (HKD.out _ hD).mono ?_);rintro e7 w7 ⟨A7,c7,rfl,o7,b5⟩;have O7:=Hd o7.ints;clear o7;replace hD:=aB hD b5;clear b5)
      | (go_at_call 38;(with_reducible refine (HPL.out _ hD A7 c7 O7.out).mono ?_);rintro _ w8 ⟨rfl,b5⟩;replace hD:=aB hD b5;clear b5)
      | (go_at_call 40;(with_reducible refine (HRO.out _ hD).mono ?_);rintro _ w4 ⟨rfl,b5⟩;replace hD:=aB hD b5;clear b5)))
     have HD:=Hd (aB HB0.out hD)
     clear hD x0 x1 x2 x3 lx y0 y1 y2 y3 y4 y5 y6 y7 ly HKEEP
     go_wp2_with fail
     go_ret
     exact ⟨cO HR.out,HD.out⟩
    ·have HRF:=Hd hrf
     have HR:Hid (¬jg d x):=fun h=>HRF.out h.routes
     clear hrf
     go_enter Tryz.func8,Tryz.ntmps8
     go_upto_region 1 with fail
     generalize (w.alloc (.cells #[.int .i64 d.W,.int .i64 d.H,.int .i64 d.T,.int .i64 d.R] 36)).alloc (.cells #[.int .i64 x.net.inputs,.slice SA sn sc,.slice LA ln lc,.slice OA on oc,.slice BA bn bc,.slice CA cn cc,.slice PA pn pc,.slice RA rn rc] 46)=W9 at *
     have x0:=aA (k:=0) HXB.out rfl
     have x1:=aA (k:=1) HXB.out rfl
     have x2:=aA (k:=2) HXB.out rfl
     have x3:=aA (k:=3) HXB.out rfl
     have lx:=aC HXB.out
     have y0:=aA (k:=0) HYB.out rfl
     have y1:=aA (k:=1) HYB.out rfl
     have y2:=aA (k:=2) HYB.out rfl
     have y3:=aA (k:=3) HYB.out rfl
     have y4:=aA (k:=4) HYB.out rfl
     have y5:=aA (k:=5) HYB.out rfl
     have y6:=aA (k:=6) HYB.out rfl
     have y7:=aA (k:=7) HYB.out rfl
     have ly:=aC HYB.out
     have HKEEP:Hid (∀w',Below W9.heap.size W9 w'→(w'.cell? ⟨w.heap.size,0,none⟩=some (.int .i64 d.W)/\w'.cell? ⟨w.heap.size,1,none⟩=some (.int .i64 d.H)/\w'.cell? ⟨w.heap.size,2,none⟩=some (.int .i64 d.T)/\w'.cell? ⟨w.heap.size,3,none⟩=some (.int .i64 d.R)/\w'.cell? ⟨w.heap.size+1,0,none⟩=some (.int .i64 x.net.inputs)/\w'.cell? ⟨w.heap.size+1,1,none⟩=some (.slice SA sn sc)/\w'.cell? ⟨w.heap.size+1,2,none⟩=some (.slice LA ln lc)/\w'.cell? ⟨w.heap.size+1,3,none⟩=some (.slice OA on oc)/\w'.cell? ⟨w.heap.size+1,4,none⟩=some (.slice BA bn bc)/\w'.cell? ⟨w.heap.size+1,5,none⟩=some (.slice CA cn cc)/\w'.cell? ⟨w.heap.size+1,6,none⟩=some (.slice PA pn pc)/\w'.cell? ⟨w.heap.size+1,7,none⟩=some (.slice RA rn rc))):=fun v hv=>⟨(hv.cell (p:=⟨w.heap.size,0,none⟩) lx).trans x0,(hv.cell (p:=⟨w.heap.size,1,none⟩) lx).trans x1,(hv.cell (p:=⟨w.heap.size,2,none⟩) lx).trans x2,(hv.cell (p:=⟨w.heap.size,3,none⟩) lx).trans x3,(hv.cell (p:=⟨w.heap.size+1,0,none⟩) ly).trans y0,(hv.cell (p:=⟨w.heap.size+1,1,none⟩) ly).trans y1,(hv.cell (p:=⟨w.heap.size+1,2,none⟩) ly).trans y2,(hv.cell (p:=⟨w.heap.size+1,3,none⟩) ly).trans y3,(hv.cell (p:=⟨w.heap.size+1,4,none⟩) ly).trans y4,(hv.cell (p:=⟨w.heap.size+1,5,none⟩) ly).trans y5,(hv.cell (p:=⟨w.heap.size+1,6,none⟩) ly).trans y6,(hv.cell (p:=⟨w.heap.size+1,7,none⟩) ly).trans y7⟩
     have hD:=(Below.refl W9.heap.size W9).drew
     have HPK:=Hd (fun (v:World) (hv:Below W9.heap.size W9 v)=>(by have h:=jO x.net SA LA OA sn sc ln lc on oc x.blocks BA bn bc v (HN.out.below (aB HB0.out hv)) (HB.out.below (aB HB0.out hv)) HBB.out;rwa [aa HPF.out] at h:Calls Tryz.prog 35 #[iD x.net SA LA OA sn sc ln lc on oc,.slice BA bn bc] v fun e w'=>e = .returned (.bool true)/\Below v.heap.size v w'))
     have HCN:=Hd (fun (v:World) (hv:Below W9.heap.size W9 v)=>kE x.net SA LA OA sn sc ln lc on oc x.blocks BA bn bc v (HN.out.below (aB HB0.out hv)) (HB.out.below (aB HB0.out hv)) HPF.out)
     have HSM:=Hd (fun (v:World) (hv:Below W9.heap.size W9 v) (A:Option Addr) (n c:Nat) (h:RdC v v.heap.size (bD (df x.net x.blocks)) (.slice A n c))=>(by have h:=jV x.conns (df x.net x.blocks) CA A cn cc n c v (HC.out.below (aB HB0.out hv)) h hcn HBC.out;rwa [aa HSC.out] at h:Calls Tryz.prog 36 #[.slice CA cn cc,.slice A n c] v fun e w'=>e = .returned (.bool true)/\Below v.heap.size v w'))
     have HKD:=Hd (fun (v:World) (hv:Below W9.heap.size W9 v)=>mV x.blocks BA bn bc v (HB.out.below (aB HB0.out hv)) hbn)
     have HPL:=Hd (fun (v:World) (hv:Below W9.heap.size W9 v) (A:Option Addr) (c:Nat) (h:dA v A bn (x.blocks.map Blk.kind))=>(by have h:=mW d (x.blocks.map Blk.kind) x.place A PA bn c pn pc v h (HP.out.ints.below (aB HB0.out hv)) hpc hpb;rwa [aa HPC.out] at h:Calls Tryz.prog 38 #[.agg #[.int .i64 d.W,.int .i64 d.H,.int .i64 d.T,.int .i64 d.R],.slice A bn c,.slice PA pn pc] v fun e w'=>e = .returned (.bool true)/\Below v.heap.size v w'))
     have HRO:=Hd (fun (v:World) (hv:Below W9.heap.size W9 v)=>(by have h:=nR d x.place x.conns x.routes PA CA RA pn pc cn cc rn rc v (HP.out.ints.below (aB HB0.out hv)) (HC.out.below (aB HB0.out hv)) (HR0.out.below (aB HB0.out hv)) (by omega) HBC.out HBR.out;rwa [bF HRF.out] at h:Calls Tryz.prog 40 #[.agg #[.int .i64 d.W,.int .i64 d.H,.int .i64 d.T,.int .i64 d.R],.slice PA pn pc,.slice CA cn cc,.slice RA rn rc] v fun e w'=>e = .returned (.bool false)/\Below v.heap.size v w'))
     go_region_held3 (fun w'=>w'.cell? ⟨w.heap.size,0,none⟩=some (.int .i64 d.W)/\w'.cell? ⟨w.heap.size,1,none⟩=some (.int .i64 d.H)/\w'.cell? ⟨w.heap.size,2,none⟩=some (.int .i64 d.T)/\w'.cell? ⟨w.heap.size,3,none⟩=some (.int .i64 d.R)/\w'.cell? ⟨w.heap.size+1,0,none⟩=some (.int .i64 x.net.inputs)/\w'.cell? ⟨w.heap.size+1,1,none⟩=some (.slice SA sn sc)/\w'.cell? ⟨w.heap.size+1,2,none⟩=some (.slice LA ln lc)/\w'.cell? ⟨w.heap.size+1,3,none⟩=some (.slice OA on oc)/\w'.cell? ⟨w.heap.size+1,4,none⟩=some (.slice BA bn bc)/\w'.cell? ⟨w.heap.size+1,5,none⟩=some (.slice CA cn cc)/\w'.cell? ⟨w.heap.size+1,6,none⟩=some (.slice PA pn pc)/\w'.cell? ⟨w.heap.size+1,7,none⟩=some (.slice RA rn rc))
      (first|exact HKEEP.out _ hD)
      ((first
      | (go_at_call 35;(with_reducible refine (HPK.out _ hD).mono ?_);rintro _ w5 ⟨rfl,b5⟩;replace hD:=aB hD b5;clear b5)
      | (go_at_call 37;(with_reducible refine (HCN.out _ hD).mono ?_);rintro e5 w5 ⟨A5,n5,c5,rfl,o5,b5⟩;have O5:=Hd o5.rd;clear o5;replace hD:=aB hD b5;clear b5)
      | (go_at_call 36;(with_reducible refine (HSM.out _ hD A5 n5 c5 O5.out).mono ?_);rintro _ w6 ⟨rfl,b5⟩;replace hD:=aB hD b5;clear b5)
      | (go_at_call 39;(with_reducible refine (HKD.out _ hD).mono ?_);rintro e7 w7 ⟨A7,c7,rfl,o7,b5⟩;have O7:=Hd o7.ints;clear o7;replace hD:=aB hD b5;clear b5)
      | (go_at_call 38;(with_reducible refine (HPL.out _ hD A7 c7 O7.out).mono ?_);rintro _ w8 ⟨rfl,b5⟩;replace hD:=aB hD b5;clear b5)
      | (go_at_call 40;(with_reducible refine (HRO.out _ hD).mono ?_);rintro _ w4 ⟨rfl,b5⟩;replace hD:=aB hD b5;clear b5)))
     have HD:=Hd (aB HB0.out hD)
     clear hD x0 x1 x2 x3 lx y0 y1 y2 y3 y4 y5 y6 y7 ly HKEEP
     go_wp2_with fail
     go_ret
     exact ⟨aP HR.out,HD.out⟩
   ·have HPC:=Hd hpc'
    have HR:Hid (¬jg d x):=fun h=>HPC.out h.place
    clear hpc'
    go_enter Tryz.func8,Tryz.ntmps8
    go_upto_region 1 with fail
    generalize (w.alloc (.cells #[.int .i64 d.W,.int .i64 d.H,.int .i64 d.T,.int .i64 d.R] 36)).alloc (.cells #[.int .i64 x.net.inputs,.slice SA sn sc,.slice LA ln lc,.slice OA on oc,.slice BA bn bc,.slice CA cn cc,.slice PA pn pc,.slice RA rn rc] 46)=W9 at *
    have x0:=aA (k:=0) HXB.out rfl
    have x1:=aA (k:=1) HXB.out rfl
    have x2:=aA (k:=2) HXB.out rfl
    have x3:=aA (k:=3) HXB.out rfl
    have lx:=aC HXB.out
    have y0:=aA (k:=0) HYB.out rfl
    have y1:=aA (k:=1) HYB.out rfl
    have y2:=aA (k:=2) HYB.out rfl
    have y3:=aA (k:=3) HYB.out rfl
    have y4:=aA (k:=4) HYB.out rfl
    have y5:=aA (k:=5) HYB.out rfl
    have y6:=aA (k:=6) HYB.out rfl
    have y7:=aA (k:=7) HYB.out rfl
    have ly:=aC HYB.out
    have HKEEP:Hid (∀w',Below W9.heap.size W9 w'→(w'.cell? ⟨w.heap.size,0,none⟩=some (.int .i64 d.W)/\w'.cell? ⟨w.heap.size,1,none⟩=some (.int .i64 d.H)/\w'.cell? ⟨w.heap.size,2,none⟩=some (.int .i64 d.T)/\w'.cell? ⟨w.heap.size,3,none⟩=some (.int .i64 d.R)/\w'.cell? ⟨w.heap.size+1,0,none⟩=some (.int .i64 x.net.inputs)/\w'.cell? ⟨w.heap.size+1,1,none⟩=some (.slice SA sn sc)/\w'.cell? ⟨w.heap.size+1,2,none⟩=some (.slice LA ln lc)/\w'.cell? ⟨w.heap.size+1,3,none⟩=some (.slice OA on oc)/\w'.cell? ⟨w.heap.size+1,4,none⟩=some (.slice BA bn bc)/\w'.cell? ⟨w.heap.size+1,5,none⟩=some (.slice CA cn cc)/\w'.cell? ⟨w.heap.size+1,6,none⟩=some (.slice PA pn pc)/\w'.cell? ⟨w.heap.size+1,7,none⟩=some (.slice RA rn rc))):=fun v hv=>⟨(hv.cell (p:=⟨w.heap.size,0,none⟩) lx).trans x0,(hv.cell (p:=⟨w.heap.size,1,none⟩) lx).trans x1,(hv.cell (p:=⟨w.heap.size,2,none⟩) lx).trans x2,(hv.cell (p:=⟨w.heap.size,3,none⟩) lx).trans x3,(hv.cell (p:=⟨w.heap.size+1,0,none⟩) ly).trans y0,(hv.cell (p:=⟨w.heap.size+1,1,none⟩) ly).trans y1,(hv.cell (p:=⟨w.heap.size+1,2,none⟩) ly).trans y2,(hv.cell (p:=⟨w.heap.size+1,3,none⟩) ly).trans y3,(hv.cell (p:=⟨w.heap.size+1,4,none⟩) ly).trans y4,(hv.cell (p:=⟨w.heap.size+1,5,none⟩) ly).trans y5,(hv.cell (p:=⟨w.heap.size+1,6,none⟩) ly).trans y6,(hv.cell (p:=⟨w.heap.size+1,7,none⟩) ly).trans y7⟩
    have hD:=(Below.refl W9.heap.size W9).drew
    have HPK:=Hd (fun (v:World) (hv:Below W9.heap.size W9 v)=>(by have h:=jO x.net SA LA OA sn sc ln lc on oc x.blocks BA bn bc v (HN.out.below (aB HB0.out hv)) (HB.out.below (aB HB0.out hv)) HBB.out;rwa [aa HPF.out] at h:Calls Tryz.prog 35 #[iD x.net SA LA OA sn sc ln lc on oc,.slice BA bn bc] v fun e w'=>e = .returned (.bool true)/\Below v.heap.size v w'))
    have HCN:=Hd (fun (v:World) (hv:Below W9.heap.size W9 v)=>kE x.net SA LA OA sn sc ln lc on oc x.blocks BA bn bc v (HN.out.below (aB HB0.out hv)) (HB.out.below (aB HB0.out hv)) HPF.out)
    have HSM:=Hd (fun (v:World) (hv:Below W9.heap.size W9 v) (A:Option Addr) (n c:Nat) (h:RdC v v.heap.size (bD (df x.net x.blocks)) (.slice A n c))=>(by have h:=jV x.conns (df x.net x.blocks) CA A cn cc n c v (HC.out.below (aB HB0.out hv)) h hcn HBC.out;rwa [aa HSC.out] at h:Calls Tryz.prog 36 #[.slice CA cn cc,.slice A n c] v fun e w'=>e = .returned (.bool true)/\Below v.heap.size v w'))
    have HKD:=Hd (fun (v:World) (hv:Below W9.heap.size W9 v)=>mV x.blocks BA bn bc v (HB.out.below (aB HB0.out hv)) hbn)
    have HPL:=Hd (fun (v:World) (hv:Below W9.heap.size W9 v) (A:Option Addr) (c:Nat) (h:dA v A bn (x.blocks.map Blk.kind))=>(by have h:=mW d (x.blocks.map Blk.kind) x.place A PA bn c pn pc v h (HP.out.ints.below (aB HB0.out hv)) hpc hpb;rwa [bF HPC.out] at h:Calls Tryz.prog 38 #[.agg #[.int .i64 d.W,.int .i64 d.H,.int .i64 d.T,.int .i64 d.R],.slice A bn c,.slice PA pn pc] v fun e w'=>e = .returned (.bool false)/\Below v.heap.size v w'))
    refine wp_region_held_drew (S:=(fun w'=>w'.cell? ⟨w.heap.size,0,none⟩=some (.int .i64 d.W)/\w'.cell? ⟨w.heap.size,1,none⟩=some (.int .i64 d.H)/\w'.cell? ⟨w.heap.size,2,none⟩=some (.int .i64 d.T)/\w'.cell? ⟨w.heap.size,3,none⟩=some (.int .i64 d.R)/\w'.cell? ⟨w.heap.size+1,0,none⟩=some (.int .i64 x.net.inputs)/\w'.cell? ⟨w.heap.size+1,1,none⟩=some (.slice SA sn sc)/\w'.cell? ⟨w.heap.size+1,2,none⟩=some (.slice LA ln lc)/\w'.cell? ⟨w.heap.size+1,3,none⟩=some (.slice OA on oc)/\w'.cell? ⟨w.heap.size+1,4,none⟩=some (.slice BA bn bc)/\w'.cell? ⟨w.heap.size+1,5,none⟩=some (.slice CA cn cc)/\w'.cell? ⟨w.heap.size+1,6,none⟩=some (.slice PA pn pc)/\w'.cell? ⟨w.heap.size+1,7,none⟩=some (.slice RA rn rc))) (by kernel_rfl) ?_ (fun hHeld=>?_)
    ·(try dsimp only)
     first|exact HKEEP.out _ hD
    refine onH (i:=0) (v:=?_) opA ?h1 hHeld ?r1
    case h1=>(intro w hSw;(try dsimp only at hSw);go_simp) <;> with_reducible rfl
    try simp only [Act.put,List.setIfInBounds_toArray,List.set_cons_zero,List.set_cons_succ]
    refine onH (i:=1) (v:=?_) (opB opA) ?h2 hHeld ?r2
    case h2=>(intro w hSw;(try dsimp only at hSw);go_simp) <;> with_reducible rfl
    try simp only [Act.put,List.setIfInBounds_toArray,List.set_cons_zero,List.set_cons_succ]
    refine onH (i:=2) (v:=?_) (opB (opB opA)) ?h3 hHeld ?r3
    case h3=>(intro w hSw;(try dsimp only at hSw);go_simp) <;> with_reducible rfl
    try simp only [Act.put,List.setIfInBounds_toArray,List.set_cons_zero,List.set_cons_succ]
    refine onH (i:=3) (v:=?_) (opB (opB (opB opA))) ?h4 hHeld ?r4
    case h4=>(intro w hSw;(try dsimp only at hSw);go_simp) <;> with_reducible rfl
    try simp only [Act.put,List.setIfInBounds_toArray,List.set_cons_zero,List.set_cons_succ]
    try simp only [Act.put,List.setIfInBounds_toArray,List.set_cons_zero,List.set_cons_succ]
    refine gJ (i:=4) (opC opA) (fun K hK=>?_)
    go_simp
    (go_at_call 35;(with_reducible refine (HPK.out _ hD).mono ?_);rintro _ w5 ⟨rfl,b5⟩;replace hD:=aB hD b5;clear b5)
    first|refine hK.out _ _ ?_ (fun hHeld=>?_)|(go_wp2_with fail;refine hK.out _ _ ?_ (fun hHeld=>?_))
    ·(try dsimp only)
     first|exact HKEEP.out _ hD
    clear hK K
    try simp only [Act.put,List.setIfInBounds_toArray,List.set_cons_zero,List.set_cons_succ]
    refine onH (i:=5) (v:=?_) (opC (opB opA)) ?h5 hHeld ?r5
    case h5=>(intro w hSw;(try dsimp only at hSw);go_simp) <;> with_reducible rfl
    try simp only [Act.put,List.setIfInBounds_toArray,List.set_cons_zero,List.set_cons_succ]
    refine onH (i:=6) (v:=?_) (opC (opB (opB opA))) ?h6 hHeld ?r6
    case h6=>(intro w hSw;(try dsimp only at hSw);go_simp) <;> with_reducible rfl
    try simp only [Act.put,List.setIfInBounds_toArray,List.set_cons_zero,List.set_cons_succ]
    refine onH (i:=7) (v:=?_) (opC (opB (opB (opB opA)))) ?h7 hHeld ?r7
    case h7=>(intro w hSw;(try dsimp only at hSw);go_simp) <;> with_reducible rfl
    try simp only [Act.put,List.setIfInBounds_toArray,List.set_cons_zero,List.set_cons_succ]
    refine onH (i:=8) (v:=?_) (opC (opC opA)) ?h8 hHeld ?r8
    case h8=>(intro w hSw;(try dsimp only at hSw);go_simp) <;> with_reducible rfl
    try simp only [Act.put,List.setIfInBounds_toArray,List.set_cons_zero,List.set_cons_succ]
    refine onH (i:=9) (v:=?_) (opC (opC (opB opA))) ?h9 hHeld ?r9
    case h9=>(intro w hSw;(try dsimp only at hSw);go_simp) <;> with_reducible rfl
    try simp only [Act.put,List.setIfInBounds_toArray,List.set_cons_zero,List.set_cons_succ]
    refine onH (i:=10) (v:=?_) (opC (opC (opB (opB opA)))) ?h10 hHeld ?r10
    case h10=>(intro w hSw;(try dsimp only at hSw);go_simp) <;> with_reducible rfl
    try simp only [Act.put,List.setIfInBounds_toArray,List.set_cons_zero,List.set_cons_succ]
    refine onH (i:=11) (v:=?_) (opC (opC (opB (opB (opB opA))))) ?h11 hHeld ?r11
    case h11=>(intro w hSw;(try dsimp only at hSw);go_simp) <;> with_reducible rfl
    try simp only [Act.put,List.setIfInBounds_toArray,List.set_cons_zero,List.set_cons_succ]
    try simp only [Act.put,List.setIfInBounds_toArray,List.set_cons_zero,List.set_cons_succ]
    refine gJ (i:=12) (opC (opC (opC opA))) (fun K hK=>?_)
    go_simp
    (go_at_call 37;(with_reducible refine (HCN.out _ hD).mono ?_);rintro e5 w5 ⟨A5,n5,c5,rfl,o5,b5⟩;have O5:=Hd o5.rd;clear o5;replace hD:=aB hD b5;clear b5)
    first|refine hK.out _ _ ?_ (fun hHeld=>?_)|(go_wp2_with fail;refine hK.out _ _ ?_ (fun hHeld=>?_))
    ·(try dsimp only)
     first|exact HKEEP.out _ hD
    clear hK K
    try simp only [Act.put,List.setIfInBounds_toArray,List.set_cons_zero,List.set_cons_succ]
    try simp only [Act.put,List.setIfInBounds_toArray,List.set_cons_zero,List.set_cons_succ]
    refine gJ (i:=13) (opC (opC (opC (opB opA)))) (fun K hK=>?_)
    go_simp
    (go_at_call 36;(with_reducible refine (HSM.out _ hD A5 n5 c5 O5.out).mono ?_);rintro _ w6 ⟨rfl,b5⟩;replace hD:=aB hD b5;clear b5)
    first|refine hK.out _ _ ?_ (fun hHeld=>?_)|(go_wp2_with fail;refine hK.out _ _ ?_ (fun hHeld=>?_))
    ·(try dsimp only)
     first|exact HKEEP.out _ hD
    clear hK K
    try simp only [Act.put,List.setIfInBounds_toArray,List.set_cons_zero,List.set_cons_succ]
    refine onH (i:=14) (v:=?_) (opC (opC (opC (opB (opB opA))))) ?h12 hHeld ?r12
    case h12=>(intro w hSw;(try dsimp only at hSw);go_simp) <;> with_reducible rfl
    try simp only [Act.put,List.setIfInBounds_toArray,List.set_cons_zero,List.set_cons_succ]
    refine onH (i:=15) (v:=?_) (opC (opC (opC (opB (opB (opB opA)))))) ?h13 hHeld ?r13
    case h13=>(intro w hSw;(try dsimp only at hSw);go_simp) <;> with_reducible rfl
    try simp only [Act.put,List.setIfInBounds_toArray,List.set_cons_zero,List.set_cons_succ]
    refine onH (i:=16) (v:=?_) (opD opA) ?h14 hHeld ?r14
    case h14=>(intro w hSw;(try dsimp only at hSw);go_simp) <;> with_reducible rfl
    try simp only [Act.put,List.setIfInBounds_toArray,List.set_cons_zero,List.set_cons_succ]
    refine onH (i:=17) (v:=?_) (opD (opB opA)) ?h15 hHeld ?r15
    case h15=>(intro w hSw;(try dsimp only at hSw);go_simp) <;> with_reducible rfl
    try simp only [Act.put,List.setIfInBounds_toArray,List.set_cons_zero,List.set_cons_succ]
    refine onH (i:=18) (v:=?_) (opD (opB (opB opA))) ?h16 hHeld ?r16
    case h16=>(intro w hSw;(try dsimp only at hSw);go_simp) <;> with_reducible rfl
    try simp only [Act.put,List.setIfInBounds_toArray,List.set_cons_zero,List.set_cons_succ]
    refine onH (i:=20) (v:=?_) (opD (opC opA)) ?h17 hHeld ?r17
    case h17=>(intro w hSw;(try dsimp only at hSw);go_simp) <;> with_reducible rfl
    try simp only [Act.put,List.setIfInBounds_toArray,List.set_cons_zero,List.set_cons_succ]
    refine onH (i:=21) (v:=?_) (opD (opC (opB opA))) ?h18 hHeld ?r18
    case h18=>(intro w hSw;(try dsimp only at hSw);go_simp) <;> with_reducible rfl
    try simp only [Act.put,List.setIfInBounds_toArray,List.set_cons_zero,List.set_cons_succ]
    try simp only [Act.put,List.setIfInBounds_toArray,List.set_cons_zero,List.set_cons_succ]
    refine gJ (i:=19) (opD (opB (opB (opB opA)))) (fun K hK=>?_)
    go_simp
    (go_at_call 39;(with_reducible refine (HKD.out _ hD).mono ?_);rintro e7 w7 ⟨A7,c7,rfl,o7,b5⟩;have O7:=Hd o7.ints;clear o7;replace hD:=aB hD b5;clear b5)
    first|refine hK.out _ _ ?_ (fun hHeld=>?_)|(go_wp2_with fail;refine hK.out _ _ ?_ (fun hHeld=>?_))
    ·(try dsimp only)
     first|exact HKEEP.out _ hD
    clear hK K
    try simp only [Act.put,List.setIfInBounds_toArray,List.set_cons_zero,List.set_cons_succ]
    try simp only [Act.put,List.setIfInBounds_toArray,List.set_cons_zero,List.set_cons_succ]
    refine gJ (i:=22) (opD (opC (opB (opB opA)))) (fun K hK=>?_)
    go_simp
    (go_at_call 38;(with_reducible refine (HPL.out _ hD A7 c7 O7.out).mono ?_);rintro _ w8 ⟨rfl,b5⟩;replace hD:=aB hD b5;clear b5)
    first|refine hK.out _ _ ?_ (fun hHeld=>?_)|(go_wp2_with fail;refine hK.out _ _ ?_ (fun hHeld=>?_))
    ·(try dsimp only)
     first|exact HKEEP.out _ hD
    clear hK K
    try simp only [Act.put,List.setIfInBounds_toArray,List.set_cons_zero,List.set_cons_succ]
    refine onH (i:=23) (v:=?_) (opD (opC (opB (opB (opB opA))))) ?h19 hHeld ?r19
    case h19=>(intro w hSw;(try dsimp only at hSw);go_simp) <;> with_reducible rfl
    try simp only [Act.put,List.setIfInBounds_toArray,List.set_cons_zero,List.set_cons_succ]
    refine onH (i:=24) (v:=?_) (opD (opC (opC opA))) ?h20 hHeld ?r20
    case h20=>(intro w hSw;(try dsimp only at hSw);go_simp) <;> with_reducible rfl
    try simp only [Act.put,List.setIfInBounds_toArray,List.set_cons_zero,List.set_cons_succ]
    refine bO (i:=25) (opD (opC (opC (opB opA)))) hHeld ?_
    try simp only [Act.put,List.setIfInBounds_toArray,List.set_cons_zero,List.set_cons_succ]
    refine bO (i:=26) (opD (opC (opC (opB (opB opA))))) hHeld ?_
    try simp only [Act.put,List.setIfInBounds_toArray,List.set_cons_zero,List.set_cons_succ]
    refine bO (i:=27) (opD (opC (opC (opB (opB (opB opA)))))) hHeld ?_
    try simp only [Act.put,List.setIfInBounds_toArray,List.set_cons_zero,List.set_cons_succ]
    refine bO (i:=28) (opD (opC (opC (opC opA)))) hHeld ?_
    try simp only [Act.put,List.setIfInBounds_toArray,List.set_cons_zero,List.set_cons_succ]
    refine bO (i:=29) (opD (opC (opC (opC (opB opA))))) hHeld ?_
    try simp only [Act.put,List.setIfInBounds_toArray,List.set_cons_zero,List.set_cons_succ]
    refine bO (i:=30) (opD (opC (opC (opC (opB (opB opA)))))) hHeld ?_
    try simp only [Act.put,List.setIfInBounds_toArray,List.set_cons_zero,List.set_cons_succ]
    refine bO (i:=31) (opD (opC (opC (opC (opB (opB (opB opA))))))) hHeld ?_
    try simp only [Act.put,List.setIfInBounds_toArray,List.set_cons_zero,List.set_cons_succ]
    refine bO (i:=32) (opD (opD opA)) hHeld ?_
    try simp only [Act.put,List.setIfInBounds_toArray,List.set_cons_zero,List.set_cons_succ]
    refine onH (i:=33) (v:=?_) (opD (opD (opB opA))) ?h21 hHeld ?r21
    case h21=>(intro w hSw;(try dsimp only at hSw);go_simp) <;> with_reducible rfl
    try simp only [Act.put,List.setIfInBounds_toArray,List.set_cons_zero,List.set_cons_succ]
    refine onH (i:=34) (v:=?_) (opD (opD (opB (opB opA)))) ?h22 hHeld ?r22
    case h22=>(intro w hSw;(try dsimp only at hSw);go_simp) <;> with_reducible rfl
    try simp only [Act.put,List.setIfInBounds_toArray,List.set_cons_zero,List.set_cons_succ]
    try simp only [Act.put,List.setIfInBounds_toArray,List.set_cons_zero,List.set_cons_succ]
    refine wpAnyH_done (by kernel_rfl) ?_ _
    have HD:=Hd (aB HB0.out hD)
    clear hD x0 x1 x2 x3 lx y0 y1 y2 y3 y4 y5 y6 y7 ly HKEEP
    go_wp2_with fail
    go_ret
    exact ⟨aP HR.out,HD.out⟩
  ·have HSC:=Hd hsc
   have HR:Hid (¬jg d x):=fun h=>HSC.out h.conns
   clear hsc
   go_enter Tryz.func8,Tryz.ntmps8
   go_upto_region 1 with fail
   generalize (w.alloc (.cells #[.int .i64 d.W,.int .i64 d.H,.int .i64 d.T,.int .i64 d.R] 36)).alloc (.cells #[.int .i64 x.net.inputs,.slice SA sn sc,.slice LA ln lc,.slice OA on oc,.slice BA bn bc,.slice CA cn cc,.slice PA pn pc,.slice RA rn rc] 46)=W9 at *
   have x0:=aA (k:=0) HXB.out rfl
   have x1:=aA (k:=1) HXB.out rfl
   have x2:=aA (k:=2) HXB.out rfl
   have x3:=aA (k:=3) HXB.out rfl
   have lx:=aC HXB.out
   have y0:=aA (k:=0) HYB.out rfl
   have y1:=aA (k:=1) HYB.out rfl
   have y2:=aA (k:=2) HYB.out rfl
   have y3:=aA (k:=3) HYB.out rfl
   have y4:=aA (k:=4) HYB.out rfl
   have y5:=aA (k:=5) HYB.out rfl
   have y6:=aA (k:=6) HYB.out rfl
   have y7:=aA (k:=7) HYB.out rfl
   have ly:=aC HYB.out
   have HKEEP:Hid (∀w',Below W9.heap.size W9 w'→(w'.cell? ⟨w.heap.size,0,none⟩=some (.int .i64 d.W)/\w'.cell? ⟨w.heap.size,1,none⟩=some (.int .i64 d.H)/\w'.cell? ⟨w.heap.size,2,none⟩=some (.int .i64 d.T)/\w'.cell? ⟨w.heap.size,3,none⟩=some (.int .i64 d.R)/\w'.cell? ⟨w.heap.size+1,0,none⟩=some (.int .i64 x.net.inputs)/\w'.cell? ⟨w.heap.size+1,1,none⟩=some (.slice SA sn sc)/\w'.cell? ⟨w.heap.size+1,2,none⟩=some (.slice LA ln lc)/\w'.cell? ⟨w.heap.size+1,3,none⟩=some (.slice OA on oc)/\w'.cell? ⟨w.heap.size+1,4,none⟩=some (.slice BA bn bc)/\w'.cell? ⟨w.heap.size+1,5,none⟩=some (.slice CA cn cc)/\w'.cell? ⟨w.heap.size+1,6,none⟩=some (.slice PA pn pc)/\w'.cell? ⟨w.heap.size+1,7,none⟩=some (.slice RA rn rc))):=fun v hv=>⟨(hv.cell (p:=⟨w.heap.size,0,none⟩) lx).trans x0,(hv.cell (p:=⟨w.heap.size,1,none⟩) lx).trans x1,(hv.cell (p:=⟨w.heap.size,2,none⟩) lx).trans x2,(hv.cell (p:=⟨w.heap.size,3,none⟩) lx).trans x3,(hv.cell (p:=⟨w.heap.size+1,0,none⟩) ly).trans y0,(hv.cell (p:=⟨w.heap.size+1,1,none⟩) ly).trans y1,(hv.cell (p:=⟨w.heap.size+1,2,none⟩) ly).trans y2,(hv.cell (p:=⟨w.heap.size+1,3,none⟩) ly).trans y3,(hv.cell (p:=⟨w.heap.size+1,4,none⟩) ly).trans y4,(hv.cell (p:=⟨w.heap.size+1,5,none⟩) ly).trans y5,(hv.cell (p:=⟨w.heap.size+1,6,none⟩) ly).trans y6,(hv.cell (p:=⟨w.heap.size+1,7,none⟩) ly).trans y7⟩
   have hD:=(Below.refl W9.heap.size W9).drew
   have HPK:=Hd (fun (v:World) (hv:Below W9.heap.size W9 v)=>(by have h:=jO x.net SA LA OA sn sc ln lc on oc x.blocks BA bn bc v (HN.out.below (aB HB0.out hv)) (HB.out.below (aB HB0.out hv)) HBB.out;rwa [aa HPF.out] at h:Calls Tryz.prog 35 #[iD x.net SA LA OA sn sc ln lc on oc,.slice BA bn bc] v fun e w'=>e = .returned (.bool true)/\Below v.heap.size v w'))
   have HCN:=Hd (fun (v:World) (hv:Below W9.heap.size W9 v)=>kE x.net SA LA OA sn sc ln lc on oc x.blocks BA bn bc v (HN.out.below (aB HB0.out hv)) (HB.out.below (aB HB0.out hv)) HPF.out)
   have HSM:=Hd (fun (v:World) (hv:Below W9.heap.size W9 v) (A:Option Addr) (n c:Nat) (h:RdC v v.heap.size (bD (df x.net x.blocks)) (.slice A n c))=>(by have h:=jV x.conns (df x.net x.blocks) CA A cn cc n c v (HC.out.below (aB HB0.out hv)) h hcn HBC.out;rwa [bF HSC.out] at h:Calls Tryz.prog 36 #[.slice CA cn cc,.slice A n c] v fun e w'=>e = .returned (.bool false)/\Below v.heap.size v w'))
   refine wp_region_held_drew (S:=(fun w'=>w'.cell? ⟨w.heap.size,0,none⟩=some (.int .i64 d.W)/\w'.cell? ⟨w.heap.size,1,none⟩=some (.int .i64 d.H)/\w'.cell? ⟨w.heap.size,2,none⟩=some (.int .i64 d.T)/\w'.cell? ⟨w.heap.size,3,none⟩=some (.int .i64 d.R)/\w'.cell? ⟨w.heap.size+1,0,none⟩=some (.int .i64 x.net.inputs)/\w'.cell? ⟨w.heap.size+1,1,none⟩=some (.slice SA sn sc)/\w'.cell? ⟨w.heap.size+1,2,none⟩=some (.slice LA ln lc)/\w'.cell? ⟨w.heap.size+1,3,none⟩=some (.slice OA on oc)/\w'.cell? ⟨w.heap.size+1,4,none⟩=some (.slice BA bn bc)/\w'.cell? ⟨w.heap.size+1,5,none⟩=some (.slice CA cn cc)/\w'.cell? ⟨w.heap.size+1,6,none⟩=some (.slice PA pn pc)/\w'.cell? ⟨w.heap.size+1,7,none⟩=some (.slice RA rn rc))) (by kernel_rfl) ?_ (fun hHeld=>?_)
   ·(try dsimp only)
    first|exact HKEEP.out _ hD
   refine onH (i:=0) (v:=?_) opA ?h23 hHeld ?r23
   case h23=>(intro w hSw;(try dsimp only at hSw);go_simp) <;> with_reducible rfl
   try simp only [Act.put,List.setIfInBounds_toArray,List.set_cons_zero,List.set_cons_succ]
   refine onH (i:=1) (v:=?_) (opB opA) ?h24 hHeld ?r24
   case h24=>(intro w hSw;(try dsimp only at hSw);go_simp) <;> with_reducible rfl
   try simp only [Act.put,List.setIfInBounds_toArray,List.set_cons_zero,List.set_cons_succ]
   refine onH (i:=2) (v:=?_) (opB (opB opA)) ?h25 hHeld ?r25
   case h25=>(intro w hSw;(try dsimp only at hSw);go_simp) <;> with_reducible rfl
   try simp only [Act.put,List.setIfInBounds_toArray,List.set_cons_zero,List.set_cons_succ]
   refine onH (i:=3) (v:=?_) (opB (opB (opB opA))) ?h26 hHeld ?r26
   case h26=>(intro w hSw;(try dsimp only at hSw);go_simp) <;> with_reducible rfl
   try simp only [Act.put,List.setIfInBounds_toArray,List.set_cons_zero,List.set_cons_succ]
   try simp only [Act.put,List.setIfInBounds_toArray,List.set_cons_zero,List.set_cons_succ]
   refine gJ (i:=4) (opC opA) (fun K hK=>?_)
   go_simp
   (go_at_call 35;(with_reducible refine (HPK.out _ hD).mono ?_);rintro _ w5 ⟨rfl,b5⟩;replace hD:=aB hD b5;clear b5)
   first|refine hK.out _ _ ?_ (fun hHeld=>?_)|(go_wp2_with fail;refine hK.out _ _ ?_ (fun hHeld=>?_))
   ·(try dsimp only)
    first|exact HKEEP.out _ hD
   clear hK K
   try simp only [Act.put,List.setIfInBounds_toArray,List.set_cons_zero,List.set_cons_succ]
   refine onH (i:=5) (v:=?_) (opC (opB opA)) ?h27 hHeld ?r27
   case h27=>(intro w hSw;(try dsimp only at hSw);go_simp) <;> with_reducible rfl
   try simp only [Act.put,List.setIfInBounds_toArray,List.set_cons_zero,List.set_cons_succ]
   refine onH (i:=6) (v:=?_) (opC (opB (opB opA))) ?h28 hHeld ?r28
   case h28=>(intro w hSw;(try dsimp only at hSw);go_simp) <;> with_reducible rfl
   try simp only [Act.put,List.setIfInBounds_toArray,List.set_cons_zero,List.set_cons_succ]
   refine onH (i:=7) (v:=?_) (opC (opB (opB (opB opA)))) ?h29 hHeld ?r29
   case h29=>(intro w hSw;(try dsimp only at hSw);go_simp) <;> with_reducible rfl
   try simp only [Act.put,List.setIfInBounds_toArray,List.set_cons_zero,List.set_cons_succ]
   refine onH (i:=8) (v:=?_) (opC (opC opA)) ?h30 hHeld ?r30
   case h30=>(intro w hSw;(try dsimp only at hSw);go_simp) <;> with_reducible rfl
   try simp only [Act.put,List.setIfInBounds_toArray,List.set_cons_zero,List.set_cons_succ]
   refine onH (i:=9) (v:=?_) (opC (opC (opB opA))) ?h31 hHeld ?r31
   case h31=>(intro w hSw;(try dsimp only at hSw);go_simp) <;> with_reducible rfl
   try simp only [Act.put,List.setIfInBounds_toArray,List.set_cons_zero,List.set_cons_succ]
   refine onH (i:=10) (v:=?_) (opC (opC (opB (opB opA)))) ?h32 hHeld ?r32
   case h32=>(intro w hSw;(try dsimp only at hSw);go_simp) <;> with_reducible rfl
   try simp only [Act.put,List.setIfInBounds_toArray,List.set_cons_zero,List.set_cons_succ]
   refine onH (i:=11) (v:=?_) (opC (opC (opB (opB (opB opA))))) ?h33 hHeld ?r33
   case h33=>(intro w hSw;(try dsimp only at hSw);go_simp) <;> with_reducible rfl
   try simp only [Act.put,List.setIfInBounds_toArray,List.set_cons_zero,List.set_cons_succ]
   try simp only [Act.put,List.setIfInBounds_toArray,List.set_cons_zero,List.set_cons_succ]
   refine gJ (i:=12) (opC (opC (opC opA))) (fun K hK=>?_)
   go_simp
   (go_at_call 37;(with_reducible refine (HCN.out _ hD).mono ?_);rintro e5 w5 ⟨A5,n5,c5,rfl,o5,b5⟩;have O5:=Hd o5.rd;clear o5;replace hD:=aB hD b5;clear b5)
   first|refine hK.out _ _ ?_ (fun hHeld=>?_)|(go_wp2_with fail;refine hK.out _ _ ?_ (fun hHeld=>?_))
   ·(try dsimp only)
    first|exact HKEEP.out _ hD
   clear hK K
   try simp only [Act.put,List.setIfInBounds_toArray,List.set_cons_zero,List.set_cons_succ]
   try simp only [Act.put,List.setIfInBounds_toArray,List.set_cons_zero,List.set_cons_succ]
   refine gJ (i:=13) (opC (opC (opC (opB opA)))) (fun K hK=>?_)
   go_simp
   (go_at_call 36;(with_reducible refine (HSM.out _ hD A5 n5 c5 O5.out).mono ?_);rintro _ w6 ⟨rfl,b5⟩;replace hD:=aB hD b5;clear b5)
   first|refine hK.out _ _ ?_ (fun hHeld=>?_)|(go_wp2_with fail;refine hK.out _ _ ?_ (fun hHeld=>?_))
   ·(try dsimp only)
    first|exact HKEEP.out _ hD
   clear hK K
   try simp only [Act.put,List.setIfInBounds_toArray,List.set_cons_zero,List.set_cons_succ]
   refine onH (i:=14) (v:=?_) (opC (opC (opC (opB (opB opA))))) ?h34 hHeld ?r34
   case h34=>(intro w hSw;(try dsimp only at hSw);go_simp) <;> with_reducible rfl
   try simp only [Act.put,List.setIfInBounds_toArray,List.set_cons_zero,List.set_cons_succ]
   refine onH (i:=15) (v:=?_) (opC (opC (opC (opB (opB (opB opA)))))) ?h35 hHeld ?r35
   case h35=>(intro w hSw;(try dsimp only at hSw);go_simp) <;> with_reducible rfl
   try simp only [Act.put,List.setIfInBounds_toArray,List.set_cons_zero,List.set_cons_succ]
   refine bO (i:=16) (opD opA) hHeld ?_
   try simp only [Act.put,List.setIfInBounds_toArray,List.set_cons_zero,List.set_cons_succ]
   refine bO (i:=17) (opD (opB opA)) hHeld ?_
   try simp only [Act.put,List.setIfInBounds_toArray,List.set_cons_zero,List.set_cons_succ]
   refine bO (i:=18) (opD (opB (opB opA))) hHeld ?_
   try simp only [Act.put,List.setIfInBounds_toArray,List.set_cons_zero,List.set_cons_succ]
   refine bO (i:=19) (opD (opB (opB (opB opA)))) hHeld ?_
   try simp only [Act.put,List.setIfInBounds_toArray,List.set_cons_zero,List.set_cons_succ]
   refine bO (i:=20) (opD (opC opA)) hHeld ?_
   try simp only [Act.put,List.setIfInBounds_toArray,List.set_cons_zero,List.set_cons_succ]
   refine bO (i:=21) (opD (opC (opB opA))) hHeld ?_
   try simp only [Act.put,List.setIfInBounds_toArray,List.set_cons_zero,List.set_cons_succ]
   refine bO (i:=22) (opD (opC (opB (opB opA)))) hHeld ?_
   try simp only [Act.put,List.setIfInBounds_toArray,List.set_cons_zero,List.set_cons_succ]
   refine onH (i:=23) (v:=?_) (opD (opC (opB (opB (opB opA))))) ?h36 hHeld ?r36
   case h36=>(intro w hSw;(try dsimp only at hSw);go_simp) <;> with_reducible rfl
   try simp only [Act.put,List.setIfInBounds_toArray,List.set_cons_zero,List.set_cons_succ]
   refine onH (i:=24) (v:=?_) (opD (opC (opC opA))) ?h37 hHeld ?r37
   case h37=>(intro w hSw;(try dsimp only at hSw);go_simp) <;> with_reducible rfl
   try simp only [Act.put,List.setIfInBounds_toArray,List.set_cons_zero,List.set_cons_succ]
   refine bO (i:=25) (opD (opC (opC (opB opA)))) hHeld ?_
   try simp only [Act.put,List.setIfInBounds_toArray,List.set_cons_zero,List.set_cons_succ]
   refine bO (i:=26) (opD (opC (opC (opB (opB opA))))) hHeld ?_
   try simp only [Act.put,List.setIfInBounds_toArray,List.set_cons_zero,List.set_cons_succ]
   refine bO (i:=27) (opD (opC (opC (opB (opB (opB opA)))))) hHeld ?_
   try simp only [Act.put,List.setIfInBounds_toArray,List.set_cons_zero,List.set_cons_succ]
   refine bO (i:=28) (opD (opC (opC (opC opA)))) hHeld ?_
   try simp only [Act.put,List.setIfInBounds_toArray,List.set_cons_zero,List.set_cons_succ]
   refine bO (i:=29) (opD (opC (opC (opC (opB opA))))) hHeld ?_
   try simp only [Act.put,List.setIfInBounds_toArray,List.set_cons_zero,List.set_cons_succ]
   refine bO (i:=30) (opD (opC (opC (opC (opB (opB opA)))))) hHeld ?_
   try simp only [Act.put,List.setIfInBounds_toArray,List.set_cons_zero,List.set_cons_succ]
   refine bO (i:=31) (opD (opC (opC (opC (opB (opB (opB opA))))))) hHeld ?_
   try simp only [Act.put,List.setIfInBounds_toArray,List.set_cons_zero,List.set_cons_succ]
   refine bO (i:=32) (opD (opD opA)) hHeld ?_
   try simp only [Act.put,List.setIfInBounds_toArray,List.set_cons_zero,List.set_cons_succ]
   refine onH (i:=33) (v:=?_) (opD (opD (opB opA))) ?h38 hHeld ?r38
   case h38=>(intro w hSw;(try dsimp only at hSw);go_simp) <;> with_reducible rfl
   try simp only [Act.put,List.setIfInBounds_toArray,List.set_cons_zero,List.set_cons_succ]
   refine onH (i:=34) (v:=?_) (opD (opD (opB (opB opA)))) ?h39 hHeld ?r39
   case h39=>(intro w hSw;(try dsimp only at hSw);go_simp) <;> with_reducible rfl
   try simp only [Act.put,List.setIfInBounds_toArray,List.set_cons_zero,List.set_cons_succ]
   try simp only [Act.put,List.setIfInBounds_toArray,List.set_cons_zero,List.set_cons_succ]
   refine wpAnyH_done (by kernel_rfl) ?_ _
   have HD:=Hd (aB HB0.out hD)
   clear hD x0 x1 x2 x3 lx y0 y1 y2 y3 y4 y5 y6 y7 ly HKEEP
   go_wp2_with fail
   go_ret
   exact ⟨aP HR.out,HD.out⟩
 ·have HPF:=Hd hpf
  have HR:Hid (¬jg d x):=fun h=>HPF.out h.pack
  clear hpf
  go_enter Tryz.func8,Tryz.ntmps8
  go_upto_region 1 with fail
  generalize (w.alloc (.cells #[.int .i64 d.W,.int .i64 d.H,.int .i64 d.T,.int .i64 d.R] 36)).alloc (.cells #[.int .i64 x.net.inputs,.slice SA sn sc,.slice LA ln lc,.slice OA on oc,.slice BA bn bc,.slice CA cn cc,.slice PA pn pc,.slice RA rn rc] 46)=W9 at *
  have x0:=aA (k:=0) HXB.out rfl
  have x1:=aA (k:=1) HXB.out rfl
  have x2:=aA (k:=2) HXB.out rfl
  have x3:=aA (k:=3) HXB.out rfl
  have lx:=aC HXB.out
  have y0:=aA (k:=0) HYB.out rfl
  have y1:=aA (k:=1) HYB.out rfl
  have y2:=aA (k:=2) HYB.out rfl
  have y3:=aA (k:=3) HYB.out rfl
  have y4:=aA (k:=4) HYB.out rfl
  have y5:=aA (k:=5) HYB.out rfl
  have y6:=aA (k:=6) HYB.out rfl
  have y7:=aA (k:=7) HYB.out rfl
  have ly:=aC HYB.out
  have HKEEP:Hid (∀w',Below W9.heap.size W9 w'→(w'.cell? ⟨w.heap.size,0,none⟩=some (.int .i64 d.W)/\w'.cell? ⟨w.heap.size,1,none⟩=some (.int .i64 d.H)/\w'.cell? ⟨w.heap.size,2,none⟩=some (.int .i64 d.T)/\w'.cell? ⟨w.heap.size,3,none⟩=some (.int .i64 d.R)/\w'.cell? ⟨w.heap.size+1,0,none⟩=some (.int .i64 x.net.inputs)/\w'.cell? ⟨w.heap.size+1,1,none⟩=some (.slice SA sn sc)/\w'.cell? ⟨w.heap.size+1,2,none⟩=some (.slice LA ln lc)/\w'.cell? ⟨w.heap.size+1,3,none⟩=some (.slice OA on oc)/\w'.cell? ⟨w.heap.size+1,4,none⟩=some (.slice BA bn bc)/\w'.cell? ⟨w.heap.size+1,5,none⟩=some (.slice CA cn cc)/\w'.cell? ⟨w.heap.size+1,6,none⟩=some (.slice PA pn pc)/\w'.cell? ⟨w.heap.size+1,7,none⟩=some (.slice RA rn rc))):=fun v hv=>⟨(hv.cell (p:=⟨w.heap.size,0,none⟩) lx).trans x0,(hv.cell (p:=⟨w.heap.size,1,none⟩) lx).trans x1,(hv.cell (p:=⟨w.heap.size,2,none⟩) lx).trans x2,(hv.cell (p:=⟨w.heap.size,3,none⟩) lx).trans x3,(hv.cell (p:=⟨w.heap.size+1,0,none⟩) ly).trans y0,(hv.cell (p:=⟨w.heap.size+1,1,none⟩) ly).trans y1,(hv.cell (p:=⟨w.heap.size+1,2,none⟩) ly).trans y2,(hv.cell (p:=⟨w.heap.size+1,3,none⟩) ly).trans y3,(hv.cell (p:=⟨w.heap.size+1,4,none⟩) ly).trans y4,(hv.cell (p:=⟨w.heap.size+1,5,none⟩) ly).trans y5,(hv.cell (p:=⟨w.heap.size+1,6,none⟩) ly).trans y6,(hv.cell (p:=⟨w.heap.size+1,7,none⟩) ly).trans y7⟩
  have hD:=(Below.refl W9.heap.size W9).drew
  have HPK:=Hd (fun (v:World) (hv:Below W9.heap.size W9 v)=>(by have h:=jO x.net SA LA OA sn sc ln lc on oc x.blocks BA bn bc v (HN.out.below (aB HB0.out hv)) (HB.out.below (aB HB0.out hv)) HBB.out;rwa [bF HPF.out] at h:Calls Tryz.prog 35 #[iD x.net SA LA OA sn sc ln lc on oc,.slice BA bn bc] v fun e w'=>e = .returned (.bool false)/\Below v.heap.size v w'))
  refine wp_region_held_drew (S:=(fun w'=>w'.cell? ⟨w.heap.size,0,none⟩=some (.int .i64 d.W)/\w'.cell? ⟨w.heap.size,1,none⟩=some (.int .i64 d.H)/\w'.cell? ⟨w.heap.size,2,none⟩=some (.int .i64 d.T)/\w'.cell? ⟨w.heap.size,3,none⟩=some (.int .i64 d.R)/\w'.cell? ⟨w.heap.size+1,0,none⟩=some (.int .i64 x.net.inputs)/\w'.cell? ⟨w.heap.size+1,1,none⟩=some (.slice SA sn sc)/\w'.cell? ⟨w.heap.size+1,2,none⟩=some (.slice LA ln lc)/\w'.cell? ⟨w.heap.size+1,3,none⟩=some (.slice OA on oc)/\w'.cell? ⟨w.heap.size+1,4,none⟩=some (.slice BA bn bc)/\w'.cell? ⟨w.heap.size+1,5,none⟩=some (.slice CA cn cc)/\w'.cell? ⟨w.heap.size+1,6,none⟩=some (.slice PA pn pc)/\w'.cell? ⟨w.heap.size+1,7,none⟩=some (.slice RA rn rc))) (by kernel_rfl) ?_ (fun hHeld=>?_)
  ·(try dsimp only)
   first|exact HKEEP.out _ hD
  refine onH (i:=0) (v:=?_) opA ?h40 hHeld ?r40
  case h40=>(intro w hSw;(try dsimp only at hSw);go_simp) <;> with_reducible rfl
  try simp only [Act.put,List.setIfInBounds_toArray,List.set_cons_zero,List.set_cons_succ]
  refine onH (i:=1) (v:=?_) (opB opA) ?h41 hHeld ?r41
  case h41=>(intro w hSw;(try dsimp only at hSw);go_simp) <;> with_reducible rfl
  try simp only [Act.put,List.setIfInBounds_toArray,List.set_cons_zero,List.set_cons_succ]
  refine onH (i:=2) (v:=?_) (opB (opB opA)) ?h42 hHeld ?r42
  case h42=>(intro w hSw;(try dsimp only at hSw);go_simp) <;> with_reducible rfl
  try simp only [Act.put,List.setIfInBounds_toArray,List.set_cons_zero,List.set_cons_succ]
  refine onH (i:=3) (v:=?_) (opB (opB (opB opA))) ?h43 hHeld ?r43
  case h43=>(intro w hSw;(try dsimp only at hSw);go_simp) <;> with_reducible rfl
  try simp only [Act.put,List.setIfInBounds_toArray,List.set_cons_zero,List.set_cons_succ]
  try simp only [Act.put,List.setIfInBounds_toArray,List.set_cons_zero,List.set_cons_succ]
  refine gJ (i:=4) (opC opA) (fun K hK=>?_)
  go_simp
  (go_at_call 35;(with_reducible refine (HPK.out _ hD).mono ?_);rintro _ w5 ⟨rfl,b5⟩;replace hD:=aB hD b5;clear b5)
  first|refine hK.out _ _ ?_ (fun hHeld=>?_)|(go_wp2_with fail;refine hK.out _ _ ?_ (fun hHeld=>?_))
  ·(try dsimp only)
   first|exact HKEEP.out _ hD
  clear hK K
  try simp only [Act.put,List.setIfInBounds_toArray,List.set_cons_zero,List.set_cons_succ]
  refine onH (i:=5) (v:=?_) (opC (opB opA)) ?h44 hHeld ?r44
  case h44=>(intro w hSw;(try dsimp only at hSw);go_simp) <;> with_reducible rfl
  try simp only [Act.put,List.setIfInBounds_toArray,List.set_cons_zero,List.set_cons_succ]
  refine bO (i:=6) (opC (opB (opB opA))) hHeld ?_
  try simp only [Act.put,List.setIfInBounds_toArray,List.set_cons_zero,List.set_cons_succ]
  refine bO (i:=7) (opC (opB (opB (opB opA)))) hHeld ?_
  try simp only [Act.put,List.setIfInBounds_toArray,List.set_cons_zero,List.set_cons_succ]
  refine bO (i:=8) (opC (opC opA)) hHeld ?_
  try simp only [Act.put,List.setIfInBounds_toArray,List.set_cons_zero,List.set_cons_succ]
  refine bO (i:=9) (opC (opC (opB opA))) hHeld ?_
  try simp only [Act.put,List.setIfInBounds_toArray,List.set_cons_zero,List.set_cons_succ]
  refine bO (i:=10) (opC (opC (opB (opB opA)))) hHeld ?_
  try simp only [Act.put,List.setIfInBounds_toArray,List.set_cons_zero,List.set_cons_succ]
  refine bO (i:=11) (opC (opC (opB (opB (opB opA))))) hHeld ?_
  try simp only [Act.put,List.setIfInBounds_toArray,List.set_cons_zero,List.set_cons_succ]
  refine bO (i:=12) (opC (opC (opC opA))) hHeld ?_
  try simp only [Act.put,List.setIfInBounds_toArray,List.set_cons_zero,List.set_cons_succ]
  refine bO (i:=13) (opC (opC (opC (opB opA)))) hHeld ?_
  try simp only [Act.put,List.setIfInBounds_toArray,List.set_cons_zero,List.set_cons_succ]
  refine onH (i:=14) (v:=?_) (opC (opC (opC (opB (opB opA))))) ?h45 hHeld ?r45
  case h45=>(intro w hSw;(try dsimp only at hSw);go_simp) <;> with_reducible rfl
  try simp only [Act.put,List.setIfInBounds_toArray,List.set_cons_zero,List.set_cons_succ]
  refine onH (i:=15) (v:=?_) (opC (opC (opC (opB (opB (opB opA)))))) ?h46 hHeld ?r46
  case h46=>(intro w hSw;(try dsimp only at hSw);go_simp) <;> with_reducible rfl
  try simp only [Act.put,List.setIfInBounds_toArray,List.set_cons_zero,List.set_cons_succ]
  refine bO (i:=16) (opD opA) hHeld ?_
  try simp only [Act.put,List.setIfInBounds_toArray,List.set_cons_zero,List.set_cons_succ]
  refine bO (i:=17) (opD (opB opA)) hHeld ?_
  try simp only [Act.put,List.setIfInBounds_toArray,List.set_cons_zero,List.set_cons_succ]
  refine bO (i:=18) (opD (opB (opB opA))) hHeld ?_
  try simp only [Act.put,List.setIfInBounds_toArray,List.set_cons_zero,List.set_cons_succ]
  refine bO (i:=19) (opD (opB (opB (opB opA)))) hHeld ?_
  try simp only [Act.put,List.setIfInBounds_toArray,List.set_cons_zero,List.set_cons_succ]
  refine bO (i:=20) (opD (opC opA)) hHeld ?_
  try simp only [Act.put,List.setIfInBounds_toArray,List.set_cons_zero,List.set_cons_succ]
  refine bO (i:=21) (opD (opC (opB opA))) hHeld ?_
  try simp only [Act.put,List.setIfInBounds_toArray,List.set_cons_zero,List.set_cons_succ]
  refine bO (i:=22) (opD (opC (opB (opB opA)))) hHeld ?_
  try simp only [Act.put,List.setIfInBounds_toArray,List.set_cons_zero,List.set_cons_succ]
  refine onH (i:=23) (v:=?_) (opD (opC (opB (opB (opB opA))))) ?h47 hHeld ?r47
  case h47=>(intro w hSw;(try dsimp only at hSw);go_simp) <;> with_reducible rfl
  try simp only [Act.put,List.setIfInBounds_toArray,List.set_cons_zero,List.set_cons_succ]
  refine onH (i:=24) (v:=?_) (opD (opC (opC opA))) ?h48 hHeld ?r48
  case h48=>(intro w hSw;(try dsimp only at hSw);go_simp) <;> with_reducible rfl
  try simp only [Act.put,List.setIfInBounds_toArray,List.set_cons_zero,List.set_cons_succ]
  refine bO (i:=25) (opD (opC (opC (opB opA)))) hHeld ?_
  try simp only [Act.put,List.setIfInBounds_toArray,List.set_cons_zero,List.set_cons_succ]
  refine bO (i:=26) (opD (opC (opC (opB (opB opA))))) hHeld ?_
  try simp only [Act.put,List.setIfInBounds_toArray,List.set_cons_zero,List.set_cons_succ]
  refine bO (i:=27) (opD (opC (opC (opB (opB (opB opA)))))) hHeld ?_
  try simp only [Act.put,List.setIfInBounds_toArray,List.set_cons_zero,List.set_cons_succ]
  refine bO (i:=28) (opD (opC (opC (opC opA)))) hHeld ?_
  try simp only [Act.put,List.setIfInBounds_toArray,List.set_cons_zero,List.set_cons_succ]
  refine bO (i:=29) (opD (opC (opC (opC (opB opA))))) hHeld ?_
  try simp only [Act.put,List.setIfInBounds_toArray,List.set_cons_zero,List.set_cons_succ]
  refine bO (i:=30) (opD (opC (opC (opC (opB (opB opA)))))) hHeld ?_
  try simp only [Act.put,List.setIfInBounds_toArray,List.set_cons_zero,List.set_cons_succ]
  refine bO (i:=31) (opD (opC (opC (opC (opB (opB (opB opA))))))) hHeld ?_
  try simp only [Act.put,List.setIfInBounds_toArray,List.set_cons_zero,List.set_cons_succ]
  refine bO (i:=32) (opD (opD opA)) hHeld ?_
  try simp only [Act.put,List.setIfInBounds_toArray,List.set_cons_zero,List.set_cons_succ]
  refine onH (i:=33) (v:=?_) (opD (opD (opB opA))) ?h49 hHeld ?r49
  case h49=>(intro w hSw;(try dsimp only at hSw);go_simp) <;> with_reducible rfl
  try simp only [Act.put,List.setIfInBounds_toArray,List.set_cons_zero,List.set_cons_succ]
  refine onH (i:=34) (v:=?_) (opD (opD (opB (opB opA)))) ?h50 hHeld ?r50
  case h50=>(intro w hSw;(try dsimp only at hSw);go_simp) <;> with_reducible rfl
  try simp only [Act.put,List.setIfInBounds_toArray,List.set_cons_zero,List.set_cons_succ]
  try simp only [Act.put,List.setIfInBounds_toArray,List.set_cons_zero,List.set_cons_succ]
  refine wpAnyH_done (by kernel_rfl) ?_ _
  have HD:=Hd (aB HB0.out hD)
  clear hD x0 x1 x2 x3 lx y0 y1 y2 y3 y4 y5 y6 y7 ly HKEEP
  go_wp2_with fail
  go_ret
  exact ⟨aP HR.out,HD.out⟩
end Go.Proofs.YtofihjoanjkdmaaGreat
