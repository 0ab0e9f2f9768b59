/- Routes in the reference: valid ones (printed by mkrous.py). -/
import Derived.Test.YtofihjoanjkdmaaGreatHeldW
import Derived.Test.YtofihjoanjkdmaaGreatLayG5
import Derived.Test.YtofihjoanjkdmaaGreatLayS11
import Derived.Test.YtofihjoanjkdmaaGreatSrs
namespace Go.Proofs.YtofihjoanjkdmaaGreat
set_option maxHeartbeats 8000000
set_option maxRecDepth 100000
open Go.RowKit
theorem tK (d:Dev) (src:Int) (ks:List Int) (r:Rou) (KA NA FA:Option Addr) (kn kc nn nc fn fc:Nat) (w:World) (hk:dA w KA kn ks) (hn:dA w NA nn r.nodes) (hf:dA w FA fn r.from_) (hkn:kn<=1048576) (hnn:nn<=1048576) (hfn:fn<=1048576) (h64:∀s∈ks,j4 s) :
  Calls Tryz.prog 118 #[.agg #[.int .i64 d.W,.int .i64 d.H,.int .i64 d.T,.int .i64 d.R],.int .i64 src,.slice KA kn kc,.agg #[.slice NA nn nc,.slice FA fn fc]] w fun e w'=>e = .returned (.bool (tb (bU d src ks r)))/\Below w.heap.size w w':=by
 have HKS:=Hd hk
 have HN:=Hd hn
 have HFR:=Hd hf
 have H64:=Hd h64
 clear hk hn hf h64
 have HB0:=Hd (aF (aF (Below.refl w.heap.size w) (.cells #[.int .i64 d.W,.int .i64 d.H,.int .i64 d.T,.int .i64 d.R] 36)) (.cells #[.slice NA nn nc,.slice FA fn fc] 114))
 have hx:=bg (.cells #[.slice NA nn nc,.slice FA fn fc] 114) (aK w (.cells #[.int .i64 d.W,.int .i64 d.H,.int .i64 d.T,.int .i64 d.R] 36))
 have hy:=aK (w.alloc (.cells #[.int .i64 d.W,.int .i64 d.H,.int .i64 d.T,.int .i64 d.R] 36)) (.cells #[.slice NA nn nc,.slice FA fn fc] 114)
 simp only [World.size_alloc] at hy
 have HXB:=Hd hx
 have HYB:=Hd hy
 clear hx hy
 cases hiv:inR (nn:Int) 1 (gK d) with
 | false =>
  have HR:Hid (¬bU d src ks r):=fun h=>by
   have h1:=h.len
   rw [HN.out.1] at h1
   rw [aV.2 (by unfold gK;rw [if_pos h.dev];omega)] at hiv
   cases hiv
  have HIV:=Hd hiv
  clear hiv
  go_enter Tryz.func118,Tryz.ntmps118
  go_upto_region 1 with fail
  generalize (w.alloc (.cells #[.int .i64 d.W,.int .i64 d.H,.int .i64 d.T,.int .i64 d.R] 36)).alloc (.cells #[.slice NA nn nc,.slice FA fn fc] 114)=W9 at *
  have hx:=HXB.out
  have hy:=HYB.out
  have x0:=aA (k:=0) hx rfl
  have x1:=aA (k:=1) hx rfl
  have x2:=aA (k:=2) hx rfl
  have x3:=aA (k:=3) hx rfl
  have y0:=aA (k:=0) hy rfl
  have y1:=aA (k:=1) hy rfl
  have lx:=aC hx
  have ly:=aC hy
  clear hx hy
  have HRN:=Hd (fun (x:Sub W9)=>fE d x.v)
  have HIN:=Hd (fun (x:Sub W9)=>(by have h:=af (nn:Int) 1 (gK d) x.v;rwa [HIV.out] at h:Calls Tryz.prog 83 #[.int .i64 (nn:Int),.int .i64 1,.int .i64 (gK d)] x.v fun e w'=>e = .returned (.bool false)/\x.v=w'))
  have hsub:=aZ W9
  have hsc:=aR W9
  refine aI W9 (by kernel_rfl) (by kernel_rfl) (Below.refl _ _) ?_
  repeat (go_big_quiet_step ((first
   | (go_at_call 116;with_reducible exact aO (HRN.out _))
   | (go_at_call 83;with_reducible exact aU (HIN.out _)))))
  refine wpQuiet_nil ?_
  rintro wq ⟨⟨w5,hD⟩,hw⟩
  replace hw:wq=w5:=hw
  subst hw
  clear hsub hsc
  have HDQ:=Hd hD
  have HD:=Hd (aB HB0.out hD)
  clear hD
  clear x0 x1 x2 x3 y0 y1 lx ly
  go_wp2_with fail
  go_ret
  exact ⟨aP HR.out,HD.out⟩
 | true =>
  have HIV:=Hd hiv
  have hi2:=aV.1 hiv
  have hdv:dQ d=true:=by
   cases hd:dQ d with
   | true=>rfl
   | false=>unfold gK at hi2;rw [hd] at hi2;simp at hi2;omega
  have HDV:=Hd hdv
  have hnb:=fT hdv
  have hT:=bC hdv
  have hT0:0<=d.T:=by omega
  have hT1:d.T<=1099511627776:=by omega
  obtain ⟨N,hN⟩:∃N:Nat,gK d=(N:Int):=⟨(gK d).toNat,by unfold gK;rw [if_pos hdv];omega⟩
  have hNb:N<=828:=by have h:=hN;unfold gK at h;rw [if_pos hdv] at h;omega
  have HRNV:=Hd hN
  rw [hN] at hi2
  clear hiv hdv hN hnb hT
  by_cases c3:fn=nn
  ·subst c3
   obtain ⟨nn,rfl⟩:∃x,x=fn:=⟨fn,rfl⟩
   have d3:((nn:Int) != (nn:Int))=false:=by simp
   obtain ⟨bn,obn,rfl,hbn,hcn⟩:=HN.out.2 (by omega)
   obtain ⟨bf,obf,rfl,hbf,hcf⟩:=HFR.out.2 (by omega)
   have HCN:Hid (∀k,k<nn→∀v,Below w.heap.size w v→v.cell? ⟨bn,obn+k,none⟩=some (.int .i64 (r.nodes[k]?.getD 0))):=fun k hk v hv=>(hv.cell (p:=⟨bn,obn+k,none⟩) hbn).trans (hcn k hk)
   have HCF:Hid (∀k,k<nn→∀v,Below w.heap.size w v→v.cell? ⟨bf,obf+k,none⟩=some (.int .i64 (r.from_[k]?.getD 0))):=fun k hk v hv=>(hv.cell (p:=⟨bf,obf+k,none⟩) hbf).trans (hcf k hk)
   clear hcn hcf
   go_enter Tryz.func118,Tryz.ntmps118
   go_upto_region 1 with fail
   generalize (w.alloc (.cells #[.int .i64 d.W,.int .i64 d.H,.int .i64 d.T,.int .i64 d.R] 36)).alloc (.cells #[.slice (some ⟨bn,obn,none⟩) nn nc,.slice (some ⟨bf,obf,none⟩) nn fc] 114)=W9 at *
   have hx:=HXB.out
   have hy:=HYB.out
   have x0:=aA (k:=0) hx rfl
   have x1:=aA (k:=1) hx rfl
   have x2:=aA (k:=2) hx rfl
   have x3:=aA (k:=3) hx rfl
   have y0:=aA (k:=0) hy rfl
   have y1:=aA (k:=1) hy rfl
   have lx:=aC hx
   have ly:=aC hy
   clear hx hy
   have HRN:=Hd (fun (x:Sub W9)=>fE d x.v)
   have HIN:=Hd (fun (x:Sub W9)=>(by have h:=af (nn:Int) 1 (gK d) x.v;rwa [HIV.out] at h:Calls Tryz.prog 83 #[.int .i64 (nn:Int),.int .i64 1,.int .i64 (gK d)] x.v fun e w'=>e = .returned (.bool true)/\x.v=w'))
   have hsub:=aZ W9
   have hsc:=aR W9
   refine aI W9 (by kernel_rfl) (by kernel_rfl) (Below.refl _ _) ?_
   repeat (go_big_quiet_step ((first
    | (go_at_call 116;with_reducible exact aO (HRN.out _))
    | (go_at_call 83;with_reducible exact aU (HIN.out _)))))
   refine wpQuiet_nil ?_
   rintro wq ⟨⟨w5,hD⟩,hw⟩
   replace hw:wq=w5:=hw
   subst hw
   clear hsub hsc
   have HDQ:=Hd hD
   have HD:=Hd (aB HB0.out hD)
   clear hD
   clear x0 x1 x2 x3 y0 y1 lx ly
   have hx:=aD HDQ.out HXB.out
   have hy:=aD HDQ.out HYB.out
   have x0:=aA (k:=0) hx rfl
   have x1:=aA (k:=1) hx rfl
   have x2:=aA (k:=2) hx rfl
   have x3:=aA (k:=3) hx rfl
   have y0:=aA (k:=0) hy rfl
   have y1:=aA (k:=1) hy rfl
   have lx:=aC hx
   have ly:=aC hy
   clear hx hy
   go_wp2_with fail
   refine (fE d _).mono ?_
   rw [HRNV.out]
   rintro _ wz ⟨rfl,bz⟩
   have HDZ:=Hd (aB HDQ.out bz)
   have HD':=Hd (aB HD.out bz)
   clear bz
   clear x0 x1 x2 x3 y0 y1 lx ly
   clear HD
   have HD:=HD'
   have hmk:=lD N (by omega)
   have HS0:=Hd ((aM.refl wz).pushRowB N)
   go_wp2_with fail
   clear hmk
   go_loopw [10] (fun i wr=>∃k:Nat,k<=nn/\i = .int .i64 (k:Int)/\aM wz wr [ni wz.heap.size N (r.nodes.take k)]/\(∀j,j<k→bH d (r.nodes[j]?.getD 0)=true/\(0<j→(0<=r.from_[j]?.getD 0/\r.from_[j]?.getD 0<(j:Int))/\r.nodes[(r.from_[j]?.getD 0).toNat]?.getD 0∈iE d (r.nodes[j]?.getD 0))/\(r.nodes[j]?.getD 0 % aX d<5→r.nodes[j]?.getD 0∈ks))/\(r.nodes.take k).Nodup/\(0<k→(r.nodes[0]?.getD 0=src/\r.from_[0]?.getD 0=0/\(src % aX d=5∨src % aX d=6)))) (fun i _=>nn - (intOf i).toNat)
   case atStart=>exact ⟨0,by omega,rfl,HS0.out,fun j hj=>by omega,by simp,fun h=>by omega⟩
   case round =>
    obtain ⟨k,hk,rfl,hs,hall,hnd,hro⟩:=hrel
    have HS:=Hd hs
    have HALL:=Hd hall
    have HND:=Hd hnd
    have HRO:=Hd hro
    have HBW:=Hd (aB HD.out hs.bel)
    clear hs hall hnd hro
    have hx:=aD (aB HDZ.out HS.out.bel) HXB.out
    have hy:=aD (aB HDZ.out HS.out.bel) HYB.out
    have x0:=aA (k:=0) hx rfl
    have x1:=aA (k:=1) hx rfl
    have x2:=aA (k:=2) hx rfl
    have x3:=aA (k:=3) hx rfl
    have y0:=aA (k:=0) hy rfl
    have y1:=aA (k:=1) hy rfl
    have lx:=aC hx
    have ly:=aC hy
    clear hx hy
    by_cases hlt:k<nn
    ·have hdk:decide ((k:Int)<(nn:Int))=true:=by simp;omega
     have hkl:k<r.nodes.length:=by rw [HN.out.1];exact hlt
     have cn:=HCN.out k hlt _ HBW.out
     have lbn:=aL HBW.out hbn
     have HSN:=Hd (bJ (z:=0) hkl)
     have hno:bU d src ks r→bH d (r.nodes[k]?.getD 0)=true/\r.nodes[k]?.getD 0∉r.nodes.take k/\(0<k→(0<=r.from_[k]?.getD 0/\r.from_[k]?.getD 0<(k:Int))/\r.nodes[(r.from_[k]?.getD 0).toNat]?.getD 0∈iE d (r.nodes[k]?.getD 0))/\(r.nodes[k]?.getD 0 % aX d<5→r.nodes[k]?.getD 0∈ks):=fun h=>by
      refine ⟨?_,?_,fun h0=>h.step k h0 hkl,?_⟩
      ·rw [List.getElem?_eq_getElem hkl];exact h.node _ (List.getElem_mem hkl)
      ·have h1:=h.once
       rw [←List.take_append_drop (k+1) r.nodes,HSN.out] at h1
       exact (dG.1 (List.nodup_append.1 h1).1).2
      ·rw [List.getElem?_eq_getElem hkl];exact h.pins _ (List.getElem_mem hkl)
     have hg:bH d (r.nodes[k]?.getD 0)=true/\(0<k→(0<=r.from_[k]?.getD 0/\r.from_[k]?.getD 0<(k:Int))/\r.nodes[(r.from_[k]?.getD 0).toNat]?.getD 0∈iE d (r.nodes[k]?.getD 0))/\(r.nodes[k]?.getD 0 % aX d<5→r.nodes[k]?.getD 0∈ks)→∀j,j<k+1→bH d (r.nodes[j]?.getD 0)=true/\(0<j→(0<=r.from_[j]?.getD 0/\r.from_[j]?.getD 0<(j:Int))/\r.nodes[(r.from_[j]?.getD 0).toNat]?.getD 0∈iE d (r.nodes[j]?.getD 0))/\(r.nodes[j]?.getD 0 % aX d<5→r.nodes[j]?.getD 0∈ks):=fun h=>bS HALL.out h
     have HNO:=Hd hno
     have HG:=Hd hg
     clear hno hg hkl
     obtain ⟨n,hn⟩:∃n,r.nodes[k]?.getD 0=n:=⟨_,rfl⟩
     rw [hn] at cn HSN HNO HG
     have HNE:=Hd hn
     clear hn
     have i0:(0:Int)<=(k:Int):=by omega
     have i1:(k:Int)<(nn:Int):=by omega
     have hNOK:=fun (x:Sub wr)=>gQ d n x.v
     cases hok:bH d n with
     | false =>
      have HR:Hid (¬bU d src ks r):=fun h=>by have:=(HNO.out h).1;rw [this] at hok;cases hok
      rw [hok] at hNOK
      have HNOK:=Hd hNOK
      clear hNOK hok HG HNO
      go_upto_region 7 with fail
      have hsub:=aZ wr
      have hsc:=aR wr
      refine aI wr (by kernel_rfl) (by kernel_rfl) (Below.refl _ _) ?_
      repeat (go_big_quiet_step ((first
       | (go_at_call 207;with_reducible exact aO (HNOK.out _)))))
      refine wpQuiet_nil ?_
      rintro wq ⟨⟨w5,hD⟩,hw⟩
      replace hw:wq=w5:=hw
      subst hw
      clear hsub hsc
      have HB5:=Hd (aB HBW.out hD)
      clear hD x0 x1 x2 x3 y0 y1 lx ly cn lbn
      go_wp2_with fail
      go_ret
      exact ⟨aP HR.out,HB5.out⟩
     | true =>
      have hX:=kM.1 (show fF d n=true from by unfold bH at hok;rw [Bool.and_eq_true] at hok;exact hok.1)
      rw [HRNV.out] at hX
      rw [hok] at hNOK
      have HNOK:=Hd hNOK
      have HOK:=Hd hok
      clear hNOK hok
      obtain ⟨X,rfl⟩:∃X:Nat,n=(X:Int):=⟨n.toNat,by omega⟩
      have hXN:X<N:=by omega
      have iX0:(0:Int)<=(X:Int):=by omega
      have iXN:(X:Int)<(N:Int):=by omega
      obtain ⟨q1,q2,⟨q3a,q3⟩,q4⟩:=HS.out.truth 0 (k:=X) rfl hXN
      clear q4
      by_cases hm:(X:Int)∈r.nodes.take k
      ·have HR:Hid (¬bU d src ks r):=fun h=>(HNO.out h).2.1 hm
       rw [decide_eq_true hm] at q1
       clear HG HNO hm
       go_upto_region 7 with fail
       have hsub:=aZ wr
       have hsc:=aR wr
       refine aI wr (by kernel_rfl) (by kernel_rfl) (Below.refl _ _) ?_
       repeat (go_big_quiet_step ((first
        | (go_at_call 207;with_reducible exact aO (HNOK.out _)))))
       refine wpQuiet_nil ?_
       rintro wq ⟨⟨w5,hD⟩,hw⟩
       replace hw:wq=w5:=hw
       subst hw
       clear hsub hsc
       have HB5:=Hd (aB HBW.out hD)
       clear hD x0 x1 x2 x3 y0 y1 lx ly cn lbn q1 q2 q3
       go_wp2_with fail
       go_ret
       exact ⟨aP HR.out,HB5.out⟩
      ·rw [decide_eq_false hm] at q1
       have HM:=Hd hm
       clear hm
       go_upto_region 7 with fail
       have hsub:=aZ wr
       have hsc:=aR wr
       refine aI wr (by kernel_rfl) (by kernel_rfl) (Below.refl _ _) ?_
       repeat (go_big_quiet_step ((first
        | (go_at_call 207;with_reducible exact aO (HNOK.out _)))))
       refine wpQuiet_nil ?_
       rintro wq ⟨⟨w5,hD⟩,hw⟩
       replace hw:wq=w5:=hw
       subst hw
       clear hsub hsc
       have HS5:=Hd (HS.out.below hD)
       have HB5:=Hd (aB HBW.out hD)
       clear hD x0 x1 x2 x3 y0 y1 lx ly cn lbn q1 q2 q3 q3a
       obtain ⟨q1,q2,⟨q3a,q3⟩,q4⟩:=HS5.out.truth 0 (k:=X) rfl hXN
       have HS6:=Hd q4
       have hz:=HDZ.out.size
       have hz1:=aC HXB.out
       have hz2:=aC HYB.out
       clear q4
       have cn:=HCN.out k hlt _ HB5.out
       have lbn:=aL HB5.out hbn
       rw [HNE.out] at cn
       have hx:=aD (aB HDZ.out HS5.out.bel) HXB.out
       have hy:=aD (aB HDZ.out HS5.out.bel) HYB.out
       have x0:=aA (k:=0) hx rfl
       have x1:=aA (k:=1) hx rfl
       have x2:=aA (k:=2) hx rfl
       have x3:=aA (k:=3) hx rfl
       have y0:=aA (k:=0) hy rfl
       have y1:=aA (k:=1) hy rfl
       have lx:=aC hx
       have ly:=aC hy
       clear hx hy
       go_upto_region 10 with fail
       clear x0 x1 x2 x3 y0 y1 lx ly cn lbn q1 q2 q3 q3a
       generalize hW6:wq.setCell ⟨wz.heap.size,X,none⟩ (.bool true)=W6 at *
       clear hW6
       have HB6:=Hd (aB HD.out HS6.out.bel)
       have cn:=HCN.out k hlt _ HB6.out
       have lbn:=aL HB6.out hbn
       rw [HNE.out] at cn
       have hx:=aD (aB HDZ.out HS6.out.bel) HXB.out
       have hy:=aD (aB HDZ.out HS6.out.bel) HYB.out
       have x0:=aA (k:=0) hx rfl
       have x1:=aA (k:=1) hx rfl
       have x2:=aA (k:=2) hx rfl
       have x3:=aA (k:=3) hx rfl
       have y0:=aA (k:=0) hy rfl
       have y1:=aA (k:=1) hy rfl
       have lx:=aC hx
       have ly:=aC hy
       clear hx hy
       have hper:=dw HDV.out
       obtain ⟨p,hp⟩:∃p,aX d=p:=⟨_,rfl⟩
       have hPER:=fun (x:Sub W6)=>dh d x.v hT0 hT1
       rw [hp] at hPER hper
       have HPER:=Hd hPER
       have HPE:=Hd hp
       have e1:(X:Int).tmod p=(X:Int) % p:=Int.tmod_eq_emod_of_nonneg iX0
       have e2:¬p=0:=by omega
       have hm0:0<=(X:Int) % p:=Int.emod_nonneg _ e2
       have hm1:(X:Int) % p<p:=Int.emod_lt_of_pos _ (by omega)
       have e3:IntKind.i64.wrap ((X:Int) % p)=(X:Int) % p:=IntWalk.i64_in _ (by omega)
       clear hPER hp
       have hsub:=aZ W6
       have hsc:=aR W6
       refine aI W6 (by kernel_rfl) (by kernel_rfl) (Below.refl _ _) ?_
       repeat (go_big_quiet_step ((first
        | (go_at_call 68;with_reducible exact aO (HPER.out _)))))
       refine wpQuiet_nil ?_
       rintro wq ⟨⟨w5,hD⟩,hw⟩
       replace hw:wq=w5:=hw
       subst hw
       clear hsub hsc
       have HS7:=Hd (HS6.out.below hD)
       have HB7:=Hd (aB HD.out HS7.out.bel)
       clear hD x0 x1 x2 x3 y0 y1 lx ly cn lbn e1 e2 e3
       obtain ⟨W7,rfl⟩:∃x,x=wq:=⟨wq,rfl⟩
       have lbn:=aL HB7.out hbn
       have lbf:=aL HB7.out hbf
       have hx:=aD (aB HDZ.out HS7.out.bel) HXB.out
       have hy:=aD (aB HDZ.out HS7.out.bel) HYB.out
       have x0:=aA (k:=0) hx rfl
       have x1:=aA (k:=1) hx rfl
       have x2:=aA (k:=2) hx rfl
       have x3:=aA (k:=3) hx rfl
       have y0:=aA (k:=0) hy rfl
       have y1:=aA (k:=1) hy rfl
       have lx:=aC hx
       have ly:=aC hy
       clear hx hy
       by_cases hk0:k=0
       ·have dk:((k:Int)==0)=true:=by simp [hk0]
        have cn0:=HCN.out 0 (by omega) _ HB7.out
        have cf0:=HCF.out 0 (by omega) _ HB7.out
        rw [Nat.add_zero] at cn0 cf0
        have hE:=HNE.out
        rw [hk0] at hE
        rw [hE] at cn0
        obtain ⟨f0,hf0⟩:∃x,r.from_[0]?.getD 0=x:=⟨_,rfl⟩
        rw [hf0] at cf0
        have HE:=Hd hE
        have HF0:=Hd hf0
        have inn0:(0:Int)<(nn:Int):=by omega
        clear hE hf0 HNO
        by_cases c4:(X:Int)=src
        ·have d4:((X:Int) != src)=false:=by simp [c4]
         by_cases c5:f0=0
         ·have d5:(f0 != 0)=false:=by simp [c5]
          by_cases c6:(X:Int) % p=5∨(X:Int) % p=6
          ·have HROOT:Hid (r.nodes[0]?.getD 0=src/\r.from_[0]?.getD 0=0/\(src % aX d=5∨src % aX d=6)):=⟨by rw [HE.out,c4],by rw [HF0.out,c5],by rw [←c4,HPE.out];exact c6⟩
           have HG2:=Hd (HG.out ⟨HOK.out,fun h=>by omega,fun h=>by rw [HPE.out] at h;omega⟩)
           clear HG c4 c5
           rcases c6 with c6|c6
           ·have d6:((X:Int) % p != 5)=false:=by simp [c6]
            clear c6
            go_wp2_with fail
            go_roundw
            case rel=>exact ⟨k+1,by omega,by go_num,by rw [HSN.out];exact HS7.out,HG2.out,by rw [HSN.out,dG];exact ⟨HND.out,HM.out⟩,fun _=>HROOT.out⟩
            case measure=>simp [intOf];omega
           ·have d6:((X:Int) % p != 5)=true:=by simp [c6]
            have d7:((X:Int) % p != 6)=false:=by simp [c6]
            clear c6
            go_wp2_with fail
            go_roundw
            case rel=>exact ⟨k+1,by omega,by go_num,by rw [HSN.out];exact HS7.out,HG2.out,by rw [HSN.out,dG];exact ⟨HND.out,HM.out⟩,fun _=>HROOT.out⟩
            case measure=>simp [intOf];omega
          ·have HR:Hid (¬bU d src ks r):=fun h=>c6 (by have h1:=h.root.2.2;rwa [←c4,HPE.out] at h1)
           have d6:((X:Int) % p != 5)=true:=by simp;omega
           have d7:((X:Int) % p != 6)=true:=by simp;omega
           clear HG c4 c5 c6
           go_wp2_with fail
           go_ret
           exact ⟨aP HR.out,HB7.out⟩
         ·have HR:Hid (¬bU d src ks r):=fun h=>c5 (by rw [←HF0.out];exact h.root.2.1)
          have d5:(f0 != 0)=true:=by simp [c5]
          clear HG c4 c5
          go_wp2_with fail
          go_ret
          exact ⟨aP HR.out,HB7.out⟩
        ·have HR:Hid (¬bU d src ks r):=fun h=>c4 (by rw [←HE.out];exact h.root.1)
         have d4:((X:Int) != src)=true:=by simp [c4]
         clear HG c4
         go_wp2_with fail
         go_ret
         exact ⟨aP HR.out,HB7.out⟩
       ·have dk:((k:Int)==0)=false:=by simp [hk0]
        have hkp:0<k:=by omega
        have HRT:=Hd (HRO.out hkp)
        have cn:=HCN.out k hlt _ HB7.out
        have cf:=HCF.out k hlt _ HB7.out
        rw [HNE.out] at cn
        obtain ⟨f,hf⟩:∃f,r.from_[k]?.getD 0=f:=⟨_,rfl⟩
        rw [hf] at cf HNO HG
        clear hf hk0
        by_cases h0:f<0
        ·have HR:Hid (¬bU d src ks r):=fun h=>by have:=((HNO.out h).2.2.1 hkp).1;omega
         have d0:decide (f<0)=true:=decide_eq_true h0
         clear HG HNO h0
         go_upto_region 14 with fail
         have hsub:=aZ W7
         have hsc:=aR W7
         refine aI W7 (by kernel_rfl) (by kernel_rfl) (Below.refl _ _) ?_
         repeat (go_big_quiet_step ((fail)))
         refine wpQuiet_nil ?_
         rintro wq ⟨⟨w5,hD⟩,hw⟩
         replace hw:wq=w5:=hw
         subst hw
         clear hsub hsc
         have HS8:=Hd (HS7.out.below hD)
         have HB8:=Hd (aB HD.out HS8.out.bel)
         clear hD x0 x1 x2 x3 y0 y1 lx ly cf lbf cn lbn
         go_wp2_with fail
         go_ret
         exact ⟨aP HR.out,HB8.out⟩
        ·have d0:decide (f<0)=false:=decide_eq_false h0
         by_cases h1:(k:Int)<=f
         ·have HR:Hid (¬bU d src ks r):=fun h=>by have:=((HNO.out h).2.2.1 hkp).1;omega
          have d1:decide ((k:Int)<=f)=true:=decide_eq_true h1
          have d1':decide (f≥(k:Int))=true:=decide_eq_true h1
          clear HG HNO h0 h1
          go_upto_region 14 with fail
          have hsub:=aZ W7
          have hsc:=aR W7
          refine aI W7 (by kernel_rfl) (by kernel_rfl) (Below.refl _ _) ?_
          repeat (go_big_quiet_step ((fail)))
          refine wpQuiet_nil ?_
          rintro wq ⟨⟨w5,hD⟩,hw⟩
          replace hw:wq=w5:=hw
          subst hw
          clear hsub hsc
          have HS8:=Hd (HS7.out.below hD)
          have HB8:=Hd (aB HD.out HS8.out.bel)
          clear hD x0 x1 x2 x3 y0 y1 lx ly cf lbf cn lbn
          go_wp2_with fail
          go_ret
          exact ⟨aP HR.out,HB8.out⟩
         ·have d1:decide ((k:Int)<=f)=false:=decide_eq_false h1
          have d1':decide (f≥(k:Int))=false:=decide_eq_false h1
          obtain ⟨F,rfl⟩:∃F:Nat,f=(F:Int):=⟨f.toNat,by omega⟩
          have hF:F<k:=by omega
          have d1n:decide (k<=F)=false:=decide_eq_false (by omega)
          have cy:=HCN.out F (by omega) _ HB7.out
          rw [Int.toNat_natCast] at HNO HG
          obtain ⟨y,hy⟩:∃y,r.nodes[F]?.getD 0=y:=⟨_,rfl⟩
          rw [hy] at cy HNO HG
          have iF0:(0:Int)<=(F:Int):=by omega
          have iF:(F:Int)<(nn:Int):=by omega
          have HFK:Hid ((0<=(F:Int)/\(F:Int)<(k:Int))):=⟨by omega,by omega⟩
          have HSRC:=Hd (fun (v:World) (_:Below W7.heap.size W7 v)=>rf d (X:Int) v)
          clear hy h0 h1
          by_cases hb:y∈iE d (X:Int)
          ·have hbb:=decide_eq_true hb
           have HYS:=Hd hb
           have HHI:=Hd (fun (A:Option Addr) (m c:Nat) (v:World) (h:dA v A m (iE d (X:Int))) (hm:m<=1048576)=>(by have h2:=kU A m c (iE d (X:Int)) y v h hm;rwa [hbb] at h2:Calls Tryz.prog 208 #[.slice A m c,.int .i64 y] v fun e w'=>e = .returned (.bool true)/\v=w'))
           clear hbb hb
           by_cases h5:(X:Int) % p<5
           ·have d5:decide ((X:Int) % p<5)=true:=decide_eq_true h5
            by_cases hq:(X:Int)∈ks
            ·have hkk:=decide_eq_true hq
             have HHK:=Hd (fun (v:World) (hv:Below W7.heap.size W7 v)=>(by have h2:=kU KA kn kc ks (X:Int) v (HKS.out.below (aB HB7.out hv)) hkn;rwa [hkk] at h2:Calls Tryz.prog 208 #[.slice KA kn kc,.int .i64 (X:Int)] v fun e w'=>e = .returned (.bool true)/\v=w'))
             have HG2:=Hd (HG.out ⟨HOK.out,fun _=>⟨HFK.out,HYS.out⟩,fun _=>hq⟩)
             clear HG HNO hkk hq h5
             have hD:=(Below.refl W7.heap.size W7).drew
             have HKEEP:Hid (∀w',Below W7.heap.size W7 w'→(w'.cell? ⟨w.heap.size,0,none⟩=some (.int .i64 d.W)/\w'.cell? ⟨w.heap.size,1,none⟩=some (.int .i64 d.H)/\w'.cell? ⟨w.heap.size,2,none⟩=some (.int .i64 d.T)/\w'.cell? ⟨w.heap.size,3,none⟩=some (.int .i64 d.R)/\w'.cell? ⟨w.heap.size+1,0,none⟩=some (.slice (some ⟨bn,obn,none⟩) nn nc)/\w'.cell? ⟨w.heap.size+1,1,none⟩=some (.slice (some ⟨bf,obf,none⟩) nn fc)/\w'.cell? ⟨bn,obn+k,none⟩=some (.int .i64 (X:Int))/\w'.cell? ⟨bf,obf+k,none⟩=some (.int .i64 (F:Int))/\w'.cell? ⟨bn,obn+F,none⟩=some (.int .i64 y))):=fun v hv=>⟨(hv.cell (p:=⟨w.heap.size,0,none⟩) lx).trans x0,(hv.cell (p:=⟨w.heap.size,1,none⟩) lx).trans x1,(hv.cell (p:=⟨w.heap.size,2,none⟩) lx).trans x2,(hv.cell (p:=⟨w.heap.size,3,none⟩) lx).trans x3,(hv.cell (p:=⟨w.heap.size+1,0,none⟩) ly).trans y0,(hv.cell (p:=⟨w.heap.size+1,1,none⟩) ly).trans y1,(hv.cell (p:=⟨bn,obn+k,none⟩) lbn).trans cn,(hv.cell (p:=⟨bf,obf+k,none⟩) lbf).trans cf,(hv.cell (p:=⟨bn,obn+F,none⟩) lbn).trans cy⟩
             go_upto_region 14 with fail
             refine wp_region_held_drew (S:=(fun w'=>w'.cell? ⟨w.heap.size,0,none⟩=some (.int .i64 d.W)/\w'.cell? ⟨w.heap.size,1,none⟩=some (.int .i64 d.H)/\w'.cell? ⟨w.heap.size,2,none⟩=some (.int .i64 d.T)/\w'.cell? ⟨w.heap.size,3,none⟩=some (.int .i64 d.R)/\w'.cell? ⟨w.heap.size+1,0,none⟩=some (.slice (some ⟨bn,obn,none⟩) nn nc)/\w'.cell? ⟨w.heap.size+1,1,none⟩=some (.slice (some ⟨bf,obf,none⟩) nn fc)/\w'.cell? ⟨bn,obn+k,none⟩=some (.int .i64 (X:Int))/\w'.cell? ⟨bf,obf+k,none⟩=some (.int .i64 (F:Int))/\w'.cell? ⟨bn,obn+F,none⟩=some (.int .i64 y))) (by kernel_rfl) ?_ (fun hHeld=>?_)
             ·(try dsimp only)
              first|exact HKEEP.out _ hD
             refine onH (i:=0) (v:=?_) opA ?h1 hHeld ?r1
             case h1=>(intro w hSw;(try dsimp only at hSw);go_simp) <;> with_reducible rfl
             try simp only [Act.put,List.setIfInBounds_toArray,List.set_cons_zero,List.set_cons_succ]
             refine onH (i:=1) (v:=?_) (opB opA) ?h2 hHeld ?r2
             case h2=>(intro w hSw;(try dsimp only at hSw);go_simp) <;> with_reducible rfl
             try simp only [Act.put,List.setIfInBounds_toArray,List.set_cons_zero,List.set_cons_succ]
             refine onH (i:=2) (v:=?_) (opB (opB opA)) ?h3 hHeld ?r3
             case h3=>(intro w hSw;(try dsimp only at hSw);go_simp) <;> with_reducible rfl
             try simp only [Act.put,List.setIfInBounds_toArray,List.set_cons_zero,List.set_cons_succ]
             refine onH (i:=3) (v:=?_) (opB (opB (opB opA))) ?h4 hHeld ?r4
             case h4=>(intro w hSw;(try dsimp only at hSw);go_simp) <;> with_reducible rfl
             try simp only [Act.put,List.setIfInBounds_toArray,List.set_cons_zero,List.set_cons_succ]
             refine onH (i:=4) (v:=?_) (opC opA) ?h5 hHeld ?r5
             case h5=>(intro w hSw;(try dsimp only at hSw);go_simp) <;> with_reducible rfl
             try simp only [Act.put,List.setIfInBounds_toArray,List.set_cons_zero,List.set_cons_succ]
             refine onH (i:=5) (v:=?_) (opC (opB opA)) ?h6 hHeld ?r6
             case h6=>(intro w hSw;(try dsimp only at hSw);go_simp) <;> with_reducible rfl
             try simp only [Act.put,List.setIfInBounds_toArray,List.set_cons_zero,List.set_cons_succ]
             refine onH (i:=6) (v:=?_) (opC (opB (opB opA))) ?h7 hHeld ?r7
             case h7=>(intro w hSw;(try dsimp only at hSw);go_simp) <;> with_reducible rfl
             try simp only [Act.put,List.setIfInBounds_toArray,List.set_cons_zero,List.set_cons_succ]
             refine onH (i:=7) (v:=?_) (opC (opB (opB (opB opA)))) ?h8 hHeld ?r8
             case h8=>(intro w hSw;(try dsimp only at hSw);go_simp) <;> with_reducible rfl
             try simp only [Act.put,List.setIfInBounds_toArray,List.set_cons_zero,List.set_cons_succ]
             refine onH (i:=8) (v:=?_) (opC (opC opA)) ?h9 hHeld ?r9
             case h9=>(intro w hSw;(try dsimp only at hSw);go_simp) <;> with_reducible rfl
             try simp only [Act.put,List.setIfInBounds_toArray,List.set_cons_zero,List.set_cons_succ]
             refine onH (i:=9) (v:=?_) (opC (opC (opB opA))) ?h10 hHeld ?r10
             case h10=>(intro w hSw;(try dsimp only at hSw);go_simp) <;> with_reducible rfl
             try simp only [Act.put,List.setIfInBounds_toArray,List.set_cons_zero,List.set_cons_succ]
             refine onH (i:=10) (v:=?_) (opC (opC (opB (opB opA)))) ?h11 hHeld ?r11
             case h11=>(intro w hSw;(try dsimp only at hSw);go_simp) <;> with_reducible rfl
             try simp only [Act.put,List.setIfInBounds_toArray,List.set_cons_zero,List.set_cons_succ]
             refine onH (i:=11) (v:=?_) (opC (opC (opB (opB (opB opA))))) ?h12 hHeld ?r12
             case h12=>(intro w hSw;(try dsimp only at hSw);go_simp) <;> with_reducible rfl
             try simp only [Act.put,List.setIfInBounds_toArray,List.set_cons_zero,List.set_cons_succ]
             refine onH (i:=12) (v:=?_) (opC (opC (opC opA))) ?h13 hHeld ?r13
             case h13=>(intro w hSw;(try dsimp only at hSw);go_simp) <;> with_reducible rfl
             try simp only [Act.put,List.setIfInBounds_toArray,List.set_cons_zero,List.set_cons_succ]
             refine onH (i:=13) (v:=?_) (opC (opC (opC (opB opA)))) ?h14 hHeld ?r14
             case h14=>(intro w hSw;(try dsimp only at hSw);go_simp) <;> with_reducible rfl
             try simp only [Act.put,List.setIfInBounds_toArray,List.set_cons_zero,List.set_cons_succ]
             refine onH (i:=14) (v:=?_) (opC (opC (opC (opB (opB opA))))) ?h15 hHeld ?r15
             case h15=>(intro w hSw;(try dsimp only at hSw);go_simp) <;> with_reducible rfl
             try simp only [Act.put,List.setIfInBounds_toArray,List.set_cons_zero,List.set_cons_succ]
             refine onH (i:=15) (v:=?_) (opC (opC (opC (opB (opB (opB opA)))))) ?h16 hHeld ?r16
             case h16=>(intro w hSw;(try dsimp only at hSw);go_simp) <;> with_reducible rfl
             try simp only [Act.put,List.setIfInBounds_toArray,List.set_cons_zero,List.set_cons_succ]
             refine onH (i:=16) (v:=?_) (opD opA) ?h17 hHeld ?r17
             case h17=>(intro w hSw;(try dsimp only at hSw);go_simp) <;> with_reducible rfl
             try simp only [Act.put,List.setIfInBounds_toArray,List.set_cons_zero,List.set_cons_succ]
             refine onH (i:=17) (v:=?_) (opD (opB opA)) ?h18 hHeld ?r18
             case h18=>(intro w hSw;(try dsimp only at hSw);go_simp) <;> with_reducible rfl
             try simp only [Act.put,List.setIfInBounds_toArray,List.set_cons_zero,List.set_cons_succ]
             refine onH (i:=18) (v:=?_) (opD (opB (opB opA))) ?h19 hHeld ?r19
             case h19=>(intro w hSw;(try dsimp only at hSw);go_simp) <;> with_reducible rfl
             try simp only [Act.put,List.setIfInBounds_toArray,List.set_cons_zero,List.set_cons_succ]
             refine onH (i:=19) (v:=?_) (opD (opB (opB (opB opA)))) ?h20 hHeld ?r20
             case h20=>(intro w hSw;(try dsimp only at hSw);go_simp) <;> with_reducible rfl
             try simp only [Act.put,List.setIfInBounds_toArray,List.set_cons_zero,List.set_cons_succ]
             refine onH (i:=20) (v:=?_) (opD (opC opA)) ?h21 hHeld ?r21
             case h21=>(intro w hSw;(try dsimp only at hSw);go_simp) <;> with_reducible rfl
             try simp only [Act.put,List.setIfInBounds_toArray,List.set_cons_zero,List.set_cons_succ]
             refine onH (i:=21) (v:=?_) (opD (opC (opB opA))) ?h22 hHeld ?r22
             case h22=>(intro w hSw;(try dsimp only at hSw);go_simp) <;> with_reducible rfl
             try simp only [Act.put,List.setIfInBounds_toArray,List.set_cons_zero,List.set_cons_succ]
             refine onH (i:=23) (v:=?_) (opD (opC (opB (opB (opB opA))))) ?h23 hHeld ?r23
             case h23=>(intro w hSw;(try dsimp only at hSw);go_simp) <;> with_reducible rfl
             try simp only [Act.put,List.setIfInBounds_toArray,List.set_cons_zero,List.set_cons_succ]
             refine onH (i:=24) (v:=?_) (opD (opC (opC opA))) ?h24 hHeld ?r24
             case h24=>(intro w hSw;(try dsimp only at hSw);go_simp) <;> with_reducible rfl
             try simp only [Act.put,List.setIfInBounds_toArray,List.set_cons_zero,List.set_cons_succ]
             refine onH (i:=25) (v:=?_) (opD (opC (opC (opB opA)))) ?h25 hHeld ?r25
             case h25=>(intro w hSw;(try dsimp only at hSw);go_simp) <;> with_reducible rfl
             try simp only [Act.put,List.setIfInBounds_toArray,List.set_cons_zero,List.set_cons_succ]
             refine onH (i:=26) (v:=?_) (opD (opC (opC (opB (opB opA))))) ?h26 hHeld ?r26
             case h26=>(intro w hSw;(try dsimp only at hSw);go_simp) <;> with_reducible rfl
             try simp only [Act.put,List.setIfInBounds_toArray,List.set_cons_zero,List.set_cons_succ]
             refine onH (i:=27) (v:=?_) (opD (opC (opC (opB (opB (opB opA)))))) ?h27 hHeld ?r27
             case h27=>(intro w hSw;(try dsimp only at hSw);go_simp) <;> with_reducible rfl
             try simp only [Act.put,List.setIfInBounds_toArray,List.set_cons_zero,List.set_cons_succ]
             refine onH (i:=28) (v:=?_) (opD (opC (opC (opC opA)))) ?h28 hHeld ?r28
             case h28=>(intro w hSw;(try dsimp only at hSw);go_simp) <;> with_reducible rfl
             try simp only [Act.put,List.setIfInBounds_toArray,List.set_cons_zero,List.set_cons_succ]
             refine onH (i:=29) (v:=?_) (opD (opC (opC (opC (opB opA))))) ?h29 hHeld ?r29
             case h29=>(intro w hSw;(try dsimp only at hSw);go_simp) <;> with_reducible rfl
             try simp only [Act.put,List.setIfInBounds_toArray,List.set_cons_zero,List.set_cons_succ]
             refine onH (i:=30) (v:=?_) (opD (opC (opC (opC (opB (opB opA)))))) ?h30 hHeld ?r30
             case h30=>(intro w hSw;(try dsimp only at hSw);go_simp) <;> with_reducible rfl
             try simp only [Act.put,List.setIfInBounds_toArray,List.set_cons_zero,List.set_cons_succ]
             refine onH (i:=31) (v:=?_) (opD (opC (opC (opC (opB (opB (opB opA))))))) ?h31 hHeld ?r31
             case h31=>(intro w hSw;(try dsimp only at hSw);go_simp) <;> with_reducible rfl
             try simp only [Act.put,List.setIfInBounds_toArray,List.set_cons_zero,List.set_cons_succ]
             try simp only [Act.put,List.setIfInBounds_toArray,List.set_cons_zero,List.set_cons_succ]
             refine gJ (i:=22) (opD (opC (opB (opB opA)))) (fun K hK=>?_)
             go_simp
             (go_at_call 146;(with_reducible refine (HSRC.out _ hD).mono ?_);rintro e5 w5 ⟨A5,n5,c5,rfl,o5,b5⟩;have O5:=Hd o5.ints;have hn5:n5<=1048576:=(by have h5:=o5.len;have h6:=mG d (X:Int);omega);replace hD:=aB hD b5;clear b5 o5)
             first|refine hK.out _ _ ?_ (fun hHeld=>?_)|(go_wp2_with fail;refine hK.out _ _ ?_ (fun hHeld=>?_))
             ·(try dsimp only)
              first|exact HKEEP.out _ hD
             clear hK K
             try simp only [Act.put,List.setIfInBounds_toArray,List.set_cons_zero,List.set_cons_succ]
             try simp only [Act.put,List.setIfInBounds_toArray,List.set_cons_zero,List.set_cons_succ]
             refine gJ (i:=32) (opD (opD opA)) (fun K hK=>?_)
             go_simp
             (go_at_call 208;(with_reducible refine (HHI.out A5 n5 c5 _ O5.out hn5).mono ?_);rintro _ wi ⟨rfl,rfl⟩)
             first|refine hK.out _ _ ?_ (fun hHeld=>?_)|(go_wp2_with fail;refine hK.out _ _ ?_ (fun hHeld=>?_))
             ·(try dsimp only)
              first|exact HKEEP.out _ hD
             clear hK K
             try simp only [Act.put,List.setIfInBounds_toArray,List.set_cons_zero,List.set_cons_succ]
             refine onH (i:=33) (v:=?_) (opD (opD (opB opA))) ?h32 hHeld ?r32
             case h32=>(intro w hSw;(try dsimp only at hSw);go_simp) <;> with_reducible rfl
             try simp only [Act.put,List.setIfInBounds_toArray,List.set_cons_zero,List.set_cons_succ]
             refine onH (i:=34) (v:=?_) (opD (opD (opB (opB opA)))) ?h33 hHeld ?r33
             case h33=>(intro w hSw;(try dsimp only at hSw);go_simp) <;> with_reducible rfl
             try simp only [Act.put,List.setIfInBounds_toArray,List.set_cons_zero,List.set_cons_succ]
             refine onH (i:=35) (v:=?_) (opD (opD (opB (opB (opB opA))))) ?h34 hHeld ?r34
             case h34=>(intro w hSw;(try dsimp only at hSw);go_simp) <;> with_reducible rfl
             try simp only [Act.put,List.setIfInBounds_toArray,List.set_cons_zero,List.set_cons_succ]
             refine onH (i:=36) (v:=?_) (opD (opD (opC opA))) ?h35 hHeld ?r35
             case h35=>(intro w hSw;(try dsimp only at hSw);go_simp) <;> with_reducible rfl
             try simp only [Act.put,List.setIfInBounds_toArray,List.set_cons_zero,List.set_cons_succ]
             refine onH (i:=37) (v:=?_) (opD (opD (opC (opB opA)))) ?h36 hHeld ?r36
             case h36=>(intro w hSw;(try dsimp only at hSw);go_simp) <;> with_reducible rfl
             try simp only [Act.put,List.setIfInBounds_toArray,List.set_cons_zero,List.set_cons_succ]
             refine onH (i:=38) (v:=?_) (opD (opD (opC (opB (opB opA))))) ?h37 hHeld ?r37
             case h37=>(intro w hSw;(try dsimp only at hSw);go_simp) <;> with_reducible rfl
             try simp only [Act.put,List.setIfInBounds_toArray,List.set_cons_zero,List.set_cons_succ]
             refine onH (i:=39) (v:=?_) (opD (opD (opC (opB (opB (opB opA)))))) ?h38 hHeld ?r38
             case h38=>(intro w hSw;(try dsimp only at hSw);go_simp) <;> with_reducible rfl
             try simp only [Act.put,List.setIfInBounds_toArray,List.set_cons_zero,List.set_cons_succ]
             refine onH (i:=40) (v:=?_) (opD (opD (opC (opC opA)))) ?h39 hHeld ?r39
             case h39=>(intro w hSw;(try dsimp only at hSw);go_simp) <;> with_reducible rfl
             try simp only [Act.put,List.setIfInBounds_toArray,List.set_cons_zero,List.set_cons_succ]
             refine onH (i:=41) (v:=?_) (opD (opD (opC (opC (opB opA))))) ?h40 hHeld ?r40
             case h40=>(intro w hSw;(try dsimp only at hSw);go_simp) <;> with_reducible rfl
             try simp only [Act.put,List.setIfInBounds_toArray,List.set_cons_zero,List.set_cons_succ]
             refine onH (i:=42) (v:=?_) (opD (opD (opC (opC (opB (opB opA)))))) ?h41 hHeld ?r41
             case h41=>(intro w hSw;(try dsimp only at hSw);go_simp) <;> with_reducible rfl
             try simp only [Act.put,List.setIfInBounds_toArray,List.set_cons_zero,List.set_cons_succ]
             refine onH (i:=43) (v:=?_) (opD (opD (opC (opC (opB (opB (opB opA))))))) ?h42 hHeld ?r42
             case h42=>(intro w hSw;(try dsimp only at hSw);go_simp) <;> with_reducible rfl
             try simp only [Act.put,List.setIfInBounds_toArray,List.set_cons_zero,List.set_cons_succ]
             refine onH (i:=44) (v:=?_) (opD (opD (opC (opC (opC opA))))) ?h43 hHeld ?r43
             case h43=>(intro w hSw;(try dsimp only at hSw);go_simp) <;> with_reducible rfl
             try simp only [Act.put,List.setIfInBounds_toArray,List.set_cons_zero,List.set_cons_succ]
             try simp only [Act.put,List.setIfInBounds_toArray,List.set_cons_zero,List.set_cons_succ]
             refine gJ (i:=45) (opD (opD (opC (opC (opC (opB opA)))))) (fun K hK=>?_)
             go_simp
             (go_at_call 208;(with_reducible refine (HHK.out _ hD).mono ?_);rintro _ wi ⟨rfl,rfl⟩)
             first|refine hK.out _ _ ?_ (fun hHeld=>?_)|(go_wp2_with fail;refine hK.out _ _ ?_ (fun hHeld=>?_))
             ·(try dsimp only)
              first|exact HKEEP.out _ hD
             clear hK K
             try simp only [Act.put,List.setIfInBounds_toArray,List.set_cons_zero,List.set_cons_succ]
             refine onH (i:=46) (v:=?_) (opD (opD (opC (opC (opC (opB (opB opA))))))) ?h44 hHeld ?r44
             case h44=>(intro w hSw;(try dsimp only at hSw);go_simp) <;> with_reducible rfl
             try simp only [Act.put,List.setIfInBounds_toArray,List.set_cons_zero,List.set_cons_succ]
             refine onH (i:=47) (v:=?_) (opD (opD (opC (opC (opC (opB (opB (opB opA)))))))) ?h45 hHeld ?r45
             case h45=>(intro w hSw;(try dsimp only at hSw);go_simp) <;> with_reducible rfl
             try simp only [Act.put,List.setIfInBounds_toArray,List.set_cons_zero,List.set_cons_succ]
             refine onH (i:=48) (v:=?_) (opD (opD (opD opA))) ?h46 hHeld ?r46
             case h46=>(intro w hSw;(try dsimp only at hSw);go_simp) <;> with_reducible rfl
             try simp only [Act.put,List.setIfInBounds_toArray,List.set_cons_zero,List.set_cons_succ]
             try simp only [Act.put,List.setIfInBounds_toArray,List.set_cons_zero,List.set_cons_succ]
             refine wpAnyH_done (by kernel_rfl) ?_ _
             have HS8:=Hd (HS7.out.below hD)
             have HB8:=Hd (aB HD.out HS8.out.bel)
             clear hD x0 x1 x2 x3 y0 y1 lx ly cn cf cy lbn lbf HKEEP
             go_wp2_with fail
             go_roundw
             case rel=>exact ⟨k+1,by omega,by go_num,by rw [HSN.out];exact HS8.out,HG2.out,by rw [HSN.out,dG];exact ⟨HND.out,HM.out⟩,fun _=>HRT.out⟩
             case measure=>simp [intOf];omega
            ·have hkk:=decide_eq_false hq
             have HR:Hid (¬bU d src ks r):=fun h=>hq ((HNO.out h).2.2.2 (by rw [HPE.out];exact h5))
             have HHK:=Hd (fun (v:World) (hv:Below W7.heap.size W7 v)=>(by have h2:=kU KA kn kc ks (X:Int) v (HKS.out.below (aB HB7.out hv)) hkn;rwa [hkk] at h2:Calls Tryz.prog 208 #[.slice KA kn kc,.int .i64 (X:Int)] v fun e w'=>e = .returned (.bool false)/\v=w'))
             clear HG HNO hkk hq h5
             have hD:=(Below.refl W7.heap.size W7).drew
             have HKEEP:Hid (∀w',Below W7.heap.size W7 w'→(w'.cell? ⟨w.heap.size,0,none⟩=some (.int .i64 d.W)/\w'.cell? ⟨w.heap.size,1,none⟩=some (.int .i64 d.H)/\w'.cell? ⟨w.heap.size,2,none⟩=some (.int .i64 d.T)/\w'.cell? ⟨w.heap.size,3,none⟩=some (.int .i64 d.R)/\w'.cell? ⟨w.heap.size+1,0,none⟩=some (.slice (some ⟨bn,obn,none⟩) nn nc)/\w'.cell? ⟨w.heap.size+1,1,none⟩=some (.slice (some ⟨bf,obf,none⟩) nn fc)/\w'.cell? ⟨bn,obn+k,none⟩=some (.int .i64 (X:Int))/\w'.cell? ⟨bf,obf+k,none⟩=some (.int .i64 (F:Int))/\w'.cell? ⟨bn,obn+F,none⟩=some (.int .i64 y))):=fun v hv=>⟨(hv.cell (p:=⟨w.heap.size,0,none⟩) lx).trans x0,(hv.cell (p:=⟨w.heap.size,1,none⟩) lx).trans x1,(hv.cell (p:=⟨w.heap.size,2,none⟩) lx).trans x2,(hv.cell (p:=⟨w.heap.size,3,none⟩) lx).trans x3,(hv.cell (p:=⟨w.heap.size+1,0,none⟩) ly).trans y0,(hv.cell (p:=⟨w.heap.size+1,1,none⟩) ly).trans y1,(hv.cell (p:=⟨bn,obn+k,none⟩) lbn).trans cn,(hv.cell (p:=⟨bf,obf+k,none⟩) lbf).trans cf,(hv.cell (p:=⟨bn,obn+F,none⟩) lbn).trans cy⟩
             go_upto_region 14 with fail
             refine wp_region_held_drew (S:=(fun w'=>w'.cell? ⟨w.heap.size,0,none⟩=some (.int .i64 d.W)/\w'.cell? ⟨w.heap.size,1,none⟩=some (.int .i64 d.H)/\w'.cell? ⟨w.heap.size,2,none⟩=some (.int .i64 d.T)/\w'.cell? ⟨w.heap.size,3,none⟩=some (.int .i64 d.R)/\w'.cell? ⟨w.heap.size+1,0,none⟩=some (.slice (some ⟨bn,obn,none⟩) nn nc)/\w'.cell? ⟨w.heap.size+1,1,none⟩=some (.slice (some ⟨bf,obf,none⟩) nn fc)/\w'.cell? ⟨bn,obn+k,none⟩=some (.int .i64 (X:Int))/\w'.cell? ⟨bf,obf+k,none⟩=some (.int .i64 (F:Int))/\w'.cell? ⟨bn,obn+F,none⟩=some (.int .i64 y))) (by kernel_rfl) ?_ (fun hHeld=>?_)
             ·(try dsimp only)
              first|exact HKEEP.out _ hD
             refine onH (i:=0) (v:=?_) opA ?h47 hHeld ?r47
             case h47=>(intro w hSw;(try dsimp only at hSw);go_simp) <;> with_reducible rfl
             try simp only [Act.put,List.setIfInBounds_toArray,List.set_cons_zero,List.set_cons_succ]
             refine onH (i:=1) (v:=?_) (opB opA) ?h48 hHeld ?r48
             case h48=>(intro w hSw;(try dsimp only at hSw);go_simp) <;> with_reducible rfl
             try simp only [Act.put,List.setIfInBounds_toArray,List.set_cons_zero,List.set_cons_succ]
             refine onH (i:=2) (v:=?_) (opB (opB opA)) ?h49 hHeld ?r49
             case h49=>(intro w hSw;(try dsimp only at hSw);go_simp) <;> with_reducible rfl
             try simp only [Act.put,List.setIfInBounds_toArray,List.set_cons_zero,List.set_cons_succ]
             refine onH (i:=3) (v:=?_) (opB (opB (opB opA))) ?h50 hHeld ?r50
             case h50=>(intro w hSw;(try dsimp only at hSw);go_simp) <;> with_reducible rfl
             try simp only [Act.put,List.setIfInBounds_toArray,List.set_cons_zero,List.set_cons_succ]
             refine onH (i:=4) (v:=?_) (opC opA) ?h51 hHeld ?r51
             case h51=>(intro w hSw;(try dsimp only at hSw);go_simp) <;> with_reducible rfl
             try simp only [Act.put,List.setIfInBounds_toArray,List.set_cons_zero,List.set_cons_succ]
             refine onH (i:=5) (v:=?_) (opC (opB opA)) ?h52 hHeld ?r52
             case h52=>(intro w hSw;(try dsimp only at hSw);go_simp) <;> with_reducible rfl
             try simp only [Act.put,List.setIfInBounds_toArray,List.set_cons_zero,List.set_cons_succ]
             refine onH (i:=6) (v:=?_) (opC (opB (opB opA))) ?h53 hHeld ?r53
             case h53=>(intro w hSw;(try dsimp only at hSw);go_simp) <;> with_reducible rfl
             try simp only [Act.put,List.setIfInBounds_toArray,List.set_cons_zero,List.set_cons_succ]
             refine onH (i:=7) (v:=?_) (opC (opB (opB (opB opA)))) ?h54 hHeld ?r54
             case h54=>(intro w hSw;(try dsimp only at hSw);go_simp) <;> with_reducible rfl
             try simp only [Act.put,List.setIfInBounds_toArray,List.set_cons_zero,List.set_cons_succ]
             refine onH (i:=8) (v:=?_) (opC (opC opA)) ?h55 hHeld ?r55
             case h55=>(intro w hSw;(try dsimp only at hSw);go_simp) <;> with_reducible rfl
             try simp only [Act.put,List.setIfInBounds_toArray,List.set_cons_zero,List.set_cons_succ]
             refine onH (i:=9) (v:=?_) (opC (opC (opB opA))) ?h56 hHeld ?r56
             case h56=>(intro w hSw;(try dsimp only at hSw);go_simp) <;> with_reducible rfl
             try simp only [Act.put,List.setIfInBounds_toArray,List.set_cons_zero,List.set_cons_succ]
             refine onH (i:=10) (v:=?_) (opC (opC (opB (opB opA)))) ?h57 hHeld ?r57
             case h57=>(intro w hSw;(try dsimp only at hSw);go_simp) <;> with_reducible rfl
             try simp only [Act.put,List.setIfInBounds_toArray,List.set_cons_zero,List.set_cons_succ]
             refine onH (i:=11) (v:=?_) (opC (opC (opB (opB (opB opA))))) ?h58 hHeld ?r58
             case h58=>(intro w hSw;(try dsimp only at hSw);go_simp) <;> with_reducible rfl
             try simp only [Act.put,List.setIfInBounds_toArray,List.set_cons_zero,List.set_cons_succ]
             refine onH (i:=12) (v:=?_) (opC (opC (opC opA))) ?h59 hHeld ?r59
             case h59=>(intro w hSw;(try dsimp only at hSw);go_simp) <;> with_reducible rfl
             try simp only [Act.put,List.setIfInBounds_toArray,List.set_cons_zero,List.set_cons_succ]
             refine onH (i:=13) (v:=?_) (opC (opC (opC (opB opA)))) ?h60 hHeld ?r60
             case h60=>(intro w hSw;(try dsimp only at hSw);go_simp) <;> with_reducible rfl
             try simp only [Act.put,List.setIfInBounds_toArray,List.set_cons_zero,List.set_cons_succ]
             refine onH (i:=14) (v:=?_) (opC (opC (opC (opB (opB opA))))) ?h61 hHeld ?r61
             case h61=>(intro w hSw;(try dsimp only at hSw);go_simp) <;> with_reducible rfl
             try simp only [Act.put,List.setIfInBounds_toArray,List.set_cons_zero,List.set_cons_succ]
             refine onH (i:=15) (v:=?_) (opC (opC (opC (opB (opB (opB opA)))))) ?h62 hHeld ?r62
             case h62=>(intro w hSw;(try dsimp only at hSw);go_simp) <;> with_reducible rfl
             try simp only [Act.put,List.setIfInBounds_toArray,List.set_cons_zero,List.set_cons_succ]
             refine onH (i:=16) (v:=?_) (opD opA) ?h63 hHeld ?r63
             case h63=>(intro w hSw;(try dsimp only at hSw);go_simp) <;> with_reducible rfl
             try simp only [Act.put,List.setIfInBounds_toArray,List.set_cons_zero,List.set_cons_succ]
             refine onH (i:=17) (v:=?_) (opD (opB opA)) ?h64 hHeld ?r64
             case h64=>(intro w hSw;(try dsimp only at hSw);go_simp) <;> with_reducible rfl
             try simp only [Act.put,List.setIfInBounds_toArray,List.set_cons_zero,List.set_cons_succ]
             refine onH (i:=18) (v:=?_) (opD (opB (opB opA))) ?h65 hHeld ?r65
             case h65=>(intro w hSw;(try dsimp only at hSw);go_simp) <;> with_reducible rfl
             try simp only [Act.put,List.setIfInBounds_toArray,List.set_cons_zero,List.set_cons_succ]
             refine onH (i:=19) (v:=?_) (opD (opB (opB (opB opA)))) ?h66 hHeld ?r66
             case h66=>(intro w hSw;(try dsimp only at hSw);go_simp) <;> with_reducible rfl
             try simp only [Act.put,List.setIfInBounds_toArray,List.set_cons_zero,List.set_cons_succ]
             refine onH (i:=20) (v:=?_) (opD (opC opA)) ?h67 hHeld ?r67
             case h67=>(intro w hSw;(try dsimp only at hSw);go_simp) <;> with_reducible rfl
             try simp only [Act.put,List.setIfInBounds_toArray,List.set_cons_zero,List.set_cons_succ]
             refine onH (i:=21) (v:=?_) (opD (opC (opB opA))) ?h68 hHeld ?r68
             case h68=>(intro w hSw;(try dsimp only at hSw);go_simp) <;> with_reducible rfl
             try simp only [Act.put,List.setIfInBounds_toArray,List.set_cons_zero,List.set_cons_succ]
             refine onH (i:=23) (v:=?_) (opD (opC (opB (opB (opB opA))))) ?h69 hHeld ?r69
             case h69=>(intro w hSw;(try dsimp only at hSw);go_simp) <;> with_reducible rfl
             try simp only [Act.put,List.setIfInBounds_toArray,List.set_cons_zero,List.set_cons_succ]
             refine onH (i:=24) (v:=?_) (opD (opC (opC opA))) ?h70 hHeld ?r70
             case h70=>(intro w hSw;(try dsimp only at hSw);go_simp) <;> with_reducible rfl
             try simp only [Act.put,List.setIfInBounds_toArray,List.set_cons_zero,List.set_cons_succ]
             refine onH (i:=25) (v:=?_) (opD (opC (opC (opB opA)))) ?h71 hHeld ?r71
             case h71=>(intro w hSw;(try dsimp only at hSw);go_simp) <;> with_reducible rfl
             try simp only [Act.put,List.setIfInBounds_toArray,List.set_cons_zero,List.set_cons_succ]
             refine onH (i:=26) (v:=?_) (opD (opC (opC (opB (opB opA))))) ?h72 hHeld ?r72
             case h72=>(intro w hSw;(try dsimp only at hSw);go_simp) <;> with_reducible rfl
             try simp only [Act.put,List.setIfInBounds_toArray,List.set_cons_zero,List.set_cons_succ]
             refine onH (i:=27) (v:=?_) (opD (opC (opC (opB (opB (opB opA)))))) ?h73 hHeld ?r73
             case h73=>(intro w hSw;(try dsimp only at hSw);go_simp) <;> with_reducible rfl
             try simp only [Act.put,List.setIfInBounds_toArray,List.set_cons_zero,List.set_cons_succ]
             refine onH (i:=28) (v:=?_) (opD (opC (opC (opC opA)))) ?h74 hHeld ?r74
             case h74=>(intro w hSw;(try dsimp only at hSw);go_simp) <;> with_reducible rfl
             try simp only [Act.put,List.setIfInBounds_toArray,List.set_cons_zero,List.set_cons_succ]
             refine onH (i:=29) (v:=?_) (opD (opC (opC (opC (opB opA))))) ?h75 hHeld ?r75
             case h75=>(intro w hSw;(try dsimp only at hSw);go_simp) <;> with_reducible rfl
             try simp only [Act.put,List.setIfInBounds_toArray,List.set_cons_zero,List.set_cons_succ]
             refine onH (i:=30) (v:=?_) (opD (opC (opC (opC (opB (opB opA)))))) ?h76 hHeld ?r76
             case h76=>(intro w hSw;(try dsimp only at hSw);go_simp) <;> with_reducible rfl
             try simp only [Act.put,List.setIfInBounds_toArray,List.set_cons_zero,List.set_cons_succ]
             refine onH (i:=31) (v:=?_) (opD (opC (opC (opC (opB (opB (opB opA))))))) ?h77 hHeld ?r77
             case h77=>(intro w hSw;(try dsimp only at hSw);go_simp) <;> with_reducible rfl
             try simp only [Act.put,List.setIfInBounds_toArray,List.set_cons_zero,List.set_cons_succ]
             try simp only [Act.put,List.setIfInBounds_toArray,List.set_cons_zero,List.set_cons_succ]
             refine gJ (i:=22) (opD (opC (opB (opB opA)))) (fun K hK=>?_)
             go_simp
             (go_at_call 146;(with_reducible refine (HSRC.out _ hD).mono ?_);rintro e5 w5 ⟨A5,n5,c5,rfl,o5,b5⟩;have O5:=Hd o5.ints;have hn5:n5<=1048576:=(by have h5:=o5.len;have h6:=mG d (X:Int);omega);replace hD:=aB hD b5;clear b5 o5)
             first|refine hK.out _ _ ?_ (fun hHeld=>?_)|(go_wp2_with fail;refine hK.out _ _ ?_ (fun hHeld=>?_))
             ·(try dsimp only)
              first|exact HKEEP.out _ hD
             clear hK K
             try simp only [Act.put,List.setIfInBounds_toArray,List.set_cons_zero,List.set_cons_succ]
             try simp only [Act.put,List.setIfInBounds_toArray,List.set_cons_zero,List.set_cons_succ]
             refine gJ (i:=32) (opD (opD opA)) (fun K hK=>?_)
             go_simp
             (go_at_call 208;(with_reducible refine (HHI.out A5 n5 c5 _ O5.out hn5).mono ?_);rintro _ wi ⟨rfl,rfl⟩)
             first|refine hK.out _ _ ?_ (fun hHeld=>?_)|(go_wp2_with fail;refine hK.out _ _ ?_ (fun hHeld=>?_))
             ·(try dsimp only)
              first|exact HKEEP.out _ hD
             clear hK K
             try simp only [Act.put,List.setIfInBounds_toArray,List.set_cons_zero,List.set_cons_succ]
             refine onH (i:=33) (v:=?_) (opD (opD (opB opA))) ?h78 hHeld ?r78
             case h78=>(intro w hSw;(try dsimp only at hSw);go_simp) <;> with_reducible rfl
             try simp only [Act.put,List.setIfInBounds_toArray,List.set_cons_zero,List.set_cons_succ]
             refine onH (i:=34) (v:=?_) (opD (opD (opB (opB opA)))) ?h79 hHeld ?r79
             case h79=>(intro w hSw;(try dsimp only at hSw);go_simp) <;> with_reducible rfl
             try simp only [Act.put,List.setIfInBounds_toArray,List.set_cons_zero,List.set_cons_succ]
             refine onH (i:=35) (v:=?_) (opD (opD (opB (opB (opB opA))))) ?h80 hHeld ?r80
             case h80=>(intro w hSw;(try dsimp only at hSw);go_simp) <;> with_reducible rfl
             try simp only [Act.put,List.setIfInBounds_toArray,List.set_cons_zero,List.set_cons_succ]
             refine onH (i:=36) (v:=?_) (opD (opD (opC opA))) ?h81 hHeld ?r81
             case h81=>(intro w hSw;(try dsimp only at hSw);go_simp) <;> with_reducible rfl
             try simp only [Act.put,List.setIfInBounds_toArray,List.set_cons_zero,List.set_cons_succ]
             refine onH (i:=37) (v:=?_) (opD (opD (opC (opB opA)))) ?h82 hHeld ?r82
             case h82=>(intro w hSw;(try dsimp only at hSw);go_simp) <;> with_reducible rfl
             try simp only [Act.put,List.setIfInBounds_toArray,List.set_cons_zero,List.set_cons_succ]
             refine onH (i:=38) (v:=?_) (opD (opD (opC (opB (opB opA))))) ?h83 hHeld ?r83
             case h83=>(intro w hSw;(try dsimp only at hSw);go_simp) <;> with_reducible rfl
             try simp only [Act.put,List.setIfInBounds_toArray,List.set_cons_zero,List.set_cons_succ]
             refine onH (i:=39) (v:=?_) (opD (opD (opC (opB (opB (opB opA)))))) ?h84 hHeld ?r84
             case h84=>(intro w hSw;(try dsimp only at hSw);go_simp) <;> with_reducible rfl
             try simp only [Act.put,List.setIfInBounds_toArray,List.set_cons_zero,List.set_cons_succ]
             refine onH (i:=40) (v:=?_) (opD (opD (opC (opC opA)))) ?h85 hHeld ?r85
             case h85=>(intro w hSw;(try dsimp only at hSw);go_simp) <;> with_reducible rfl
             try simp only [Act.put,List.setIfInBounds_toArray,List.set_cons_zero,List.set_cons_succ]
             refine onH (i:=41) (v:=?_) (opD (opD (opC (opC (opB opA))))) ?h86 hHeld ?r86
             case h86=>(intro w hSw;(try dsimp only at hSw);go_simp) <;> with_reducible rfl
             try simp only [Act.put,List.setIfInBounds_toArray,List.set_cons_zero,List.set_cons_succ]
             refine onH (i:=42) (v:=?_) (opD (opD (opC (opC (opB (opB opA)))))) ?h87 hHeld ?r87
             case h87=>(intro w hSw;(try dsimp only at hSw);go_simp) <;> with_reducible rfl
             try simp only [Act.put,List.setIfInBounds_toArray,List.set_cons_zero,List.set_cons_succ]
             refine onH (i:=43) (v:=?_) (opD (opD (opC (opC (opB (opB (opB opA))))))) ?h88 hHeld ?r88
             case h88=>(intro w hSw;(try dsimp only at hSw);go_simp) <;> with_reducible rfl
             try simp only [Act.put,List.setIfInBounds_toArray,List.set_cons_zero,List.set_cons_succ]
             refine onH (i:=44) (v:=?_) (opD (opD (opC (opC (opC opA))))) ?h89 hHeld ?r89
             case h89=>(intro w hSw;(try dsimp only at hSw);go_simp) <;> with_reducible rfl
             try simp only [Act.put,List.setIfInBounds_toArray,List.set_cons_zero,List.set_cons_succ]
             try simp only [Act.put,List.setIfInBounds_toArray,List.set_cons_zero,List.set_cons_succ]
             refine gJ (i:=45) (opD (opD (opC (opC (opC (opB opA)))))) (fun K hK=>?_)
             go_simp
             (go_at_call 208;(with_reducible refine (HHK.out _ hD).mono ?_);rintro _ wi ⟨rfl,rfl⟩)
             first|refine hK.out _ _ ?_ (fun hHeld=>?_)|(go_wp2_with fail;refine hK.out _ _ ?_ (fun hHeld=>?_))
             ·(try dsimp only)
              first|exact HKEEP.out _ hD
             clear hK K
             try simp only [Act.put,List.setIfInBounds_toArray,List.set_cons_zero,List.set_cons_succ]
             refine onH (i:=46) (v:=?_) (opD (opD (opC (opC (opC (opB (opB opA))))))) ?h90 hHeld ?r90
             case h90=>(intro w hSw;(try dsimp only at hSw);go_simp) <;> with_reducible rfl
             try simp only [Act.put,List.setIfInBounds_toArray,List.set_cons_zero,List.set_cons_succ]
             refine onH (i:=47) (v:=?_) (opD (opD (opC (opC (opC (opB (opB (opB opA)))))))) ?h91 hHeld ?r91
             case h91=>(intro w hSw;(try dsimp only at hSw);go_simp) <;> with_reducible rfl
             try simp only [Act.put,List.setIfInBounds_toArray,List.set_cons_zero,List.set_cons_succ]
             refine onH (i:=48) (v:=?_) (opD (opD (opD opA))) ?h92 hHeld ?r92
             case h92=>(intro w hSw;(try dsimp only at hSw);go_simp) <;> with_reducible rfl
             try simp only [Act.put,List.setIfInBounds_toArray,List.set_cons_zero,List.set_cons_succ]
             try simp only [Act.put,List.setIfInBounds_toArray,List.set_cons_zero,List.set_cons_succ]
             refine wpAnyH_done (by kernel_rfl) ?_ _
             have HS8:=Hd (HS7.out.below hD)
             have HB8:=Hd (aB HD.out HS8.out.bel)
             clear hD x0 x1 x2 x3 y0 y1 lx ly cn cf cy lbn lbf HKEEP
             go_wp2_with fail
             go_ret
             exact ⟨aP HR.out,HB8.out⟩
           ·have d5:decide ((X:Int) % p<5)=false:=decide_eq_false h5
            have HG2:=Hd (HG.out ⟨HOK.out,fun _=>⟨HFK.out,HYS.out⟩,fun h=>absurd (by rwa [HPE.out] at h) h5⟩)
            clear HG HNO h5
            have hD:=(Below.refl W7.heap.size W7).drew
            have HKEEP:Hid (∀w',Below W7.heap.size W7 w'→(w'.cell? ⟨w.heap.size,0,none⟩=some (.int .i64 d.W)/\w'.cell? ⟨w.heap.size,1,none⟩=some (.int .i64 d.H)/\w'.cell? ⟨w.heap.size,2,none⟩=some (.int .i64 d.T)/\w'.cell? ⟨w.heap.size,3,none⟩=some (.int .i64 d.R)/\w'.cell? ⟨w.heap.size+1,0,none⟩=some (.slice (some ⟨bn,obn,none⟩) nn nc)/\w'.cell? ⟨w.heap.size+1,1,none⟩=some (.slice (some ⟨bf,obf,none⟩) nn fc)/\w'.cell? ⟨bn,obn+k,none⟩=some (.int .i64 (X:Int))/\w'.cell? ⟨bf,obf+k,none⟩=some (.int .i64 (F:Int))/\w'.cell? ⟨bn,obn+F,none⟩=some (.int .i64 y))):=fun v hv=>⟨(hv.cell (p:=⟨w.heap.size,0,none⟩) lx).trans x0,(hv.cell (p:=⟨w.heap.size,1,none⟩) lx).trans x1,(hv.cell (p:=⟨w.heap.size,2,none⟩) lx).trans x2,(hv.cell (p:=⟨w.heap.size,3,none⟩) lx).trans x3,(hv.cell (p:=⟨w.heap.size+1,0,none⟩) ly).trans y0,(hv.cell (p:=⟨w.heap.size+1,1,none⟩) ly).trans y1,(hv.cell (p:=⟨bn,obn+k,none⟩) lbn).trans cn,(hv.cell (p:=⟨bf,obf+k,none⟩) lbf).trans cf,(hv.cell (p:=⟨bn,obn+F,none⟩) lbn).trans cy⟩
            go_upto_region 14 with fail
            refine wp_region_held_drew (S:=(fun w'=>w'.cell? ⟨w.heap.size,0,none⟩=some (.int .i64 d.W)/\w'.cell? ⟨w.heap.size,1,none⟩=some (.int .i64 d.H)/\w'.cell? ⟨w.heap.size,2,none⟩=some (.int .i64 d.T)/\w'.cell? ⟨w.heap.size,3,none⟩=some (.int .i64 d.R)/\w'.cell? ⟨w.heap.size+1,0,none⟩=some (.slice (some ⟨bn,obn,none⟩) nn nc)/\w'.cell? ⟨w.heap.size+1,1,none⟩=some (.slice (some ⟨bf,obf,none⟩) nn fc)/\w'.cell? ⟨bn,obn+k,none⟩=some (.int .i64 (X:Int))/\w'.cell? ⟨bf,obf+k,none⟩=some (.int .i64 (F:Int))/\w'.cell? ⟨bn,obn+F,none⟩=some (.int .i64 y))) (by kernel_rfl) ?_ (fun hHeld=>?_)
            ·(try dsimp only)
             first|exact HKEEP.out _ hD
            refine onH (i:=0) (v:=?_) opA ?h93 hHeld ?r93
            case h93=>(intro w hSw;(try dsimp only at hSw);go_simp) <;> with_reducible rfl
            try simp only [Act.put,List.setIfInBounds_toArray,List.set_cons_zero,List.set_cons_succ]
            refine onH (i:=1) (v:=?_) (opB opA) ?h94 hHeld ?r94
            case h94=>(intro w hSw;(try dsimp only at hSw);go_simp) <;> with_reducible rfl
            try simp only [Act.put,List.setIfInBounds_toArray,List.set_cons_zero,List.set_cons_succ]
            refine onH (i:=2) (v:=?_) (opB (opB opA)) ?h95 hHeld ?r95
            case h95=>(intro w hSw;(try dsimp only at hSw);go_simp) <;> with_reducible rfl
            try simp only [Act.put,List.setIfInBounds_toArray,List.set_cons_zero,List.set_cons_succ]
            refine onH (i:=3) (v:=?_) (opB (opB (opB opA))) ?h96 hHeld ?r96
            case h96=>(intro w hSw;(try dsimp only at hSw);go_simp) <;> with_reducible rfl
            try simp only [Act.put,List.setIfInBounds_toArray,List.set_cons_zero,List.set_cons_succ]
            refine onH (i:=4) (v:=?_) (opC opA) ?h97 hHeld ?r97
            case h97=>(intro w hSw;(try dsimp only at hSw);go_simp) <;> with_reducible rfl
            try simp only [Act.put,List.setIfInBounds_toArray,List.set_cons_zero,List.set_cons_succ]
            refine onH (i:=5) (v:=?_) (opC (opB opA)) ?h98 hHeld ?r98
            case h98=>(intro w hSw;(try dsimp only at hSw);go_simp) <;> with_reducible rfl
            try simp only [Act.put,List.setIfInBounds_toArray,List.set_cons_zero,List.set_cons_succ]
            refine onH (i:=6) (v:=?_) (opC (opB (opB opA))) ?h99 hHeld ?r99
            case h99=>(intro w hSw;(try dsimp only at hSw);go_simp) <;> with_reducible rfl
            try simp only [Act.put,List.setIfInBounds_toArray,List.set_cons_zero,List.set_cons_succ]
            refine onH (i:=7) (v:=?_) (opC (opB (opB (opB opA)))) ?h100 hHeld ?r100
            case h100=>(intro w hSw;(try dsimp only at hSw);go_simp) <;> with_reducible rfl
            try simp only [Act.put,List.setIfInBounds_toArray,List.set_cons_zero,List.set_cons_succ]
            refine onH (i:=8) (v:=?_) (opC (opC opA)) ?h101 hHeld ?r101
            case h101=>(intro w hSw;(try dsimp only at hSw);go_simp) <;> with_reducible rfl
            try simp only [Act.put,List.setIfInBounds_toArray,List.set_cons_zero,List.set_cons_succ]
            refine onH (i:=9) (v:=?_) (opC (opC (opB opA))) ?h102 hHeld ?r102
            case h102=>(intro w hSw;(try dsimp only at hSw);go_simp) <;> with_reducible rfl
            try simp only [Act.put,List.setIfInBounds_toArray,List.set_cons_zero,List.set_cons_succ]
            refine onH (i:=10) (v:=?_) (opC (opC (opB (opB opA)))) ?h103 hHeld ?r103
            case h103=>(intro w hSw;(try dsimp only at hSw);go_simp) <;> with_reducible rfl
            try simp only [Act.put,List.setIfInBounds_toArray,List.set_cons_zero,List.set_cons_succ]
            refine onH (i:=11) (v:=?_) (opC (opC (opB (opB (opB opA))))) ?h104 hHeld ?r104
            case h104=>(intro w hSw;(try dsimp only at hSw);go_simp) <;> with_reducible rfl
            try simp only [Act.put,List.setIfInBounds_toArray,List.set_cons_zero,List.set_cons_succ]
            refine onH (i:=12) (v:=?_) (opC (opC (opC opA))) ?h105 hHeld ?r105
            case h105=>(intro w hSw;(try dsimp only at hSw);go_simp) <;> with_reducible rfl
            try simp only [Act.put,List.setIfInBounds_toArray,List.set_cons_zero,List.set_cons_succ]
            refine onH (i:=13) (v:=?_) (opC (opC (opC (opB opA)))) ?h106 hHeld ?r106
            case h106=>(intro w hSw;(try dsimp only at hSw);go_simp) <;> with_reducible rfl
            try simp only [Act.put,List.setIfInBounds_toArray,List.set_cons_zero,List.set_cons_succ]
            refine onH (i:=14) (v:=?_) (opC (opC (opC (opB (opB opA))))) ?h107 hHeld ?r107
            case h107=>(intro w hSw;(try dsimp only at hSw);go_simp) <;> with_reducible rfl
            try simp only [Act.put,List.setIfInBounds_toArray,List.set_cons_zero,List.set_cons_succ]
            refine onH (i:=15) (v:=?_) (opC (opC (opC (opB (opB (opB opA)))))) ?h108 hHeld ?r108
            case h108=>(intro w hSw;(try dsimp only at hSw);go_simp) <;> with_reducible rfl
            try simp only [Act.put,List.setIfInBounds_toArray,List.set_cons_zero,List.set_cons_succ]
            refine onH (i:=16) (v:=?_) (opD opA) ?h109 hHeld ?r109
            case h109=>(intro w hSw;(try dsimp only at hSw);go_simp) <;> with_reducible rfl
            try simp only [Act.put,List.setIfInBounds_toArray,List.set_cons_zero,List.set_cons_succ]
            refine onH (i:=17) (v:=?_) (opD (opB opA)) ?h110 hHeld ?r110
            case h110=>(intro w hSw;(try dsimp only at hSw);go_simp) <;> with_reducible rfl
            try simp only [Act.put,List.setIfInBounds_toArray,List.set_cons_zero,List.set_cons_succ]
            refine onH (i:=18) (v:=?_) (opD (opB (opB opA))) ?h111 hHeld ?r111
            case h111=>(intro w hSw;(try dsimp only at hSw);go_simp) <;> with_reducible rfl
            try simp only [Act.put,List.setIfInBounds_toArray,List.set_cons_zero,List.set_cons_succ]
            refine onH (i:=19) (v:=?_) (opD (opB (opB (opB opA)))) ?h112 hHeld ?r112
            case h112=>(intro w hSw;(try dsimp only at hSw);go_simp) <;> with_reducible rfl
            try simp only [Act.put,List.setIfInBounds_toArray,List.set_cons_zero,List.set_cons_succ]
            refine onH (i:=20) (v:=?_) (opD (opC opA)) ?h113 hHeld ?r113
            case h113=>(intro w hSw;(try dsimp only at hSw);go_simp) <;> with_reducible rfl
            try simp only [Act.put,List.setIfInBounds_toArray,List.set_cons_zero,List.set_cons_succ]
            refine onH (i:=21) (v:=?_) (opD (opC (opB opA))) ?h114 hHeld ?r114
            case h114=>(intro w hSw;(try dsimp only at hSw);go_simp) <;> with_reducible rfl
            try simp only [Act.put,List.setIfInBounds_toArray,List.set_cons_zero,List.set_cons_succ]
            refine onH (i:=23) (v:=?_) (opD (opC (opB (opB (opB opA))))) ?h115 hHeld ?r115
            case h115=>(intro w hSw;(try dsimp only at hSw);go_simp) <;> with_reducible rfl
            try simp only [Act.put,List.setIfInBounds_toArray,List.set_cons_zero,List.set_cons_succ]
            refine onH (i:=24) (v:=?_) (opD (opC (opC opA))) ?h116 hHeld ?r116
            case h116=>(intro w hSw;(try dsimp only at hSw);go_simp) <;> with_reducible rfl
            try simp only [Act.put,List.setIfInBounds_toArray,List.set_cons_zero,List.set_cons_succ]
            refine onH (i:=25) (v:=?_) (opD (opC (opC (opB opA)))) ?h117 hHeld ?r117
            case h117=>(intro w hSw;(try dsimp only at hSw);go_simp) <;> with_reducible rfl
            try simp only [Act.put,List.setIfInBounds_toArray,List.set_cons_zero,List.set_cons_succ]
            refine onH (i:=26) (v:=?_) (opD (opC (opC (opB (opB opA))))) ?h118 hHeld ?r118
            case h118=>(intro w hSw;(try dsimp only at hSw);go_simp) <;> with_reducible rfl
            try simp only [Act.put,List.setIfInBounds_toArray,List.set_cons_zero,List.set_cons_succ]
            refine onH (i:=27) (v:=?_) (opD (opC (opC (opB (opB (opB opA)))))) ?h119 hHeld ?r119
            case h119=>(intro w hSw;(try dsimp only at hSw);go_simp) <;> with_reducible rfl
            try simp only [Act.put,List.setIfInBounds_toArray,List.set_cons_zero,List.set_cons_succ]
            refine onH (i:=28) (v:=?_) (opD (opC (opC (opC opA)))) ?h120 hHeld ?r120
            case h120=>(intro w hSw;(try dsimp only at hSw);go_simp) <;> with_reducible rfl
            try simp only [Act.put,List.setIfInBounds_toArray,List.set_cons_zero,List.set_cons_succ]
            refine onH (i:=29) (v:=?_) (opD (opC (opC (opC (opB opA))))) ?h121 hHeld ?r121
            case h121=>(intro w hSw;(try dsimp only at hSw);go_simp) <;> with_reducible rfl
            try simp only [Act.put,List.setIfInBounds_toArray,List.set_cons_zero,List.set_cons_succ]
            refine onH (i:=30) (v:=?_) (opD (opC (opC (opC (opB (opB opA)))))) ?h122 hHeld ?r122
            case h122=>(intro w hSw;(try dsimp only at hSw);go_simp) <;> with_reducible rfl
            try simp only [Act.put,List.setIfInBounds_toArray,List.set_cons_zero,List.set_cons_succ]
            refine onH (i:=31) (v:=?_) (opD (opC (opC (opC (opB (opB (opB opA))))))) ?h123 hHeld ?r123
            case h123=>(intro w hSw;(try dsimp only at hSw);go_simp) <;> with_reducible rfl
            try simp only [Act.put,List.setIfInBounds_toArray,List.set_cons_zero,List.set_cons_succ]
            try simp only [Act.put,List.setIfInBounds_toArray,List.set_cons_zero,List.set_cons_succ]
            refine gJ (i:=22) (opD (opC (opB (opB opA)))) (fun K hK=>?_)
            go_simp
            (go_at_call 146;(with_reducible refine (HSRC.out _ hD).mono ?_);rintro e5 w5 ⟨A5,n5,c5,rfl,o5,b5⟩;have O5:=Hd o5.ints;have hn5:n5<=1048576:=(by have h5:=o5.len;have h6:=mG d (X:Int);omega);replace hD:=aB hD b5;clear b5 o5)
            first|refine hK.out _ _ ?_ (fun hHeld=>?_)|(go_wp2_with fail;refine hK.out _ _ ?_ (fun hHeld=>?_))
            ·(try dsimp only)
             first|exact HKEEP.out _ hD
            clear hK K
            try simp only [Act.put,List.setIfInBounds_toArray,List.set_cons_zero,List.set_cons_succ]
            try simp only [Act.put,List.setIfInBounds_toArray,List.set_cons_zero,List.set_cons_succ]
            refine gJ (i:=32) (opD (opD opA)) (fun K hK=>?_)
            go_simp
            (go_at_call 208;(with_reducible refine (HHI.out A5 n5 c5 _ O5.out hn5).mono ?_);rintro _ wi ⟨rfl,rfl⟩)
            first|refine hK.out _ _ ?_ (fun hHeld=>?_)|(go_wp2_with fail;refine hK.out _ _ ?_ (fun hHeld=>?_))
            ·(try dsimp only)
             first|exact HKEEP.out _ hD
            clear hK K
            try simp only [Act.put,List.setIfInBounds_toArray,List.set_cons_zero,List.set_cons_succ]
            refine onH (i:=33) (v:=?_) (opD (opD (opB opA))) ?h124 hHeld ?r124
            case h124=>(intro w hSw;(try dsimp only at hSw);go_simp) <;> with_reducible rfl
            try simp only [Act.put,List.setIfInBounds_toArray,List.set_cons_zero,List.set_cons_succ]
            refine onH (i:=34) (v:=?_) (opD (opD (opB (opB opA)))) ?h125 hHeld ?r125
            case h125=>(intro w hSw;(try dsimp only at hSw);go_simp) <;> with_reducible rfl
            try simp only [Act.put,List.setIfInBounds_toArray,List.set_cons_zero,List.set_cons_succ]
            refine onH (i:=35) (v:=?_) (opD (opD (opB (opB (opB opA))))) ?h126 hHeld ?r126
            case h126=>(intro w hSw;(try dsimp only at hSw);go_simp) <;> with_reducible rfl
            try simp only [Act.put,List.setIfInBounds_toArray,List.set_cons_zero,List.set_cons_succ]
            refine onH (i:=36) (v:=?_) (opD (opD (opC opA))) ?h127 hHeld ?r127
            case h127=>(intro w hSw;(try dsimp only at hSw);go_simp) <;> with_reducible rfl
            try simp only [Act.put,List.setIfInBounds_toArray,List.set_cons_zero,List.set_cons_succ]
            refine onH (i:=37) (v:=?_) (opD (opD (opC (opB opA)))) ?h128 hHeld ?r128
            case h128=>(intro w hSw;(try dsimp only at hSw);go_simp) <;> with_reducible rfl
            try simp only [Act.put,List.setIfInBounds_toArray,List.set_cons_zero,List.set_cons_succ]
            refine onH (i:=38) (v:=?_) (opD (opD (opC (opB (opB opA))))) ?h129 hHeld ?r129
            case h129=>(intro w hSw;(try dsimp only at hSw);go_simp) <;> with_reducible rfl
            try simp only [Act.put,List.setIfInBounds_toArray,List.set_cons_zero,List.set_cons_succ]
            refine bO (i:=39) (opD (opD (opC (opB (opB (opB opA)))))) hHeld ?_
            try simp only [Act.put,List.setIfInBounds_toArray,List.set_cons_zero,List.set_cons_succ]
            refine bO (i:=40) (opD (opD (opC (opC opA)))) hHeld ?_
            try simp only [Act.put,List.setIfInBounds_toArray,List.set_cons_zero,List.set_cons_succ]
            refine bO (i:=41) (opD (opD (opC (opC (opB opA))))) hHeld ?_
            try simp only [Act.put,List.setIfInBounds_toArray,List.set_cons_zero,List.set_cons_succ]
            refine bO (i:=42) (opD (opD (opC (opC (opB (opB opA)))))) hHeld ?_
            try simp only [Act.put,List.setIfInBounds_toArray,List.set_cons_zero,List.set_cons_succ]
            refine bO (i:=43) (opD (opD (opC (opC (opB (opB (opB opA))))))) hHeld ?_
            try simp only [Act.put,List.setIfInBounds_toArray,List.set_cons_zero,List.set_cons_succ]
            refine bO (i:=44) (opD (opD (opC (opC (opC opA))))) hHeld ?_
            try simp only [Act.put,List.setIfInBounds_toArray,List.set_cons_zero,List.set_cons_succ]
            refine bO (i:=45) (opD (opD (opC (opC (opC (opB opA)))))) hHeld ?_
            try simp only [Act.put,List.setIfInBounds_toArray,List.set_cons_zero,List.set_cons_succ]
            refine bO (i:=46) (opD (opD (opC (opC (opC (opB (opB opA))))))) hHeld ?_
            try simp only [Act.put,List.setIfInBounds_toArray,List.set_cons_zero,List.set_cons_succ]
            refine onH (i:=47) (v:=?_) (opD (opD (opC (opC (opC (opB (opB (opB opA)))))))) ?h130 hHeld ?r130
            case h130=>(intro w hSw;(try dsimp only at hSw);go_simp) <;> with_reducible rfl
            try simp only [Act.put,List.setIfInBounds_toArray,List.set_cons_zero,List.set_cons_succ]
            refine onH (i:=48) (v:=?_) (opD (opD (opD opA))) ?h131 hHeld ?r131
            case h131=>(intro w hSw;(try dsimp only at hSw);go_simp) <;> with_reducible rfl
            try simp only [Act.put,List.setIfInBounds_toArray,List.set_cons_zero,List.set_cons_succ]
            try simp only [Act.put,List.setIfInBounds_toArray,List.set_cons_zero,List.set_cons_succ]
            refine wpAnyH_done (by kernel_rfl) ?_ _
            have HS8:=Hd (HS7.out.below hD)
            have HB8:=Hd (aB HD.out HS8.out.bel)
            clear hD x0 x1 x2 x3 y0 y1 lx ly cn cf cy lbn lbf HKEEP
            go_wp2_with fail
            go_roundw
            case rel=>exact ⟨k+1,by omega,by go_num,by rw [HSN.out];exact HS8.out,HG2.out,by rw [HSN.out,dG];exact ⟨HND.out,HM.out⟩,fun _=>HRT.out⟩
            case measure=>simp [intOf];omega
          ·have hbb:=decide_eq_false hb
           have HR:Hid (¬bU d src ks r):=fun h=>hb ((HNO.out h).2.2.1 hkp).2
           have HHI:=Hd (fun (A:Option Addr) (m c:Nat) (v:World) (h:dA v A m (iE d (X:Int))) (hm:m<=1048576)=>(by have h2:=kU A m c (iE d (X:Int)) y v h hm;rwa [hbb] at h2:Calls Tryz.prog 208 #[.slice A m c,.int .i64 y] v fun e w'=>e = .returned (.bool false)/\v=w'))
           clear HG HNO hbb hb
           have hD:=(Below.refl W7.heap.size W7).drew
           have HKEEP:Hid (∀w',Below W7.heap.size W7 w'→(w'.cell? ⟨w.heap.size,0,none⟩=some (.int .i64 d.W)/\w'.cell? ⟨w.heap.size,1,none⟩=some (.int .i64 d.H)/\w'.cell? ⟨w.heap.size,2,none⟩=some (.int .i64 d.T)/\w'.cell? ⟨w.heap.size,3,none⟩=some (.int .i64 d.R)/\w'.cell? ⟨w.heap.size+1,0,none⟩=some (.slice (some ⟨bn,obn,none⟩) nn nc)/\w'.cell? ⟨w.heap.size+1,1,none⟩=some (.slice (some ⟨bf,obf,none⟩) nn fc)/\w'.cell? ⟨bn,obn+k,none⟩=some (.int .i64 (X:Int))/\w'.cell? ⟨bf,obf+k,none⟩=some (.int .i64 (F:Int))/\w'.cell? ⟨bn,obn+F,none⟩=some (.int .i64 y))):=fun v hv=>⟨(hv.cell (p:=⟨w.heap.size,0,none⟩) lx).trans x0,(hv.cell (p:=⟨w.heap.size,1,none⟩) lx).trans x1,(hv.cell (p:=⟨w.heap.size,2,none⟩) lx).trans x2,(hv.cell (p:=⟨w.heap.size,3,none⟩) lx).trans x3,(hv.cell (p:=⟨w.heap.size+1,0,none⟩) ly).trans y0,(hv.cell (p:=⟨w.heap.size+1,1,none⟩) ly).trans y1,(hv.cell (p:=⟨bn,obn+k,none⟩) lbn).trans cn,(hv.cell (p:=⟨bf,obf+k,none⟩) lbf).trans cf,(hv.cell (p:=⟨bn,obn+F,none⟩) lbn).trans cy⟩
           go_upto_region 14 with fail
           refine wp_region_held_drew (S:=(fun w'=>w'.cell? ⟨w.heap.size,0,none⟩=some (.int .i64 d.W)/\w'.cell? ⟨w.heap.size,1,none⟩=some (.int .i64 d.H)/\w'.cell? ⟨w.heap.size,2,none⟩=some (.int .i64 d.T)/\w'.cell? ⟨w.heap.size,3,none⟩=some (.int .i64 d.R)/\w'.cell? ⟨w.heap.size+1,0,none⟩=some (.slice (some ⟨bn,obn,none⟩) nn nc)/\w'.cell? ⟨w.heap.size+1,1,none⟩=some (.slice (some ⟨bf,obf,none⟩) nn fc)/\w'.cell? ⟨bn,obn+k,none⟩=some (.int .i64 (X:Int))/\w'.cell? ⟨bf,obf+k,none⟩=some (.int .i64 (F:Int))/\w'.cell? ⟨bn,obn+F,none⟩=some (.int .i64 y))) (by kernel_rfl) ?_ (fun hHeld=>?_)
           ·(try dsimp only)
            first|exact HKEEP.out _ hD
           refine onH (i:=0) (v:=?_) opA ?h132 hHeld ?r132
           case h132=>(intro w hSw;(try dsimp only at hSw);go_simp) <;> with_reducible rfl
           try simp only [Act.put,List.setIfInBounds_toArray,List.set_cons_zero,List.set_cons_succ]
           refine onH (i:=1) (v:=?_) (opB opA) ?h133 hHeld ?r133
           case h133=>(intro w hSw;(try dsimp only at hSw);go_simp) <;> with_reducible rfl
           try simp only [Act.put,List.setIfInBounds_toArray,List.set_cons_zero,List.set_cons_succ]
           refine onH (i:=2) (v:=?_) (opB (opB opA)) ?h134 hHeld ?r134
           case h134=>(intro w hSw;(try dsimp only at hSw);go_simp) <;> with_reducible rfl
           try simp only [Act.put,List.setIfInBounds_toArray,List.set_cons_zero,List.set_cons_succ]
           refine onH (i:=3) (v:=?_) (opB (opB (opB opA))) ?h135 hHeld ?r135
           case h135=>(intro w hSw;(try dsimp only at hSw);go_simp) <;> with_reducible rfl
           try simp only [Act.put,List.setIfInBounds_toArray,List.set_cons_zero,List.set_cons_succ]
           refine onH (i:=4) (v:=?_) (opC opA) ?h136 hHeld ?r136
           case h136=>(intro w hSw;(try dsimp only at hSw);go_simp) <;> with_reducible rfl
           try simp only [Act.put,List.setIfInBounds_toArray,List.set_cons_zero,List.set_cons_succ]
           refine onH (i:=5) (v:=?_) (opC (opB opA)) ?h137 hHeld ?r137
           case h137=>(intro w hSw;(try dsimp only at hSw);go_simp) <;> with_reducible rfl
           try simp only [Act.put,List.setIfInBounds_toArray,List.set_cons_zero,List.set_cons_succ]
           refine onH (i:=6) (v:=?_) (opC (opB (opB opA))) ?h138 hHeld ?r138
           case h138=>(intro w hSw;(try dsimp only at hSw);go_simp) <;> with_reducible rfl
           try simp only [Act.put,List.setIfInBounds_toArray,List.set_cons_zero,List.set_cons_succ]
           refine onH (i:=7) (v:=?_) (opC (opB (opB (opB opA)))) ?h139 hHeld ?r139
           case h139=>(intro w hSw;(try dsimp only at hSw);go_simp) <;> with_reducible rfl
           try simp only [Act.put,List.setIfInBounds_toArray,List.set_cons_zero,List.set_cons_succ]
           refine onH (i:=8) (v:=?_) (opC (opC opA)) ?h140 hHeld ?r140
           case h140=>(intro w hSw;(try dsimp only at hSw);go_simp) <;> with_reducible rfl
           try simp only [Act.put,List.setIfInBounds_toArray,List.set_cons_zero,List.set_cons_succ]
           refine onH (i:=9) (v:=?_) (opC (opC (opB opA))) ?h141 hHeld ?r141
           case h141=>(intro w hSw;(try dsimp only at hSw);go_simp) <;> with_reducible rfl
           try simp only [Act.put,List.setIfInBounds_toArray,List.set_cons_zero,List.set_cons_succ]
           refine onH (i:=10) (v:=?_) (opC (opC (opB (opB opA)))) ?h142 hHeld ?r142
           case h142=>(intro w hSw;(try dsimp only at hSw);go_simp) <;> with_reducible rfl
           try simp only [Act.put,List.setIfInBounds_toArray,List.set_cons_zero,List.set_cons_succ]
           refine onH (i:=11) (v:=?_) (opC (opC (opB (opB (opB opA))))) ?h143 hHeld ?r143
           case h143=>(intro w hSw;(try dsimp only at hSw);go_simp) <;> with_reducible rfl
           try simp only [Act.put,List.setIfInBounds_toArray,List.set_cons_zero,List.set_cons_succ]
           refine onH (i:=12) (v:=?_) (opC (opC (opC opA))) ?h144 hHeld ?r144
           case h144=>(intro w hSw;(try dsimp only at hSw);go_simp) <;> with_reducible rfl
           try simp only [Act.put,List.setIfInBounds_toArray,List.set_cons_zero,List.set_cons_succ]
           refine onH (i:=13) (v:=?_) (opC (opC (opC (opB opA)))) ?h145 hHeld ?r145
           case h145=>(intro w hSw;(try dsimp only at hSw);go_simp) <;> with_reducible rfl
           try simp only [Act.put,List.setIfInBounds_toArray,List.set_cons_zero,List.set_cons_succ]
           refine onH (i:=14) (v:=?_) (opC (opC (opC (opB (opB opA))))) ?h146 hHeld ?r146
           case h146=>(intro w hSw;(try dsimp only at hSw);go_simp) <;> with_reducible rfl
           try simp only [Act.put,List.setIfInBounds_toArray,List.set_cons_zero,List.set_cons_succ]
           refine onH (i:=15) (v:=?_) (opC (opC (opC (opB (opB (opB opA)))))) ?h147 hHeld ?r147
           case h147=>(intro w hSw;(try dsimp only at hSw);go_simp) <;> with_reducible rfl
           try simp only [Act.put,List.setIfInBounds_toArray,List.set_cons_zero,List.set_cons_succ]
           refine onH (i:=16) (v:=?_) (opD opA) ?h148 hHeld ?r148
           case h148=>(intro w hSw;(try dsimp only at hSw);go_simp) <;> with_reducible rfl
           try simp only [Act.put,List.setIfInBounds_toArray,List.set_cons_zero,List.set_cons_succ]
           refine onH (i:=17) (v:=?_) (opD (opB opA)) ?h149 hHeld ?r149
           case h149=>(intro w hSw;(try dsimp only at hSw);go_simp) <;> with_reducible rfl
           try simp only [Act.put,List.setIfInBounds_toArray,List.set_cons_zero,List.set_cons_succ]
           refine onH (i:=18) (v:=?_) (opD (opB (opB opA))) ?h150 hHeld ?r150
           case h150=>(intro w hSw;(try dsimp only at hSw);go_simp) <;> with_reducible rfl
           try simp only [Act.put,List.setIfInBounds_toArray,List.set_cons_zero,List.set_cons_succ]
           refine onH (i:=19) (v:=?_) (opD (opB (opB (opB opA)))) ?h151 hHeld ?r151
           case h151=>(intro w hSw;(try dsimp only at hSw);go_simp) <;> with_reducible rfl
           try simp only [Act.put,List.setIfInBounds_toArray,List.set_cons_zero,List.set_cons_succ]
           refine onH (i:=20) (v:=?_) (opD (opC opA)) ?h152 hHeld ?r152
           case h152=>(intro w hSw;(try dsimp only at hSw);go_simp) <;> with_reducible rfl
           try simp only [Act.put,List.setIfInBounds_toArray,List.set_cons_zero,List.set_cons_succ]
           refine onH (i:=21) (v:=?_) (opD (opC (opB opA))) ?h153 hHeld ?r153
           case h153=>(intro w hSw;(try dsimp only at hSw);go_simp) <;> with_reducible rfl
           try simp only [Act.put,List.setIfInBounds_toArray,List.set_cons_zero,List.set_cons_succ]
           refine onH (i:=23) (v:=?_) (opD (opC (opB (opB (opB opA))))) ?h154 hHeld ?r154
           case h154=>(intro w hSw;(try dsimp only at hSw);go_simp) <;> with_reducible rfl
           try simp only [Act.put,List.setIfInBounds_toArray,List.set_cons_zero,List.set_cons_succ]
           refine onH (i:=24) (v:=?_) (opD (opC (opC opA))) ?h155 hHeld ?r155
           case h155=>(intro w hSw;(try dsimp only at hSw);go_simp) <;> with_reducible rfl
           try simp only [Act.put,List.setIfInBounds_toArray,List.set_cons_zero,List.set_cons_succ]
           refine onH (i:=25) (v:=?_) (opD (opC (opC (opB opA)))) ?h156 hHeld ?r156
           case h156=>(intro w hSw;(try dsimp only at hSw);go_simp) <;> with_reducible rfl
           try simp only [Act.put,List.setIfInBounds_toArray,List.set_cons_zero,List.set_cons_succ]
           refine onH (i:=26) (v:=?_) (opD (opC (opC (opB (opB opA))))) ?h157 hHeld ?r157
           case h157=>(intro w hSw;(try dsimp only at hSw);go_simp) <;> with_reducible rfl
           try simp only [Act.put,List.setIfInBounds_toArray,List.set_cons_zero,List.set_cons_succ]
           refine onH (i:=27) (v:=?_) (opD (opC (opC (opB (opB (opB opA)))))) ?h158 hHeld ?r158
           case h158=>(intro w hSw;(try dsimp only at hSw);go_simp) <;> with_reducible rfl
           try simp only [Act.put,List.setIfInBounds_toArray,List.set_cons_zero,List.set_cons_succ]
           refine onH (i:=28) (v:=?_) (opD (opC (opC (opC opA)))) ?h159 hHeld ?r159
           case h159=>(intro w hSw;(try dsimp only at hSw);go_simp) <;> with_reducible rfl
           try simp only [Act.put,List.setIfInBounds_toArray,List.set_cons_zero,List.set_cons_succ]
           refine onH (i:=29) (v:=?_) (opD (opC (opC (opC (opB opA))))) ?h160 hHeld ?r160
           case h160=>(intro w hSw;(try dsimp only at hSw);go_simp) <;> with_reducible rfl
           try simp only [Act.put,List.setIfInBounds_toArray,List.set_cons_zero,List.set_cons_succ]
           refine onH (i:=30) (v:=?_) (opD (opC (opC (opC (opB (opB opA)))))) ?h161 hHeld ?r161
           case h161=>(intro w hSw;(try dsimp only at hSw);go_simp) <;> with_reducible rfl
           try simp only [Act.put,List.setIfInBounds_toArray,List.set_cons_zero,List.set_cons_succ]
           refine onH (i:=31) (v:=?_) (opD (opC (opC (opC (opB (opB (opB opA))))))) ?h162 hHeld ?r162
           case h162=>(intro w hSw;(try dsimp only at hSw);go_simp) <;> with_reducible rfl
           try simp only [Act.put,List.setIfInBounds_toArray,List.set_cons_zero,List.set_cons_succ]
           try simp only [Act.put,List.setIfInBounds_toArray,List.set_cons_zero,List.set_cons_succ]
           refine gJ (i:=22) (opD (opC (opB (opB opA)))) (fun K hK=>?_)
           go_simp
           (go_at_call 146;(with_reducible refine (HSRC.out _ hD).mono ?_);rintro e5 w5 ⟨A5,n5,c5,rfl,o5,b5⟩;have O5:=Hd o5.ints;have hn5:n5<=1048576:=(by have h5:=o5.len;have h6:=mG d (X:Int);omega);replace hD:=aB hD b5;clear b5 o5)
           first|refine hK.out _ _ ?_ (fun hHeld=>?_)|(go_wp2_with fail;refine hK.out _ _ ?_ (fun hHeld=>?_))
           ·(try dsimp only)
            first|exact HKEEP.out _ hD
           clear hK K
           try simp only [Act.put,List.setIfInBounds_toArray,List.set_cons_zero,List.set_cons_succ]
           try simp only [Act.put,List.setIfInBounds_toArray,List.set_cons_zero,List.set_cons_succ]
           refine gJ (i:=32) (opD (opD opA)) (fun K hK=>?_)
           go_simp
           (go_at_call 208;(with_reducible refine (HHI.out A5 n5 c5 _ O5.out hn5).mono ?_);rintro _ wi ⟨rfl,rfl⟩)
           first|refine hK.out _ _ ?_ (fun hHeld=>?_)|(go_wp2_with fail;refine hK.out _ _ ?_ (fun hHeld=>?_))
           ·(try dsimp only)
            first|exact HKEEP.out _ hD
           clear hK K
           try simp only [Act.put,List.setIfInBounds_toArray,List.set_cons_zero,List.set_cons_succ]
           refine onH (i:=33) (v:=?_) (opD (opD (opB opA))) ?h163 hHeld ?r163
           case h163=>(intro w hSw;(try dsimp only at hSw);go_simp) <;> with_reducible rfl
           try simp only [Act.put,List.setIfInBounds_toArray,List.set_cons_zero,List.set_cons_succ]
           refine onH (i:=34) (v:=?_) (opD (opD (opB (opB opA)))) ?h164 hHeld ?r164
           case h164=>(intro w hSw;(try dsimp only at hSw);go_simp) <;> with_reducible rfl
           try simp only [Act.put,List.setIfInBounds_toArray,List.set_cons_zero,List.set_cons_succ]
           refine onH (i:=35) (v:=?_) (opD (opD (opB (opB (opB opA))))) ?h165 hHeld ?r165
           case h165=>(intro w hSw;(try dsimp only at hSw);go_simp) <;> with_reducible rfl
           try simp only [Act.put,List.setIfInBounds_toArray,List.set_cons_zero,List.set_cons_succ]
           refine bO (i:=36) (opD (opD (opC opA))) hHeld ?_
           try simp only [Act.put,List.setIfInBounds_toArray,List.set_cons_zero,List.set_cons_succ]
           refine bO (i:=37) (opD (opD (opC (opB opA)))) hHeld ?_
           try simp only [Act.put,List.setIfInBounds_toArray,List.set_cons_zero,List.set_cons_succ]
           refine bO (i:=38) (opD (opD (opC (opB (opB opA))))) hHeld ?_
           try simp only [Act.put,List.setIfInBounds_toArray,List.set_cons_zero,List.set_cons_succ]
           refine bO (i:=39) (opD (opD (opC (opB (opB (opB opA)))))) hHeld ?_
           try simp only [Act.put,List.setIfInBounds_toArray,List.set_cons_zero,List.set_cons_succ]
           refine bO (i:=40) (opD (opD (opC (opC opA)))) hHeld ?_
           try simp only [Act.put,List.setIfInBounds_toArray,List.set_cons_zero,List.set_cons_succ]
           refine bO (i:=41) (opD (opD (opC (opC (opB opA))))) hHeld ?_
           try simp only [Act.put,List.setIfInBounds_toArray,List.set_cons_zero,List.set_cons_succ]
           refine bO (i:=42) (opD (opD (opC (opC (opB (opB opA)))))) hHeld ?_
           try simp only [Act.put,List.setIfInBounds_toArray,List.set_cons_zero,List.set_cons_succ]
           refine bO (i:=43) (opD (opD (opC (opC (opB (opB (opB opA))))))) hHeld ?_
           try simp only [Act.put,List.setIfInBounds_toArray,List.set_cons_zero,List.set_cons_succ]
           refine bO (i:=44) (opD (opD (opC (opC (opC opA))))) hHeld ?_
           try simp only [Act.put,List.setIfInBounds_toArray,List.set_cons_zero,List.set_cons_succ]
           refine bO (i:=45) (opD (opD (opC (opC (opC (opB opA)))))) hHeld ?_
           try simp only [Act.put,List.setIfInBounds_toArray,List.set_cons_zero,List.set_cons_succ]
           refine bO (i:=46) (opD (opD (opC (opC (opC (opB (opB opA))))))) hHeld ?_
           try simp only [Act.put,List.setIfInBounds_toArray,List.set_cons_zero,List.set_cons_succ]
           refine bO (i:=47) (opD (opD (opC (opC (opC (opB (opB (opB opA)))))))) hHeld ?_
           try simp only [Act.put,List.setIfInBounds_toArray,List.set_cons_zero,List.set_cons_succ]
           refine onH (i:=48) (v:=?_) (opD (opD (opD opA))) ?h166 hHeld ?r166
           case h166=>(intro w hSw;(try dsimp only at hSw);go_simp) <;> with_reducible rfl
           try simp only [Act.put,List.setIfInBounds_toArray,List.set_cons_zero,List.set_cons_succ]
           try simp only [Act.put,List.setIfInBounds_toArray,List.set_cons_zero,List.set_cons_succ]
           refine wpAnyH_done (by kernel_rfl) ?_ _
           have HS8:=Hd (HS7.out.below hD)
           have HB8:=Hd (aB HD.out HS8.out.bel)
           clear hD x0 x1 x2 x3 y0 y1 lx ly cn cf cy lbn lbf HKEEP
           go_wp2_with fail
           go_ret
           exact ⟨aP HR.out,HB8.out⟩
    ·have hkn':k=nn:=by omega
     have hdk:decide ((k:Int)<(nn:Int))=false:=by simp;omega
     have HTK:Hid (r.nodes.take k=r.nodes):=by show _=_;rw [hkn'];exact List.take_of_length_le (by rw [HN.out.1];exact Nat.le_refl _)
     rw [HTK.out] at HS HND
     rw [hkn'] at HALL HRO
     have HROOT:=Hd (HRO.out (by omega))
     clear hkn'
     obtain ⟨wo,rfl⟩:∃x,x=wr:=⟨wr,rfl⟩
     go_wp2_with fail
     clear x0 x1 x2 x3 y0 y1 lx ly
     go_loopw [12] (fun i wr=>∃q:Nat,q<=kn/\i = .int .i64 (q:Int)/\wo=wr/\∀j,j<q→ks[j]?.getD 0∈r.nodes) (fun i _=>kn - (intOf i).toNat)
     case atStart=>exact ⟨0,by omega,rfl,rfl,fun j hj=>by omega⟩
     case round =>
      obtain ⟨q,hq,rfl,rfl,hks⟩:=hrel
      have HQS:=Hd hks
      clear hks
      by_cases hltq:q<kn
      ·have hdq:decide ((q:Int)<(kn:Int))=true:=by simp;omega
       have hql:q<ks.length:=by rw [HKS.out.1];exact hltq
       obtain ⟨bk,ok,hKA,hbk,hck⟩:=HKS.out.2 (by omega)
       have HKA:=Hd hKA
       have ck:=(HBW.out.cell (p:=⟨bk,ok+q,none⟩) hbk).trans (hck q hltq)
       have lbk:=aL HBW.out hbk
       have HG:Hid (ks[q]?.getD 0∈r.nodes→∀j,j<q+1→ks[j]?.getD 0∈r.nodes):=fun h=>bS HQS.out h
       have HNO:Hid (ks[q]?.getD 0∉r.nodes→¬bU d src ks r):=fun h h'=>h (by rw [List.getElem?_eq_getElem hql];exact h'.sinks _ (List.getElem_mem hql))
       have HIN:Hid (ks[q]?.getD 0∈r.nodes→0<=ks[q]?.getD 0/\ks[q]?.getD 0<(N:Int)):=fun h=>by
        obtain ⟨j,hj,hjE⟩:=List.getElem_of_mem h
        have h1:=(HALL.out j (by rw [←HN.out.1];exact hj)).1
        rw [List.getElem?_eq_getElem hj] at h1
        change bH d (r.nodes[j])=true at h1
        rw [hjE] at h1
        have h2:=kM.1 (show fF d _=true from by unfold bH at h1;rw [Bool.and_eq_true] at h1;exact h1.1)
        rw [HRNV.out] at h2
        exact h2
       clear hck hql hKA
       obtain rfl:=HKA.out
       generalize ks[q]?.getD 0=s at *
       have i0:(0:Int)<=(q:Int):=by omega
       have i1:(q:Int)<(kn:Int):=by omega
       by_cases h0:s<0
       ·have HR:=Hd (HNO.out (fun h=>by have:=HIN.out h;omega))
        have d0:decide (s<0)=true:=decide_eq_true h0
        clear HG HNO HIN h0
        go_wp2_with fail
        go_ret
        exact ⟨aP HR.out,HBW.out⟩
       ·have d0:decide (s<0)=false:=decide_eq_false h0
        by_cases h1:(N:Int)<=s
        ·have HR:=Hd (HNO.out (fun h=>by have:=HIN.out h;omega))
         have d1:decide ((N:Int)<=s)=true:=decide_eq_true h1
         have d1':decide (s≥(N:Int))=true:=decide_eq_true h1
         clear HG HNO HIN h0 h1
         go_wp2_with fail
         go_ret
         exact ⟨aP HR.out,HBW.out⟩
        ·have d1:decide ((N:Int)<=s)=false:=decide_eq_false h1
         have d1':decide (s≥(N:Int))=false:=decide_eq_false h1
         obtain ⟨X,rfl⟩:∃X:Nat,s=(X:Int):=⟨s.toNat,by omega⟩
         have hXN:X<N:=by omega
         have iX0:(0:Int)<=(X:Int):=by omega
         have iXN:(X:Int)<(N:Int):=by omega
         obtain ⟨q1,q2,⟨q3a,q3⟩,q4⟩:=HS.out.truth 0 (k:=X) rfl hXN
         clear q4 h0 h1 HIN
         by_cases hm:(X:Int)∈r.nodes
         ·have HG2:=Hd (HG.out hm)
          rw [decide_eq_true hm] at q1
          clear HG HNO hm
          go_wp2_with fail
          go_roundw
          case rel=>exact ⟨q+1,by omega,by go_num,by first|rfl|trivial,HG2.out⟩
          case measure=>simp [intOf];omega
         ·have HR:=Hd (HNO.out hm)
          rw [decide_eq_false hm] at q1
          clear HG HNO hm
          go_wp2_with fail
          go_ret
          exact ⟨aP HR.out,HBW.out⟩
      ·have hqn:q=kn:=by omega
       have hdq:decide ((q:Int)<(kn:Int))=false:=by simp;omega
       have HR:Hid (bU d src ks r):=by
        refine ⟨⟨by rw [HN.out.1];omega,by rw [HN.out.1];have h:=HRNV.out;unfold gK at h;rw [if_pos HDV.out] at h;omega⟩,HDV.out,by rw [HFR.out.1,HN.out.1],fun n hn=>?_,HND.out,HROOT.out,fun i h0 hi=>(HALL.out i (by rw [←HN.out.1];exact hi)).2.1 h0,fun n hn h5=>?_,fun n hn=>?_⟩
        ·obtain ⟨j,hj,rfl⟩:=List.getElem_of_mem hn
         have h:=(HALL.out j (by rw [←HN.out.1];exact hj)).1
         rwa [List.getElem?_eq_getElem hj] at h
        ·obtain ⟨j,hj,rfl⟩:=List.getElem_of_mem hn
         have h:=(HALL.out j (by rw [←HN.out.1];exact hj)).2.2
         rw [List.getElem?_eq_getElem hj] at h
         exact h h5
        ·obtain ⟨j,hj,rfl⟩:=List.getElem_of_mem hn
         have h:=HQS.out j (by rw [hqn,←HKS.out.1];exact hj)
         rwa [List.getElem?_eq_getElem hj] at h
       clear HALL HQS hqn
       go_wp2_with fail
       go_ret
       exact ⟨cO HR.out,HBW.out⟩
  ·have HR:Hid (¬bU d src ks r):=fun h=>c3 (by rw [←HFR.out.1,←HN.out.1];exact h.same)
   have d3:((fn:Int) != (nn:Int))=true:=by simp;omega
   clear c3
   go_enter Tryz.func118,Tryz.ntmps118
   go_upto_region 1 with fail
   generalize (w.alloc (.cells #[.int .i64 d.W,.int .i64 d.H,.int .i64 d.T,.int .i64 d.R] 36)).alloc (.cells #[.slice NA nn nc,.slice FA fn fc] 114)=W9 at *
   have hx:=HXB.out
   have hy:=HYB.out
   have x0:=aA (k:=0) hx rfl
   have x1:=aA (k:=1) hx rfl
   have x2:=aA (k:=2) hx rfl
   have x3:=aA (k:=3) hx rfl
   have y0:=aA (k:=0) hy rfl
   have y1:=aA (k:=1) hy rfl
   have lx:=aC hx
   have ly:=aC hy
   clear hx hy
   have HRN:=Hd (fun (x:Sub W9)=>fE d x.v)
   have HIN:=Hd (fun (x:Sub W9)=>(by have h:=af (nn:Int) 1 (gK d) x.v;rwa [HIV.out] at h:Calls Tryz.prog 83 #[.int .i64 (nn:Int),.int .i64 1,.int .i64 (gK d)] x.v fun e w'=>e = .returned (.bool true)/\x.v=w'))
   have hsub:=aZ W9
   have hsc:=aR W9
   refine aI W9 (by kernel_rfl) (by kernel_rfl) (Below.refl _ _) ?_
   repeat (go_big_quiet_step ((first
    | (go_at_call 116;with_reducible exact aO (HRN.out _))
    | (go_at_call 83;with_reducible exact aU (HIN.out _)))))
   refine wpQuiet_nil ?_
   rintro wq ⟨⟨w5,hD⟩,hw⟩
   replace hw:wq=w5:=hw
   subst hw
   clear hsub hsc
   have HDQ:=Hd hD
   have HD:=Hd (aB HB0.out hD)
   clear hD
   clear x0 x1 x2 x3 y0 y1 lx ly
   go_wp2_with fail
   go_ret
   exact ⟨aP HR.out,HD.out⟩
end Go.Proofs.YtofihjoanjkdmaaGreat
