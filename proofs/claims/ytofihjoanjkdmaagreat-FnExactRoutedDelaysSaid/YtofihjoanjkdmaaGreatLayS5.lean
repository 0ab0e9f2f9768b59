/- Valid blocks in the reference (printed by mkblks.py). -/
import Derived.Test.YtofihjoanjkdmaaGreatLayF6
import Derived.Test.YtofihjoanjkdmaaGreatLayS4
namespace Go.Proofs.YtofihjoanjkdmaaGreat
set_option maxHeartbeats 4000000
set_option maxRecDepth 100000
open Go.RowKit
theorem x8 (l:ai) (SA LA OA:Option Addr) (sn sc ln lc on oc:Nat) (kd it:Int) (es:List LeT) (W:Option Addr) (D Y:Nat) (w:World) (h:fo w l SA LA OA sn sc ln lc on oc) (hf:bA l) (hE:RdC w w.heap.size (cO es) (.slice W D Y)) (af:D<=1048576) :
  Calls Tryz.prog 110 #[jI l SA LA OA sn sc ln lc on oc,.agg #[.int .i64 kd,.int .i64 it,.slice W D Y]] w fun e w'=>e = .returned (.bool (tb (dI l ⟨kd,it,es⟩)))/\Below w.heap.size w w':=by
 have hB:=vJ (l:=l) (kd:=kd) (it:=it) (es:=es)
 have aP:=hE.esN
 obtain ⟨HE,aS⟩:=hd2 hE aP
 clear hE aP
 have u:=Hd (aD (aD (Below.refl w.heap.size w) (.cells (ak l SA LA OA sn sc ln lc on oc) 41)) (.cells #[.int .i64 kd,.int .i64 it,.slice W D Y] 89))
 have hx:=bS (.cells #[.int .i64 kd,.int .i64 it,.slice W D Y] 89) (aI w (.cells (ak l SA LA OA sn sc ln lc on oc) 41))
 have hy:=aI (w.alloc (.cells (ak l SA LA OA sn sc ln lc on oc) 41)) (.cells #[.int .i64 kd,.int .i64 it,.slice W D Y] 89)
 simp only [World.size_alloc] at hy
 obtain ⟨g,j⟩:=hd2 hx hy
 clear hx hy
 obtain ⟨ay,ax,aE⟩:=h.lens
 have aW:=hf.nseq
 have a0:=hf.nlut
 have aT:=hf.nout
 have a7:=hf.inp
 rw [ay] at aW
 rw [ax] at a0
 rw [aE] at aT
 obtain ⟨HN,HF,aQ,bg,bc⟩:=hd5 h hf ay ax aE
 have bh:Hid ((l.first:Int)=1+l.inputs+(sn:Int)):=by show _=_;unfold ai.first;omega
 have be:Hid ((l.count:Int)=1+l.inputs+(sn:Int)+(ln:Int)):=by show _=_;unfold ai.count ai.first;omega
 clear h hf ay ax aE
 rw [aS.out] at hB
 by_cases B:dY l ⟨kd,it,es⟩
 ·have Z:Hid (tb (bA l/\dY l ⟨kd,it,es⟩)=true):=ae ⟨HF.out,B⟩
  have HK:=Hd B
  by_cases k3:kd=3
  ·subst k3
   by_cases h0:it=0
   ·subst h0
    cases hr:inR (D:Int) 1 2 with
    | false =>
     have HR:Hid (¬dI l ⟨3,0,es⟩):=fun h=>by
      rcases (hB.1 h).2 with h|h
      ·rw [aU.2 (by omega)] at hr;cases hr
      exact h.1 rfl
     have au:=Hd hr
     clear hr hB B
     go_enter Tryz.func110,Tryz.ntmps110
     go_upto_region 1 with fail
     generalize (w.alloc (.cells (ak l SA LA OA sn sc ln lc on oc) 41)).alloc (.cells #[.int .i64 3,.int .i64 0,.slice W D Y] 89)=W9 at *
     obtain ⟨I,G,J,U⟩:=cs4 g.out
     obtain ⟨R,Q,H⟩:=cs3 j.out
     have K:=aB g.out
     have V:=aB j.out
     go_wp2_with fail
     refine (dC l SA LA OA sn sc ln lc on oc 3 0 es W D Y _ (HN.out.below u.out) (HE.out.below u.out) af).mono ?_
     rw [Z.out]
     rintro _ w1 ⟨rfl,q⟩
     have z:=Hd (aA u.out q)
     clear I G J U R Q H K V
     obtain ⟨I,G,J,U⟩:=cs4 (aC q g.out)
     obtain ⟨R,Q,H⟩:=cs3 (aC q j.out)
     have K:=aB (aC q g.out)
     have V:=aB (aC q j.out)
     have ag:=Hd (aC q g.out)
     have al:=Hd (aC q j.out)
     clear q
     go_wp2_with fail
     refine (aj (D:Int) 1 2 _).mono ?_
     rw [au.out]
     rintro _ w2 ⟨rfl,rfl⟩
     go_wp2_with fail
     go_ret
     exact ⟨aO HR.out,z.out⟩
    | true =>
     have aJ:=aU.1 hr
     have au:=Hd hr
     have aM:D<=2:=by omega
     have aN:1<=D:=by omega
     clear hr aJ
     by_cases hp:(fE l es).length<=5
     ·have HR:Hid (dI l ⟨3,0,es⟩):=hB.2 ⟨B,.inl ⟨rfl,rfl,⟨aN,aM⟩,hp⟩⟩
      have HP:=Hd hp
      clear hB B hp
      go_enter Tryz.func110,Tryz.ntmps110
      go_upto_region 1 with fail
      generalize (w.alloc (.cells (ak l SA LA OA sn sc ln lc on oc) 41)).alloc (.cells #[.int .i64 3,.int .i64 0,.slice W D Y] 89)=W9 at *
      obtain ⟨I,G,J,U⟩:=cs4 g.out
      obtain ⟨R,Q,H⟩:=cs3 j.out
      have K:=aB g.out
      have V:=aB j.out
      go_wp2_with fail
      refine (dC l SA LA OA sn sc ln lc on oc 3 0 es W D Y _ (HN.out.below u.out) (HE.out.below u.out) af).mono ?_
      rw [Z.out]
      rintro _ w1 ⟨rfl,q⟩
      have z:=Hd (aA u.out q)
      clear I G J U R Q H K V
      obtain ⟨I,G,J,U⟩:=cs4 (aC q g.out)
      obtain ⟨R,Q,H⟩:=cs3 (aC q j.out)
      have K:=aB (aC q g.out)
      have V:=aB (aC q j.out)
      have ag:=Hd (aC q g.out)
      have al:=Hd (aC q j.out)
      clear q
      go_wp2_with fail
      refine (aj (D:Int) 1 2 _).mono ?_
      rw [au.out]
      rintro _ w2 ⟨rfl,rfl⟩
      go_wp2_with fail
      refine (oM l SA LA OA sn sc ln lc on oc es W D Y _ (HN.out.below z.out) HF.out (HE.out.below z.out) (kF.1 HK.out) (by omega)).mono ?_
      rintro _ w3 ⟨PA,pn,pc,rfl,op,b3⟩
      have az:=Hd (aA z.out b3)
      have ap:=op.len
      change (fE l es).length=pn at ap
      have aV:pn<=5:=by have:=HP.out;omega
      have dp:decide ((pn:Int)<=5)=true:=decide_eq_true (by omega)
      clear b3 op ap I G J U R Q H K V
      go_wp2_with fail
      go_ret
      exact ⟨dU HR.out,az.out⟩
     have HR:Hid (¬dI l ⟨3,0,es⟩):=fun h=>by
      rcases (hB.1 h).2 with h|h
      ·exact hp h.2.2.2
      exact h.1 rfl
     have HP:=Hd hp
     clear hB B hp
     go_enter Tryz.func110,Tryz.ntmps110
     go_upto_region 1 with fail
     generalize (w.alloc (.cells (ak l SA LA OA sn sc ln lc on oc) 41)).alloc (.cells #[.int .i64 3,.int .i64 0,.slice W D Y] 89)=W9 at *
     obtain ⟨I,G,J,U⟩:=cs4 g.out
     obtain ⟨R,Q,H⟩:=cs3 j.out
     have K:=aB g.out
     have V:=aB j.out
     go_wp2_with fail
     refine (dC l SA LA OA sn sc ln lc on oc 3 0 es W D Y _ (HN.out.below u.out) (HE.out.below u.out) af).mono ?_
     rw [Z.out]
     rintro _ w1 ⟨rfl,q⟩
     have z:=Hd (aA u.out q)
     clear I G J U R Q H K V
     obtain ⟨I,G,J,U⟩:=cs4 (aC q g.out)
     obtain ⟨R,Q,H⟩:=cs3 (aC q j.out)
     have K:=aB (aC q g.out)
     have V:=aB (aC q j.out)
     have ag:=Hd (aC q g.out)
     have al:=Hd (aC q j.out)
     clear q
     go_wp2_with fail
     refine (aj (D:Int) 1 2 _).mono ?_
     rw [au.out]
     rintro _ w2 ⟨rfl,rfl⟩
     go_wp2_with fail
     refine (oM l SA LA OA sn sc ln lc on oc es W D Y _ (HN.out.below z.out) HF.out (HE.out.below z.out) (kF.1 HK.out) (by omega)).mono ?_
     rintro _ w3 ⟨PA,pn,pc,rfl,op,b3⟩
     have az:=Hd (aA z.out b3)
     have ap:=op.len
     change (fE l es).length=pn at ap
     have aV:¬pn<=5:=by have:=HP.out;omega
     have dp:decide ((pn:Int)<=5)=false:=decide_eq_false (by omega)
     clear b3 op ap I G J U R Q H K V
     go_wp2_with fail
     go_ret
     exact ⟨aO HR.out,az.out⟩
   have HR:Hid (¬dI l ⟨3,it,es⟩):=fun h=>by
    rcases (hB.1 h).2 with h|h
    ·exact h0 h.2.1
    exact h.1 rfl
   have d0:(it==0)=false:=by simp [h0]
   clear hB B h0
   go_enter Tryz.func110,Tryz.ntmps110
   go_upto_region 1 with fail
   generalize (w.alloc (.cells (ak l SA LA OA sn sc ln lc on oc) 41)).alloc (.cells #[.int .i64 3,.int .i64 it,.slice W D Y] 89)=W9 at *
   obtain ⟨I,G,J,U⟩:=cs4 g.out
   obtain ⟨R,Q,H⟩:=cs3 j.out
   have K:=aB g.out
   have V:=aB j.out
   go_wp2_with fail
   refine (dC l SA LA OA sn sc ln lc on oc 3 it es W D Y _ (HN.out.below u.out) (HE.out.below u.out) af).mono ?_
   rw [Z.out]
   rintro _ w1 ⟨rfl,q⟩
   have z:=Hd (aA u.out q)
   clear I G J U R Q H K V
   obtain ⟨I,G,J,U⟩:=cs4 (aC q g.out)
   obtain ⟨R,Q,H⟩:=cs3 (aC q j.out)
   have K:=aB (aC q g.out)
   have V:=aB (aC q j.out)
   have ag:=Hd (aC q g.out)
   have al:=Hd (aC q j.out)
   clear q
   go_wp2_with fail
   go_ret
   exact ⟨aO HR.out,z.out⟩
  have d3:(kd != 3)=true:=by simp [k3]
  by_cases am:D=0
  ·have de:((D:Int)==0)=true:=by simp;omega
   by_cases k2:kd=2
   ·subst k2
    have aF:=il.1 B
    rw [aQ.out] at aF
    obtain ⟨X,rfl⟩:∃X:Nat,it=(X:Int):=⟨it.toNat,by omega⟩
    rw [Int.toNat_natCast] at hB
    have hX:X<sn:=by omega
    obtain ⟨bs,os,IA,im,ic,rfl,ar,c0,c1,c2,r2⟩:=HN.out.sq.sq' (k:=X) (by rw [aQ.out];exact hX)
    generalize l.seqs[X]?.getD Sq.zero=s at *
    clear c1 c2 r2 k3
    by_cases hk:s.kind=1
    ·have dk:(s.kind==1)=true:=by simp [hk]
     have HR:Hid (dI l ⟨2,(X:Int),es⟩):=hB.2 ⟨B,.inr ⟨by decide,am,fun _=>hk⟩⟩
     clear hB B hk am aF
     go_enter Tryz.func110,Tryz.ntmps110
     go_upto_region 1 with fail
     generalize (w.alloc (.cells (ak l (some ⟨bs,os,none⟩) LA OA sn sc ln lc on oc) 41)).alloc (.cells #[.int .i64 2,.int .i64 (X:Int),.slice W D Y] 89)=W9 at *
     obtain ⟨I,G,J,U⟩:=cs4 g.out
     obtain ⟨R,Q,H⟩:=cs3 j.out
     have K:=aB g.out
     have V:=aB j.out
     go_wp2_with fail
     refine (dC l (some ⟨bs,os,none⟩) LA OA sn sc ln lc on oc 2 (X:Int) es W D Y _ (HN.out.below u.out) (HE.out.below u.out) af).mono ?_
     rw [Z.out]
     rintro _ w1 ⟨rfl,q⟩
     have z:=Hd (aA u.out q)
     clear I G J U R Q H K V
     obtain ⟨I,G,J,U⟩:=cs4 (aC q g.out)
     obtain ⟨R,Q,H⟩:=cs3 (aC q j.out)
     have K:=aB (aC q g.out)
     have V:=aB (aC q j.out)
     have ag:=Hd (aC q g.out)
     have al:=Hd (aC q j.out)
     have a1:=aK z.out ar
     rw [←z.out.cell (p:=⟨bs,os+X * 3,none⟩) ar] at c0
     clear q
     go_wp2_with fail
     go_ret
     exact ⟨dU HR.out,z.out⟩
    have dk:(s.kind==1)=false:=by simp [hk]
    have HR:Hid (¬dI l ⟨2,(X:Int),es⟩):=fun h=>by
     rcases (hB.1 h).2 with h|h
     ·exact absurd h.1 (by decide)
     exact hk (h.2.2 rfl)
    clear hB B hk am aF
    go_enter Tryz.func110,Tryz.ntmps110
    go_upto_region 1 with fail
    generalize (w.alloc (.cells (ak l (some ⟨bs,os,none⟩) LA OA sn sc ln lc on oc) 41)).alloc (.cells #[.int .i64 2,.int .i64 (X:Int),.slice W D Y] 89)=W9 at *
    obtain ⟨I,G,J,U⟩:=cs4 g.out
    obtain ⟨R,Q,H⟩:=cs3 j.out
    have K:=aB g.out
    have V:=aB j.out
    go_wp2_with fail
    refine (dC l (some ⟨bs,os,none⟩) LA OA sn sc ln lc on oc 2 (X:Int) es W D Y _ (HN.out.below u.out) (HE.out.below u.out) af).mono ?_
    rw [Z.out]
    rintro _ w1 ⟨rfl,q⟩
    have z:=Hd (aA u.out q)
    clear I G J U R Q H K V
    obtain ⟨I,G,J,U⟩:=cs4 (aC q g.out)
    obtain ⟨R,Q,H⟩:=cs3 (aC q j.out)
    have K:=aB (aC q g.out)
    have V:=aB (aC q j.out)
    have ag:=Hd (aC q g.out)
    have al:=Hd (aC q j.out)
    have a1:=aK z.out ar
    rw [←z.out.cell (p:=⟨bs,os+X * 3,none⟩) ar] at c0
    clear q
    go_wp2_with fail
    go_ret
    exact ⟨aO HR.out,z.out⟩
   have d2:(kd != 2)=true:=by simp [k2]
   have HR:Hid (dI l ⟨kd,it,es⟩):=hB.2 ⟨B,.inr ⟨k3,am,fun h=>absurd h k2⟩⟩
   clear hB B k2 am k3
   go_enter Tryz.func110,Tryz.ntmps110
   go_upto_region 1 with fail
   generalize (w.alloc (.cells (ak l SA LA OA sn sc ln lc on oc) 41)).alloc (.cells #[.int .i64 kd,.int .i64 it,.slice W D Y] 89)=W9 at *
   obtain ⟨I,G,J,U⟩:=cs4 g.out
   obtain ⟨R,Q,H⟩:=cs3 j.out
   have K:=aB g.out
   have V:=aB j.out
   go_wp2_with fail
   refine (dC l SA LA OA sn sc ln lc on oc kd it es W D Y _ (HN.out.below u.out) (HE.out.below u.out) af).mono ?_
   rw [Z.out]
   rintro _ w1 ⟨rfl,q⟩
   have z:=Hd (aA u.out q)
   clear I G J U R Q H K V
   obtain ⟨I,G,J,U⟩:=cs4 (aC q g.out)
   obtain ⟨R,Q,H⟩:=cs3 (aC q j.out)
   have K:=aB (aC q g.out)
   have V:=aB (aC q j.out)
   have ag:=Hd (aC q g.out)
   have al:=Hd (aC q j.out)
   clear q
   go_wp2_with fail
   go_ret
   exact ⟨dU HR.out,z.out⟩
  have de:((D:Int)==0)=false:=by simp;omega
  have HR:Hid (¬dI l ⟨kd,it,es⟩):=fun h=>by
   rcases (hB.1 h).2 with h|h
   ·exact k3 h.1
   exact am h.2.1
  clear hB B am k3
  go_enter Tryz.func110,Tryz.ntmps110
  go_upto_region 1 with fail
  generalize (w.alloc (.cells (ak l SA LA OA sn sc ln lc on oc) 41)).alloc (.cells #[.int .i64 kd,.int .i64 it,.slice W D Y] 89)=W9 at *
  obtain ⟨I,G,J,U⟩:=cs4 g.out
  obtain ⟨R,Q,H⟩:=cs3 j.out
  have K:=aB g.out
  have V:=aB j.out
  go_wp2_with fail
  refine (dC l SA LA OA sn sc ln lc on oc kd it es W D Y _ (HN.out.below u.out) (HE.out.below u.out) af).mono ?_
  rw [Z.out]
  rintro _ w1 ⟨rfl,q⟩
  have z:=Hd (aA u.out q)
  clear I G J U R Q H K V
  obtain ⟨I,G,J,U⟩:=cs4 (aC q g.out)
  obtain ⟨R,Q,H⟩:=cs3 (aC q j.out)
  have K:=aB (aC q g.out)
  have V:=aB (aC q j.out)
  have ag:=Hd (aC q g.out)
  have al:=Hd (aC q j.out)
  clear q
  go_wp2_with fail
  go_ret
  exact ⟨aO HR.out,z.out⟩
 have Z:Hid (tb (bA l/\dY l ⟨kd,it,es⟩)=false):=bJ fun h=>B h.2
 have HR:Hid (¬dI l ⟨kd,it,es⟩):=fun h=>B (hB.1 h).1
 clear hB B
 go_enter Tryz.func110,Tryz.ntmps110
 go_upto_region 1 with fail
 generalize (w.alloc (.cells (ak l SA LA OA sn sc ln lc on oc) 41)).alloc (.cells #[.int .i64 kd,.int .i64 it,.slice W D Y] 89)=W9 at *
 obtain ⟨I,G,J,U⟩:=cs4 g.out
 obtain ⟨R,Q,H⟩:=cs3 j.out
 have K:=aB g.out
 have V:=aB j.out
 go_wp2_with fail
 refine (dC l SA LA OA sn sc ln lc on oc kd it es W D Y _ (HN.out.below u.out) (HE.out.below u.out) af).mono ?_
 rw [Z.out]
 rintro _ w1 ⟨rfl,q⟩
 have z:=Hd (aA u.out q)
 clear I G J U R Q H K V
 have ag:=Hd (aC q g.out)
 have al:=Hd (aC q j.out)
 clear q
 go_wp2_with fail
 go_ret
 exact ⟨aO HR.out,z.out⟩
theorem ED {a b:List Int} {n m:Nat} (g:a.length=n) (j:b.length=m):(∀q:Nat,q<n+m→(a++b)[q]?.getD 0=1)↔(∀q:Nat,q<n→a[q]?.getD 0=1)/\∀q:Nat,q<m→b[q]?.getD 0=1:=by
 subst g j
 refine ⟨fun h=>⟨fun q hq=>?_,fun q hq=>?_⟩,fun h q hq=>?_⟩
 ·have:=h q (by omega)
  rwa [List.getElem?_append_left hq] at this
 ·have:=h (a.length+q) (by omega)
  rwa [List.getElem?_append_right (by omega),Nat.add_sub_cancel_left] at this
 rcases Nat.lt_or_ge q a.length with h1|h1
 ·rw [List.getElem?_append_left h1];exact h.1 q h1
 rw [List.getElem?_append_right h1];exact h.2 _ (by omega)
theorem FX {a b c d:List Int} {n m p q:Nat} (g:a.length=n) (u:b.length=m) (hc:c.length=p) (z:d.length=q):(∀j:Nat,j<n+m+p+q→(a++b++c++d)[j]?.getD 0=1) ↔
  (((∀j:Nat,j<n→a[j]?.getD 0=1)/\∀j:Nat,j<m→b[j]?.getD 0=1)/\∀j:Nat,j<p→c[j]?.getD 0=1)/\∀j:Nat,j<q→d[j]?.getD 0=1:=by
 have h1:(a++b).length=n+m:=by rw [List.length_append,g,u]
 have h2:(a++b++c).length=n+m+p:=by rw [List.length_append,h1,hc]
 rw [ED h2 z,ED h1 hc,ED g u]
theorem kQ (l:ai) (SA LA OA:Option Addr) (sn sc ln lc on oc:Nat) (bs:List Blk) (BA:Option Addr) (bn bc:Nat) (w:World) (h:fo w l SA LA OA sn sc ln lc on oc) (hB:RdC w w.heap.size (aa bs) (.slice BA bn bc)) (cR:∀b∈bs,b.les.length<=1048576) :
  Calls Tryz.prog 35 #[jI l SA LA OA sn sc ln lc on oc,.slice BA bn bc] w fun e w'=>e = .returned (.bool (tb (fQ l bs)))/\Below w.heap.size w w':=by
 have bZ:=Hd (aD (Below.refl w.heap.size w) (.cells (ak l SA LA OA sn sc ln lc on oc) 41))
 have ci:=Hd (aI w (.cells (ak l SA LA OA sn sc ln lc on oc) 41))
 have cF:=hB.blkN
 obtain ⟨cH,dQ,HB,HN⟩:=hd4 cF cR hB h
 clear hB cR
 obtain ⟨cq,cr,cx⟩:=h.lens
 obtain ⟨b3,b9,cT⟩:=hd3 cq cr cx
 clear h
 by_cases hf:bA l
 ·by_cases cv:bn<=64
  ·have dG:decide ((64:Int)<(bn:Int))=false:=decide_eq_false (by omega)
   have dd:decide ((bn:Int)>64)=false:=decide_eq_false (by omega)
   have dA:=hf.nseq
   have dO:=hf.nlut
   have dt:=hf.nout
   have d8:=hf.inp
   rw [cq] at dA
   rw [cr] at dO
   rw [cx] at dt
   have HF:=Hd hf
   obtain ⟨I,hI⟩:∃I:Nat,l.inputs=(I:Int):=⟨l.inputs.toNat,by omega⟩
   have dJ:Hid (l.inputs.toNat=I):=by show _=_;omega
   have co:=Hd hI
   have d1:I<=20:=by omega
   obtain ⟨i0,hi,cV,cQ,cP⟩:=info_parts kC
   have mk:=fun (n:Nat) (hn:n<=1048576) W=>dP (P:=Tryz.prog) 26 3 i0 _ Tryz.underlying26 hi cV .i64 .i64 n n (Nat.le_refl _) (by rw [cP];omega) (by omega) W
   rw [cQ] at mk
   simp only [Nat.mul_one,show (Value.int .i64 0).cells=#[Value.int .i64 0] from rfl,sw] at mk
   have cU:=mk I (by omega)
   have dR:=mk on (by omega)
   have dC:=mk sn (by omega)
   have mkL:=mk ln (by omega)
   rw [←hI] at cU
   clear mk hi cV cQ cP cq cr cx hI cF
   go_enter Tryz.func35,Tryz.ntmps35
   go_upto_region 1 with fail
   generalize w.alloc (.cells (ak l SA LA OA sn sc ln lc on oc) 41)=W0 at *
   obtain ⟨x0,x1,x2,x3,lx⟩:=bX ci.out
   go_wp2_with fail
   refine (dM l SA LA OA sn sc ln lc on oc _ (HN.out.below bZ.out)).mono ?_
   rw [ae hf]
   rintro _ w1 ⟨rfl,b1⟩
   have aL:=Hd (aA bZ.out b1)
   have ca:=Hd (aC b1 ci.out)
   clear b1 x0 x1 x2 x3 lx hf
   obtain ⟨x0,x1,x2,x3,lx⟩:=bX ca.out
   obtain ⟨H,rfl⟩:∃x,x=w1:=⟨w1,rfl⟩
   have c4:=Hd (aJ.refl H)
   go_upto_region 4 with fail
   have s1:=Aj c4.out I (by omega)
   clear x0 x1 x2 x3 lx
   generalize H.alloc (.cells (arr (List.replicate I 0)) 3)=m1 at s1 ⊢
   generalize H.heap.size=g1 at s1 ⊢
   have cs:=Hd s1
   clear s1 cU
   obtain ⟨x0,x1,x2,x3,lx⟩:=bX (aC cs.out.bel ca.out)
   go_upto_region 5 with fail
   have s1:=Aj cs.out on (by omega)
   clear x0 x1 x2 x3 lx
   generalize m1.alloc (.cells (arr (List.replicate on 0)) 3)=m2 at s1 ⊢
   generalize m1.heap.size=g2 at s1 ⊢
   have ct:=Hd s1
   clear s1 dR
   obtain ⟨x0,x1,x2,x3,lx⟩:=bX (aC ct.out.bel ca.out)
   go_upto_region 6 with fail
   have s1:=Aj ct.out sn (by omega)
   clear x0 x1 x2 x3 lx
   generalize m2.alloc (.cells (arr (List.replicate sn 0)) 3)=m3 at s1 ⊢
   generalize m2.heap.size=g3 at s1 ⊢
   have a7:=Hd s1
   clear s1 dC
   obtain ⟨x0,x1,x2,x3,lx⟩:=bX (aC a7.out.bel ca.out)
   go_upto_region 7 with fail
   have s1:=Aj a7.out ln (by omega)
   clear x0 x1 x2 x3 lx
   generalize m3.alloc (.cells (arr (List.replicate ln 0)) 3)=m4 at s1 ⊢
   generalize m3.heap.size=g4 at s1 ⊢
   have bY:=Hd s1
   clear s1 mkL
   have dH:Hid (aJ H m4 [.cel (aG (aH I (bC 0 []))) (.slice (some ⟨g1,0,none⟩) I I),.cel (aG (aH on (bC 1 []))) (.slice (some ⟨g2,0,none⟩) on on),.cel (aG (aH sn (dw []))) (.slice (some ⟨g3,0,none⟩) sn sn),.cel (aG (aH ln (eZ []))) (.slice (some ⟨g4,0,none⟩) ln ln)]):=bY.out
   clear c4 cs ct a7 bY
   go_wp2_with fail
   go_loopw [9] (fun i wr=>∃k:Nat,k<=bn/\i = .int .i64 (k:Int)/\aJ H wr [.cel (aG (aH I (bC 0 (bs.take k)))) (.slice (some ⟨g1,0,none⟩) I I),.cel (aG (aH on (bC 1 (bs.take k)))) (.slice (some ⟨g2,0,none⟩) on on),.cel (aG (aH sn (dw (bs.take k)))) (.slice (some ⟨g3,0,none⟩) sn sn),.cel (aG (aH ln (eZ (bs.take k)))) (.slice (some ⟨g4,0,none⟩) ln ln)]/\∀b∈bs.take k,dI l b) (fun i _=>bn - (intOf i).toNat)
   ·exact ⟨0,by omega,rfl,by rw [List.take_zero];exact dH.out,by simp⟩
   obtain ⟨k,hk,rfl,hs,bt⟩:=hrel
   obtain ⟨HS,bv⟩:=hd2 hs bt
   clear hs bt
   by_cases dq:k<bn
   ·have dL:=dT (by omega:k<bn)
    have bL:k<bs.length:=by rw [cH.out];exact dq
    obtain ⟨bb,ob,EA,G,ec,dE,ch,c0,c1,c2,r2⟩:=HB.out.blk (k:=k) bL
    have g:=aA aL.out HS.out.bel
    have ei:=aK g ch
    rw [←g.cell (p:=⟨bb,ob+k * 3,none⟩) ch] at c0
    rw [←g.cell (p:=⟨bb,ob+k * 3+1,none⟩) ch] at c1
    rw [←g.cell (p:=⟨bb,ob+k * 3+2,none⟩) ch] at c2
    have bI:=Hd (mq bL)
    have bW:=dQ.out _ (List.getElem_mem bL)
    have hg:dI l (bs[k]?.getD Blk.zero)→∀b∈bs.take (k+1),dI l b:=fun h b hb=>by
     rw [bI.out,List.mem_append,List.mem_singleton] at hb
     rcases hb with hb|rfl
     ·exact bv.out b hb
     exact h
    have cS:¬dI l (bs[k]?.getD Blk.zero)→¬fQ l bs:=fun h h'=>h (by rw [List.getElem?_eq_getElem bL];exact h'.fit _ (List.getElem_mem bL))
    obtain ⟨HG,bK⟩:=hd2 hg cS
    have bm:Hid ((dw (bs.take k)).length<=192):=by
     show _<=_
     have h1:=wu bv.out
     rw [List.length_take] at h1
     have h2:min k bs.length * 3<=64 * 3:=Nat.mul_le_mul_right 3 (by omega)
     omega
    have bT:Hid ((eZ (bs.take k)).length<=128):=by
     show _<=_
     have h1:=ww bv.out
     rw [List.length_take] at h1
     have h2:min k bs.length * 2<=64 * 2:=Nat.mul_le_mul_right 2 (by omega)
     omega
    rw [show bs[k]=bs[k]?.getD Blk.zero by rw [List.getElem?_eq_getElem bL];rfl] at bW
    clear bL hg cS
    generalize bs[k]?.getD Blk.zero=b at *
    obtain ⟨kd,it,es⟩:=b
    simp only at c0 c1 bW
    have HE:=Hd (show RdC w w.heap.size (cO es) (.slice EA G ec) from r2)
    have bq:Hid (es.length=G):=HE.out.esN
    have dN:G<=1048576:=by rw [←bq.out];exact bW
    clear r2 bW
    subst dE
    obtain ⟨i0,i1⟩:=ib (by omega:k<bn)
    obtain ⟨wo,rfl⟩:∃x,x=wr:=⟨wr,rfl⟩
    have HA:=Hd (HS.out.pushBlk #[.int .i64 kd,.int .i64 it,.slice EA G ec] 89)
    have hx:=aC HA.out.bel ca.out
    obtain ⟨x0,x1,x2,x3,lx⟩:=bX hx
    obtain ⟨y0,y1,y2,ly⟩:=jU (HA.out.blk 4 rfl).1
    clear hx g
    go_wp2_with fail
    refine (x8 l SA LA OA sn sc ln lc on oc kd it es EA G ec _ (HN.out.below (aA aL.out HA.out.bel)) HF.out (HE.out.below (aA aL.out HA.out.bel)) dN).mono ?_
    by_cases aE:dI l ⟨kd,it,es⟩
    ·rw [ae aE]
     have b5:=Hd (HG.out aE)
     have ck:=Hd (lM aE)
     have cf:Hid (G<=2):=by show _<=_;rw [←bq.out];exact kH aE
     rintro _ w4 ⟨rfl,b4⟩
     have a7:=Hd (HA.out.below b4)
     clear x0 x1 x2 x3 lx y0 y1 y2 ly c0 c1 c2 HG bK
     rcases jJ aE.1 with dp|dD|dl|dm
     ·subst dp
      have cj:=oN.1 aE.1
      obtain ⟨X,rfl⟩:∃X:Nat,it=(X:Int):=⟨it.toNat,by omega⟩
      have hX:X<I:=by have:=co.out;omega
      have az:=dX 0 (bs.take k) ⟨0,(X:Int),es⟩
      have ap:=dX 1 (bs.take k) ⟨0,(X:Int),es⟩
      have aw:=jY (bs.take k) ⟨0,(X:Int),es⟩
      have av:=jX (bs.take k) ⟨0,(X:Int),es⟩
      rw [←bI.out] at az ap aw av
      simp only [if_true,if_false,List.append_nil,Int.reduceEq] at az ap aw av
      have aY:=eU 0 (bs.take k)
      have aZ:=eU 1 (bs.take k)
      rw [List.length_take] at aY aZ
      obtain ⟨cX,fX,lX,aN⟩:=eP a7.out 0 rfl hX
      have b7:=fC (bC 0 (bs.take k)) (X:Int)
      have a9:Hid (aJ H (w4.setCell ⟨g1,X,none⟩ (.int .i64 (((cnt (bC 0 (bs.take k)) (X:Int):Nat):Int)+1))) [.cel (aG (aH I (bC 0 (bs.take k)++[(X:Int)]))) (.slice (some ⟨g1,0,none⟩) I I),.cel (aG (aH on (bC 1 (bs.take k)))) (.slice (some ⟨g2,0,none⟩) on on),.cel (aG (aH sn (dw (bs.take k)))) (.slice (some ⟨g3,0,none⟩) sn sn),.cel (aG (aH ln (eZ (bs.take k)))) (.slice (some ⟨g4,0,none⟩) ln ln),.blk wo.heap.size #[.int .i64 0,.int .i64 (X:Int),.slice EA G ec] 89]):=aN
      clear aN
      have bk:Hid ((dw (bs.take k)).length<=1000):=by show _<=_;have:=bm.out;(try rw [List.length_append,List.length_singleton]);omega
      have bf:Hid ((eZ (bs.take k)).length<=1000):=by show _<=_;have:=bT.out;omega
      obtain ⟨XB,a4⟩:∃XB,bC 0 (bs.take k)++[(X:Int)]=XB:=⟨_,rfl⟩
      obtain ⟨YB,a5⟩:∃YB,bC 1 (bs.take k)=YB:=⟨_,rfl⟩
      obtain ⟨K,a2⟩:∃K,dw (bs.take k)=K:=⟨_,rfl⟩
      obtain ⟨LB,a3⟩:∃LB,eZ (bs.take k)=LB:=⟨_,rfl⟩
      rw [a4,a5,a2,a3] at a9
      rw [a4] at az
      rw [a5] at ap
      rw [a2] at aw bk
      rw [a3] at av bf
      obtain ⟨bS,bQ,bP,bO⟩:=hd4 az ap aw av
      clear az ap aw av a4 a5 a2 a3
      generalize cnt (bC 0 (bs.take k)) (X:Int)=q at *
      have iq:q<=10000:=by have:=bm.out;omega
      have iX:(X:Int)<(I:Int):=by omega
      clear b7
      obtain ⟨y0,y1,ly⟩:=fZ (a7.out.blk 4 rfl).1
      clear b4 aY aZ aE
      go_upto_region 20 with fail
      clear y0 y1 ly cX fX lX
      go_wp2_with fail
      go_loopw [11] (fun i wr=>∃j:Nat,j<=G/\i = .int .i64 (j:Int)/\aJ H wr [.cel (aG (aH I (XB))) (.slice (some ⟨g1,0,none⟩) I I),.cel (aG (aH on (YB))) (.slice (some ⟨g2,0,none⟩) on on),.cel (aG (aH sn (K++bV (es.take j)))) (.slice (some ⟨g3,0,none⟩) sn sn),.cel (aG (aH ln (LB++ax (es.take j)))) (.slice (some ⟨g4,0,none⟩) ln ln),.blk wo.heap.size #[.int .i64 0,.int .i64 (X:Int),.slice EA G ec] 89]) (fun i _=>G - (intOf i).toNat)
      ·exact ⟨0,by omega,rfl,by rw [List.take_zero];simpa [bV,ax] using a9.out⟩
      obtain ⟨j,hj,rfl,hs⟩:=hrel
      have Z:=Hd hs
      clear hs
      obtain ⟨-,-,y2,ly⟩:=jU (Z.out.blk 4 rfl).1
      by_cases bo:j<G
      ·have bE:=dT (by omega:j<G)
       have aB:j<es.length:=by rw [bq.out];exact bo
       obtain ⟨be,oe,bj,B,c0,c1⟩:=HE.out.es (k:=j) aB
       have bM:=Hd bj
       have aU:=ck.out _ (List.getElem_mem aB)
       have u:=kK (es.take j) (es[j]?.getD LeT.zero)
       have D:=jW (es.take j) (es[j]?.getD LeT.zero)
       rw [←bN aB] at u D
       have am:=kw (es.take j)
       have ao:=ji (es.take j)
       rw [List.length_take] at am ao
       rw [show es[j]=es[j]?.getD LeT.zero by rw [List.getElem?_eq_getElem aB];rfl] at aU
       have R:=aU.lut.2
       have af:=aU.ff.2
       rw [b9.out] at R
       rw [b3.out] at af
       have Q:=cf.out
       have aR:=bk.out
       have aS:=bf.out
       clear aU aB bj
       generalize es[j]?.getD LeT.zero=e at *
       obtain ⟨a,b⟩:=e
       simp only at R af u D c0 c1
       obtain ⟨i0,i1⟩:=ib (by omega:j<G)
       have aq:=fC (K++bV (es.take j)) b
       have ay:=fC (LB++ax (es.take j)) a
       rw [List.length_append] at aq ay
       obtain ⟨bh,bl⟩:=hd2 c0 c1
       have g:=aA aL.out Z.out.bel
       have aV:=aK g B
       rw [←g.cell (p:=⟨be,oe+j * 2,none⟩) B] at c0
       rw [←g.cell (p:=⟨be,oe+j * 2+1,none⟩) B] at c1
       clear g
       obtain rfl:=bM.out
       by_cases ha:0<=a
       ·have da:decide (a≥0)=true:=decide_eq_true ha
        rw [if_pos ha] at D
        obtain ⟨V,rfl⟩:=Int.eq_ofNat_of_zero_le ha
        have bH:V<ln:=by omega
        obtain ⟨cX,fX,lX,aN⟩:=eP Z.out 3 rfl bH
        have z:Hid (aJ H (wr.setCell ⟨g4,V,none⟩ (.int .i64 (((cnt (LB++ax (es.take j)) (V:Int):Nat):Int)+1))) [.cel (aG (aH I (XB))) (.slice (some ⟨g1,0,none⟩) I I),.cel (aG (aH on (YB))) (.slice (some ⟨g2,0,none⟩) on on),.cel (aG (aH sn (K++bV (es.take j)))) (.slice (some ⟨g3,0,none⟩) sn sn),.cel (aG (aH ln (LB++ax (es.take (j+1))))) (.slice (some ⟨g4,0,none⟩) ln ln),.blk wo.heap.size #[.int .i64 0,.int .i64 (X:Int),.slice (some ⟨be,oe,none⟩) G ec] 89]):=by
         show aJ H _ _
         rw [D,←List.append_assoc]
         exact aN
        clear aN D
        generalize cnt (LB++ax (es.take j)) (V:Int)=bd at *
        have iX:(V:Int)<(ln:Int):=by omega
        have cA:bd<=10000:=by omega
        go_upto_region 25 with fail
        clear c0 c1 y2 ly aV cX fX lX
        generalize wr.setCell ⟨g4,V,none⟩ (.int .i64 ((bd:Int)+1))=W1 at *
        have g:=aA aL.out z.out.bel
        have aV:=aK g B
        have c0:=(g.cell (p:=⟨be,oe+j * 2,none⟩) B).trans bh.out
        have c1:=(g.cell (p:=⟨be,oe+j * 2+1,none⟩) B).trans bl.out
        obtain ⟨-,-,y2,ly⟩:=jU (z.out.blk 4 rfl).1
        clear g
        by_cases hb:0<=b
        ·have db:decide (b≥0)=true:=decide_eq_true hb
         rw [if_pos hb] at u
         obtain ⟨Y,rfl⟩:=Int.eq_ofNat_of_zero_le hb
         have a1:Y<sn:=by omega
         obtain ⟨cY,fY,lY,ar⟩:=eP z.out 2 rfl a1
         have J:Hid (aJ H (W1.setCell ⟨g3,Y,none⟩ (.int .i64 (((cnt (K++bV (es.take j)) (Y:Int):Nat):Int)+1))) [.cel (aG (aH I (XB))) (.slice (some ⟨g1,0,none⟩) I I),.cel (aG (aH on (YB))) (.slice (some ⟨g2,0,none⟩) on on),.cel (aG (aH sn (K++bV (es.take (j+1))))) (.slice (some ⟨g3,0,none⟩) sn sn),.cel (aG (aH ln (LB++ax (es.take (j+1))))) (.slice (some ⟨g4,0,none⟩) ln ln),.blk wo.heap.size #[.int .i64 0,.int .i64 (X:Int),.slice (some ⟨be,oe,none⟩) G ec] 89]):=by
          show aJ H _ _
          rw [u,←List.append_assoc]
          exact ar
         clear ar u
         generalize cnt (K++bV (es.take j)) (Y:Int)=a0 at *
         have iY:(Y:Int)<(sn:Int):=by omega
         have bR:a0<=10000:=by omega
         clear aq ay am ao Q aR aS R af
         go_wp2_with fail
         go_roundw
         ·exact ⟨j+1,by omega,by go_num,J.out⟩
         simp [intOf];omega
        have db:decide (b≥0)=false:=decide_eq_false hb
        rw [if_neg hb,List.append_nil] at u
        have J:Hid (aJ H W1 [.cel (aG (aH I (XB))) (.slice (some ⟨g1,0,none⟩) I I),.cel (aG (aH on (YB))) (.slice (some ⟨g2,0,none⟩) on on),.cel (aG (aH sn (K++bV (es.take (j+1))))) (.slice (some ⟨g3,0,none⟩) sn sn),.cel (aG (aH ln (LB++ax (es.take (j+1))))) (.slice (some ⟨g4,0,none⟩) ln ln),.blk wo.heap.size #[.int .i64 0,.int .i64 (X:Int),.slice (some ⟨be,oe,none⟩) G ec] 89]):=by
         show aJ H _ _
         rw [u]
         exact z.out
        clear u aq ay am ao Q aR aS R af
        go_wp2_with fail
        go_roundw
        ·exact ⟨j+1,by omega,by go_num,J.out⟩
        simp [intOf];omega
       have da:decide (a≥0)=false:=decide_eq_false ha
       rw [if_neg ha,List.append_nil] at D
       have z:Hid (aJ H wr [.cel (aG (aH I (XB))) (.slice (some ⟨g1,0,none⟩) I I),.cel (aG (aH on (YB))) (.slice (some ⟨g2,0,none⟩) on on),.cel (aG (aH sn (K++bV (es.take j)))) (.slice (some ⟨g3,0,none⟩) sn sn),.cel (aG (aH ln (LB++ax (es.take (j+1))))) (.slice (some ⟨g4,0,none⟩) ln ln),.blk wo.heap.size #[.int .i64 0,.int .i64 (X:Int),.slice (some ⟨be,oe,none⟩) G ec] 89]):=by
        show aJ H _ _
        rw [D]
        exact Z.out
       clear D
       go_upto_region 25 with fail
       clear c0 c1 y2 ly aV
       have g:=aA aL.out z.out.bel
       have aV:=aK g B
       have c0:=(g.cell (p:=⟨be,oe+j * 2,none⟩) B).trans bh.out
       have c1:=(g.cell (p:=⟨be,oe+j * 2+1,none⟩) B).trans bl.out
       obtain ⟨-,-,y2,ly⟩:=jU (z.out.blk 4 rfl).1
       clear g
       by_cases hb:0<=b
       ·have db:decide (b≥0)=true:=decide_eq_true hb
        rw [if_pos hb] at u
        obtain ⟨Y,rfl⟩:=Int.eq_ofNat_of_zero_le hb
        have a1:Y<sn:=by omega
        obtain ⟨cY,fY,lY,ar⟩:=eP z.out 2 rfl a1
        have J:Hid (aJ H (wr.setCell ⟨g3,Y,none⟩ (.int .i64 (((cnt (K++bV (es.take j)) (Y:Int):Nat):Int)+1))) [.cel (aG (aH I (XB))) (.slice (some ⟨g1,0,none⟩) I I),.cel (aG (aH on (YB))) (.slice (some ⟨g2,0,none⟩) on on),.cel (aG (aH sn (K++bV (es.take (j+1))))) (.slice (some ⟨g3,0,none⟩) sn sn),.cel (aG (aH ln (LB++ax (es.take (j+1))))) (.slice (some ⟨g4,0,none⟩) ln ln),.blk wo.heap.size #[.int .i64 0,.int .i64 (X:Int),.slice (some ⟨be,oe,none⟩) G ec] 89]):=by
         show aJ H _ _
         rw [u,←List.append_assoc]
         exact ar
        clear ar u
        generalize cnt (K++bV (es.take j)) (Y:Int)=a0 at *
        have iY:(Y:Int)<(sn:Int):=by omega
        have bR:a0<=10000:=by omega
        clear aq ay am ao Q aR aS R af
        go_wp2_with fail
        go_roundw
        ·exact ⟨j+1,by omega,by go_num,J.out⟩
        simp [intOf];omega
       have db:decide (b≥0)=false:=decide_eq_false hb
       rw [if_neg hb,List.append_nil] at u
       have J:Hid (aJ H wr [.cel (aG (aH I (XB))) (.slice (some ⟨g1,0,none⟩) I I),.cel (aG (aH on (YB))) (.slice (some ⟨g2,0,none⟩) on on),.cel (aG (aH sn (K++bV (es.take (j+1))))) (.slice (some ⟨g3,0,none⟩) sn sn),.cel (aG (aH ln (LB++ax (es.take (j+1))))) (.slice (some ⟨g4,0,none⟩) ln ln),.blk wo.heap.size #[.int .i64 0,.int .i64 (X:Int),.slice (some ⟨be,oe,none⟩) G ec] 89]):=by
        show aJ H _ _
        rw [u]
        exact z.out
       clear u aq ay am ao Q aR aS R af
       go_wp2_with fail
       go_roundw
       ·exact ⟨j+1,by omega,by go_num,J.out⟩
       simp [intOf];omega
      have bg:j=G:=by omega
      have bE:=dF (by omega:G<=j)
      have HD:Hid (aJ H wr [.cel (aG (aH I (XB))) (.slice (some ⟨g1,0,none⟩) I I),.cel (aG (aH on (YB))) (.slice (some ⟨g2,0,none⟩) on on),.cel (aG (aH sn (K++bV es))) (.slice (some ⟨g3,0,none⟩) sn sn),.cel (aG (aH ln (LB++ax es))) (.slice (some ⟨g4,0,none⟩) ln ln),.blk wo.heap.size #[.int .i64 0,.int .i64 (X:Int),.slice EA G ec] 89]):=by
       have h:=Z.out
       show aJ H _ _
       rwa [bg,List.take_of_length_le (by rw [bq.out];exact Nat.le_refl _)] at h
      clear Z bg
      go_wp2_with fail
      go_roundw
      ·exact ⟨k+1,by omega,by go_num,by rw [bS.out,bQ.out,bP.out,bO.out];exact HD.out.sub (List.sublist_append_left _ [_]),b5.out⟩
      simp [intOf];omega
     ·subst dD
      have cj:=oO.1 aE.1
      rw [cT.out] at cj
      obtain ⟨X,rfl⟩:∃X:Nat,it=(X:Int):=⟨it.toNat,by omega⟩
      have hX:X<on:=by have:=co.out;omega
      have az:=dX 0 (bs.take k) ⟨1,(X:Int),es⟩
      have ap:=dX 1 (bs.take k) ⟨1,(X:Int),es⟩
      have aw:=jY (bs.take k) ⟨1,(X:Int),es⟩
      have av:=jX (bs.take k) ⟨1,(X:Int),es⟩
      rw [←bI.out] at az ap aw av
      simp only [Int.reduceEq,reduceIte,List.append_nil] at az ap aw av
      have aY:=eU 0 (bs.take k)
      have aZ:=eU 1 (bs.take k)
      rw [List.length_take] at aY aZ
      obtain ⟨cX,fX,lX,aN⟩:=eP a7.out 1 rfl hX
      have b7:=fC (bC 1 (bs.take k)) (X:Int)
      have a9:Hid (aJ H (w4.setCell ⟨g2,X,none⟩ (.int .i64 (((cnt (bC 1 (bs.take k)) (X:Int):Nat):Int)+1))) [.cel (aG (aH I (bC 0 (bs.take k)))) (.slice (some ⟨g1,0,none⟩) I I),.cel (aG (aH on (bC 1 (bs.take k)++[(X:Int)]))) (.slice (some ⟨g2,0,none⟩) on on),.cel (aG (aH sn (dw (bs.take k)))) (.slice (some ⟨g3,0,none⟩) sn sn),.cel (aG (aH ln (eZ (bs.take k)))) (.slice (some ⟨g4,0,none⟩) ln ln),.blk wo.heap.size #[.int .i64 1,.int .i64 (X:Int),.slice EA G ec] 89]):=aN
      clear aN
      have bk:Hid ((dw (bs.take k)).length<=1000):=by show _<=_;have:=bm.out;(try rw [List.length_append,List.length_singleton]);omega
      have bf:Hid ((eZ (bs.take k)).length<=1000):=by show _<=_;have:=bT.out;omega
      obtain ⟨XB,a4⟩:∃XB,bC 0 (bs.take k)=XB:=⟨_,rfl⟩
      obtain ⟨YB,a5⟩:∃YB,bC 1 (bs.take k)++[(X:Int)]=YB:=⟨_,rfl⟩
      obtain ⟨K,a2⟩:∃K,dw (bs.take k)=K:=⟨_,rfl⟩
      obtain ⟨LB,a3⟩:∃LB,eZ (bs.take k)=LB:=⟨_,rfl⟩
      rw [a4,a5,a2,a3] at a9
      rw [a4] at az
      rw [a5] at ap
      rw [a2] at aw bk
      rw [a3] at av bf
      obtain ⟨bS,bQ,bP,bO⟩:=hd4 az ap aw av
      clear az ap aw av a4 a5 a2 a3
      generalize cnt (bC 1 (bs.take k)) (X:Int)=q at *
      have iq:q<=10000:=by have:=bm.out;omega
      have iX:(X:Int)<(on:Int):=by omega
      clear b7
      obtain ⟨y0,y1,ly⟩:=fZ (a7.out.blk 4 rfl).1
      clear b4 aY aZ aE
      go_upto_region 20 with fail
      clear y0 y1 ly cX fX lX
      go_wp2_with fail
      go_loopw [11] (fun i wr=>∃j:Nat,j<=G/\i = .int .i64 (j:Int)/\aJ H wr [.cel (aG (aH I (XB))) (.slice (some ⟨g1,0,none⟩) I I),.cel (aG (aH on (YB))) (.slice (some ⟨g2,0,none⟩) on on),.cel (aG (aH sn (K++bV (es.take j)))) (.slice (some ⟨g3,0,none⟩) sn sn),.cel (aG (aH ln (LB++ax (es.take j)))) (.slice (some ⟨g4,0,none⟩) ln ln),.blk wo.heap.size #[.int .i64 1,.int .i64 (X:Int),.slice EA G ec] 89]) (fun i _=>G - (intOf i).toNat)
      ·exact ⟨0,by omega,rfl,by rw [List.take_zero];simpa [bV,ax] using a9.out⟩
      obtain ⟨j,hj,rfl,hs⟩:=hrel
      have Z:=Hd hs
      clear hs
      obtain ⟨-,-,y2,ly⟩:=jU (Z.out.blk 4 rfl).1
      by_cases bo:j<G
      ·have bE:=dT (by omega:j<G)
       have aB:j<es.length:=by rw [bq.out];exact bo
       obtain ⟨be,oe,bj,B,c0,c1⟩:=HE.out.es (k:=j) aB
       have bM:=Hd bj
       have aU:=ck.out _ (List.getElem_mem aB)
       have u:=kK (es.take j) (es[j]?.getD LeT.zero)
       have D:=jW (es.take j) (es[j]?.getD LeT.zero)
       rw [←bN aB] at u D
       have am:=kw (es.take j)
       have ao:=ji (es.take j)
       rw [List.length_take] at am ao
       rw [show es[j]=es[j]?.getD LeT.zero by rw [List.getElem?_eq_getElem aB];rfl] at aU
       have R:=aU.lut.2
       have af:=aU.ff.2
       rw [b9.out] at R
       rw [b3.out] at af
       have Q:=cf.out
       have aR:=bk.out
       have aS:=bf.out
       clear aU aB bj
       generalize es[j]?.getD LeT.zero=e at *
       obtain ⟨a,b⟩:=e
       simp only at R af u D c0 c1
       obtain ⟨i0,i1⟩:=ib (by omega:j<G)
       have aq:=fC (K++bV (es.take j)) b
       have ay:=fC (LB++ax (es.take j)) a
       rw [List.length_append] at aq ay
       obtain ⟨bh,bl⟩:=hd2 c0 c1
       have g:=aA aL.out Z.out.bel
       have aV:=aK g B
       rw [←g.cell (p:=⟨be,oe+j * 2,none⟩) B] at c0
       rw [←g.cell (p:=⟨be,oe+j * 2+1,none⟩) B] at c1
       clear g
       obtain rfl:=bM.out
       by_cases ha:0<=a
       ·have da:decide (a≥0)=true:=decide_eq_true ha
        rw [if_pos ha] at D
        obtain ⟨V,rfl⟩:=Int.eq_ofNat_of_zero_le ha
        have bH:V<ln:=by omega
        obtain ⟨cX,fX,lX,aN⟩:=eP Z.out 3 rfl bH
        have z:Hid (aJ H (wr.setCell ⟨g4,V,none⟩ (.int .i64 (((cnt (LB++ax (es.take j)) (V:Int):Nat):Int)+1))) [.cel (aG (aH I (XB))) (.slice (some ⟨g1,0,none⟩) I I),.cel (aG (aH on (YB))) (.slice (some ⟨g2,0,none⟩) on on),.cel (aG (aH sn (K++bV (es.take j)))) (.slice (some ⟨g3,0,none⟩) sn sn),.cel (aG (aH ln (LB++ax (es.take (j+1))))) (.slice (some ⟨g4,0,none⟩) ln ln),.blk wo.heap.size #[.int .i64 1,.int .i64 (X:Int),.slice (some ⟨be,oe,none⟩) G ec] 89]):=by
         show aJ H _ _
         rw [D,←List.append_assoc]
         exact aN
        clear aN D
        generalize cnt (LB++ax (es.take j)) (V:Int)=bd at *
        have iX:(V:Int)<(ln:Int):=by omega
        have cA:bd<=10000:=by omega
        go_upto_region 25 with fail
        clear c0 c1 y2 ly aV cX fX lX
        generalize wr.setCell ⟨g4,V,none⟩ (.int .i64 ((bd:Int)+1))=W1 at *
        have g:=aA aL.out z.out.bel
        have aV:=aK g B
        have c0:=(g.cell (p:=⟨be,oe+j * 2,none⟩) B).trans bh.out
        have c1:=(g.cell (p:=⟨be,oe+j * 2+1,none⟩) B).trans bl.out
        obtain ⟨-,-,y2,ly⟩:=jU (z.out.blk 4 rfl).1
        clear g
        by_cases hb:0<=b
        ·have db:decide (b≥0)=true:=decide_eq_true hb
         rw [if_pos hb] at u
         obtain ⟨Y,rfl⟩:=Int.eq_ofNat_of_zero_le hb
         have a1:Y<sn:=by omega
         obtain ⟨cY,fY,lY,ar⟩:=eP z.out 2 rfl a1
         have J:Hid (aJ H (W1.setCell ⟨g3,Y,none⟩ (.int .i64 (((cnt (K++bV (es.take j)) (Y:Int):Nat):Int)+1))) [.cel (aG (aH I (XB))) (.slice (some ⟨g1,0,none⟩) I I),.cel (aG (aH on (YB))) (.slice (some ⟨g2,0,none⟩) on on),.cel (aG (aH sn (K++bV (es.take (j+1))))) (.slice (some ⟨g3,0,none⟩) sn sn),.cel (aG (aH ln (LB++ax (es.take (j+1))))) (.slice (some ⟨g4,0,none⟩) ln ln),.blk wo.heap.size #[.int .i64 1,.int .i64 (X:Int),.slice (some ⟨be,oe,none⟩) G ec] 89]):=by
          show aJ H _ _
          rw [u,←List.append_assoc]
          exact ar
         clear ar u
         generalize cnt (K++bV (es.take j)) (Y:Int)=a0 at *
         have iY:(Y:Int)<(sn:Int):=by omega
         have bR:a0<=10000:=by omega
         clear aq ay am ao Q aR aS R af
         go_wp2_with fail
         go_roundw
         ·exact ⟨j+1,by omega,by go_num,J.out⟩
         simp [intOf];omega
        have db:decide (b≥0)=false:=decide_eq_false hb
        rw [if_neg hb,List.append_nil] at u
        have J:Hid (aJ H W1 [.cel (aG (aH I (XB))) (.slice (some ⟨g1,0,none⟩) I I),.cel (aG (aH on (YB))) (.slice (some ⟨g2,0,none⟩) on on),.cel (aG (aH sn (K++bV (es.take (j+1))))) (.slice (some ⟨g3,0,none⟩) sn sn),.cel (aG (aH ln (LB++ax (es.take (j+1))))) (.slice (some ⟨g4,0,none⟩) ln ln),.blk wo.heap.size #[.int .i64 1,.int .i64 (X:Int),.slice (some ⟨be,oe,none⟩) G ec] 89]):=by
         show aJ H _ _
         rw [u]
         exact z.out
        clear u aq ay am ao Q aR aS R af
        go_wp2_with fail
        go_roundw
        ·exact ⟨j+1,by omega,by go_num,J.out⟩
        simp [intOf];omega
       have da:decide (a≥0)=false:=decide_eq_false ha
       rw [if_neg ha,List.append_nil] at D
       have z:Hid (aJ H wr [.cel (aG (aH I (XB))) (.slice (some ⟨g1,0,none⟩) I I),.cel (aG (aH on (YB))) (.slice (some ⟨g2,0,none⟩) on on),.cel (aG (aH sn (K++bV (es.take j)))) (.slice (some ⟨g3,0,none⟩) sn sn),.cel (aG (aH ln (LB++ax (es.take (j+1))))) (.slice (some ⟨g4,0,none⟩) ln ln),.blk wo.heap.size #[.int .i64 1,.int .i64 (X:Int),.slice (some ⟨be,oe,none⟩) G ec] 89]):=by
        show aJ H _ _
        rw [D]
        exact Z.out
       clear D
       go_upto_region 25 with fail
       clear c0 c1 y2 ly aV
       have g:=aA aL.out z.out.bel
       have aV:=aK g B
       have c0:=(g.cell (p:=⟨be,oe+j * 2,none⟩) B).trans bh.out
       have c1:=(g.cell (p:=⟨be,oe+j * 2+1,none⟩) B).trans bl.out
       obtain ⟨-,-,y2,ly⟩:=jU (z.out.blk 4 rfl).1
       clear g
       by_cases hb:0<=b
       ·have db:decide (b≥0)=true:=decide_eq_true hb
        rw [if_pos hb] at u
        obtain ⟨Y,rfl⟩:=Int.eq_ofNat_of_zero_le hb
        have a1:Y<sn:=by omega
        obtain ⟨cY,fY,lY,ar⟩:=eP z.out 2 rfl a1
        have J:Hid (aJ H (wr.setCell ⟨g3,Y,none⟩ (.int .i64 (((cnt (K++bV (es.take j)) (Y:Int):Nat):Int)+1))) [.cel (aG (aH I (XB))) (.slice (some ⟨g1,0,none⟩) I I),.cel (aG (aH on (YB))) (.slice (some ⟨g2,0,none⟩) on on),.cel (aG (aH sn (K++bV (es.take (j+1))))) (.slice (some ⟨g3,0,none⟩) sn sn),.cel (aG (aH ln (LB++ax (es.take (j+1))))) (.slice (some ⟨g4,0,none⟩) ln ln),.blk wo.heap.size #[.int .i64 1,.int .i64 (X:Int),.slice (some ⟨be,oe,none⟩) G ec] 89]):=by
         show aJ H _ _
         rw [u,←List.append_assoc]
         exact ar
        clear ar u
        generalize cnt (K++bV (es.take j)) (Y:Int)=a0 at *
        have iY:(Y:Int)<(sn:Int):=by omega
        have bR:a0<=10000:=by omega
        clear aq ay am ao Q aR aS R af
        go_wp2_with fail
        go_roundw
        ·exact ⟨j+1,by omega,by go_num,J.out⟩
        simp [intOf];omega
       have db:decide (b≥0)=false:=decide_eq_false hb
       rw [if_neg hb,List.append_nil] at u
       have J:Hid (aJ H wr [.cel (aG (aH I (XB))) (.slice (some ⟨g1,0,none⟩) I I),.cel (aG (aH on (YB))) (.slice (some ⟨g2,0,none⟩) on on),.cel (aG (aH sn (K++bV (es.take (j+1))))) (.slice (some ⟨g3,0,none⟩) sn sn),.cel (aG (aH ln (LB++ax (es.take (j+1))))) (.slice (some ⟨g4,0,none⟩) ln ln),.blk wo.heap.size #[.int .i64 1,.int .i64 (X:Int),.slice (some ⟨be,oe,none⟩) G ec] 89]):=by
        show aJ H _ _
        rw [u]
        exact z.out
       clear u aq ay am ao Q aR aS R af
       go_wp2_with fail
       go_roundw
       ·exact ⟨j+1,by omega,by go_num,J.out⟩
       simp [intOf];omega
      have bg:j=G:=by omega
      have bE:=dF (by omega:G<=j)
      have HD:Hid (aJ H wr [.cel (aG (aH I (XB))) (.slice (some ⟨g1,0,none⟩) I I),.cel (aG (aH on (YB))) (.slice (some ⟨g2,0,none⟩) on on),.cel (aG (aH sn (K++bV es))) (.slice (some ⟨g3,0,none⟩) sn sn),.cel (aG (aH ln (LB++ax es))) (.slice (some ⟨g4,0,none⟩) ln ln),.blk wo.heap.size #[.int .i64 1,.int .i64 (X:Int),.slice EA G ec] 89]):=by
       have h:=Z.out
       show aJ H _ _
       rwa [bg,List.take_of_length_le (by rw [bq.out];exact Nat.le_refl _)] at h
      clear Z bg
      go_wp2_with fail
      go_roundw
      ·exact ⟨k+1,by omega,by go_num,by rw [bS.out,bQ.out,bP.out,bO.out];exact HD.out.sub (List.sublist_append_left _ [_]),b5.out⟩
      simp [intOf];omega
     ·subst dl
      have cj:=il.1 aE.1
      rw [b3.out] at cj
      obtain ⟨X,rfl⟩:∃X:Nat,it=(X:Int):=⟨it.toNat,by omega⟩
      have hX:X<sn:=by have:=co.out;omega
      have az:=dX 0 (bs.take k) ⟨2,(X:Int),es⟩
      have ap:=dX 1 (bs.take k) ⟨2,(X:Int),es⟩
      have aw:=jY (bs.take k) ⟨2,(X:Int),es⟩
      have av:=jX (bs.take k) ⟨2,(X:Int),es⟩
      rw [←bI.out] at az ap aw av
      simp only [Int.reduceEq,reduceIte,List.append_nil] at az ap aw av
      have aY:=eU 0 (bs.take k)
      have aZ:=eU 1 (bs.take k)
      rw [List.length_take] at aY aZ
      obtain ⟨cX,fX,lX,aN⟩:=eP a7.out 2 rfl hX
      have b7:=fC (dw (bs.take k)) (X:Int)
      have a9:Hid (aJ H (w4.setCell ⟨g3,X,none⟩ (.int .i64 (((cnt (dw (bs.take k)) (X:Int):Nat):Int)+1))) [.cel (aG (aH I (bC 0 (bs.take k)))) (.slice (some ⟨g1,0,none⟩) I I),.cel (aG (aH on (bC 1 (bs.take k)))) (.slice (some ⟨g2,0,none⟩) on on),.cel (aG (aH sn (dw (bs.take k)++[(X:Int)]))) (.slice (some ⟨g3,0,none⟩) sn sn),.cel (aG (aH ln (eZ (bs.take k)))) (.slice (some ⟨g4,0,none⟩) ln ln),.blk wo.heap.size #[.int .i64 2,.int .i64 (X:Int),.slice EA G ec] 89]):=aN
      clear aN
      have bk:Hid ((dw (bs.take k)++[(X:Int)]).length<=1000):=by show _<=_;have:=bm.out;(try rw [List.length_append,List.length_singleton]);omega
      have bf:Hid ((eZ (bs.take k)).length<=1000):=by show _<=_;have:=bT.out;omega
      obtain ⟨XB,a4⟩:∃XB,bC 0 (bs.take k)=XB:=⟨_,rfl⟩
      obtain ⟨YB,a5⟩:∃YB,bC 1 (bs.take k)=YB:=⟨_,rfl⟩
      obtain ⟨K,a2⟩:∃K,dw (bs.take k)++[(X:Int)]=K:=⟨_,rfl⟩
      obtain ⟨LB,a3⟩:∃LB,eZ (bs.take k)=LB:=⟨_,rfl⟩
      rw [a4,a5,a2,a3] at a9
      rw [a4] at az
      rw [a5] at ap
      rw [a2] at aw bk
      rw [a3] at av bf
      obtain ⟨bS,bQ,bP,bO⟩:=hd4 az ap aw av
      clear az ap aw av a4 a5 a2 a3
      generalize cnt (dw (bs.take k)) (X:Int)=q at *
      have iq:q<=10000:=by have:=bm.out;omega
      have iX:(X:Int)<(sn:Int):=by omega
      clear b7
      obtain ⟨y0,y1,ly⟩:=fZ (a7.out.blk 4 rfl).1
      clear b4 aY aZ aE
      go_upto_region 20 with fail
      clear y0 y1 ly cX fX lX
      go_wp2_with fail
      go_loopw [11] (fun i wr=>∃j:Nat,j<=G/\i = .int .i64 (j:Int)/\aJ H wr [.cel (aG (aH I (XB))) (.slice (some ⟨g1,0,none⟩) I I),.cel (aG (aH on (YB))) (.slice (some ⟨g2,0,none⟩) on on),.cel (aG (aH sn (K++bV (es.take j)))) (.slice (some ⟨g3,0,none⟩) sn sn),.cel (aG (aH ln (LB++ax (es.take j)))) (.slice (some ⟨g4,0,none⟩) ln ln),.blk wo.heap.size #[.int .i64 2,.int .i64 (X:Int),.slice EA G ec] 89]) (fun i _=>G - (intOf i).toNat)
      ·exact ⟨0,by omega,rfl,by rw [List.take_zero];simpa [bV,ax] using a9.out⟩
      obtain ⟨j,hj,rfl,hs⟩:=hrel
      have Z:=Hd hs
      clear hs
      obtain ⟨-,-,y2,ly⟩:=jU (Z.out.blk 4 rfl).1
      by_cases bo:j<G
      ·have bE:=dT (by omega:j<G)
       have aB:j<es.length:=by rw [bq.out];exact bo
       obtain ⟨be,oe,bj,B,c0,c1⟩:=HE.out.es (k:=j) aB
       have bM:=Hd bj
       have aU:=ck.out _ (List.getElem_mem aB)
       have u:=kK (es.take j) (es[j]?.getD LeT.zero)
       have D:=jW (es.take j) (es[j]?.getD LeT.zero)
       rw [←bN aB] at u D
       have am:=kw (es.take j)
       have ao:=ji (es.take j)
       rw [List.length_take] at am ao
       rw [show es[j]=es[j]?.getD LeT.zero by rw [List.getElem?_eq_getElem aB];rfl] at aU
       have R:=aU.lut.2
       have af:=aU.ff.2
       rw [b9.out] at R
       rw [b3.out] at af
       have Q:=cf.out
       have aR:=bk.out
       have aS:=bf.out
       clear aU aB bj
       generalize es[j]?.getD LeT.zero=e at *
       obtain ⟨a,b⟩:=e
       simp only at R af u D c0 c1
       obtain ⟨i0,i1⟩:=ib (by omega:j<G)
       have aq:=fC (K++bV (es.take j)) b
       have ay:=fC (LB++ax (es.take j)) a
       rw [List.length_append] at aq ay
       obtain ⟨bh,bl⟩:=hd2 c0 c1
       have g:=aA aL.out Z.out.bel
       have aV:=aK g B
       rw [←g.cell (p:=⟨be,oe+j * 2,none⟩) B] at c0
       rw [←g.cell (p:=⟨be,oe+j * 2+1,none⟩) B] at c1
       clear g
       obtain rfl:=bM.out
       by_cases ha:0<=a
       ·have da:decide (a≥0)=true:=decide_eq_true ha
        rw [if_pos ha] at D
        obtain ⟨V,rfl⟩:=Int.eq_ofNat_of_zero_le ha
        have bH:V<ln:=by omega
        obtain ⟨cX,fX,lX,aN⟩:=eP Z.out 3 rfl bH
        have z:Hid (aJ H (wr.setCell ⟨g4,V,none⟩ (.int .i64 (((cnt (LB++ax (es.take j)) (V:Int):Nat):Int)+1))) [.cel (aG (aH I (XB))) (.slice (some ⟨g1,0,none⟩) I I),.cel (aG (aH on (YB))) (.slice (some ⟨g2,0,none⟩) on on),.cel (aG (aH sn (K++bV (es.take j)))) (.slice (some ⟨g3,0,none⟩) sn sn),.cel (aG (aH ln (LB++ax (es.take (j+1))))) (.slice (some ⟨g4,0,none⟩) ln ln),.blk wo.heap.size #[.int .i64 2,.int .i64 (X:Int),.slice (some ⟨be,oe,none⟩) G ec] 89]):=by
         show aJ H _ _
         rw [D,←List.append_assoc]
         exact aN
        clear aN D
        generalize cnt (LB++ax (es.take j)) (V:Int)=bd at *
        have iX:(V:Int)<(ln:Int):=by omega
        have cA:bd<=10000:=by omega
        go_upto_region 25 with fail
        clear c0 c1 y2 ly aV cX fX lX
        generalize wr.setCell ⟨g4,V,none⟩ (.int .i64 ((bd:Int)+1))=W1 at *
        have g:=aA aL.out z.out.bel
        have aV:=aK g B
        have c0:=(g.cell (p:=⟨be,oe+j * 2,none⟩) B).trans bh.out
        have c1:=(g.cell (p:=⟨be,oe+j * 2+1,none⟩) B).trans bl.out
        obtain ⟨-,-,y2,ly⟩:=jU (z.out.blk 4 rfl).1
        clear g
        by_cases hb:0<=b
        ·have db:decide (b≥0)=true:=decide_eq_true hb
         rw [if_pos hb] at u
         obtain ⟨Y,rfl⟩:=Int.eq_ofNat_of_zero_le hb
         have a1:Y<sn:=by omega
         obtain ⟨cY,fY,lY,ar⟩:=eP z.out 2 rfl a1
         have J:Hid (aJ H (W1.setCell ⟨g3,Y,none⟩ (.int .i64 (((cnt (K++bV (es.take j)) (Y:Int):Nat):Int)+1))) [.cel (aG (aH I (XB))) (.slice (some ⟨g1,0,none⟩) I I),.cel (aG (aH on (YB))) (.slice (some ⟨g2,0,none⟩) on on),.cel (aG (aH sn (K++bV (es.take (j+1))))) (.slice (some ⟨g3,0,none⟩) sn sn),.cel (aG (aH ln (LB++ax (es.take (j+1))))) (.slice (some ⟨g4,0,none⟩) ln ln),.blk wo.heap.size #[.int .i64 2,.int .i64 (X:Int),.slice (some ⟨be,oe,none⟩) G ec] 89]):=by
          show aJ H _ _
          rw [u,←List.append_assoc]
          exact ar
         clear ar u
         generalize cnt (K++bV (es.take j)) (Y:Int)=a0 at *
         have iY:(Y:Int)<(sn:Int):=by omega
         have bR:a0<=10000:=by omega
         clear aq ay am ao Q aR aS R af
         go_wp2_with fail
         go_roundw
         ·exact ⟨j+1,by omega,by go_num,J.out⟩
         simp [intOf];omega
        have db:decide (b≥0)=false:=decide_eq_false hb
        rw [if_neg hb,List.append_nil] at u
        have J:Hid (aJ H W1 [.cel (aG (aH I (XB))) (.slice (some ⟨g1,0,none⟩) I I),.cel (aG (aH on (YB))) (.slice (some ⟨g2,0,none⟩) on on),.cel (aG (aH sn (K++bV (es.take (j+1))))) (.slice (some ⟨g3,0,none⟩) sn sn),.cel (aG (aH ln (LB++ax (es.take (j+1))))) (.slice (some ⟨g4,0,none⟩) ln ln),.blk wo.heap.size #[.int .i64 2,.int .i64 (X:Int),.slice (some ⟨be,oe,none⟩) G ec] 89]):=by
         show aJ H _ _
         rw [u]
         exact z.out
        clear u aq ay am ao Q aR aS R af
        go_wp2_with fail
        go_roundw
        ·exact ⟨j+1,by omega,by go_num,J.out⟩
        simp [intOf];omega
       have da:decide (a≥0)=false:=decide_eq_false ha
       rw [if_neg ha,List.append_nil] at D
       have z:Hid (aJ H wr [.cel (aG (aH I (XB))) (.slice (some ⟨g1,0,none⟩) I I),.cel (aG (aH on (YB))) (.slice (some ⟨g2,0,none⟩) on on),.cel (aG (aH sn (K++bV (es.take j)))) (.slice (some ⟨g3,0,none⟩) sn sn),.cel (aG (aH ln (LB++ax (es.take (j+1))))) (.slice (some ⟨g4,0,none⟩) ln ln),.blk wo.heap.size #[.int .i64 2,.int .i64 (X:Int),.slice (some ⟨be,oe,none⟩) G ec] 89]):=by
        show aJ H _ _
        rw [D]
        exact Z.out
       clear D
       go_upto_region 25 with fail
       clear c0 c1 y2 ly aV
       have g:=aA aL.out z.out.bel
       have aV:=aK g B
       have c0:=(g.cell (p:=⟨be,oe+j * 2,none⟩) B).trans bh.out
       have c1:=(g.cell (p:=⟨be,oe+j * 2+1,none⟩) B).trans bl.out
       obtain ⟨-,-,y2,ly⟩:=jU (z.out.blk 4 rfl).1
       clear g
       by_cases hb:0<=b
       ·have db:decide (b≥0)=true:=decide_eq_true hb
        rw [if_pos hb] at u
        obtain ⟨Y,rfl⟩:=Int.eq_ofNat_of_zero_le hb
        have a1:Y<sn:=by omega
        obtain ⟨cY,fY,lY,ar⟩:=eP z.out 2 rfl a1
        have J:Hid (aJ H (wr.setCell ⟨g3,Y,none⟩ (.int .i64 (((cnt (K++bV (es.take j)) (Y:Int):Nat):Int)+1))) [.cel (aG (aH I (XB))) (.slice (some ⟨g1,0,none⟩) I I),.cel (aG (aH on (YB))) (.slice (some ⟨g2,0,none⟩) on on),.cel (aG (aH sn (K++bV (es.take (j+1))))) (.slice (some ⟨g3,0,none⟩) sn sn),.cel (aG (aH ln (LB++ax (es.take (j+1))))) (.slice (some ⟨g4,0,none⟩) ln ln),.blk wo.heap.size #[.int .i64 2,.int .i64 (X:Int),.slice (some ⟨be,oe,none⟩) G ec] 89]):=by
         show aJ H _ _
         rw [u,←List.append_assoc]
         exact ar
        clear ar u
        generalize cnt (K++bV (es.take j)) (Y:Int)=a0 at *
        have iY:(Y:Int)<(sn:Int):=by omega
        have bR:a0<=10000:=by omega
        clear aq ay am ao Q aR aS R af
        go_wp2_with fail
        go_roundw
        ·exact ⟨j+1,by omega,by go_num,J.out⟩
        simp [intOf];omega
       have db:decide (b≥0)=false:=decide_eq_false hb
       rw [if_neg hb,List.append_nil] at u
       have J:Hid (aJ H wr [.cel (aG (aH I (XB))) (.slice (some ⟨g1,0,none⟩) I I),.cel (aG (aH on (YB))) (.slice (some ⟨g2,0,none⟩) on on),.cel (aG (aH sn (K++bV (es.take (j+1))))) (.slice (some ⟨g3,0,none⟩) sn sn),.cel (aG (aH ln (LB++ax (es.take (j+1))))) (.slice (some ⟨g4,0,none⟩) ln ln),.blk wo.heap.size #[.int .i64 2,.int .i64 (X:Int),.slice (some ⟨be,oe,none⟩) G ec] 89]):=by
        show aJ H _ _
        rw [u]
        exact z.out
       clear u aq ay am ao Q aR aS R af
       go_wp2_with fail
       go_roundw
       ·exact ⟨j+1,by omega,by go_num,J.out⟩
       simp [intOf];omega
      have bg:j=G:=by omega
      have bE:=dF (by omega:G<=j)
      have HD:Hid (aJ H wr [.cel (aG (aH I (XB))) (.slice (some ⟨g1,0,none⟩) I I),.cel (aG (aH on (YB))) (.slice (some ⟨g2,0,none⟩) on on),.cel (aG (aH sn (K++bV es))) (.slice (some ⟨g3,0,none⟩) sn sn),.cel (aG (aH ln (LB++ax es))) (.slice (some ⟨g4,0,none⟩) ln ln),.blk wo.heap.size #[.int .i64 2,.int .i64 (X:Int),.slice EA G ec] 89]):=by
       have h:=Z.out
       show aJ H _ _
       rwa [bg,List.take_of_length_le (by rw [bq.out];exact Nat.le_refl _)] at h
      clear Z bg
      go_wp2_with fail
      go_roundw
      ·exact ⟨k+1,by omega,by go_num,by rw [bS.out,bQ.out,bP.out,bO.out];exact HD.out.sub (List.sublist_append_left _ [_]),b5.out⟩
      simp [intOf];omega
     subst dm
     have az:=dX 0 (bs.take k) ⟨3,it,es⟩
     have ap:=dX 1 (bs.take k) ⟨3,it,es⟩
     have aw:=jY (bs.take k) ⟨3,it,es⟩
     have av:=jX (bs.take k) ⟨3,it,es⟩
     rw [←bI.out] at az ap aw av
     simp only [Int.reduceEq,reduceIte,List.append_nil] at az ap aw av
     have aY:=eU 0 (bs.take k)
     have aZ:=eU 1 (bs.take k)
     rw [List.length_take] at aY aZ
     have a9:Hid (aJ H w4 [.cel (aG (aH I (bC 0 (bs.take k)))) (.slice (some ⟨g1,0,none⟩) I I),.cel (aG (aH on (bC 1 (bs.take k)))) (.slice (some ⟨g2,0,none⟩) on on),.cel (aG (aH sn (dw (bs.take k)))) (.slice (some ⟨g3,0,none⟩) sn sn),.cel (aG (aH ln (eZ (bs.take k)))) (.slice (some ⟨g4,0,none⟩) ln ln),.blk wo.heap.size #[.int .i64 3,.int .i64 it,.slice EA G ec] 89]):=a7.out
     have bk:Hid ((dw (bs.take k)).length<=1000):=by show _<=_;have:=bm.out;(try rw [List.length_append,List.length_singleton]);omega
     have bf:Hid ((eZ (bs.take k)).length<=1000):=by show _<=_;have:=bT.out;omega
     obtain ⟨XB,a4⟩:∃XB,bC 0 (bs.take k)=XB:=⟨_,rfl⟩
     obtain ⟨YB,a5⟩:∃YB,bC 1 (bs.take k)=YB:=⟨_,rfl⟩
     obtain ⟨K,a2⟩:∃K,dw (bs.take k)=K:=⟨_,rfl⟩
     obtain ⟨LB,a3⟩:∃LB,eZ (bs.take k)=LB:=⟨_,rfl⟩
     rw [a4,a5,a2,a3] at a9
     rw [a4] at az
     rw [a5] at ap
     rw [a2] at aw bk
     rw [a3] at av bf
     obtain ⟨bS,bQ,bP,bO⟩:=hd4 az ap aw av
     clear az ap aw av a4 a5 a2 a3
     obtain ⟨y0,y1,ly⟩:=fZ (a7.out.blk 4 rfl).1
     clear b4 aY aZ aE
     go_upto_region 20 with fail
     clear y0 y1 ly
     go_wp2_with fail
     go_loopw [11] (fun i wr=>∃j:Nat,j<=G/\i = .int .i64 (j:Int)/\aJ H wr [.cel (aG (aH I (XB))) (.slice (some ⟨g1,0,none⟩) I I),.cel (aG (aH on (YB))) (.slice (some ⟨g2,0,none⟩) on on),.cel (aG (aH sn (K++bV (es.take j)))) (.slice (some ⟨g3,0,none⟩) sn sn),.cel (aG (aH ln (LB++ax (es.take j)))) (.slice (some ⟨g4,0,none⟩) ln ln),.blk wo.heap.size #[.int .i64 3,.int .i64 it,.slice EA G ec] 89]) (fun i _=>G - (intOf i).toNat)
     ·exact ⟨0,by omega,rfl,by rw [List.take_zero];simpa [bV,ax] using a9.out⟩
     obtain ⟨j,hj,rfl,hs⟩:=hrel
     have Z:=Hd hs
     clear hs
     obtain ⟨-,-,y2,ly⟩:=jU (Z.out.blk 4 rfl).1
     by_cases bo:j<G
     ·have bE:=dT (by omega:j<G)
      have aB:j<es.length:=by rw [bq.out];exact bo
      obtain ⟨be,oe,bj,B,c0,c1⟩:=HE.out.es (k:=j) aB
      have bM:=Hd bj
      have aU:=ck.out _ (List.getElem_mem aB)
      have u:=kK (es.take j) (es[j]?.getD LeT.zero)
      have D:=jW (es.take j) (es[j]?.getD LeT.zero)
      rw [←bN aB] at u D
      have am:=kw (es.take j)
      have ao:=ji (es.take j)
      rw [List.length_take] at am ao
      rw [show es[j]=es[j]?.getD LeT.zero by rw [List.getElem?_eq_getElem aB];rfl] at aU
      have R:=aU.lut.2
      have af:=aU.ff.2
      rw [b9.out] at R
      rw [b3.out] at af
      have Q:=cf.out
      have aR:=bk.out
      have aS:=bf.out
      clear aU aB bj
      generalize es[j]?.getD LeT.zero=e at *
      obtain ⟨a,b⟩:=e
      simp only at R af u D c0 c1
      obtain ⟨i0,i1⟩:=ib (by omega:j<G)
      have aq:=fC (K++bV (es.take j)) b
      have ay:=fC (LB++ax (es.take j)) a
      rw [List.length_append] at aq ay
      obtain ⟨bh,bl⟩:=hd2 c0 c1
      have g:=aA aL.out Z.out.bel
      have aV:=aK g B
      rw [←g.cell (p:=⟨be,oe+j * 2,none⟩) B] at c0
      rw [←g.cell (p:=⟨be,oe+j * 2+1,none⟩) B] at c1
      clear g
      obtain rfl:=bM.out
      by_cases ha:0<=a
      ·have da:decide (a≥0)=true:=decide_eq_true ha
       rw [if_pos ha] at D
       obtain ⟨V,rfl⟩:=Int.eq_ofNat_of_zero_le ha
       have bH:V<ln:=by omega
       obtain ⟨cX,fX,lX,aN⟩:=eP Z.out 3 rfl bH
       have z:Hid (aJ H (wr.setCell ⟨g4,V,none⟩ (.int .i64 (((cnt (LB++ax (es.take j)) (V:Int):Nat):Int)+1))) [.cel (aG (aH I (XB))) (.slice (some ⟨g1,0,none⟩) I I),.cel (aG (aH on (YB))) (.slice (some ⟨g2,0,none⟩) on on),.cel (aG (aH sn (K++bV (es.take j)))) (.slice (some ⟨g3,0,none⟩) sn sn),.cel (aG (aH ln (LB++ax (es.take (j+1))))) (.slice (some ⟨g4,0,none⟩) ln ln),.blk wo.heap.size #[.int .i64 3,.int .i64 it,.slice (some ⟨be,oe,none⟩) G ec] 89]):=by
        show aJ H _ _
        rw [D,←List.append_assoc]
        exact aN
       clear aN D
       generalize cnt (LB++ax (es.take j)) (V:Int)=bd at *
       have iX:(V:Int)<(ln:Int):=by omega
       have cA:bd<=10000:=by omega
       go_upto_region 25 with fail
       clear c0 c1 y2 ly aV cX fX lX
       generalize wr.setCell ⟨g4,V,none⟩ (.int .i64 ((bd:Int)+1))=W1 at *
       have g:=aA aL.out z.out.bel
       have aV:=aK g B
       have c0:=(g.cell (p:=⟨be,oe+j * 2,none⟩) B).trans bh.out
       have c1:=(g.cell (p:=⟨be,oe+j * 2+1,none⟩) B).trans bl.out
       obtain ⟨-,-,y2,ly⟩:=jU (z.out.blk 4 rfl).1
       clear g
       by_cases hb:0<=b
       ·have db:decide (b≥0)=true:=decide_eq_true hb
        rw [if_pos hb] at u
        obtain ⟨Y,rfl⟩:=Int.eq_ofNat_of_zero_le hb
        have a1:Y<sn:=by omega
        obtain ⟨cY,fY,lY,ar⟩:=eP z.out 2 rfl a1
        have J:Hid (aJ H (W1.setCell ⟨g3,Y,none⟩ (.int .i64 (((cnt (K++bV (es.take j)) (Y:Int):Nat):Int)+1))) [.cel (aG (aH I (XB))) (.slice (some ⟨g1,0,none⟩) I I),.cel (aG (aH on (YB))) (.slice (some ⟨g2,0,none⟩) on on),.cel (aG (aH sn (K++bV (es.take (j+1))))) (.slice (some ⟨g3,0,none⟩) sn sn),.cel (aG (aH ln (LB++ax (es.take (j+1))))) (.slice (some ⟨g4,0,none⟩) ln ln),.blk wo.heap.size #[.int .i64 3,.int .i64 it,.slice (some ⟨be,oe,none⟩) G ec] 89]):=by
         show aJ H _ _
         rw [u,←List.append_assoc]
         exact ar
        clear ar u
        generalize cnt (K++bV (es.take j)) (Y:Int)=a0 at *
        have iY:(Y:Int)<(sn:Int):=by omega
        have bR:a0<=10000:=by omega
        clear aq ay am ao Q aR aS R af
        go_wp2_with fail
        go_roundw
        ·exact ⟨j+1,by omega,by go_num,J.out⟩
        simp [intOf];omega
       have db:decide (b≥0)=false:=decide_eq_false hb
       rw [if_neg hb,List.append_nil] at u
       have J:Hid (aJ H W1 [.cel (aG (aH I (XB))) (.slice (some ⟨g1,0,none⟩) I I),.cel (aG (aH on (YB))) (.slice (some ⟨g2,0,none⟩) on on),.cel (aG (aH sn (K++bV (es.take (j+1))))) (.slice (some ⟨g3,0,none⟩) sn sn),.cel (aG (aH ln (LB++ax (es.take (j+1))))) (.slice (some ⟨g4,0,none⟩) ln ln),.blk wo.heap.size #[.int .i64 3,.int .i64 it,.slice (some ⟨be,oe,none⟩) G ec] 89]):=by
        show aJ H _ _
        rw [u]
        exact z.out
       clear u aq ay am ao Q aR aS R af
       go_wp2_with fail
       go_roundw
       ·exact ⟨j+1,by omega,by go_num,J.out⟩
       simp [intOf];omega
      have da:decide (a≥0)=false:=decide_eq_false ha
      rw [if_neg ha,List.append_nil] at D
      have z:Hid (aJ H wr [.cel (aG (aH I (XB))) (.slice (some ⟨g1,0,none⟩) I I),.cel (aG (aH on (YB))) (.slice (some ⟨g2,0,none⟩) on on),.cel (aG (aH sn (K++bV (es.take j)))) (.slice (some ⟨g3,0,none⟩) sn sn),.cel (aG (aH ln (LB++ax (es.take (j+1))))) (.slice (some ⟨g4,0,none⟩) ln ln),.blk wo.heap.size #[.int .i64 3,.int .i64 it,.slice (some ⟨be,oe,none⟩) G ec] 89]):=by
       show aJ H _ _
       rw [D]
       exact Z.out
      clear D
      go_upto_region 25 with fail
      clear c0 c1 y2 ly aV
      have g:=aA aL.out z.out.bel
      have aV:=aK g B
      have c0:=(g.cell (p:=⟨be,oe+j * 2,none⟩) B).trans bh.out
      have c1:=(g.cell (p:=⟨be,oe+j * 2+1,none⟩) B).trans bl.out
      obtain ⟨-,-,y2,ly⟩:=jU (z.out.blk 4 rfl).1
      clear g
      by_cases hb:0<=b
      ·have db:decide (b≥0)=true:=decide_eq_true hb
       rw [if_pos hb] at u
       obtain ⟨Y,rfl⟩:=Int.eq_ofNat_of_zero_le hb
       have a1:Y<sn:=by omega
       obtain ⟨cY,fY,lY,ar⟩:=eP z.out 2 rfl a1
       have J:Hid (aJ H (wr.setCell ⟨g3,Y,none⟩ (.int .i64 (((cnt (K++bV (es.take j)) (Y:Int):Nat):Int)+1))) [.cel (aG (aH I (XB))) (.slice (some ⟨g1,0,none⟩) I I),.cel (aG (aH on (YB))) (.slice (some ⟨g2,0,none⟩) on on),.cel (aG (aH sn (K++bV (es.take (j+1))))) (.slice (some ⟨g3,0,none⟩) sn sn),.cel (aG (aH ln (LB++ax (es.take (j+1))))) (.slice (some ⟨g4,0,none⟩) ln ln),.blk wo.heap.size #[.int .i64 3,.int .i64 it,.slice (some ⟨be,oe,none⟩) G ec] 89]):=by
        show aJ H _ _
        rw [u,←List.append_assoc]
        exact ar
       clear ar u
       generalize cnt (K++bV (es.take j)) (Y:Int)=a0 at *
       have iY:(Y:Int)<(sn:Int):=by omega
       have bR:a0<=10000:=by omega
       clear aq ay am ao Q aR aS R af
       go_wp2_with fail
       go_roundw
       ·exact ⟨j+1,by omega,by go_num,J.out⟩
       simp [intOf];omega
      have db:decide (b≥0)=false:=decide_eq_false hb
      rw [if_neg hb,List.append_nil] at u
      have J:Hid (aJ H wr [.cel (aG (aH I (XB))) (.slice (some ⟨g1,0,none⟩) I I),.cel (aG (aH on (YB))) (.slice (some ⟨g2,0,none⟩) on on),.cel (aG (aH sn (K++bV (es.take (j+1))))) (.slice (some ⟨g3,0,none⟩) sn sn),.cel (aG (aH ln (LB++ax (es.take (j+1))))) (.slice (some ⟨g4,0,none⟩) ln ln),.blk wo.heap.size #[.int .i64 3,.int .i64 it,.slice (some ⟨be,oe,none⟩) G ec] 89]):=by
       show aJ H _ _
       rw [u]
       exact z.out
      clear u aq ay am ao Q aR aS R af
      go_wp2_with fail
      go_roundw
      ·exact ⟨j+1,by omega,by go_num,J.out⟩
      simp [intOf];omega
     have bg:j=G:=by omega
     have bE:=dF (by omega:G<=j)
     have HD:Hid (aJ H wr [.cel (aG (aH I (XB))) (.slice (some ⟨g1,0,none⟩) I I),.cel (aG (aH on (YB))) (.slice (some ⟨g2,0,none⟩) on on),.cel (aG (aH sn (K++bV es))) (.slice (some ⟨g3,0,none⟩) sn sn),.cel (aG (aH ln (LB++ax es))) (.slice (some ⟨g4,0,none⟩) ln ln),.blk wo.heap.size #[.int .i64 3,.int .i64 it,.slice EA G ec] 89]):=by
      have h:=Z.out
      show aJ H _ _
      rwa [bg,List.take_of_length_le (by rw [bq.out];exact Nat.le_refl _)] at h
     clear Z bg
     go_wp2_with fail
     go_roundw
     ·exact ⟨k+1,by omega,by go_num,by rw [bS.out,bQ.out,bP.out,bO.out];exact HD.out.sub (List.sublist_append_left _ [_]),b5.out⟩
     simp [intOf];omega
    rw [bJ aE]
    have HR:=Hd (bK.out aE)
    rintro _ w4 ⟨rfl,b4⟩
    have dz:=Hd (aA (aA aL.out HA.out.bel) b4)
    clear x0 x1 x2 x3 lx y0 y1 y2 ly c0 c1 c2 HG bK b4
    go_wp2_with fail
    go_ret
    exact ⟨aO HR.out,dz.out⟩
   have c8:k=bn:=by omega
   have dL:=dF (by omega:bn<=k)
   have bI:Hid (bs.take k=bs):=by show _=_;rw [c8];exact List.take_of_length_le (by rw [cH.out];exact Nat.le_refl _)
   rw [bI.out] at HS bv
   have c3:Hid ((∀q:Nat,q<I→(aH I (bC 0 bs))[q]?.getD 0=1)↔sI l.inputs.toNat (bC 0 bs)):=by
    show _↔_
    rw [dJ.out]
    exact lZ
   have cN:Hid ((∀q:Nat,q<on→(aH on (bC 1 bs))[q]?.getD 0=1)↔sI l.outs.length (bC 1 bs)):=by
    show _↔_
    rw [cT.out]
    exact lZ
   have df:Hid ((∀q:Nat,q<sn→(aH sn (dw bs))[q]?.getD 0=1)↔sI l.seqs.length (dw bs)):=by
    show _↔_
    rw [b3.out]
    exact lZ
   have c9:Hid ((∀q:Nat,q<ln→(aH ln (eZ bs))[q]?.getD 0=1)↔sI l.luts.length (eZ bs)):=by
    show _↔_
    rw [b9.out]
    exact lZ
   have HU:Hid ((∀q:Nat,q<I+on+sn+ln→(aH I (bC 0 bs)++aH on (bC 1 bs)++aH sn (dw bs)++aH ln (eZ bs))[q]?.getD 0=1)↔fQ l bs):=by
    show _↔_
    rw [FX (lT ..) (lT ..) (lT ..) (lT ..),c3.out,cN.out,df.out,c9.out]
    exact ⟨fun h=>⟨HF.out,by rw [cH.out];exact cv,bv.out,h.1.1.1,h.1.1.2,h.1.2,h.2⟩,fun h=>⟨⟨⟨h.ins,h.outs⟩,h.seqs⟩,h.luts⟩⟩
   clear c3 cN df c9 c8
   go_wp2_with (at_builtin;first
    | (refine kz rfl _ _ rfl _ cn.out 0 A6 (I+on+sn) c6 _ (some ⟨g4,0,none⟩) ln ln _ rfl rfl rfl (cn.out.ints 3 rfl) (by omega) ?_;intro A7 c7 w7 S7 _;have cw:=Hd S7;clear S7)
    | (refine kz rfl _ _ rfl _ bY.out 0 A5 (I+on) c5 _ (some ⟨g3,0,none⟩) sn sn _ rfl rfl rfl (bY.out.ints 2 rfl) (by omega) ?_;intro A6 c6 w6 S6 _;have cn:=Hd S6;clear S6)
    | (refine kz rfl _ _ rfl _ HS.out 0 (some ⟨g1,0,none⟩) I I _ (some ⟨g2,0,none⟩) on on _ rfl rfl rfl (HS.out.ints 1 rfl) (by omega) ?_;intro A5 c5 w5 S5 _;have bY:=Hd S5;clear S5))
   have HO:=Hd (cw.out.ints 0 rfl)
   have dh:=Hd (aA aL.out cw.out.bel)
   clear HS bY cn cw
   generalize hM:I+on+sn+ln=M at *
   have d7:M<=1099511627776:=by omega
   generalize dB:aH I (bC 0 bs)++aH on (bC 1 bs)++aH sn (dw bs)++aH ln (eZ bs)=U at *
   clear dB hM
   go_loopw [13] (fun i wr=>∃q:Nat,q<=M/\i = .int .i64 (q:Int)/\w7=wr/\∀j,j<q→U[j]?.getD 0=1) (fun i _=>M - (intOf i).toNat)
   ·exact ⟨0,by omega,rfl,rfl,fun j hj=>by omega⟩
   obtain ⟨q,hq,rfl,rfl,bt⟩:=hrel
   have cI:=Hd bt
   clear bt
   by_cases cm:q<M
   ·have dr:=dT (by omega:q<M)
    obtain ⟨bu,ou,cZ,eh,cW⟩:=HO.out.2 (by omega)
    have cu:=cW q cm
    have dv:=Hd cZ
    have HG:Hid (U[q]?.getD 0=1→∀j,j<q+1→U[j]?.getD 0=1):=fun h=>bU cI.out h
    have bK:Hid (U[q]?.getD 0≠1→¬fQ l bs):=fun h h'=>h (HU.out.2 h' q cm)
    clear cW cZ
    obtain rfl:=dv.out
    generalize U[q]?.getD 0=x at *
    obtain ⟨i0,i1⟩:=ib (by omega:q<M)
    by_cases hx:x=1
    ·have dx:(x != 1)=false:=by simp [hx]
     have b5:=Hd (HG.out hx)
     clear HG bK hx
     go_wp2_with fail
     go_roundw
     ·exact ⟨q+1,by omega,by go_num,by first|rfl|trivial,b5.out⟩
     simp [intOf];omega
    have dx:(x != 1)=true:=by simp [hx]
    have HR:=Hd (bK.out hx)
    clear HG bK hx
    go_wp2_with fail
    go_ret
    exact ⟨aO HR.out,dh.out⟩
   have de:q=M:=by omega
   have dr:=dF (by omega:M<=q)
   have HR:Hid (fQ l bs):=HU.out.1 (by rw [←de];exact cI.out)
   clear cI de
   go_wp2_with fail
   go_ret
   exact ⟨dU HR.out,dh.out⟩
  have dG:decide ((64:Int)<(bn:Int))=true:=decide_eq_true (by omega)
  have dd:decide ((bn:Int)>64)=true:=decide_eq_true (by omega)
  have HR:Hid (¬fQ l bs):=fun h=>cv (by rw [←cF];exact h.len)
  go_enter Tryz.func35,Tryz.ntmps35
  go_upto_region 1 with fail
  generalize w.alloc (.cells (ak l SA LA OA sn sc ln lc on oc) 41)=W0 at *
  obtain ⟨x0,x1,x2,x3,lx⟩:=bX ci.out
  go_wp2_with fail
  refine (dM l SA LA OA sn sc ln lc on oc _ (HN.out.below bZ.out)).mono ?_
  rw [ae hf]
  rintro _ w1 ⟨rfl,b1⟩
  have aL:=Hd (aA bZ.out b1)
  clear b1 x0 x1 x2 x3 lx hf cv
  go_wp2_with fail
  go_ret
  exact ⟨aO HR.out,aL.out⟩
 have HR:Hid (¬fQ l bs):=fun h=>hf h.net
 go_enter Tryz.func35,Tryz.ntmps35
 go_upto_region 1 with fail
 generalize w.alloc (.cells (ak l SA LA OA sn sc ln lc on oc) 41)=W0 at *
 obtain ⟨x0,x1,x2,x3,lx⟩:=bX ci.out
 go_wp2_with fail
 refine (dM l SA LA OA sn sc ln lc on oc _ (HN.out.below bZ.out)).mono ?_
 rw [bJ hf]
 rintro _ w1 ⟨rfl,b1⟩
 have aL:=Hd (aA bZ.out b1)
 clear b1 x0 x1 x2 x3 lx hf
 go_wp2_with fail
 go_ret
 exact ⟨aO HR.out,aL.out⟩
end Go.Proofs.YtofihjoanjkdmaaGreat
