/- Valid blocks in the program (printed by mkblk.py). -/
import Derived.Test.YtofihjoanjkdmaaGreatLayF3
namespace Go.Proofs.YtofihjoanjkdmaaGreat
set_option maxHeartbeats 2000000
set_option maxRecDepth 100000
open Go.RowKit
theorem D7 {b:Bool} {P:Prop} (h:b=true↔P):b=tb P:=by
 cases b with
 | true=>rw [ae (h.1 rfl)]
 | false=>rw [bJ fun g=>by cases h.2 g]
theorem D8 {a b:Int} {P:Prop} (h:0<=a/\a<b↔P):inR a 0 (b - 1)=tb P:=D7 (by rw [aU,←h];omega)
theorem fK (l:ai) (SA LA OA:Option Addr) (sn sc ln lc on oc:Nat) (kd it:Int) (es:List LeT) (H:Option Addr) (z I:Nat) (w:World) (h:fo w l SA LA OA sn sc ln lc on oc) (hf:bA l) (hE:RdC w w.heap.size (cO es) (.slice H z I)) (bf:z<=1048576) :
  Calls Tryz.prog 213 #[jI l SA LA OA sn sc ln lc on oc,.agg #[.int .i64 kd,.int .i64 it,.slice H z I]] w fun e w'=>e = .returned (.bool (tb (dY l ⟨kd,it,es⟩)))/\Below w.heap.size w w':=by
 have u:=hE.esN
 obtain ⟨HE,aj⟩:=hd2 hE u
 clear hE u
 have B:=Hd (aD (aD (Below.refl w.heap.size w) (.cells (ak l SA LA OA sn sc ln lc on oc) 41)) (.cells #[.int .i64 kd,.int .i64 it,.slice H z I] 89))
 have hx:=bS (.cells #[.int .i64 kd,.int .i64 it,.slice H z I] 89) (aI w (.cells (ak l SA LA OA sn sc ln lc on oc) 41))
 have hy:=aI (w.alloc (.cells (ak l SA LA OA sn sc ln lc on oc) 41)) (.cells #[.int .i64 kd,.int .i64 it,.slice H z I] 89)
 simp only [World.size_alloc] at hy
 obtain ⟨g,q⟩:=hd2 hx hy
 clear hx hy
 obtain ⟨V,U,ad⟩:=h.lens
 have aJ:=hf.nseq
 have aT:=hf.nlut
 have aH:=hf.nout
 have a3:=hf.inp
 rw [V] at aJ
 rw [U] at aT
 rw [ad] at aH
 obtain ⟨HN,HF,aQ,bb,az⟩:=hd5 h hf V U ad
 have bd:Hid ((l.first:Int)=1+l.inputs+(sn:Int)):=by show _=_;unfold ai.first;omega
 have a6:Hid ((l.count:Int)=1+l.inputs+(sn:Int)+(ln:Int)):=by show _=_;unfold ai.count ai.first;omega
 clear h hf V U ad
 by_cases k0:kd=0
 ·subst k0
  have D:Hid (inR it 0 (l.inputs - 1)=tb (dY l ⟨0,it,es⟩)):=D8 (by rw [oN])
  go_enter Tryz.func213,Tryz.ntmps213
  go_upto_region 1 with fail
  generalize (w.alloc (.cells (ak l SA LA OA sn sc ln lc on oc) 41)).alloc (.cells #[.int .i64 0,.int .i64 it,.slice H z I] 89)=W9 at *
  have x0:=aF (k:=0) g.out rfl
  obtain ⟨y0,y1⟩:=cs2 q.out
  have R:=aB g.out
  have ly:=aB q.out
  go_wp2_with fail
  refine (aM it 0 (l.inputs - 1) _).mono ?_
  rintro _ w1 ⟨rfl,rfl⟩
  go_wp2_with fail
  go_ret
  exact ⟨cK D.out,B.out⟩
 by_cases k1:kd=1
 ·subst k1
  have D:Hid (inR it 0 ((on:Int) - 1)=tb (dY l ⟨1,it,es⟩)):=D8 (by rw [oO];rw [az.out])
  go_enter Tryz.func213,Tryz.ntmps213
  go_upto_region 1 with fail
  generalize (w.alloc (.cells (ak l SA LA OA sn sc ln lc on oc) 41)).alloc (.cells #[.int .i64 1,.int .i64 it,.slice H z I] 89)=W9 at *
  have x3:=aF (k:=3) g.out rfl
  obtain ⟨y0,y1⟩:=cs2 q.out
  have R:=aB g.out
  have ly:=aB q.out
  go_wp2_with fail
  refine (aM it 0 ((on:Int) - 1) _).mono ?_
  rintro _ w1 ⟨rfl,rfl⟩
  go_wp2_with fail
  go_ret
  exact ⟨cK D.out,B.out⟩
 by_cases k2:kd=2
 ·subst k2
  have D:Hid (inR it 0 ((sn:Int) - 1)=tb (dY l ⟨2,it,es⟩)):=D8 (by rw [il];rw [aQ.out])
  go_enter Tryz.func213,Tryz.ntmps213
  go_upto_region 1 with fail
  generalize (w.alloc (.cells (ak l SA LA OA sn sc ln lc on oc) 41)).alloc (.cells #[.int .i64 2,.int .i64 it,.slice H z I] 89)=W9 at *
  have x1:=aF (k:=1) g.out rfl
  obtain ⟨y0,y1⟩:=cs2 q.out
  have R:=aB g.out
  have ly:=aB q.out
  go_wp2_with fail
  refine (aM it 0 ((sn:Int) - 1) _).mono ?_
  rintro _ w1 ⟨rfl,rfl⟩
  go_wp2_with fail
  go_ret
  exact ⟨cK D.out,B.out⟩
 by_cases k3:kd=3
 ·subst k3
  clear k0 k1 k2
  go_enter Tryz.func213,Tryz.ntmps213
  go_upto_region 1 with fail
  generalize (w.alloc (.cells (ak l SA LA OA sn sc ln lc on oc) 41)).alloc (.cells #[.int .i64 3,.int .i64 it,.slice H z I] 89)=W9 at *
  have x0:=aF (k:=0) g.out rfl
  obtain ⟨y0,y1,y2⟩:=cs3 q.out
  have R:=aB g.out
  have ly:=aB q.out
  go_wp2_with fail
  clear x0 y0 y1 y2 R ly
  go_loopw [40] (fun i wr=>∃k:Nat,k<=z/\i = .int .i64 k/\Below W9.heap.size W9 wr/\∀j,j<k→dQ l ⟨(es[j]?.getD LeT.zero).lut,(es[j]?.getD LeT.zero).ff⟩) (fun i _=>z - (intOf i).toNat)
  ·exact ⟨0,Nat.zero_le _,rfl,Below.refl _ _,fun j hj=>by omega⟩
  obtain ⟨k,hk,rfl,hb,Q⟩:=hrel
  obtain ⟨ao,G⟩:=hd2 hb Q
  have K:=Hd (aA B.out hb)
  clear hb Q
  by_cases aG:k<z
  ·have aS:=dT (by omega:k<z)
   have J:k<es.length:=by rw [aj.out];exact aG
   obtain ⟨be,oe,rfl,af,c0,c1⟩:=HE.out.es (k:=k) J
   have bc:=aK K.out af
   rw [←K.out.cell (p:=⟨be,oe+k * 2,none⟩) af] at c0
   rw [←K.out.cell (p:=⟨be,oe+k * 2+1,none⟩) af] at c1
   have HG:Hid (dQ l ⟨(es[k]?.getD LeT.zero).lut,(es[k]?.getD LeT.zero).ff⟩→∀j,j<k+1→dQ l ⟨(es[j]?.getD LeT.zero).lut,(es[j]?.getD LeT.zero).ff⟩):=fun h=>bU G.out h
   have Z:Hid (¬dQ l ⟨(es[k]?.getD LeT.zero).lut,(es[k]?.getD LeT.zero).ff⟩→¬dY l ⟨3,it,es⟩):=fun h h'=>h (by
    have:=kF.1 h' _ (List.getElem_mem J)
    rwa [show es[k]=es[k]?.getD LeT.zero by rw [List.getElem?_eq_getElem J];rfl] at this)
   clear J
   generalize es[k]?.getD LeT.zero=e at *
   have hx:=aC (aD (Below.refl wr.heap.size wr) (.cells #[.int .i64 e.lut,.int .i64 e.ff] 94)) (aC ao.out g.out)
   obtain ⟨x0,x1,x2,x3,R⟩:=bX hx
   have hq:=aI wr (.cells #[.int .i64 e.lut,.int .i64 e.ff] 94)
   obtain ⟨q0,q1,lq⟩:=fZ hq
   obtain ⟨i0,i1⟩:=ib (by omega:k<z)
   have Y:=Hd (aD ao.out (.cells #[.int .i64 e.lut,.int .i64 e.ff] 94))
   clear hx hq
   go_wp2_with fail
   refine (ER l SA LA OA sn sc ln lc on oc e.lut e.ff _ (HN.out.below (aA B.out Y.out)) HF.out).mono ?_
   by_cases u:dQ l ⟨e.lut,e.ff⟩
   ·rw [ae u]
    have aR:=Hd (HG.out u)
    rintro _ w1 ⟨rfl,b1⟩
    have W:=Hd (aA Y.out b1)
    clear b1 x0 x1 x2 x3 R q0 q1 lq c0 c1 u HG Z
    go_wp2_with fail
    go_roundw
    ·exact ⟨k+1,by omega,by go_num,W.out,aR.out⟩
    simp [intOf];omega
   rw [bJ u]
   have D:=Hd (Z.out u)
   rintro _ w1 ⟨rfl,b1⟩
   have W:=Hd (aA Y.out b1)
   clear b1 x0 x1 x2 x3 R q0 q1 lq c0 c1 u HG Z
   go_wp2_with fail
   go_ret
   exact ⟨aO D.out,aA B.out W.out⟩
  have ar:k=z:=by omega
  have aS:=dF (by omega:z<=k)
  have D:Hid (dY l ⟨3,it,es⟩):=kF.2 fun e he=>by
   obtain ⟨j,hj,rfl⟩:=List.getElem_of_mem he
   have h:=G.out j (by rw [ar,←aj.out];exact hj)
   rwa [show es[j]?.getD LeT.zero=es[j] by rw [List.getElem?_eq_getElem hj];rfl] at h
  clear G ar
  go_wp2_with fail
  go_ret
  exact ⟨dU D.out,K.out⟩
 have D:Hid (¬dY l ⟨kd,it,es⟩):=fun h=>by have:=jJ h;omega
 have d0:(kd==0)=false:=by simp [k0]
 have d1:(kd==1)=false:=by simp [k1]
 have d2:(kd==2)=false:=by simp [k2]
 have d3:(kd==3)=false:=by simp [k3]
 clear k0 k1 k2 k3
 go_enter Tryz.func213,Tryz.ntmps213
 go_upto_region 1 with fail
 generalize (w.alloc (.cells (ak l SA LA OA sn sc ln lc on oc) 41)).alloc (.cells #[.int .i64 kd,.int .i64 it,.slice H z I] 89)=W9 at *
 have x0:=aF (k:=0) g.out rfl
 obtain ⟨y0,y1⟩:=cs2 q.out
 have R:=aB g.out
 have ly:=aB q.out
 go_wp2_with fail
 go_ret
 exact ⟨aO D.out,B.out⟩
theorem vJ {l:ai} {kd it:Int} {es:List LeT}:dI l ⟨kd,it,es⟩↔dY l ⟨kd,it,es⟩/\(kd=3/\it=0/\(1<=es.length/\es.length<=2)/\(fE l es).length<=5∨kd≠3/\es.length=0/\(kd=2→(l.seqs[it.toNat]?.getD Sq.zero).kind=1)):=by
 rw [List.length_eq_zero_iff]
 exact Iff.rfl
theorem zS (l:ai) (SA LA OA:Option Addr) (sn sc ln lc on oc:Nat) (kd it:Int) (es:List LeT) (W:Option Addr) (D Y:Nat) (w:World) (h:fo w l SA LA OA sn sc ln lc on oc) (hf:bA l) (hE:RdC w w.heap.size (cO es) (.slice W D Y)) (af:D<=1048576) :
  Calls Tryz.prog 123 #[jI l SA LA OA sn sc ln lc on oc,.agg #[.int .i64 kd,.int .i64 it,.slice W D Y]] w fun e w'=>e = .returned (.bool (tb (dI l ⟨kd,it,es⟩)))/\Below w.heap.size w w':=by
 have hB:=vJ (l:=l) (kd:=kd) (it:=it) (es:=es)
 have aQ:=hE.esN
 obtain ⟨HE,aT⟩:=hd2 hE aQ
 clear hE aQ
 have u:=Hd (aD (aD (Below.refl w.heap.size w) (.cells (ak l SA LA OA sn sc ln lc on oc) 41)) (.cells #[.int .i64 kd,.int .i64 it,.slice W D Y] 89))
 have hx:=bS (.cells #[.int .i64 kd,.int .i64 it,.slice W D Y] 89) (aI w (.cells (ak l SA LA OA sn sc ln lc on oc) 41))
 have hy:=aI (w.alloc (.cells (ak l SA LA OA sn sc ln lc on oc) 41)) (.cells #[.int .i64 kd,.int .i64 it,.slice W D Y] 89)
 simp only [World.size_alloc] at hy
 obtain ⟨g,j⟩:=hd2 hx hy
 clear hx hy
 obtain ⟨ay,ax,aE⟩:=h.lens
 have aX:=hf.nseq
 have a0:=hf.nlut
 have aV:=hf.nout
 have a7:=hf.inp
 rw [ay] at aX
 rw [ax] at a0
 rw [aE] at aV
 obtain ⟨HN,HF,aR,bg,bc⟩:=hd5 h hf ay ax aE
 have bh:Hid ((l.first:Int)=1+l.inputs+(sn:Int)):=by show _=_;unfold ai.first;omega
 have be:Hid ((l.count:Int)=1+l.inputs+(sn:Int)+(ln:Int)):=by show _=_;unfold ai.count ai.first;omega
 clear h hf ay ax aE
 rw [aT.out] at hB
 by_cases B:dY l ⟨kd,it,es⟩
 ·have Z:Hid (tb (dY l ⟨kd,it,es⟩)=true):=ae B
  have HK:=Hd B
  by_cases k3:kd=3
  ·subst k3
   by_cases h0:it=0
   ·subst h0
    cases hr:inR (D:Int) 1 2 with
    | false =>
     have HR:Hid (¬dI l ⟨3,0,es⟩):=fun h=>by
      rcases (hB.1 h).2 with h|h
      ·rw [aU.2 (by omega)] at hr;cases hr
      exact h.1 rfl
     have au:=Hd hr
     clear hr hB B
     go_enter Tryz.func123,Tryz.ntmps123
     go_upto_region 1 with fail
     generalize (w.alloc (.cells (ak l SA LA OA sn sc ln lc on oc) 41)).alloc (.cells #[.int .i64 3,.int .i64 0,.slice W D Y] 89)=W9 at *
     obtain ⟨I,G,J,U⟩:=cs4 g.out
     obtain ⟨R,Q,H⟩:=cs3 j.out
     have K:=aB g.out
     have V:=aB j.out
     go_wp2_with fail
     refine (fK l SA LA OA sn sc ln lc on oc 3 0 es W D Y _ (HN.out.below u.out) HF.out (HE.out.below u.out) af).mono ?_
     rw [Z.out]
     rintro _ w1 ⟨rfl,q⟩
     have z:=Hd (aA u.out q)
     clear I G J U R Q H K V
     obtain ⟨I,G,J,U⟩:=cs4 (aC q g.out)
     obtain ⟨R,Q,H⟩:=cs3 (aC q j.out)
     have K:=aB (aC q g.out)
     have V:=aB (aC q j.out)
     have ag:=Hd (aC q g.out)
     have aj:=Hd (aC q j.out)
     clear q
     go_wp2_with fail
     refine (aM (D:Int) 1 2 _).mono ?_
     rw [au.out]
     rintro _ w2 ⟨rfl,rfl⟩
     go_wp2_with fail
     go_ret
     exact ⟨aO HR.out,z.out⟩
    | true =>
     have aJ:=aU.1 hr
     have au:=Hd hr
     have aN:D<=2:=by omega
     have aP:1<=D:=by omega
     clear hr aJ
     by_cases hp:(fE l es).length<=5
     ·have HR:Hid (dI l ⟨3,0,es⟩):=hB.2 ⟨B,.inl ⟨rfl,rfl,⟨aP,aN⟩,hp⟩⟩
      have HP:=Hd hp
      clear hB B hp
      go_enter Tryz.func123,Tryz.ntmps123
      go_upto_region 1 with fail
      generalize (w.alloc (.cells (ak l SA LA OA sn sc ln lc on oc) 41)).alloc (.cells #[.int .i64 3,.int .i64 0,.slice W D Y] 89)=W9 at *
      obtain ⟨I,G,J,U⟩:=cs4 g.out
      obtain ⟨R,Q,H⟩:=cs3 j.out
      have K:=aB g.out
      have V:=aB j.out
      go_wp2_with fail
      refine (fK l SA LA OA sn sc ln lc on oc 3 0 es W D Y _ (HN.out.below u.out) HF.out (HE.out.below u.out) af).mono ?_
      rw [Z.out]
      rintro _ w1 ⟨rfl,q⟩
      have z:=Hd (aA u.out q)
      clear I G J U R Q H K V
      obtain ⟨I,G,J,U⟩:=cs4 (aC q g.out)
      obtain ⟨R,Q,H⟩:=cs3 (aC q j.out)
      have K:=aB (aC q g.out)
      have V:=aB (aC q j.out)
      have ag:=Hd (aC q g.out)
      have aj:=Hd (aC q j.out)
      clear q
      go_wp2_with fail
      refine (aM (D:Int) 1 2 _).mono ?_
      rw [au.out]
      rintro _ w2 ⟨rfl,rfl⟩
      go_wp2_with fail
      refine (mU l SA LA OA sn sc ln lc on oc 3 0 es W D Y _ (HN.out.below z.out) HF.out (HE.out.below z.out) HK.out (by omega)).mono ?_
      rintro _ w3 ⟨PA,pn,pc,rfl,op,b3⟩
      have az:=Hd (aA z.out b3)
      have ao:=op.len
      change (fE l es).length=pn at ao
      have aW:pn<=5:=by have:=HP.out;omega
      have dp:decide ((pn:Int)<=5)=true:=decide_eq_true (by omega)
      clear b3 op ao I G J U R Q H K V
      go_wp2_with fail
      go_ret
      exact ⟨dU HR.out,az.out⟩
     have HR:Hid (¬dI l ⟨3,0,es⟩):=fun h=>by
      rcases (hB.1 h).2 with h|h
      ·exact hp h.2.2.2
      exact h.1 rfl
     have HP:=Hd hp
     clear hB B hp
     go_enter Tryz.func123,Tryz.ntmps123
     go_upto_region 1 with fail
     generalize (w.alloc (.cells (ak l SA LA OA sn sc ln lc on oc) 41)).alloc (.cells #[.int .i64 3,.int .i64 0,.slice W D Y] 89)=W9 at *
     obtain ⟨I,G,J,U⟩:=cs4 g.out
     obtain ⟨R,Q,H⟩:=cs3 j.out
     have K:=aB g.out
     have V:=aB j.out
     go_wp2_with fail
     refine (fK l SA LA OA sn sc ln lc on oc 3 0 es W D Y _ (HN.out.below u.out) HF.out (HE.out.below u.out) af).mono ?_
     rw [Z.out]
     rintro _ w1 ⟨rfl,q⟩
     have z:=Hd (aA u.out q)
     clear I G J U R Q H K V
     obtain ⟨I,G,J,U⟩:=cs4 (aC q g.out)
     obtain ⟨R,Q,H⟩:=cs3 (aC q j.out)
     have K:=aB (aC q g.out)
     have V:=aB (aC q j.out)
     have ag:=Hd (aC q g.out)
     have aj:=Hd (aC q j.out)
     clear q
     go_wp2_with fail
     refine (aM (D:Int) 1 2 _).mono ?_
     rw [au.out]
     rintro _ w2 ⟨rfl,rfl⟩
     go_wp2_with fail
     refine (mU l SA LA OA sn sc ln lc on oc 3 0 es W D Y _ (HN.out.below z.out) HF.out (HE.out.below z.out) HK.out (by omega)).mono ?_
     rintro _ w3 ⟨PA,pn,pc,rfl,op,b3⟩
     have az:=Hd (aA z.out b3)
     have ao:=op.len
     change (fE l es).length=pn at ao
     have aW:¬pn<=5:=by have:=HP.out;omega
     have dp:decide ((pn:Int)<=5)=false:=decide_eq_false (by omega)
     clear b3 op ao I G J U R Q H K V
     go_wp2_with fail
     go_ret
     exact ⟨aO HR.out,az.out⟩
   have HR:Hid (¬dI l ⟨3,it,es⟩):=fun h=>by
    rcases (hB.1 h).2 with h|h
    ·exact h0 h.2.1
    exact h.1 rfl
   have d0:(it==0)=false:=by simp [h0]
   clear hB B h0
   go_enter Tryz.func123,Tryz.ntmps123
   go_upto_region 1 with fail
   generalize (w.alloc (.cells (ak l SA LA OA sn sc ln lc on oc) 41)).alloc (.cells #[.int .i64 3,.int .i64 it,.slice W D Y] 89)=W9 at *
   obtain ⟨I,G,J,U⟩:=cs4 g.out
   obtain ⟨R,Q,H⟩:=cs3 j.out
   have K:=aB g.out
   have V:=aB j.out
   go_wp2_with fail
   refine (fK l SA LA OA sn sc ln lc on oc 3 it es W D Y _ (HN.out.below u.out) HF.out (HE.out.below u.out) af).mono ?_
   rw [Z.out]
   rintro _ w1 ⟨rfl,q⟩
   have z:=Hd (aA u.out q)
   clear I G J U R Q H K V
   obtain ⟨I,G,J,U⟩:=cs4 (aC q g.out)
   obtain ⟨R,Q,H⟩:=cs3 (aC q j.out)
   have K:=aB (aC q g.out)
   have V:=aB (aC q j.out)
   have ag:=Hd (aC q g.out)
   have aj:=Hd (aC q j.out)
   clear q
   go_wp2_with fail
   go_ret
   exact ⟨aO HR.out,z.out⟩
  have d3:(kd != 3)=true:=by simp [k3]
  by_cases al:D=0
  ·have de:((D:Int)==0)=true:=by simp;omega
   by_cases k2:kd=2
   ·subst k2
    have aF:=il.1 B
    rw [aR.out] at aF
    obtain ⟨X,rfl⟩:∃X:Nat,it=(X:Int):=⟨it.toNat,by omega⟩
    rw [Int.toNat_natCast] at hB
    have hX:X<sn:=by omega
    obtain ⟨bs,os,IA,im,ic,rfl,ar,c0,c1,c2,r2⟩:=HN.out.sq.sq' (k:=X) (by rw [aR.out];exact hX)
    generalize l.seqs[X]?.getD Sq.zero=s at *
    clear c1 c2 r2 k3
    by_cases hk:s.kind=1
    ·have dk:(s.kind==1)=true:=by simp [hk]
     have HR:Hid (dI l ⟨2,(X:Int),es⟩):=hB.2 ⟨B,.inr ⟨by decide,al,fun _=>hk⟩⟩
     clear hB B hk al aF
     go_enter Tryz.func123,Tryz.ntmps123
     go_upto_region 1 with fail
     generalize (w.alloc (.cells (ak l (some ⟨bs,os,none⟩) LA OA sn sc ln lc on oc) 41)).alloc (.cells #[.int .i64 2,.int .i64 (X:Int),.slice W D Y] 89)=W9 at *
     obtain ⟨I,G,J,U⟩:=cs4 g.out
     obtain ⟨R,Q,H⟩:=cs3 j.out
     have K:=aB g.out
     have V:=aB j.out
     go_wp2_with fail
     refine (fK l (some ⟨bs,os,none⟩) LA OA sn sc ln lc on oc 2 (X:Int) es W D Y _ (HN.out.below u.out) HF.out (HE.out.below u.out) af).mono ?_
     rw [Z.out]
     rintro _ w1 ⟨rfl,q⟩
     have z:=Hd (aA u.out q)
     clear I G J U R Q H K V
     obtain ⟨I,G,J,U⟩:=cs4 (aC q g.out)
     obtain ⟨R,Q,H⟩:=cs3 (aC q j.out)
     have K:=aB (aC q g.out)
     have V:=aB (aC q j.out)
     have ag:=Hd (aC q g.out)
     have aj:=Hd (aC q j.out)
     have a1:=aK z.out ar
     rw [←z.out.cell (p:=⟨bs,os+X * 3,none⟩) ar] at c0
     clear q
     go_wp2_with fail
     go_ret
     exact ⟨dU HR.out,z.out⟩
    have dk:(s.kind==1)=false:=by simp [hk]
    have HR:Hid (¬dI l ⟨2,(X:Int),es⟩):=fun h=>by
     rcases (hB.1 h).2 with h|h
     ·exact absurd h.1 (by decide)
     exact hk (h.2.2 rfl)
    clear hB B hk al aF
    go_enter Tryz.func123,Tryz.ntmps123
    go_upto_region 1 with fail
    generalize (w.alloc (.cells (ak l (some ⟨bs,os,none⟩) LA OA sn sc ln lc on oc) 41)).alloc (.cells #[.int .i64 2,.int .i64 (X:Int),.slice W D Y] 89)=W9 at *
    obtain ⟨I,G,J,U⟩:=cs4 g.out
    obtain ⟨R,Q,H⟩:=cs3 j.out
    have K:=aB g.out
    have V:=aB j.out
    go_wp2_with fail
    refine (fK l (some ⟨bs,os,none⟩) LA OA sn sc ln lc on oc 2 (X:Int) es W D Y _ (HN.out.below u.out) HF.out (HE.out.below u.out) af).mono ?_
    rw [Z.out]
    rintro _ w1 ⟨rfl,q⟩
    have z:=Hd (aA u.out q)
    clear I G J U R Q H K V
    obtain ⟨I,G,J,U⟩:=cs4 (aC q g.out)
    obtain ⟨R,Q,H⟩:=cs3 (aC q j.out)
    have K:=aB (aC q g.out)
    have V:=aB (aC q j.out)
    have ag:=Hd (aC q g.out)
    have aj:=Hd (aC q j.out)
    have a1:=aK z.out ar
    rw [←z.out.cell (p:=⟨bs,os+X * 3,none⟩) ar] at c0
    clear q
    go_wp2_with fail
    go_ret
    exact ⟨aO HR.out,z.out⟩
   have d2:(kd != 2)=true:=by simp [k2]
   have HR:Hid (dI l ⟨kd,it,es⟩):=hB.2 ⟨B,.inr ⟨k3,al,fun h=>absurd h k2⟩⟩
   clear hB B k2 al k3
   go_enter Tryz.func123,Tryz.ntmps123
   go_upto_region 1 with fail
   generalize (w.alloc (.cells (ak l SA LA OA sn sc ln lc on oc) 41)).alloc (.cells #[.int .i64 kd,.int .i64 it,.slice W D Y] 89)=W9 at *
   obtain ⟨I,G,J,U⟩:=cs4 g.out
   obtain ⟨R,Q,H⟩:=cs3 j.out
   have K:=aB g.out
   have V:=aB j.out
   go_wp2_with fail
   refine (fK l SA LA OA sn sc ln lc on oc kd it es W D Y _ (HN.out.below u.out) HF.out (HE.out.below u.out) af).mono ?_
   rw [Z.out]
   rintro _ w1 ⟨rfl,q⟩
   have z:=Hd (aA u.out q)
   clear I G J U R Q H K V
   obtain ⟨I,G,J,U⟩:=cs4 (aC q g.out)
   obtain ⟨R,Q,H⟩:=cs3 (aC q j.out)
   have K:=aB (aC q g.out)
   have V:=aB (aC q j.out)
   have ag:=Hd (aC q g.out)
   have aj:=Hd (aC q j.out)
   clear q
   go_wp2_with fail
   go_ret
   exact ⟨dU HR.out,z.out⟩
  have de:((D:Int)==0)=false:=by simp;omega
  have HR:Hid (¬dI l ⟨kd,it,es⟩):=fun h=>by
   rcases (hB.1 h).2 with h|h
   ·exact k3 h.1
   exact al h.2.1
  clear hB B al k3
  go_enter Tryz.func123,Tryz.ntmps123
  go_upto_region 1 with fail
  generalize (w.alloc (.cells (ak l SA LA OA sn sc ln lc on oc) 41)).alloc (.cells #[.int .i64 kd,.int .i64 it,.slice W D Y] 89)=W9 at *
  obtain ⟨I,G,J,U⟩:=cs4 g.out
  obtain ⟨R,Q,H⟩:=cs3 j.out
  have K:=aB g.out
  have V:=aB j.out
  go_wp2_with fail
  refine (fK l SA LA OA sn sc ln lc on oc kd it es W D Y _ (HN.out.below u.out) HF.out (HE.out.below u.out) af).mono ?_
  rw [Z.out]
  rintro _ w1 ⟨rfl,q⟩
  have z:=Hd (aA u.out q)
  clear I G J U R Q H K V
  obtain ⟨I,G,J,U⟩:=cs4 (aC q g.out)
  obtain ⟨R,Q,H⟩:=cs3 (aC q j.out)
  have K:=aB (aC q g.out)
  have V:=aB (aC q j.out)
  have ag:=Hd (aC q g.out)
  have aj:=Hd (aC q j.out)
  clear q
  go_wp2_with fail
  go_ret
  exact ⟨aO HR.out,z.out⟩
 have Z:Hid (tb (dY l ⟨kd,it,es⟩)=false):=bJ B
 have HR:Hid (¬dI l ⟨kd,it,es⟩):=fun h=>B (hB.1 h).1
 clear hB B
 go_enter Tryz.func123,Tryz.ntmps123
 go_upto_region 1 with fail
 generalize (w.alloc (.cells (ak l SA LA OA sn sc ln lc on oc) 41)).alloc (.cells #[.int .i64 kd,.int .i64 it,.slice W D Y] 89)=W9 at *
 obtain ⟨I,G,J,U⟩:=cs4 g.out
 obtain ⟨R,Q,H⟩:=cs3 j.out
 have K:=aB g.out
 have V:=aB j.out
 go_wp2_with fail
 refine (fK l SA LA OA sn sc ln lc on oc kd it es W D Y _ (HN.out.below u.out) HF.out (HE.out.below u.out) af).mono ?_
 rw [Z.out]
 rintro _ w1 ⟨rfl,q⟩
 have z:=Hd (aA u.out q)
 clear I G J U R Q H K V
 have ag:=Hd (aC q g.out)
 have aj:=Hd (aC q j.out)
 clear q
 go_wp2_with fail
 go_ret
 exact ⟨aO HR.out,z.out⟩
theorem aJ.join {W w w':World} {j qs:List Pc} (S:aJ W w j) (T:aJ w w' qs):aJ W w' (j++qs):=by
 obtain ⟨h1,F,h2,h3,h4⟩:=S
 obtain ⟨g,G,D,B,q⟩:=T
 have hl:=h2.lt
 refine ⟨aA h1 g,F++G,(h2.keep g.size fun k hk=>g.block k (hl k hk)).append D,?_,fun k hk=>?_⟩
 ·rw [List.nodup_append]
  exact ⟨h3,B,fun a u b z e=>by have:=hl a u;have:=q b z;omega⟩
 rcases List.mem_append.1 hk with hk|hk
 ·exact h4 k hk
 have:=q k hk;have:=h1.size;omega
theorem eP {W wr:World} {j:List Pc} (S:aJ W wr j) (i:Nat) {C g:Nat} {xs:List Int} {X:Nat} (hi:j[i]?=some (.cel (aG (aH C xs)) (.slice (some ⟨g,0,none⟩) C C))) (u:X<C) :
  wr.cell? ⟨g,X,none⟩=some (.int .i64 ((cnt xs (X:Int):Nat):Int))/\wr.frozen? ⟨g,X,none⟩=false/\g<wr.heap.size/\aJ W (wr.setCell ⟨g,X,none⟩ (.int .i64 (((cnt xs (X:Int):Nat):Int)+1))) (j.set i (.cel (aG (aH C (xs++[(X:Int)]))) (.slice (some ⟨g,0,none⟩) C C))):=by
 obtain ⟨B,hg,_,h2,h3,h4,h5⟩:=S.setI i hi u
 injection hg with hg
 injection hg with hg
 subst hg
 rw [jb xs u] at h3
 refine ⟨h3,h4,h2,?_⟩
 have q:=h5 (((cnt xs (X:Int):Nat):Int)+1)
 have z:=tu (m:=C) xs (x:=(X:Int)) (by omega)
 rw [Int.toNat_natCast] at z
 rw [z] at q
 exact q
def Ai (W:World) (n m:Nat) (p u:Value) (w':World):Prop:=∃A B,p = .slice (some ⟨A,0,none⟩) n n/\u = .slice (some ⟨B,0,none⟩) m m/\aJ W w' [.cel (aG (aH n [])) p,.cel (aG (aH m [])) u]
theorem Ai.drew {W w':World} {n m:Nat} {p u:Value} (h:Ai W n m p u w'):Ai W n m p u w'.drew:=by
 obtain ⟨A,B,h1,h2,h3⟩:=h
 exact ⟨A,B,h1,h2,h3.drew⟩
theorem Aj {W w:World} {g:List Pc} (S:aJ W w g) (n:Nat) (hn:n<=1048576):aJ W (w.alloc (.cells (arr (List.replicate n 0)) 3)) (g++[.cel (aG (aH n [])) (.slice (some ⟨w.heap.size,0,none⟩) n n)]):=by
 rw [pW]
 exact S.pushOwn (aD (Below.refl _ _) _) (Own.arr (aI _ _) (Nat.le_refl _) (by unfold maxLen;omega) (by simp))
theorem FW {W w:World} {g:List Pc} (S:aJ W w g) (n:Nat) (hn:n<=1048576):aJ W (w.alloc (.cells (arr (List.replicate n 0)) 3)) (.cel (aG (aH n [])) (.slice (some ⟨w.heap.size,0,none⟩) n n) :: g):=by
 rw [pW]
 exact S.consOwn (aD (Below.refl _ _) _) (Own.arr (aI _ _) (Nat.le_refl _) (by unfold maxLen;omega) (by simp))
theorem Bc (W:World) (n m:Nat) (hn:n<=1048576) (g:m<=1048576):Ai W n m (.slice (some ⟨W.heap.size,0,none⟩) n n) (.slice (some ⟨W.heap.size+1,0,none⟩) m m) ((W.alloc (.cells (arr (List.replicate n 0)) 3)).alloc (.cells (arr (List.replicate m 0)) 3)):=by
 have h:=Aj (Aj (aJ.refl W) n hn) m g
 rw [World.size_alloc] at h
 exact ⟨_,_,rfl,rfl,h⟩
theorem Be (W:World) (n m:Nat) (hn:n<=1048576) (g:m<=1048576):Ai W n m (.slice (some ⟨W.heap.size+1,0,none⟩) n n) (.slice (some ⟨W.heap.size,0,none⟩) m m) ((W.alloc (.cells (arr (List.replicate m 0)) 3)).alloc (.cells (arr (List.replicate n 0)) 3)):=by
 have h:=FW (Aj (aJ.refl W) m g) n hn
 rw [World.size_alloc] at h
 exact ⟨_,_,rfl,rfl,h⟩
theorem uD (w:World) (o:Obj):w.drew.alloc o=(w.alloc o).drew:=rfl
theorem mq {bs:List Blk} {k:Nat} (h:k<bs.length):bs.take (k+1)=bs.take k++[bs[k]?.getD Blk.zero]:=bN h
theorem eU (kd:Int) (bs:List Blk):(bC kd bs).length<=bs.length:=by
 have h:=kX (f:=fun b:Blk=>if b.kind=kd then [b.item] else []) (m:=1) (xs:=bs) fun b _=>by split <;> simp
 unfold bC
 omega
theorem kw (es:List LeT):(bV es).length<=es.length:=by
 have h:=kX (f:=fun e:LeT=>if 0<=e.ff then [e.ff] else []) (m:=1) (xs:=es) fun b _=>by split <;> simp
 unfold bV
 omega
theorem ji (es:List LeT):(ax es).length<=es.length:=by
 have h:=kX (f:=fun e:LeT=>if 0<=e.lut then [e.lut] else []) (m:=1) (xs:=es) fun b _=>by split <;> simp
 unfold ax
 omega
theorem kH {l:ai} {b:Blk} (h:dI l b):b.les.length<=2:=by
 rcases h.2 with h|h
 ·exact h.2.2.1.2
 rw [h.2.1];simp
theorem wu {l:ai} {bs:List Blk} (h:∀b∈bs,dI l b):(dw bs).length<=bs.length * 3:=by
 refine kX (m:=3) fun b g=>?_
 have h1:=kw b.les
 have h2:=kH (h b g)
 unfold bV at h1
 rw [List.length_append]
 have h3:(if b.kind=2 then [b.item] else []).length<=1:=by split <;> simp
 omega
theorem ww {l:ai} {bs:List Blk} (h:∀b∈bs,dI l b):(eZ bs).length<=bs.length * 2:=by
 refine kX (m:=2) fun b g=>?_
 have h1:=ji b.les
 have h2:=kH (h b g)
 unfold ax at h1
 omega
theorem lM {l:ai} {b:Blk} (h:dI l b):∀e∈b.les,dQ l e:=by
 rcases h.2 with h2|h2
 ·obtain ⟨kd,it,es⟩:=b
  have h3:kd=3:=h2.1
  subst h3
  exact kF.1 h.1
 rw [h2.2.1];simp
theorem nY {W wr:World} {j:List Pc} (S:aJ W wr j) (i:Nat) {xs:List Int} {g n c:Nat} (hi:j[i]?=some (.cel (aG xs) (.slice (some ⟨g,0,none⟩) n c))):g<wr.heap.size/\W.heap.size<=g:=by
 obtain ⟨F,u,_,q,_⟩:=S.part i hi
 have h:=(gB.1 u).2
 have hg:g∈F:=by rw [h];simp [blk]
 exact ⟨(q g hg).2,(q g hg).1⟩
theorem xu {W wr:World} {q:List Pc} (S:aJ W wr q) (i j:Nat) (u:i≠j) {xs ys:List Int} {g z n c B I:Nat} (hi:q[i]?=some (.cel (aG xs) (.slice (some ⟨g,0,none⟩) n c))) (hj:q[j]?=some (.cel (aG ys) (.slice (some ⟨z,0,none⟩) B I))):g≠z:=by
 obtain ⟨J,K,G,H,_,_,D,_⟩:=S.two i j u hi hj
 have h1:=(gB.1 G).2
 have h2:=(gB.1 H).2
 rintro rfl
 exact D g (by rw [h2];simp [blk]) (by rw [h1];simp [blk])
end Go.Proofs.YtofihjoanjkdmaaGreat
