/- Valid blocks in the program (printed by mkblk.py). -/
import Derived.Test.YtofihjoanjkdmaaGreatLayF3
namespace Go.Proofs.YtofihjoanjkdmaaGreat
set_option maxHeartbeats 2000000
set_option maxRecDepth 100000
open Go.RowKit
theorem EH {b:Bool} {P:Prop} (h:b=true↔P):b=tb P:=by
 cases b with
 | true=>rw [ae (h.1 rfl)]
 | false=>rw [bJ fun g=>by cases h.2 g]
theorem EI {a b:Int} {P:Prop} (h:0<=a/\a<b↔P):inR a 0 (b - 1)=tb P:=EH (by rw [aR,←h];omega)
theorem fI (l:ag) (SA LA OA:Option Addr) (sn sc ln lc on oc:Nat) (kd it:Int) (es:List LeT) (I:Option Addr) (z H:Nat) (w:World) (h:fU w l SA LA OA sn sc ln lc on oc) (hf:az l) (hE:RdC w w.heap.size (cZ es) (.slice I z H)) (bf:z<=1048576) :
  Calls Tryz.prog 213 #[jE l SA LA OA sn sc ln lc on oc,.agg #[.int .i64 kd,.int .i64 it,.slice I z H]] w fun e w'=>e = .returned (.bool (tb (dY l ⟨kd,it,es⟩)))/\Below w.heap.size w w':=by
 have u:=hE.esN
 obtain ⟨HE,al⟩:=hd2 hE u
 clear hE u
 have B:=Hd (aB (aB (Below.refl w.heap.size w) (.cells (ai l SA LA OA sn sc ln lc on oc) 41)) (.cells #[.int .i64 kd,.int .i64 it,.slice I z H] 89))
 have hx:=aW (.cells #[.int .i64 kd,.int .i64 it,.slice I z H] 89) (aI w (.cells (ai l SA LA OA sn sc ln lc on oc) 41))
 have hy:=aI (w.alloc (.cells (ai l SA LA OA sn sc ln lc on oc) 41)) (.cells #[.int .i64 kd,.int .i64 it,.slice I z H] 89)
 simp only [World.size_alloc] at hy
 obtain ⟨g,q⟩:=hd2 hx hy
 clear hx hy
 obtain ⟨V,U,Y⟩:=h.lens
 have aH:=hf.nseq
 have aX:=hf.nlut
 have aE:=hf.nout
 have bd:=hf.inp
 rw [V] at aH
 rw [U] at aX
 rw [Y] at aE
 obtain ⟨HN,HF,aR,a7,aP⟩:=hd5 h hf V U Y
 have a8:Hid ((l.first:Int)=1+l.inputs+(sn:Int)):=by show _=_;unfold ag.first;omega
 have bc:Hid ((l.count:Int)=1+l.inputs+(sn:Int)+(ln:Int)):=by show _=_;unfold ag.count ag.first;omega
 clear h hf V U Y
 by_cases k0:kd=0
 ·subst k0
  have D:Hid (inR it 0 (l.inputs - 1)=tb (dY l ⟨0,it,es⟩)):=EI (by rw [oZ])
  go_enter Tryz.func213,Tryz.ntmps213
  go_upto_region 1 with fail
  generalize (w.alloc (.cells (ai l SA LA OA sn sc ln lc on oc) 41)).alloc (.cells #[.int .i64 0,.int .i64 it,.slice I z H] 89)=W9 at *
  have x0:=aF (k:=0) g.out rfl
  obtain ⟨y0,y1⟩:=cs2 q.out
  have R:=aC g.out
  have ly:=aC q.out
  go_wp2_with fail
  refine (aM it 0 (l.inputs - 1) _).mono ?_
  rintro _ w1 ⟨rfl,rfl⟩
  go_wp2_with fail
  go_ret
  exact ⟨dC D.out,B.out⟩
 by_cases k1:kd=1
 ·subst k1
  have D:Hid (inR it 0 ((on:Int) - 1)=tb (dY l ⟨1,it,es⟩)):=EI (by rw [og];rw [aP.out])
  go_enter Tryz.func213,Tryz.ntmps213
  go_upto_region 1 with fail
  generalize (w.alloc (.cells (ai l SA LA OA sn sc ln lc on oc) 41)).alloc (.cells #[.int .i64 1,.int .i64 it,.slice I z H] 89)=W9 at *
  have x3:=aF (k:=3) g.out rfl
  obtain ⟨y0,y1⟩:=cs2 q.out
  have R:=aC g.out
  have ly:=aC q.out
  go_wp2_with fail
  refine (aM it 0 ((on:Int) - 1) _).mono ?_
  rintro _ w1 ⟨rfl,rfl⟩
  go_wp2_with fail
  go_ret
  exact ⟨dC D.out,B.out⟩
 by_cases k2:kd=2
 ·subst k2
  have D:Hid (inR it 0 ((sn:Int) - 1)=tb (dY l ⟨2,it,es⟩)):=EI (by rw [jW];rw [aR.out])
  go_enter Tryz.func213,Tryz.ntmps213
  go_upto_region 1 with fail
  generalize (w.alloc (.cells (ai l SA LA OA sn sc ln lc on oc) 41)).alloc (.cells #[.int .i64 2,.int .i64 it,.slice I z H] 89)=W9 at *
  have x1:=aF (k:=1) g.out rfl
  obtain ⟨y0,y1⟩:=cs2 q.out
  have R:=aC g.out
  have ly:=aC q.out
  go_wp2_with fail
  refine (aM it 0 ((sn:Int) - 1) _).mono ?_
  rintro _ w1 ⟨rfl,rfl⟩
  go_wp2_with fail
  go_ret
  exact ⟨dC D.out,B.out⟩
 by_cases k3:kd=3
 ·subst k3
  clear k0 k1 k2
  go_enter Tryz.func213,Tryz.ntmps213
  go_upto_region 1 with fail
  generalize (w.alloc (.cells (ai l SA LA OA sn sc ln lc on oc) 41)).alloc (.cells #[.int .i64 3,.int .i64 it,.slice I z H] 89)=W9 at *
  have x0:=aF (k:=0) g.out rfl
  obtain ⟨y0,y1,y2⟩:=cs3 q.out
  have R:=aC g.out
  have ly:=aC q.out
  go_wp2_with fail
  clear x0 y0 y1 y2 R ly
  go_loopw [40] (fun i wr=>∃k:Nat,k<=z/\i = .int .i64 k/\Below W9.heap.size W9 wr/\∀j,j<k→dG l ⟨(es[j]?.getD LeT.zero).lut,(es[j]?.getD LeT.zero).ff⟩) (fun i _=>z - (intOf i).toNat)
  ·exact ⟨0,Nat.zero_le _,rfl,Below.refl _ _,fun j hj=>by omega⟩
  obtain ⟨k,hk,rfl,hb,Q⟩:=hrel
  obtain ⟨ak,G⟩:=hd2 hb Q
  have K:=Hd (aA B.out hb)
  clear hb Q
  by_cases aU:k<z
  ·have aS:=dT (by omega:k<z)
   have J:k<es.length:=by rw [al.out];exact aU
   obtain ⟨be,oe,rfl,af,c0,c1⟩:=HE.out.es (k:=k) J
   have bh:=aK K.out af
   rw [←K.out.cell (p:=⟨be,oe+k * 2,none⟩) af] at c0
   rw [←K.out.cell (p:=⟨be,oe+k * 2+1,none⟩) af] at c1
   have HG:Hid (dG l ⟨(es[k]?.getD LeT.zero).lut,(es[k]?.getD LeT.zero).ff⟩→∀j,j<k+1→dG l ⟨(es[j]?.getD LeT.zero).lut,(es[j]?.getD LeT.zero).ff⟩):=fun h=>bW G.out h
   have ad:Hid (¬dG l ⟨(es[k]?.getD LeT.zero).lut,(es[k]?.getD LeT.zero).ff⟩→¬dY l ⟨3,it,es⟩):=fun h h'=>h (by
    have:=kJ.1 h' _ (List.getElem_mem J)
    rwa [show es[k]=es[k]?.getD LeT.zero by rw [List.getElem?_eq_getElem J];rfl] at this)
   clear J
   generalize es[k]?.getD LeT.zero=e at *
   have hx:=aD (aB (Below.refl wr.heap.size wr) (.cells #[.int .i64 e.lut,.int .i64 e.ff] 94)) (aD ak.out g.out)
   obtain ⟨x0,x1,x2,x3,R⟩:=cO hx
   have hq:=aI wr (.cells #[.int .i64 e.lut,.int .i64 e.ff] 94)
   obtain ⟨q0,q1,lq⟩:=jv hq
   obtain ⟨i0,i1⟩:=ib (by omega:k<z)
   have Z:=Hd (aB ak.out (.cells #[.int .i64 e.lut,.int .i64 e.ff] 94))
   clear hx hq
   go_wp2_with fail
   refine (Ed l SA LA OA sn sc ln lc on oc e.lut e.ff _ (HN.out.below (aA B.out Z.out)) HF.out).mono ?_
   by_cases u:dG l ⟨e.lut,e.ff⟩
   ·rw [ae u]
    have aV:=Hd (HG.out u)
    rintro _ w1 ⟨rfl,b1⟩
    have W:=Hd (aA Z.out b1)
    clear b1 x0 x1 x2 x3 R q0 q1 lq c0 c1 u HG ad
    go_wp2_with fail
    go_roundw
    ·exact ⟨k+1,by omega,by go_num,W.out,aV.out⟩
    simp [intOf];omega
   rw [bJ u]
   have D:=Hd (ad.out u)
   rintro _ w1 ⟨rfl,b1⟩
   have W:=Hd (aA Z.out b1)
   clear b1 x0 x1 x2 x3 R q0 q1 lq c0 c1 u HG ad
   go_wp2_with fail
   go_ret
   exact ⟨aO D.out,aA B.out W.out⟩
  have am:k=z:=by omega
  have aS:=dF (by omega:z<=k)
  have D:Hid (dY l ⟨3,it,es⟩):=kJ.2 fun e he=>by
   obtain ⟨j,hj,rfl⟩:=List.getElem_of_mem he
   have h:=G.out j (by rw [am,←al.out];exact hj)
   rwa [show es[j]?.getD LeT.zero=es[j] by rw [List.getElem?_eq_getElem hj];rfl] at h
  clear G am
  go_wp2_with fail
  go_ret
  exact ⟨dU D.out,K.out⟩
 have D:Hid (¬dY l ⟨kd,it,es⟩):=fun h=>by have:=iL h;omega
 have d0:(kd==0)=false:=by simp [k0]
 have d1:(kd==1)=false:=by simp [k1]
 have d2:(kd==2)=false:=by simp [k2]
 have d3:(kd==3)=false:=by simp [k3]
 clear k0 k1 k2 k3
 go_enter Tryz.func213,Tryz.ntmps213
 go_upto_region 1 with fail
 generalize (w.alloc (.cells (ai l SA LA OA sn sc ln lc on oc) 41)).alloc (.cells #[.int .i64 kd,.int .i64 it,.slice I z H] 89)=W9 at *
 have x0:=aF (k:=0) g.out rfl
 obtain ⟨y0,y1⟩:=cs2 q.out
 have R:=aC g.out
 have ly:=aC q.out
 go_wp2_with fail
 go_ret
 exact ⟨aO D.out,B.out⟩
theorem vB {l:ag} {kd it:Int} {es:List LeT}:dM l ⟨kd,it,es⟩↔dY l ⟨kd,it,es⟩/\(kd=3/\it=0/\(1<=es.length/\es.length<=2)/\(fD l es).length<=5∨kd≠3/\es.length=0/\(kd=2→(l.seqs[it.toNat]?.getD Sq.zero).kind=1)):=by
 rw [List.length_eq_zero_iff]
 exact Iff.rfl
theorem zT (l:ag) (SA LA OA:Option Addr) (sn sc ln lc on oc:Nat) (kd it:Int) (es:List LeT) (Y:Option Addr) (D W:Nat) (w:World) (h:fU w l SA LA OA sn sc ln lc on oc) (hf:az l) (hE:RdC w w.heap.size (cZ es) (.slice Y D W)) (af:D<=1048576) :
  Calls Tryz.prog 123 #[jE l SA LA OA sn sc ln lc on oc,.agg #[.int .i64 kd,.int .i64 it,.slice Y D W]] w fun e w'=>e = .returned (.bool (tb (dM l ⟨kd,it,es⟩)))/\Below w.heap.size w w':=by
 have hB:=vB (l:=l) (kd:=kd) (it:=it) (es:=es)
 have aS:=hE.esN
 obtain ⟨HE,aY⟩:=hd2 hE aS
 clear hE aS
 have u:=Hd (aB (aB (Below.refl w.heap.size w) (.cells (ai l SA LA OA sn sc ln lc on oc) 41)) (.cells #[.int .i64 kd,.int .i64 it,.slice Y D W] 89))
 have hx:=aW (.cells #[.int .i64 kd,.int .i64 it,.slice Y D W] 89) (aI w (.cells (ai l SA LA OA sn sc ln lc on oc) 41))
 have hy:=aI (w.alloc (.cells (ai l SA LA OA sn sc ln lc on oc) 41)) (.cells #[.int .i64 kd,.int .i64 it,.slice Y D W] 89)
 simp only [World.size_alloc] at hy
 obtain ⟨j,g⟩:=hd2 hx hy
 clear hx hy
 obtain ⟨ay,ax,aF⟩:=h.lens
 have aX:=hf.nseq
 have a3:=hf.nlut
 have aV:=hf.nout
 have bg:=hf.inp
 rw [ay] at aX
 rw [ax] at a3
 rw [aF] at aV
 obtain ⟨HN,HF,aQ,bb,bf⟩:=hd5 h hf ay ax aF
 have bc:Hid ((l.first:Int)=1+l.inputs+(sn:Int)):=by show _=_;unfold ag.first;omega
 have be:Hid ((l.count:Int)=1+l.inputs+(sn:Int)+(ln:Int)):=by show _=_;unfold ag.count ag.first;omega
 clear h hf ay ax aF
 rw [aY.out] at hB
 by_cases B:dY l ⟨kd,it,es⟩
 ·have Z:Hid (tb (dY l ⟨kd,it,es⟩)=true):=ae B
  have HK:=Hd B
  by_cases k3:kd=3
  ·subst k3
   by_cases h0:it=0
   ·subst h0
    cases hr:inR (D:Int) 1 2 with
    | false =>
     have HR:Hid (¬dM l ⟨3,0,es⟩):=fun h=>by
      rcases (hB.1 h).2 with h|h
      ·rw [aR.2 (by omega)] at hr;cases hr
      exact h.1 rfl
     have ar:=Hd hr
     clear hr hB B
     go_enter Tryz.func123,Tryz.ntmps123
     go_upto_region 1 with fail
     generalize (w.alloc (.cells (ai l SA LA OA sn sc ln lc on oc) 41)).alloc (.cells #[.int .i64 3,.int .i64 0,.slice Y D W] 89)=W9 at *
     obtain ⟨Q,I,G,K⟩:=cs4 j.out
     obtain ⟨J,U,H⟩:=cs3 g.out
     have V:=aC j.out
     have R:=aC g.out
     go_wp2_with fail
     refine (fI l SA LA OA sn sc ln lc on oc 3 0 es Y D W _ (HN.out.below u.out) HF.out (HE.out.below u.out) af).mono ?_
     rw [Z.out]
     rintro _ w1 ⟨rfl,q⟩
     have z:=Hd (aA u.out q)
     clear Q I G K J U H V R
     obtain ⟨Q,I,G,K⟩:=cs4 (aD q j.out)
     obtain ⟨J,U,H⟩:=cs3 (aD q g.out)
     have V:=aC (aD q j.out)
     have R:=aC (aD q g.out)
     have aj:=Hd (aD q j.out)
     have ak:=Hd (aD q g.out)
     clear q
     go_wp2_with fail
     refine (aM (D:Int) 1 2 _).mono ?_
     rw [ar.out]
     rintro _ w2 ⟨rfl,rfl⟩
     go_wp2_with fail
     go_ret
     exact ⟨aO HR.out,z.out⟩
    | true =>
     have aL:=aR.1 hr
     have ar:=Hd hr
     have aP:D<=2:=by omega
     have aN:1<=D:=by omega
     clear hr aL
     by_cases hp:(fD l es).length<=5
     ·have HR:Hid (dM l ⟨3,0,es⟩):=hB.2 ⟨B,.inl ⟨rfl,rfl,⟨aN,aP⟩,hp⟩⟩
      have HP:=Hd hp
      clear hB B hp
      go_enter Tryz.func123,Tryz.ntmps123
      go_upto_region 1 with fail
      generalize (w.alloc (.cells (ai l SA LA OA sn sc ln lc on oc) 41)).alloc (.cells #[.int .i64 3,.int .i64 0,.slice Y D W] 89)=W9 at *
      obtain ⟨Q,I,G,K⟩:=cs4 j.out
      obtain ⟨J,U,H⟩:=cs3 g.out
      have V:=aC j.out
      have R:=aC g.out
      go_wp2_with fail
      refine (fI l SA LA OA sn sc ln lc on oc 3 0 es Y D W _ (HN.out.below u.out) HF.out (HE.out.below u.out) af).mono ?_
      rw [Z.out]
      rintro _ w1 ⟨rfl,q⟩
      have z:=Hd (aA u.out q)
      clear Q I G K J U H V R
      obtain ⟨Q,I,G,K⟩:=cs4 (aD q j.out)
      obtain ⟨J,U,H⟩:=cs3 (aD q g.out)
      have V:=aC (aD q j.out)
      have R:=aC (aD q g.out)
      have aj:=Hd (aD q j.out)
      have ak:=Hd (aD q g.out)
      clear q
      go_wp2_with fail
      refine (aM (D:Int) 1 2 _).mono ?_
      rw [ar.out]
      rintro _ w2 ⟨rfl,rfl⟩
      go_wp2_with fail
      refine (mX l SA LA OA sn sc ln lc on oc 3 0 es Y D W _ (HN.out.below z.out) HF.out (HE.out.below z.out) HK.out (by omega)).mono ?_
      rintro _ w3 ⟨PA,pn,pc,rfl,op,b3⟩
      have aH:=Hd (aA z.out b3)
      have ap:=op.len
      change (fD l es).length=pn at ap
      have a0:pn<=5:=by have:=HP.out;omega
      have dp:decide ((pn:Int)<=5)=true:=decide_eq_true (by omega)
      clear b3 op ap Q I G K J U H V R
      go_wp2_with fail
      go_ret
      exact ⟨dU HR.out,aH.out⟩
     have HR:Hid (¬dM l ⟨3,0,es⟩):=fun h=>by
      rcases (hB.1 h).2 with h|h
      ·exact hp h.2.2.2
      exact h.1 rfl
     have HP:=Hd hp
     clear hB B hp
     go_enter Tryz.func123,Tryz.ntmps123
     go_upto_region 1 with fail
     generalize (w.alloc (.cells (ai l SA LA OA sn sc ln lc on oc) 41)).alloc (.cells #[.int .i64 3,.int .i64 0,.slice Y D W] 89)=W9 at *
     obtain ⟨Q,I,G,K⟩:=cs4 j.out
     obtain ⟨J,U,H⟩:=cs3 g.out
     have V:=aC j.out
     have R:=aC g.out
     go_wp2_with fail
     refine (fI l SA LA OA sn sc ln lc on oc 3 0 es Y D W _ (HN.out.below u.out) HF.out (HE.out.below u.out) af).mono ?_
     rw [Z.out]
     rintro _ w1 ⟨rfl,q⟩
     have z:=Hd (aA u.out q)
     clear Q I G K J U H V R
     obtain ⟨Q,I,G,K⟩:=cs4 (aD q j.out)
     obtain ⟨J,U,H⟩:=cs3 (aD q g.out)
     have V:=aC (aD q j.out)
     have R:=aC (aD q g.out)
     have aj:=Hd (aD q j.out)
     have ak:=Hd (aD q g.out)
     clear q
     go_wp2_with fail
     refine (aM (D:Int) 1 2 _).mono ?_
     rw [ar.out]
     rintro _ w2 ⟨rfl,rfl⟩
     go_wp2_with fail
     refine (mX l SA LA OA sn sc ln lc on oc 3 0 es Y D W _ (HN.out.below z.out) HF.out (HE.out.below z.out) HK.out (by omega)).mono ?_
     rintro _ w3 ⟨PA,pn,pc,rfl,op,b3⟩
     have aH:=Hd (aA z.out b3)
     have ap:=op.len
     change (fD l es).length=pn at ap
     have a0:¬pn<=5:=by have:=HP.out;omega
     have dp:decide ((pn:Int)<=5)=false:=decide_eq_false (by omega)
     clear b3 op ap Q I G K J U H V R
     go_wp2_with fail
     go_ret
     exact ⟨aO HR.out,aH.out⟩
   have HR:Hid (¬dM l ⟨3,it,es⟩):=fun h=>by
    rcases (hB.1 h).2 with h|h
    ·exact h0 h.2.1
    exact h.1 rfl
   have d0:(it==0)=false:=by simp [h0]
   clear hB B h0
   go_enter Tryz.func123,Tryz.ntmps123
   go_upto_region 1 with fail
   generalize (w.alloc (.cells (ai l SA LA OA sn sc ln lc on oc) 41)).alloc (.cells #[.int .i64 3,.int .i64 it,.slice Y D W] 89)=W9 at *
   obtain ⟨Q,I,G,K⟩:=cs4 j.out
   obtain ⟨J,U,H⟩:=cs3 g.out
   have V:=aC j.out
   have R:=aC g.out
   go_wp2_with fail
   refine (fI l SA LA OA sn sc ln lc on oc 3 it es Y D W _ (HN.out.below u.out) HF.out (HE.out.below u.out) af).mono ?_
   rw [Z.out]
   rintro _ w1 ⟨rfl,q⟩
   have z:=Hd (aA u.out q)
   clear Q I G K J U H V R
   obtain ⟨Q,I,G,K⟩:=cs4 (aD q j.out)
   obtain ⟨J,U,H⟩:=cs3 (aD q g.out)
   have V:=aC (aD q j.out)
   have R:=aC (aD q g.out)
   have aj:=Hd (aD q j.out)
   have ak:=Hd (aD q g.out)
   clear q
   go_wp2_with fail
   go_ret
   exact ⟨aO HR.out,z.out⟩
  have d3:(kd != 3)=true:=by simp [k3]
  by_cases al:D=0
  ·have de:((D:Int)==0)=true:=by simp;omega
   by_cases k2:kd=2
   ·subst k2
    have aG:=jW.1 B
    rw [aQ.out] at aG
    obtain ⟨X,rfl⟩:∃X:Nat,it=(X:Int):=⟨it.toNat,by omega⟩
    rw [Int.toNat_natCast] at hB
    have hX:X<sn:=by omega
    obtain ⟨bs,os,IA,im,ic,rfl,au,c0,c1,c2,r2⟩:=HN.out.sq.sq' (k:=X) (by rw [aQ.out];exact hX)
    generalize l.seqs[X]?.getD Sq.zero=s at *
    clear c1 c2 r2 k3
    by_cases hk:s.kind=1
    ·have dk:(s.kind==1)=true:=by simp [hk]
     have HR:Hid (dM l ⟨2,(X:Int),es⟩):=hB.2 ⟨B,.inr ⟨by decide,al,fun _=>hk⟩⟩
     clear hB B hk al aG
     go_enter Tryz.func123,Tryz.ntmps123
     go_upto_region 1 with fail
     generalize (w.alloc (.cells (ai l (some ⟨bs,os,none⟩) LA OA sn sc ln lc on oc) 41)).alloc (.cells #[.int .i64 2,.int .i64 (X:Int),.slice Y D W] 89)=W9 at *
     obtain ⟨Q,I,G,K⟩:=cs4 j.out
     obtain ⟨J,U,H⟩:=cs3 g.out
     have V:=aC j.out
     have R:=aC g.out
     go_wp2_with fail
     refine (fI l (some ⟨bs,os,none⟩) LA OA sn sc ln lc on oc 2 (X:Int) es Y D W _ (HN.out.below u.out) HF.out (HE.out.below u.out) af).mono ?_
     rw [Z.out]
     rintro _ w1 ⟨rfl,q⟩
     have z:=Hd (aA u.out q)
     clear Q I G K J U H V R
     obtain ⟨Q,I,G,K⟩:=cs4 (aD q j.out)
     obtain ⟨J,U,H⟩:=cs3 (aD q g.out)
     have V:=aC (aD q j.out)
     have R:=aC (aD q g.out)
     have aj:=Hd (aD q j.out)
     have ak:=Hd (aD q g.out)
     have a1:=aK z.out au
     rw [←z.out.cell (p:=⟨bs,os+X * 3,none⟩) au] at c0
     clear q
     go_wp2_with fail
     go_ret
     exact ⟨dU HR.out,z.out⟩
    have dk:(s.kind==1)=false:=by simp [hk]
    have HR:Hid (¬dM l ⟨2,(X:Int),es⟩):=fun h=>by
     rcases (hB.1 h).2 with h|h
     ·exact absurd h.1 (by decide)
     exact hk (h.2.2 rfl)
    clear hB B hk al aG
    go_enter Tryz.func123,Tryz.ntmps123
    go_upto_region 1 with fail
    generalize (w.alloc (.cells (ai l (some ⟨bs,os,none⟩) LA OA sn sc ln lc on oc) 41)).alloc (.cells #[.int .i64 2,.int .i64 (X:Int),.slice Y D W] 89)=W9 at *
    obtain ⟨Q,I,G,K⟩:=cs4 j.out
    obtain ⟨J,U,H⟩:=cs3 g.out
    have V:=aC j.out
    have R:=aC g.out
    go_wp2_with fail
    refine (fI l (some ⟨bs,os,none⟩) LA OA sn sc ln lc on oc 2 (X:Int) es Y D W _ (HN.out.below u.out) HF.out (HE.out.below u.out) af).mono ?_
    rw [Z.out]
    rintro _ w1 ⟨rfl,q⟩
    have z:=Hd (aA u.out q)
    clear Q I G K J U H V R
    obtain ⟨Q,I,G,K⟩:=cs4 (aD q j.out)
    obtain ⟨J,U,H⟩:=cs3 (aD q g.out)
    have V:=aC (aD q j.out)
    have R:=aC (aD q g.out)
    have aj:=Hd (aD q j.out)
    have ak:=Hd (aD q g.out)
    have a1:=aK z.out au
    rw [←z.out.cell (p:=⟨bs,os+X * 3,none⟩) au] at c0
    clear q
    go_wp2_with fail
    go_ret
    exact ⟨aO HR.out,z.out⟩
   have d2:(kd != 2)=true:=by simp [k2]
   have HR:Hid (dM l ⟨kd,it,es⟩):=hB.2 ⟨B,.inr ⟨k3,al,fun h=>absurd h k2⟩⟩
   clear hB B k2 al k3
   go_enter Tryz.func123,Tryz.ntmps123
   go_upto_region 1 with fail
   generalize (w.alloc (.cells (ai l SA LA OA sn sc ln lc on oc) 41)).alloc (.cells #[.int .i64 kd,.int .i64 it,.slice Y D W] 89)=W9 at *
   obtain ⟨Q,I,G,K⟩:=cs4 j.out
   obtain ⟨J,U,H⟩:=cs3 g.out
   have V:=aC j.out
   have R:=aC g.out
   go_wp2_with fail
   refine (fI l SA LA OA sn sc ln lc on oc kd it es Y D W _ (HN.out.below u.out) HF.out (HE.out.below u.out) af).mono ?_
   rw [Z.out]
   rintro _ w1 ⟨rfl,q⟩
   have z:=Hd (aA u.out q)
   clear Q I G K J U H V R
   obtain ⟨Q,I,G,K⟩:=cs4 (aD q j.out)
   obtain ⟨J,U,H⟩:=cs3 (aD q g.out)
   have V:=aC (aD q j.out)
   have R:=aC (aD q g.out)
   have aj:=Hd (aD q j.out)
   have ak:=Hd (aD q g.out)
   clear q
   go_wp2_with fail
   go_ret
   exact ⟨dU HR.out,z.out⟩
  have de:((D:Int)==0)=false:=by simp;omega
  have HR:Hid (¬dM l ⟨kd,it,es⟩):=fun h=>by
   rcases (hB.1 h).2 with h|h
   ·exact k3 h.1
   exact al h.2.1
  clear hB B al k3
  go_enter Tryz.func123,Tryz.ntmps123
  go_upto_region 1 with fail
  generalize (w.alloc (.cells (ai l SA LA OA sn sc ln lc on oc) 41)).alloc (.cells #[.int .i64 kd,.int .i64 it,.slice Y D W] 89)=W9 at *
  obtain ⟨Q,I,G,K⟩:=cs4 j.out
  obtain ⟨J,U,H⟩:=cs3 g.out
  have V:=aC j.out
  have R:=aC g.out
  go_wp2_with fail
  refine (fI l SA LA OA sn sc ln lc on oc kd it es Y D W _ (HN.out.below u.out) HF.out (HE.out.below u.out) af).mono ?_
  rw [Z.out]
  rintro _ w1 ⟨rfl,q⟩
  have z:=Hd (aA u.out q)
  clear Q I G K J U H V R
  obtain ⟨Q,I,G,K⟩:=cs4 (aD q j.out)
  obtain ⟨J,U,H⟩:=cs3 (aD q g.out)
  have V:=aC (aD q j.out)
  have R:=aC (aD q g.out)
  have aj:=Hd (aD q j.out)
  have ak:=Hd (aD q g.out)
  clear q
  go_wp2_with fail
  go_ret
  exact ⟨aO HR.out,z.out⟩
 have Z:Hid (tb (dY l ⟨kd,it,es⟩)=false):=bJ B
 have HR:Hid (¬dM l ⟨kd,it,es⟩):=fun h=>B (hB.1 h).1
 clear hB B
 go_enter Tryz.func123,Tryz.ntmps123
 go_upto_region 1 with fail
 generalize (w.alloc (.cells (ai l SA LA OA sn sc ln lc on oc) 41)).alloc (.cells #[.int .i64 kd,.int .i64 it,.slice Y D W] 89)=W9 at *
 obtain ⟨Q,I,G,K⟩:=cs4 j.out
 obtain ⟨J,U,H⟩:=cs3 g.out
 have V:=aC j.out
 have R:=aC g.out
 go_wp2_with fail
 refine (fI l SA LA OA sn sc ln lc on oc kd it es Y D W _ (HN.out.below u.out) HF.out (HE.out.below u.out) af).mono ?_
 rw [Z.out]
 rintro _ w1 ⟨rfl,q⟩
 have z:=Hd (aA u.out q)
 clear Q I G K J U H V R
 have aj:=Hd (aD q j.out)
 have ak:=Hd (aD q g.out)
 clear q
 go_wp2_with fail
 go_ret
 exact ⟨aO HR.out,z.out⟩
theorem aJ.join {W w w':World} {ps qs:List Pc} (S:aJ W w ps) (T:aJ w w' qs):aJ W w' (ps++qs):=by
 obtain ⟨h1,F,h2,h3,h4⟩:=S
 obtain ⟨g,G,q,B,j⟩:=T
 have hl:=h2.lt
 refine ⟨aA h1 g,F++G,(h2.keep g.size fun k hk=>g.block k (hl k hk)).append q,?_,fun k hk=>?_⟩
 ·rw [List.nodup_append]
  exact ⟨h3,B,fun a u b z e=>by have:=hl a u;have:=j b z;omega⟩
 rcases List.mem_append.1 hk with hk|hk
 ·exact h4 k hk
 have:=j k hk;have:=h1.size;omega
theorem eD {W wr:World} {ps:List Pc} (S:aJ W wr ps) (i:Nat) {C g:Nat} {xs:List Int} {X:Nat} (hi:ps[i]?=some (.cel (aH (aG C xs)) (.slice (some ⟨g,0,none⟩) C C))) (u:X<C) :
  wr.cell? ⟨g,X,none⟩=some (.int .i64 ((cnt xs (X:Int):Nat):Int))/\wr.frozen? ⟨g,X,none⟩=false/\g<wr.heap.size/\aJ W (wr.setCell ⟨g,X,none⟩ (.int .i64 (((cnt xs (X:Int):Nat):Int)+1))) (ps.set i (.cel (aH (aG C (xs++[(X:Int)]))) (.slice (some ⟨g,0,none⟩) C C))):=by
 obtain ⟨z,hg,_,h2,h3,h4,h5⟩:=S.setI i hi u
 injection hg with hg
 injection hg with hg
 subst hg
 rw [jb xs u] at h3
 refine ⟨h3,h4,h2,?_⟩
 have j:=h5 (((cnt xs (X:Int):Nat):Int)+1)
 have q:=tq (m:=C) xs (x:=(X:Int)) (by omega)
 rw [Int.toNat_natCast] at q
 rw [q] at j
 exact j
def Av (W:World) (n m:Nat) (p u:Value) (w':World):Prop:=∃A B,p = .slice (some ⟨A,0,none⟩) n n/\u = .slice (some ⟨B,0,none⟩) m m/\aJ W w' [.cel (aH (aG n [])) p,.cel (aH (aG m [])) u]
theorem Av.drew {W w':World} {n m:Nat} {p u:Value} (h:Av W n m p u w'):Av W n m p u w'.drew:=by
 obtain ⟨A,B,h1,h2,h3⟩:=h
 exact ⟨A,B,h1,h2,h3.drew⟩
theorem Aw {W w:World} {ps:List Pc} (S:aJ W w ps) (n:Nat) (hn:n<=1048576):aJ W (w.alloc (.cells (arr (List.replicate n 0)) 3)) (ps++[.cel (aH (aG n [])) (.slice (some ⟨w.heap.size,0,none⟩) n n)]):=by
 rw [pu]
 exact S.pushOwn (aB (Below.refl _ _) _) (Own.arr (aI _ _) (Nat.le_refl _) (by unfold maxLen;omega) (by simp))
theorem Fx {W w:World} {ps:List Pc} (S:aJ W w ps) (n:Nat) (hn:n<=1048576):aJ W (w.alloc (.cells (arr (List.replicate n 0)) 3)) (.cel (aH (aG n [])) (.slice (some ⟨w.heap.size,0,none⟩) n n) :: ps):=by
 rw [pu]
 exact S.consOwn (aB (Below.refl _ _) _) (Own.arr (aI _ _) (Nat.le_refl _) (by unfold maxLen;omega) (by simp))
theorem Bq (W:World) (n m:Nat) (hn:n<=1048576) (g:m<=1048576):Av W n m (.slice (some ⟨W.heap.size,0,none⟩) n n) (.slice (some ⟨W.heap.size+1,0,none⟩) m m) ((W.alloc (.cells (arr (List.replicate n 0)) 3)).alloc (.cells (arr (List.replicate m 0)) 3)):=by
 have h:=Aw (Aw (aJ.refl W) n hn) m g
 rw [World.size_alloc] at h
 exact ⟨_,_,rfl,rfl,h⟩
theorem Br (W:World) (n m:Nat) (hn:n<=1048576) (g:m<=1048576):Av W n m (.slice (some ⟨W.heap.size+1,0,none⟩) n n) (.slice (some ⟨W.heap.size,0,none⟩) m m) ((W.alloc (.cells (arr (List.replicate m 0)) 3)).alloc (.cells (arr (List.replicate n 0)) 3)):=by
 have h:=Fx (Aw (aJ.refl W) m g) n hn
 rw [World.size_alloc] at h
 exact ⟨_,_,rfl,rfl,h⟩
theorem uB (w:World) (o:Obj):w.drew.alloc o=(w.alloc o).drew:=rfl
theorem mr {bs:List Blk} {k:Nat} (h:k<bs.length):bs.take (k+1)=bs.take k++[bs[k]?.getD Blk.zero]:=bU h
theorem eO (kd:Int) (bs:List Blk):(bA kd bs).length<=bs.length:=by
 have h:=kg (f:=fun b:Blk=>if b.kind=kd then [b.item] else []) (m:=1) (xs:=bs) fun b _=>by split <;> simp
 unfold bA
 omega
theorem kz (es:List LeT):(bX es).length<=es.length:=by
 have h:=kg (f:=fun e:LeT=>if 0<=e.ff then [e.ff] else []) (m:=1) (xs:=es) fun b _=>by split <;> simp
 unfold bX
 omega
theorem jh (es:List LeT):(av es).length<=es.length:=by
 have h:=kg (f:=fun e:LeT=>if 0<=e.lut then [e.lut] else []) (m:=1) (xs:=es) fun b _=>by split <;> simp
 unfold av
 omega
theorem lT {l:ag} {b:Blk} (h:dM l b):b.les.length<=2:=by
 rcases h.2 with h|h
 ·exact h.2.2.1.2
 rw [h.2.1];simp
theorem ww {l:ag} {bs:List Blk} (h:∀b∈bs,dM l b):(di bs).length<=bs.length * 3:=by
 refine kg (m:=3) fun b g=>?_
 have h1:=kz b.les
 have h2:=lT (h b g)
 unfold bX at h1
 rw [List.length_append]
 have h3:(if b.kind=2 then [b.item] else []).length<=1:=by split <;> simp
 omega
theorem xA {l:ag} {bs:List Blk} (h:∀b∈bs,dM l b):(eT bs).length<=bs.length * 2:=by
 refine kg (m:=2) fun b g=>?_
 have h1:=jh b.les
 have h2:=lT (h b g)
 unfold av at h1
 omega
theorem nU {l:ag} {b:Blk} (h:dM l b):∀e∈b.les,dG l e:=by
 rcases h.2 with h2|h2
 ·obtain ⟨kd,it,es⟩:=b
  have h3:kd=3:=h2.1
  subst h3
  exact kJ.1 h.1
 rw [h2.2.1];simp
theorem nV {W wr:World} {ps:List Pc} (S:aJ W wr ps) (i:Nat) {xs:List Int} {g n c:Nat} (hi:ps[i]?=some (.cel (aH xs) (.slice (some ⟨g,0,none⟩) n c))):g<wr.heap.size/\W.heap.size<=g:=by
 obtain ⟨F,q,_,j,_⟩:=S.part i hi
 have h:=(eB.1 q).2
 have hg:g∈F:=by rw [h];simp [blk]
 exact ⟨(j g hg).2,(j g hg).1⟩
theorem xg {W wr:World} {ps:List Pc} (S:aJ W wr ps) (i j:Nat) (q:i≠j) {xs ys:List Int} {g u n c G D:Nat} (hi:ps[i]?=some (.cel (aH xs) (.slice (some ⟨g,0,none⟩) n c))) (hj:ps[j]?=some (.cel (aH ys) (.slice (some ⟨u,0,none⟩) G D))):g≠u:=by
 obtain ⟨J,I,H,z,_,_,B,_⟩:=S.two i j q hi hj
 have h1:=(eB.1 H).2
 have h2:=(eB.1 z).2
 rintro rfl
 exact B g (by rw [h2];simp [blk]) (by rw [h1];simp [blk])
end Go.Proofs.YtofihjoanjkdmaaGreat
