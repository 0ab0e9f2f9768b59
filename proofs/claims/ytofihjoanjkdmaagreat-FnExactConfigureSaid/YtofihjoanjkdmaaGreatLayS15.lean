/- Blocks in the reference: which are known, their input pins (printed by mkpins.py). -/
import Derived.Test.YtofihjoanjkdmaaGreatLayF5
import Derived.Test.YtofihjoanjkdmaaGreatLayS2
import Derived.Test.YtofihjoanjkdmaaGreatSepL
namespace Go.Proofs.YtofihjoanjkdmaaGreat
set_option maxHeartbeats 4000000
set_option maxRecDepth 100000
open Go.RowKit
theorem dI (l:ag) (SA LA OA:Option Addr) (sn sc ln lc on oc:Nat) (kd it:Int) (es:List LeT) (Z:Option Addr) (V Y:Nat) (w:World) (h:fU w l SA LA OA sn sc ln lc on oc) (hE:RdC w w.heap.size (cZ es) (.slice Z V Y)) (bA:V<=1048576) :
  Calls Tryz.prog 203 #[jE l SA LA OA sn sc ln lc on oc,.agg #[.int .i64 kd,.int .i64 it,.slice Z V Y]] w fun e w'=>e = .returned (.bool (tb (az l/\dY l ⟨kd,it,es⟩)))/\Below w.heap.size w w':=by
 have W:=hE.esN
 obtain ⟨HE,aZ⟩:=hd2 hE W
 clear hE W
 have B:=Hd (aB (aB (Below.refl w.heap.size w) (.cells (ai l SA LA OA sn sc ln lc on oc) 41)) (.cells #[.int .i64 kd,.int .i64 it,.slice Z V Y] 89))
 have hx:=aW (.cells #[.int .i64 kd,.int .i64 it,.slice Z V Y] 89) (aI w (.cells (ai l SA LA OA sn sc ln lc on oc) 41))
 have hy:=aI (w.alloc (.cells (ai l SA LA OA sn sc ln lc on oc) 41)) (.cells #[.int .i64 kd,.int .i64 it,.slice Z V Y] 89)
 simp only [World.size_alloc] at hy
 obtain ⟨q,g⟩:=hd2 hx hy
 clear hx hy
 obtain ⟨aX,aU,a2⟩:=h.lens
 obtain ⟨HN,ah,bd,ad⟩:=hd4 h aX aU a2
 clear h aX aU a2
 by_cases hf:az l
 ·have R:Hid (tb (az l)=true):=ae hf
  have bf:=hf.nseq
  have bo:=hf.nlut
  have bc:=hf.nout
  have bx:=hf.inp
  rw [ah.out] at bf
  rw [bd.out] at bo
  rw [ad.out] at bc
  have HF:=Hd hf
  clear hf
  by_cases k0:kd=0
  ·subst k0
   by_cases h0:0<=it
   ·have d0:decide (it≥0)=true:=decide_eq_true h0
    by_cases h1:it<l.inputs
    ·have d1:decide (it<l.inputs)=true:=decide_eq_true h1
     have Q:Hid (az l/\dY l ⟨0,it,es⟩):=⟨HF.out,oZ.2 ⟨h0,by have:=ah.out;have:=ad.out;omega⟩⟩
     clear h0 h1
     go_enter Tryz.func203,Tryz.ntmps203
     go_upto_region 1 with fail
     generalize (w.alloc (.cells (ai l SA LA OA sn sc ln lc on oc) 41)).alloc (.cells #[.int .i64 0,.int .i64 it,.slice Z V Y] 89)=W9 at *
     obtain ⟨I,J,U,K,H⟩:=cO q.out
     have G:=aC g.out
     go_wp2_with fail
     refine (dQ l SA LA OA sn sc ln lc on oc _ (HN.out.below B.out)).mono ?_
     rw [R.out]
     rintro _ w1 ⟨rfl,D⟩
     have z:=Hd (aA B.out D)
     have u:=Hd D
     clear I J U K  H G D
     have I:=aF (k:=0) (aD u.out q.out) rfl
     obtain ⟨y0,y1⟩:=cs2 (aD u.out g.out)
     have H:=aC (aD u.out q.out)
     have G:=aC (aD u.out g.out)
     go_wp2_with fail
     go_ret
     exact ⟨dU Q.out,z.out⟩
    have d1:decide (it<l.inputs)=false:=decide_eq_false h1
    have Q:Hid (¬(az l/\dY l ⟨0,it,es⟩)):=fun h=>h1 (by have h2:=(oZ.1 h.2).2;have:=ah.out;have:=ad.out;omega)
    clear h0 h1
    go_enter Tryz.func203,Tryz.ntmps203
    go_upto_region 1 with fail
    generalize (w.alloc (.cells (ai l SA LA OA sn sc ln lc on oc) 41)).alloc (.cells #[.int .i64 0,.int .i64 it,.slice Z V Y] 89)=W9 at *
    obtain ⟨I,J,U,K,H⟩:=cO q.out
    have G:=aC g.out
    go_wp2_with fail
    refine (dQ l SA LA OA sn sc ln lc on oc _ (HN.out.below B.out)).mono ?_
    rw [R.out]
    rintro _ w1 ⟨rfl,D⟩
    have z:=Hd (aA B.out D)
    have u:=Hd D
    clear I J U K  H G D
    have I:=aF (k:=0) (aD u.out q.out) rfl
    obtain ⟨y0,y1⟩:=cs2 (aD u.out g.out)
    have H:=aC (aD u.out q.out)
    have G:=aC (aD u.out g.out)
    go_wp2_with fail
    go_ret
    exact ⟨aO Q.out,z.out⟩
   have d0:decide (it≥0)=false:=decide_eq_false h0
   have Q:Hid (¬(az l/\dY l ⟨0,it,es⟩)):=fun h=>h0 (oZ.1 h.2).1
   clear h0
   go_enter Tryz.func203,Tryz.ntmps203
   go_upto_region 1 with fail
   generalize (w.alloc (.cells (ai l SA LA OA sn sc ln lc on oc) 41)).alloc (.cells #[.int .i64 0,.int .i64 it,.slice Z V Y] 89)=W9 at *
   obtain ⟨I,J,U,K,H⟩:=cO q.out
   have G:=aC g.out
   go_wp2_with fail
   refine (dQ l SA LA OA sn sc ln lc on oc _ (HN.out.below B.out)).mono ?_
   rw [R.out]
   rintro _ w1 ⟨rfl,D⟩
   have z:=Hd (aA B.out D)
   have u:=Hd D
   clear I J U K  H G D
   have I:=aF (k:=0) (aD u.out q.out) rfl
   obtain ⟨y0,y1⟩:=cs2 (aD u.out g.out)
   have H:=aC (aD u.out q.out)
   have G:=aC (aD u.out g.out)
   go_wp2_with fail
   go_ret
   exact ⟨aO Q.out,z.out⟩
  by_cases k1:kd=1
  ·subst k1
   by_cases h0:0<=it
   ·have d0:decide (it≥0)=true:=decide_eq_true h0
    by_cases h1:it<(on:Int)
    ·have d1:decide (it<(on:Int))=true:=decide_eq_true h1
     have Q:Hid (az l/\dY l ⟨1,it,es⟩):=⟨HF.out,og.2 ⟨h0,by have:=ah.out;have:=ad.out;omega⟩⟩
     clear h0 h1
     go_enter Tryz.func203,Tryz.ntmps203
     go_upto_region 1 with fail
     generalize (w.alloc (.cells (ai l SA LA OA sn sc ln lc on oc) 41)).alloc (.cells #[.int .i64 1,.int .i64 it,.slice Z V Y] 89)=W9 at *
     obtain ⟨I,J,U,K,H⟩:=cO q.out
     have G:=aC g.out
     go_wp2_with fail
     refine (dQ l SA LA OA sn sc ln lc on oc _ (HN.out.below B.out)).mono ?_
     rw [R.out]
     rintro _ w1 ⟨rfl,D⟩
     have z:=Hd (aA B.out D)
     have u:=Hd D
     clear I J U K  H G D
     have K:=aF (k:=3) (aD u.out q.out) rfl
     obtain ⟨y0,y1⟩:=cs2 (aD u.out g.out)
     have H:=aC (aD u.out q.out)
     have G:=aC (aD u.out g.out)
     go_wp2_with fail
     go_ret
     exact ⟨dU Q.out,z.out⟩
    have d1:decide (it<(on:Int))=false:=decide_eq_false h1
    have Q:Hid (¬(az l/\dY l ⟨1,it,es⟩)):=fun h=>h1 (by have h2:=(og.1 h.2).2;have:=ah.out;have:=ad.out;omega)
    clear h0 h1
    go_enter Tryz.func203,Tryz.ntmps203
    go_upto_region 1 with fail
    generalize (w.alloc (.cells (ai l SA LA OA sn sc ln lc on oc) 41)).alloc (.cells #[.int .i64 1,.int .i64 it,.slice Z V Y] 89)=W9 at *
    obtain ⟨I,J,U,K,H⟩:=cO q.out
    have G:=aC g.out
    go_wp2_with fail
    refine (dQ l SA LA OA sn sc ln lc on oc _ (HN.out.below B.out)).mono ?_
    rw [R.out]
    rintro _ w1 ⟨rfl,D⟩
    have z:=Hd (aA B.out D)
    have u:=Hd D
    clear I J U K  H G D
    have K:=aF (k:=3) (aD u.out q.out) rfl
    obtain ⟨y0,y1⟩:=cs2 (aD u.out g.out)
    have H:=aC (aD u.out q.out)
    have G:=aC (aD u.out g.out)
    go_wp2_with fail
    go_ret
    exact ⟨aO Q.out,z.out⟩
   have d0:decide (it≥0)=false:=decide_eq_false h0
   have Q:Hid (¬(az l/\dY l ⟨1,it,es⟩)):=fun h=>h0 (og.1 h.2).1
   clear h0
   go_enter Tryz.func203,Tryz.ntmps203
   go_upto_region 1 with fail
   generalize (w.alloc (.cells (ai l SA LA OA sn sc ln lc on oc) 41)).alloc (.cells #[.int .i64 1,.int .i64 it,.slice Z V Y] 89)=W9 at *
   obtain ⟨I,J,U,K,H⟩:=cO q.out
   have G:=aC g.out
   go_wp2_with fail
   refine (dQ l SA LA OA sn sc ln lc on oc _ (HN.out.below B.out)).mono ?_
   rw [R.out]
   rintro _ w1 ⟨rfl,D⟩
   have z:=Hd (aA B.out D)
   have u:=Hd D
   clear I J U K  H G D
   have K:=aF (k:=3) (aD u.out q.out) rfl
   obtain ⟨y0,y1⟩:=cs2 (aD u.out g.out)
   have H:=aC (aD u.out q.out)
   have G:=aC (aD u.out g.out)
   go_wp2_with fail
   go_ret
   exact ⟨aO Q.out,z.out⟩
  by_cases k2:kd=2
  ·subst k2
   by_cases h0:0<=it
   ·have d0:decide (it≥0)=true:=decide_eq_true h0
    by_cases h1:it<(sn:Int)
    ·have d1:decide (it<(sn:Int))=true:=decide_eq_true h1
     have Q:Hid (az l/\dY l ⟨2,it,es⟩):=⟨HF.out,jW.2 ⟨h0,by have:=ah.out;have:=ad.out;omega⟩⟩
     clear h0 h1
     go_enter Tryz.func203,Tryz.ntmps203
     go_upto_region 1 with fail
     generalize (w.alloc (.cells (ai l SA LA OA sn sc ln lc on oc) 41)).alloc (.cells #[.int .i64 2,.int .i64 it,.slice Z V Y] 89)=W9 at *
     obtain ⟨I,J,U,K,H⟩:=cO q.out
     have G:=aC g.out
     go_wp2_with fail
     refine (dQ l SA LA OA sn sc ln lc on oc _ (HN.out.below B.out)).mono ?_
     rw [R.out]
     rintro _ w1 ⟨rfl,D⟩
     have z:=Hd (aA B.out D)
     have u:=Hd D
     clear I J U K  H G D
     have J:=aF (k:=1) (aD u.out q.out) rfl
     obtain ⟨y0,y1⟩:=cs2 (aD u.out g.out)
     have H:=aC (aD u.out q.out)
     have G:=aC (aD u.out g.out)
     go_wp2_with fail
     go_ret
     exact ⟨dU Q.out,z.out⟩
    have d1:decide (it<(sn:Int))=false:=decide_eq_false h1
    have Q:Hid (¬(az l/\dY l ⟨2,it,es⟩)):=fun h=>h1 (by have h2:=(jW.1 h.2).2;have:=ah.out;have:=ad.out;omega)
    clear h0 h1
    go_enter Tryz.func203,Tryz.ntmps203
    go_upto_region 1 with fail
    generalize (w.alloc (.cells (ai l SA LA OA sn sc ln lc on oc) 41)).alloc (.cells #[.int .i64 2,.int .i64 it,.slice Z V Y] 89)=W9 at *
    obtain ⟨I,J,U,K,H⟩:=cO q.out
    have G:=aC g.out
    go_wp2_with fail
    refine (dQ l SA LA OA sn sc ln lc on oc _ (HN.out.below B.out)).mono ?_
    rw [R.out]
    rintro _ w1 ⟨rfl,D⟩
    have z:=Hd (aA B.out D)
    have u:=Hd D
    clear I J U K  H G D
    have J:=aF (k:=1) (aD u.out q.out) rfl
    obtain ⟨y0,y1⟩:=cs2 (aD u.out g.out)
    have H:=aC (aD u.out q.out)
    have G:=aC (aD u.out g.out)
    go_wp2_with fail
    go_ret
    exact ⟨aO Q.out,z.out⟩
   have d0:decide (it≥0)=false:=decide_eq_false h0
   have Q:Hid (¬(az l/\dY l ⟨2,it,es⟩)):=fun h=>h0 (jW.1 h.2).1
   clear h0
   go_enter Tryz.func203,Tryz.ntmps203
   go_upto_region 1 with fail
   generalize (w.alloc (.cells (ai l SA LA OA sn sc ln lc on oc) 41)).alloc (.cells #[.int .i64 2,.int .i64 it,.slice Z V Y] 89)=W9 at *
   obtain ⟨I,J,U,K,H⟩:=cO q.out
   have G:=aC g.out
   go_wp2_with fail
   refine (dQ l SA LA OA sn sc ln lc on oc _ (HN.out.below B.out)).mono ?_
   rw [R.out]
   rintro _ w1 ⟨rfl,D⟩
   have z:=Hd (aA B.out D)
   have u:=Hd D
   clear I J U K  H G D
   have J:=aF (k:=1) (aD u.out q.out) rfl
   obtain ⟨y0,y1⟩:=cs2 (aD u.out g.out)
   have H:=aC (aD u.out q.out)
   have G:=aC (aD u.out g.out)
   go_wp2_with fail
   go_ret
   exact ⟨aO Q.out,z.out⟩
  have d0:(kd==0)=false:=by simp [k0]
  have d1:(kd==1)=false:=by simp [k1]
  have d2:(kd==2)=false:=by simp [k2]
  have aq:kd≠0/\kd≠1/\kd≠2:=⟨k0,k1,k2⟩
  clear k0 k1 k2
  have aE:=Hd aq
  clear aq
  go_enter Tryz.func203,Tryz.ntmps203
  go_upto_region 1 with fail
  generalize (w.alloc (.cells (ai l SA LA OA sn sc ln lc on oc) 41)).alloc (.cells #[.int .i64 kd,.int .i64 it,.slice Z V Y] 89)=W9 at *
  obtain ⟨I,J,U,K,H⟩:=cO q.out
  have G:=aC g.out
  go_wp2_with fail
  refine (dQ l SA LA OA sn sc ln lc on oc _ (HN.out.below B.out)).mono ?_
  rw [R.out]
  rintro _ w1 ⟨rfl,D⟩
  have z:=Hd (aA B.out D)
  have u:=Hd D
  obtain ⟨W8,rfl⟩:∃x,x=w1:=⟨w1,rfl⟩
  clear I J U K  H G D
  have I:=aF (k:=0) (aD u.out q.out) rfl
  obtain ⟨y0,y1,y2⟩:=cs3 (aD u.out g.out)
  have H:=aC (aD u.out q.out)
  have G:=aC (aD u.out g.out)
  go_wp2_with fail
  clear I y0 y1 y2 H G
  go_loopw [5] (fun i wr=>∃k:Nat,k<=V/\i = .int .i64 k/\Below W8.heap.size W8 wr/\∀j,j<k→dG l ⟨(es[j]?.getD LeT.zero).lut,(es[j]?.getD LeT.zero).ff⟩) (fun i _=>V - (intOf i).toNat)
  ·exact ⟨0,Nat.zero_le _,rfl,Below.refl _ _,fun j hj=>by omega⟩
  obtain ⟨k,hk,rfl,hb,ay⟩:=hrel
  obtain ⟨aV,ap⟩:=hd2 hb ay
  have al:=Hd (aA z.out hb)
  have hx:=aD hb (aD u.out q.out)
  have hy:=aD hb (aD u.out g.out)
  obtain ⟨y0,-,y2,G⟩:=jX hy
  clear hb ay
  by_cases bm:k<V
  ·have bk:=dT (by omega:k<V)
   obtain ⟨I,J,U,K,H⟩:=cO hx
   clear hx hy
   have aw:k<es.length:=by rw [aZ.out];exact bm
   obtain ⟨be,oe,aT,aJ,c0,c1⟩:=HE.out.es (k:=k) aw
   have bl:=Hd aT
   have a4:=aK al.out aJ
   rw [←al.out.cell (p:=⟨be,oe+k * 2,none⟩) aJ] at c0
   rw [←al.out.cell (p:=⟨be,oe+k * 2+1,none⟩) aJ] at c1
   have HG:Hid (dG l ⟨(es[k]?.getD LeT.zero).lut,(es[k]?.getD LeT.zero).ff⟩→∀j,j<k+1→dG l ⟨(es[j]?.getD LeT.zero).lut,(es[j]?.getD LeT.zero).ff⟩):=fun h=>bW ap.out h
   have ax:Hid (¬dG l ⟨(es[k]?.getD LeT.zero).lut,(es[k]?.getD LeT.zero).ff⟩→¬(az l/\dY l ⟨kd,it,es⟩)):=fun h h'=>h (by
    have bh:kd=3:=by have h9:=iL h'.2;have h8:=aE.out;omega
    have h2:=h'.2
    subst bh
    have:=kJ.1 h2 _ (List.getElem_mem aw)
    rwa [show es[k]=es[k]?.getD LeT.zero by rw [List.getElem?_eq_getElem aw];rfl] at this)
   clear aw aT
   obtain rfl:=bl.out
   generalize es[k]?.getD LeT.zero=e at *
   obtain ⟨a,b⟩:=e
   simp only at c0 c1 HG ax
   obtain ⟨i0,i1⟩:=ib (by omega:k<V)
   go_upto_region 13 with fail
   have aj:=fun (v:Sub wr)=>Di l SA LA OA sn sc ln lc on oc a b v.v (HN.out.below (aA al.out v.h)) HF.out
   by_cases W:dG l ⟨a,b⟩
   ·rw [ae W] at aj
    have aG:=Hd aj
    have bn:=Hd (HG.out W)
    clear aj W HG ax
    have ar:=aY wr
    have aH:=aP wr
    refine wpB wr ?_
    repeat (go_big_quiet_step ((first
     | (go_at_call 254;with_reducible exact aN (aG.out _)))))
    refine wpQuiet_nil ?_
    rintro _ ⟨⟨w5,hD⟩,rfl⟩
    clear ar aH
    have HD:=Hd (aA aV.out hD)
    clear hD I J U K y0 y2 H G c0 c1 a4
    go_wp2_with fail
    go_roundw
    ·exact ⟨k+1,by omega,by go_num,HD.out,bn.out⟩
    simp [intOf];omega
   rw [bJ W] at aj
   have aG:=Hd aj
   have Q:=Hd (ax.out W)
   clear aj W HG ax
   have ar:=aY wr
   have aH:=aP wr
   refine wpB wr ?_
   repeat (go_big_quiet_step ((first
    | (go_at_call 254;with_reducible exact aN (aG.out _)))))
   refine wpQuiet_nil ?_
   rintro _ ⟨⟨w5,hD⟩,rfl⟩
   clear ar aH
   have HD:=Hd (aA aV.out hD)
   clear hD I J U K y0 y2 H G c0 c1 a4
   go_wp2_with fail
   go_ret
   exact ⟨aO Q.out,aA z.out HD.out⟩
  have a0:k=V:=by omega
  have bk:=dF (by omega:V<=k)
  have af:∀e∈es,dG l e:=fun e he=>by
   obtain ⟨j,hj,rfl⟩:=List.getElem_of_mem he
   have h:=ap.out j (by rw [a0,←aZ.out];exact hj)
   rwa [show es[j]?.getD LeT.zero=es[j] by rw [List.getElem?_eq_getElem hj];rfl] at h
  clear hx hy ap a0
  by_cases k3:kd=3
  ·have Q:Hid (az l/\dY l ⟨kd,it,es⟩):=⟨HF.out,by rw [k3];exact kJ.2 af⟩
   have d3:(kd==3)=true:=by simp [k3]
   clear k3 af
   go_wp2_with fail
   go_ret
   exact ⟨dU Q.out,al.out⟩
  have Q:Hid (¬(az l/\dY l ⟨kd,it,es⟩)):=fun h=>by have h9:=iL h.2;have h8:=aE.out;omega
  have d3:(kd==3)=false:=by simp [k3]
  clear k3 af
  go_wp2_with fail
  go_ret
  exact ⟨aO Q.out,al.out⟩
 have R:Hid (tb (az l)=false):=bJ hf
 have Q:Hid (¬(az l/\dY l ⟨kd,it,es⟩)):=fun h=>hf h.1
 clear hf
 go_enter Tryz.func203,Tryz.ntmps203
 go_upto_region 1 with fail
 generalize (w.alloc (.cells (ai l SA LA OA sn sc ln lc on oc) 41)).alloc (.cells #[.int .i64 kd,.int .i64 it,.slice Z V Y] 89)=W9 at *
 obtain ⟨I,J,U,K,H⟩:=cO q.out
 have G:=aC g.out
 go_wp2_with fail
 refine (dQ l SA LA OA sn sc ln lc on oc _ (HN.out.below B.out)).mono ?_
 rw [R.out]
 rintro _ w1 ⟨rfl,D⟩
 have z:=Hd (aA B.out D)
 have u:=Hd D
 clear I J U K  H G D
 go_wp2_with fail
 go_ret
 exact ⟨aO Q.out,z.out⟩
theorem ET {l:ag} (hf:az l) {es:List LeT} (h:∀e∈es,dG l e):asc ((es.flatMap (iB l)).filter fun x=>decide (0<x/\x∉es.map (dA l)))=fD l es:=by
 unfold fD FY
 refine congrArg asc (List.filter_congr fun x g=>?_)
 obtain ⟨e,he,g⟩:=List.mem_flatMap.1 g
 have:=((mZ hf (h e he)).2 x g).1
 simp [this]
theorem oL (l:ag) (SA LA OA:Option Addr) (sn sc ln lc on oc:Nat) (es:List LeT) (EA:Option Addr) (I ec:Nat) (w:World) (h:fU w l SA LA OA sn sc ln lc on oc) (hf:az l) (hE:RdC w w.heap.size (cZ es) (.slice EA I ec)) (hK:∀e∈es,dG l e) (bn:I<=100000) :
  Calls Tryz.prog 158 #[jE l SA LA OA sn sc ln lc on oc,.slice EA I ec] w fun e w'=>∃A n c,e = .returned (.slice A n c)/\Own w.heap.size w' A n c (fD l es)/\Below w.heap.size w w':=by
 have ak:=hE.esN
 obtain ⟨HE,aj⟩:=hd2 hE ak
 clear hE ak
 have j:=Hd (aB (Below.refl w.heap.size w) (.cells (ai l SA LA OA sn sc ln lc on oc) 41))
 have D:=Hd (aI w (.cells (ai l SA LA OA sn sc ln lc on oc) 41))
 obtain ⟨HN,HF⟩:=hd2 h hf
 clear h hf
 have W:=Hd hK
 clear hK
 have aN:=Hd (ET HF.out W.out)
 go_enter Tryz.func158,Tryz.ntmps158
 go_upto_region 1 with fail
 generalize w.alloc (.cells (ai l SA LA OA sn sc ln lc on oc) 41)=V at *
 go_wp2_with fail
 go_loopw [5,6,7] (fun u v i wr=>∃(k:Nat) (A1:Option Addr) (n1 c1:Nat) (A2:Option Addr) (c2:Nat),k<=I/\i = .int .i64 k/\u = .slice A1 n1 c1/\v = .slice A2 k c2/\aJ V wr [.cel (aH ((es.take k).flatMap (iB l))) (.slice A1 n1 c1),.cel (aH ((es.take k).map (dA l))) (.slice A2 k c2)]) (fun _ _ i _=>I - (intOf i).toNat)
 ·exact ⟨0,_,_,_,_,_,Nat.zero_le _,rfl,rfl,rfl,by have h:=((aJ.refl V).pushNew 3 1).pushNew 3 1;rw [World.size_alloc] at h;exact h⟩
 obtain ⟨k,A1,n1,cA,A2,cB,hk,rfl,rfl,rfl,hs⟩:=hrel
 have G:=Hd hs
 clear hs
 have aq:Hid (((es.take k).flatMap (iB l)).length<=4 * k):=by
  show _<=_
  have h:=kg (f:=iB l) (m:=4) (xs:=es.take k) fun e he=>(mZ HF.out (W.out e (List.mem_of_mem_take he))).1
  rw [List.length_take] at h
  have h2:min k es.length * 4<=k * 4:=Nat.mul_le_mul_right 4 (Nat.min_le_left _ _)
  omega
 have bl:n1<=4 * k:=by rw [←(G.out.ints 0 rfl).1];exact aq.out
 by_cases aS:k<I
 ·have aM:=dT (by omega:k<I)
  have B:k<es.length:=by rw [aj.out];exact aS
  obtain ⟨R,U,ah,Q,c0,c1⟩:=HE.out.es (k:=k) B
  have aP:=Hd ah
  have J:=Hd (W.out _ (List.getElem_mem B))
  have av:Hid ((es.take (k+1)).map (dA l)=(es.take k).map (dA l)++[dA l ⟨(es[k]?.getD LeT.zero).lut,(es[k]?.getD LeT.zero).ff⟩]):=by show _=_;rw [bU (z:=LeT.zero) B,List.map_append];rfl
  have Z:=Hd (show (es.take (k+1)).flatMap (iB l)=(es.take k).flatMap (iB l)++iB l ⟨(es[k]?.getD LeT.zero).lut,(es[k]?.getD LeT.zero).ff⟩ from by rw [bU (z:=LeT.zero) B,List.flatMap_append,List.flatMap_singleton])
  rw [show es[k]=es[k]?.getD LeT.zero by rw [List.getElem?_eq_getElem B];rfl] at J
  clear B ah
  obtain rfl:=aP.out
  generalize es[k]?.getD LeT.zero=e at *
  obtain ⟨i0,i1⟩:=ib (by omega:k<I)
  have g:Hid (∀w',Below V.heap.size V w'→(K4 w' w.heap.size (.int .i64 l.inputs) (.slice SA sn sc) (.slice LA ln lc) (.slice OA on oc) (w'.cell? ⟨R,U+k * 2,none⟩=some (.int .i64 e.lut)/\w'.cell? ⟨R,U+k * 2+1,none⟩=some (.int .i64 e.ff)))):=fun v H=>⟨aF (k:=0) (aD H D.out) rfl,aF (k:=1) (aD H D.out) rfl,aF (k:=2) (aD H D.out) rfl,aF (k:=3) (aD H D.out) rfl,((aA j.out H).cell (p:=⟨R,U+k * 2,none⟩) Q).trans c0,((aA j.out H).cell (p:=⟨R,U+k * 2+1,none⟩) Q).trans c1⟩
  clear c0 c1
  obtain ⟨x0,x1,x2,x3,c0,c1⟩:=g.out _ G.out.bel
  have lx:=aC (aD G.out.bel D.out)
  have am:=aK (aA j.out G.out.bel) Q
  have aO:=Hd (mZ HF.out J.out).1
  have aU:=Hd (fun (v:World) (H:Below V.heap.size V v)=>BQ l SA LA OA sn sc ln lc on oc e.lut e.ff v (HN.out.below (aA j.out H)) HF.out J.out)
  have ay:=Hd (fun (v:World) (H:Below V.heap.size V v)=>rV l SA LA OA sn sc ln lc on oc e.lut e.ff v (HN.out.below (aA j.out H)) HF.out J.out)
  generalize iB l ⟨e.lut,e.ff⟩=src at *
  generalize dA l ⟨e.lut,e.ff⟩=Y at *
  generalize aL:(es.take k).flatMap (iB l)=XS at *
  generalize aQ:(es.take k).map (dA l)=YS at *
  clear aL aQ
  have hS:=Hd G.out.drew
  have q:=hS.out.bel
  go_upto_region 6 with fail
  go_region_held3 (fun w'=>K4 w' w.heap.size (.int .i64 l.inputs) (.slice SA sn sc) (.slice LA ln lc) (.slice OA on oc) (w'.cell? ⟨R,U+k * 2,none⟩=some (.int .i64 e.lut)/\w'.cell? ⟨R,U+k * 2+1,none⟩=some (.int .i64 e.ff)))
   (first|with_reducible exact g.out _ q)
   ((first
    | (go_at_call 241;(with_reducible refine (aU.out _ q).mono ?_);rintro e5 w5 ⟨A5,n5,c5,rfl,o5,b5⟩;have O5:=Hd o5.ints;replace q:=aA q b5;have aT:=Hd (hS.out.below b5);clear b5 o5)
    | (refine yI rfl _ _ (by rfl) _ aT.out 0 A1 n1 cA XS A5 n5 c5 src rfl (by rfl) (by rfl) O5.out (by have h5:=O5.out.1;have h6:=aO.out;omega) ?_;rintro A6 c6 w6 S6 ar;have K:=Hd S6;replace q:=S6.bel;clear S6 ar)))
  clear hS q x0 x1 x2 x3 lx c0 c1 am
  obtain ⟨x0,x1,x2,x3,c0,c1⟩:=g.out _ K.out.bel
  have lx:=aC (aD K.out.bel D.out)
  have am:=aK (aA j.out K.out.bel) Q
  have hS:=Hd K.out.drew
  have q:=hS.out.bel
  go_upto_region 7 with fail
  go_region_held3 (fun w'=>K4 w' w.heap.size (.int .i64 l.inputs) (.slice SA sn sc) (.slice LA ln lc) (.slice OA on oc) (w'.cell? ⟨R,U+k * 2,none⟩=some (.int .i64 e.lut)/\w'.cell? ⟨R,U+k * 2+1,none⟩=some (.int .i64 e.ff)))
   (first|with_reducible exact g.out _ q|with_reducible exact g.out _ (aB q _))
   ((first
    | (go_at_call 204;(with_reducible refine (ay.out _ q).mono ?_);rintro _ w7 ⟨rfl,b7⟩;replace q:=aA q b7;have aG:=Hd (hS.out.below b7);clear b7)
    | (refine sZ rfl _ _ (by rfl) _ (aG.out.alloc _) 1 A2 k cB (YS) Y _ (0,0) rfl (by rfl) (by rfl) (aI _ _) (by omega) ?_;intro g8 a9 w8 S8 aE;have aw:=Hd S8;replace q:=S8.bel;clear S8 aE)))
  go_wp2_with fail
  go_roundw
  ·exact ⟨k+1,_,_,_,_,_,by omega,by go_num,rfl,rfl,by rw [Z.out,av.out];exact aw.out⟩
  simp [intOf];omega
 have af:k=I:=by omega
 have aM:=dF (by omega:I<=k)
 have Z:Hid (es.take k=es):=by show _=_;rw [af];exact List.take_of_length_le (by rw [aj.out];exact Nat.le_refl _)
 rw [Z.out] at G
 have O1:=Hd (G.out.ints 0 rfl)
 have O2:=Hd (G.out.ints 1 rfl)
 clear af
 go_wp2_with fail
 refine (rX A1 A2 n1 cA k cB _ _ _ O1.out O2.out (by omega) (by omega)).mono ?_
 rintro _ w9 ⟨A,n,c,rfl,o9,b9⟩
 have O9:=Hd (o9.more (Nat.le_trans j.out.size G.out.bel.size))
 have B9:=Hd (aA (aA j.out G.out.bel) b9)
 clear o9 b9
 go_wp2_with fail
 go_ret
 exact ⟨_,_,_,rfl,by rw [←aN.out];exact O9.out,B9.out⟩
theorem wH (l:ag) (SA LA OA:Option Addr) (sn sc ln lc on oc:Nat) (kd it:Int) (es:List LeT) (U:Option Addr) (D K:Nat) (w:World) (h:fU w l SA LA OA sn sc ln lc on oc) (hf:az l) (hE:RdC w w.heap.size (cZ es) (.slice U D K)) (hK:dY l ⟨kd,it,es⟩) (bz:D<=1048576) :
  Calls Tryz.prog 112 #[jE l SA LA OA sn sc ln lc on oc,.agg #[.int .i64 kd,.int .i64 it,.slice U D K]] w fun e w'=>∃A n c,e = .returned (.slice A n c)/\Own w.heap.size w' A n c (kD l ⟨kd,it,es⟩)/\Below w.heap.size w w':=by
 have aV:=hE.esN
 obtain ⟨HE,aP⟩:=hd2 hE aV
 clear hE aV
 have u:=Hd (aB (aB (Below.refl w.heap.size w) (.cells (ai l SA LA OA sn sc ln lc on oc) 41)) (.cells #[.int .i64 kd,.int .i64 it,.slice U D K] 89))
 have hx:=aW (.cells #[.int .i64 kd,.int .i64 it,.slice U D K] 89) (aI w (.cells (ai l SA LA OA sn sc ln lc on oc) 41))
 have hy:=aI (w.alloc (.cells (ai l SA LA OA sn sc ln lc on oc) 41)) (.cells #[.int .i64 kd,.int .i64 it,.slice U D K] 89)
 simp only [World.size_alloc] at hy
 obtain ⟨g,j⟩:=hd2 hx hy
 clear hx hy
 obtain ⟨ay,aw,aG⟩:=h.lens
 have a1:=hf.nseq
 have bj:=hf.nlut
 have aZ:=hf.nout
 have bw:=hf.inp
 rw [ay] at a1
 rw [aw] at bj
 rw [aG] at aZ
 obtain ⟨HN,HF,bb,bs,bv⟩:=hd5 h hf ay aw aG
 have bt:Hid ((l.first:Int)=1+l.inputs+(sn:Int)):=by show _=_;unfold ag.first;omega
 have aS:Hid ((l.count:Int)=1+l.inputs+(sn:Int)+(ln:Int)):=by show _=_;unfold ag.count ag.first;omega
 clear h hf ay aw aG
 by_cases k0:kd=0
 ·subst k0
  have HR:Hid (kD l ⟨0,it,es⟩=[1+it]):=rfl
  have a9:0<=it/\it<l.inputs:=oZ.1 hK
  have HK:=Hd hK
  go_enter Tryz.func112,Tryz.ntmps112
  go_upto_region 1 with fail
  generalize (w.alloc (.cells (ai l SA LA OA sn sc ln lc on oc) 41)).alloc (.cells #[.int .i64 0,.int .i64 it,.slice U D K] 89)=Z at *
  obtain ⟨x0,x1,x2,x3⟩:=cs4 g.out
  obtain ⟨W,y1,y2⟩:=cs3 j.out
  have V:=aC g.out
  have R:=aC j.out
  have q:=Hd ((aJ.refl Z).pushNew 3 1)
  have B:=ae (show az l/\dY l ⟨0,it,es⟩ from ⟨HF.out,HK.out⟩)
  have I:=Hd B
  clear B
  go_wp2_with fail
  refine (dI l SA LA OA sn sc ln lc on oc 0 it es U D K _ (HN.out.below (aA u.out q.out.bel)) (HE.out.below (aA u.out q.out.bel)) (by omega)).mono ?_
  rw [I.out]
  rintro _ w1 ⟨rfl,Q⟩
  have G:=Hd (aA q.out.bel Q)
  have H:=Hd (aA u.out G.out)
  have ah:=Hd (q.out.below Q)
  clear Q x0 x1 x2 x3 W y1 y2 V R
  have x0:=aF (k:=0) (aD G.out g.out) rfl
  obtain ⟨W,y1⟩:=cs2 (aD G.out j.out)
  have V:=aC (aD G.out g.out)
  have R:=aC (aD G.out j.out)
  go_wp2_with fail
  go_ret
  refine ⟨_,_,_,rfl,?_,aB H.out _⟩
  rw [HR.out]
  exact Own.made (cur:=#[.int .i64 (1+it)]) (aI w1 _) H.out.size (by unfold maxLen;omega) rfl rfl
 by_cases k1:kd=1
 ·subst k1
  have HR:Hid (kD l ⟨1,it,es⟩=[]):=rfl
  have HK:=Hd hK
  go_enter Tryz.func112,Tryz.ntmps112
  go_upto_region 1 with fail
  generalize (w.alloc (.cells (ai l SA LA OA sn sc ln lc on oc) 41)).alloc (.cells #[.int .i64 1,.int .i64 it,.slice U D K] 89)=Z at *
  obtain ⟨x0,x1,x2,x3⟩:=cs4 g.out
  obtain ⟨W,y1,y2⟩:=cs3 j.out
  have V:=aC g.out
  have R:=aC j.out
  have q:=Hd ((aJ.refl Z).pushNew 3 1)
  have B:=ae (show az l/\dY l ⟨1,it,es⟩ from ⟨HF.out,HK.out⟩)
  have I:=Hd B
  clear B
  go_wp2_with fail
  refine (dI l SA LA OA sn sc ln lc on oc 1 it es U D K _ (HN.out.below (aA u.out q.out.bel)) (HE.out.below (aA u.out q.out.bel)) (by omega)).mono ?_
  rw [I.out]
  rintro _ w1 ⟨rfl,Q⟩
  have G:=Hd (aA q.out.bel Q)
  have H:=Hd (aA u.out G.out)
  have ah:=Hd (q.out.below Q)
  clear Q x0 x1 x2 x3 W y1 y2 V R
  have x0:=aF (k:=0) (aD G.out g.out) rfl
  obtain ⟨W,y1⟩:=cs2 (aD G.out j.out)
  have V:=aC (aD G.out g.out)
  have R:=aC (aD G.out j.out)
  go_wp2_with fail
  go_ret
  exact ⟨_,_,_,rfl,by rw [HR.out];exact (ah.out.owned 0 rfl).more u.out.size,H.out⟩
 by_cases k2:kd=2
 ·subst k2
  have HR:Hid (kD l ⟨2,it,es⟩=[1+l.inputs+it]):=rfl
  have a9:0<=it/\it<(sn:Int):=by rw [←bb.out];exact jW.1 hK
  have HK:=Hd hK
  go_enter Tryz.func112,Tryz.ntmps112
  go_upto_region 1 with fail
  generalize (w.alloc (.cells (ai l SA LA OA sn sc ln lc on oc) 41)).alloc (.cells #[.int .i64 2,.int .i64 it,.slice U D K] 89)=Z at *
  obtain ⟨x0,x1,x2,x3⟩:=cs4 g.out
  obtain ⟨W,y1,y2⟩:=cs3 j.out
  have V:=aC g.out
  have R:=aC j.out
  have q:=Hd ((aJ.refl Z).pushNew 3 1)
  have B:=ae (show az l/\dY l ⟨2,it,es⟩ from ⟨HF.out,HK.out⟩)
  have I:=Hd B
  clear B
  go_wp2_with fail
  refine (dI l SA LA OA sn sc ln lc on oc 2 it es U D K _ (HN.out.below (aA u.out q.out.bel)) (HE.out.below (aA u.out q.out.bel)) (by omega)).mono ?_
  rw [I.out]
  rintro _ w1 ⟨rfl,Q⟩
  have G:=Hd (aA q.out.bel Q)
  have H:=Hd (aA u.out G.out)
  have ah:=Hd (q.out.below Q)
  clear Q x0 x1 x2 x3 W y1 y2 V R
  have x0:=aF (k:=0) (aD G.out g.out) rfl
  obtain ⟨W,y1⟩:=cs2 (aD G.out j.out)
  have V:=aC (aD G.out g.out)
  have R:=aC (aD G.out j.out)
  go_wp2_with fail
  go_ret
  refine ⟨_,_,_,rfl,?_,aB H.out _⟩
  rw [HR.out]
  exact Own.made (cur:=#[.int .i64 (1+l.inputs+it)]) (aI w1 _) H.out.size (by unfold maxLen;omega) rfl rfl
 have k3:kd=3:=by have:=iL hK;omega
 subst k3
 clear k0 k1 k2
 have HR:Hid (kD l ⟨3,it,es⟩=es.map (dA l)):=rfl
 have a2:Hid (∀e∈es,dG l e):=kJ.1 hK
 have HK:=Hd hK
 go_enter Tryz.func112,Tryz.ntmps112
 go_upto_region 1 with fail
 generalize (w.alloc (.cells (ai l SA LA OA sn sc ln lc on oc) 41)).alloc (.cells #[.int .i64 3,.int .i64 it,.slice U D K] 89)=Z at *
 obtain ⟨x0,x1,x2,x3⟩:=cs4 g.out
 obtain ⟨W,y1,y2⟩:=cs3 j.out
 have V:=aC g.out
 have R:=aC j.out
 have q:=Hd ((aJ.refl Z).pushNew 3 1)
 have B:=ae (show az l/\dY l ⟨3,it,es⟩ from ⟨HF.out,HK.out⟩)
 have I:=Hd B
 clear B
 go_wp2_with fail
 refine (dI l SA LA OA sn sc ln lc on oc 3 it es U D K _ (HN.out.below (aA u.out q.out.bel)) (HE.out.below (aA u.out q.out.bel)) (by omega)).mono ?_
 rw [I.out]
 rintro _ w1 ⟨rfl,Q⟩
 have G:=Hd (aA q.out.bel Q)
 have H:=Hd (aA u.out G.out)
 have ah:=Hd (q.out.below Q)
 clear Q x0 x1 x2 x3 W y1 y2 V R hK
 obtain ⟨W,-,y2⟩:=cs3 (aD G.out j.out)
 have V:=aC (aD G.out g.out)
 have R:=aC (aD G.out j.out)
 go_wp2_with fail
 clear W y2 V R
 go_loopw [5,6] (fun v i wr=>∃(k:Nat) (A':Option Addr) (c':Nat),k<=D/\i = .int .i64 k/\v = .slice A' k c'/\aJ Z wr [.cel (aH ((es.take k).map (dA l))) (.slice A' k c')]) (fun _ i _=>D - (intOf i).toNat)
 ·exact ⟨0,_,_,Nat.zero_le _,rfl,rfl,ah.out⟩
 obtain ⟨k,A2,cB,hk,rfl,rfl,hs⟩:=hrel
 have HS:=Hd hs
 clear hs
 by_cases bh:k<D
 ·have bc:=dT (by omega:k<D)
  have af:k<es.length:=by rw [aP.out];exact bh
  obtain ⟨be,oe,aO,aL,c0,c1⟩:=HE.out.es (k:=k) af
  have bf:=Hd aO
  have aU:=Hd (a2.out _ (List.getElem_mem af))
  have a4:Hid ((es.take (k+1)).map (dA l)=(es.take k).map (dA l)++[dA l ⟨(es[k]?.getD LeT.zero).lut,(es[k]?.getD LeT.zero).ff⟩]):=by show _=_;rw [bU (z:=LeT.zero) af,List.map_append];rfl
  rw [show es[k]=es[k]?.getD LeT.zero by rw [List.getElem?_eq_getElem af];rfl] at aU
  clear af aO
  obtain rfl:=bf.out
  generalize es[k]?.getD LeT.zero=e at *
  obtain ⟨i0,i1⟩:=ib (by omega:k<D)
  have J:Hid (∀w',Below Z.heap.size Z w'→(K4 w' w.heap.size (.int .i64 l.inputs) (.slice SA sn sc) (.slice LA ln lc) (.slice OA on oc) (w'.cell? ⟨w.heap.size+1,2,none⟩=some (.slice (some ⟨be,oe,none⟩) D K)/\w'.cell? ⟨be,oe+k * 2,none⟩=some (.int .i64 e.lut)/\w'.cell? ⟨be,oe+k * 2+1,none⟩=some (.int .i64 e.ff)))):=fun v hv=>⟨aF (k:=0) (aD hv g.out) rfl,aF (k:=1) (aD hv g.out) rfl,aF (k:=2) (aD hv g.out) rfl,aF (k:=3) (aD hv g.out) rfl,aF (k:=2) (aD hv j.out) rfl,((aA u.out hv).cell (p:=⟨be,oe+k * 2,none⟩) aL).trans c0,((aA u.out hv).cell (p:=⟨be,oe+k * 2+1,none⟩) aL).trans c1⟩
  clear c0 c1
  obtain ⟨x0,x1,x2,x3,y2,c0,c1⟩:=J.out _ HS.out.bel
  have V:=aC (aD HS.out.bel g.out)
  have R:=aC (aD HS.out.bel j.out)
  have bB:=aK (aA u.out HS.out.bel) aL
  have aS:=Hd (fun (v:World) (hv:Below Z.heap.size Z v)=>rV l SA LA OA sn sc ln lc on oc e.lut e.ff v (HN.out.below (aA u.out hv)) HF.out aU.out)
  generalize dA l ⟨e.lut,e.ff⟩=Y at *
  generalize bg:(es.take k).map (dA l)=YS at *
  clear bg
  have hS:=Hd HS.out.drew
  have hD:=hS.out.bel
  go_upto_region 14 with fail
  go_region_held3 (fun w'=>K4 w' w.heap.size (.int .i64 l.inputs) (.slice SA sn sc) (.slice LA ln lc) (.slice OA on oc) (w'.cell? ⟨w.heap.size+1,2,none⟩=some (.slice (some ⟨be,oe,none⟩) D K)/\w'.cell? ⟨be,oe+k * 2,none⟩=some (.int .i64 e.lut)/\w'.cell? ⟨be,oe+k * 2+1,none⟩=some (.int .i64 e.ff)))
   (first|with_reducible exact J.out _ hD|with_reducible exact J.out _ (aB hD _))
   ((first
    | (go_at_call 204;(with_reducible refine (aS.out _ hD).mono ?_);rintro _ w7 ⟨rfl,b7⟩;replace hD:=aA hD b7;have a8:=Hd (hS.out.below b7);clear b7)
    | (refine sZ rfl _ _ (by rfl) _ (a8.out.alloc _) 0 A2 k cB (YS) Y _ (0,0) rfl (by rfl) (by rfl) (aI _ _) (by omega) ?_;intro g8 br w8 S8 a7;have a5:=Hd S8;replace hD:=S8.bel;clear S8 a7)))
  go_wp2_with fail
  go_roundw
  ·exact ⟨k+1,_,_,by omega,by go_num,rfl,by rw [a4.out];exact a5.out⟩
  simp [intOf];omega
 have aR:k=D:=by omega
 have bc:=dF (by omega:D<=k)
 obtain ⟨-,-,y2,R⟩:=jX (aD HS.out.bel j.out)
 have bd:Hid (es.take k=es):=by show _=_;rw [aR];exact List.take_of_length_le (by rw [aP.out];exact Nat.le_refl _)
 rw [bd.out] at HS
 clear aR
 go_wp2_with fail
 go_ret
 exact ⟨_,_,_,rfl,by rw [HR.out];exact (HS.out.owned 0 rfl).more u.out.size,aA u.out HS.out.bel⟩
theorem wI (l:ag) (SA LA OA:Option Addr) (sn sc ln lc on oc:Nat) (kd it:Int) (es:List LeT) (J:Option Addr) (H I:Nat) (w:World) (h:fU w l SA LA OA sn sc ln lc on oc) (hf:az l) (hE:RdC w w.heap.size (cZ es) (.slice J H I)) (Q:dY l ⟨kd,it,es⟩) (a1:H<=100000) :
  Calls Tryz.prog 111 #[jE l SA LA OA sn sc ln lc on oc,.agg #[.int .i64 kd,.int .i64 it,.slice J H I]] w fun e w'=>∃A n c,e = .returned (.slice A n c)/\Own w.heap.size w' A n c (jA l ⟨kd,it,es⟩)/\Below w.heap.size w w':=by
 have aM:=hE.esN
 obtain ⟨HE,bl⟩:=hd2 hE aM
 clear hE aM
 have z:=Hd (aB (aB (Below.refl w.heap.size w) (.cells (ai l SA LA OA sn sc ln lc on oc) 41)) (.cells #[.int .i64 kd,.int .i64 it,.slice J H I] 89))
 have hx:=aW (.cells #[.int .i64 kd,.int .i64 it,.slice J H I] 89) (aI w (.cells (ai l SA LA OA sn sc ln lc on oc) 41))
 have hy:=aI (w.alloc (.cells (ai l SA LA OA sn sc ln lc on oc) 41)) (.cells #[.int .i64 kd,.int .i64 it,.slice J H I] 89)
 simp only [World.size_alloc] at hy
 obtain ⟨q,j⟩:=hd2 hx hy
 clear hx hy
 obtain ⟨am,al,aq⟩:=h.lens
 have aP:=hf.nseq
 have a5:=hf.nlut
 have aO:=hf.nout
 have bp:=hf.inp
 rw [am] at aP
 rw [al] at a5
 rw [aq] at aO
 obtain ⟨HN,HF,au,bj,aX⟩:=hd5 h hf am al aq
 have bk:Hid ((l.first:Int)=1+l.inputs+(sn:Int)):=by show _=_;unfold ag.first;omega
 have aG:Hid ((l.count:Int)=1+l.inputs+(sn:Int)+(ln:Int)):=by show _=_;unfold ag.count ag.first;omega
 clear h hf am al aq
 by_cases k0:kd=0
 ·subst k0
  have W:Hid (jA l ⟨0,it,es⟩=[]):=rfl
  have HK:=Hd Q
  go_enter Tryz.func111,Tryz.ntmps111
  go_upto_region 1 with fail
  generalize (w.alloc (.cells (ai l SA LA OA sn sc ln lc on oc) 41)).alloc (.cells #[.int .i64 0,.int .i64 it,.slice J H I] 89)=u at *
  obtain ⟨x0,Y,x2,x3⟩:=cs4 q.out
  obtain ⟨K,Z,y2⟩:=cs3 j.out
  have V:=aC q.out
  have R:=aC j.out
  have B:=ae (show az l/\dY l ⟨0,it,es⟩ from ⟨HF.out,HK.out⟩)
  have G:=Hd B
  clear B
  go_wp2_with fail
  refine (dI l SA LA OA sn sc ln lc on oc 0 it es J H I _ (HN.out.below (aA z.out (Below.refl u.heap.size u))) (HE.out.below (aA z.out (Below.refl u.heap.size u))) (by omega)).mono ?_
  rw [G.out]
  rintro _ w1 ⟨rfl,U⟩
  have D:=Hd (aA (Below.refl u.heap.size u) U)
  have g:=Hd (aA z.out D.out)
  clear U x0 Y x2 x3 K Z y2 V R
  have K:=aF (k:=0) (aD D.out j.out) rfl
  have V:=aC (aD D.out q.out)
  have R:=aC (aD D.out j.out)
  have ap:=Hd ((aJ.refl w1).pushNew 3 1)
  go_wp2_with fail
  go_ret
  exact ⟨_,_,_,rfl,by rw [W.out];exact (ap.out.owned 0 rfl).more g.out.size,aB g.out _⟩
 by_cases k1:kd=1
 ·subst k1
  have W:Hid (jA l ⟨1,it,es⟩=[l.outs[it.toNat]?.getD 0]):=rfl
  have ar:=og.1 Q
  have HK:=Hd Q
  rw [aX.out] at ar
  obtain ⟨X,rfl⟩:∃X:Nat,it=(X:Int):=⟨it.toNat,by omega⟩
  rw [Int.toNat_natCast] at W
  have hX:X<on:=by omega
  obtain ⟨bo,oo,rfl,ax,aL⟩:=HN.out.ou.ints.2 (by omega)
  have co:=aL X hX
  have aG:=Hd co
  clear aL Q co
  generalize l.outs[X]?.getD 0=y at *
  go_enter Tryz.func111,Tryz.ntmps111
  go_upto_region 1 with fail
  generalize (w.alloc (.cells (ai l SA LA (some ⟨bo,oo,none⟩) sn sc ln lc on oc) 41)).alloc (.cells #[.int .i64 1,.int .i64 (X:Int),.slice J H I] 89)=u at *
  obtain ⟨x0,Y,x2,x3⟩:=cs4 q.out
  obtain ⟨K,Z,y2⟩:=cs3 j.out
  have V:=aC q.out
  have R:=aC j.out
  have B:=ae (show az l/\dY l ⟨1,(X:Int),es⟩ from ⟨HF.out,HK.out⟩)
  have G:=Hd B
  clear B
  go_wp2_with fail
  refine (dI l SA LA (some ⟨bo,oo,none⟩) sn sc ln lc on oc 1 (X:Int) es J H I _ (HN.out.below (aA z.out (Below.refl u.heap.size u))) (HE.out.below (aA z.out (Below.refl u.heap.size u))) (by omega)).mono ?_
  rw [G.out]
  rintro _ w1 ⟨rfl,U⟩
  have D:=Hd (aA (Below.refl u.heap.size u) U)
  have g:=Hd (aA z.out D.out)
  clear U x0 Y x2 x3 K Z y2 V R
  have x3:=aF (k:=3) (aD D.out q.out) rfl
  obtain ⟨K,Z⟩:=cs2 (aD D.out j.out)
  have V:=aC (aD D.out q.out)
  have R:=aC (aD D.out j.out)
  have co:=(g.out.cell (p:=⟨bo,oo+X,none⟩) ax).trans aG.out
  have bq:=aK g.out ax
  go_wp2_with fail
  go_ret
  refine ⟨_,_,_,rfl,?_,aB g.out _⟩
  rw [W.out]
  exact Own.made (cur:=#[.int .i64 (y)]) (aI w1 _) g.out.size (by unfold maxLen;omega) rfl rfl
 by_cases k2:kd=2
 ·subst k2
  have W:Hid (jA l ⟨2,it,es⟩=(l.seqs[it.toNat]?.getD Sq.zero).ins):=rfl
  have ar:=jW.1 Q
  have HK:=Hd Q
  rw [au.out] at ar
  obtain ⟨X,rfl⟩:∃X:Nat,it=(X:Int):=⟨it.toNat,by omega⟩
  rw [Int.toNat_natCast] at W
  have hX:X<sn:=by omega
  obtain ⟨bb,ob,S,m,p,rfl,ay,c0,c1,c2,r2⟩:=HN.out.sq.sq' (k:=X) (by rw [au.out];exact hX)
  have bs:m<=4:=by
   have h1:=(HF.out.seqs X (by rw [au.out];exact hX)).1
   have h2:=r2.ints.1
   rcases h1 with h|h <;> omega
  obtain ⟨aS,a7⟩:=hd2 r2.ints c2
  clear c0 c1 c2 r2 Q
  generalize (l.seqs[X]?.getD Sq.zero).ins=src at *
  go_enter Tryz.func111,Tryz.ntmps111
  go_upto_region 1 with fail
  generalize (w.alloc (.cells (ai l (some ⟨bb,ob,none⟩) LA OA sn sc ln lc on oc) 41)).alloc (.cells #[.int .i64 2,.int .i64 (X:Int),.slice J H I] 89)=u at *
  obtain ⟨x0,Y,x2,x3⟩:=cs4 q.out
  obtain ⟨K,Z,y2⟩:=cs3 j.out
  have V:=aC q.out
  have R:=aC j.out
  have B:=ae (show az l/\dY l ⟨2,(X:Int),es⟩ from ⟨HF.out,HK.out⟩)
  have G:=Hd B
  clear B
  go_wp2_with fail
  refine (dI l (some ⟨bb,ob,none⟩) LA OA sn sc ln lc on oc 2 (X:Int) es J H I _ (HN.out.below (aA z.out (Below.refl u.heap.size u))) (HE.out.below (aA z.out (Below.refl u.heap.size u))) (by omega)).mono ?_
  rw [G.out]
  rintro _ w1 ⟨rfl,U⟩
  have D:=Hd (aA (Below.refl u.heap.size u) U)
  have g:=Hd (aA z.out D.out)
  clear U x0 Y x2 x3 K Z y2 V R
  have Y:=aF (k:=1) (aD D.out q.out) rfl
  obtain ⟨K,Z⟩:=cs2 (aD D.out j.out)
  have V:=aC (aD D.out q.out)
  have R:=aC (aD D.out j.out)
  have c2:=(g.out.cell (p:=⟨bb,ob+X * 3+2,none⟩) ay).trans a7.out
  have bn:=aK g.out ay
  have ap:=Hd ((aJ.refl w1).pushNew 3 1)
  have a0:=Hd (aS.out.below (aB g.out (.cells #[] 3)))
  go_wp2_with (at_builtin;refine lF rfl _ _ rfl _ ap.out 0 _ 0 0 [] S m p src rfl rfl rfl a0.out (by omega) ?_;intro A9 c9 w9 S9 aU;have aH:=Hd S9;clear S9 aU)
  go_ret
  have h9:=aH.out.owned 0 rfl
  rw [Nat.zero_add,List.nil_append] at h9
  exact ⟨_,_,_,rfl,by rw [W.out];exact h9.more g.out.size,aA g.out aH.out.bel⟩
 have k3:kd=3:=by have:=iL Q;omega
 subst k3
 clear k0 k1 k2
 have W:Hid (jA l ⟨3,it,es⟩=fD l es):=rfl
 have aQ:Hid (∀e∈es,dG l e):=kJ.1 Q
 have HK:=Hd Q
 go_enter Tryz.func111,Tryz.ntmps111
 go_upto_region 1 with fail
 generalize (w.alloc (.cells (ai l SA LA OA sn sc ln lc on oc) 41)).alloc (.cells #[.int .i64 3,.int .i64 it,.slice J H I] 89)=u at *
 obtain ⟨x0,Y,x2,x3⟩:=cs4 q.out
 obtain ⟨K,Z,y2⟩:=cs3 j.out
 have V:=aC q.out
 have R:=aC j.out
 have B:=ae (show az l/\dY l ⟨3,it,es⟩ from ⟨HF.out,HK.out⟩)
 have G:=Hd B
 clear B
 go_wp2_with fail
 refine (dI l SA LA OA sn sc ln lc on oc 3 it es J H I _ (HN.out.below (aA z.out (Below.refl u.heap.size u))) (HE.out.below (aA z.out (Below.refl u.heap.size u))) (by omega)).mono ?_
 rw [G.out]
 rintro _ w1 ⟨rfl,U⟩
 have D:=Hd (aA (Below.refl u.heap.size u) U)
 have g:=Hd (aA z.out D.out)
 clear U x0 Y x2 x3 K Z y2 V R Q
 obtain ⟨x0,Y,x2,x3⟩:=cs4 (aD D.out q.out)
 obtain ⟨K,-,y2⟩:=cs3 (aD D.out j.out)
 have V:=aC (aD D.out q.out)
 have R:=aC (aD D.out j.out)
 go_wp2_with fail
 refine (oL l SA LA OA sn sc ln lc on oc es J H I _ (HN.out.below g.out) HF.out (HE.out.below g.out) aQ.out a1).mono ?_
 rintro _ w2 ⟨A,n,c,rfl,o2,b2⟩
 have O2:=Hd (o2.more g.out.size)
 have a4:=Hd (aA g.out b2)
 clear o2 b2
 go_wp2_with fail
 go_ret
 exact ⟨_,_,_,rfl,by rw [W.out];exact O2.out,a4.out⟩
theorem yE (l:ag) (SA LA OA:Option Addr) (sn sc ln lc on oc:Nat) (kd it:Int) (es:List LeT) (Y:Option Addr) (D W:Nat) (w:World) (h:fU w l SA LA OA sn sc ln lc on oc) (hf:az l) (hE:RdC w w.heap.size (cZ es) (.slice Y D W)) (af:D<=1048576) :
  Calls Tryz.prog 110 #[jE l SA LA OA sn sc ln lc on oc,.agg #[.int .i64 kd,.int .i64 it,.slice Y D W]] w fun e w'=>e = .returned (.bool (tb (dM l ⟨kd,it,es⟩)))/\Below w.heap.size w w':=by
 have hB:=vB (l:=l) (kd:=kd) (it:=it) (es:=es)
 have aQ:=hE.esN
 obtain ⟨HE,aX⟩:=hd2 hE aQ
 clear hE aQ
 have u:=Hd (aB (aB (Below.refl w.heap.size w) (.cells (ai l SA LA OA sn sc ln lc on oc) 41)) (.cells #[.int .i64 kd,.int .i64 it,.slice Y D W] 89))
 have hx:=aW (.cells #[.int .i64 kd,.int .i64 it,.slice Y D W] 89) (aI w (.cells (ai l SA LA OA sn sc ln lc on oc) 41))
 have hy:=aI (w.alloc (.cells (ai l SA LA OA sn sc ln lc on oc) 41)) (.cells #[.int .i64 kd,.int .i64 it,.slice Y D W] 89)
 simp only [World.size_alloc] at hy
 obtain ⟨j,g⟩:=hd2 hx hy
 clear hx hy
 obtain ⟨ay,ax,aF⟩:=h.lens
 have aV:=hf.nseq
 have a3:=hf.nlut
 have aU:=hf.nout
 have bg:=hf.inp
 rw [ay] at aV
 rw [ax] at a3
 rw [aF] at aU
 obtain ⟨HN,HF,aP,bb,bf⟩:=hd5 h hf ay ax aF
 have bc:Hid ((l.first:Int)=1+l.inputs+(sn:Int)):=by show _=_;unfold ag.first;omega
 have be:Hid ((l.count:Int)=1+l.inputs+(sn:Int)+(ln:Int)):=by show _=_;unfold ag.count ag.first;omega
 clear h hf ay ax aF
 rw [aX.out] at hB
 by_cases B:dY l ⟨kd,it,es⟩
 ·have Z:Hid (tb (az l/\dY l ⟨kd,it,es⟩)=true):=ae ⟨HF.out,B⟩
  have HK:=Hd B
  by_cases k3:kd=3
  ·subst k3
   by_cases h0:it=0
   ·subst h0
    cases hr:inR (D:Int) 1 2 with
    | false =>
     have HR:Hid (¬dM l ⟨3,0,es⟩):=fun h=>by
      rcases (hB.1 h).2 with h|h
      ·rw [aR.2 (by omega)] at hr;cases hr
      exact h.1 rfl
     have ar:=Hd hr
     clear hr hB B
     go_enter Tryz.func110,Tryz.ntmps110
     go_upto_region 1 with fail
     generalize (w.alloc (.cells (ai l SA LA OA sn sc ln lc on oc) 41)).alloc (.cells #[.int .i64 3,.int .i64 0,.slice Y D W] 89)=W9 at *
     obtain ⟨Q,I,G,K⟩:=cs4 j.out
     obtain ⟨J,U,H⟩:=cs3 g.out
     have V:=aC j.out
     have R:=aC g.out
     go_wp2_with fail
     refine (dI l SA LA OA sn sc ln lc on oc 3 0 es Y D W _ (HN.out.below u.out) (HE.out.below u.out) af).mono ?_
     rw [Z.out]
     rintro _ w1 ⟨rfl,q⟩
     have z:=Hd (aA u.out q)
     clear Q I G K J U H V R
     obtain ⟨Q,I,G,K⟩:=cs4 (aD q j.out)
     obtain ⟨J,U,H⟩:=cs3 (aD q g.out)
     have V:=aC (aD q j.out)
     have R:=aC (aD q g.out)
     have ak:=Hd (aD q j.out)
     have al:=Hd (aD q g.out)
     clear q
     go_wp2_with fail
     refine (aj (D:Int) 1 2 _).mono ?_
     rw [ar.out]
     rintro _ w2 ⟨rfl,rfl⟩
     go_wp2_with fail
     go_ret
     exact ⟨aO HR.out,z.out⟩
    | true =>
     have aL:=aR.1 hr
     have ar:=Hd hr
     have aN:D<=2:=by omega
     have aM:1<=D:=by omega
     clear hr aL
     by_cases hp:(fD l es).length<=5
     ·have HR:Hid (dM l ⟨3,0,es⟩):=hB.2 ⟨B,.inl ⟨rfl,rfl,⟨aM,aN⟩,hp⟩⟩
      have HP:=Hd hp
      clear hB B hp
      go_enter Tryz.func110,Tryz.ntmps110
      go_upto_region 1 with fail
      generalize (w.alloc (.cells (ai l SA LA OA sn sc ln lc on oc) 41)).alloc (.cells #[.int .i64 3,.int .i64 0,.slice Y D W] 89)=W9 at *
      obtain ⟨Q,I,G,K⟩:=cs4 j.out
      obtain ⟨J,U,H⟩:=cs3 g.out
      have V:=aC j.out
      have R:=aC g.out
      go_wp2_with fail
      refine (dI l SA LA OA sn sc ln lc on oc 3 0 es Y D W _ (HN.out.below u.out) (HE.out.below u.out) af).mono ?_
      rw [Z.out]
      rintro _ w1 ⟨rfl,q⟩
      have z:=Hd (aA u.out q)
      clear Q I G K J U H V R
      obtain ⟨Q,I,G,K⟩:=cs4 (aD q j.out)
      obtain ⟨J,U,H⟩:=cs3 (aD q g.out)
      have V:=aC (aD q j.out)
      have R:=aC (aD q g.out)
      have ak:=Hd (aD q j.out)
      have al:=Hd (aD q g.out)
      clear q
      go_wp2_with fail
      refine (aj (D:Int) 1 2 _).mono ?_
      rw [ar.out]
      rintro _ w2 ⟨rfl,rfl⟩
      go_wp2_with fail
      refine (oL l SA LA OA sn sc ln lc on oc es Y D W _ (HN.out.below z.out) HF.out (HE.out.below z.out) (kJ.1 HK.out) (by omega)).mono ?_
      rintro _ w3 ⟨PA,pn,pc,rfl,op,b3⟩
      have aH:=Hd (aA z.out b3)
      have aq:=op.len
      change (fD l es).length=pn at aq
      have aZ:pn<=5:=by have:=HP.out;omega
      have dp:decide ((pn:Int)<=5)=true:=decide_eq_true (by omega)
      clear b3 op aq Q I G K J U H V R
      go_wp2_with fail
      go_ret
      exact ⟨dU HR.out,aH.out⟩
     have HR:Hid (¬dM l ⟨3,0,es⟩):=fun h=>by
      rcases (hB.1 h).2 with h|h
      ·exact hp h.2.2.2
      exact h.1 rfl
     have HP:=Hd hp
     clear hB B hp
     go_enter Tryz.func110,Tryz.ntmps110
     go_upto_region 1 with fail
     generalize (w.alloc (.cells (ai l SA LA OA sn sc ln lc on oc) 41)).alloc (.cells #[.int .i64 3,.int .i64 0,.slice Y D W] 89)=W9 at *
     obtain ⟨Q,I,G,K⟩:=cs4 j.out
     obtain ⟨J,U,H⟩:=cs3 g.out
     have V:=aC j.out
     have R:=aC g.out
     go_wp2_with fail
     refine (dI l SA LA OA sn sc ln lc on oc 3 0 es Y D W _ (HN.out.below u.out) (HE.out.below u.out) af).mono ?_
     rw [Z.out]
     rintro _ w1 ⟨rfl,q⟩
     have z:=Hd (aA u.out q)
     clear Q I G K J U H V R
     obtain ⟨Q,I,G,K⟩:=cs4 (aD q j.out)
     obtain ⟨J,U,H⟩:=cs3 (aD q g.out)
     have V:=aC (aD q j.out)
     have R:=aC (aD q g.out)
     have ak:=Hd (aD q j.out)
     have al:=Hd (aD q g.out)
     clear q
     go_wp2_with fail
     refine (aj (D:Int) 1 2 _).mono ?_
     rw [ar.out]
     rintro _ w2 ⟨rfl,rfl⟩
     go_wp2_with fail
     refine (oL l SA LA OA sn sc ln lc on oc es Y D W _ (HN.out.below z.out) HF.out (HE.out.below z.out) (kJ.1 HK.out) (by omega)).mono ?_
     rintro _ w3 ⟨PA,pn,pc,rfl,op,b3⟩
     have aH:=Hd (aA z.out b3)
     have aq:=op.len
     change (fD l es).length=pn at aq
     have aZ:¬pn<=5:=by have:=HP.out;omega
     have dp:decide ((pn:Int)<=5)=false:=decide_eq_false (by omega)
     clear b3 op aq Q I G K J U H V R
     go_wp2_with fail
     go_ret
     exact ⟨aO HR.out,aH.out⟩
   have HR:Hid (¬dM l ⟨3,it,es⟩):=fun h=>by
    rcases (hB.1 h).2 with h|h
    ·exact h0 h.2.1
    exact h.1 rfl
   have d0:(it==0)=false:=by simp [h0]
   clear hB B h0
   go_enter Tryz.func110,Tryz.ntmps110
   go_upto_region 1 with fail
   generalize (w.alloc (.cells (ai l SA LA OA sn sc ln lc on oc) 41)).alloc (.cells #[.int .i64 3,.int .i64 it,.slice Y D W] 89)=W9 at *
   obtain ⟨Q,I,G,K⟩:=cs4 j.out
   obtain ⟨J,U,H⟩:=cs3 g.out
   have V:=aC j.out
   have R:=aC g.out
   go_wp2_with fail
   refine (dI l SA LA OA sn sc ln lc on oc 3 it es Y D W _ (HN.out.below u.out) (HE.out.below u.out) af).mono ?_
   rw [Z.out]
   rintro _ w1 ⟨rfl,q⟩
   have z:=Hd (aA u.out q)
   clear Q I G K J U H V R
   obtain ⟨Q,I,G,K⟩:=cs4 (aD q j.out)
   obtain ⟨J,U,H⟩:=cs3 (aD q g.out)
   have V:=aC (aD q j.out)
   have R:=aC (aD q g.out)
   have ak:=Hd (aD q j.out)
   have al:=Hd (aD q g.out)
   clear q
   go_wp2_with fail
   go_ret
   exact ⟨aO HR.out,z.out⟩
  have d3:(kd != 3)=true:=by simp [k3]
  by_cases am:D=0
  ·have de:((D:Int)==0)=true:=by simp;omega
   by_cases k2:kd=2
   ·subst k2
    have aG:=jW.1 B
    rw [aP.out] at aG
    obtain ⟨X,rfl⟩:∃X:Nat,it=(X:Int):=⟨it.toNat,by omega⟩
    rw [Int.toNat_natCast] at hB
    have hX:X<sn:=by omega
    obtain ⟨bs,os,IA,im,ic,rfl,au,c0,c1,c2,r2⟩:=HN.out.sq.sq' (k:=X) (by rw [aP.out];exact hX)
    generalize l.seqs[X]?.getD Sq.zero=s at *
    clear c1 c2 r2 k3
    by_cases hk:s.kind=1
    ·have dk:(s.kind==1)=true:=by simp [hk]
     have HR:Hid (dM l ⟨2,(X:Int),es⟩):=hB.2 ⟨B,.inr ⟨by decide,am,fun _=>hk⟩⟩
     clear hB B hk am aG
     go_enter Tryz.func110,Tryz.ntmps110
     go_upto_region 1 with fail
     generalize (w.alloc (.cells (ai l (some ⟨bs,os,none⟩) LA OA sn sc ln lc on oc) 41)).alloc (.cells #[.int .i64 2,.int .i64 (X:Int),.slice Y D W] 89)=W9 at *
     obtain ⟨Q,I,G,K⟩:=cs4 j.out
     obtain ⟨J,U,H⟩:=cs3 g.out
     have V:=aC j.out
     have R:=aC g.out
     go_wp2_with fail
     refine (dI l (some ⟨bs,os,none⟩) LA OA sn sc ln lc on oc 2 (X:Int) es Y D W _ (HN.out.below u.out) (HE.out.below u.out) af).mono ?_
     rw [Z.out]
     rintro _ w1 ⟨rfl,q⟩
     have z:=Hd (aA u.out q)
     clear Q I G K J U H V R
     obtain ⟨Q,I,G,K⟩:=cs4 (aD q j.out)
     obtain ⟨J,U,H⟩:=cs3 (aD q g.out)
     have V:=aC (aD q j.out)
     have R:=aC (aD q g.out)
     have ak:=Hd (aD q j.out)
     have al:=Hd (aD q g.out)
     have a0:=aK z.out au
     rw [←z.out.cell (p:=⟨bs,os+X * 3,none⟩) au] at c0
     clear q
     go_wp2_with fail
     go_ret
     exact ⟨dU HR.out,z.out⟩
    have dk:(s.kind==1)=false:=by simp [hk]
    have HR:Hid (¬dM l ⟨2,(X:Int),es⟩):=fun h=>by
     rcases (hB.1 h).2 with h|h
     ·exact absurd h.1 (by decide)
     exact hk (h.2.2 rfl)
    clear hB B hk am aG
    go_enter Tryz.func110,Tryz.ntmps110
    go_upto_region 1 with fail
    generalize (w.alloc (.cells (ai l (some ⟨bs,os,none⟩) LA OA sn sc ln lc on oc) 41)).alloc (.cells #[.int .i64 2,.int .i64 (X:Int),.slice Y D W] 89)=W9 at *
    obtain ⟨Q,I,G,K⟩:=cs4 j.out
    obtain ⟨J,U,H⟩:=cs3 g.out
    have V:=aC j.out
    have R:=aC g.out
    go_wp2_with fail
    refine (dI l (some ⟨bs,os,none⟩) LA OA sn sc ln lc on oc 2 (X:Int) es Y D W _ (HN.out.below u.out) (HE.out.below u.out) af).mono ?_
    rw [Z.out]
    rintro _ w1 ⟨rfl,q⟩
    have z:=Hd (aA u.out q)
    clear Q I G K J U H V R
    obtain ⟨Q,I,G,K⟩:=cs4 (aD q j.out)
    obtain ⟨J,U,H⟩:=cs3 (aD q g.out)
    have V:=aC (aD q j.out)
    have R:=aC (aD q g.out)
    have ak:=Hd (aD q j.out)
    have al:=Hd (aD q g.out)
    have a0:=aK z.out au
    rw [←z.out.cell (p:=⟨bs,os+X * 3,none⟩) au] at c0
    clear q
    go_wp2_with fail
    go_ret
    exact ⟨aO HR.out,z.out⟩
   have d2:(kd != 2)=true:=by simp [k2]
   have HR:Hid (dM l ⟨kd,it,es⟩):=hB.2 ⟨B,.inr ⟨k3,am,fun h=>absurd h k2⟩⟩
   clear hB B k2 am k3
   go_enter Tryz.func110,Tryz.ntmps110
   go_upto_region 1 with fail
   generalize (w.alloc (.cells (ai l SA LA OA sn sc ln lc on oc) 41)).alloc (.cells #[.int .i64 kd,.int .i64 it,.slice Y D W] 89)=W9 at *
   obtain ⟨Q,I,G,K⟩:=cs4 j.out
   obtain ⟨J,U,H⟩:=cs3 g.out
   have V:=aC j.out
   have R:=aC g.out
   go_wp2_with fail
   refine (dI l SA LA OA sn sc ln lc on oc kd it es Y D W _ (HN.out.below u.out) (HE.out.below u.out) af).mono ?_
   rw [Z.out]
   rintro _ w1 ⟨rfl,q⟩
   have z:=Hd (aA u.out q)
   clear Q I G K J U H V R
   obtain ⟨Q,I,G,K⟩:=cs4 (aD q j.out)
   obtain ⟨J,U,H⟩:=cs3 (aD q g.out)
   have V:=aC (aD q j.out)
   have R:=aC (aD q g.out)
   have ak:=Hd (aD q j.out)
   have al:=Hd (aD q g.out)
   clear q
   go_wp2_with fail
   go_ret
   exact ⟨dU HR.out,z.out⟩
  have de:((D:Int)==0)=false:=by simp;omega
  have HR:Hid (¬dM l ⟨kd,it,es⟩):=fun h=>by
   rcases (hB.1 h).2 with h|h
   ·exact k3 h.1
   exact am h.2.1
  clear hB B am k3
  go_enter Tryz.func110,Tryz.ntmps110
  go_upto_region 1 with fail
  generalize (w.alloc (.cells (ai l SA LA OA sn sc ln lc on oc) 41)).alloc (.cells #[.int .i64 kd,.int .i64 it,.slice Y D W] 89)=W9 at *
  obtain ⟨Q,I,G,K⟩:=cs4 j.out
  obtain ⟨J,U,H⟩:=cs3 g.out
  have V:=aC j.out
  have R:=aC g.out
  go_wp2_with fail
  refine (dI l SA LA OA sn sc ln lc on oc kd it es Y D W _ (HN.out.below u.out) (HE.out.below u.out) af).mono ?_
  rw [Z.out]
  rintro _ w1 ⟨rfl,q⟩
  have z:=Hd (aA u.out q)
  clear Q I G K J U H V R
  obtain ⟨Q,I,G,K⟩:=cs4 (aD q j.out)
  obtain ⟨J,U,H⟩:=cs3 (aD q g.out)
  have V:=aC (aD q j.out)
  have R:=aC (aD q g.out)
  have ak:=Hd (aD q j.out)
  have al:=Hd (aD q g.out)
  clear q
  go_wp2_with fail
  go_ret
  exact ⟨aO HR.out,z.out⟩
 have Z:Hid (tb (az l/\dY l ⟨kd,it,es⟩)=false):=bJ fun h=>B h.2
 have HR:Hid (¬dM l ⟨kd,it,es⟩):=fun h=>B (hB.1 h).1
 clear hB B
 go_enter Tryz.func110,Tryz.ntmps110
 go_upto_region 1 with fail
 generalize (w.alloc (.cells (ai l SA LA OA sn sc ln lc on oc) 41)).alloc (.cells #[.int .i64 kd,.int .i64 it,.slice Y D W] 89)=W9 at *
 obtain ⟨Q,I,G,K⟩:=cs4 j.out
 obtain ⟨J,U,H⟩:=cs3 g.out
 have V:=aC j.out
 have R:=aC g.out
 go_wp2_with fail
 refine (dI l SA LA OA sn sc ln lc on oc kd it es Y D W _ (HN.out.below u.out) (HE.out.below u.out) af).mono ?_
 rw [Z.out]
 rintro _ w1 ⟨rfl,q⟩
 have z:=Hd (aA u.out q)
 clear Q I G K J U H V R
 have ak:=Hd (aD q j.out)
 have al:=Hd (aD q g.out)
 clear q
 go_wp2_with fail
 go_ret
 exact ⟨aO HR.out,z.out⟩
end Go.Proofs.YtofihjoanjkdmaaGreat
