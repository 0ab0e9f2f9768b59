/- Blocks in the reference: which are known, their input pins (printed by mkpins.py). -/
import Derived.Test.YtofihjoanjkdmaaGreatLayF5
import Derived.Test.YtofihjoanjkdmaaGreatLayS2
import Derived.Test.YtofihjoanjkdmaaGreatSepL
namespace Go.Proofs.YtofihjoanjkdmaaGreat
set_option maxHeartbeats 4000000
set_option maxRecDepth 100000
open Go.RowKit
theorem dC (l:ai) (SA LA OA:Option Addr) (sn sc ln lc on oc:Nat) (kd it:Int) (es:List LeT) (Y:Option Addr) (U Z:Nat) (w:World) (h:fo w l SA LA OA sn sc ln lc on oc) (hE:RdC w w.heap.size (cO es) (.slice Y U Z)) (bv:U<=1048576) :
  Calls Tryz.prog 203 #[jI l SA LA OA sn sc ln lc on oc,.agg #[.int .i64 kd,.int .i64 it,.slice Y U Z]] w fun e w'=>e = .returned (.bool (tb (bA l/\dY l ⟨kd,it,es⟩)))/\Below w.heap.size w w':=by
 have W:=hE.esN
 obtain ⟨HE,aS⟩:=hd2 hE W
 clear hE W
 have B:=Hd (aD (aD (Below.refl w.heap.size w) (.cells (ak l SA LA OA sn sc ln lc on oc) 41)) (.cells #[.int .i64 kd,.int .i64 it,.slice Y U Z] 89))
 have hx:=bS (.cells #[.int .i64 kd,.int .i64 it,.slice Y U Z] 89) (aI w (.cells (ak l SA LA OA sn sc ln lc on oc) 41))
 have hy:=aI (w.alloc (.cells (ak l SA LA OA sn sc ln lc on oc) 41)) (.cells #[.int .i64 kd,.int .i64 it,.slice Y U Z] 89)
 simp only [World.size_alloc] at hy
 obtain ⟨g,q⟩:=hd2 hx hy
 clear hx hy
 obtain ⟨aU,aT,aW⟩:=h.lens
 obtain ⟨HN,ag,bh,ad⟩:=hd4 h aU aT aW
 clear h aU aT aW
 by_cases hf:bA l
 ·have R:Hid (tb (bA l)=true):=ae hf
  have bf:=hf.nseq
  have bl:=hf.nlut
  have bc:=hf.nout
  have br:=hf.inp
  rw [ag.out] at bf
  rw [bh.out] at bl
  rw [ad.out] at bc
  have HF:=Hd hf
  clear hf
  by_cases k0:kd=0
  ·subst k0
   by_cases h0:0<=it
   ·have d0:decide (it≥0)=true:=decide_eq_true h0
    by_cases h1:it<l.inputs
    ·have d1:decide (it<l.inputs)=true:=decide_eq_true h1
     have Q:Hid (bA l/\dY l ⟨0,it,es⟩):=⟨HF.out,oN.2 ⟨h0,by have:=ag.out;have:=ad.out;omega⟩⟩
     clear h0 h1
     go_enter Tryz.func203,Tryz.ntmps203
     go_upto_region 1 with fail
     generalize (w.alloc (.cells (ak l SA LA OA sn sc ln lc on oc) 41)).alloc (.cells #[.int .i64 0,.int .i64 it,.slice Y U Z] 89)=W9 at *
     obtain ⟨I,J,V,K,G⟩:=bX g.out
     have H:=aB q.out
     go_wp2_with fail
     refine (dM l SA LA OA sn sc ln lc on oc _ (HN.out.below B.out)).mono ?_
     rw [R.out]
     rintro _ w1 ⟨rfl,D⟩
     have z:=Hd (aA B.out D)
     have u:=Hd D
     clear I J V K  G H D
     have I:=aF (k:=0) (aC u.out g.out) rfl
     obtain ⟨y0,y1⟩:=cs2 (aC u.out q.out)
     have G:=aB (aC u.out g.out)
     have H:=aB (aC u.out q.out)
     go_wp2_with fail
     go_ret
     exact ⟨dU Q.out,z.out⟩
    have d1:decide (it<l.inputs)=false:=decide_eq_false h1
    have Q:Hid (¬(bA l/\dY l ⟨0,it,es⟩)):=fun h=>h1 (by have h2:=(oN.1 h.2).2;have:=ag.out;have:=ad.out;omega)
    clear h0 h1
    go_enter Tryz.func203,Tryz.ntmps203
    go_upto_region 1 with fail
    generalize (w.alloc (.cells (ak l SA LA OA sn sc ln lc on oc) 41)).alloc (.cells #[.int .i64 0,.int .i64 it,.slice Y U Z] 89)=W9 at *
    obtain ⟨I,J,V,K,G⟩:=bX g.out
    have H:=aB q.out
    go_wp2_with fail
    refine (dM l SA LA OA sn sc ln lc on oc _ (HN.out.below B.out)).mono ?_
    rw [R.out]
    rintro _ w1 ⟨rfl,D⟩
    have z:=Hd (aA B.out D)
    have u:=Hd D
    clear I J V K  G H D
    have I:=aF (k:=0) (aC u.out g.out) rfl
    obtain ⟨y0,y1⟩:=cs2 (aC u.out q.out)
    have G:=aB (aC u.out g.out)
    have H:=aB (aC u.out q.out)
    go_wp2_with fail
    go_ret
    exact ⟨aO Q.out,z.out⟩
   have d0:decide (it≥0)=false:=decide_eq_false h0
   have Q:Hid (¬(bA l/\dY l ⟨0,it,es⟩)):=fun h=>h0 (oN.1 h.2).1
   clear h0
   go_enter Tryz.func203,Tryz.ntmps203
   go_upto_region 1 with fail
   generalize (w.alloc (.cells (ak l SA LA OA sn sc ln lc on oc) 41)).alloc (.cells #[.int .i64 0,.int .i64 it,.slice Y U Z] 89)=W9 at *
   obtain ⟨I,J,V,K,G⟩:=bX g.out
   have H:=aB q.out
   go_wp2_with fail
   refine (dM l SA LA OA sn sc ln lc on oc _ (HN.out.below B.out)).mono ?_
   rw [R.out]
   rintro _ w1 ⟨rfl,D⟩
   have z:=Hd (aA B.out D)
   have u:=Hd D
   clear I J V K  G H D
   have I:=aF (k:=0) (aC u.out g.out) rfl
   obtain ⟨y0,y1⟩:=cs2 (aC u.out q.out)
   have G:=aB (aC u.out g.out)
   have H:=aB (aC u.out q.out)
   go_wp2_with fail
   go_ret
   exact ⟨aO Q.out,z.out⟩
  by_cases k1:kd=1
  ·subst k1
   by_cases h0:0<=it
   ·have d0:decide (it≥0)=true:=decide_eq_true h0
    by_cases h1:it<(on:Int)
    ·have d1:decide (it<(on:Int))=true:=decide_eq_true h1
     have Q:Hid (bA l/\dY l ⟨1,it,es⟩):=⟨HF.out,oO.2 ⟨h0,by have:=ag.out;have:=ad.out;omega⟩⟩
     clear h0 h1
     go_enter Tryz.func203,Tryz.ntmps203
     go_upto_region 1 with fail
     generalize (w.alloc (.cells (ak l SA LA OA sn sc ln lc on oc) 41)).alloc (.cells #[.int .i64 1,.int .i64 it,.slice Y U Z] 89)=W9 at *
     obtain ⟨I,J,V,K,G⟩:=bX g.out
     have H:=aB q.out
     go_wp2_with fail
     refine (dM l SA LA OA sn sc ln lc on oc _ (HN.out.below B.out)).mono ?_
     rw [R.out]
     rintro _ w1 ⟨rfl,D⟩
     have z:=Hd (aA B.out D)
     have u:=Hd D
     clear I J V K  G H D
     have K:=aF (k:=3) (aC u.out g.out) rfl
     obtain ⟨y0,y1⟩:=cs2 (aC u.out q.out)
     have G:=aB (aC u.out g.out)
     have H:=aB (aC u.out q.out)
     go_wp2_with fail
     go_ret
     exact ⟨dU Q.out,z.out⟩
    have d1:decide (it<(on:Int))=false:=decide_eq_false h1
    have Q:Hid (¬(bA l/\dY l ⟨1,it,es⟩)):=fun h=>h1 (by have h2:=(oO.1 h.2).2;have:=ag.out;have:=ad.out;omega)
    clear h0 h1
    go_enter Tryz.func203,Tryz.ntmps203
    go_upto_region 1 with fail
    generalize (w.alloc (.cells (ak l SA LA OA sn sc ln lc on oc) 41)).alloc (.cells #[.int .i64 1,.int .i64 it,.slice Y U Z] 89)=W9 at *
    obtain ⟨I,J,V,K,G⟩:=bX g.out
    have H:=aB q.out
    go_wp2_with fail
    refine (dM l SA LA OA sn sc ln lc on oc _ (HN.out.below B.out)).mono ?_
    rw [R.out]
    rintro _ w1 ⟨rfl,D⟩
    have z:=Hd (aA B.out D)
    have u:=Hd D
    clear I J V K  G H D
    have K:=aF (k:=3) (aC u.out g.out) rfl
    obtain ⟨y0,y1⟩:=cs2 (aC u.out q.out)
    have G:=aB (aC u.out g.out)
    have H:=aB (aC u.out q.out)
    go_wp2_with fail
    go_ret
    exact ⟨aO Q.out,z.out⟩
   have d0:decide (it≥0)=false:=decide_eq_false h0
   have Q:Hid (¬(bA l/\dY l ⟨1,it,es⟩)):=fun h=>h0 (oO.1 h.2).1
   clear h0
   go_enter Tryz.func203,Tryz.ntmps203
   go_upto_region 1 with fail
   generalize (w.alloc (.cells (ak l SA LA OA sn sc ln lc on oc) 41)).alloc (.cells #[.int .i64 1,.int .i64 it,.slice Y U Z] 89)=W9 at *
   obtain ⟨I,J,V,K,G⟩:=bX g.out
   have H:=aB q.out
   go_wp2_with fail
   refine (dM l SA LA OA sn sc ln lc on oc _ (HN.out.below B.out)).mono ?_
   rw [R.out]
   rintro _ w1 ⟨rfl,D⟩
   have z:=Hd (aA B.out D)
   have u:=Hd D
   clear I J V K  G H D
   have K:=aF (k:=3) (aC u.out g.out) rfl
   obtain ⟨y0,y1⟩:=cs2 (aC u.out q.out)
   have G:=aB (aC u.out g.out)
   have H:=aB (aC u.out q.out)
   go_wp2_with fail
   go_ret
   exact ⟨aO Q.out,z.out⟩
  by_cases k2:kd=2
  ·subst k2
   by_cases h0:0<=it
   ·have d0:decide (it≥0)=true:=decide_eq_true h0
    by_cases h1:it<(sn:Int)
    ·have d1:decide (it<(sn:Int))=true:=decide_eq_true h1
     have Q:Hid (bA l/\dY l ⟨2,it,es⟩):=⟨HF.out,il.2 ⟨h0,by have:=ag.out;have:=ad.out;omega⟩⟩
     clear h0 h1
     go_enter Tryz.func203,Tryz.ntmps203
     go_upto_region 1 with fail
     generalize (w.alloc (.cells (ak l SA LA OA sn sc ln lc on oc) 41)).alloc (.cells #[.int .i64 2,.int .i64 it,.slice Y U Z] 89)=W9 at *
     obtain ⟨I,J,V,K,G⟩:=bX g.out
     have H:=aB q.out
     go_wp2_with fail
     refine (dM l SA LA OA sn sc ln lc on oc _ (HN.out.below B.out)).mono ?_
     rw [R.out]
     rintro _ w1 ⟨rfl,D⟩
     have z:=Hd (aA B.out D)
     have u:=Hd D
     clear I J V K  G H D
     have J:=aF (k:=1) (aC u.out g.out) rfl
     obtain ⟨y0,y1⟩:=cs2 (aC u.out q.out)
     have G:=aB (aC u.out g.out)
     have H:=aB (aC u.out q.out)
     go_wp2_with fail
     go_ret
     exact ⟨dU Q.out,z.out⟩
    have d1:decide (it<(sn:Int))=false:=decide_eq_false h1
    have Q:Hid (¬(bA l/\dY l ⟨2,it,es⟩)):=fun h=>h1 (by have h2:=(il.1 h.2).2;have:=ag.out;have:=ad.out;omega)
    clear h0 h1
    go_enter Tryz.func203,Tryz.ntmps203
    go_upto_region 1 with fail
    generalize (w.alloc (.cells (ak l SA LA OA sn sc ln lc on oc) 41)).alloc (.cells #[.int .i64 2,.int .i64 it,.slice Y U Z] 89)=W9 at *
    obtain ⟨I,J,V,K,G⟩:=bX g.out
    have H:=aB q.out
    go_wp2_with fail
    refine (dM l SA LA OA sn sc ln lc on oc _ (HN.out.below B.out)).mono ?_
    rw [R.out]
    rintro _ w1 ⟨rfl,D⟩
    have z:=Hd (aA B.out D)
    have u:=Hd D
    clear I J V K  G H D
    have J:=aF (k:=1) (aC u.out g.out) rfl
    obtain ⟨y0,y1⟩:=cs2 (aC u.out q.out)
    have G:=aB (aC u.out g.out)
    have H:=aB (aC u.out q.out)
    go_wp2_with fail
    go_ret
    exact ⟨aO Q.out,z.out⟩
   have d0:decide (it≥0)=false:=decide_eq_false h0
   have Q:Hid (¬(bA l/\dY l ⟨2,it,es⟩)):=fun h=>h0 (il.1 h.2).1
   clear h0
   go_enter Tryz.func203,Tryz.ntmps203
   go_upto_region 1 with fail
   generalize (w.alloc (.cells (ak l SA LA OA sn sc ln lc on oc) 41)).alloc (.cells #[.int .i64 2,.int .i64 it,.slice Y U Z] 89)=W9 at *
   obtain ⟨I,J,V,K,G⟩:=bX g.out
   have H:=aB q.out
   go_wp2_with fail
   refine (dM l SA LA OA sn sc ln lc on oc _ (HN.out.below B.out)).mono ?_
   rw [R.out]
   rintro _ w1 ⟨rfl,D⟩
   have z:=Hd (aA B.out D)
   have u:=Hd D
   clear I J V K  G H D
   have J:=aF (k:=1) (aC u.out g.out) rfl
   obtain ⟨y0,y1⟩:=cs2 (aC u.out q.out)
   have G:=aB (aC u.out g.out)
   have H:=aB (aC u.out q.out)
   go_wp2_with fail
   go_ret
   exact ⟨aO Q.out,z.out⟩
  have d0:(kd==0)=false:=by simp [k0]
  have d1:(kd==1)=false:=by simp [k1]
  have d2:(kd==2)=false:=by simp [k2]
  have ap:kd≠0/\kd≠1/\kd≠2:=⟨k0,k1,k2⟩
  clear k0 k1 k2
  have ay:=Hd ap
  clear ap
  go_enter Tryz.func203,Tryz.ntmps203
  go_upto_region 1 with fail
  generalize (w.alloc (.cells (ak l SA LA OA sn sc ln lc on oc) 41)).alloc (.cells #[.int .i64 kd,.int .i64 it,.slice Y U Z] 89)=W9 at *
  obtain ⟨I,J,V,K,G⟩:=bX g.out
  have H:=aB q.out
  go_wp2_with fail
  refine (dM l SA LA OA sn sc ln lc on oc _ (HN.out.below B.out)).mono ?_
  rw [R.out]
  rintro _ w1 ⟨rfl,D⟩
  have z:=Hd (aA B.out D)
  have u:=Hd D
  obtain ⟨W8,rfl⟩:∃x,x=w1:=⟨w1,rfl⟩
  clear I J V K  G H D
  have I:=aF (k:=0) (aC u.out g.out) rfl
  obtain ⟨y0,y1,y2⟩:=cs3 (aC u.out q.out)
  have G:=aB (aC u.out g.out)
  have H:=aB (aC u.out q.out)
  go_wp2_with fail
  clear I y0 y1 y2 G H
  go_loopw [5] (fun i wr=>∃k:Nat,k<=U/\i = .int .i64 k/\Below W8.heap.size W8 wr/\∀j,j<k→dQ l ⟨(es[j]?.getD LeT.zero).lut,(es[j]?.getD LeT.zero).ff⟩) (fun i _=>U - (intOf i).toNat)
  ·exact ⟨0,Nat.zero_le _,rfl,Below.refl _ _,fun j hj=>by omega⟩
  obtain ⟨k,hk,rfl,hb,az⟩:=hrel
  obtain ⟨aV,aq⟩:=hd2 hb az
  have ah:=Hd (aA z.out hb)
  have hx:=aC hb (aC u.out g.out)
  have hy:=aC hb (aC u.out q.out)
  obtain ⟨y0,-,y2,H⟩:=jU hy
  clear hb az
  by_cases bb:k<U
  ·have bk:=dT (by omega:k<U)
   obtain ⟨I,J,V,K,G⟩:=bX hx
   clear hx hy
   have ax:k<es.length:=by rw [aS.out];exact bb
   obtain ⟨be,oe,a0,aJ,c0,c1⟩:=HE.out.es (k:=k) ax
   have bd:=Hd a0
   have a1:=aK ah.out aJ
   rw [←ah.out.cell (p:=⟨be,oe+k * 2,none⟩) aJ] at c0
   rw [←ah.out.cell (p:=⟨be,oe+k * 2+1,none⟩) aJ] at c1
   have HG:Hid (dQ l ⟨(es[k]?.getD LeT.zero).lut,(es[k]?.getD LeT.zero).ff⟩→∀j,j<k+1→dQ l ⟨(es[j]?.getD LeT.zero).lut,(es[j]?.getD LeT.zero).ff⟩):=fun h=>bU aq.out h
   have aw:Hid (¬dQ l ⟨(es[k]?.getD LeT.zero).lut,(es[k]?.getD LeT.zero).ff⟩→¬(bA l/\dY l ⟨kd,it,es⟩)):=fun h h'=>h (by
    have a9:kd=3:=by have h9:=jJ h'.2;have h8:=ay.out;omega
    have h2:=h'.2
    subst a9
    have:=kF.1 h2 _ (List.getElem_mem ax)
    rwa [show es[k]=es[k]?.getD LeT.zero by rw [List.getElem?_eq_getElem ax];rfl] at this)
   clear ax a0
   obtain rfl:=bd.out
   generalize es[k]?.getD LeT.zero=e at *
   obtain ⟨a,b⟩:=e
   simp only at c0 c1 HG aw
   obtain ⟨i0,i1⟩:=ib (by omega:k<U)
   go_upto_region 13 with fail
   have al:=fun (v:Sub wr)=>DL l SA LA OA sn sc ln lc on oc a b v.v (HN.out.below (aA ah.out v.h)) HF.out
   by_cases W:dQ l ⟨a,b⟩
   ·rw [ae W] at al
    have aE:=Hd al
    have bj:=Hd (HG.out W)
    clear al W HG aw
    have ar:=aX wr
    have aH:=aP wr
    refine wpB wr ?_
    repeat (go_big_quiet_step ((first
     | (go_at_call 254;with_reducible exact aN (aE.out _)))))
    refine wpQuiet_nil ?_
    rintro _ ⟨⟨w5,hD⟩,rfl⟩
    clear ar aH
    have HD:=Hd (aA aV.out hD)
    clear hD I J V K y0 y2 G H c0 c1 a1
    go_wp2_with fail
    go_roundw
    ·exact ⟨k+1,by omega,by go_num,HD.out,bj.out⟩
    simp [intOf];omega
   rw [bJ W] at al
   have aE:=Hd al
   have Q:=Hd (aw.out W)
   clear al W HG aw
   have ar:=aX wr
   have aH:=aP wr
   refine wpB wr ?_
   repeat (go_big_quiet_step ((first
    | (go_at_call 254;with_reducible exact aN (aE.out _)))))
   refine wpQuiet_nil ?_
   rintro _ ⟨⟨w5,hD⟩,rfl⟩
   clear ar aH
   have HD:=Hd (aA aV.out hD)
   clear hD I J V K y0 y2 G H c0 c1 a1
   go_wp2_with fail
   go_ret
   exact ⟨aO Q.out,aA z.out HD.out⟩
  have a3:k=U:=by omega
  have bk:=dF (by omega:U<=k)
  have af:∀e∈es,dQ l e:=fun e he=>by
   obtain ⟨j,hj,rfl⟩:=List.getElem_of_mem he
   have h:=aq.out j (by rw [a3,←aS.out];exact hj)
   rwa [show es[j]?.getD LeT.zero=es[j] by rw [List.getElem?_eq_getElem hj];rfl] at h
  clear hx hy aq a3
  by_cases k3:kd=3
  ·have Q:Hid (bA l/\dY l ⟨kd,it,es⟩):=⟨HF.out,by rw [k3];exact kF.2 af⟩
   have d3:(kd==3)=true:=by simp [k3]
   clear k3 af
   go_wp2_with fail
   go_ret
   exact ⟨dU Q.out,ah.out⟩
  have Q:Hid (¬(bA l/\dY l ⟨kd,it,es⟩)):=fun h=>by have h9:=jJ h.2;have h8:=ay.out;omega
  have d3:(kd==3)=false:=by simp [k3]
  clear k3 af
  go_wp2_with fail
  go_ret
  exact ⟨aO Q.out,ah.out⟩
 have R:Hid (tb (bA l)=false):=bJ hf
 have Q:Hid (¬(bA l/\dY l ⟨kd,it,es⟩)):=fun h=>hf h.1
 clear hf
 go_enter Tryz.func203,Tryz.ntmps203
 go_upto_region 1 with fail
 generalize (w.alloc (.cells (ak l SA LA OA sn sc ln lc on oc) 41)).alloc (.cells #[.int .i64 kd,.int .i64 it,.slice Y U Z] 89)=W9 at *
 obtain ⟨I,J,V,K,G⟩:=bX g.out
 have H:=aB q.out
 go_wp2_with fail
 refine (dM l SA LA OA sn sc ln lc on oc _ (HN.out.below B.out)).mono ?_
 rw [R.out]
 rintro _ w1 ⟨rfl,D⟩
 have z:=Hd (aA B.out D)
 have u:=Hd D
 clear I J V K  G H D
 go_wp2_with fail
 go_ret
 exact ⟨aO Q.out,z.out⟩
theorem EP {l:ai} (hf:bA l) {es:List LeT} (h:∀e∈es,dQ l e):asc ((es.flatMap (iB l)).filter fun x=>decide (0<x/\x∉es.map (cZ l)))=fE l es:=by
 unfold fE FN
 refine congrArg asc (List.filter_congr fun x g=>?_)
 obtain ⟨e,he,g⟩:=List.mem_flatMap.1 g
 have:=((mW hf (h e he)).2 x g).1
 simp [this]
theorem oM (l:ai) (SA LA OA:Option Addr) (sn sc ln lc on oc:Nat) (es:List LeT) (EA:Option Addr) (I ec:Nat) (w:World) (h:fo w l SA LA OA sn sc ln lc on oc) (hf:bA l) (hE:RdC w w.heap.size (cO es) (.slice EA I ec)) (hK:∀e∈es,dQ l e) (bn:I<=100000) :
  Calls Tryz.prog 158 #[jI l SA LA OA sn sc ln lc on oc,.slice EA I ec] w fun e w'=>∃A n c,e = .returned (.slice A n c)/\Own w.heap.size w' A n c (fE l es)/\Below w.heap.size w w':=by
 have aj:=hE.esN
 obtain ⟨HE,ae⟩:=hd2 hE aj
 clear hE aj
 have j:=Hd (aD (Below.refl w.heap.size w) (.cells (ak l SA LA OA sn sc ln lc on oc) 41))
 have D:=Hd (aI w (.cells (ak l SA LA OA sn sc ln lc on oc) 41))
 obtain ⟨HN,HF⟩:=hd2 h hf
 clear h hf
 have Z:=Hd hK
 clear hK
 have aE:=Hd (EP HF.out Z.out)
 go_enter Tryz.func158,Tryz.ntmps158
 go_upto_region 1 with fail
 generalize w.alloc (.cells (ak l SA LA OA sn sc ln lc on oc) 41)=U at *
 go_wp2_with fail
 go_loopw [5,6,7] (fun u v i wr=>∃(k:Nat) (A1:Option Addr) (n1 c1:Nat) (A2:Option Addr) (c2:Nat),k<=I/\i = .int .i64 k/\u = .slice A1 n1 c1/\v = .slice A2 k c2/\aJ U wr [.cel (aG ((es.take k).flatMap (iB l))) (.slice A1 n1 c1),.cel (aG ((es.take k).map (cZ l))) (.slice A2 k c2)]) (fun _ _ i _=>I - (intOf i).toNat)
 ·exact ⟨0,_,_,_,_,_,Nat.zero_le _,rfl,rfl,rfl,by have h:=((aJ.refl U).pushNew 3 1).pushNew 3 1;rw [World.size_alloc] at h;exact h⟩
 obtain ⟨k,A1,n1,cA,A2,cB,hk,rfl,rfl,rfl,hs⟩:=hrel
 have G:=Hd hs
 clear hs
 have aT:Hid (((es.take k).flatMap (iB l)).length<=4 * k):=by
  show _<=_
  have h:=kX (f:=iB l) (m:=4) (xs:=es.take k) fun e he=>(mW HF.out (Z.out e (List.mem_of_mem_take he))).1
  rw [List.length_take] at h
  have h2:min k es.length * 4<=k * 4:=Nat.mul_le_mul_right 4 (Nat.min_le_left _ _)
  omega
 have bk:n1<=4 * k:=by rw [←(G.out.ints 0 rfl).1];exact aT.out
 by_cases aq:k<I
 ·have aP:=dT (by omega:k<I)
  have B:k<es.length:=by rw [ae.out];exact aq
  obtain ⟨R,V,al,Q,c0,c1⟩:=HE.out.es (k:=k) B
  have av:=Hd al
  have K:=Hd (Z.out _ (List.getElem_mem B))
  have au:Hid ((es.take (k+1)).map (cZ l)=(es.take k).map (cZ l)++[cZ l ⟨(es[k]?.getD LeT.zero).lut,(es[k]?.getD LeT.zero).ff⟩]):=by show _=_;rw [bN (z:=LeT.zero) B,List.map_append];rfl
  have W:=Hd (show (es.take (k+1)).flatMap (iB l)=(es.take k).flatMap (iB l)++iB l ⟨(es[k]?.getD LeT.zero).lut,(es[k]?.getD LeT.zero).ff⟩ from by rw [bN (z:=LeT.zero) B,List.flatMap_append,List.flatMap_singleton])
  rw [show es[k]=es[k]?.getD LeT.zero by rw [List.getElem?_eq_getElem B];rfl] at K
  clear B al
  obtain rfl:=av.out
  generalize es[k]?.getD LeT.zero=e at *
  obtain ⟨i0,i1⟩:=ib (by omega:k<I)
  have g:Hid (∀w',Below U.heap.size U w'→(K4 w' w.heap.size (.int .i64 l.inputs) (.slice SA sn sc) (.slice LA ln lc) (.slice OA on oc) (w'.cell? ⟨R,V+k * 2,none⟩=some (.int .i64 e.lut)/\w'.cell? ⟨R,V+k * 2+1,none⟩=some (.int .i64 e.ff)))):=fun v H=>⟨aF (k:=0) (aC H D.out) rfl,aF (k:=1) (aC H D.out) rfl,aF (k:=2) (aC H D.out) rfl,aF (k:=3) (aC H D.out) rfl,((aA j.out H).cell (p:=⟨R,V+k * 2,none⟩) Q).trans c0,((aA j.out H).cell (p:=⟨R,V+k * 2+1,none⟩) Q).trans c1⟩
  clear c0 c1
  obtain ⟨x0,x1,x2,x3,c0,c1⟩:=g.out _ G.out.bel
  have lx:=aB (aC G.out.bel D.out)
  have am:=aK (aA j.out G.out.bel) Q
  have aS:=Hd (mW HF.out K.out).1
  have aQ:=Hd (fun (v:World) (H:Below U.heap.size U v)=>BG l SA LA OA sn sc ln lc on oc e.lut e.ff v (HN.out.below (aA j.out H)) HF.out K.out)
  have ar:=Hd (fun (v:World) (H:Below U.heap.size U v)=>rT l SA LA OA sn sc ln lc on oc e.lut e.ff v (HN.out.below (aA j.out H)) HF.out K.out)
  generalize iB l ⟨e.lut,e.ff⟩=src at *
  generalize cZ l ⟨e.lut,e.ff⟩=Y at *
  generalize ao:(es.take k).flatMap (iB l)=XS at *
  generalize aL:(es.take k).map (cZ l)=YS at *
  clear ao aL
  have hS:=Hd G.out.drew
  have q:=hS.out.bel
  go_upto_region 6 with fail
  go_region_held3 (fun w'=>K4 w' w.heap.size (.int .i64 l.inputs) (.slice SA sn sc) (.slice LA ln lc) (.slice OA on oc) (w'.cell? ⟨R,V+k * 2,none⟩=some (.int .i64 e.lut)/\w'.cell? ⟨R,V+k * 2+1,none⟩=some (.int .i64 e.ff)))
   (first|with_reducible exact g.out _ q)
   ((first
    | (go_at_call 241;(with_reducible refine (aQ.out _ q).mono ?_);rintro e5 w5 ⟨A5,n5,c5,rfl,o5,b5⟩;have O5:=Hd o5.ints;replace q:=aA q b5;have ax:=Hd (hS.out.below b5);clear b5 o5)
    | (refine yM rfl _ _ (by rfl) _ ax.out 0 A1 n1 cA XS A5 n5 c5 src rfl (by rfl) (by rfl) O5.out (by have h5:=O5.out.1;have h6:=aS.out;omega) ?_;rintro A6 c6 w6 S6 aO;have J:=Hd S6;replace q:=S6.bel;clear S6 aO)))
  clear hS q x0 x1 x2 x3 lx c0 c1 am
  obtain ⟨x0,x1,x2,x3,c0,c1⟩:=g.out _ J.out.bel
  have lx:=aB (aC J.out.bel D.out)
  have am:=aK (aA j.out J.out.bel) Q
  have hS:=Hd J.out.drew
  have q:=hS.out.bel
  go_upto_region 7 with fail
  go_region_held3 (fun w'=>K4 w' w.heap.size (.int .i64 l.inputs) (.slice SA sn sc) (.slice LA ln lc) (.slice OA on oc) (w'.cell? ⟨R,V+k * 2,none⟩=some (.int .i64 e.lut)/\w'.cell? ⟨R,V+k * 2+1,none⟩=some (.int .i64 e.ff)))
   (first|with_reducible exact g.out _ q|with_reducible exact g.out _ (aD q _))
   ((first
    | (go_at_call 204;(with_reducible refine (ar.out _ q).mono ?_);rintro _ w7 ⟨rfl,b7⟩;replace q:=aA q b7;have ay:=Hd (hS.out.below b7);clear b7)
    | (refine gu rfl _ _ (by rfl) _ (ay.out.alloc _) 1 A2 k cB (YS) Y _ (0,0) rfl (by rfl) (by rfl) (aI _ _) (by omega) ?_;intro g8 a0 w8 S8 ap;have aM:=Hd S8;replace q:=S8.bel;clear S8 ap)))
  go_wp2_with fail
  go_roundw
  ·exact ⟨k+1,_,_,_,_,_,by omega,by go_num,rfl,rfl,by rw [W.out,au.out];exact aM.out⟩
  simp [intOf];omega
 have ag:k=I:=by omega
 have aP:=dF (by omega:I<=k)
 have W:Hid (es.take k=es):=by show _=_;rw [ag];exact List.take_of_length_le (by rw [ae.out];exact Nat.le_refl _)
 rw [W.out] at G
 have O1:=Hd (G.out.ints 0 rfl)
 have O2:=Hd (G.out.ints 1 rfl)
 clear ag
 go_wp2_with fail
 refine (rU A1 A2 n1 cA k cB _ _ _ O1.out O2.out (by omega) (by omega)).mono ?_
 rintro _ w9 ⟨A,n,c,rfl,o9,b9⟩
 have O9:=Hd (o9.more (Nat.le_trans j.out.size G.out.bel.size))
 have B9:=Hd (aA (aA j.out G.out.bel) b9)
 clear o9 b9
 go_wp2_with fail
 go_ret
 exact ⟨_,_,_,rfl,by rw [←aE.out];exact O9.out,B9.out⟩
theorem wL (l:ai) (SA LA OA:Option Addr) (sn sc ln lc on oc:Nat) (kd it:Int) (es:List LeT) (U:Option Addr) (D Q:Nat) (w:World) (h:fo w l SA LA OA sn sc ln lc on oc) (hf:bA l) (hE:RdC w w.heap.size (cO es) (.slice U D Q)) (hK:dY l ⟨kd,it,es⟩) (bz:D<=1048576) :
  Calls Tryz.prog 112 #[jI l SA LA OA sn sc ln lc on oc,.agg #[.int .i64 kd,.int .i64 it,.slice U D Q]] w fun e w'=>∃A n c,e = .returned (.slice A n c)/\Own w.heap.size w' A n c (jy l ⟨kd,it,es⟩)/\Below w.heap.size w w':=by
 have aS:=hE.esN
 obtain ⟨HE,aM⟩:=hd2 hE aS
 clear hE aS
 have q:=Hd (aD (aD (Below.refl w.heap.size w) (.cells (ak l SA LA OA sn sc ln lc on oc) 41)) (.cells #[.int .i64 kd,.int .i64 it,.slice U D Q] 89))
 have hx:=bS (.cells #[.int .i64 kd,.int .i64 it,.slice U D Q] 89) (aI w (.cells (ak l SA LA OA sn sc ln lc on oc) 41))
 have hy:=aI (w.alloc (.cells (ak l SA LA OA sn sc ln lc on oc) 41)) (.cells #[.int .i64 kd,.int .i64 it,.slice U D Q] 89)
 simp only [World.size_alloc] at hy
 obtain ⟨g,u⟩:=hd2 hx hy
 clear hx hy
 obtain ⟨az,ax,aE⟩:=h.lens
 have a4:=hf.nseq
 have bg:=hf.nlut
 have a0:=hf.nout
 have bq:=hf.inp
 rw [az] at a4
 rw [ax] at bg
 rw [aE] at a0
 obtain ⟨HN,HF,bd,bu,br⟩:=hd5 h hf az ax aE
 have bw:Hid ((l.first:Int)=1+l.inputs+(sn:Int)):=by show _=_;unfold ai.first;omega
 have aP:Hid ((l.count:Int)=1+l.inputs+(sn:Int)+(ln:Int)):=by show _=_;unfold ai.count ai.first;omega
 clear h hf az ax aE
 by_cases k0:kd=0
 ·subst k0
  have HR:Hid (jy l ⟨0,it,es⟩=[1+it]):=rfl
  have bb:0<=it/\it<l.inputs:=oN.1 hK
  have HK:=Hd hK
  go_enter Tryz.func112,Tryz.ntmps112
  go_upto_region 1 with fail
  generalize (w.alloc (.cells (ak l SA LA OA sn sc ln lc on oc) 41)).alloc (.cells #[.int .i64 0,.int .i64 it,.slice U D Q] 89)=W at *
  obtain ⟨x0,x1,x2,x3⟩:=cs4 g.out
  obtain ⟨Z,y1,y2⟩:=cs3 u.out
  have V:=aB g.out
  have R:=aB u.out
  have j:=Hd ((aJ.refl W).pushNew 3 1)
  have B:=ae (show bA l/\dY l ⟨0,it,es⟩ from ⟨HF.out,HK.out⟩)
  have I:=Hd B
  clear B
  go_wp2_with fail
  refine (dC l SA LA OA sn sc ln lc on oc 0 it es U D Q _ (HN.out.below (aA q.out j.out.bel)) (HE.out.below (aA q.out j.out.bel)) (by omega)).mono ?_
  rw [I.out]
  rintro _ w1 ⟨rfl,J⟩
  have G:=Hd (aA j.out.bel J)
  have H:=Hd (aA q.out G.out)
  have ah:=Hd (j.out.below J)
  clear J x0 x1 x2 x3 Z y1 y2 V R
  have x0:=aF (k:=0) (aC G.out g.out) rfl
  obtain ⟨Z,y1⟩:=cs2 (aC G.out u.out)
  have V:=aB (aC G.out g.out)
  have R:=aB (aC G.out u.out)
  go_wp2_with fail
  go_ret
  refine ⟨_,_,_,rfl,?_,aD H.out _⟩
  rw [HR.out]
  exact Own.made (cur:=#[.int .i64 (1+it)]) (aI w1 _) H.out.size (by unfold maxLen;omega) rfl rfl
 by_cases k1:kd=1
 ·subst k1
  have HR:Hid (jy l ⟨1,it,es⟩=[]):=rfl
  have HK:=Hd hK
  go_enter Tryz.func112,Tryz.ntmps112
  go_upto_region 1 with fail
  generalize (w.alloc (.cells (ak l SA LA OA sn sc ln lc on oc) 41)).alloc (.cells #[.int .i64 1,.int .i64 it,.slice U D Q] 89)=W at *
  obtain ⟨x0,x1,x2,x3⟩:=cs4 g.out
  obtain ⟨Z,y1,y2⟩:=cs3 u.out
  have V:=aB g.out
  have R:=aB u.out
  have j:=Hd ((aJ.refl W).pushNew 3 1)
  have B:=ae (show bA l/\dY l ⟨1,it,es⟩ from ⟨HF.out,HK.out⟩)
  have I:=Hd B
  clear B
  go_wp2_with fail
  refine (dC l SA LA OA sn sc ln lc on oc 1 it es U D Q _ (HN.out.below (aA q.out j.out.bel)) (HE.out.below (aA q.out j.out.bel)) (by omega)).mono ?_
  rw [I.out]
  rintro _ w1 ⟨rfl,J⟩
  have G:=Hd (aA j.out.bel J)
  have H:=Hd (aA q.out G.out)
  have ah:=Hd (j.out.below J)
  clear J x0 x1 x2 x3 Z y1 y2 V R
  have x0:=aF (k:=0) (aC G.out g.out) rfl
  obtain ⟨Z,y1⟩:=cs2 (aC G.out u.out)
  have V:=aB (aC G.out g.out)
  have R:=aB (aC G.out u.out)
  go_wp2_with fail
  go_ret
  exact ⟨_,_,_,rfl,by rw [HR.out];exact (ah.out.owned 0 rfl).more q.out.size,H.out⟩
 by_cases k2:kd=2
 ·subst k2
  have HR:Hid (jy l ⟨2,it,es⟩=[1+l.inputs+it]):=rfl
  have bb:0<=it/\it<(sn:Int):=by rw [←bd.out];exact il.1 hK
  have HK:=Hd hK
  go_enter Tryz.func112,Tryz.ntmps112
  go_upto_region 1 with fail
  generalize (w.alloc (.cells (ak l SA LA OA sn sc ln lc on oc) 41)).alloc (.cells #[.int .i64 2,.int .i64 it,.slice U D Q] 89)=W at *
  obtain ⟨x0,x1,x2,x3⟩:=cs4 g.out
  obtain ⟨Z,y1,y2⟩:=cs3 u.out
  have V:=aB g.out
  have R:=aB u.out
  have j:=Hd ((aJ.refl W).pushNew 3 1)
  have B:=ae (show bA l/\dY l ⟨2,it,es⟩ from ⟨HF.out,HK.out⟩)
  have I:=Hd B
  clear B
  go_wp2_with fail
  refine (dC l SA LA OA sn sc ln lc on oc 2 it es U D Q _ (HN.out.below (aA q.out j.out.bel)) (HE.out.below (aA q.out j.out.bel)) (by omega)).mono ?_
  rw [I.out]
  rintro _ w1 ⟨rfl,J⟩
  have G:=Hd (aA j.out.bel J)
  have H:=Hd (aA q.out G.out)
  have ah:=Hd (j.out.below J)
  clear J x0 x1 x2 x3 Z y1 y2 V R
  have x0:=aF (k:=0) (aC G.out g.out) rfl
  obtain ⟨Z,y1⟩:=cs2 (aC G.out u.out)
  have V:=aB (aC G.out g.out)
  have R:=aB (aC G.out u.out)
  go_wp2_with fail
  go_ret
  refine ⟨_,_,_,rfl,?_,aD H.out _⟩
  rw [HR.out]
  exact Own.made (cur:=#[.int .i64 (1+l.inputs+it)]) (aI w1 _) H.out.size (by unfold maxLen;omega) rfl rfl
 have k3:kd=3:=by have:=jJ hK;omega
 subst k3
 clear k0 k1 k2
 have HR:Hid (jy l ⟨3,it,es⟩=es.map (cZ l)):=rfl
 have a3:Hid (∀e∈es,dQ l e):=kF.1 hK
 have HK:=Hd hK
 go_enter Tryz.func112,Tryz.ntmps112
 go_upto_region 1 with fail
 generalize (w.alloc (.cells (ak l SA LA OA sn sc ln lc on oc) 41)).alloc (.cells #[.int .i64 3,.int .i64 it,.slice U D Q] 89)=W at *
 obtain ⟨x0,x1,x2,x3⟩:=cs4 g.out
 obtain ⟨Z,y1,y2⟩:=cs3 u.out
 have V:=aB g.out
 have R:=aB u.out
 have j:=Hd ((aJ.refl W).pushNew 3 1)
 have B:=ae (show bA l/\dY l ⟨3,it,es⟩ from ⟨HF.out,HK.out⟩)
 have I:=Hd B
 clear B
 go_wp2_with fail
 refine (dC l SA LA OA sn sc ln lc on oc 3 it es U D Q _ (HN.out.below (aA q.out j.out.bel)) (HE.out.below (aA q.out j.out.bel)) (by omega)).mono ?_
 rw [I.out]
 rintro _ w1 ⟨rfl,J⟩
 have G:=Hd (aA j.out.bel J)
 have H:=Hd (aA q.out G.out)
 have ah:=Hd (j.out.below J)
 clear J x0 x1 x2 x3 Z y1 y2 V R hK
 obtain ⟨Z,-,y2⟩:=cs3 (aC G.out u.out)
 have V:=aB (aC G.out g.out)
 have R:=aB (aC G.out u.out)
 go_wp2_with fail
 clear Z y2 V R
 go_loopw [5,6] (fun v i wr=>∃(k:Nat) (A':Option Addr) (c':Nat),k<=D/\i = .int .i64 k/\v = .slice A' k c'/\aJ W wr [.cel (aG ((es.take k).map (cZ l))) (.slice A' k c')]) (fun _ i _=>D - (intOf i).toNat)
 ·exact ⟨0,_,_,Nat.zero_le _,rfl,rfl,ah.out⟩
 obtain ⟨k,A2,cB,hk,rfl,rfl,hs⟩:=hrel
 have HS:=Hd hs
 clear hs
 by_cases aZ:k<D
 ·have bf:=dT (by omega:k<D)
  have ad:k<es.length:=by rw [aM.out];exact aZ
  obtain ⟨be,oe,aT,aH,c0,c1⟩:=HE.out.es (k:=k) ad
  have a2:=Hd aT
  have aU:=Hd (a3.out _ (List.getElem_mem ad))
  have a1:Hid ((es.take (k+1)).map (cZ l)=(es.take k).map (cZ l)++[cZ l ⟨(es[k]?.getD LeT.zero).lut,(es[k]?.getD LeT.zero).ff⟩]):=by show _=_;rw [bN (z:=LeT.zero) ad,List.map_append];rfl
  rw [show es[k]=es[k]?.getD LeT.zero by rw [List.getElem?_eq_getElem ad];rfl] at aU
  clear ad aT
  obtain rfl:=a2.out
  generalize es[k]?.getD LeT.zero=e at *
  obtain ⟨i0,i1⟩:=ib (by omega:k<D)
  have K:Hid (∀w',Below W.heap.size W w'→(K4 w' w.heap.size (.int .i64 l.inputs) (.slice SA sn sc) (.slice LA ln lc) (.slice OA on oc) (w'.cell? ⟨w.heap.size+1,2,none⟩=some (.slice (some ⟨be,oe,none⟩) D Q)/\w'.cell? ⟨be,oe+k * 2,none⟩=some (.int .i64 e.lut)/\w'.cell? ⟨be,oe+k * 2+1,none⟩=some (.int .i64 e.ff)))):=fun v hv=>⟨aF (k:=0) (aC hv g.out) rfl,aF (k:=1) (aC hv g.out) rfl,aF (k:=2) (aC hv g.out) rfl,aF (k:=3) (aC hv g.out) rfl,aF (k:=2) (aC hv u.out) rfl,((aA q.out hv).cell (p:=⟨be,oe+k * 2,none⟩) aH).trans c0,((aA q.out hv).cell (p:=⟨be,oe+k * 2+1,none⟩) aH).trans c1⟩
  clear c0 c1
  obtain ⟨x0,x1,x2,x3,y2,c0,c1⟩:=K.out _ HS.out.bel
  have V:=aB (aC HS.out.bel g.out)
  have R:=aB (aC HS.out.bel u.out)
  have bv:=aK (aA q.out HS.out.bel) aH
  have aP:=Hd (fun (v:World) (hv:Below W.heap.size W v)=>rT l SA LA OA sn sc ln lc on oc e.lut e.ff v (HN.out.below (aA q.out hv)) HF.out aU.out)
  generalize cZ l ⟨e.lut,e.ff⟩=Y at *
  generalize a9:(es.take k).map (cZ l)=YS at *
  clear a9
  have hS:=Hd HS.out.drew
  have hD:=hS.out.bel
  go_upto_region 14 with fail
  go_region_held3 (fun w'=>K4 w' w.heap.size (.int .i64 l.inputs) (.slice SA sn sc) (.slice LA ln lc) (.slice OA on oc) (w'.cell? ⟨w.heap.size+1,2,none⟩=some (.slice (some ⟨be,oe,none⟩) D Q)/\w'.cell? ⟨be,oe+k * 2,none⟩=some (.int .i64 e.lut)/\w'.cell? ⟨be,oe+k * 2+1,none⟩=some (.int .i64 e.ff)))
   (first|with_reducible exact K.out _ hD|with_reducible exact K.out _ (aD hD _))
   ((first
    | (go_at_call 204;(with_reducible refine (aP.out _ hD).mono ?_);rintro _ w7 ⟨rfl,b7⟩;replace hD:=aA hD b7;have a5:=Hd (hS.out.below b7);clear b7)
    | (refine gu rfl _ _ (by rfl) _ (a5.out.alloc _) 0 A2 k cB (YS) Y _ (0,0) rfl (by rfl) (by rfl) (aI _ _) (by omega) ?_;intro g8 bl w8 S8 aW;have bc:=Hd S8;replace hD:=S8.bel;clear S8 aW)))
  go_wp2_with fail
  go_roundw
  ·exact ⟨k+1,_,_,by omega,by go_num,rfl,by rw [a1.out];exact bc.out⟩
  simp [intOf];omega
 have aV:k=D:=by omega
 have bf:=dF (by omega:D<=k)
 obtain ⟨-,-,y2,R⟩:=jU (aC HS.out.bel u.out)
 have aY:Hid (es.take k=es):=by show _=_;rw [aV];exact List.take_of_length_le (by rw [aM.out];exact Nat.le_refl _)
 rw [aY.out] at HS
 clear aV
 go_wp2_with fail
 go_ret
 exact ⟨_,_,_,rfl,by rw [HR.out];exact (HS.out.owned 0 rfl).more q.out.size,aA q.out HS.out.bel⟩
theorem wM (l:ai) (SA LA OA:Option Addr) (sn sc ln lc on oc:Nat) (kd it:Int) (es:List LeT) (I:Option Addr) (H J:Nat) (w:World) (h:fo w l SA LA OA sn sc ln lc on oc) (hf:bA l) (hE:RdC w w.heap.size (cO es) (.slice I H J)) (K:dY l ⟨kd,it,es⟩) (a2:H<=100000) :
  Calls Tryz.prog 111 #[jI l SA LA OA sn sc ln lc on oc,.agg #[.int .i64 kd,.int .i64 it,.slice I H J]] w fun e w'=>∃A n c,e = .returned (.slice A n c)/\Own w.heap.size w' A n c (iy l ⟨kd,it,es⟩)/\Below w.heap.size w w':=by
 have aH:=hE.esN
 obtain ⟨HE,bg⟩:=hd2 hE aH
 clear hE aH
 have z:=Hd (aD (aD (Below.refl w.heap.size w) (.cells (ak l SA LA OA sn sc ln lc on oc) 41)) (.cells #[.int .i64 kd,.int .i64 it,.slice I H J] 89))
 have hx:=bS (.cells #[.int .i64 kd,.int .i64 it,.slice I H J] 89) (aI w (.cells (ak l SA LA OA sn sc ln lc on oc) 41))
 have hy:=aI (w.alloc (.cells (ak l SA LA OA sn sc ln lc on oc) 41)) (.cells #[.int .i64 kd,.int .i64 it,.slice I H J] 89)
 simp only [World.size_alloc] at hy
 obtain ⟨q,j⟩:=hd2 hx hy
 clear hx hy
 obtain ⟨am,al,aq⟩:=h.lens
 have aX:=hf.nseq
 have a3:=hf.nlut
 have aP:=hf.nout
 have bf:=hf.inp
 rw [am] at aX
 rw [al] at a3
 rw [aq] at aP
 obtain ⟨HN,HF,au,bn,aO⟩:=hd5 h hf am al aq
 have bp:Hid ((l.first:Int)=1+l.inputs+(sn:Int)):=by show _=_;unfold ai.first;omega
 have ay:Hid ((l.count:Int)=1+l.inputs+(sn:Int)+(ln:Int)):=by show _=_;unfold ai.count ai.first;omega
 clear h hf am al aq
 by_cases k0:kd=0
 ·subst k0
  have W:Hid (iy l ⟨0,it,es⟩=[]):=rfl
  have HK:=Hd K
  go_enter Tryz.func111,Tryz.ntmps111
  go_upto_region 1 with fail
  generalize (w.alloc (.cells (ak l SA LA OA sn sc ln lc on oc) 41)).alloc (.cells #[.int .i64 0,.int .i64 it,.slice I H J] 89)=u at *
  obtain ⟨x0,Y,x2,x3⟩:=cs4 q.out
  obtain ⟨U,Z,y2⟩:=cs3 j.out
  have R:=aB q.out
  have V:=aB j.out
  have B:=ae (show bA l/\dY l ⟨0,it,es⟩ from ⟨HF.out,HK.out⟩)
  have G:=Hd B
  clear B
  go_wp2_with fail
  refine (dC l SA LA OA sn sc ln lc on oc 0 it es I H J _ (HN.out.below (aA z.out (Below.refl u.heap.size u))) (HE.out.below (aA z.out (Below.refl u.heap.size u))) (by omega)).mono ?_
  rw [G.out]
  rintro _ w1 ⟨rfl,Q⟩
  have D:=Hd (aA (Below.refl u.heap.size u) Q)
  have g:=Hd (aA z.out D.out)
  clear Q x0 Y x2 x3 U Z y2 R V
  have U:=aF (k:=0) (aC D.out j.out) rfl
  have R:=aB (aC D.out q.out)
  have V:=aB (aC D.out j.out)
  have ao:=Hd ((aJ.refl w1).pushNew 3 1)
  go_wp2_with fail
  go_ret
  exact ⟨_,_,_,rfl,by rw [W.out];exact (ao.out.owned 0 rfl).more g.out.size,aD g.out _⟩
 by_cases k1:kd=1
 ·subst k1
  have W:Hid (iy l ⟨1,it,es⟩=[l.outs[it.toNat]?.getD 0]):=rfl
  have ar:=oO.1 K
  have HK:=Hd K
  rw [aO.out] at ar
  obtain ⟨X,rfl⟩:∃X:Nat,it=(X:Int):=⟨it.toNat,by omega⟩
  rw [Int.toNat_natCast] at W
  have hX:X<on:=by omega
  obtain ⟨bo,oo,rfl,az,aL⟩:=HN.out.ou.ints.2 (by omega)
  have co:=aL X hX
  have ay:=Hd co
  clear aL K co
  generalize l.outs[X]?.getD 0=y at *
  go_enter Tryz.func111,Tryz.ntmps111
  go_upto_region 1 with fail
  generalize (w.alloc (.cells (ak l SA LA (some ⟨bo,oo,none⟩) sn sc ln lc on oc) 41)).alloc (.cells #[.int .i64 1,.int .i64 (X:Int),.slice I H J] 89)=u at *
  obtain ⟨x0,Y,x2,x3⟩:=cs4 q.out
  obtain ⟨U,Z,y2⟩:=cs3 j.out
  have R:=aB q.out
  have V:=aB j.out
  have B:=ae (show bA l/\dY l ⟨1,(X:Int),es⟩ from ⟨HF.out,HK.out⟩)
  have G:=Hd B
  clear B
  go_wp2_with fail
  refine (dC l SA LA (some ⟨bo,oo,none⟩) sn sc ln lc on oc 1 (X:Int) es I H J _ (HN.out.below (aA z.out (Below.refl u.heap.size u))) (HE.out.below (aA z.out (Below.refl u.heap.size u))) (by omega)).mono ?_
  rw [G.out]
  rintro _ w1 ⟨rfl,Q⟩
  have D:=Hd (aA (Below.refl u.heap.size u) Q)
  have g:=Hd (aA z.out D.out)
  clear Q x0 Y x2 x3 U Z y2 R V
  have x3:=aF (k:=3) (aC D.out q.out) rfl
  obtain ⟨U,Z⟩:=cs2 (aC D.out j.out)
  have R:=aB (aC D.out q.out)
  have V:=aB (aC D.out j.out)
  have co:=(g.out.cell (p:=⟨bo,oo+X,none⟩) az).trans ay.out
  have bm:=aK g.out az
  go_wp2_with fail
  go_ret
  refine ⟨_,_,_,rfl,?_,aD g.out _⟩
  rw [W.out]
  exact Own.made (cur:=#[.int .i64 (y)]) (aI w1 _) g.out.size (by unfold maxLen;omega) rfl rfl
 by_cases k2:kd=2
 ·subst k2
  have W:Hid (iy l ⟨2,it,es⟩=(l.seqs[it.toNat]?.getD Sq.zero).ins):=rfl
  have ar:=il.1 K
  have HK:=Hd K
  rw [au.out] at ar
  obtain ⟨X,rfl⟩:∃X:Nat,it=(X:Int):=⟨it.toNat,by omega⟩
  rw [Int.toNat_natCast] at W
  have hX:X<sn:=by omega
  obtain ⟨bb,ob,S,m,p,rfl,aG,c0,c1,c2,r2⟩:=HN.out.sq.sq' (k:=X) (by rw [au.out];exact hX)
  have bq:m<=4:=by
   have h1:=(HF.out.seqs X (by rw [au.out];exact hX)).1
   have h2:=r2.ints.1
   rcases h1 with h|h <;> omega
  obtain ⟨aN,aT⟩:=hd2 r2.ints c2
  clear c0 c1 c2 r2 K
  generalize (l.seqs[X]?.getD Sq.zero).ins=src at *
  go_enter Tryz.func111,Tryz.ntmps111
  go_upto_region 1 with fail
  generalize (w.alloc (.cells (ak l (some ⟨bb,ob,none⟩) LA OA sn sc ln lc on oc) 41)).alloc (.cells #[.int .i64 2,.int .i64 (X:Int),.slice I H J] 89)=u at *
  obtain ⟨x0,Y,x2,x3⟩:=cs4 q.out
  obtain ⟨U,Z,y2⟩:=cs3 j.out
  have R:=aB q.out
  have V:=aB j.out
  have B:=ae (show bA l/\dY l ⟨2,(X:Int),es⟩ from ⟨HF.out,HK.out⟩)
  have G:=Hd B
  clear B
  go_wp2_with fail
  refine (dC l (some ⟨bb,ob,none⟩) LA OA sn sc ln lc on oc 2 (X:Int) es I H J _ (HN.out.below (aA z.out (Below.refl u.heap.size u))) (HE.out.below (aA z.out (Below.refl u.heap.size u))) (by omega)).mono ?_
  rw [G.out]
  rintro _ w1 ⟨rfl,Q⟩
  have D:=Hd (aA (Below.refl u.heap.size u) Q)
  have g:=Hd (aA z.out D.out)
  clear Q x0 Y x2 x3 U Z y2 R V
  have Y:=aF (k:=1) (aC D.out q.out) rfl
  obtain ⟨U,Z⟩:=cs2 (aC D.out j.out)
  have R:=aB (aC D.out q.out)
  have V:=aB (aC D.out j.out)
  have c2:=(g.out.cell (p:=⟨bb,ob+X * 3+2,none⟩) aG).trans aT.out
  have bj:=aK g.out aG
  have ao:=Hd ((aJ.refl w1).pushNew 3 1)
  have aY:=Hd (aN.out.below (aD g.out (.cells #[] 3)))
  go_wp2_with (at_builtin;refine kz rfl _ _ rfl _ ao.out 0 _ 0 0 [] S m p src rfl rfl rfl aY.out (by omega) ?_;intro A9 c9 w9 S9 a5;have ax:=Hd S9;clear S9 a5)
  go_ret
  have h9:=ax.out.owned 0 rfl
  rw [Nat.zero_add,List.nil_append] at h9
  exact ⟨_,_,_,rfl,by rw [W.out];exact h9.more g.out.size,aA g.out ax.out.bel⟩
 have k3:kd=3:=by have:=jJ K;omega
 subst k3
 clear k0 k1 k2
 have W:Hid (iy l ⟨3,it,es⟩=fE l es):=rfl
 have aW:Hid (∀e∈es,dQ l e):=kF.1 K
 have HK:=Hd K
 go_enter Tryz.func111,Tryz.ntmps111
 go_upto_region 1 with fail
 generalize (w.alloc (.cells (ak l SA LA OA sn sc ln lc on oc) 41)).alloc (.cells #[.int .i64 3,.int .i64 it,.slice I H J] 89)=u at *
 obtain ⟨x0,Y,x2,x3⟩:=cs4 q.out
 obtain ⟨U,Z,y2⟩:=cs3 j.out
 have R:=aB q.out
 have V:=aB j.out
 have B:=ae (show bA l/\dY l ⟨3,it,es⟩ from ⟨HF.out,HK.out⟩)
 have G:=Hd B
 clear B
 go_wp2_with fail
 refine (dC l SA LA OA sn sc ln lc on oc 3 it es I H J _ (HN.out.below (aA z.out (Below.refl u.heap.size u))) (HE.out.below (aA z.out (Below.refl u.heap.size u))) (by omega)).mono ?_
 rw [G.out]
 rintro _ w1 ⟨rfl,Q⟩
 have D:=Hd (aA (Below.refl u.heap.size u) Q)
 have g:=Hd (aA z.out D.out)
 clear Q x0 Y x2 x3 U Z y2 R V K
 obtain ⟨x0,Y,x2,x3⟩:=cs4 (aC D.out q.out)
 obtain ⟨U,-,y2⟩:=cs3 (aC D.out j.out)
 have R:=aB (aC D.out q.out)
 have V:=aB (aC D.out j.out)
 go_wp2_with fail
 refine (oM l SA LA OA sn sc ln lc on oc es I H J _ (HN.out.below g.out) HF.out (HE.out.below g.out) aW.out a2).mono ?_
 rintro _ w2 ⟨A,n,c,rfl,o2,b2⟩
 have O2:=Hd (o2.more g.out.size)
 have aU:=Hd (aA g.out b2)
 clear o2 b2
 go_wp2_with fail
 go_ret
 exact ⟨_,_,_,rfl,by rw [W.out];exact O2.out,aU.out⟩
end Go.Proofs.YtofihjoanjkdmaaGreat
