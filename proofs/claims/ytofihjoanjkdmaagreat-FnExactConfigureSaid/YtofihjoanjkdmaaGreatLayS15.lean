/- Blocks in the reference: which are known, their input pins (printed by mkpins.py). -/
import Derived.Test.YtofihjoanjkdmaaGreatLayF5
import Derived.Test.YtofihjoanjkdmaaGreatLayS2
import Derived.Test.YtofihjoanjkdmaaGreatSepL
namespace Go.Proofs.YtofihjoanjkdmaaGreat
set_option maxHeartbeats 4000000
set_option maxRecDepth 100000
open Go.RowKit
theorem dI (l:ag) (SA LA OA:Option Addr) (sn sc ln lc on oc:Nat) (kd it:Int) (es:List LeT) (Y:Option Addr) (V Z:Nat) (w:World) (h:fU w l SA LA OA sn sc ln lc on oc) (hE:RdC w w.heap.size (cZ es) (.slice Y V Z)) (bw:V<=1048576) :
  Calls Tryz.prog 203 #[jE l SA LA OA sn sc ln lc on oc,.agg #[.int .i64 kd,.int .i64 it,.slice Y V Z]] w fun e w'=>e = .returned (.bool (tb (az l/\dY l ⟨kd,it,es⟩)))/\Below w.heap.size w w':=by
 have W:=hE.esN
 obtain ⟨HE,aX⟩:=hd2 hE W
 clear hE W
 have z:=Hd (aB (aB (Below.refl w.heap.size w) (.cells (ai l SA LA OA sn sc ln lc on oc) 41)) (.cells #[.int .i64 kd,.int .i64 it,.slice Y V Z] 89))
 have hx:=aW (.cells #[.int .i64 kd,.int .i64 it,.slice Y V Z] 89) (aI w (.cells (ai l SA LA OA sn sc ln lc on oc) 41))
 have hy:=aI (w.alloc (.cells (ai l SA LA OA sn sc ln lc on oc) 41)) (.cells #[.int .i64 kd,.int .i64 it,.slice Y V Z] 89)
 simp only [World.size_alloc] at hy
 obtain ⟨g,q⟩:=hd2 hx hy
 clear hx hy
 obtain ⟨a2,aS,a5⟩:=h.lens
 obtain ⟨HN,af,bc,ah⟩:=hd4 h a2 aS a5
 clear h a2 aS a5
 by_cases hf:az l
 ·have R:Hid (tb (az l)=true):=ae hf
  have bn:=hf.nseq
  have bd:=hf.nlut
  have bk:=hf.nout
  have bA:=hf.inp
  rw [af.out] at bn
  rw [bc.out] at bd
  rw [ah.out] at bk
  have HF:=Hd hf
  clear hf
  by_cases k0:kd=0
  ·subst k0
   by_cases h0:0<=it
   ·have d0:decide (it≥0)=true:=decide_eq_true h0
    by_cases h1:it<l.inputs
    ·have d1:decide (it<l.inputs)=true:=decide_eq_true h1
     have Q:Hid (az l/\dY l ⟨0,it,es⟩):=⟨HF.out,oZ.2 ⟨h0,by have:=af.out;have:=ah.out;omega⟩⟩
     clear h0 h1
     go_enter Tryz.func203,Tryz.ntmps203
     go_upto_region 1 with fail
     generalize (w.alloc (.cells (ai l SA LA OA sn sc ln lc on oc) 41)).alloc (.cells #[.int .i64 0,.int .i64 it,.slice Y V Z] 89)=W9 at *
     obtain ⟨I,K,U,J,H⟩:=cO g.out
     have G:=aC q.out
     go_wp2_with fail
     refine (dQ l SA LA OA sn sc ln lc on oc _ (HN.out.below z.out)).mono ?_
     rw [R.out]
     rintro _ w1 ⟨rfl,D⟩
     have B:=Hd (aA z.out D)
     have u:=Hd D
     clear I K U J  H G D
     have I:=aF (k:=0) (aD u.out g.out) rfl
     obtain ⟨y0,y1⟩:=cs2 (aD u.out q.out)
     have H:=aC (aD u.out g.out)
     have G:=aC (aD u.out q.out)
     go_wp2_with fail
     go_ret
     exact ⟨dU Q.out,B.out⟩
    have d1:decide (it<l.inputs)=false:=decide_eq_false h1
    have Q:Hid (¬(az l/\dY l ⟨0,it,es⟩)):=fun h=>h1 (by have h2:=(oZ.1 h.2).2;have:=af.out;have:=ah.out;omega)
    clear h0 h1
    go_enter Tryz.func203,Tryz.ntmps203
    go_upto_region 1 with fail
    generalize (w.alloc (.cells (ai l SA LA OA sn sc ln lc on oc) 41)).alloc (.cells #[.int .i64 0,.int .i64 it,.slice Y V Z] 89)=W9 at *
    obtain ⟨I,K,U,J,H⟩:=cO g.out
    have G:=aC q.out
    go_wp2_with fail
    refine (dQ l SA LA OA sn sc ln lc on oc _ (HN.out.below z.out)).mono ?_
    rw [R.out]
    rintro _ w1 ⟨rfl,D⟩
    have B:=Hd (aA z.out D)
    have u:=Hd D
    clear I K U J  H G D
    have I:=aF (k:=0) (aD u.out g.out) rfl
    obtain ⟨y0,y1⟩:=cs2 (aD u.out q.out)
    have H:=aC (aD u.out g.out)
    have G:=aC (aD u.out q.out)
    go_wp2_with fail
    go_ret
    exact ⟨aO Q.out,B.out⟩
   have d0:decide (it≥0)=false:=decide_eq_false h0
   have Q:Hid (¬(az l/\dY l ⟨0,it,es⟩)):=fun h=>h0 (oZ.1 h.2).1
   clear h0
   go_enter Tryz.func203,Tryz.ntmps203
   go_upto_region 1 with fail
   generalize (w.alloc (.cells (ai l SA LA OA sn sc ln lc on oc) 41)).alloc (.cells #[.int .i64 0,.int .i64 it,.slice Y V Z] 89)=W9 at *
   obtain ⟨I,K,U,J,H⟩:=cO g.out
   have G:=aC q.out
   go_wp2_with fail
   refine (dQ l SA LA OA sn sc ln lc on oc _ (HN.out.below z.out)).mono ?_
   rw [R.out]
   rintro _ w1 ⟨rfl,D⟩
   have B:=Hd (aA z.out D)
   have u:=Hd D
   clear I K U J  H G D
   have I:=aF (k:=0) (aD u.out g.out) rfl
   obtain ⟨y0,y1⟩:=cs2 (aD u.out q.out)
   have H:=aC (aD u.out g.out)
   have G:=aC (aD u.out q.out)
   go_wp2_with fail
   go_ret
   exact ⟨aO Q.out,B.out⟩
  by_cases k1:kd=1
  ·subst k1
   by_cases h0:0<=it
   ·have d0:decide (it≥0)=true:=decide_eq_true h0
    by_cases h1:it<(on:Int)
    ·have d1:decide (it<(on:Int))=true:=decide_eq_true h1
     have Q:Hid (az l/\dY l ⟨1,it,es⟩):=⟨HF.out,og.2 ⟨h0,by have:=af.out;have:=ah.out;omega⟩⟩
     clear h0 h1
     go_enter Tryz.func203,Tryz.ntmps203
     go_upto_region 1 with fail
     generalize (w.alloc (.cells (ai l SA LA OA sn sc ln lc on oc) 41)).alloc (.cells #[.int .i64 1,.int .i64 it,.slice Y V Z] 89)=W9 at *
     obtain ⟨I,K,U,J,H⟩:=cO g.out
     have G:=aC q.out
     go_wp2_with fail
     refine (dQ l SA LA OA sn sc ln lc on oc _ (HN.out.below z.out)).mono ?_
     rw [R.out]
     rintro _ w1 ⟨rfl,D⟩
     have B:=Hd (aA z.out D)
     have u:=Hd D
     clear I K U J  H G D
     have J:=aF (k:=3) (aD u.out g.out) rfl
     obtain ⟨y0,y1⟩:=cs2 (aD u.out q.out)
     have H:=aC (aD u.out g.out)
     have G:=aC (aD u.out q.out)
     go_wp2_with fail
     go_ret
     exact ⟨dU Q.out,B.out⟩
    have d1:decide (it<(on:Int))=false:=decide_eq_false h1
    have Q:Hid (¬(az l/\dY l ⟨1,it,es⟩)):=fun h=>h1 (by have h2:=(og.1 h.2).2;have:=af.out;have:=ah.out;omega)
    clear h0 h1
    go_enter Tryz.func203,Tryz.ntmps203
    go_upto_region 1 with fail
    generalize (w.alloc (.cells (ai l SA LA OA sn sc ln lc on oc) 41)).alloc (.cells #[.int .i64 1,.int .i64 it,.slice Y V Z] 89)=W9 at *
    obtain ⟨I,K,U,J,H⟩:=cO g.out
    have G:=aC q.out
    go_wp2_with fail
    refine (dQ l SA LA OA sn sc ln lc on oc _ (HN.out.below z.out)).mono ?_
    rw [R.out]
    rintro _ w1 ⟨rfl,D⟩
    have B:=Hd (aA z.out D)
    have u:=Hd D
    clear I K U J  H G D
    have J:=aF (k:=3) (aD u.out g.out) rfl
    obtain ⟨y0,y1⟩:=cs2 (aD u.out q.out)
    have H:=aC (aD u.out g.out)
    have G:=aC (aD u.out q.out)
    go_wp2_with fail
    go_ret
    exact ⟨aO Q.out,B.out⟩
   have d0:decide (it≥0)=false:=decide_eq_false h0
   have Q:Hid (¬(az l/\dY l ⟨1,it,es⟩)):=fun h=>h0 (og.1 h.2).1
   clear h0
   go_enter Tryz.func203,Tryz.ntmps203
   go_upto_region 1 with fail
   generalize (w.alloc (.cells (ai l SA LA OA sn sc ln lc on oc) 41)).alloc (.cells #[.int .i64 1,.int .i64 it,.slice Y V Z] 89)=W9 at *
   obtain ⟨I,K,U,J,H⟩:=cO g.out
   have G:=aC q.out
   go_wp2_with fail
   refine (dQ l SA LA OA sn sc ln lc on oc _ (HN.out.below z.out)).mono ?_
   rw [R.out]
   rintro _ w1 ⟨rfl,D⟩
   have B:=Hd (aA z.out D)
   have u:=Hd D
   clear I K U J  H G D
   have J:=aF (k:=3) (aD u.out g.out) rfl
   obtain ⟨y0,y1⟩:=cs2 (aD u.out q.out)
   have H:=aC (aD u.out g.out)
   have G:=aC (aD u.out q.out)
   go_wp2_with fail
   go_ret
   exact ⟨aO Q.out,B.out⟩
  by_cases k2:kd=2
  ·subst k2
   by_cases h0:0<=it
   ·have d0:decide (it≥0)=true:=decide_eq_true h0
    by_cases h1:it<(sn:Int)
    ·have d1:decide (it<(sn:Int))=true:=decide_eq_true h1
     have Q:Hid (az l/\dY l ⟨2,it,es⟩):=⟨HF.out,jW.2 ⟨h0,by have:=af.out;have:=ah.out;omega⟩⟩
     clear h0 h1
     go_enter Tryz.func203,Tryz.ntmps203
     go_upto_region 1 with fail
     generalize (w.alloc (.cells (ai l SA LA OA sn sc ln lc on oc) 41)).alloc (.cells #[.int .i64 2,.int .i64 it,.slice Y V Z] 89)=W9 at *
     obtain ⟨I,K,U,J,H⟩:=cO g.out
     have G:=aC q.out
     go_wp2_with fail
     refine (dQ l SA LA OA sn sc ln lc on oc _ (HN.out.below z.out)).mono ?_
     rw [R.out]
     rintro _ w1 ⟨rfl,D⟩
     have B:=Hd (aA z.out D)
     have u:=Hd D
     clear I K U J  H G D
     have K:=aF (k:=1) (aD u.out g.out) rfl
     obtain ⟨y0,y1⟩:=cs2 (aD u.out q.out)
     have H:=aC (aD u.out g.out)
     have G:=aC (aD u.out q.out)
     go_wp2_with fail
     go_ret
     exact ⟨dU Q.out,B.out⟩
    have d1:decide (it<(sn:Int))=false:=decide_eq_false h1
    have Q:Hid (¬(az l/\dY l ⟨2,it,es⟩)):=fun h=>h1 (by have h2:=(jW.1 h.2).2;have:=af.out;have:=ah.out;omega)
    clear h0 h1
    go_enter Tryz.func203,Tryz.ntmps203
    go_upto_region 1 with fail
    generalize (w.alloc (.cells (ai l SA LA OA sn sc ln lc on oc) 41)).alloc (.cells #[.int .i64 2,.int .i64 it,.slice Y V Z] 89)=W9 at *
    obtain ⟨I,K,U,J,H⟩:=cO g.out
    have G:=aC q.out
    go_wp2_with fail
    refine (dQ l SA LA OA sn sc ln lc on oc _ (HN.out.below z.out)).mono ?_
    rw [R.out]
    rintro _ w1 ⟨rfl,D⟩
    have B:=Hd (aA z.out D)
    have u:=Hd D
    clear I K U J  H G D
    have K:=aF (k:=1) (aD u.out g.out) rfl
    obtain ⟨y0,y1⟩:=cs2 (aD u.out q.out)
    have H:=aC (aD u.out g.out)
    have G:=aC (aD u.out q.out)
    go_wp2_with fail
    go_ret
    exact ⟨aO Q.out,B.out⟩
   have d0:decide (it≥0)=false:=decide_eq_false h0
   have Q:Hid (¬(az l/\dY l ⟨2,it,es⟩)):=fun h=>h0 (jW.1 h.2).1
   clear h0
   go_enter Tryz.func203,Tryz.ntmps203
   go_upto_region 1 with fail
   generalize (w.alloc (.cells (ai l SA LA OA sn sc ln lc on oc) 41)).alloc (.cells #[.int .i64 2,.int .i64 it,.slice Y V Z] 89)=W9 at *
   obtain ⟨I,K,U,J,H⟩:=cO g.out
   have G:=aC q.out
   go_wp2_with fail
   refine (dQ l SA LA OA sn sc ln lc on oc _ (HN.out.below z.out)).mono ?_
   rw [R.out]
   rintro _ w1 ⟨rfl,D⟩
   have B:=Hd (aA z.out D)
   have u:=Hd D
   clear I K U J  H G D
   have K:=aF (k:=1) (aD u.out g.out) rfl
   obtain ⟨y0,y1⟩:=cs2 (aD u.out q.out)
   have H:=aC (aD u.out g.out)
   have G:=aC (aD u.out q.out)
   go_wp2_with fail
   go_ret
   exact ⟨aO Q.out,B.out⟩
  have d0:(kd==0)=false:=by simp [k0]
  have d1:(kd==1)=false:=by simp [k1]
  have d2:(kd==2)=false:=by simp [k2]
  have ar:kd≠0/\kd≠1/\kd≠2:=⟨k0,k1,k2⟩
  clear k0 k1 k2
  have ay:=Hd ar
  clear ar
  go_enter Tryz.func203,Tryz.ntmps203
  go_upto_region 1 with fail
  generalize (w.alloc (.cells (ai l SA LA OA sn sc ln lc on oc) 41)).alloc (.cells #[.int .i64 kd,.int .i64 it,.slice Y V Z] 89)=W9 at *
  obtain ⟨I,K,U,J,H⟩:=cO g.out
  have G:=aC q.out
  go_wp2_with fail
  refine (dQ l SA LA OA sn sc ln lc on oc _ (HN.out.below z.out)).mono ?_
  rw [R.out]
  rintro _ w1 ⟨rfl,D⟩
  have B:=Hd (aA z.out D)
  have u:=Hd D
  obtain ⟨W8,rfl⟩:∃x,x=w1:=⟨w1,rfl⟩
  clear I K U J  H G D
  have I:=aF (k:=0) (aD u.out g.out) rfl
  obtain ⟨y0,y1,y2⟩:=cs3 (aD u.out q.out)
  have H:=aC (aD u.out g.out)
  have G:=aC (aD u.out q.out)
  go_wp2_with fail
  clear I y0 y1 y2 H G
  go_loopw [5] (fun i wr=>∃k:Nat,k<=V/\i = .int .i64 k/\Below W8.heap.size W8 wr/\∀j,j<k→dG l ⟨(es[j]?.getD LeT.zero).lut,(es[j]?.getD LeT.zero).ff⟩) (fun i _=>V - (intOf i).toNat)
  ·exact ⟨0,Nat.zero_le _,rfl,Below.refl _ _,fun j hj=>by omega⟩
  obtain ⟨k,hk,rfl,hb,aE⟩:=hrel
  obtain ⟨a3,ap⟩:=hd2 hb aE
  have ak:=Hd (aA B.out hb)
  have hx:=aD hb (aD u.out g.out)
  have hy:=aD hb (aD u.out q.out)
  obtain ⟨y0,-,y2,G⟩:=jX hy
  clear hb aE
  by_cases bo:k<V
  ·have bg:=dT (by omega:k<V)
   obtain ⟨I,K,U,J,H⟩:=cO hx
   clear hx hy
   have aw:k<es.length:=by rw [aX.out];exact bo
   obtain ⟨be,oe,a4,aH,c0,c1⟩:=HE.out.es (k:=k) aw
   have bf:=Hd a4
   have aZ:=aK ak.out aH
   rw [←ak.out.cell (p:=⟨be,oe+k * 2,none⟩) aH] at c0
   rw [←ak.out.cell (p:=⟨be,oe+k * 2+1,none⟩) aH] at c1
   have HG:Hid (dG l ⟨(es[k]?.getD LeT.zero).lut,(es[k]?.getD LeT.zero).ff⟩→∀j,j<k+1→dG l ⟨(es[j]?.getD LeT.zero).lut,(es[j]?.getD LeT.zero).ff⟩):=fun h=>bW ap.out h
   have ax:Hid (¬dG l ⟨(es[k]?.getD LeT.zero).lut,(es[k]?.getD LeT.zero).ff⟩→¬(az l/\dY l ⟨kd,it,es⟩)):=fun h h'=>h (by
    have bh:kd=3:=by have h9:=iL h'.2;have h8:=ay.out;omega
    have h2:=h'.2
    subst bh
    have:=kJ.1 h2 _ (List.getElem_mem aw)
    rwa [show es[k]=es[k]?.getD LeT.zero by rw [List.getElem?_eq_getElem aw];rfl] at this)
   clear aw a4
   obtain rfl:=bf.out
   generalize es[k]?.getD LeT.zero=e at *
   obtain ⟨a,b⟩:=e
   simp only at c0 c1 HG ax
   obtain ⟨i0,i1⟩:=ib (by omega:k<V)
   go_upto_region 13 with fail
   have al:=fun (v:Sub wr)=>Di l SA LA OA sn sc ln lc on oc a b v.v (HN.out.below (aA ak.out v.h)) HF.out
   by_cases W:dG l ⟨a,b⟩
   ·rw [ae W] at al
    have aJ:=Hd al
    have bj:=Hd (HG.out W)
    clear al W HG ax
    have aq:=aY wr
    have aG:=aP wr
    refine wpB wr ?_
    repeat (go_big_quiet_step ((first
     | (go_at_call 254;with_reducible exact aN (aJ.out _)))))
    refine wpQuiet_nil ?_
    rintro _ ⟨⟨w5,hD⟩,rfl⟩
    clear aq aG
    have HD:=Hd (aA a3.out hD)
    clear hD I K U J y0 y2 H G c0 c1 aZ
    go_wp2_with fail
    go_roundw
    ·exact ⟨k+1,by omega,by go_num,HD.out,bj.out⟩
    simp [intOf];omega
   rw [bJ W] at al
   have aJ:=Hd al
   have Q:=Hd (ax.out W)
   clear al W HG ax
   have aq:=aY wr
   have aG:=aP wr
   refine wpB wr ?_
   repeat (go_big_quiet_step ((first
    | (go_at_call 254;with_reducible exact aN (aJ.out _)))))
   refine wpQuiet_nil ?_
   rintro _ ⟨⟨w5,hD⟩,rfl⟩
   clear aq aG
   have HD:=Hd (aA a3.out hD)
   clear hD I K U J y0 y2 H G c0 c1 aZ
   go_wp2_with fail
   go_ret
   exact ⟨aO Q.out,aA B.out HD.out⟩
  have aT:k=V:=by omega
  have bg:=dF (by omega:V<=k)
  have ad:∀e∈es,dG l e:=fun e he=>by
   obtain ⟨j,hj,rfl⟩:=List.getElem_of_mem he
   have h:=ap.out j (by rw [aT,←aX.out];exact hj)
   rwa [show es[j]?.getD LeT.zero=es[j] by rw [List.getElem?_eq_getElem hj];rfl] at h
  clear hx hy ap aT
  by_cases k3:kd=3
  ·have Q:Hid (az l/\dY l ⟨kd,it,es⟩):=⟨HF.out,by rw [k3];exact kJ.2 ad⟩
   have d3:(kd==3)=true:=by simp [k3]
   clear k3 ad
   go_wp2_with fail
   go_ret
   exact ⟨dU Q.out,ak.out⟩
  have Q:Hid (¬(az l/\dY l ⟨kd,it,es⟩)):=fun h=>by have h9:=iL h.2;have h8:=ay.out;omega
  have d3:(kd==3)=false:=by simp [k3]
  clear k3 ad
  go_wp2_with fail
  go_ret
  exact ⟨aO Q.out,ak.out⟩
 have R:Hid (tb (az l)=false):=bJ hf
 have Q:Hid (¬(az l/\dY l ⟨kd,it,es⟩)):=fun h=>hf h.1
 clear hf
 go_enter Tryz.func203,Tryz.ntmps203
 go_upto_region 1 with fail
 generalize (w.alloc (.cells (ai l SA LA OA sn sc ln lc on oc) 41)).alloc (.cells #[.int .i64 kd,.int .i64 it,.slice Y V Z] 89)=W9 at *
 obtain ⟨I,K,U,J,H⟩:=cO g.out
 have G:=aC q.out
 go_wp2_with fail
 refine (dQ l SA LA OA sn sc ln lc on oc _ (HN.out.below z.out)).mono ?_
 rw [R.out]
 rintro _ w1 ⟨rfl,D⟩
 have B:=Hd (aA z.out D)
 have u:=Hd D
 clear I K U J  H G D
 go_wp2_with fail
 go_ret
 exact ⟨aO Q.out,B.out⟩
theorem ET {l:ag} (hf:az l) {es:List LeT} (h:∀e∈es,dG l e):asc ((es.flatMap (iB l)).filter fun x=>decide (0<x/\x∉es.map (dA l)))=fD l es:=by
 unfold fD FY
 refine congrArg asc (List.filter_congr fun x g=>?_)
 obtain ⟨e,he,g⟩:=List.mem_flatMap.1 g
 have:=((mZ hf (h e he)).2 x g).1
 simp [this]
theorem oL (l:ag) (SA LA OA:Option Addr) (sn sc ln lc on oc:Nat) (es:List LeT) (EA:Option Addr) (H ec:Nat) (w:World) (h:fU w l SA LA OA sn sc ln lc on oc) (hf:az l) (hE:RdC w w.heap.size (cZ es) (.slice EA H ec)) (hK:∀e∈es,dG l e) (bo:H<=100000) :
  Calls Tryz.prog 158 #[jE l SA LA OA sn sc ln lc on oc,.slice EA H ec] w fun e w'=>∃A n c,e = .returned (.slice A n c)/\Own w.heap.size w' A n c (fD l es)/\Below w.heap.size w w':=by
 have ak:=hE.esN
 obtain ⟨HE,ae⟩:=hd2 hE ak
 clear hE ak
 have j:=Hd (aB (Below.refl w.heap.size w) (.cells (ai l SA LA OA sn sc ln lc on oc) 41))
 have q:=Hd (aI w (.cells (ai l SA LA OA sn sc ln lc on oc) 41))
 obtain ⟨HN,HF⟩:=hd2 h hf
 clear h hf
 have W:=Hd hK
 clear hK
 have av:=Hd (ET HF.out W.out)
 go_enter Tryz.func158,Tryz.ntmps158
 go_upto_region 1 with fail
 generalize w.alloc (.cells (ai l SA LA OA sn sc ln lc on oc) 41)=R at *
 go_wp2_with fail
 go_loopw [5,6,7] (fun u v i wr=>∃(k:Nat) (A1:Option Addr) (n1 c1:Nat) (A2:Option Addr) (c2:Nat),k<=H/\i = .int .i64 k/\u = .slice A1 n1 c1/\v = .slice A2 k c2/\aJ R wr [.cel (aH ((es.take k).flatMap (iB l))) (.slice A1 n1 c1),.cel (aH ((es.take k).map (dA l))) (.slice A2 k c2)]) (fun _ _ i _=>H - (intOf i).toNat)
 ·exact ⟨0,_,_,_,_,_,Nat.zero_le _,rfl,rfl,rfl,by have h:=((aJ.refl R).pushNew 3 1).pushNew 3 1;rw [World.size_alloc] at h;exact h⟩
 obtain ⟨k,A1,n1,cA,A2,cB,hk,rfl,rfl,rfl,hs⟩:=hrel
 have I:=Hd hs
 clear hs
 have ap:Hid (((es.take k).flatMap (iB l)).length<=4 * k):=by
  show _<=_
  have h:=kg (f:=iB l) (m:=4) (xs:=es.take k) fun e he=>(mZ HF.out (W.out e (List.mem_of_mem_take he))).1
  rw [List.length_take] at h
  have h2:min k es.length * 4<=k * 4:=Nat.mul_le_mul_right 4 (Nat.min_le_left _ _)
  omega
 have bc:n1<=4 * k:=by rw [←(I.out.ints 0 rfl).1];exact ap.out
 by_cases aU:k<H
 ·have au:=dT (by omega:k<H)
  have B:k<es.length:=by rw [ae.out];exact aU
  obtain ⟨V,U,am,J,c0,c1⟩:=HE.out.es (k:=k) B
  have aq:=Hd am
  have K:=Hd (W.out _ (List.getElem_mem B))
  have aL:Hid ((es.take (k+1)).map (dA l)=(es.take k).map (dA l)++[dA l ⟨(es[k]?.getD LeT.zero).lut,(es[k]?.getD LeT.zero).ff⟩]):=by show _=_;rw [bU (z:=LeT.zero) B,List.map_append];rfl
  have Z:=Hd (show (es.take (k+1)).flatMap (iB l)=(es.take k).flatMap (iB l)++iB l ⟨(es[k]?.getD LeT.zero).lut,(es[k]?.getD LeT.zero).ff⟩ from by rw [bU (z:=LeT.zero) B,List.flatMap_append,List.flatMap_singleton])
  rw [show es[k]=es[k]?.getD LeT.zero by rw [List.getElem?_eq_getElem B];rfl] at K
  clear B am
  obtain rfl:=aq.out
  generalize es[k]?.getD LeT.zero=e at *
  obtain ⟨i0,i1⟩:=ib (by omega:k<H)
  have g:Hid (∀w',Below R.heap.size R w'→(K4 w' w.heap.size (.int .i64 l.inputs) (.slice SA sn sc) (.slice LA ln lc) (.slice OA on oc) (w'.cell? ⟨V,U+k * 2,none⟩=some (.int .i64 e.lut)/\w'.cell? ⟨V,U+k * 2+1,none⟩=some (.int .i64 e.ff)))):=fun v G=>⟨aF (k:=0) (aD G q.out) rfl,aF (k:=1) (aD G q.out) rfl,aF (k:=2) (aD G q.out) rfl,aF (k:=3) (aD G q.out) rfl,((aA j.out G).cell (p:=⟨V,U+k * 2,none⟩) J).trans c0,((aA j.out G).cell (p:=⟨V,U+k * 2+1,none⟩) J).trans c1⟩
  clear c0 c1
  obtain ⟨x0,x1,x2,x3,c0,c1⟩:=g.out _ I.out.bel
  have lx:=aC (aD I.out.bel q.out)
  have ah:=aK (aA j.out I.out.bel) J
  have aQ:=Hd (mZ HF.out K.out).1
  have ao:=Hd (fun (v:World) (G:Below R.heap.size R v)=>BQ l SA LA OA sn sc ln lc on oc e.lut e.ff v (HN.out.below (aA j.out G)) HF.out K.out)
  have aS:=Hd (fun (v:World) (G:Below R.heap.size R v)=>rV l SA LA OA sn sc ln lc on oc e.lut e.ff v (HN.out.below (aA j.out G)) HF.out K.out)
  generalize iB l ⟨e.lut,e.ff⟩=src at *
  generalize dA l ⟨e.lut,e.ff⟩=Y at *
  generalize aM:(es.take k).flatMap (iB l)=XS at *
  generalize aP:(es.take k).map (dA l)=YS at *
  clear aM aP
  have hS:=Hd I.out.drew
  have D:=hS.out.bel
  go_upto_region 6 with fail
  go_region_held3 (fun w'=>K4 w' w.heap.size (.int .i64 l.inputs) (.slice SA sn sc) (.slice LA ln lc) (.slice OA on oc) (w'.cell? ⟨V,U+k * 2,none⟩=some (.int .i64 e.lut)/\w'.cell? ⟨V,U+k * 2+1,none⟩=some (.int .i64 e.ff)))
   (first|with_reducible exact g.out _ D)
   ((first
    | (go_at_call 241;(with_reducible refine (ao.out _ D).mono ?_);rintro e5 w5 ⟨A5,n5,c5,rfl,o5,b5⟩;have O5:=Hd o5.ints;replace D:=aA D b5;have aw:=Hd (hS.out.below b5);clear b5 o5)
    | (refine yI rfl _ _ (by rfl) _ aw.out 0 A1 n1 cA XS A5 n5 c5 src rfl (by rfl) (by rfl) O5.out (by have h5:=O5.out.1;have h6:=aQ.out;omega) ?_;rintro A6 c6 w6 S6 ar;have Q:=Hd S6;replace D:=S6.bel;clear S6 ar)))
  clear hS D x0 x1 x2 x3 lx c0 c1 ah
  obtain ⟨x0,x1,x2,x3,c0,c1⟩:=g.out _ Q.out.bel
  have lx:=aC (aD Q.out.bel q.out)
  have ah:=aK (aA j.out Q.out.bel) J
  have hS:=Hd Q.out.drew
  have D:=hS.out.bel
  go_upto_region 7 with fail
  go_region_held3 (fun w'=>K4 w' w.heap.size (.int .i64 l.inputs) (.slice SA sn sc) (.slice LA ln lc) (.slice OA on oc) (w'.cell? ⟨V,U+k * 2,none⟩=some (.int .i64 e.lut)/\w'.cell? ⟨V,U+k * 2+1,none⟩=some (.int .i64 e.ff)))
   (first|with_reducible exact g.out _ D|with_reducible exact g.out _ (aB D _))
   ((first
    | (go_at_call 204;(with_reducible refine (aS.out _ D).mono ?_);rintro _ w7 ⟨rfl,b7⟩;replace D:=aA D b7;have aT:=Hd (hS.out.below b7);clear b7)
    | (refine sZ rfl _ _ (by rfl) _ (aT.out.alloc _) 1 A2 k cB (YS) Y _ (0,0) rfl (by rfl) (by rfl) (aI _ _) (by omega) ?_;intro g8 aW w8 S8 aO;have aG:=Hd S8;replace D:=S8.bel;clear S8 aO)))
  go_wp2_with fail
  go_roundw
  ·exact ⟨k+1,_,_,_,_,_,by omega,by go_num,rfl,rfl,by rw [Z.out,aL.out];exact aG.out⟩
  simp [intOf];omega
 have al:k=H:=by omega
 have au:=dF (by omega:H<=k)
 have Z:Hid (es.take k=es):=by show _=_;rw [al];exact List.take_of_length_le (by rw [ae.out];exact Nat.le_refl _)
 rw [Z.out] at I
 have O1:=Hd (I.out.ints 0 rfl)
 have O2:=Hd (I.out.ints 1 rfl)
 clear al
 go_wp2_with fail
 refine (rX A1 A2 n1 cA k cB _ _ _ O1.out O2.out (by omega) (by omega)).mono ?_
 rintro _ w9 ⟨A,n,c,rfl,o9,b9⟩
 have O9:=Hd (o9.more (Nat.le_trans j.out.size I.out.bel.size))
 have B9:=Hd (aA (aA j.out I.out.bel) b9)
 clear o9 b9
 go_wp2_with fail
 go_ret
 exact ⟨_,_,_,rfl,by rw [←av.out];exact O9.out,B9.out⟩
theorem wH (l:ag) (SA LA OA:Option Addr) (sn sc ln lc on oc:Nat) (kd it:Int) (es:List LeT) (U:Option Addr) (B J:Nat) (w:World) (h:fU w l SA LA OA sn sc ln lc on oc) (hf:az l) (hE:RdC w w.heap.size (cZ es) (.slice U B J)) (hK:dY l ⟨kd,it,es⟩) (bx:B<=1048576) :
  Calls Tryz.prog 112 #[jE l SA LA OA sn sc ln lc on oc,.agg #[.int .i64 kd,.int .i64 it,.slice U B J]] w fun e w'=>∃A n c,e = .returned (.slice A n c)/\Own w.heap.size w' A n c (kD l ⟨kd,it,es⟩)/\Below w.heap.size w w':=by
 have aT:=hE.esN
 obtain ⟨HE,aP⟩:=hd2 hE aT
 clear hE aT
 have u:=Hd (aB (aB (Below.refl w.heap.size w) (.cells (ai l SA LA OA sn sc ln lc on oc) 41)) (.cells #[.int .i64 kd,.int .i64 it,.slice U B J] 89))
 have hx:=aW (.cells #[.int .i64 kd,.int .i64 it,.slice U B J] 89) (aI w (.cells (ai l SA LA OA sn sc ln lc on oc) 41))
 have hy:=aI (w.alloc (.cells (ai l SA LA OA sn sc ln lc on oc) 41)) (.cells #[.int .i64 kd,.int .i64 it,.slice U B J] 89)
 simp only [World.size_alloc] at hy
 obtain ⟨g,q⟩:=hd2 hx hy
 clear hx hy
 obtain ⟨aE,aw,aL⟩:=h.lens
 have bh:=hf.nseq
 have aY:=hf.nlut
 have a7:=hf.nout
 have bA:=hf.inp
 rw [aE] at bh
 rw [aw] at aY
 rw [aL] at a7
 obtain ⟨HN,HF,a6,bs,bz⟩:=hd5 h hf aE aw aL
 have bu:Hid ((l.first:Int)=1+l.inputs+(sn:Int)):=by show _=_;unfold ag.first;omega
 have aV:Hid ((l.count:Int)=1+l.inputs+(sn:Int)+(ln:Int)):=by show _=_;unfold ag.count ag.first;omega
 clear h hf aE aw aL
 by_cases k0:kd=0
 ·subst k0
  have HR:Hid (kD l ⟨0,it,es⟩=[1+it]):=rfl
  have a9:0<=it/\it<l.inputs:=oZ.1 hK
  have HK:=Hd hK
  go_enter Tryz.func112,Tryz.ntmps112
  go_upto_region 1 with fail
  generalize (w.alloc (.cells (ai l SA LA OA sn sc ln lc on oc) 41)).alloc (.cells #[.int .i64 0,.int .i64 it,.slice U B J] 89)=Z at *
  obtain ⟨x0,x1,x2,x3⟩:=cs4 g.out
  obtain ⟨W,y1,y2⟩:=cs3 q.out
  have V:=aC g.out
  have R:=aC q.out
  have j:=Hd ((aJ.refl Z).pushNew 3 1)
  have D:=ae (show az l/\dY l ⟨0,it,es⟩ from ⟨HF.out,HK.out⟩)
  have Q:=Hd D
  clear D
  go_wp2_with fail
  refine (dI l SA LA OA sn sc ln lc on oc 0 it es U B J _ (HN.out.below (aA u.out j.out.bel)) (HE.out.below (aA u.out j.out.bel)) (by omega)).mono ?_
  rw [Q.out]
  rintro _ w1 ⟨rfl,I⟩
  have G:=Hd (aA j.out.bel I)
  have H:=Hd (aA u.out G.out)
  have af:=Hd (j.out.below I)
  clear I x0 x1 x2 x3 W y1 y2 V R
  have x0:=aF (k:=0) (aD G.out g.out) rfl
  obtain ⟨W,y1⟩:=cs2 (aD G.out q.out)
  have V:=aC (aD G.out g.out)
  have R:=aC (aD G.out q.out)
  go_wp2_with fail
  go_ret
  refine ⟨_,_,_,rfl,?_,aB H.out _⟩
  rw [HR.out]
  exact Own.made (cur:=#[.int .i64 (1+it)]) (aI w1 _) H.out.size (by unfold maxLen;omega) rfl rfl
 by_cases k1:kd=1
 ·subst k1
  have HR:Hid (kD l ⟨1,it,es⟩=[]):=rfl
  have HK:=Hd hK
  go_enter Tryz.func112,Tryz.ntmps112
  go_upto_region 1 with fail
  generalize (w.alloc (.cells (ai l SA LA OA sn sc ln lc on oc) 41)).alloc (.cells #[.int .i64 1,.int .i64 it,.slice U B J] 89)=Z at *
  obtain ⟨x0,x1,x2,x3⟩:=cs4 g.out
  obtain ⟨W,y1,y2⟩:=cs3 q.out
  have V:=aC g.out
  have R:=aC q.out
  have j:=Hd ((aJ.refl Z).pushNew 3 1)
  have D:=ae (show az l/\dY l ⟨1,it,es⟩ from ⟨HF.out,HK.out⟩)
  have Q:=Hd D
  clear D
  go_wp2_with fail
  refine (dI l SA LA OA sn sc ln lc on oc 1 it es U B J _ (HN.out.below (aA u.out j.out.bel)) (HE.out.below (aA u.out j.out.bel)) (by omega)).mono ?_
  rw [Q.out]
  rintro _ w1 ⟨rfl,I⟩
  have G:=Hd (aA j.out.bel I)
  have H:=Hd (aA u.out G.out)
  have af:=Hd (j.out.below I)
  clear I x0 x1 x2 x3 W y1 y2 V R
  have x0:=aF (k:=0) (aD G.out g.out) rfl
  obtain ⟨W,y1⟩:=cs2 (aD G.out q.out)
  have V:=aC (aD G.out g.out)
  have R:=aC (aD G.out q.out)
  go_wp2_with fail
  go_ret
  exact ⟨_,_,_,rfl,by rw [HR.out];exact (af.out.owned 0 rfl).more u.out.size,H.out⟩
 by_cases k2:kd=2
 ·subst k2
  have HR:Hid (kD l ⟨2,it,es⟩=[1+l.inputs+it]):=rfl
  have a9:0<=it/\it<(sn:Int):=by rw [←a6.out];exact jW.1 hK
  have HK:=Hd hK
  go_enter Tryz.func112,Tryz.ntmps112
  go_upto_region 1 with fail
  generalize (w.alloc (.cells (ai l SA LA OA sn sc ln lc on oc) 41)).alloc (.cells #[.int .i64 2,.int .i64 it,.slice U B J] 89)=Z at *
  obtain ⟨x0,x1,x2,x3⟩:=cs4 g.out
  obtain ⟨W,y1,y2⟩:=cs3 q.out
  have V:=aC g.out
  have R:=aC q.out
  have j:=Hd ((aJ.refl Z).pushNew 3 1)
  have D:=ae (show az l/\dY l ⟨2,it,es⟩ from ⟨HF.out,HK.out⟩)
  have Q:=Hd D
  clear D
  go_wp2_with fail
  refine (dI l SA LA OA sn sc ln lc on oc 2 it es U B J _ (HN.out.below (aA u.out j.out.bel)) (HE.out.below (aA u.out j.out.bel)) (by omega)).mono ?_
  rw [Q.out]
  rintro _ w1 ⟨rfl,I⟩
  have G:=Hd (aA j.out.bel I)
  have H:=Hd (aA u.out G.out)
  have af:=Hd (j.out.below I)
  clear I x0 x1 x2 x3 W y1 y2 V R
  have x0:=aF (k:=0) (aD G.out g.out) rfl
  obtain ⟨W,y1⟩:=cs2 (aD G.out q.out)
  have V:=aC (aD G.out g.out)
  have R:=aC (aD G.out q.out)
  go_wp2_with fail
  go_ret
  refine ⟨_,_,_,rfl,?_,aB H.out _⟩
  rw [HR.out]
  exact Own.made (cur:=#[.int .i64 (1+l.inputs+it)]) (aI w1 _) H.out.size (by unfold maxLen;omega) rfl rfl
 have k3:kd=3:=by have:=iL hK;omega
 subst k3
 clear k0 k1 k2
 have HR:Hid (kD l ⟨3,it,es⟩=es.map (dA l)):=rfl
 have a3:Hid (∀e∈es,dG l e):=kJ.1 hK
 have HK:=Hd hK
 go_enter Tryz.func112,Tryz.ntmps112
 go_upto_region 1 with fail
 generalize (w.alloc (.cells (ai l SA LA OA sn sc ln lc on oc) 41)).alloc (.cells #[.int .i64 3,.int .i64 it,.slice U B J] 89)=Z at *
 obtain ⟨x0,x1,x2,x3⟩:=cs4 g.out
 obtain ⟨W,y1,y2⟩:=cs3 q.out
 have V:=aC g.out
 have R:=aC q.out
 have j:=Hd ((aJ.refl Z).pushNew 3 1)
 have D:=ae (show az l/\dY l ⟨3,it,es⟩ from ⟨HF.out,HK.out⟩)
 have Q:=Hd D
 clear D
 go_wp2_with fail
 refine (dI l SA LA OA sn sc ln lc on oc 3 it es U B J _ (HN.out.below (aA u.out j.out.bel)) (HE.out.below (aA u.out j.out.bel)) (by omega)).mono ?_
 rw [Q.out]
 rintro _ w1 ⟨rfl,I⟩
 have G:=Hd (aA j.out.bel I)
 have H:=Hd (aA u.out G.out)
 have af:=Hd (j.out.below I)
 clear I x0 x1 x2 x3 W y1 y2 V R hK
 obtain ⟨W,-,y2⟩:=cs3 (aD G.out q.out)
 have V:=aC (aD G.out g.out)
 have R:=aC (aD G.out q.out)
 go_wp2_with fail
 clear W y2 V R
 go_loopw [5,6] (fun v i wr=>∃(k:Nat) (A':Option Addr) (c':Nat),k<=B/\i = .int .i64 k/\v = .slice A' k c'/\aJ Z wr [.cel (aH ((es.take k).map (dA l))) (.slice A' k c')]) (fun _ i _=>B - (intOf i).toNat)
 ·exact ⟨0,_,_,Nat.zero_le _,rfl,rfl,af.out⟩
 obtain ⟨k,A2,cB,hk,rfl,rfl,hs⟩:=hrel
 have HS:=Hd hs
 clear hs
 by_cases bk:k<B
 ·have a0:=dT (by omega:k<B)
  have ah:k<es.length:=by rw [aP.out];exact bk
  obtain ⟨be,oe,aX,ax,c0,c1⟩:=HE.out.es (k:=k) ah
  have aZ:=Hd aX
  have aR:=Hd (a3.out _ (List.getElem_mem ah))
  have a5:Hid ((es.take (k+1)).map (dA l)=(es.take k).map (dA l)++[dA l ⟨(es[k]?.getD LeT.zero).lut,(es[k]?.getD LeT.zero).ff⟩]):=by show _=_;rw [bU (z:=LeT.zero) ah,List.map_append];rfl
  rw [show es[k]=es[k]?.getD LeT.zero by rw [List.getElem?_eq_getElem ah];rfl] at aR
  clear ah aX
  obtain rfl:=aZ.out
  generalize es[k]?.getD LeT.zero=e at *
  obtain ⟨i0,i1⟩:=ib (by omega:k<B)
  have K:Hid (∀w',Below Z.heap.size Z w'→(K4 w' w.heap.size (.int .i64 l.inputs) (.slice SA sn sc) (.slice LA ln lc) (.slice OA on oc) (w'.cell? ⟨w.heap.size+1,2,none⟩=some (.slice (some ⟨be,oe,none⟩) B J)/\w'.cell? ⟨be,oe+k * 2,none⟩=some (.int .i64 e.lut)/\w'.cell? ⟨be,oe+k * 2+1,none⟩=some (.int .i64 e.ff)))):=fun v hv=>⟨aF (k:=0) (aD hv g.out) rfl,aF (k:=1) (aD hv g.out) rfl,aF (k:=2) (aD hv g.out) rfl,aF (k:=3) (aD hv g.out) rfl,aF (k:=2) (aD hv q.out) rfl,((aA u.out hv).cell (p:=⟨be,oe+k * 2,none⟩) ax).trans c0,((aA u.out hv).cell (p:=⟨be,oe+k * 2+1,none⟩) ax).trans c1⟩
  clear c0 c1
  obtain ⟨x0,x1,x2,x3,y2,c0,c1⟩:=K.out _ HS.out.bel
  have V:=aC (aD HS.out.bel g.out)
  have R:=aC (aD HS.out.bel q.out)
  have bv:=aK (aA u.out HS.out.bel) ax
  have aV:=Hd (fun (v:World) (hv:Below Z.heap.size Z v)=>rV l SA LA OA sn sc ln lc on oc e.lut e.ff v (HN.out.below (aA u.out hv)) HF.out aR.out)
  generalize dA l ⟨e.lut,e.ff⟩=Y at *
  generalize bd:(es.take k).map (dA l)=YS at *
  clear bd
  have hS:=Hd HS.out.drew
  have hD:=hS.out.bel
  go_upto_region 14 with fail
  go_region_held3 (fun w'=>K4 w' w.heap.size (.int .i64 l.inputs) (.slice SA sn sc) (.slice LA ln lc) (.slice OA on oc) (w'.cell? ⟨w.heap.size+1,2,none⟩=some (.slice (some ⟨be,oe,none⟩) B J)/\w'.cell? ⟨be,oe+k * 2,none⟩=some (.int .i64 e.lut)/\w'.cell? ⟨be,oe+k * 2+1,none⟩=some (.int .i64 e.ff)))
   (first|with_reducible exact K.out _ hD|with_reducible exact K.out _ (aB hD _))
   ((first
    | (go_at_call 204;(with_reducible refine (aV.out _ hD).mono ?_);rintro _ w7 ⟨rfl,b7⟩;replace hD:=aA hD b7;have bj:=Hd (hS.out.below b7);clear b7)
    | (refine sZ rfl _ _ (by rfl) _ (bj.out.alloc _) 0 A2 k cB (YS) Y _ (0,0) rfl (by rfl) (by rfl) (aI _ _) (by omega) ?_;intro g8 bm w8 S8 bc;have a4:=Hd S8;replace hD:=S8.bel;clear S8 bc)))
  go_wp2_with fail
  go_roundw
  ·exact ⟨k+1,_,_,by omega,by go_num,rfl,by rw [a5.out];exact a4.out⟩
  simp [intOf];omega
 have aN:k=B:=by omega
 have a0:=dF (by omega:B<=k)
 obtain ⟨-,-,y2,R⟩:=jX (aD HS.out.bel q.out)
 have a8:Hid (es.take k=es):=by show _=_;rw [aN];exact List.take_of_length_le (by rw [aP.out];exact Nat.le_refl _)
 rw [a8.out] at HS
 clear aN
 go_wp2_with fail
 go_ret
 exact ⟨_,_,_,rfl,by rw [HR.out];exact (HS.out.owned 0 rfl).more u.out.size,aA u.out HS.out.bel⟩
theorem wI (l:ag) (SA LA OA:Option Addr) (sn sc ln lc on oc:Nat) (kd it:Int) (es:List LeT) (I:Option Addr) (G J:Nat) (w:World) (h:fU w l SA LA OA sn sc ln lc on oc) (hf:az l) (hE:RdC w w.heap.size (cZ es) (.slice I G J)) (R:dY l ⟨kd,it,es⟩) (a1:G<=100000) :
  Calls Tryz.prog 111 #[jE l SA LA OA sn sc ln lc on oc,.agg #[.int .i64 kd,.int .i64 it,.slice I G J]] w fun e w'=>∃A n c,e = .returned (.slice A n c)/\Own w.heap.size w' A n c (jA l ⟨kd,it,es⟩)/\Below w.heap.size w w':=by
 have aE:=hE.esN
 obtain ⟨HE,bp⟩:=hd2 hE aE
 clear hE aE
 have z:=Hd (aB (aB (Below.refl w.heap.size w) (.cells (ai l SA LA OA sn sc ln lc on oc) 41)) (.cells #[.int .i64 kd,.int .i64 it,.slice I G J] 89))
 have hx:=aW (.cells #[.int .i64 kd,.int .i64 it,.slice I G J] 89) (aI w (.cells (ai l SA LA OA sn sc ln lc on oc) 41))
 have hy:=aI (w.alloc (.cells (ai l SA LA OA sn sc ln lc on oc) 41)) (.cells #[.int .i64 kd,.int .i64 it,.slice I G J] 89)
 simp only [World.size_alloc] at hy
 obtain ⟨q,j⟩:=hd2 hx hy
 clear hx hy
 obtain ⟨ar,ak,au⟩:=h.lens
 have a6:=hf.nseq
 have aO:=hf.nlut
 have aY:=hf.nout
 have bs:=hf.inp
 rw [ar] at a6
 rw [ak] at aO
 rw [au] at aY
 obtain ⟨HN,HF,ao,bh,a3⟩:=hd5 h hf ar ak au
 have br:Hid ((l.first:Int)=1+l.inputs+(sn:Int)):=by show _=_;unfold ag.first;omega
 have aL:Hid ((l.count:Int)=1+l.inputs+(sn:Int)+(ln:Int)):=by show _=_;unfold ag.count ag.first;omega
 clear h hf ar ak au
 by_cases k0:kd=0
 ·subst k0
  have HR:Hid (jA l ⟨0,it,es⟩=[]):=rfl
  have HK:=Hd R
  go_enter Tryz.func111,Tryz.ntmps111
  go_upto_region 1 with fail
  generalize (w.alloc (.cells (ai l SA LA OA sn sc ln lc on oc) 41)).alloc (.cells #[.int .i64 0,.int .i64 it,.slice I G J] 89)=u at *
  obtain ⟨x0,Z,x2,W⟩:=cs4 q.out
  obtain ⟨Q,Y,y2⟩:=cs3 j.out
  have V:=aC q.out
  have U:=aC j.out
  have B:=ae (show az l/\dY l ⟨0,it,es⟩ from ⟨HF.out,HK.out⟩)
  have H:=Hd B
  clear B
  go_wp2_with fail
  refine (dI l SA LA OA sn sc ln lc on oc 0 it es I G J _ (HN.out.below (aA z.out (Below.refl u.heap.size u))) (HE.out.below (aA z.out (Below.refl u.heap.size u))) (by omega)).mono ?_
  rw [H.out]
  rintro _ w1 ⟨rfl,K⟩
  have D:=Hd (aA (Below.refl u.heap.size u) K)
  have g:=Hd (aA z.out D.out)
  clear K x0 Z x2 W Q Y y2 V U
  have Q:=aF (k:=0) (aD D.out j.out) rfl
  have V:=aC (aD D.out q.out)
  have U:=aC (aD D.out j.out)
  have am:=Hd ((aJ.refl w1).pushNew 3 1)
  go_wp2_with fail
  go_ret
  exact ⟨_,_,_,rfl,by rw [HR.out];exact (am.out.owned 0 rfl).more g.out.size,aB g.out _⟩
 by_cases k1:kd=1
 ·subst k1
  have HR:Hid (jA l ⟨1,it,es⟩=[l.outs[it.toNat]?.getD 0]):=rfl
  have aq:=og.1 R
  have HK:=Hd R
  rw [a3.out] at aq
  obtain ⟨X,rfl⟩:∃X:Nat,it=(X:Int):=⟨it.toNat,by omega⟩
  rw [Int.toNat_natCast] at HR
  have hX:X<on:=by omega
  obtain ⟨bo,oo,rfl,ay,aM⟩:=HN.out.ou.ints.2 (by omega)
  have co:=aM X hX
  have aL:=Hd co
  clear aM R co
  generalize l.outs[X]?.getD 0=y at *
  go_enter Tryz.func111,Tryz.ntmps111
  go_upto_region 1 with fail
  generalize (w.alloc (.cells (ai l SA LA (some ⟨bo,oo,none⟩) sn sc ln lc on oc) 41)).alloc (.cells #[.int .i64 1,.int .i64 (X:Int),.slice I G J] 89)=u at *
  obtain ⟨x0,Z,x2,W⟩:=cs4 q.out
  obtain ⟨Q,Y,y2⟩:=cs3 j.out
  have V:=aC q.out
  have U:=aC j.out
  have B:=ae (show az l/\dY l ⟨1,(X:Int),es⟩ from ⟨HF.out,HK.out⟩)
  have H:=Hd B
  clear B
  go_wp2_with fail
  refine (dI l SA LA (some ⟨bo,oo,none⟩) sn sc ln lc on oc 1 (X:Int) es I G J _ (HN.out.below (aA z.out (Below.refl u.heap.size u))) (HE.out.below (aA z.out (Below.refl u.heap.size u))) (by omega)).mono ?_
  rw [H.out]
  rintro _ w1 ⟨rfl,K⟩
  have D:=Hd (aA (Below.refl u.heap.size u) K)
  have g:=Hd (aA z.out D.out)
  clear K x0 Z x2 W Q Y y2 V U
  have W:=aF (k:=3) (aD D.out q.out) rfl
  obtain ⟨Q,Y⟩:=cs2 (aD D.out j.out)
  have V:=aC (aD D.out q.out)
  have U:=aC (aD D.out j.out)
  have co:=(g.out.cell (p:=⟨bo,oo+X,none⟩) ay).trans aL.out
  have bm:=aK g.out ay
  go_wp2_with fail
  go_ret
  refine ⟨_,_,_,rfl,?_,aB g.out _⟩
  rw [HR.out]
  exact Own.made (cur:=#[.int .i64 (y)]) (aI w1 _) g.out.size (by unfold maxLen;omega) rfl rfl
 by_cases k2:kd=2
 ·subst k2
  have HR:Hid (jA l ⟨2,it,es⟩=(l.seqs[it.toNat]?.getD Sq.zero).ins):=rfl
  have aq:=jW.1 R
  have HK:=Hd R
  rw [ao.out] at aq
  obtain ⟨X,rfl⟩:∃X:Nat,it=(X:Int):=⟨it.toNat,by omega⟩
  rw [Int.toNat_natCast] at HR
  have hX:X<sn:=by omega
  obtain ⟨bb,ob,S,m,p,rfl,ax,c0,c1,c2,r2⟩:=HN.out.sq.sq' (k:=X) (by rw [ao.out];exact hX)
  have bl:m<=4:=by
   have h1:=(HF.out.seqs X (by rw [ao.out];exact hX)).1
   have h2:=r2.ints.1
   rcases h1 with h|h <;> omega
  obtain ⟨aP,aQ⟩:=hd2 r2.ints c2
  clear c0 c1 c2 r2 R
  generalize (l.seqs[X]?.getD Sq.zero).ins=src at *
  go_enter Tryz.func111,Tryz.ntmps111
  go_upto_region 1 with fail
  generalize (w.alloc (.cells (ai l (some ⟨bb,ob,none⟩) LA OA sn sc ln lc on oc) 41)).alloc (.cells #[.int .i64 2,.int .i64 (X:Int),.slice I G J] 89)=u at *
  obtain ⟨x0,Z,x2,W⟩:=cs4 q.out
  obtain ⟨Q,Y,y2⟩:=cs3 j.out
  have V:=aC q.out
  have U:=aC j.out
  have B:=ae (show az l/\dY l ⟨2,(X:Int),es⟩ from ⟨HF.out,HK.out⟩)
  have H:=Hd B
  clear B
  go_wp2_with fail
  refine (dI l (some ⟨bb,ob,none⟩) LA OA sn sc ln lc on oc 2 (X:Int) es I G J _ (HN.out.below (aA z.out (Below.refl u.heap.size u))) (HE.out.below (aA z.out (Below.refl u.heap.size u))) (by omega)).mono ?_
  rw [H.out]
  rintro _ w1 ⟨rfl,K⟩
  have D:=Hd (aA (Below.refl u.heap.size u) K)
  have g:=Hd (aA z.out D.out)
  clear K x0 Z x2 W Q Y y2 V U
  have Z:=aF (k:=1) (aD D.out q.out) rfl
  obtain ⟨Q,Y⟩:=cs2 (aD D.out j.out)
  have V:=aC (aD D.out q.out)
  have U:=aC (aD D.out j.out)
  have c2:=(g.out.cell (p:=⟨bb,ob+X * 3+2,none⟩) ax).trans aQ.out
  have bj:=aK g.out ax
  have am:=Hd ((aJ.refl w1).pushNew 3 1)
  have aX:=Hd (aP.out.below (aB g.out (.cells #[] 3)))
  go_wp2_with (at_builtin;refine lF rfl _ _ rfl _ am.out 0 _ 0 0 [] S m p src rfl rfl rfl aX.out (by omega) ?_;intro A9 c9 w9 S9 aT;have aG:=Hd S9;clear S9 aT)
  go_ret
  have h9:=aG.out.owned 0 rfl
  rw [Nat.zero_add,List.nil_append] at h9
  exact ⟨_,_,_,rfl,by rw [HR.out];exact h9.more g.out.size,aA g.out aG.out.bel⟩
 have k3:kd=3:=by have:=iL R;omega
 subst k3
 clear k0 k1 k2
 have HR:Hid (jA l ⟨3,it,es⟩=fD l es):=rfl
 have aS:Hid (∀e∈es,dG l e):=kJ.1 R
 have HK:=Hd R
 go_enter Tryz.func111,Tryz.ntmps111
 go_upto_region 1 with fail
 generalize (w.alloc (.cells (ai l SA LA OA sn sc ln lc on oc) 41)).alloc (.cells #[.int .i64 3,.int .i64 it,.slice I G J] 89)=u at *
 obtain ⟨x0,Z,x2,W⟩:=cs4 q.out
 obtain ⟨Q,Y,y2⟩:=cs3 j.out
 have V:=aC q.out
 have U:=aC j.out
 have B:=ae (show az l/\dY l ⟨3,it,es⟩ from ⟨HF.out,HK.out⟩)
 have H:=Hd B
 clear B
 go_wp2_with fail
 refine (dI l SA LA OA sn sc ln lc on oc 3 it es I G J _ (HN.out.below (aA z.out (Below.refl u.heap.size u))) (HE.out.below (aA z.out (Below.refl u.heap.size u))) (by omega)).mono ?_
 rw [H.out]
 rintro _ w1 ⟨rfl,K⟩
 have D:=Hd (aA (Below.refl u.heap.size u) K)
 have g:=Hd (aA z.out D.out)
 clear K x0 Z x2 W Q Y y2 V U R
 obtain ⟨x0,Z,x2,W⟩:=cs4 (aD D.out q.out)
 obtain ⟨Q,-,y2⟩:=cs3 (aD D.out j.out)
 have V:=aC (aD D.out q.out)
 have U:=aC (aD D.out j.out)
 go_wp2_with fail
 refine (oL l SA LA OA sn sc ln lc on oc es I G J _ (HN.out.below g.out) HF.out (HE.out.below g.out) aS.out a1).mono ?_
 rintro _ w2 ⟨A,n,c,rfl,o2,b2⟩
 have O2:=Hd (o2.more g.out.size)
 have a7:=Hd (aA g.out b2)
 clear o2 b2
 go_wp2_with fail
 go_ret
 exact ⟨_,_,_,rfl,by rw [HR.out];exact O2.out,a7.out⟩
theorem yE (l:ag) (SA LA OA:Option Addr) (sn sc ln lc on oc:Nat) (kd it:Int) (es:List LeT) (W:Option Addr) (B Y:Nat) (w:World) (h:fU w l SA LA OA sn sc ln lc on oc) (hf:az l) (hE:RdC w w.heap.size (cZ es) (.slice W B Y)) (af:B<=1048576) :
  Calls Tryz.prog 110 #[jE l SA LA OA sn sc ln lc on oc,.agg #[.int .i64 kd,.int .i64 it,.slice W B Y]] w fun e w'=>e = .returned (.bool (tb (dM l ⟨kd,it,es⟩)))/\Below w.heap.size w w':=by
 have hB:=vB (l:=l) (kd:=kd) (it:=it) (es:=es)
 have aQ:=hE.esN
 obtain ⟨HE,aX⟩:=hd2 hE aQ
 clear hE aQ
 have u:=Hd (aB (aB (Below.refl w.heap.size w) (.cells (ai l SA LA OA sn sc ln lc on oc) 41)) (.cells #[.int .i64 kd,.int .i64 it,.slice W B Y] 89))
 have hx:=aW (.cells #[.int .i64 kd,.int .i64 it,.slice W B Y] 89) (aI w (.cells (ai l SA LA OA sn sc ln lc on oc) 41))
 have hy:=aI (w.alloc (.cells (ai l SA LA OA sn sc ln lc on oc) 41)) (.cells #[.int .i64 kd,.int .i64 it,.slice W B Y] 89)
 simp only [World.size_alloc] at hy
 obtain ⟨g,j⟩:=hd2 hx hy
 clear hx hy
 obtain ⟨aG,ax,aH⟩:=h.lens
 have a3:=hf.nseq
 have aU:=hf.nlut
 have aZ:=hf.nout
 have bl:=hf.inp
 rw [aG] at a3
 rw [ax] at aU
 rw [aH] at aZ
 obtain ⟨HN,HF,aN,a9,bg⟩:=hd5 h hf aG ax aH
 have be:Hid ((l.first:Int)=1+l.inputs+(sn:Int)):=by show _=_;unfold ag.first;omega
 have bk:Hid ((l.count:Int)=1+l.inputs+(sn:Int)+(ln:Int)):=by show _=_;unfold ag.count ag.first;omega
 clear h hf aG ax aH
 rw [aX.out] at hB
 by_cases D:dY l ⟨kd,it,es⟩
 ·have Z:Hid (tb (az l/\dY l ⟨kd,it,es⟩)=true):=ae ⟨HF.out,D⟩
  have HK:=Hd D
  by_cases k3:kd=3
  ·subst k3
   by_cases h0:it=0
   ·subst h0
    cases hr:inR (B:Int) 1 2 with
    | false =>
     have HR:Hid (¬dM l ⟨3,0,es⟩):=fun h=>by
      rcases (hB.1 h).2 with h|h
      ·rw [aR.2 (by omega)] at hr;cases hr
      exact h.1 rfl
     have ar:=Hd hr
     clear hr hB D
     go_enter Tryz.func110,Tryz.ntmps110
     go_upto_region 1 with fail
     generalize (w.alloc (.cells (ai l SA LA OA sn sc ln lc on oc) 41)).alloc (.cells #[.int .i64 3,.int .i64 0,.slice W B Y] 89)=W9 at *
     obtain ⟨V,R,J,G⟩:=cs4 g.out
     obtain ⟨I,Q,H⟩:=cs3 j.out
     have U:=aC g.out
     have K:=aC j.out
     go_wp2_with fail
     refine (dI l SA LA OA sn sc ln lc on oc 3 0 es W B Y _ (HN.out.below u.out) (HE.out.below u.out) af).mono ?_
     rw [Z.out]
     rintro _ w1 ⟨rfl,q⟩
     have z:=Hd (aA u.out q)
     clear V R J G I Q H U K
     obtain ⟨V,R,J,G⟩:=cs4 (aD q g.out)
     obtain ⟨I,Q,H⟩:=cs3 (aD q j.out)
     have U:=aC (aD q g.out)
     have K:=aC (aD q j.out)
     have al:=Hd (aD q g.out)
     have ah:=Hd (aD q j.out)
     clear q
     go_wp2_with fail
     refine (aj (B:Int) 1 2 _).mono ?_
     rw [ar.out]
     rintro _ w2 ⟨rfl,rfl⟩
     go_wp2_with fail
     go_ret
     exact ⟨aO HR.out,z.out⟩
    | true =>
     have aP:=aR.1 hr
     have ar:=Hd hr
     have aM:B<=2:=by omega
     have aL:1<=B:=by omega
     clear hr aP
     by_cases hp:(fD l es).length<=5
     ·have HR:Hid (dM l ⟨3,0,es⟩):=hB.2 ⟨D,.inl ⟨rfl,rfl,⟨aL,aM⟩,hp⟩⟩
      have HP:=Hd hp
      clear hB D hp
      go_enter Tryz.func110,Tryz.ntmps110
      go_upto_region 1 with fail
      generalize (w.alloc (.cells (ai l SA LA OA sn sc ln lc on oc) 41)).alloc (.cells #[.int .i64 3,.int .i64 0,.slice W B Y] 89)=W9 at *
      obtain ⟨V,R,J,G⟩:=cs4 g.out
      obtain ⟨I,Q,H⟩:=cs3 j.out
      have U:=aC g.out
      have K:=aC j.out
      go_wp2_with fail
      refine (dI l SA LA OA sn sc ln lc on oc 3 0 es W B Y _ (HN.out.below u.out) (HE.out.below u.out) af).mono ?_
      rw [Z.out]
      rintro _ w1 ⟨rfl,q⟩
      have z:=Hd (aA u.out q)
      clear V R J G I Q H U K
      obtain ⟨V,R,J,G⟩:=cs4 (aD q g.out)
      obtain ⟨I,Q,H⟩:=cs3 (aD q j.out)
      have U:=aC (aD q g.out)
      have K:=aC (aD q j.out)
      have al:=Hd (aD q g.out)
      have ah:=Hd (aD q j.out)
      clear q
      go_wp2_with fail
      refine (aj (B:Int) 1 2 _).mono ?_
      rw [ar.out]
      rintro _ w2 ⟨rfl,rfl⟩
      go_wp2_with fail
      refine (oL l SA LA OA sn sc ln lc on oc es W B Y _ (HN.out.below z.out) HF.out (HE.out.below z.out) (kJ.1 HK.out) (by omega)).mono ?_
      rintro _ w3 ⟨PA,pn,pc,rfl,op,b3⟩
      have aF:=Hd (aA z.out b3)
      have ap:=op.len
      change (fD l es).length=pn at ap
      have a4:pn<=5:=by have:=HP.out;omega
      have dp:decide ((pn:Int)<=5)=true:=decide_eq_true (by omega)
      clear b3 op ap V R J G I Q H U K
      go_wp2_with fail
      go_ret
      exact ⟨dU HR.out,aF.out⟩
     have HR:Hid (¬dM l ⟨3,0,es⟩):=fun h=>by
      rcases (hB.1 h).2 with h|h
      ·exact hp h.2.2.2
      exact h.1 rfl
     have HP:=Hd hp
     clear hB D hp
     go_enter Tryz.func110,Tryz.ntmps110
     go_upto_region 1 with fail
     generalize (w.alloc (.cells (ai l SA LA OA sn sc ln lc on oc) 41)).alloc (.cells #[.int .i64 3,.int .i64 0,.slice W B Y] 89)=W9 at *
     obtain ⟨V,R,J,G⟩:=cs4 g.out
     obtain ⟨I,Q,H⟩:=cs3 j.out
     have U:=aC g.out
     have K:=aC j.out
     go_wp2_with fail
     refine (dI l SA LA OA sn sc ln lc on oc 3 0 es W B Y _ (HN.out.below u.out) (HE.out.below u.out) af).mono ?_
     rw [Z.out]
     rintro _ w1 ⟨rfl,q⟩
     have z:=Hd (aA u.out q)
     clear V R J G I Q H U K
     obtain ⟨V,R,J,G⟩:=cs4 (aD q g.out)
     obtain ⟨I,Q,H⟩:=cs3 (aD q j.out)
     have U:=aC (aD q g.out)
     have K:=aC (aD q j.out)
     have al:=Hd (aD q g.out)
     have ah:=Hd (aD q j.out)
     clear q
     go_wp2_with fail
     refine (aj (B:Int) 1 2 _).mono ?_
     rw [ar.out]
     rintro _ w2 ⟨rfl,rfl⟩
     go_wp2_with fail
     refine (oL l SA LA OA sn sc ln lc on oc es W B Y _ (HN.out.below z.out) HF.out (HE.out.below z.out) (kJ.1 HK.out) (by omega)).mono ?_
     rintro _ w3 ⟨PA,pn,pc,rfl,op,b3⟩
     have aF:=Hd (aA z.out b3)
     have ap:=op.len
     change (fD l es).length=pn at ap
     have a4:¬pn<=5:=by have:=HP.out;omega
     have dp:decide ((pn:Int)<=5)=false:=decide_eq_false (by omega)
     clear b3 op ap V R J G I Q H U K
     go_wp2_with fail
     go_ret
     exact ⟨aO HR.out,aF.out⟩
   have HR:Hid (¬dM l ⟨3,it,es⟩):=fun h=>by
    rcases (hB.1 h).2 with h|h
    ·exact h0 h.2.1
    exact h.1 rfl
   have d0:(it==0)=false:=by simp [h0]
   clear hB D h0
   go_enter Tryz.func110,Tryz.ntmps110
   go_upto_region 1 with fail
   generalize (w.alloc (.cells (ai l SA LA OA sn sc ln lc on oc) 41)).alloc (.cells #[.int .i64 3,.int .i64 it,.slice W B Y] 89)=W9 at *
   obtain ⟨V,R,J,G⟩:=cs4 g.out
   obtain ⟨I,Q,H⟩:=cs3 j.out
   have U:=aC g.out
   have K:=aC j.out
   go_wp2_with fail
   refine (dI l SA LA OA sn sc ln lc on oc 3 it es W B Y _ (HN.out.below u.out) (HE.out.below u.out) af).mono ?_
   rw [Z.out]
   rintro _ w1 ⟨rfl,q⟩
   have z:=Hd (aA u.out q)
   clear V R J G I Q H U K
   obtain ⟨V,R,J,G⟩:=cs4 (aD q g.out)
   obtain ⟨I,Q,H⟩:=cs3 (aD q j.out)
   have U:=aC (aD q g.out)
   have K:=aC (aD q j.out)
   have al:=Hd (aD q g.out)
   have ah:=Hd (aD q j.out)
   clear q
   go_wp2_with fail
   go_ret
   exact ⟨aO HR.out,z.out⟩
  have d3:(kd != 3)=true:=by simp [k3]
  by_cases am:B=0
  ·have de:((B:Int)==0)=true:=by simp;omega
   by_cases k2:kd=2
   ·subst k2
    have aE:=jW.1 D
    rw [aN.out] at aE
    obtain ⟨X,rfl⟩:∃X:Nat,it=(X:Int):=⟨it.toNat,by omega⟩
    rw [Int.toNat_natCast] at hB
    have hX:X<sn:=by omega
    obtain ⟨bs,os,IA,im,ic,rfl,au,c0,c1,c2,r2⟩:=HN.out.sq.sq' (k:=X) (by rw [aN.out];exact hX)
    generalize l.seqs[X]?.getD Sq.zero=s at *
    clear c1 c2 r2 k3
    by_cases hk:s.kind=1
    ·have dk:(s.kind==1)=true:=by simp [hk]
     have HR:Hid (dM l ⟨2,(X:Int),es⟩):=hB.2 ⟨D,.inr ⟨by decide,am,fun _=>hk⟩⟩
     clear hB D hk am aE
     go_enter Tryz.func110,Tryz.ntmps110
     go_upto_region 1 with fail
     generalize (w.alloc (.cells (ai l (some ⟨bs,os,none⟩) LA OA sn sc ln lc on oc) 41)).alloc (.cells #[.int .i64 2,.int .i64 (X:Int),.slice W B Y] 89)=W9 at *
     obtain ⟨V,R,J,G⟩:=cs4 g.out
     obtain ⟨I,Q,H⟩:=cs3 j.out
     have U:=aC g.out
     have K:=aC j.out
     go_wp2_with fail
     refine (dI l (some ⟨bs,os,none⟩) LA OA sn sc ln lc on oc 2 (X:Int) es W B Y _ (HN.out.below u.out) (HE.out.below u.out) af).mono ?_
     rw [Z.out]
     rintro _ w1 ⟨rfl,q⟩
     have z:=Hd (aA u.out q)
     clear V R J G I Q H U K
     obtain ⟨V,R,J,G⟩:=cs4 (aD q g.out)
     obtain ⟨I,Q,H⟩:=cs3 (aD q j.out)
     have U:=aC (aD q g.out)
     have K:=aC (aD q j.out)
     have al:=Hd (aD q g.out)
     have ah:=Hd (aD q j.out)
     have aY:=aK z.out au
     rw [←z.out.cell (p:=⟨bs,os+X * 3,none⟩) au] at c0
     clear q
     go_wp2_with fail
     go_ret
     exact ⟨dU HR.out,z.out⟩
    have dk:(s.kind==1)=false:=by simp [hk]
    have HR:Hid (¬dM l ⟨2,(X:Int),es⟩):=fun h=>by
     rcases (hB.1 h).2 with h|h
     ·exact absurd h.1 (by decide)
     exact hk (h.2.2 rfl)
    clear hB D hk am aE
    go_enter Tryz.func110,Tryz.ntmps110
    go_upto_region 1 with fail
    generalize (w.alloc (.cells (ai l (some ⟨bs,os,none⟩) LA OA sn sc ln lc on oc) 41)).alloc (.cells #[.int .i64 2,.int .i64 (X:Int),.slice W B Y] 89)=W9 at *
    obtain ⟨V,R,J,G⟩:=cs4 g.out
    obtain ⟨I,Q,H⟩:=cs3 j.out
    have U:=aC g.out
    have K:=aC j.out
    go_wp2_with fail
    refine (dI l (some ⟨bs,os,none⟩) LA OA sn sc ln lc on oc 2 (X:Int) es W B Y _ (HN.out.below u.out) (HE.out.below u.out) af).mono ?_
    rw [Z.out]
    rintro _ w1 ⟨rfl,q⟩
    have z:=Hd (aA u.out q)
    clear V R J G I Q H U K
    obtain ⟨V,R,J,G⟩:=cs4 (aD q g.out)
    obtain ⟨I,Q,H⟩:=cs3 (aD q j.out)
    have U:=aC (aD q g.out)
    have K:=aC (aD q j.out)
    have al:=Hd (aD q g.out)
    have ah:=Hd (aD q j.out)
    have aY:=aK z.out au
    rw [←z.out.cell (p:=⟨bs,os+X * 3,none⟩) au] at c0
    clear q
    go_wp2_with fail
    go_ret
    exact ⟨aO HR.out,z.out⟩
   have d2:(kd != 2)=true:=by simp [k2]
   have HR:Hid (dM l ⟨kd,it,es⟩):=hB.2 ⟨D,.inr ⟨k3,am,fun h=>absurd h k2⟩⟩
   clear hB D k2 am k3
   go_enter Tryz.func110,Tryz.ntmps110
   go_upto_region 1 with fail
   generalize (w.alloc (.cells (ai l SA LA OA sn sc ln lc on oc) 41)).alloc (.cells #[.int .i64 kd,.int .i64 it,.slice W B Y] 89)=W9 at *
   obtain ⟨V,R,J,G⟩:=cs4 g.out
   obtain ⟨I,Q,H⟩:=cs3 j.out
   have U:=aC g.out
   have K:=aC j.out
   go_wp2_with fail
   refine (dI l SA LA OA sn sc ln lc on oc kd it es W B Y _ (HN.out.below u.out) (HE.out.below u.out) af).mono ?_
   rw [Z.out]
   rintro _ w1 ⟨rfl,q⟩
   have z:=Hd (aA u.out q)
   clear V R J G I Q H U K
   obtain ⟨V,R,J,G⟩:=cs4 (aD q g.out)
   obtain ⟨I,Q,H⟩:=cs3 (aD q j.out)
   have U:=aC (aD q g.out)
   have K:=aC (aD q j.out)
   have al:=Hd (aD q g.out)
   have ah:=Hd (aD q j.out)
   clear q
   go_wp2_with fail
   go_ret
   exact ⟨dU HR.out,z.out⟩
  have de:((B:Int)==0)=false:=by simp;omega
  have HR:Hid (¬dM l ⟨kd,it,es⟩):=fun h=>by
   rcases (hB.1 h).2 with h|h
   ·exact k3 h.1
   exact am h.2.1
  clear hB D am k3
  go_enter Tryz.func110,Tryz.ntmps110
  go_upto_region 1 with fail
  generalize (w.alloc (.cells (ai l SA LA OA sn sc ln lc on oc) 41)).alloc (.cells #[.int .i64 kd,.int .i64 it,.slice W B Y] 89)=W9 at *
  obtain ⟨V,R,J,G⟩:=cs4 g.out
  obtain ⟨I,Q,H⟩:=cs3 j.out
  have U:=aC g.out
  have K:=aC j.out
  go_wp2_with fail
  refine (dI l SA LA OA sn sc ln lc on oc kd it es W B Y _ (HN.out.below u.out) (HE.out.below u.out) af).mono ?_
  rw [Z.out]
  rintro _ w1 ⟨rfl,q⟩
  have z:=Hd (aA u.out q)
  clear V R J G I Q H U K
  obtain ⟨V,R,J,G⟩:=cs4 (aD q g.out)
  obtain ⟨I,Q,H⟩:=cs3 (aD q j.out)
  have U:=aC (aD q g.out)
  have K:=aC (aD q j.out)
  have al:=Hd (aD q g.out)
  have ah:=Hd (aD q j.out)
  clear q
  go_wp2_with fail
  go_ret
  exact ⟨aO HR.out,z.out⟩
 have Z:Hid (tb (az l/\dY l ⟨kd,it,es⟩)=false):=bJ fun h=>D h.2
 have HR:Hid (¬dM l ⟨kd,it,es⟩):=fun h=>D (hB.1 h).1
 clear hB D
 go_enter Tryz.func110,Tryz.ntmps110
 go_upto_region 1 with fail
 generalize (w.alloc (.cells (ai l SA LA OA sn sc ln lc on oc) 41)).alloc (.cells #[.int .i64 kd,.int .i64 it,.slice W B Y] 89)=W9 at *
 obtain ⟨V,R,J,G⟩:=cs4 g.out
 obtain ⟨I,Q,H⟩:=cs3 j.out
 have U:=aC g.out
 have K:=aC j.out
 go_wp2_with fail
 refine (dI l SA LA OA sn sc ln lc on oc kd it es W B Y _ (HN.out.below u.out) (HE.out.below u.out) af).mono ?_
 rw [Z.out]
 rintro _ w1 ⟨rfl,q⟩
 have z:=Hd (aA u.out q)
 clear V R J G I Q H U K
 have al:=Hd (aD q g.out)
 have ah:=Hd (aD q j.out)
 clear q
 go_wp2_with fail
 go_ret
 exact ⟨aO HR.out,z.out⟩
end Go.Proofs.YtofihjoanjkdmaaGreat
