/- Valid blocks in the program (printed by mkblk.py). -/
import Derived.Test.YtofihjoanjkdmaaGreatLayF3
namespace Go.Proofs.YtofihjoanjkdmaaGreat
set_option maxHeartbeats 2000000
set_option maxRecDepth 100000
open Go.RowKit
theorem yN {b:Bool} {P:Prop} (h:b=true↔P):b=tb P:=by
 cases b with
 | true=>rw [aa (h.1 rfl)]
 | false=>rw [bF fun hp=>by cases h.2 hp]
theorem yO {a b:Int} {P:Prop} (h:0<=a/\a<b↔P):inR a 0 (b - 1)=tb P:=yN (by rw [aV,←h];omega)
theorem eF (l:ai) (SA LA OA:Option Addr) (sn sc ln lc on oc:Nat) (kd it:Int) (es:List LeT) (EA:Option Addr) (en ec:Nat) (w:World) (h:fI w l SA LA OA sn sc ln lc on oc) (hf:bB l) (hE:RdC w w.heap.size (dF es) (.slice EA en ec)) (hen:en<=1048576) :
  Calls Tryz.prog 213 #[iD l SA LA OA sn sc ln lc on oc,.agg #[.int .i64 kd,.int .i64 it,.slice EA en ec]] w fun e w'=>e = .returned (.bool (tb (dD l ⟨kd,it,es⟩)))/\Below w.heap.size w w':=by
 have hel:=hE.esN
 have HE:=Hd hE
 have HEL:=Hd hel
 clear hE hel
 have HB0:=Hd (aF (aF (Below.refl w.heap.size w) (.cells (av l SA LA OA sn sc ln lc on oc) 41)) (.cells #[.int .i64 kd,.int .i64 it,.slice EA en ec] 89))
 have hx:=bg (.cells #[.int .i64 kd,.int .i64 it,.slice EA en ec] 89) (aK w (.cells (av l SA LA OA sn sc ln lc on oc) 41))
 have hy:=aK (w.alloc (.cells (av l SA LA OA sn sc ln lc on oc) 41)) (.cells #[.int .i64 kd,.int .i64 it,.slice EA en ec] 89)
 simp only [World.size_alloc] at hy
 have HXB:=Hd hx
 have HYB:=Hd hy
 clear hx hy
 obtain ⟨hsl,hll,hol⟩:=h.lens
 have hsn:=hf.nseq
 have hln:=hf.nlut
 have hon:=hf.nout
 have hin:=hf.inp
 rw [hsl] at hsn
 rw [hll] at hln
 rw [hol] at hon
 have HN:=Hd h
 have HF:=Hd hf
 have HSL:=Hd hsl
 have HLL:=Hd hll
 have HOL:=Hd hol
 have HFI:Hid ((l.first:Int)=1+l.inputs+(sn:Int)):=by show _=_;unfold ai.first;omega
 have HCO:Hid ((l.count:Int)=1+l.inputs+(sn:Int)+(ln:Int)):=by show _=_;unfold ai.count ai.first;omega
 clear h hf hsl hll hol
 by_cases k0:kd=0
 ·subst k0
  have HR:Hid (inR it 0 (l.inputs - 1)=tb (dD l ⟨0,it,es⟩)):=yO (by rw [lT])
  go_enter Tryz.func213,Tryz.ntmps213
  go_upto_region 1 with fail
  generalize (w.alloc (.cells (av l SA LA OA sn sc ln lc on oc) 41)).alloc (.cells #[.int .i64 0,.int .i64 it,.slice EA en ec] 89)=W9 at *
  have x0:=aA (k:=0) HXB.out rfl
  have y0:=aA (k:=0) HYB.out rfl
  have y1:=aA (k:=1) HYB.out rfl
  have lx:=aC HXB.out
  have ly:=aC HYB.out
  go_wp2_with fail
  refine (aN it 0 (l.inputs - 1) _).mono ?_
  rintro _ w1 ⟨rfl,rfl⟩
  go_wp2_with fail
  go_ret
  exact ⟨bT HR.out,HB0.out⟩
 ·by_cases k1:kd=1
  ·subst k1
   have HR:Hid (inR it 0 ((on:Int) - 1)=tb (dD l ⟨1,it,es⟩)):=yO (by rw [lU];rw [HOL.out])
   go_enter Tryz.func213,Tryz.ntmps213
   go_upto_region 1 with fail
   generalize (w.alloc (.cells (av l SA LA OA sn sc ln lc on oc) 41)).alloc (.cells #[.int .i64 1,.int .i64 it,.slice EA en ec] 89)=W9 at *
   have x3:=aA (k:=3) HXB.out rfl
   have y0:=aA (k:=0) HYB.out rfl
   have y1:=aA (k:=1) HYB.out rfl
   have lx:=aC HXB.out
   have ly:=aC HYB.out
   go_wp2_with fail
   refine (aN it 0 ((on:Int) - 1) _).mono ?_
   rintro _ w1 ⟨rfl,rfl⟩
   go_wp2_with fail
   go_ret
   exact ⟨bT HR.out,HB0.out⟩
  ·by_cases k2:kd=2
   ·subst k2
    have HR:Hid (inR it 0 ((sn:Int) - 1)=tb (dD l ⟨2,it,es⟩)):=yO (by rw [jG];rw [HSL.out])
    go_enter Tryz.func213,Tryz.ntmps213
    go_upto_region 1 with fail
    generalize (w.alloc (.cells (av l SA LA OA sn sc ln lc on oc) 41)).alloc (.cells #[.int .i64 2,.int .i64 it,.slice EA en ec] 89)=W9 at *
    have x1:=aA (k:=1) HXB.out rfl
    have y0:=aA (k:=0) HYB.out rfl
    have y1:=aA (k:=1) HYB.out rfl
    have lx:=aC HXB.out
    have ly:=aC HYB.out
    go_wp2_with fail
    refine (aN it 0 ((sn:Int) - 1) _).mono ?_
    rintro _ w1 ⟨rfl,rfl⟩
    go_wp2_with fail
    go_ret
    exact ⟨bT HR.out,HB0.out⟩
   ·by_cases k3:kd=3
    ·subst k3
     clear k0 k1 k2
     go_enter Tryz.func213,Tryz.ntmps213
     go_upto_region 1 with fail
     generalize (w.alloc (.cells (av l SA LA OA sn sc ln lc on oc) 41)).alloc (.cells #[.int .i64 3,.int .i64 it,.slice EA en ec] 89)=W9 at *
     have x0:=aA (k:=0) HXB.out rfl
     have y0:=aA (k:=0) HYB.out rfl
     have y1:=aA (k:=1) HYB.out rfl
     have y2:=aA (k:=2) HYB.out rfl
     have lx:=aC HXB.out
     have ly:=aC HYB.out
     go_wp2_with fail
     clear x0 y0 y1 y2 lx ly
     go_loopw [40] (fun i wr=>∃k:Nat,k<=en/\i = .int .i64 k/\Below W9.heap.size W9 wr/\∀j,j<k→dM l ⟨(es[j]?.getD LeT.zero).lut,(es[j]?.getD LeT.zero).ff⟩) (fun i _=>en - (intOf i).toNat)
     case atStart=>exact ⟨0,Nat.zero_le _,rfl,Below.refl _ _,fun j hj=>by omega⟩
     case round =>
      obtain ⟨k,hk,rfl,hb,hall⟩:=hrel
      have HBE:=Hd hb
      have HALL:=Hd hall
      have HBW:=Hd (aB HB0.out hb)
      clear hb hall
      by_cases hlt:k<en
      ·have hdk:decide ((k:Int)<(en:Int))=true:=by simp;omega
       have hkl:k<es.length:=by rw [HEL.out];exact hlt
       obtain ⟨be,oe,rfl,hbe,c0,c1⟩:=HE.out.es (k:=k) hkl
       have lbe:=aL HBW.out hbe
       rw [←HBW.out.cell (p:=⟨be,oe+k * 2,none⟩) hbe] at c0
       rw [←HBW.out.cell (p:=⟨be,oe+k * 2+1,none⟩) hbe] at c1
       have HG:Hid (dM l ⟨(es[k]?.getD LeT.zero).lut,(es[k]?.getD LeT.zero).ff⟩→∀j,j<k+1→dM l ⟨(es[j]?.getD LeT.zero).lut,(es[j]?.getD LeT.zero).ff⟩):=fun h=>bS HALL.out h
       have HNO:Hid (¬dM l ⟨(es[k]?.getD LeT.zero).lut,(es[k]?.getD LeT.zero).ff⟩→¬dD l ⟨3,it,es⟩):=fun h h'=>h (by
        have:=jb.1 h' _ (List.getElem_mem hkl)
        rwa [show es[k]=es[k]?.getD LeT.zero by rw [List.getElem?_eq_getElem hkl];rfl] at this)
       clear hkl
       generalize es[k]?.getD LeT.zero=e at *
       have hx:=aD (aF (Below.refl wr.heap.size wr) (.cells #[.int .i64 e.lut,.int .i64 e.ff] 94)) (aD HBE.out HXB.out)
       have x0:=aA (k:=0) hx rfl
       have x1:=aA (k:=1) hx rfl
       have x2:=aA (k:=2) hx rfl
       have x3:=aA (k:=3) hx rfl
       have lx:=aC hx
       have hq:=aK wr (.cells #[.int .i64 e.lut,.int .i64 e.ff] 94)
       have q0:=aA (k:=0) hq rfl
       have q1:=aA (k:=1) hq rfl
       have lq:=aC hq
       have i0:(0:Int)<=(k:Int):=by omega
       have i1:(k:Int)<(en:Int):=by omega
       have HBA:=Hd (aF HBE.out (.cells #[.int .i64 e.lut,.int .i64 e.ff] 94))
       clear hx hq
       go_wp2_with fail
       refine (yh l SA LA OA sn sc ln lc on oc e.lut e.ff _ (HN.out.below (aB HB0.out HBA.out)) HF.out).mono ?_
       by_cases hel:dM l ⟨e.lut,e.ff⟩
       ·rw [aa hel]
        have HG2:=Hd (HG.out hel)
        rintro _ w1 ⟨rfl,b1⟩
        have HB1:=Hd (aB HBA.out b1)
        clear b1 x0 x1 x2 x3 lx q0 q1 lq c0 c1 hel HG HNO
        go_wp2_with fail
        go_roundw
        case rel=>exact ⟨k+1,by omega,by go_num,HB1.out,HG2.out⟩
        case measure=>simp [intOf];omega
       ·rw [bF hel]
        have HR:=Hd (HNO.out hel)
        rintro _ w1 ⟨rfl,b1⟩
        have HB1:=Hd (aB HBA.out b1)
        clear b1 x0 x1 x2 x3 lx q0 q1 lq c0 c1 hel HG HNO
        go_wp2_with fail
        go_ret
        exact ⟨aP HR.out,aB HB0.out HB1.out⟩
      ·have hkm:k=en:=by omega
       have hdk:decide ((k:Int)<(en:Int))=false:=by simp;omega
       have HR:Hid (dD l ⟨3,it,es⟩):=jb.2 fun e he=>by
        obtain ⟨j,hj,rfl⟩:=List.getElem_of_mem he
        have h:=HALL.out j (by rw [hkm,←HEL.out];exact hj)
        rwa [show es[j]?.getD LeT.zero=es[j] by rw [List.getElem?_eq_getElem hj];rfl] at h
       clear HALL hkm
       go_wp2_with fail
       go_ret
       exact ⟨cO HR.out,HBW.out⟩
    ·have HR:Hid (¬dD l ⟨kd,it,es⟩):=fun h=>by have:=gm h;omega
     have d0:(kd==0)=false:=by simp [k0]
     have d1:(kd==1)=false:=by simp [k1]
     have d2:(kd==2)=false:=by simp [k2]
     have d3:(kd==3)=false:=by simp [k3]
     clear k0 k1 k2 k3
     go_enter Tryz.func213,Tryz.ntmps213
     go_upto_region 1 with fail
     generalize (w.alloc (.cells (av l SA LA OA sn sc ln lc on oc) 41)).alloc (.cells #[.int .i64 kd,.int .i64 it,.slice EA en ec] 89)=W9 at *
     have x0:=aA (k:=0) HXB.out rfl
     have y0:=aA (k:=0) HYB.out rfl
     have y1:=aA (k:=1) HYB.out rfl
     have lx:=aC HXB.out
     have ly:=aC HYB.out
     go_wp2_with fail
     go_ret
     exact ⟨aP HR.out,HB0.out⟩
theorem qK {l:ai} {kd it:Int} {es:List LeT}:cZ l ⟨kd,it,es⟩↔dD l ⟨kd,it,es⟩/\(kd=3/\it=0/\(1<=es.length/\es.length<=2)/\(kX l es).length<=5∨kd≠3/\es.length=0/\(kd=2→(l.seqs[it.toNat]?.getD Sq.zero).kind=1)):=by
 rw [List.length_eq_zero_iff]
 exact Iff.rfl
theorem uY (l:ai) (SA LA OA:Option Addr) (sn sc ln lc on oc:Nat) (kd it:Int) (es:List LeT) (EA:Option Addr) (en ec:Nat) (w:World) (h:fI w l SA LA OA sn sc ln lc on oc) (hf:bB l) (hE:RdC w w.heap.size (dF es) (.slice EA en ec)) (hen:en<=1048576) :
  Calls Tryz.prog 123 #[iD l SA LA OA sn sc ln lc on oc,.agg #[.int .i64 kd,.int .i64 it,.slice EA en ec]] w fun e w'=>e = .returned (.bool (tb (cZ l ⟨kd,it,es⟩)))/\Below w.heap.size w w':=by
 have hB:=qK (l:=l) (kd:=kd) (it:=it) (es:=es)
 have hel:=hE.esN
 have HE:=Hd hE
 have HEL:=Hd hel
 clear hE hel
 have HB0:=Hd (aF (aF (Below.refl w.heap.size w) (.cells (av l SA LA OA sn sc ln lc on oc) 41)) (.cells #[.int .i64 kd,.int .i64 it,.slice EA en ec] 89))
 have hx:=bg (.cells #[.int .i64 kd,.int .i64 it,.slice EA en ec] 89) (aK w (.cells (av l SA LA OA sn sc ln lc on oc) 41))
 have hy:=aK (w.alloc (.cells (av l SA LA OA sn sc ln lc on oc) 41)) (.cells #[.int .i64 kd,.int .i64 it,.slice EA en ec] 89)
 simp only [World.size_alloc] at hy
 have HXB:=Hd hx
 have HYB:=Hd hy
 clear hx hy
 obtain ⟨hsl,hll,hol⟩:=h.lens
 have hsn:=hf.nseq
 have hln:=hf.nlut
 have hon:=hf.nout
 have hin:=hf.inp
 rw [hsl] at hsn
 rw [hll] at hln
 rw [hol] at hon
 have HN:=Hd h
 have HF:=Hd hf
 have HSL:=Hd hsl
 have HLL:=Hd hll
 have HOL:=Hd hol
 have HFI:Hid ((l.first:Int)=1+l.inputs+(sn:Int)):=by show _=_;unfold ai.first;omega
 have HCO:Hid ((l.count:Int)=1+l.inputs+(sn:Int)+(ln:Int)):=by show _=_;unfold ai.count ai.first;omega
 clear h hf hsl hll hol
 rw [HEL.out] at hB
 by_cases hkn:dD l ⟨kd,it,es⟩
 ·have HKN:Hid (tb (dD l ⟨kd,it,es⟩)=true):=aa hkn
  have HK:=Hd hkn
  by_cases k3:kd=3
  ·subst k3
   by_cases h0:it=0
   ·subst h0
    cases hr:inR (en:Int) 1 2 with
    | false =>
     have HR:Hid (¬cZ l ⟨3,0,es⟩):=fun h=>by
      rcases (hB.1 h).2 with h|h
      ·rw [aV.2 (by omega)] at hr;cases hr
      ·exact h.1 rfl
     have HRN:=Hd hr
     clear hr hB hkn
     go_enter Tryz.func123,Tryz.ntmps123
     go_upto_region 1 with fail
     generalize (w.alloc (.cells (av l SA LA OA sn sc ln lc on oc) 41)).alloc (.cells #[.int .i64 3,.int .i64 0,.slice EA en ec] 89)=W9 at *
     have x0:=aA (k:=0) HXB.out rfl
     have x1:=aA (k:=1) HXB.out rfl
     have x2:=aA (k:=2) HXB.out rfl
     have x3:=aA (k:=3) HXB.out rfl
     have y0:=aA (k:=0) HYB.out rfl
     have y1:=aA (k:=1) HYB.out rfl
     have y2:=aA (k:=2) HYB.out rfl
     have lx:=aC HXB.out
     have ly:=aC HYB.out
     go_wp2_with fail
     refine (eF l SA LA OA sn sc ln lc on oc 3 0 es EA en ec _ (HN.out.below HB0.out) HF.out (HE.out.below HB0.out) hen).mono ?_
     rw [HKN.out]
     rintro _ w1 ⟨rfl,b1⟩
     have HB1:=Hd (aB HB0.out b1)
     clear x0 x1 x2 x3 y0 y1 y2 lx ly
     have x0:=aA (k:=0) (aD b1 HXB.out) rfl
     have x1:=aA (k:=1) (aD b1 HXB.out) rfl
     have x2:=aA (k:=2) (aD b1 HXB.out) rfl
     have x3:=aA (k:=3) (aD b1 HXB.out) rfl
     have y0:=aA (k:=0) (aD b1 HYB.out) rfl
     have y1:=aA (k:=1) (aD b1 HYB.out) rfl
     have y2:=aA (k:=2) (aD b1 HYB.out) rfl
     have lx:=aC (aD b1 HXB.out)
     have ly:=aC (aD b1 HYB.out)
     have HX1:=Hd (aD b1 HXB.out)
     have HY1:=Hd (aD b1 HYB.out)
     clear b1
     go_wp2_with fail
     refine (aN (en:Int) 1 2 _).mono ?_
     rw [HRN.out]
     rintro _ w2 ⟨rfl,rfl⟩
     go_wp2_with fail
     go_ret
     exact ⟨aP HR.out,HB1.out⟩
    | true =>
     have hen2:=aV.1 hr
     have HRN:=Hd hr
     have hen3:en<=2:=by omega
     have hen4:1<=en:=by omega
     clear hr hen2
     by_cases hp:(kX l es).length<=5
     ·have HR:Hid (cZ l ⟨3,0,es⟩):=hB.2 ⟨hkn,.inl ⟨rfl,rfl,⟨hen4,hen3⟩,hp⟩⟩
      have HP:=Hd hp
      clear hB hkn hp
      go_enter Tryz.func123,Tryz.ntmps123
      go_upto_region 1 with fail
      generalize (w.alloc (.cells (av l SA LA OA sn sc ln lc on oc) 41)).alloc (.cells #[.int .i64 3,.int .i64 0,.slice EA en ec] 89)=W9 at *
      have x0:=aA (k:=0) HXB.out rfl
      have x1:=aA (k:=1) HXB.out rfl
      have x2:=aA (k:=2) HXB.out rfl
      have x3:=aA (k:=3) HXB.out rfl
      have y0:=aA (k:=0) HYB.out rfl
      have y1:=aA (k:=1) HYB.out rfl
      have y2:=aA (k:=2) HYB.out rfl
      have lx:=aC HXB.out
      have ly:=aC HYB.out
      go_wp2_with fail
      refine (eF l SA LA OA sn sc ln lc on oc 3 0 es EA en ec _ (HN.out.below HB0.out) HF.out (HE.out.below HB0.out) hen).mono ?_
      rw [HKN.out]
      rintro _ w1 ⟨rfl,b1⟩
      have HB1:=Hd (aB HB0.out b1)
      clear x0 x1 x2 x3 y0 y1 y2 lx ly
      have x0:=aA (k:=0) (aD b1 HXB.out) rfl
      have x1:=aA (k:=1) (aD b1 HXB.out) rfl
      have x2:=aA (k:=2) (aD b1 HXB.out) rfl
      have x3:=aA (k:=3) (aD b1 HXB.out) rfl
      have y0:=aA (k:=0) (aD b1 HYB.out) rfl
      have y1:=aA (k:=1) (aD b1 HYB.out) rfl
      have y2:=aA (k:=2) (aD b1 HYB.out) rfl
      have lx:=aC (aD b1 HXB.out)
      have ly:=aC (aD b1 HYB.out)
      have HX1:=Hd (aD b1 HXB.out)
      have HY1:=Hd (aD b1 HYB.out)
      clear b1
      go_wp2_with fail
      refine (aN (en:Int) 1 2 _).mono ?_
      rw [HRN.out]
      rintro _ w2 ⟨rfl,rfl⟩
      go_wp2_with fail
      refine (mX l SA LA OA sn sc ln lc on oc 3 0 es EA en ec _ (HN.out.below HB1.out) HF.out (HE.out.below HB1.out) HK.out (by omega)).mono ?_
      rintro _ w3 ⟨PA,pn,pc,rfl,op,b3⟩
      have HB3:=Hd (aB HB1.out b3)
      have hpl:=op.len
      change (kX l es).length=pn at hpl
      have hpn:pn<=5:=by have:=HP.out;omega
      have dp:decide ((pn:Int)<=5)=true:=decide_eq_true (by omega)
      clear b3 op hpl x0 x1 x2 x3 y0 y1 y2 lx ly
      go_wp2_with fail
      go_ret
      exact ⟨cO HR.out,HB3.out⟩
     ·have HR:Hid (¬cZ l ⟨3,0,es⟩):=fun h=>by
       rcases (hB.1 h).2 with h|h
       ·exact hp h.2.2.2
       ·exact h.1 rfl
      have HP:=Hd hp
      clear hB hkn hp
      go_enter Tryz.func123,Tryz.ntmps123
      go_upto_region 1 with fail
      generalize (w.alloc (.cells (av l SA LA OA sn sc ln lc on oc) 41)).alloc (.cells #[.int .i64 3,.int .i64 0,.slice EA en ec] 89)=W9 at *
      have x0:=aA (k:=0) HXB.out rfl
      have x1:=aA (k:=1) HXB.out rfl
      have x2:=aA (k:=2) HXB.out rfl
      have x3:=aA (k:=3) HXB.out rfl
      have y0:=aA (k:=0) HYB.out rfl
      have y1:=aA (k:=1) HYB.out rfl
      have y2:=aA (k:=2) HYB.out rfl
      have lx:=aC HXB.out
      have ly:=aC HYB.out
      go_wp2_with fail
      refine (eF l SA LA OA sn sc ln lc on oc 3 0 es EA en ec _ (HN.out.below HB0.out) HF.out (HE.out.below HB0.out) hen).mono ?_
      rw [HKN.out]
      rintro _ w1 ⟨rfl,b1⟩
      have HB1:=Hd (aB HB0.out b1)
      clear x0 x1 x2 x3 y0 y1 y2 lx ly
      have x0:=aA (k:=0) (aD b1 HXB.out) rfl
      have x1:=aA (k:=1) (aD b1 HXB.out) rfl
      have x2:=aA (k:=2) (aD b1 HXB.out) rfl
      have x3:=aA (k:=3) (aD b1 HXB.out) rfl
      have y0:=aA (k:=0) (aD b1 HYB.out) rfl
      have y1:=aA (k:=1) (aD b1 HYB.out) rfl
      have y2:=aA (k:=2) (aD b1 HYB.out) rfl
      have lx:=aC (aD b1 HXB.out)
      have ly:=aC (aD b1 HYB.out)
      have HX1:=Hd (aD b1 HXB.out)
      have HY1:=Hd (aD b1 HYB.out)
      clear b1
      go_wp2_with fail
      refine (aN (en:Int) 1 2 _).mono ?_
      rw [HRN.out]
      rintro _ w2 ⟨rfl,rfl⟩
      go_wp2_with fail
      refine (mX l SA LA OA sn sc ln lc on oc 3 0 es EA en ec _ (HN.out.below HB1.out) HF.out (HE.out.below HB1.out) HK.out (by omega)).mono ?_
      rintro _ w3 ⟨PA,pn,pc,rfl,op,b3⟩
      have HB3:=Hd (aB HB1.out b3)
      have hpl:=op.len
      change (kX l es).length=pn at hpl
      have hpn:¬pn<=5:=by have:=HP.out;omega
      have dp:decide ((pn:Int)<=5)=false:=decide_eq_false (by omega)
      clear b3 op hpl x0 x1 x2 x3 y0 y1 y2 lx ly
      go_wp2_with fail
      go_ret
      exact ⟨aP HR.out,HB3.out⟩
   ·have HR:Hid (¬cZ l ⟨3,it,es⟩):=fun h=>by
     rcases (hB.1 h).2 with h|h
     ·exact h0 h.2.1
     ·exact h.1 rfl
    have d0:(it==0)=false:=by simp [h0]
    clear hB hkn h0
    go_enter Tryz.func123,Tryz.ntmps123
    go_upto_region 1 with fail
    generalize (w.alloc (.cells (av l SA LA OA sn sc ln lc on oc) 41)).alloc (.cells #[.int .i64 3,.int .i64 it,.slice EA en ec] 89)=W9 at *
    have x0:=aA (k:=0) HXB.out rfl
    have x1:=aA (k:=1) HXB.out rfl
    have x2:=aA (k:=2) HXB.out rfl
    have x3:=aA (k:=3) HXB.out rfl
    have y0:=aA (k:=0) HYB.out rfl
    have y1:=aA (k:=1) HYB.out rfl
    have y2:=aA (k:=2) HYB.out rfl
    have lx:=aC HXB.out
    have ly:=aC HYB.out
    go_wp2_with fail
    refine (eF l SA LA OA sn sc ln lc on oc 3 it es EA en ec _ (HN.out.below HB0.out) HF.out (HE.out.below HB0.out) hen).mono ?_
    rw [HKN.out]
    rintro _ w1 ⟨rfl,b1⟩
    have HB1:=Hd (aB HB0.out b1)
    clear x0 x1 x2 x3 y0 y1 y2 lx ly
    have x0:=aA (k:=0) (aD b1 HXB.out) rfl
    have x1:=aA (k:=1) (aD b1 HXB.out) rfl
    have x2:=aA (k:=2) (aD b1 HXB.out) rfl
    have x3:=aA (k:=3) (aD b1 HXB.out) rfl
    have y0:=aA (k:=0) (aD b1 HYB.out) rfl
    have y1:=aA (k:=1) (aD b1 HYB.out) rfl
    have y2:=aA (k:=2) (aD b1 HYB.out) rfl
    have lx:=aC (aD b1 HXB.out)
    have ly:=aC (aD b1 HYB.out)
    have HX1:=Hd (aD b1 HXB.out)
    have HY1:=Hd (aD b1 HYB.out)
    clear b1
    go_wp2_with fail
    go_ret
    exact ⟨aP HR.out,HB1.out⟩
  ·have d3:(kd != 3)=true:=by simp [k3]
   by_cases he0:en=0
   ·have de:((en:Int)==0)=true:=by simp;omega
    by_cases k2:kd=2
    ·subst k2
     have hit:=jG.1 hkn
     rw [HSL.out] at hit
     obtain ⟨X,rfl⟩:∃X:Nat,it=(X:Int):=⟨it.toNat,by omega⟩
     rw [Int.toNat_natCast] at hB
     have hX:X<sn:=by omega
     obtain ⟨bs,os,IA,im,ic,rfl,hbs,c0,c1,c2,r2⟩:=HN.out.sq.sq' (k:=X) (by rw [HSL.out];exact hX)
     generalize l.seqs[X]?.getD Sq.zero=s at *
     clear c1 c2 r2 k3
     by_cases hk:s.kind=1
     ·have dk:(s.kind==1)=true:=by simp [hk]
      have HR:Hid (cZ l ⟨2,(X:Int),es⟩):=hB.2 ⟨hkn,.inr ⟨by decide,he0,fun _=>hk⟩⟩
      clear hB hkn hk he0 hit
      go_enter Tryz.func123,Tryz.ntmps123
      go_upto_region 1 with fail
      generalize (w.alloc (.cells (av l (some ⟨bs,os,none⟩) LA OA sn sc ln lc on oc) 41)).alloc (.cells #[.int .i64 2,.int .i64 (X:Int),.slice EA en ec] 89)=W9 at *
      have x0:=aA (k:=0) HXB.out rfl
      have x1:=aA (k:=1) HXB.out rfl
      have x2:=aA (k:=2) HXB.out rfl
      have x3:=aA (k:=3) HXB.out rfl
      have y0:=aA (k:=0) HYB.out rfl
      have y1:=aA (k:=1) HYB.out rfl
      have y2:=aA (k:=2) HYB.out rfl
      have lx:=aC HXB.out
      have ly:=aC HYB.out
      go_wp2_with fail
      refine (eF l (some ⟨bs,os,none⟩) LA OA sn sc ln lc on oc 2 (X:Int) es EA en ec _ (HN.out.below HB0.out) HF.out (HE.out.below HB0.out) hen).mono ?_
      rw [HKN.out]
      rintro _ w1 ⟨rfl,b1⟩
      have HB1:=Hd (aB HB0.out b1)
      clear x0 x1 x2 x3 y0 y1 y2 lx ly
      have x0:=aA (k:=0) (aD b1 HXB.out) rfl
      have x1:=aA (k:=1) (aD b1 HXB.out) rfl
      have x2:=aA (k:=2) (aD b1 HXB.out) rfl
      have x3:=aA (k:=3) (aD b1 HXB.out) rfl
      have y0:=aA (k:=0) (aD b1 HYB.out) rfl
      have y1:=aA (k:=1) (aD b1 HYB.out) rfl
      have y2:=aA (k:=2) (aD b1 HYB.out) rfl
      have lx:=aC (aD b1 HXB.out)
      have ly:=aC (aD b1 HYB.out)
      have HX1:=Hd (aD b1 HXB.out)
      have HY1:=Hd (aD b1 HYB.out)
      have lbs:=aL HB1.out hbs
      rw [←HB1.out.cell (p:=⟨bs,os+X * 3,none⟩) hbs] at c0
      clear b1
      go_wp2_with fail
      go_ret
      exact ⟨cO HR.out,HB1.out⟩
     ·have dk:(s.kind==1)=false:=by simp [hk]
      have HR:Hid (¬cZ l ⟨2,(X:Int),es⟩):=fun h=>by
       rcases (hB.1 h).2 with h|h
       ·exact absurd h.1 (by decide)
       ·exact hk (h.2.2 rfl)
      clear hB hkn hk he0 hit
      go_enter Tryz.func123,Tryz.ntmps123
      go_upto_region 1 with fail
      generalize (w.alloc (.cells (av l (some ⟨bs,os,none⟩) LA OA sn sc ln lc on oc) 41)).alloc (.cells #[.int .i64 2,.int .i64 (X:Int),.slice EA en ec] 89)=W9 at *
      have x0:=aA (k:=0) HXB.out rfl
      have x1:=aA (k:=1) HXB.out rfl
      have x2:=aA (k:=2) HXB.out rfl
      have x3:=aA (k:=3) HXB.out rfl
      have y0:=aA (k:=0) HYB.out rfl
      have y1:=aA (k:=1) HYB.out rfl
      have y2:=aA (k:=2) HYB.out rfl
      have lx:=aC HXB.out
      have ly:=aC HYB.out
      go_wp2_with fail
      refine (eF l (some ⟨bs,os,none⟩) LA OA sn sc ln lc on oc 2 (X:Int) es EA en ec _ (HN.out.below HB0.out) HF.out (HE.out.below HB0.out) hen).mono ?_
      rw [HKN.out]
      rintro _ w1 ⟨rfl,b1⟩
      have HB1:=Hd (aB HB0.out b1)
      clear x0 x1 x2 x3 y0 y1 y2 lx ly
      have x0:=aA (k:=0) (aD b1 HXB.out) rfl
      have x1:=aA (k:=1) (aD b1 HXB.out) rfl
      have x2:=aA (k:=2) (aD b1 HXB.out) rfl
      have x3:=aA (k:=3) (aD b1 HXB.out) rfl
      have y0:=aA (k:=0) (aD b1 HYB.out) rfl
      have y1:=aA (k:=1) (aD b1 HYB.out) rfl
      have y2:=aA (k:=2) (aD b1 HYB.out) rfl
      have lx:=aC (aD b1 HXB.out)
      have ly:=aC (aD b1 HYB.out)
      have HX1:=Hd (aD b1 HXB.out)
      have HY1:=Hd (aD b1 HYB.out)
      have lbs:=aL HB1.out hbs
      rw [←HB1.out.cell (p:=⟨bs,os+X * 3,none⟩) hbs] at c0
      clear b1
      go_wp2_with fail
      go_ret
      exact ⟨aP HR.out,HB1.out⟩
    ·have d2:(kd != 2)=true:=by simp [k2]
     have HR:Hid (cZ l ⟨kd,it,es⟩):=hB.2 ⟨hkn,.inr ⟨k3,he0,fun h=>absurd h k2⟩⟩
     clear hB hkn k2 he0 k3
     go_enter Tryz.func123,Tryz.ntmps123
     go_upto_region 1 with fail
     generalize (w.alloc (.cells (av l SA LA OA sn sc ln lc on oc) 41)).alloc (.cells #[.int .i64 kd,.int .i64 it,.slice EA en ec] 89)=W9 at *
     have x0:=aA (k:=0) HXB.out rfl
     have x1:=aA (k:=1) HXB.out rfl
     have x2:=aA (k:=2) HXB.out rfl
     have x3:=aA (k:=3) HXB.out rfl
     have y0:=aA (k:=0) HYB.out rfl
     have y1:=aA (k:=1) HYB.out rfl
     have y2:=aA (k:=2) HYB.out rfl
     have lx:=aC HXB.out
     have ly:=aC HYB.out
     go_wp2_with fail
     refine (eF l SA LA OA sn sc ln lc on oc kd it es EA en ec _ (HN.out.below HB0.out) HF.out (HE.out.below HB0.out) hen).mono ?_
     rw [HKN.out]
     rintro _ w1 ⟨rfl,b1⟩
     have HB1:=Hd (aB HB0.out b1)
     clear x0 x1 x2 x3 y0 y1 y2 lx ly
     have x0:=aA (k:=0) (aD b1 HXB.out) rfl
     have x1:=aA (k:=1) (aD b1 HXB.out) rfl
     have x2:=aA (k:=2) (aD b1 HXB.out) rfl
     have x3:=aA (k:=3) (aD b1 HXB.out) rfl
     have y0:=aA (k:=0) (aD b1 HYB.out) rfl
     have y1:=aA (k:=1) (aD b1 HYB.out) rfl
     have y2:=aA (k:=2) (aD b1 HYB.out) rfl
     have lx:=aC (aD b1 HXB.out)
     have ly:=aC (aD b1 HYB.out)
     have HX1:=Hd (aD b1 HXB.out)
     have HY1:=Hd (aD b1 HYB.out)
     clear b1
     go_wp2_with fail
     go_ret
     exact ⟨cO HR.out,HB1.out⟩
   ·have de:((en:Int)==0)=false:=by simp;omega
    have HR:Hid (¬cZ l ⟨kd,it,es⟩):=fun h=>by
     rcases (hB.1 h).2 with h|h
     ·exact k3 h.1
     ·exact he0 h.2.1
    clear hB hkn he0 k3
    go_enter Tryz.func123,Tryz.ntmps123
    go_upto_region 1 with fail
    generalize (w.alloc (.cells (av l SA LA OA sn sc ln lc on oc) 41)).alloc (.cells #[.int .i64 kd,.int .i64 it,.slice EA en ec] 89)=W9 at *
    have x0:=aA (k:=0) HXB.out rfl
    have x1:=aA (k:=1) HXB.out rfl
    have x2:=aA (k:=2) HXB.out rfl
    have x3:=aA (k:=3) HXB.out rfl
    have y0:=aA (k:=0) HYB.out rfl
    have y1:=aA (k:=1) HYB.out rfl
    have y2:=aA (k:=2) HYB.out rfl
    have lx:=aC HXB.out
    have ly:=aC HYB.out
    go_wp2_with fail
    refine (eF l SA LA OA sn sc ln lc on oc kd it es EA en ec _ (HN.out.below HB0.out) HF.out (HE.out.below HB0.out) hen).mono ?_
    rw [HKN.out]
    rintro _ w1 ⟨rfl,b1⟩
    have HB1:=Hd (aB HB0.out b1)
    clear x0 x1 x2 x3 y0 y1 y2 lx ly
    have x0:=aA (k:=0) (aD b1 HXB.out) rfl
    have x1:=aA (k:=1) (aD b1 HXB.out) rfl
    have x2:=aA (k:=2) (aD b1 HXB.out) rfl
    have x3:=aA (k:=3) (aD b1 HXB.out) rfl
    have y0:=aA (k:=0) (aD b1 HYB.out) rfl
    have y1:=aA (k:=1) (aD b1 HYB.out) rfl
    have y2:=aA (k:=2) (aD b1 HYB.out) rfl
    have lx:=aC (aD b1 HXB.out)
    have ly:=aC (aD b1 HYB.out)
    have HX1:=Hd (aD b1 HXB.out)
    have HY1:=Hd (aD b1 HYB.out)
    clear b1
    go_wp2_with fail
    go_ret
    exact ⟨aP HR.out,HB1.out⟩
 ·have HKN:Hid (tb (dD l ⟨kd,it,es⟩)=false):=bF hkn
  have HR:Hid (¬cZ l ⟨kd,it,es⟩):=fun h=>hkn (hB.1 h).1
  clear hB hkn
  go_enter Tryz.func123,Tryz.ntmps123
  go_upto_region 1 with fail
  generalize (w.alloc (.cells (av l SA LA OA sn sc ln lc on oc) 41)).alloc (.cells #[.int .i64 kd,.int .i64 it,.slice EA en ec] 89)=W9 at *
  have x0:=aA (k:=0) HXB.out rfl
  have x1:=aA (k:=1) HXB.out rfl
  have x2:=aA (k:=2) HXB.out rfl
  have x3:=aA (k:=3) HXB.out rfl
  have y0:=aA (k:=0) HYB.out rfl
  have y1:=aA (k:=1) HYB.out rfl
  have y2:=aA (k:=2) HYB.out rfl
  have lx:=aC HXB.out
  have ly:=aC HYB.out
  go_wp2_with fail
  refine (eF l SA LA OA sn sc ln lc on oc kd it es EA en ec _ (HN.out.below HB0.out) HF.out (HE.out.below HB0.out) hen).mono ?_
  rw [HKN.out]
  rintro _ w1 ⟨rfl,b1⟩
  have HB1:=Hd (aB HB0.out b1)
  clear x0 x1 x2 x3 y0 y1 y2 lx ly
  have HX1:=Hd (aD b1 HXB.out)
  have HY1:=Hd (aD b1 HYB.out)
  clear b1
  go_wp2_with fail
  go_ret
  exact ⟨aP HR.out,HB1.out⟩
theorem aM.join {W w w':World} {ps qs:List Pc} (S:aM W w ps) (T:aM w w' qs):aM W w' (ps++qs):=by
 obtain ⟨h1,F,h2,h3,h4⟩:=S
 obtain ⟨k1,G,k2,k3,k4⟩:=T
 have hl:=h2.lt
 refine ⟨aB h1 k1,F++G,(h2.keep k1.size fun k hk=>k1.block k (hl k hk)).append k2,?_,fun k hk=>?_⟩
 ·rw [List.nodup_append]
  exact ⟨h3,k3,fun a ha b hb e=>by have:=hl a ha;have:=k4 b hb;omega⟩
 ·rcases List.mem_append.1 hk with hk|hk
  ·exact h4 k hk
  ·have:=k4 k hk;have:=h1.size;omega
theorem dU {W wr:World} {ps:List Pc} (S:aM W wr ps) (i:Nat) {C g:Nat} {xs:List Int} {X:Nat} (hi:ps[i]?=some (.cel (aJ (aG C xs)) (.slice (some ⟨g,0,none⟩) C C))) (hX:X<C) :
  wr.cell? ⟨g,X,none⟩=some (.int .i64 ((cnt xs (X:Int):Nat):Int))/\wr.frozen? ⟨g,X,none⟩=false/\g<wr.heap.size/\aM W (wr.setCell ⟨g,X,none⟩ (.int .i64 (((cnt xs (X:Int):Nat):Int)+1))) (ps.set i (.cel (aJ (aG C (xs++[(X:Int)]))) (.slice (some ⟨g,0,none⟩) C C))):=by
 obtain ⟨g',hg,_,h2,h3,h4,h5⟩:=S.setI i hi hX
 injection hg with hg
 injection hg with hg
 subst hg
 rw [iL xs hX] at h3
 refine ⟨h3,h4,h2,?_⟩
 have h6:=h5 (((cnt xs (X:Int):Nat):Int)+1)
 have h7:=pE (m:=C) xs (x:=(X:Int)) (by omega)
 rw [Int.toNat_natCast] at h7
 rw [h7] at h6
 exact h6
def vg (W:World) (n m:Nat) (p u:Value) (w':World):Prop:=∃A B,p = .slice (some ⟨A,0,none⟩) n n/\u = .slice (some ⟨B,0,none⟩) m m/\aM W w' [.cel (aJ (aG n [])) p,.cel (aJ (aG m [])) u]
theorem vg.drew {W w':World} {n m:Nat} {p u:Value} (h:vg W n m p u w'):vg W n m p u w'.drew:=by
 obtain ⟨A,B,h1,h2,h3⟩:=h
 exact ⟨A,B,h1,h2,h3.drew⟩
theorem vk {W w:World} {ps:List Pc} (S:aM W w ps) (n:Nat) (hn:n<=1048576):aM W (w.alloc (.cells (arr (List.replicate n 0)) 3)) (ps++[.cel (aJ (aG n [])) (.slice (some ⟨w.heap.size,0,none⟩) n n)]):=by
 rw [mJ]
 exact S.pushOwn (aF (Below.refl _ _) _) (Own.arr (aK _ _) (Nat.le_refl _) (by unfold maxLen;omega) (by simp))
theorem zV {W w:World} {ps:List Pc} (S:aM W w ps) (n:Nat) (hn:n<=1048576):aM W (w.alloc (.cells (arr (List.replicate n 0)) 3)) (.cel (aJ (aG n [])) (.slice (some ⟨w.heap.size,0,none⟩) n n) :: ps):=by
 rw [mJ]
 exact S.consOwn (aF (Below.refl _ _) _) (Own.arr (aK _ _) (Nat.le_refl _) (by unfold maxLen;omega) (by simp))
theorem wT (W:World) (n m:Nat) (hn:n<=1048576) (hm:m<=1048576):vg W n m (.slice (some ⟨W.heap.size,0,none⟩) n n) (.slice (some ⟨W.heap.size+1,0,none⟩) m m) ((W.alloc (.cells (arr (List.replicate n 0)) 3)).alloc (.cells (arr (List.replicate m 0)) 3)):=by
 have h:=vk (vk (aM.refl W) n hn) m hm
 rw [World.size_alloc] at h
 exact ⟨_,_,rfl,rfl,h⟩
theorem wU (W:World) (n m:Nat) (hn:n<=1048576) (hm:m<=1048576):vg W n m (.slice (some ⟨W.heap.size+1,0,none⟩) n n) (.slice (some ⟨W.heap.size,0,none⟩) m m) ((W.alloc (.cells (arr (List.replicate m 0)) 3)).alloc (.cells (arr (List.replicate n 0)) 3)):=by
 have h:=zV (vk (aM.refl W) m hm) n hn
 rw [World.size_alloc] at h
 exact ⟨_,_,rfl,rfl,h⟩
theorem pI (w:World) (o:Obj):w.drew.alloc o=(w.alloc o).drew:=rfl
theorem kP {bs:List Blk} {k:Nat} (h:k<bs.length):bs.take (k+1)=bs.take k++[bs[k]?.getD Blk.zero]:=bJ h
theorem dW (kd:Int) (bs:List Blk):(ak kd bs).length<=bs.length:=by
 have h:=jo (f:=fun b:Blk=>if b.kind=kd then [b.item] else []) (m:=1) (xs:=bs) fun b _=>by split <;> simp
 unfold ak
 omega
theorem jY (es:List LeT):(bN es).length<=es.length:=by
 have h:=jo (f:=fun e:LeT=>if 0<=e.ff then [e.ff] else []) (m:=1) (xs:=es) fun b _=>by split <;> simp
 unfold bN
 omega
theorem iU (es:List LeT):(ag es).length<=es.length:=by
 have h:=jo (f:=fun e:LeT=>if 0<=e.lut then [e.lut] else []) (m:=1) (xs:=es) fun b _=>by split <;> simp
 unfold ag
 omega
theorem lV {l:ai} {b:Blk} (h:cZ l b):b.les.length<=2:=by
 rcases h.2 with h|h
 ·exact h.2.2.1.2
 ·rw [h.2.1];simp
theorem rJ {l:ai} {bs:List Blk} (h:∀b∈bs,cZ l b):(dH bs).length<=bs.length * 3:=by
 refine jo (m:=3) fun b hb=>?_
 have h1:=jY b.les
 have h2:=lV (h b hb)
 unfold bN at h1
 rw [List.length_append]
 have h3:(if b.kind=2 then [b.item] else []).length<=1:=by split <;> simp
 omega
theorem rM {l:ai} {bs:List Blk} (h:∀b∈bs,cZ l b):(dX bs).length<=bs.length * 2:=by
 refine jo (m:=2) fun b hb=>?_
 have h1:=iU b.les
 have h2:=lV (h b hb)
 unfold ag at h1
 omega
theorem qL {l:ai} {b:Blk} (h:cZ l b):∀e∈b.les,dM l e:=by
 rcases h.2 with h2|h2
 ·obtain ⟨kd,it,es⟩:=b
  have h3:kd=3:=h2.1
  subst h3
  exact jb.1 h.1
 ·rw [h2.2.1];simp
theorem ky {W wr:World} {ps:List Pc} (S:aM W wr ps) (i:Nat) {xs:List Int} {g n c:Nat} (hi:ps[i]?=some (.cel (aJ xs) (.slice (some ⟨g,0,none⟩) n c))):g<wr.heap.size/\W.heap.size<=g:=by
 obtain ⟨F,k1,_,k3,_⟩:=S.part i hi
 have h:=(gP.1 k1).2
 have hg:g∈F:=by rw [h];simp [blk]
 exact ⟨(k3 g hg).2,(k3 g hg).1⟩
theorem sP {W wr:World} {ps:List Pc} (S:aM W wr ps) (i j:Nat) (hij:i≠j) {xs ys:List Int} {g g' n c n' c':Nat} (hi:ps[i]?=some (.cel (aJ xs) (.slice (some ⟨g,0,none⟩) n c))) (hj:ps[j]?=some (.cel (aJ ys) (.slice (some ⟨g',0,none⟩) n' c'))):g≠g':=by
 obtain ⟨Fi,Fj,k1,k2,_,_,k5,_⟩:=S.two i j hij hi hj
 have h1:=(gP.1 k1).2
 have h2:=(gP.1 k2).2
 rintro rfl
 exact k5 g (by rw [h2];simp [blk]) (by rw [h1];simp [blk])
end Go.Proofs.YtofihjoanjkdmaaGreat
