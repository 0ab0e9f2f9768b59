/- Logic elements in the reference: valid ones, their inputs and outputs (printed by mkels.py). -/
import Derived.Test.YtofihjoanjkdmaaGreatLayF5
import Derived.Test.YtofihjoanjkdmaaGreatLayUS
import Derived.Test.YtofihjoanjkdmaaGreatRtS3
namespace Go.Proofs.YtofihjoanjkdmaaGreat
set_option maxHeartbeats 4000000
set_option maxRecDepth 100000
open Go.RowKit
theorem qZ (l:ai) (SA LA OA:Option Addr) (sn sc ln lc on oc:Nat) (a b:Int) (w:World) (h:fI w l SA LA OA sn sc ln lc on oc) (hf:bB l) (he:dM l ⟨a,b⟩) :
  Calls Tryz.prog 204 #[iD l SA LA OA sn sc ln lc on oc,.agg #[.int .i64 a,.int .i64 b]] w fun e w'=>e = .returned (.int .i64 (dP l ⟨a,b⟩))/\Below w.heap.size w w':=by
 have hLO:dP l ⟨a,b⟩=if 0<=b then 1+l.inputs+b else (l.first:Int)+a:=rfl
 obtain ⟨e1,e2,e3,_⟩:=kR.1 he
 have hsl0:=h.lens.1
 have hll0:=h.lens.2.1
 rw [hsl0] at e2
 rw [hll0] at e1
 clear hsl0 hll0
 have HB0:=Hd (aF (aF (Below.refl w.heap.size w) (.cells (av l SA LA OA sn sc ln lc on oc) 41)) (.cells #[.int .i64 a,.int .i64 b] 94))
 have hx:=bg (.cells #[.int .i64 a,.int .i64 b] 94) (aK w (.cells (av l SA LA OA sn sc ln lc on oc) 41))
 have hy:=aK (w.alloc (.cells (av l SA LA OA sn sc ln lc on oc) 41)) (.cells #[.int .i64 a,.int .i64 b] 94)
 simp only [World.size_alloc] at hy
 have HXB:=Hd hx
 have HYB:=Hd hy
 clear hx hy
 obtain ⟨hsl,hll,hol⟩:=h.lens
 have hsn:=hf.nseq
 have hln:=hf.nlut
 have hon:=hf.nout
 have hin:=hf.inp
 rw [hsl] at hsn
 rw [hll] at hln
 rw [hol] at hon
 have HN:=Hd h
 have HF:=Hd hf
 have HSL:=Hd hsl
 have HLL:=Hd hll
 have HOL:=Hd hol
 have HFI:Hid ((l.first:Int)=1+l.inputs+(sn:Int)):=by show _=_;unfold ai.first;omega
 have HCO:Hid ((l.count:Int)=1+l.inputs+(sn:Int)+(ln:Int)):=by show _=_;unfold ai.count ai.first;omega
 clear h hf hsl hll hol
 by_cases h0:0<=b
 ·have d0:decide (b≥0)=true:=decide_eq_true h0
  rw [if_pos h0] at hLO
  have HLO:=Hd hLO
  clear hLO e1 e3
  go_enter Tryz.func204,Tryz.ntmps204
  go_upto_region 1 with fail
  generalize (w.alloc (.cells (av l SA LA OA sn sc ln lc on oc) 41)).alloc (.cells #[.int .i64 a,.int .i64 b] 94)=W9 at *
  have x0:=aA (k:=0) HXB.out rfl
  have y1:=aA (k:=1) HYB.out rfl
  have lx:=aC HXB.out
  have ly:=aC HYB.out
  go_wp2_with fail
  go_ret
  exact ⟨aQ HLO.out.symm,HB0.out⟩
 ·have d0:decide (b≥0)=false:=decide_eq_false h0
  rw [if_neg h0,HFI.out] at hLO
  have HLO:=Hd hLO
  have ha:0<=a:=by omega
  clear hLO e2 e3 h0
  go_enter Tryz.func204,Tryz.ntmps204
  go_upto_region 1 with fail
  generalize (w.alloc (.cells (av l SA LA OA sn sc ln lc on oc) 41)).alloc (.cells #[.int .i64 a,.int .i64 b] 94)=W9 at *
  have x0:=aA (k:=0) HXB.out rfl
  have x1:=aA (k:=1) HXB.out rfl
  have x2:=aA (k:=2) HXB.out rfl
  have x3:=aA (k:=3) HXB.out rfl
  have y0:=aA (k:=0) HYB.out rfl
  have y1:=aA (k:=1) HYB.out rfl
  have lx:=aC HXB.out
  have ly:=aC HYB.out
  go_upto_region 3 with fail
  have HFL:=Hd (fun (x:Sub W9)=>kg l.inputs SA LA OA sn sc ln lc on oc x.v hin.1 (by omega) (by omega))
  have hsub:=aZ W9
  have hsc:=aR W9
  refine aI W9 (by kernel_rfl) (by kernel_rfl) (Below.refl _ _) ?_
  repeat (go_big_quiet_step ((first
   | (go_at_call 156;with_reducible exact aO (HFL.out _)))))
  refine wpQuiet_nil ?_
  rintro _ ⟨⟨w5,hD⟩,rfl⟩
  clear hsub hsc
  have HD:=Hd (aB HB0.out hD)
  clear x0 x1 x2 x3 y0 y1 lx ly
  clear hD
  go_wp2_with fail
  go_ret
  exact ⟨aQ HLO.out.symm,HD.out⟩
theorem xk (l:ai) (SA LA OA:Option Addr) (sn sc ln lc on oc:Nat) (a b:Int) (w:World) (h:fI w l SA LA OA sn sc ln lc on oc) (hf:bB l) :
  Calls Tryz.prog 254 #[iD l SA LA OA sn sc ln lc on oc,.agg #[.int .i64 a,.int .i64 b]] w fun e w'=>e = .returned (.bool (tb (dM l ⟨a,b⟩)))/\Below w.heap.size w w':=by
 have hE:=kR (l:=l) (a:=a) (b:=b)
 have hsl0:=h.lens.1
 have hll0:=h.lens.2.1
 rw [hsl0,hll0] at hE
 clear hsl0 hll0
 have HB0:=Hd (aF (aF (Below.refl w.heap.size w) (.cells (av l SA LA OA sn sc ln lc on oc) 41)) (.cells #[.int .i64 a,.int .i64 b] 94))
 have hx:=bg (.cells #[.int .i64 a,.int .i64 b] 94) (aK w (.cells (av l SA LA OA sn sc ln lc on oc) 41))
 have hy:=aK (w.alloc (.cells (av l SA LA OA sn sc ln lc on oc) 41)) (.cells #[.int .i64 a,.int .i64 b] 94)
 simp only [World.size_alloc] at hy
 have HXB:=Hd hx
 have HYB:=Hd hy
 clear hx hy
 obtain ⟨hsl,hll,hol⟩:=h.lens
 have hsn:=hf.nseq
 have hln:=hf.nlut
 have hon:=hf.nout
 have hin:=hf.inp
 rw [hsl] at hsn
 rw [hll] at hln
 rw [hol] at hon
 have HN:=Hd h
 have HF:=Hd hf
 have HSL:=Hd hsl
 have HLL:=Hd hll
 have HOL:=Hd hol
 have HFI:Hid ((l.first:Int)=1+l.inputs+(sn:Int)):=by show _=_;unfold ai.first;omega
 have HCO:Hid ((l.count:Int)=1+l.inputs+(sn:Int)+(ln:Int)):=by show _=_;unfold ai.count ai.first;omega
 clear h hf hsl hll hol
 cases hr1:inR a (-1) ((ln:Int) - 1) with
 | false =>
  have HR:Hid (¬dM l ⟨a,b⟩):=fun h=>by
   have h2:=(hE.1 h).1
   rw [aV.2 ⟨h2.1,by omega⟩] at hr1
   cases hr1
  have H1:=Hd hr1
  clear hr1 hE
  go_enter Tryz.func254,Tryz.ntmps254
  go_upto_region 1 with fail
  generalize (w.alloc (.cells (av l SA LA OA sn sc ln lc on oc) 41)).alloc (.cells #[.int .i64 a,.int .i64 b] 94)=W9 at *
  have x2:=aA (k:=2) HXB.out rfl
  have y0:=aA (k:=0) HYB.out rfl
  have lx:=aC HXB.out
  have ly:=aC HYB.out
  go_wp2_with fail
  refine (af a (-1) ((ln:Int) - 1) _).mono ?_
  rw [H1.out]
  rintro _ w' ⟨rfl,rfl⟩
  go_wp2_with fail
  go_ret
  exact ⟨aP HR.out,HB0.out⟩
 | true =>
  have ha:=aV.1 hr1
  have H1:=Hd hr1
  clear hr1
  cases hr2:inR b (-1) ((sn:Int) - 1) with
  | false =>
   have HR:Hid (¬dM l ⟨a,b⟩):=fun h=>by
    have h2:=(hE.1 h).2.1
    rw [aV.2 ⟨h2.1,by omega⟩] at hr2
    cases hr2
   have H2:=Hd hr2
   clear hr2 hE
   go_enter Tryz.func254,Tryz.ntmps254
   go_upto_region 1 with fail
   generalize (w.alloc (.cells (av l SA LA OA sn sc ln lc on oc) 41)).alloc (.cells #[.int .i64 a,.int .i64 b] 94)=W9 at *
   have x1:=aA (k:=1) HXB.out rfl
   have x2:=aA (k:=2) HXB.out rfl
   have y0:=aA (k:=0) HYB.out rfl
   have y1:=aA (k:=1) HYB.out rfl
   have lx:=aC HXB.out
   have ly:=aC HYB.out
   go_wp2_with fail
   refine (af a (-1) ((ln:Int) - 1) _).mono ?_
   rw [H1.out]
   rintro _ w' ⟨rfl,rfl⟩
   go_wp2_with fail
   refine (af b (-1) ((sn:Int) - 1) _).mono ?_
   rw [H2.out]
   rintro _ w' ⟨rfl,rfl⟩
   go_wp2_with fail
   go_ret
   exact ⟨aP HR.out,HB0.out⟩
  | true =>
   have hb:=aV.1 hr2
   have H2:=Hd hr2
   clear hr2
   by_cases hn:a=-1/\b=-1
   ·have HR:Hid (¬dM l ⟨a,b⟩):=fun h=>(hE.1 h).2.2.1 hn
    obtain ⟨rfl,rfl⟩:=hn
    clear hE
    go_enter Tryz.func254,Tryz.ntmps254
    go_upto_region 1 with fail
    generalize (w.alloc (.cells (av l SA LA OA sn sc ln lc on oc) 41)).alloc (.cells #[.int .i64 (-1),.int .i64 (-1)] 94)=W9 at *
    have x1:=aA (k:=1) HXB.out rfl
    have x2:=aA (k:=2) HXB.out rfl
    have y0:=aA (k:=0) HYB.out rfl
    have y1:=aA (k:=1) HYB.out rfl
    have lx:=aC HXB.out
    have ly:=aC HYB.out
    go_wp2_with fail
    refine (af (-1) (-1) ((ln:Int) - 1) _).mono ?_
    rw [H1.out]
    rintro _ w' ⟨rfl,rfl⟩
    go_wp2_with fail
    refine (af (-1) (-1) ((sn:Int) - 1) _).mono ?_
    rw [H2.out]
    rintro _ w' ⟨rfl,rfl⟩
    go_wp2_with fail
    go_ret
    exact ⟨aP HR.out,HB0.out⟩
   ·have hnb:True:=trivial
    have dab:decide (a<0)=false∨decide (a<0)=true/\decide (b<0)=false:=by simp;omega
    by_cases hb0:0<=b
    ·have d1:decide (b≥0)=true:=decide_eq_true hb0
     have db:decide (b<0)=false:=by simp;omega
     obtain ⟨F,rfl⟩:∃F:Nat,b=(F:Int):=⟨b.toNat,by omega⟩
     rw [Int.toNat_natCast] at hE
     have hF:F<sn:=by omega
     obtain ⟨bs,os,IA,im,ic,rfl,hbs,c0,c1,c2,r2⟩:=HN.out.sq.sq' (k:=F) (by rw [HSL.out];exact hF)
     have him:(l.seqs[F]?.getD Sq.zero).ins.length=im:=r2.ints.1
     have hi1:=(HF.out.seqs F (by rw [HSL.out];exact hF)).1
     have lbs:=aL HB0.out hbs
     rw [←HB0.out.cell (p:=⟨bs,os+F * 3,none⟩) hbs] at c0
     rw [←HB0.out.cell (p:=⟨bs,os+F * 3+2,none⟩) hbs] at c2
     have HR2:=Hd r2
     clear c1 r2
     generalize l.seqs[F]?.getD Sq.zero=s at *
     by_cases hk:s.kind=0
     ·have dk:(s.kind==0)=true:=by simp [hk]
      have dk':(s.kind != 0)=false:=by simp [hk]
      by_cases ha0:0<=a
      ·have d2:decide (a<0)=false:=decide_eq_false (by omega)
       have da:decide (a<0)=false:=by simp;omega
       obtain ⟨A,rfl⟩:∃A:Nat,a=(A:Int):=⟨a.toNat,by omega⟩
       have hA:A<ln:=by omega
       have him1:0<im:=by rcases hi1 with h|h <;> omega
       obtain ⟨K,hK⟩:∃K:Nat,1+l.inputs+(sn:Int)+(A:Int)=(K:Int):=⟨(1+l.inputs+(sn:Int)+(A:Int)).toNat,by omega⟩
       have hKC:K<l.count:=by have:=HCO.out;omega
       have hUN:vQ l ((l.first:Int)+(A:Int))=cnt (jS l) (K:Int):=by rw [uD,HFI.out,hK]
       have hFK:(l.first:Int)+(A:Int)=(K:Int):=by rw [HFI.out,hK]
       rw [hUN,hFK] at hE
       have hCI:l.count<=1048576:=by have:=HCO.out;omega
       have HK:=Hd hK
       obtain ⟨bi,oi,rfl,hbi,hci⟩:=HR2.out.ints.2 him1
       have ci:=hci 0 him1
       have lbi:=aL HB0.out hbi
       rw [←HB0.out.cell (p:=⟨bi,oi+0,none⟩) hbi,Nat.add_zero] at ci
       clear hci hi1 hnb dab hUN hFK hK
       generalize s.ins[0]?.getD 0=y at *
       have HU:=Hd (fun (v:World) (hv:Below w.heap.size w v)=>uQ l (some ⟨bs,os,none⟩) LA OA sn sc ln lc on oc v (HN.out.below hv) HF.out)
       obtain ⟨C,hC⟩:∃C,l.count=C:=⟨_,rfl⟩
       rw [hC] at hKC hCI HU
       have HC:=Hd hC
       clear hC
       by_cases hy:y=(K:Int)
       ·by_cases hq:cnt (jS l) (K:Int)=1
        ·have HR:Hid (dM l ⟨(A:Int),(F:Int)⟩):=hE.2 ⟨⟨by omega,by omega⟩,⟨by omega,by omega⟩,by omega,fun _=>hk,fun _ _=>⟨hy,hq⟩⟩
         have HQ:=Hd hq
         subst hy
         clear hE hq hk
         go_enter Tryz.func254,Tryz.ntmps254
         go_upto_region 1 with fail
         generalize (w.alloc (.cells (av l (some ⟨bs,os,none⟩) LA OA sn sc ln lc on oc) 41)).alloc (.cells #[.int .i64 (A:Int),.int .i64 (F:Int)] 94)=W9 at *
         have x0:=aA (k:=0) HXB.out rfl
         have x1:=aA (k:=1) HXB.out rfl
         have x2:=aA (k:=2) HXB.out rfl
         have x3:=aA (k:=3) HXB.out rfl
         have y0:=aA (k:=0) HYB.out rfl
         have y1:=aA (k:=1) HYB.out rfl
         have lx:=aC HXB.out
         have ly:=aC HYB.out
         go_wp2_with fail
         refine (af (A:Int) (-1) ((ln:Int) - 1) _).mono ?_
         rw [H1.out]
         rintro _ w' ⟨rfl,rfl⟩
         go_wp2_with fail
         refine (af (F:Int) (-1) ((sn:Int) - 1) _).mono ?_
         rw [H2.out]
         rintro _ w' ⟨rfl,rfl⟩
         go_upto_region 7 with fail
         have HFL:=Hd (fun (x:Sub W9)=>kg l.inputs (some ⟨bs,os,none⟩) LA OA sn sc ln lc on oc x.v hin.1 (by omega) (by omega))
         have hsub:=aZ W9
         have hsc:=aR W9
         refine aI W9 (by kernel_rfl) (by kernel_rfl) (Below.refl _ _) ?_
         repeat (go_big_quiet_step ((first
          | (go_at_call 156;with_reducible exact aO (HFL.out _)))))
         refine wpQuiet_nil ?_
         rintro _ ⟨⟨w5,hD⟩,rfl⟩
         clear hsub hsc
         rw [HK.out]
         have HD:=Hd (aB HB0.out hD)
         have HX5:=Hd (aD hD HXB.out)
         have HY5:=Hd (aD hD HYB.out)
         have lbs5:=aL hD lbs
         have lbi5:=aL hD lbi
         rw [←hD.cell (p:=⟨bs,os+F * 3+2,none⟩) lbs] at c2
         rw [←hD.cell (p:=⟨bi,oi,none⟩) lbi] at ci
         clear x0 x1 x2 x3 y0 y1 lx ly
         clear hD c0 lbs lbi
         have x0:=aA (k:=0) HX5.out rfl
         have x1:=aA (k:=1) HX5.out rfl
         have x2:=aA (k:=2) HX5.out rfl
         have x3:=aA (k:=3) HX5.out rfl
         have y1:=aA (k:=1) HY5.out rfl
         have lx:=aC HX5.out
         have ly:=aC HY5.out
         go_wp2_with fail
         refine (HU.out _ HD.out).mono ?_
         rintro _ w6 ⟨UA,rfl,o6,b6⟩
         have HW6:=Hd (aB HD.out b6)
         obtain ⟨bu,ou,rfl,hbu,hcu⟩:=o6.ints.2 (by omega)
         have cu:=hcu K hKC
         rw [iL _ hKC,HQ.out] at cu
         clear o6 b6 hcu x0 x1 x2 x3 y1 lx ly c2 ci
         go_wp2_with fail
         go_ret
         exact ⟨cO HR.out,HW6.out⟩
        ·have HR:Hid (¬dM l ⟨(A:Int),(F:Int)⟩):=fun h=>hq ((hE.1 h).2.2.2.2 (by omega) (by omega)).2
         have hcb:=d9 (jS l) (K:Int)
         have HQ:=Hd hq
         subst hy
         clear hE hq hk
         go_enter Tryz.func254,Tryz.ntmps254
         go_upto_region 1 with fail
         generalize (w.alloc (.cells (av l (some ⟨bs,os,none⟩) LA OA sn sc ln lc on oc) 41)).alloc (.cells #[.int .i64 (A:Int),.int .i64 (F:Int)] 94)=W9 at *
         have x0:=aA (k:=0) HXB.out rfl
         have x1:=aA (k:=1) HXB.out rfl
         have x2:=aA (k:=2) HXB.out rfl
         have x3:=aA (k:=3) HXB.out rfl
         have y0:=aA (k:=0) HYB.out rfl
         have y1:=aA (k:=1) HYB.out rfl
         have lx:=aC HXB.out
         have ly:=aC HYB.out
         go_wp2_with fail
         refine (af (A:Int) (-1) ((ln:Int) - 1) _).mono ?_
         rw [H1.out]
         rintro _ w' ⟨rfl,rfl⟩
         go_wp2_with fail
         refine (af (F:Int) (-1) ((sn:Int) - 1) _).mono ?_
         rw [H2.out]
         rintro _ w' ⟨rfl,rfl⟩
         go_upto_region 7 with fail
         have HFL:=Hd (fun (x:Sub W9)=>kg l.inputs (some ⟨bs,os,none⟩) LA OA sn sc ln lc on oc x.v hin.1 (by omega) (by omega))
         have hsub:=aZ W9
         have hsc:=aR W9
         refine aI W9 (by kernel_rfl) (by kernel_rfl) (Below.refl _ _) ?_
         repeat (go_big_quiet_step ((first
          | (go_at_call 156;with_reducible exact aO (HFL.out _)))))
         refine wpQuiet_nil ?_
         rintro _ ⟨⟨w5,hD⟩,rfl⟩
         clear hsub hsc
         rw [HK.out]
         have HD:=Hd (aB HB0.out hD)
         have HX5:=Hd (aD hD HXB.out)
         have HY5:=Hd (aD hD HYB.out)
         have lbs5:=aL hD lbs
         have lbi5:=aL hD lbi
         rw [←hD.cell (p:=⟨bs,os+F * 3+2,none⟩) lbs] at c2
         rw [←hD.cell (p:=⟨bi,oi,none⟩) lbi] at ci
         clear x0 x1 x2 x3 y0 y1 lx ly
         clear hD c0 lbs lbi
         have x0:=aA (k:=0) HX5.out rfl
         have x1:=aA (k:=1) HX5.out rfl
         have x2:=aA (k:=2) HX5.out rfl
         have x3:=aA (k:=3) HX5.out rfl
         have y1:=aA (k:=1) HY5.out rfl
         have lx:=aC HX5.out
         have ly:=aC HY5.out
         go_wp2_with fail
         refine (HU.out _ HD.out).mono ?_
         rintro _ w6 ⟨UA,rfl,o6,b6⟩
         have HW6:=Hd (aB HD.out b6)
         obtain ⟨bu,ou,rfl,hbu,hcu⟩:=o6.ints.2 (by omega)
         have cu:=hcu K hKC
         rw [iL _ hKC] at cu
         clear o6 b6 hcu x0 x1 x2 x3 y1 lx ly c2 ci
         generalize cnt (jS l) (K:Int)=q at *
         have dq:(((q:Nat):Int)==1)=false:=by have:=HQ.out;simp;omega
         go_wp2_with fail
         go_ret
         exact ⟨aP HR.out,HW6.out⟩
       ·have HR:Hid (¬dM l ⟨(A:Int),(F:Int)⟩):=fun h=>hy ((hE.1 h).2.2.2.2 (by omega) (by omega)).1
        have dy:(y==(K:Int))=false:=by simp;exact hy
        clear hE hk hy
        go_enter Tryz.func254,Tryz.ntmps254
        go_upto_region 1 with fail
        generalize (w.alloc (.cells (av l (some ⟨bs,os,none⟩) LA OA sn sc ln lc on oc) 41)).alloc (.cells #[.int .i64 (A:Int),.int .i64 (F:Int)] 94)=W9 at *
        have x0:=aA (k:=0) HXB.out rfl
        have x1:=aA (k:=1) HXB.out rfl
        have x2:=aA (k:=2) HXB.out rfl
        have x3:=aA (k:=3) HXB.out rfl
        have y0:=aA (k:=0) HYB.out rfl
        have y1:=aA (k:=1) HYB.out rfl
        have lx:=aC HXB.out
        have ly:=aC HYB.out
        go_wp2_with fail
        refine (af (A:Int) (-1) ((ln:Int) - 1) _).mono ?_
        rw [H1.out]
        rintro _ w' ⟨rfl,rfl⟩
        go_wp2_with fail
        refine (af (F:Int) (-1) ((sn:Int) - 1) _).mono ?_
        rw [H2.out]
        rintro _ w' ⟨rfl,rfl⟩
        go_upto_region 7 with fail
        have HFL:=Hd (fun (x:Sub W9)=>kg l.inputs (some ⟨bs,os,none⟩) LA OA sn sc ln lc on oc x.v hin.1 (by omega) (by omega))
        have hsub:=aZ W9
        have hsc:=aR W9
        refine aI W9 (by kernel_rfl) (by kernel_rfl) (Below.refl _ _) ?_
        repeat (go_big_quiet_step ((first
         | (go_at_call 156;with_reducible exact aO (HFL.out _)))))
        refine wpQuiet_nil ?_
        rintro _ ⟨⟨w5,hD⟩,rfl⟩
        clear hsub hsc
        rw [HK.out]
        have HD:=Hd (aB HB0.out hD)
        have HX5:=Hd (aD hD HXB.out)
        have HY5:=Hd (aD hD HYB.out)
        have lbs5:=aL hD lbs
        have lbi5:=aL hD lbi
        rw [←hD.cell (p:=⟨bs,os+F * 3+2,none⟩) lbs] at c2
        rw [←hD.cell (p:=⟨bi,oi,none⟩) lbi] at ci
        clear x0 x1 x2 x3 y0 y1 lx ly
        clear hD c0 lbs lbi
        have x0:=aA (k:=0) HX5.out rfl
        have x1:=aA (k:=1) HX5.out rfl
        have x2:=aA (k:=2) HX5.out rfl
        have x3:=aA (k:=3) HX5.out rfl
        have y1:=aA (k:=1) HY5.out rfl
        have lx:=aC HX5.out
        have ly:=aC HY5.out
        go_wp2_with fail
        go_ret
        exact ⟨aP HR.out,HD.out⟩
      ·have HR:Hid (dM l ⟨a,(F:Int)⟩):=hE.2 ⟨⟨by omega,by omega⟩,⟨by omega,by omega⟩,hn,fun _=>hk,fun h=>absurd h ha0⟩
       have d2:decide (a<0)=true:=decide_eq_true (by omega)
       obtain rfl:a=-1:=by omega
       clear hE hk dab hnb hn ha0
       go_enter Tryz.func254,Tryz.ntmps254
       go_upto_region 1 with fail
       generalize (w.alloc (.cells (av l (some ⟨bs,os,none⟩) LA OA sn sc ln lc on oc) 41)).alloc (.cells #[.int .i64 (-1),.int .i64 (F:Int)] 94)=W9 at *
       have x1:=aA (k:=1) HXB.out rfl
       have x2:=aA (k:=2) HXB.out rfl
       have y0:=aA (k:=0) HYB.out rfl
       have y1:=aA (k:=1) HYB.out rfl
       have lx:=aC HXB.out
       have ly:=aC HYB.out
       go_wp2_with fail
       refine (af (-1) (-1) ((ln:Int) - 1) _).mono ?_
       rw [H1.out]
       rintro _ w' ⟨rfl,rfl⟩
       go_wp2_with fail
       refine (af (F:Int) (-1) ((sn:Int) - 1) _).mono ?_
       rw [H2.out]
       rintro _ w' ⟨rfl,rfl⟩
       go_wp2_with fail
       go_ret
       exact ⟨cO HR.out,HB0.out⟩
     ·have dk':(s.kind != 0)=true:=by simp;exact hk
      have HR:Hid (¬dM l ⟨a,(F:Int)⟩):=fun h=>hk ((hE.1 h).2.2.2.1 (by omega))
      clear hE hk
      rcases dab with da|⟨da,_⟩
      ·clear hnb
       go_enter Tryz.func254,Tryz.ntmps254
       go_upto_region 1 with fail
       generalize (w.alloc (.cells (av l (some ⟨bs,os,none⟩) LA OA sn sc ln lc on oc) 41)).alloc (.cells #[.int .i64 a,.int .i64 (F:Int)] 94)=W9 at *
       have x1:=aA (k:=1) HXB.out rfl
       have x2:=aA (k:=2) HXB.out rfl
       have y0:=aA (k:=0) HYB.out rfl
       have y1:=aA (k:=1) HYB.out rfl
       have lx:=aC HXB.out
       have ly:=aC HYB.out
       go_wp2_with fail
       refine (af a (-1) ((ln:Int) - 1) _).mono ?_
       rw [H1.out]
       rintro _ w' ⟨rfl,rfl⟩
       go_wp2_with fail
       refine (af (F:Int) (-1) ((sn:Int) - 1) _).mono ?_
       rw [H2.out]
       rintro _ w' ⟨rfl,rfl⟩
       go_wp2_with fail
       go_ret
       exact ⟨aP HR.out,HB0.out⟩
      ·clear hnb
       go_enter Tryz.func254,Tryz.ntmps254
       go_upto_region 1 with fail
       generalize (w.alloc (.cells (av l (some ⟨bs,os,none⟩) LA OA sn sc ln lc on oc) 41)).alloc (.cells #[.int .i64 a,.int .i64 (F:Int)] 94)=W9 at *
       have x1:=aA (k:=1) HXB.out rfl
       have x2:=aA (k:=2) HXB.out rfl
       have y0:=aA (k:=0) HYB.out rfl
       have y1:=aA (k:=1) HYB.out rfl
       have lx:=aC HXB.out
       have ly:=aC HYB.out
       go_wp2_with fail
       refine (af a (-1) ((ln:Int) - 1) _).mono ?_
       rw [H1.out]
       rintro _ w' ⟨rfl,rfl⟩
       go_wp2_with fail
       refine (af (F:Int) (-1) ((sn:Int) - 1) _).mono ?_
       rw [H2.out]
       rintro _ w' ⟨rfl,rfl⟩
       go_wp2_with fail
       go_ret
       exact ⟨aP HR.out,HB0.out⟩
    ·have d1:decide (b≥0)=false:=decide_eq_false hb0
     obtain rfl:b=-1:=by omega
     have da:decide (a<0)=false:=by simp;omega
     have HR:Hid (dM l ⟨a,-1⟩):=hE.2 ⟨⟨by omega,by omega⟩,⟨by omega,by omega⟩,hn,fun h=>by omega,fun _ h=>by omega⟩
     have d2:decide (a<0)=false:=decide_eq_false (by omega)
     clear hE hn hb0 dab hnb
     go_enter Tryz.func254,Tryz.ntmps254
     go_upto_region 1 with fail
     generalize (w.alloc (.cells (av l SA LA OA sn sc ln lc on oc) 41)).alloc (.cells #[.int .i64 a,.int .i64 (-1)] 94)=W9 at *
     have x1:=aA (k:=1) HXB.out rfl
     have x2:=aA (k:=2) HXB.out rfl
     have y0:=aA (k:=0) HYB.out rfl
     have y1:=aA (k:=1) HYB.out rfl
     have lx:=aC HXB.out
     have ly:=aC HYB.out
     go_wp2_with fail
     refine (af a (-1) ((ln:Int) - 1) _).mono ?_
     rw [H1.out]
     rintro _ w' ⟨rfl,rfl⟩
     go_wp2_with fail
     refine (af (-1) (-1) ((sn:Int) - 1) _).mono ?_
     rw [H2.out]
     rintro _ w' ⟨rfl,rfl⟩
     go_wp2_with fail
     go_ret
     exact ⟨cO HR.out,HB0.out⟩
theorem ng (XA ZA:Option Addr) (xn xc zn zc:Nat) (xs zs:List Int) (w:World) (hx:dA w XA xn xs) (hz:dA w ZA zn zs) (hxn:xn<=1048576) (hzn:zn<=1048576) :
  Calls Tryz.prog 242 #[.slice XA xn xc,.slice ZA zn zc] w fun e w'=>∃A n c,e = .returned (.slice A n c)/\Own w.heap.size w' A n c (asc (xs.filter fun x=>decide (0<x/\x∉zs)))/\Below w.heap.size w w':=by
 have HX:=Hd hx
 have HZ:=Hd hz
 clear hx hz
 go_enter Tryz.func242,Tryz.ntmps242
 go_wp2_with fail
 refine (lK XA xn xc xs _ HX.out hxn).mono ?_
 rintro _ w1 ⟨YA,yc,rfl,⟨ys,oy,HYP',HYS'⟩,b1⟩
 have HYP:=Hd HYP'
 have HYS:=Hd HYS'
 have HB0:=Hd b1
 have HYI:=Hd oy.ints
 obtain ⟨n,rfl⟩:∃n,n=xn:=⟨xn,rfl⟩
 clear HYP' HYS' oy b1
 go_wp2_with fail
 go_loopw [6,7] (fun v i wr=>∃(k:Nat) (A:Option Addr) (m c:Nat),k<=n/\i = .int .i64 (k:Int)/\v = .slice A m c/\m<=k/\aM w1 wr [.cel (aJ (kZ zs ys k)) (.slice A m c)]) (fun _ i _=>n - (intOf i).toNat)
 case atStart=>exact ⟨0,_,_,_,by omega,rfl,rfl,by omega,(aM.refl w1).pushNew 3 1⟩
 case round =>
  obtain ⟨k,A1,n1,c1,hk,rfl,rfl,hn1,hs⟩:=hrel
  have HS:=Hd hs
  have HBW:=Hd (aB HB0.out hs.bel)
  clear hs
  by_cases hlt:k<n
  ·have hdk:decide ((k:Int)<(n:Int))=true:=by simp;omega
   have hkl:k<ys.length:=by rw [HYI.out.1];exact hlt
   obtain ⟨by_,oy,hYA,hby,hcy⟩:=HYI.out.2 (by omega)
   have HYA:=Hd hYA
   have cy:=(HS.out.bel.cell (p:=⟨by_,oy+k,none⟩) hby).trans (hcy k hlt)
   have lby:=aL HS.out.bel hby
   have hKS:kZ zs ys (k+1)=rH zs (kZ zs ys k) (ys[k]?.getD 0):=rfl
   have hol:=(HS.out.ints 0 rfl).1
   clear hcy hkl hYA
   obtain rfl:=HYA.out
   generalize kZ zs ys k=out at *
   generalize ys[k]?.getD 0=x at *
   have i0:(0:Int)<=(k:Int):=by omega
   have i1:(k:Int)<(n:Int):=by omega
   unfold rH at hKS
   by_cases hx0:0<x
   ·have dx:decide ((0:Int)<x)=true:=decide_eq_true hx0
    have hHZ:=fun (v:Sub wr)=>kU ZA zn zc zs x v.v ((HZ.out.below (aB HBW.out v.h))) hzn
    by_cases hxz:x∈zs
    ·rw [if_neg (fun h=>h.2.1 hxz)] at hKS
     have HK:=Hd hKS
     rw [decide_eq_true hxz] at hHZ
     have HHZ:=Hd hHZ
     clear hHZ hKS hx0 hxz
     go_upto_region 6 with fail
     have hsub:=aZ wr
     have hsc:=aR wr
     refine aI wr (by kernel_rfl) (by kernel_rfl) (Below.refl _ _) ?_
     repeat (go_big_quiet_step ((first|(go_at_call 208;with_reducible exact aU (HHZ.out _)))))
     refine wpQuiet_nil ?_
     rintro wq ⟨⟨w5,hD⟩,hw⟩
     replace hw:wq=w5:=hw
     subst hw
     clear hsub hsc
     have cy5:=(hD.cell (p:=⟨by_,oy+k,none⟩) lby).trans cy
     have lby5:=aL hD lby
     have HS5:=Hd (HS.out.below hD)
     clear hD cy lby
     go_wp2_with fail
     go_roundw
     case rel=>exact ⟨k+1,A1,n1,c1,by omega,by go_num,rfl,by omega,by rw [HK.out];exact HS5.out⟩
     case measure=>simp [intOf];omega
    ·rw [decide_eq_false hxz] at hHZ
     have HHZ:=Hd hHZ
     clear hHZ
     by_cases hn0:n1=0
     ·have d0:((n1:Int)==0)=true:=by simp;omega
      have hout:out=[]:=List.eq_nil_of_length_eq_zero (by omega)
      rw [if_pos ⟨hx0,hxz,by rw [hout];simp⟩] at hKS
      have HK:=Hd hKS
      clear hKS hx0 hxz hout hn0
      go_upto_region 6 with fail
      have hsub:=aZ wr
      have hsc:=aR wr
      refine aI wr (by kernel_rfl) (by kernel_rfl) (Below.refl _ _) ?_
      repeat (go_big_quiet_step ((first|(go_at_call 208;with_reducible exact aU (HHZ.out _)))))
      refine wpQuiet_nil ?_
      rintro wq ⟨⟨w5,hD⟩,hw⟩
      replace hw:wq=w5:=hw
      subst hw
      clear hsub hsc
      have cy5:=(hD.cell (p:=⟨by_,oy+k,none⟩) lby).trans cy
      have lby5:=aL hD lby
      have HS5:=Hd (HS.out.below hD)
      clear hD cy lby
      clear d0
      go_wp2_with (at_builtin;refine fB rfl _ _ rfl _ (HS5.out.alloc _) 0 _ n1 c1 out x _ (0,0) rfl rfl rfl (aK _ _) (by omega) ?_;intro g9 cap w9 S9 hz9;have HS9:=Hd S9;clear S9 hz9)
      go_roundw
      case rel=>exact ⟨k+1,some ⟨g9,0,none⟩,n1+1,cap,by omega,by go_num,rfl,by omega,by rw [HK.out];exact HS9.out⟩
      case measure=>simp [intOf];omega
     ·have d0:((n1:Int)==0)=false:=by simp;omega
      obtain ⟨bo,oo,hOA,hbo,hco⟩:=(HS.out.ints 0 rfl).2 (by omega)
      have HOA:=Hd hOA
      have co:=hco (n1 - 1) (by omega)
      clear hco hOA
      obtain rfl:=HOA.out
      have hlast:out.getLast?=some (out[n1 - 1]?.getD 0):=by rw [List.getLast?_eq_getElem?,hol,List.getElem?_eq_getElem (by omega)];rfl
      generalize out[n1 - 1]?.getD 0=y at *
      have in1:(0:Int)<=(n1:Int) - 1:=by omega
      have in2:(n1:Int) - 1<(n1:Int):=by omega
      have in3:((n1:Int) - 1).toNat=n1 - 1:=by omega
      have e3:IntKind.i64.wrap ((n1:Int) - 1)=(n1:Int) - 1:=IntWalk.i64_in _ (by omega)
      by_cases hyx:y=x
      ·subst hyx
       rw [if_neg (fun h=>h.2.2 hlast)] at hKS
       have HK:=Hd hKS
       clear hKS hx0 hxz hlast
       go_upto_region 6 with fail
       have hsub:=aZ wr
       have hsc:=aR wr
       refine aI wr (by kernel_rfl) (by kernel_rfl) (Below.refl _ _) ?_
       repeat (go_big_quiet_step ((first|(go_at_call 208;with_reducible exact aU (HHZ.out _)))))
       refine wpQuiet_nil ?_
       rintro wq ⟨⟨w5,hD⟩,hw⟩
       replace hw:wq=w5:=hw
       subst hw
       clear hsub hsc
       have cy5:=(hD.cell (p:=⟨by_,oy+k,none⟩) lby).trans cy
       have lby5:=aL hD lby
       have HS5:=Hd (HS.out.below hD)
       clear hD cy lby
       clear co hbo in1 in2 in3 e3
       go_wp2_with fail
       go_roundw
       case rel=>exact ⟨k+1,_,n1,c1,by omega,by go_num,rfl,by omega,by rw [HK.out];exact HS5.out⟩
       case measure=>simp [intOf];omega
      ·have dy:(y != x)=true:=by simp [hyx]
       rw [if_pos ⟨hx0,hxz,by rw [hlast];intro h;injection h with h;exact hyx h⟩] at hKS
       have HK:=Hd hKS
       clear hKS hx0 hxz hlast hyx
       go_upto_region 6 with fail
       have hsub:=aZ wr
       have hsc:=aR wr
       refine aI wr (by kernel_rfl) (by kernel_rfl) (Below.refl _ _) ?_
       repeat (go_big_quiet_step ((first|(go_at_call 208;with_reducible exact aU (HHZ.out _)))))
       refine wpQuiet_nil ?_
       rintro wq ⟨⟨w5,hD⟩,hw⟩
       replace hw:wq=w5:=hw
       subst hw
       clear hsub hsc
       have cy5:=(hD.cell (p:=⟨by_,oy+k,none⟩) lby).trans cy
       have lby5:=aL hD lby
       have HS5:=Hd (HS.out.below hD)
       clear hD cy lby
       clear co hbo in1 in2 in3 e3
       go_wp2_with (at_builtin;refine fB rfl _ _ rfl _ (HS5.out.alloc _) 0 _ n1 c1 out x _ (0,0) rfl rfl rfl (aK _ _) (by omega) ?_;intro g9 cap w9 S9 hz9;have HS9:=Hd S9;clear S9 hz9)
       go_roundw
       case rel=>exact ⟨k+1,some ⟨g9,0,none⟩,n1+1,cap,by omega,by go_num,rfl,by omega,by rw [HK.out];exact HS9.out⟩
       case measure=>simp [intOf];omega
   ·have dx:decide ((0:Int)<x)=false:=decide_eq_false hx0
    rw [if_neg (fun h=>hx0 h.1)] at hKS
    have HK:=Hd hKS
    clear hKS hx0
    go_upto_region 6 with fail
    have hsub:=aZ wr
    have hsc:=aR wr
    refine aI wr (by kernel_rfl) (by kernel_rfl) (Below.refl _ _) ?_
    repeat (go_big_quiet_step ((fail)))
    refine wpQuiet_nil ?_
    rintro wq ⟨⟨w5,hD⟩,hw⟩
    replace hw:wq=w5:=hw
    subst hw
    clear hsub hsc
    have cy5:=(hD.cell (p:=⟨by_,oy+k,none⟩) lby).trans cy
    have lby5:=aL hD lby
    have HS5:=Hd (HS.out.below hD)
    clear hD cy lby
    go_wp2_with fail
    go_roundw
    case rel=>exact ⟨k+1,A1,n1,c1,by omega,by go_num,rfl,by omega,by rw [HK.out];exact HS5.out⟩
    case measure=>simp [intOf];omega
  ·have hkn:k=n:=by omega
   have hdk:decide ((k:Int)<(n:Int))=false:=by simp;omega
   have HD:Hid (Own w.heap.size wr A1 n1 c1 (asc (xs.filter fun x=>decide (0<x/\x∉zs)))):=by
    have h:=(HS.out.owned 0 rfl).more HB0.out.size
    rw [hkn,←HYI.out.1,vS HYS.out HYP.out] at h
    exact h
   clear HS hkn
   go_wp2_with fail
   go_ret
   exact ⟨_,_,_,rfl,HD.out,HBW.out⟩
theorem wK (l:ai) (SA LA OA:Option Addr) (sn sc ln lc on oc:Nat) (a b:Int) (w:World) (h:fI w l SA LA OA sn sc ln lc on oc) (hf:bB l) (he:dM l ⟨a,b⟩) :
  Calls Tryz.prog 241 #[iD l SA LA OA sn sc ln lc on oc,.agg #[.int .i64 a,.int .i64 b]] w fun e w'=>∃A n c,e = .returned (.slice A n c)/\Own w.heap.size w' A n c (fq l ⟨a,b⟩)/\Below w.heap.size w w':=by
 have hk:=vT (l:=l) (e:=⟨a,b⟩) fun x hx=>((nE hf he).2 x hx).1
 have hLS:mY l ⟨a,b⟩=if 0<=a then (l.luts[a.toNat]?.getD Lt.zero).ins else (l.seqs[b.toNat]?.getD Sq.zero).ins:=rfl
 obtain ⟨e1,e2,e3,_⟩:=kR.1 he
 have hsf:=(nE hf he).1
 rw [hLS] at hsf hk
 have hLI:=hk.symm
 clear hk hLS
 have HB0:=Hd (aF (aF (Below.refl w.heap.size w) (.cells (av l SA LA OA sn sc ln lc on oc) 41)) (.cells #[.int .i64 a,.int .i64 b] 94))
 have hx:=bg (.cells #[.int .i64 a,.int .i64 b] 94) (aK w (.cells (av l SA LA OA sn sc ln lc on oc) 41))
 have hy:=aK (w.alloc (.cells (av l SA LA OA sn sc ln lc on oc) 41)) (.cells #[.int .i64 a,.int .i64 b] 94)
 simp only [World.size_alloc] at hy
 have HXB:=Hd hx
 have HYB:=Hd hy
 clear hx hy
 obtain ⟨hsl,hll,hol⟩:=h.lens
 have hsn:=hf.nseq
 have hln:=hf.nlut
 have hon:=hf.nout
 have hin:=hf.inp
 rw [hsl] at hsn
 rw [hll] at hln
 rw [hol] at hon
 have HN:=Hd h
 have HF:=Hd hf
 have HSL:=Hd hsl
 have HLL:=Hd hll
 have HOL:=Hd hol
 have HFI:Hid ((l.first:Int)=1+l.inputs+(sn:Int)):=by show _=_;unfold ai.first;omega
 have HCO:Hid ((l.count:Int)=1+l.inputs+(sn:Int)+(ln:Int)):=by show _=_;unfold ai.count ai.first;omega
 clear h hf hsl hll hol
 by_cases h0:0<=a
 ·have d0:decide (a≥0)=true:=decide_eq_true h0
  rw [if_pos h0] at hLI hsf
  obtain ⟨X,rfl⟩:∃X:Nat,a=(X:Int):=⟨a.toNat,by omega⟩
  rw [Int.toNat_natCast] at hLI hsf
  have hX:X<ln:=by have:=HLL.out;omega
  obtain ⟨bb,ob,S,m,p,rfl,hbb,c0,c1,r2⟩:=HN.out.lt.lut' (k:=X) (by rw [HLL.out];exact hX)
  have lbb:=aL HB0.out hbb
  rw [←HB0.out.cell (p:=⟨bb,ob+X * 2,none⟩) hbb] at c0
  have HSR:=Hd r2.ints
  rw [r2.ints.1] at hsf
  have HLI:=Hd hLI
  clear c1 r2 hLI e1 e2 e3 he
  generalize (l.luts[X]?.getD Lt.zero).ins=src at *
  go_enter Tryz.func241,Tryz.ntmps241
  go_upto_region 1 with fail
  generalize (w.alloc (.cells (av l SA (some ⟨bb,ob,none⟩) OA sn sc ln lc on oc) 41)).alloc (.cells #[.int .i64 (X:Int),.int .i64 b] 94)=W9 at *
  have x2:=aA (k:=2) HXB.out rfl
  have y0:=aA (k:=0) HYB.out rfl
  have lx:=aC HXB.out
  have ly:=aC HYB.out
  go_wp2_with fail
  clear x2 y0 lx ly
  clear c0
  refine (ng S _ m p 0 0 src [] _ (HSR.out.below (aF (aB HB0.out (Below.refl _ _)) _)) ⟨rfl,fun h=>by omega⟩ (by omega) (by omega)).mono ?_
  rintro _ w1 ⟨A1,n1,c1,rfl,o1,b1⟩
  have HO1:=Hd (show Own w.heap.size w1 A1 n1 c1 _ from o1.more (Nat.le_trans HB0.out.size (by simp)))
  have HB1:=Hd (aB (aF HB0.out _) b1)
  clear o1 b1
  go_wp2_with fail
  go_ret
  exact ⟨_,_,_,rfl,by rw [HLI.out];exact HO1.out,HB1.out⟩
 ·have d0:decide (a≥0)=false:=decide_eq_false h0
  rw [if_neg h0] at hLI hsf
  obtain ⟨X,rfl⟩:∃X:Nat,b=(X:Int):=⟨b.toNat,by omega⟩
  rw [Int.toNat_natCast] at hLI hsf
  have hX:X<sn:=by have:=HSL.out;omega
  obtain ⟨bb,ob,S,m,p,rfl,hbb,c0,c1,c2,r2⟩:=HN.out.sq.sq' (k:=X) (by rw [HSL.out];exact hX)
  have lbb:=aL HB0.out hbb
  rw [←HB0.out.cell (p:=⟨bb,ob+X * 3+2,none⟩) hbb] at c2
  have HSR:=Hd r2.ints
  rw [r2.ints.1] at hsf
  have HLI:=Hd hLI
  clear c0 c1 r2 hLI e1 e2 e3 he
  generalize (l.seqs[X]?.getD Sq.zero).ins=src at *
  go_enter Tryz.func241,Tryz.ntmps241
  go_upto_region 1 with fail
  generalize (w.alloc (.cells (av l (some ⟨bb,ob,none⟩) LA OA sn sc ln lc on oc) 41)).alloc (.cells #[.int .i64 a,.int .i64 (X:Int)] 94)=W9 at *
  have x1:=aA (k:=1) HXB.out rfl
  have y0:=aA (k:=0) HYB.out rfl
  have y1:=aA (k:=1) HYB.out rfl
  have lx:=aC HXB.out
  have ly:=aC HYB.out
  go_wp2_with fail
  clear x1 y0 y1 lx ly
  clear c2
  refine (ng S _ m p 0 0 src [] _ (HSR.out.below (aF (aB HB0.out (Below.refl _ _)) _)) ⟨rfl,fun h=>by omega⟩ (by omega) (by omega)).mono ?_
  rintro _ w1 ⟨A1,n1,c1,rfl,o1,b1⟩
  have HO1:=Hd (show Own w.heap.size w1 A1 n1 c1 _ from o1.more (Nat.le_trans HB0.out.size (by simp)))
  have HB1:=Hd (aB (aF HB0.out _) b1)
  clear o1 b1
  go_wp2_with fail
  go_ret
  exact ⟨_,_,_,rfl,by rw [HLI.out];exact HO1.out,HB1.out⟩
theorem bW (l:ai) (SA LA OA:Option Addr) (sn sc ln lc on oc:Nat) (kd it:Int) (es:List LeT) (EA:Option Addr) (en ec:Nat) (w:World) (h:fI w l SA LA OA sn sc ln lc on oc) (hE:RdC w w.heap.size (dF es) (.slice EA en ec)) (hen:en<=1048576) :
  Calls Tryz.prog 203 #[iD l SA LA OA sn sc ln lc on oc,.agg #[.int .i64 kd,.int .i64 it,.slice EA en ec]] w fun e w'=>e = .returned (.bool (tb (bB l/\dD l ⟨kd,it,es⟩)))/\Below w.heap.size w w':=by
 have hel:=hE.esN
 have HE:=Hd hE
 have HEL:=Hd hel
 clear hE hel
 have HB0:=Hd (aF (aF (Below.refl w.heap.size w) (.cells (av l SA LA OA sn sc ln lc on oc) 41)) (.cells #[.int .i64 kd,.int .i64 it,.slice EA en ec] 89))
 have hx:=bg (.cells #[.int .i64 kd,.int .i64 it,.slice EA en ec] 89) (aK w (.cells (av l SA LA OA sn sc ln lc on oc) 41))
 have hy:=aK (w.alloc (.cells (av l SA LA OA sn sc ln lc on oc) 41)) (.cells #[.int .i64 kd,.int .i64 it,.slice EA en ec] 89)
 simp only [World.size_alloc] at hy
 have HXB:=Hd hx
 have HYB:=Hd hy
 clear hx hy
 obtain ⟨hsl,hll,hol⟩:=h.lens
 have HN:=Hd h
 have HSL:=Hd hsl
 have HLL:=Hd hll
 have HOL:=Hd hol
 clear h hsl hll hol
 by_cases hf:bB l
 ·have HLT:Hid (tb (bB l)=true):=aa hf
  have hsn:=hf.nseq
  have hln:=hf.nlut
  have hon:=hf.nout
  have hin:=hf.inp
  rw [HSL.out] at hsn
  rw [HLL.out] at hln
  rw [HOL.out] at hon
  have HF:=Hd hf
  clear hf
  by_cases k0:kd=0
  ·subst k0
   by_cases h0:0<=it
   ·have d0:decide (it≥0)=true:=decide_eq_true h0
    by_cases h1:it<l.inputs
    ·have d1:decide (it<l.inputs)=true:=decide_eq_true h1
     have HR:Hid (bB l/\dD l ⟨0,it,es⟩):=⟨HF.out,lT.2 ⟨h0,by have:=HSL.out;have:=HOL.out;omega⟩⟩
     clear h0 h1
     go_enter Tryz.func203,Tryz.ntmps203
     go_upto_region 1 with fail
     generalize (w.alloc (.cells (av l SA LA OA sn sc ln lc on oc) 41)).alloc (.cells #[.int .i64 0,.int .i64 it,.slice EA en ec] 89)=W9 at *
     have x0:=aA (k:=0) HXB.out rfl
     have x1:=aA (k:=1) HXB.out rfl
     have x2:=aA (k:=2) HXB.out rfl
     have x3:=aA (k:=3) HXB.out rfl
     have lx:=aC HXB.out
     have ly:=aC HYB.out
     go_wp2_with fail
     refine (bv l SA LA OA sn sc ln lc on oc _ (HN.out.below HB0.out)).mono ?_
     rw [HLT.out]
     rintro _ w1 ⟨rfl,b1⟩
     have HB1:=Hd (aB HB0.out b1)
     have B1:=Hd b1
     clear x0 x1 x2 x3  lx ly
     clear b1
     have x0:=aA (k:=0) (aD B1.out HXB.out) rfl
     have y0:=aA (k:=0) (aD B1.out HYB.out) rfl
     have y1:=aA (k:=1) (aD B1.out HYB.out) rfl
     have lx:=aC (aD B1.out HXB.out)
     have ly:=aC (aD B1.out HYB.out)
     go_wp2_with fail
     go_ret
     exact ⟨cO HR.out,HB1.out⟩
    ·have d1:decide (it<l.inputs)=false:=decide_eq_false h1
     have HR:Hid (¬(bB l/\dD l ⟨0,it,es⟩)):=fun h=>h1 (by have h2:=(lT.1 h.2).2;have:=HSL.out;have:=HOL.out;omega)
     clear h0 h1
     go_enter Tryz.func203,Tryz.ntmps203
     go_upto_region 1 with fail
     generalize (w.alloc (.cells (av l SA LA OA sn sc ln lc on oc) 41)).alloc (.cells #[.int .i64 0,.int .i64 it,.slice EA en ec] 89)=W9 at *
     have x0:=aA (k:=0) HXB.out rfl
     have x1:=aA (k:=1) HXB.out rfl
     have x2:=aA (k:=2) HXB.out rfl
     have x3:=aA (k:=3) HXB.out rfl
     have lx:=aC HXB.out
     have ly:=aC HYB.out
     go_wp2_with fail
     refine (bv l SA LA OA sn sc ln lc on oc _ (HN.out.below HB0.out)).mono ?_
     rw [HLT.out]
     rintro _ w1 ⟨rfl,b1⟩
     have HB1:=Hd (aB HB0.out b1)
     have B1:=Hd b1
     clear x0 x1 x2 x3  lx ly
     clear b1
     have x0:=aA (k:=0) (aD B1.out HXB.out) rfl
     have y0:=aA (k:=0) (aD B1.out HYB.out) rfl
     have y1:=aA (k:=1) (aD B1.out HYB.out) rfl
     have lx:=aC (aD B1.out HXB.out)
     have ly:=aC (aD B1.out HYB.out)
     go_wp2_with fail
     go_ret
     exact ⟨aP HR.out,HB1.out⟩
   ·have d0:decide (it≥0)=false:=decide_eq_false h0
    have HR:Hid (¬(bB l/\dD l ⟨0,it,es⟩)):=fun h=>h0 (lT.1 h.2).1
    clear h0
    go_enter Tryz.func203,Tryz.ntmps203
    go_upto_region 1 with fail
    generalize (w.alloc (.cells (av l SA LA OA sn sc ln lc on oc) 41)).alloc (.cells #[.int .i64 0,.int .i64 it,.slice EA en ec] 89)=W9 at *
    have x0:=aA (k:=0) HXB.out rfl
    have x1:=aA (k:=1) HXB.out rfl
    have x2:=aA (k:=2) HXB.out rfl
    have x3:=aA (k:=3) HXB.out rfl
    have lx:=aC HXB.out
    have ly:=aC HYB.out
    go_wp2_with fail
    refine (bv l SA LA OA sn sc ln lc on oc _ (HN.out.below HB0.out)).mono ?_
    rw [HLT.out]
    rintro _ w1 ⟨rfl,b1⟩
    have HB1:=Hd (aB HB0.out b1)
    have B1:=Hd b1
    clear x0 x1 x2 x3  lx ly
    clear b1
    have x0:=aA (k:=0) (aD B1.out HXB.out) rfl
    have y0:=aA (k:=0) (aD B1.out HYB.out) rfl
    have y1:=aA (k:=1) (aD B1.out HYB.out) rfl
    have lx:=aC (aD B1.out HXB.out)
    have ly:=aC (aD B1.out HYB.out)
    go_wp2_with fail
    go_ret
    exact ⟨aP HR.out,HB1.out⟩
  ·by_cases k1:kd=1
   ·subst k1
    by_cases h0:0<=it
    ·have d0:decide (it≥0)=true:=decide_eq_true h0
     by_cases h1:it<(on:Int)
     ·have d1:decide (it<(on:Int))=true:=decide_eq_true h1
      have HR:Hid (bB l/\dD l ⟨1,it,es⟩):=⟨HF.out,lU.2 ⟨h0,by have:=HSL.out;have:=HOL.out;omega⟩⟩
      clear h0 h1
      go_enter Tryz.func203,Tryz.ntmps203
      go_upto_region 1 with fail
      generalize (w.alloc (.cells (av l SA LA OA sn sc ln lc on oc) 41)).alloc (.cells #[.int .i64 1,.int .i64 it,.slice EA en ec] 89)=W9 at *
      have x0:=aA (k:=0) HXB.out rfl
      have x1:=aA (k:=1) HXB.out rfl
      have x2:=aA (k:=2) HXB.out rfl
      have x3:=aA (k:=3) HXB.out rfl
      have lx:=aC HXB.out
      have ly:=aC HYB.out
      go_wp2_with fail
      refine (bv l SA LA OA sn sc ln lc on oc _ (HN.out.below HB0.out)).mono ?_
      rw [HLT.out]
      rintro _ w1 ⟨rfl,b1⟩
      have HB1:=Hd (aB HB0.out b1)
      have B1:=Hd b1
      clear x0 x1 x2 x3  lx ly
      clear b1
      have x3:=aA (k:=3) (aD B1.out HXB.out) rfl
      have y0:=aA (k:=0) (aD B1.out HYB.out) rfl
      have y1:=aA (k:=1) (aD B1.out HYB.out) rfl
      have lx:=aC (aD B1.out HXB.out)
      have ly:=aC (aD B1.out HYB.out)
      go_wp2_with fail
      go_ret
      exact ⟨cO HR.out,HB1.out⟩
     ·have d1:decide (it<(on:Int))=false:=decide_eq_false h1
      have HR:Hid (¬(bB l/\dD l ⟨1,it,es⟩)):=fun h=>h1 (by have h2:=(lU.1 h.2).2;have:=HSL.out;have:=HOL.out;omega)
      clear h0 h1
      go_enter Tryz.func203,Tryz.ntmps203
      go_upto_region 1 with fail
      generalize (w.alloc (.cells (av l SA LA OA sn sc ln lc on oc) 41)).alloc (.cells #[.int .i64 1,.int .i64 it,.slice EA en ec] 89)=W9 at *
      have x0:=aA (k:=0) HXB.out rfl
      have x1:=aA (k:=1) HXB.out rfl
      have x2:=aA (k:=2) HXB.out rfl
      have x3:=aA (k:=3) HXB.out rfl
      have lx:=aC HXB.out
      have ly:=aC HYB.out
      go_wp2_with fail
      refine (bv l SA LA OA sn sc ln lc on oc _ (HN.out.below HB0.out)).mono ?_
      rw [HLT.out]
      rintro _ w1 ⟨rfl,b1⟩
      have HB1:=Hd (aB HB0.out b1)
      have B1:=Hd b1
      clear x0 x1 x2 x3  lx ly
      clear b1
      have x3:=aA (k:=3) (aD B1.out HXB.out) rfl
      have y0:=aA (k:=0) (aD B1.out HYB.out) rfl
      have y1:=aA (k:=1) (aD B1.out HYB.out) rfl
      have lx:=aC (aD B1.out HXB.out)
      have ly:=aC (aD B1.out HYB.out)
      go_wp2_with fail
      go_ret
      exact ⟨aP HR.out,HB1.out⟩
    ·have d0:decide (it≥0)=false:=decide_eq_false h0
     have HR:Hid (¬(bB l/\dD l ⟨1,it,es⟩)):=fun h=>h0 (lU.1 h.2).1
     clear h0
     go_enter Tryz.func203,Tryz.ntmps203
     go_upto_region 1 with fail
     generalize (w.alloc (.cells (av l SA LA OA sn sc ln lc on oc) 41)).alloc (.cells #[.int .i64 1,.int .i64 it,.slice EA en ec] 89)=W9 at *
     have x0:=aA (k:=0) HXB.out rfl
     have x1:=aA (k:=1) HXB.out rfl
     have x2:=aA (k:=2) HXB.out rfl
     have x3:=aA (k:=3) HXB.out rfl
     have lx:=aC HXB.out
     have ly:=aC HYB.out
     go_wp2_with fail
     refine (bv l SA LA OA sn sc ln lc on oc _ (HN.out.below HB0.out)).mono ?_
     rw [HLT.out]
     rintro _ w1 ⟨rfl,b1⟩
     have HB1:=Hd (aB HB0.out b1)
     have B1:=Hd b1
     clear x0 x1 x2 x3  lx ly
     clear b1
     have x3:=aA (k:=3) (aD B1.out HXB.out) rfl
     have y0:=aA (k:=0) (aD B1.out HYB.out) rfl
     have y1:=aA (k:=1) (aD B1.out HYB.out) rfl
     have lx:=aC (aD B1.out HXB.out)
     have ly:=aC (aD B1.out HYB.out)
     go_wp2_with fail
     go_ret
     exact ⟨aP HR.out,HB1.out⟩
   ·by_cases k2:kd=2
    ·subst k2
     by_cases h0:0<=it
     ·have d0:decide (it≥0)=true:=decide_eq_true h0
      by_cases h1:it<(sn:Int)
      ·have d1:decide (it<(sn:Int))=true:=decide_eq_true h1
       have HR:Hid (bB l/\dD l ⟨2,it,es⟩):=⟨HF.out,jG.2 ⟨h0,by have:=HSL.out;have:=HOL.out;omega⟩⟩
       clear h0 h1
       go_enter Tryz.func203,Tryz.ntmps203
       go_upto_region 1 with fail
       generalize (w.alloc (.cells (av l SA LA OA sn sc ln lc on oc) 41)).alloc (.cells #[.int .i64 2,.int .i64 it,.slice EA en ec] 89)=W9 at *
       have x0:=aA (k:=0) HXB.out rfl
       have x1:=aA (k:=1) HXB.out rfl
       have x2:=aA (k:=2) HXB.out rfl
       have x3:=aA (k:=3) HXB.out rfl
       have lx:=aC HXB.out
       have ly:=aC HYB.out
       go_wp2_with fail
       refine (bv l SA LA OA sn sc ln lc on oc _ (HN.out.below HB0.out)).mono ?_
       rw [HLT.out]
       rintro _ w1 ⟨rfl,b1⟩
       have HB1:=Hd (aB HB0.out b1)
       have B1:=Hd b1
       clear x0 x1 x2 x3  lx ly
       clear b1
       have x1:=aA (k:=1) (aD B1.out HXB.out) rfl
       have y0:=aA (k:=0) (aD B1.out HYB.out) rfl
       have y1:=aA (k:=1) (aD B1.out HYB.out) rfl
       have lx:=aC (aD B1.out HXB.out)
       have ly:=aC (aD B1.out HYB.out)
       go_wp2_with fail
       go_ret
       exact ⟨cO HR.out,HB1.out⟩
      ·have d1:decide (it<(sn:Int))=false:=decide_eq_false h1
       have HR:Hid (¬(bB l/\dD l ⟨2,it,es⟩)):=fun h=>h1 (by have h2:=(jG.1 h.2).2;have:=HSL.out;have:=HOL.out;omega)
       clear h0 h1
       go_enter Tryz.func203,Tryz.ntmps203
       go_upto_region 1 with fail
       generalize (w.alloc (.cells (av l SA LA OA sn sc ln lc on oc) 41)).alloc (.cells #[.int .i64 2,.int .i64 it,.slice EA en ec] 89)=W9 at *
       have x0:=aA (k:=0) HXB.out rfl
       have x1:=aA (k:=1) HXB.out rfl
       have x2:=aA (k:=2) HXB.out rfl
       have x3:=aA (k:=3) HXB.out rfl
       have lx:=aC HXB.out
       have ly:=aC HYB.out
       go_wp2_with fail
       refine (bv l SA LA OA sn sc ln lc on oc _ (HN.out.below HB0.out)).mono ?_
       rw [HLT.out]
       rintro _ w1 ⟨rfl,b1⟩
       have HB1:=Hd (aB HB0.out b1)
       have B1:=Hd b1
       clear x0 x1 x2 x3  lx ly
       clear b1
       have x1:=aA (k:=1) (aD B1.out HXB.out) rfl
       have y0:=aA (k:=0) (aD B1.out HYB.out) rfl
       have y1:=aA (k:=1) (aD B1.out HYB.out) rfl
       have lx:=aC (aD B1.out HXB.out)
       have ly:=aC (aD B1.out HYB.out)
       go_wp2_with fail
       go_ret
       exact ⟨aP HR.out,HB1.out⟩
     ·have d0:decide (it≥0)=false:=decide_eq_false h0
      have HR:Hid (¬(bB l/\dD l ⟨2,it,es⟩)):=fun h=>h0 (jG.1 h.2).1
      clear h0
      go_enter Tryz.func203,Tryz.ntmps203
      go_upto_region 1 with fail
      generalize (w.alloc (.cells (av l SA LA OA sn sc ln lc on oc) 41)).alloc (.cells #[.int .i64 2,.int .i64 it,.slice EA en ec] 89)=W9 at *
      have x0:=aA (k:=0) HXB.out rfl
      have x1:=aA (k:=1) HXB.out rfl
      have x2:=aA (k:=2) HXB.out rfl
      have x3:=aA (k:=3) HXB.out rfl
      have lx:=aC HXB.out
      have ly:=aC HYB.out
      go_wp2_with fail
      refine (bv l SA LA OA sn sc ln lc on oc _ (HN.out.below HB0.out)).mono ?_
      rw [HLT.out]
      rintro _ w1 ⟨rfl,b1⟩
      have HB1:=Hd (aB HB0.out b1)
      have B1:=Hd b1
      clear x0 x1 x2 x3  lx ly
      clear b1
      have x1:=aA (k:=1) (aD B1.out HXB.out) rfl
      have y0:=aA (k:=0) (aD B1.out HYB.out) rfl
      have y1:=aA (k:=1) (aD B1.out HYB.out) rfl
      have lx:=aC (aD B1.out HXB.out)
      have ly:=aC (aD B1.out HYB.out)
      go_wp2_with fail
      go_ret
      exact ⟨aP HR.out,HB1.out⟩
    ·have d0:(kd==0)=false:=by simp [k0]
     have d1:(kd==1)=false:=by simp [k1]
     have d2:(kd==2)=false:=by simp [k2]
     have hk012:kd≠0/\kd≠1/\kd≠2:=⟨k0,k1,k2⟩
     clear k0 k1 k2
     have HK12:=Hd hk012
     clear hk012
     go_enter Tryz.func203,Tryz.ntmps203
     go_upto_region 1 with fail
     generalize (w.alloc (.cells (av l SA LA OA sn sc ln lc on oc) 41)).alloc (.cells #[.int .i64 kd,.int .i64 it,.slice EA en ec] 89)=W9 at *
     have x0:=aA (k:=0) HXB.out rfl
     have x1:=aA (k:=1) HXB.out rfl
     have x2:=aA (k:=2) HXB.out rfl
     have x3:=aA (k:=3) HXB.out rfl
     have lx:=aC HXB.out
     have ly:=aC HYB.out
     go_wp2_with fail
     refine (bv l SA LA OA sn sc ln lc on oc _ (HN.out.below HB0.out)).mono ?_
     rw [HLT.out]
     rintro _ w1 ⟨rfl,b1⟩
     have HB1:=Hd (aB HB0.out b1)
     have B1:=Hd b1
     obtain ⟨W8,rfl⟩:∃x,x=w1:=⟨w1,rfl⟩
     clear x0 x1 x2 x3  lx ly
     clear b1
     have x0:=aA (k:=0) (aD B1.out HXB.out) rfl
     have y0:=aA (k:=0) (aD B1.out HYB.out) rfl
     have y1:=aA (k:=1) (aD B1.out HYB.out) rfl
     have y2:=aA (k:=2) (aD B1.out HYB.out) rfl
     have lx:=aC (aD B1.out HXB.out)
     have ly:=aC (aD B1.out HYB.out)
     go_wp2_with fail
     clear x0 y0 y1 y2 lx ly
     go_loopw [5] (fun i wr=>∃k:Nat,k<=en/\i = .int .i64 k/\Below W8.heap.size W8 wr/\∀j,j<k→dM l ⟨(es[j]?.getD LeT.zero).lut,(es[j]?.getD LeT.zero).ff⟩) (fun i _=>en - (intOf i).toNat)
     case atStart=>exact ⟨0,Nat.zero_le _,rfl,Below.refl _ _,fun j hj=>by omega⟩
     case round =>
      obtain ⟨k,hk,rfl,hb,hall⟩:=hrel
      have HBE:=Hd hb
      have HALL:=Hd hall
      have HBW:=Hd (aB HB1.out hb)
      have hx:=aD hb (aD B1.out HXB.out)
      have hy:=aD hb (aD B1.out HYB.out)
      have y0:=aA (k:=0) hy rfl
      have y2:=aA (k:=2) hy rfl
      have ly:=aC hy
      clear hb hall
      by_cases hlt:k<en
      ·have hdk:decide ((k:Int)<(en:Int))=true:=by simp;omega
       have x0:=aA (k:=0) hx rfl
       have x1:=aA (k:=1) hx rfl
       have x2:=aA (k:=2) hx rfl
       have x3:=aA (k:=3) hx rfl
       have lx:=aC hx
       clear hx hy
       have hkl:k<es.length:=by rw [HEL.out];exact hlt
       obtain ⟨be,oe,hEA,hbe,c0,c1⟩:=HE.out.es (k:=k) hkl
       have HEA:=Hd hEA
       have lbe:=aL HBW.out hbe
       rw [←HBW.out.cell (p:=⟨be,oe+k * 2,none⟩) hbe] at c0
       rw [←HBW.out.cell (p:=⟨be,oe+k * 2+1,none⟩) hbe] at c1
       have HG:Hid (dM l ⟨(es[k]?.getD LeT.zero).lut,(es[k]?.getD LeT.zero).ff⟩→∀j,j<k+1→dM l ⟨(es[j]?.getD LeT.zero).lut,(es[j]?.getD LeT.zero).ff⟩):=fun h=>bS HALL.out h
       have HNO:Hid (¬dM l ⟨(es[k]?.getD LeT.zero).lut,(es[k]?.getD LeT.zero).ff⟩→¬(bB l/\dD l ⟨kd,it,es⟩)):=fun h h'=>h (by
        have hk3:kd=3:=by have h9:=gm h'.2;have h8:=HK12.out;omega
        have h2:=h'.2
        subst hk3
        have:=jb.1 h2 _ (List.getElem_mem hkl)
        rwa [show es[k]=es[k]?.getD LeT.zero by rw [List.getElem?_eq_getElem hkl];rfl] at this)
       clear hkl hEA
       obtain rfl:=HEA.out
       generalize es[k]?.getD LeT.zero=e at *
       obtain ⟨a,b⟩:=e
       simp only at c0 c1 HG HNO
       have i0:(0:Int)<=(k:Int):=by omega
       have i1:(k:Int)<(en:Int):=by omega
       go_upto_region 13 with fail
       have hLE:=fun (v:Sub wr)=>xk l SA LA OA sn sc ln lc on oc a b v.v (HN.out.below (aB HBW.out v.h)) HF.out
       by_cases hel:dM l ⟨a,b⟩
       ·rw [aa hel] at hLE
        have HLE:=Hd hLE
        have HG2:=Hd (HG.out hel)
        clear hLE hel HG HNO
        have hsub:=aZ wr
        have hsc:=aR wr
        refine aI wr (by kernel_rfl) (by kernel_rfl) (Below.refl _ _) ?_
        repeat (go_big_quiet_step ((first
         | (go_at_call 254;with_reducible exact aO (HLE.out _)))))
        refine wpQuiet_nil ?_
        rintro _ ⟨⟨w5,hD⟩,rfl⟩
        clear hsub hsc
        have HD:=Hd (aB HBE.out hD)
        clear hD x0 x1 x2 x3 y0 y2 lx ly c0 c1 lbe
        go_wp2_with fail
        go_roundw
        case rel=>exact ⟨k+1,by omega,by go_num,HD.out,HG2.out⟩
        case measure=>simp [intOf];omega
       ·rw [bF hel] at hLE
        have HLE:=Hd hLE
        have HR:=Hd (HNO.out hel)
        clear hLE hel HG HNO
        have hsub:=aZ wr
        have hsc:=aR wr
        refine aI wr (by kernel_rfl) (by kernel_rfl) (Below.refl _ _) ?_
        repeat (go_big_quiet_step ((first
         | (go_at_call 254;with_reducible exact aO (HLE.out _)))))
        refine wpQuiet_nil ?_
        rintro _ ⟨⟨w5,hD⟩,rfl⟩
        clear hsub hsc
        have HD:=Hd (aB HBE.out hD)
        clear hD x0 x1 x2 x3 y0 y2 lx ly c0 c1 lbe
        go_wp2_with fail
        go_ret
        exact ⟨aP HR.out,aB HB1.out HD.out⟩
      ·have hkm:k=en:=by omega
       have hdk:decide ((k:Int)<(en:Int))=false:=by simp;omega
       have hall3:∀e∈es,dM l e:=fun e he=>by
        obtain ⟨j,hj,rfl⟩:=List.getElem_of_mem he
        have h:=HALL.out j (by rw [hkm,←HEL.out];exact hj)
        rwa [show es[j]?.getD LeT.zero=es[j] by rw [List.getElem?_eq_getElem hj];rfl] at h
       clear hx hy HALL hkm
       by_cases k3:kd=3
       ·have HR:Hid (bB l/\dD l ⟨kd,it,es⟩):=⟨HF.out,by rw [k3];exact jb.2 hall3⟩
        have d3:(kd==3)=true:=by simp [k3]
        clear k3 hall3
        go_wp2_with fail
        go_ret
        exact ⟨cO HR.out,HBW.out⟩
       ·have HR:Hid (¬(bB l/\dD l ⟨kd,it,es⟩)):=fun h=>by have h9:=gm h.2;have h8:=HK12.out;omega
        have d3:(kd==3)=false:=by simp [k3]
        clear k3 hall3
        go_wp2_with fail
        go_ret
        exact ⟨aP HR.out,HBW.out⟩
 ·have HLT:Hid (tb (bB l)=false):=bF hf
  have HR:Hid (¬(bB l/\dD l ⟨kd,it,es⟩)):=fun h=>hf h.1
  clear hf
  go_enter Tryz.func203,Tryz.ntmps203
  go_upto_region 1 with fail
  generalize (w.alloc (.cells (av l SA LA OA sn sc ln lc on oc) 41)).alloc (.cells #[.int .i64 kd,.int .i64 it,.slice EA en ec] 89)=W9 at *
  have x0:=aA (k:=0) HXB.out rfl
  have x1:=aA (k:=1) HXB.out rfl
  have x2:=aA (k:=2) HXB.out rfl
  have x3:=aA (k:=3) HXB.out rfl
  have lx:=aC HXB.out
  have ly:=aC HYB.out
  go_wp2_with fail
  refine (bv l SA LA OA sn sc ln lc on oc _ (HN.out.below HB0.out)).mono ?_
  rw [HLT.out]
  rintro _ w1 ⟨rfl,b1⟩
  have HB1:=Hd (aB HB0.out b1)
  have B1:=Hd b1
  clear x0 x1 x2 x3  lx ly
  clear b1
  go_wp2_with fail
  go_ret
  exact ⟨aP HR.out,HB1.out⟩
end Go.Proofs.YtofihjoanjkdmaaGreat
