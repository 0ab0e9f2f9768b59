/- Placements and connections in the program: valid ones (printed by mkplc.py). -/
import Derived.Test.YtofihjoanjkdmaaGreatLayF7
import Derived.Test.YtofihjoanjkdmaaGreatRt5
namespace Go.Proofs.YtofihjoanjkdmaaGreat
set_option maxHeartbeats 4000000
set_option maxRecDepth 100000
open Go.RowKit
def jd (d:Dev) (t:Int):Int:=if au d t=true then bA d t else -1
theorem rA (d:Dev) (t:Int):0<=bA d t/\bA d t<=2:=by
 unfold bA
 split
 ·omega
 ·split <;> omega
theorem pu (k:Int):-1<=fC k/\fC k<=2:=by
 unfold fC
 split
 ·omega
 ·split
  ·omega
  ·split <;> omega
theorem tQ {d:Dev} {t k:Int} (h:0<=k):jd d t=k↔au d t=true/\bA d t=k:=by
 unfold jd
 split
 ·rename_i h1;exact ⟨fun h2=>⟨h1,h2⟩,fun h2=>h2.2⟩
 ·rename_i h1;exact ⟨fun h2=>by omega,fun h2=>absurd h2.1 h1⟩
theorem qg (k:Int) (w:World) :
  Calls Tryz.prog 127 #[.int .i64 k] w fun e w'=>e = .returned (.int .i64 (fC k))/\w=w':=by
 by_cases h0:k=0
 ·subst h0
  go_enter Tryz.func127,Tryz.ntmps127
  go_wp2_with fail
  go_ret
  exact ⟨rfl,rfl⟩
 ·by_cases h1:k=1
  ·subst h1
   go_enter Tryz.func127,Tryz.ntmps127
   go_wp2_with fail
   go_ret
   exact ⟨rfl,rfl⟩
  ·by_cases h2:k=2
   ·subst h2
    go_enter Tryz.func127,Tryz.ntmps127
    go_wp2_with fail
    go_ret
    exact ⟨rfl,rfl⟩
   ·by_cases h3:k=3
    ·subst h3
     go_enter Tryz.func127,Tryz.ntmps127
     go_wp2_with fail
     go_ret
     exact ⟨rfl,rfl⟩
    ·have HB:Hid (fC k=-1):=by show _=_;unfold fC;rw [if_neg (by omega),if_neg h2,if_neg h3]
     have d0:(k==0)=false:=by simp [h0]
     have d1:(k==1)=false:=by simp [h1]
     have d2:(k==2)=false:=by simp [h2]
     have d3:(k==3)=false:=by simp [h3]
     clear h0 h1 h2 h3
     go_enter Tryz.func127,Tryz.ntmps127
     go_wp2_with fail
     go_ret
     exact ⟨aQ HB.out.symm,rfl⟩
theorem mf (bs:List Blk) (BA:Option Addr) (bn bc:Nat) (w:World) (hB:RdC w w.heap.size (bE bs) (.slice BA bn bc)) (hn:bn<=1048576) :
  Calls Tryz.prog 49 #[.slice BA bn bc] w fun e w'=>∃A c,e = .returned (.slice A bn c)/\Own w.heap.size w' A bn c (bs.map Blk.kind)/\Below w.heap.size w w':=by
 have hbl:=hB.blkN
 have HBL:=Hd hbl
 have HB:=Hd hB
 clear hB hbl
 go_enter Tryz.func49,Tryz.ntmps49
 go_wp2_with fail
 go_loopw [3,8] (fun v i wr=>∃(k:Nat) (A:Option Addr) (c:Nat),k<=bn/\i = .int .i64 (k:Int)/\v = .slice A k c/\aM w wr [.cel (aJ ((bs.take k).map Blk.kind)) (.slice A k c)]) (fun _ i _=>bn - (intOf i).toNat)
 case atStart=>exact ⟨0,none,0,by omega,rfl,rfl,(aM.refl w).pushNil 3 1⟩
 case round =>
  obtain ⟨k,A1,c1',hk,rfl,rfl,hs⟩:=hrel
  have HS:=Hd hs
  clear hs
  by_cases hlt:k<bn
  ·have hdk:decide ((k:Int)<(bn:Int))=true:=by simp;omega
   have hkl:k<bs.length:=by rw [HBL.out];exact hlt
   obtain ⟨bb,ob,EA,en,ec,rfl,hbb,c0,c1,c2,r2⟩:=HB.out.blk (k:=k) hkl
   have hBB:=HS.out.bel
   have lbb:=aL hBB hbb
   rw [←hBB.cell (p:=⟨bb,ob+k * 3,none⟩) hbb] at c0
   rw [←hBB.cell (p:=⟨bb,ob+k * 3+1,none⟩) hbb] at c1
   rw [←hBB.cell (p:=⟨bb,ob+k * 3+2,none⟩) hbb] at c2
   have HTK:=Hd (show (bs.take (k+1)).map Blk.kind=(bs.take k).map Blk.kind++[(bs[k]?.getD Blk.zero).kind] from by rw [kP hkl,List.map_append];rfl)
   clear hkl hBB r2
   generalize bs[k]?.getD Blk.zero=b at *
   obtain ⟨kd,it,es⟩:=b
   simp only at c0 c1 HTK
   have i0:(0:Int)<=(k:Int):=by omega
   have i1:(k:Int)<(bn:Int):=by omega
   have HA:=Hd (HS.out.alloc (.cells #[.int .i64 kd,.int .i64 it,.slice EA en ec] 89))
   have hy:=aK wr (.cells #[.int .i64 kd,.int .i64 it,.slice EA en ec] 89)
   have y0:=aA (k:=0) hy rfl
   have ly:=aC hy
   clear hy
   go_upto_region 5 with fail
   generalize wr.alloc (.cells #[.int .i64 kd,.int .i64 it,.slice EA en ec] 89)=W5 at *
   go_wp2_with (at_builtin;refine fB rfl _ _ rfl _ (HA.out.alloc _) 0 A1 k c1' ((bs.take k).map Blk.kind) kd _ (0,0) rfl rfl rfl (aK _ _) (by omega) ?_;intro g9 cap w9 S9 hz9;have HS9:=Hd S9;clear S9 hz9)
   go_roundw
   case rel=>exact ⟨k+1,_,_,by omega,by go_num,rfl,by rw [HTK.out];exact HS9.out⟩
   case measure=>simp [intOf];omega
  ·have hkn:k=bn:=by omega
   have hdk:decide ((k:Int)<(bn:Int))=false:=by simp;omega
   have HTK:Hid (bs.take k=bs):=by show _=_;rw [hkn];exact List.take_of_length_le (by rw [HBL.out];exact Nat.le_refl _)
   rw [HTK.out] at HS
   subst hkn
   go_wp2_with fail
   go_ret
   exact ⟨_,_,rfl,HS.out.owned 0 rfl,HS.out.bel⟩
theorem qh (d:Dev) (t:Int) (w:World) :
  Calls Tryz.prog 128 #[.agg #[.int .i64 d.W,.int .i64 d.H,.int .i64 d.T,.int .i64 d.R],.int .i64 t] w fun e w'=>e = .returned (.int .i64 (jd d t))/\Below w.heap.size w w':=by
 have HB0:=Hd (aF (Below.refl w.heap.size w) (.cells #[.int .i64 d.W,.int .i64 d.H,.int .i64 d.T,.int .i64 d.R] 36))
 have HXB:=Hd (aK w (.cells #[.int .i64 d.W,.int .i64 d.H,.int .i64 d.T,.int .i64 d.R] 36))
 have hx:=HXB.out
 have x0:=aA (k:=0) hx rfl
 have x1:=aA (k:=1) hx rfl
 have x2:=aA (k:=2) hx rfl
 have x3:=aA (k:=3) hx rfl
 have lx:=aC hx
 clear hx
 cases ht:au d t with
 | false =>
  have HR:Hid (jd d t=-1):=by show _=_;unfold jd;rw [ht];rfl
  have HT:=Hd ht
  clear ht
  go_enter Tryz.func128,Tryz.ntmps128
  go_upto_region 1 with fail
  generalize w.alloc (.cells #[.int .i64 d.W,.int .i64 d.H,.int .i64 d.T,.int .i64 d.R] 36)=W9 at *
  go_wp2_with fail
  refine (nX d t _).mono ?_
  rw [HT.out]
  rintro _ w1 ⟨rfl,b1⟩
  have HB1:=Hd (aB HB0.out b1)
  clear b1 x0 x1 x2 x3 lx
  go_wp2_with fail
  go_ret
  exact ⟨aQ HR.out.symm,HB1.out⟩
 | true =>
  have HR:Hid (jd d t=bA d t):=by show _=_;unfold jd;rw [if_pos ht]
  have HT:=Hd ht
  obtain ⟨hd,h0,h1⟩:=aW.1 ht
  have h2:=eG hd
  have HD:=Hd hd
  have h3:t<=1099511627776:=by omega
  clear ht hd h1 h2
  go_enter Tryz.func128,Tryz.ntmps128
  go_upto_region 1 with fail
  generalize w.alloc (.cells #[.int .i64 d.W,.int .i64 d.H,.int .i64 d.T,.int .i64 d.R] 36)=W9 at *
  go_wp2_with fail
  refine (nX d t _).mono ?_
  rw [HT.out]
  rintro _ w1 ⟨rfl,b1⟩
  have HB1:=Hd (aB HB0.out b1)
  have hx:=aD b1 HXB.out
  clear b1 x0 x1 x2 x3 lx
  have x0:=aA (k:=0) hx rfl
  have x1:=aA (k:=1) hx rfl
  have x2:=aA (k:=2) hx rfl
  have x3:=aA (k:=3) hx rfl
  have lx:=aC hx
  clear hx
  go_wp2_with fail
  refine (kG d t _ HD.out h0 h3).mono ?_
  rintro _ w2 ⟨rfl,b2⟩
  have HB2:=Hd (aB HB1.out b2)
  clear b2 x0 x1 x2 x3 lx
  go_wp2_with fail
  go_ret
  exact ⟨aQ HR.out.symm,HB2.out⟩
theorem mg (d:Dev) (kinds place:List Int) (KA PA:Option Addr) (kn kc pn pc:Nat) (w:World) (hk:dA w KA kn kinds) (hp:dA w PA pn place) (hpc:pn<=pc) (hpb:pc<=1048576) :
  Calls Tryz.prog 48 #[.agg #[.int .i64 d.W,.int .i64 d.H,.int .i64 d.T,.int .i64 d.R],.slice KA kn kc,.slice PA pn pc] w fun e w'=>e = .returned (.bool (tb (di d kinds place)))/\Below w.heap.size w w':=by
 have HB0:=Hd (aF (Below.refl w.heap.size w) (.cells #[.int .i64 d.W,.int .i64 d.H,.int .i64 d.T,.int .i64 d.R] 36))
 have HXB:=Hd (aK w (.cells #[.int .i64 d.W,.int .i64 d.H,.int .i64 d.T,.int .i64 d.R] 36))
 have HK:=Hd hk
 have HP:=Hd hp
 clear hk hp
 cases hdv:dQ d with
 | false =>
  have HR:Hid (¬di d kinds place):=fun h=>by rw [h.dev] at hdv;cases hdv
  have HD:=Hd hdv
  clear hdv
  go_enter Tryz.func48,Tryz.ntmps48
  go_upto_region 1 with fail
  generalize w.alloc (.cells #[.int .i64 d.W,.int .i64 d.H,.int .i64 d.T,.int .i64 d.R] 36)=W0 at *
  have hx:=HXB.out
  have x0:=aA (k:=0) hx rfl
  have x1:=aA (k:=1) hx rfl
  have x2:=aA (k:=2) hx rfl
  have x3:=aA (k:=3) hx rfl
  have lx:=aC hx
  clear hx
  go_wp2_with fail
  refine (fO d _).mono ?_
  rw [HD.out]
  rintro _ w1 ⟨rfl,b1⟩
  have HB1:=Hd (aB HB0.out b1)
  clear b1
  clear x0 x1 x2 x3 lx
  go_wp2_with fail
  go_ret
  exact ⟨aP HR.out,HB1.out⟩
 | true =>
  have HDO:=Hd hdv
  clear hdv
  by_cases h64:kn<=64
  ·have d64:decide ((64:Int)<(kn:Int))=false:=decide_eq_false (by omega)
   by_cases hpk:pn=kn
   ·subst hpk
    have dn:((pn:Int) != (pn:Int))=false:=by simp
    go_enter Tryz.func48,Tryz.ntmps48
    go_upto_region 1 with fail
    generalize w.alloc (.cells #[.int .i64 d.W,.int .i64 d.H,.int .i64 d.T,.int .i64 d.R] 36)=W0 at *
    have hx:=HXB.out
    have x0:=aA (k:=0) hx rfl
    have x1:=aA (k:=1) hx rfl
    have x2:=aA (k:=2) hx rfl
    have x3:=aA (k:=3) hx rfl
    have lx:=aC hx
    clear hx
    go_wp2_with fail
    refine (fO d _).mono ?_
    rw [HDO.out]
    rintro _ w1 ⟨rfl,b1⟩
    have HB1:=Hd (aB HB0.out b1)
    have HX1:=Hd (aD b1 HXB.out)
    clear b1
    clear x0 x1 x2 x3 lx
    go_wp2_with fail
    go_loopw [27] (fun i wr=>∃k:Nat,k<=pn/\i = .int .i64 (k:Int)/\Below w1.heap.size w1 wr/\(∀j,j<k→au d (place[j]?.getD 0)=true/\bA d (place[j]?.getD 0)=fC (kinds[j]?.getD 0))/\(place.take k).Nodup) (fun i _=>pn - (intOf i).toNat)
    case atStart=>exact ⟨0,by omega,rfl,Below.refl _ _,fun j hj=>by omega,by simp⟩
    case round =>
     obtain ⟨k,hk,rfl,hb,hall⟩:=hrel
     have HB:=Hd hb
     have HALL:=Hd hall
     have HBW:=Hd (aB HB1.out hb)
     clear hb hall
     by_cases hlt:k<pn
     ·have hdk:decide ((k:Int)<(pn:Int))=true:=by simp;omega
      obtain ⟨bp,op,hPA,hbp,hcp⟩:=HP.out.2 (by omega)
      obtain ⟨bk,ok,hKA,hbk,hck⟩:=HK.out.2 (by omega)
      have HPA:=Hd hPA
      have HKA:=Hd hKA
      have cp:=(HBW.out.cell (p:=⟨bp,op+k,none⟩) hbp).trans (hcp k hlt)
      have ck:=(HBW.out.cell (p:=⟨bk,ok+k,none⟩) hbk).trans (hck k hlt)
      have lbp:=aL HBW.out hbp
      have lbk:=aL HBW.out hbk
      have HPT:=Hd (HP.out.take (k:=k) (by omega))
      have hkp:k<place.length:=by rw [HP.out.1];exact hlt
      have HSN:=Hd (bJ (z:=0) hkp)
      have hNO:¬(au d (place[k]?.getD 0)=true/\bA d (place[k]?.getD 0)=fC (kinds[k]?.getD 0))→¬di d kinds place:=fun h h'=>h (h'.tile k (by rw [HK.out.1];exact hlt))
      have HNO:=Hd hNO
      have hND:place[k]?.getD 0∈place.take k→¬di d kinds place:=fun h h'=>by
       have h1:=h'.once
       rw [←List.take_append_drop (k+1) place,HSN.out] at h1
       exact (dG.1 (List.nodup_append.1 h1).1).2 h
      have HND:=Hd hND
      have hG:au d (place[k]?.getD 0)=true/\bA d (place[k]?.getD 0)=fC (kinds[k]?.getD 0)→place[k]?.getD 0∉place.take k→(∀j,j<k+1→au d (place[j]?.getD 0)=true/\bA d (place[j]?.getD 0)=fC (kinds[j]?.getD 0))/\(place.take (k+1)).Nodup:=fun h1 h2=>⟨bS HALL.out.1 h1,by rw [HSN.out,dG];exact ⟨HALL.out.2,h2⟩⟩
      have HG:=Hd hG
      clear hcp hck hkp hNO hND hG hPA hKA
      obtain rfl:=HPA.out
      obtain rfl:=HKA.out
      generalize place[k]?.getD 0=t at *
      generalize kinds[k]?.getD 0=kd at *
      have hbt:=pu kd
      obtain ⟨bt,hbtE⟩:∃b,fC kd=b:=⟨_,rfl⟩
      rw [hbtE] at hbt HNO HG
      have HBE:=Hd hbtE
      clear hbtE
      have i0:(0:Int)<=(k:Int):=by omega
      have i1:(k:Int)<(pn:Int):=by omega
      have i2:(k:Int)<=(pc:Int):=by omega
      have hx:=aD HB.out HX1.out
      have x0:=aA (k:=0) hx rfl
      have x1:=aA (k:=1) hx rfl
      have x2:=aA (k:=2) hx rfl
      have x3:=aA (k:=3) hx rfl
      have lx:=aC hx
      clear hx
      go_wp2_with fail
      refine (qg kd _).mono ?_
      rw [HBE.out]
      rintro _ w2 ⟨rfl,rfl⟩
      by_cases h0:bt<0
      ·have HR:Hid (¬di d kinds place):=HNO.out fun h=>by have:=rA d t;omega
       have d0:decide (bt<0)=true:=decide_eq_true h0
       clear HG HNO HND
       go_wp2_with fail
       go_ret
       exact ⟨aP HR.out,HBW.out⟩
      ·have d0:decide (bt<0)=false:=decide_eq_false h0
       go_wp2_with fail
       refine (qh d t _).mono ?_
       by_cases hk1:jd d t=bt
       ·have HTI:=Hd ((tQ (by omega)).1 hk1)
        rw [hk1]
        have dk:(bt != bt)=false:=by simp
        clear hk1
        rintro _ w3 ⟨rfl,b3⟩
        have HB3:=Hd (aB HB.out b3)
        have HBW3:=Hd (aB HBW.out b3)
        clear b3 x0 x1 x2 x3 lx cp ck
        go_wp2_with fail
        refine (kT _ k pc _ t _ (HPT.out.below HBW3.out) (by omega)).mono ?_
        rintro _ w4 ⟨rfl,rfl⟩
        by_cases hm:t∈place.take k
        ·have HR:Hid (¬di d kinds place):=HND.out hm
         rw [decide_eq_true hm]
         clear HG HNO HND hm
         go_wp2_with fail
         go_ret
         exact ⟨aP HR.out,HBW3.out⟩
        ·have HG2:=Hd (HG.out HTI.out hm)
         rw [decide_eq_false hm]
         clear HG HNO HND hm
         go_wp2_with fail
         go_roundw
         case rel=>exact ⟨k+1,by omega,by go_num,HB3.out,HG2.out⟩
         case measure=>simp [intOf];omega
       ·have HR:Hid (¬di d kinds place):=HNO.out fun h=>hk1 ((tQ (by omega)).2 h)
        have dk:(jd d t != bt)=true:=by simp [hk1]
        clear HG HNO HND hk1
        rintro _ w3 ⟨rfl,b3⟩
        have HBW3:=Hd (aB HBW.out b3)
        clear b3 x0 x1 x2 x3 lx cp ck
        go_wp2_with fail
        go_ret
        exact ⟨aP HR.out,HBW3.out⟩
     ·have hkn:k=pn:=by omega
      have hdk:decide ((k:Int)<(pn:Int))=false:=by simp;omega
      have HR:Hid (di d kinds place):=⟨HDO.out,by rw [HK.out.1];exact h64,by rw [HP.out.1,HK.out.1],fun j hj=>HALL.out.1 j (by rw [hkn,←HK.out.1];exact hj),by
       have h:=HALL.out.2
       rwa [hkn,List.take_of_length_le (by rw [HP.out.1];exact Nat.le_refl _)] at h⟩
      clear HALL hkn
      go_wp2_with fail
      go_ret
      exact ⟨cO HR.out,HBW.out⟩
   ·have HR:Hid (¬di d kinds place):=fun h=>hpk (by rw [←HP.out.1,←HK.out.1];exact h.same)
    have dn:((pn:Int) != (kn:Int))=true:=by simp;omega
    clear hpk
    go_enter Tryz.func48,Tryz.ntmps48
    go_upto_region 1 with fail
    generalize w.alloc (.cells #[.int .i64 d.W,.int .i64 d.H,.int .i64 d.T,.int .i64 d.R] 36)=W0 at *
    have hx:=HXB.out
    have x0:=aA (k:=0) hx rfl
    have x1:=aA (k:=1) hx rfl
    have x2:=aA (k:=2) hx rfl
    have x3:=aA (k:=3) hx rfl
    have lx:=aC hx
    clear hx
    go_wp2_with fail
    refine (fO d _).mono ?_
    rw [HDO.out]
    rintro _ w1 ⟨rfl,b1⟩
    have HB1:=Hd (aB HB0.out b1)
    clear b1
    clear x0 x1 x2 x3 lx
    go_wp2_with fail
    go_ret
    exact ⟨aP HR.out,HB1.out⟩
  ·have HR:Hid (¬di d kinds place):=fun h=>h64 (by rw [←HK.out.1];exact h.len)
   have d64:decide ((64:Int)<(kn:Int))=true:=decide_eq_true (by omega)
   go_enter Tryz.func48,Tryz.ntmps48
   go_upto_region 1 with fail
   generalize w.alloc (.cells #[.int .i64 d.W,.int .i64 d.H,.int .i64 d.T,.int .i64 d.R] 36)=W0 at *
   have hx:=HXB.out
   have x0:=aA (k:=0) hx rfl
   have x1:=aA (k:=1) hx rfl
   have x2:=aA (k:=2) hx rfl
   have x3:=aA (k:=3) hx rfl
   have lx:=aC hx
   clear hx
   go_wp2_with fail
   refine (fO d _).mono ?_
   rw [HDO.out]
   rintro _ w1 ⟨rfl,b1⟩
   have HB1:=Hd (aB HB0.out b1)
   clear b1
   clear x0 x1 x2 x3 lx
   go_wp2_with fail
   go_ret
   exact ⟨aP HR.out,HB1.out⟩
theorem rC (n a b:Int) (w:World) (hn:0<=n/\n<=64) :
  Calls Tryz.prog 218 #[.int .i64 n,.agg #[.int .i64 a,.int .i64 b]] w fun e w'=>e = .returned (.bool (tb (fD n ⟨a,b⟩)))/\Below w.heap.size w w':=by
 have HB0:=Hd (aF (Below.refl w.heap.size w) (.cells #[.int .i64 a,.int .i64 b] 100))
 have HP:Hid (fD n ⟨a,b⟩↔(0<=a/\a<n)/\0<=b/\b<=4):=Iff.rfl
 cases hr:inR a 0 (n - 1) with
 | false =>
  have HR:Hid (¬fD n ⟨a,b⟩):=fun h=>by
   have h2:=(HP.out.1 h).1
   rw [aV.2 (by omega)] at hr
   cases hr
  have H1:=Hd hr
  clear hr
  go_enter Tryz.func218,Tryz.ntmps218
  go_wp2_with fail
  refine (aN a 0 (n - 1) _).mono ?_
  rw [H1.out]
  rintro _ w' ⟨rfl,rfl⟩
  go_wp2_with fail
  go_ret
  exact ⟨aP HR.out,HB0.out⟩
 | true =>
  have ha:=aV.1 hr
  have H1:=Hd hr
  have HR:Hid (inR b 0 4=tb (fD n ⟨a,b⟩)):=yN (by rw [aV,HP.out];omega)
  clear hr ha
  go_enter Tryz.func218,Tryz.ntmps218
  go_wp2_with fail
  refine (aN a 0 (n - 1) _).mono ?_
  rw [H1.out]
  rintro _ w' ⟨rfl,rfl⟩
  go_wp2_with fail
  refine (aN b 0 4 _).mono ?_
  rintro _ w' ⟨rfl,rfl⟩
  go_wp2_with fail
  go_ret
  exact ⟨bT HR.out,HB0.out⟩
theorem mh (n:Int) (cs:List Cn) (CA:Option Addr) (cn cc:Nat) (w:World) (hC:RdC w w.heap.size (bD cs) (.slice CA cn cc)) (hbd:∀c∈cs,c.sinks.length<=1048576) :
  Calls Tryz.prog 130 #[.int .i64 n,.slice CA cn cc] w fun e w'=>e = .returned (.bool (tb (gY n cs)))/\Below w.heap.size w w':=by
 have hcl:=hC.cnN
 have HCL:=Hd hcl
 have HC:=Hd hC
 have HBD:=Hd hbd
 clear hC hbd
 cases hr:inR n 0 64 with
 | false =>
  have HR:Hid (¬gY n cs):=fun h=>by rw [aV.2 h.blocks] at hr;cases hr
  have H1:=Hd hr
  clear hr
  go_enter Tryz.func130,Tryz.ntmps130
  go_wp2_with fail
  refine (aN n 0 64 _).mono ?_
  rw [H1.out]
  rintro _ w' ⟨rfl,rfl⟩
  go_wp2_with fail
  go_ret
  exact ⟨aP HR.out,Below.refl _ _⟩
 | true =>
  have hn:=aV.1 hr
  have H1:=Hd hr
  clear hr
  by_cases h100:cn<=100
  ·have d100:decide ((100:Int)<(cn:Int))=false:=decide_eq_false (by omega)
   clear hcl
   go_enter Tryz.func130,Tryz.ntmps130
   go_wp2_with fail
   refine (aN n 0 64 _).mono ?_
   rw [H1.out]
   rintro _ w' ⟨rfl,rfl⟩
   go_wp2_with fail
   go_loopw [19] (fun i wr=>∃k:Nat,k<=cn/\i = .int .i64 (k:Int)/\Below w.heap.size w wr/\∀j,j<k→lw n (cs[j]?.getD Cn.zero)) (fun i _=>cn - (intOf i).toNat)
   case atStart=>exact ⟨0,by omega,rfl,Below.refl _ _,fun j hj=>by omega⟩
   case round =>
    obtain ⟨k,hk,rfl,hb,hall⟩:=hrel
    have HB1:=Hd hb
    have HALL:=Hd hall
    clear hb hall
    by_cases hlt:k<cn
    ·have hdk:decide ((k:Int)<(cn:Int))=true:=by simp;omega
     have hkl:k<cs.length:=by rw [HCL.out];exact hlt
     obtain ⟨bc,oc,SA,m,mc,hCA,hbc,c0,c1,c2,c3,rs⟩:=HC.out.cn (k:=k) hkl
     have HCA:=Hd hCA
     have lbc:=aL HB1.out hbc
     rw [←HB1.out.cell (p:=⟨bc,oc+k * 4,none⟩) hbc] at c0
     rw [←HB1.out.cell (p:=⟨bc,oc+k * 4+1,none⟩) hbc] at c1
     rw [←HB1.out.cell (p:=⟨bc,oc+k * 4+2,none⟩) hbc] at c2
     rw [←HB1.out.cell (p:=⟨bc,oc+k * 4+3,none⟩) hbc] at c3
     have hg:lw n (cs[k]?.getD Cn.zero)→∀j,j<k+1→lw n (cs[j]?.getD Cn.zero):=fun h=>bS HALL.out h
     have hno:gY n cs→lw n (cs[k]?.getD Cn.zero):=fun h=>by rw [List.getElem?_eq_getElem hkl];exact h.fit _ (List.getElem_mem hkl)
     have hbd1:=HBD.out _ (List.getElem_mem hkl)
     rw [show cs[k]=cs[k]?.getD Cn.zero by rw [List.getElem?_eq_getElem hkl];rfl] at hbd1
     have HG:=Hd hg
     have HNC:=Hd hno
     clear hkl hg hno hCA
     obtain rfl:=HCA.out
     generalize cs[k]?.getD Cn.zero=c at *
     obtain ⟨N,⟨a,b⟩,ss⟩:=c
     simp only at c0 c1 c2 c3 hbd1
     have HSS:=Hd (show RdC w w.heap.size (bM ss) (.slice SA m mc) from rs)
     have HSL:Hid (ss.length=m):=HSS.out.pinN
     have hm:m<=1048576:=by rw [←HSL.out];exact hbd1
     have i0:(0:Int)<=(k:Int):=by omega
     have i1:(k:Int)<(cn:Int):=by omega
     have hy:=aK wr (.cells #[.int .i64 N,.int .i64 a,.int .i64 b,.slice SA m mc] 158)
     have HYB:=Hd hy
     have y0:=aA (k:=0) hy rfl
     have y1:=aA (k:=1) hy rfl
     have y2:=aA (k:=2) hy rfl
     have y3:=aA (k:=3) hy rfl
     have ly:=aC hy
     have HB2':=Hd (aF HB1.out (.cells #[.int .i64 N,.int .i64 a,.int .i64 b,.slice SA m mc] 158))
     clear hy rs hbd1
     go_upto_region 6 with fail
     generalize wr.alloc (.cells #[.int .i64 N,.int .i64 a,.int .i64 b,.slice SA m mc] 158)=W6 at *
     cases hr2:inR (m:Int) 1 120 with
     | false =>
      have HR:Hid (¬gY n cs):=fun h=>by
       have h2:=(HNC.out h).len
       change 1<=ss.length/\ss.length<=120 at h2
       rw [HSL.out] at h2
       rw [aV.2 (by omega)] at hr2
       cases hr2
      have H2:=Hd hr2
      clear hr2 HG HNC
      go_wp2_with fail
      refine (aN (m:Int) 1 120 _).mono ?_
      rw [H2.out]
      rintro _ w' ⟨rfl,rfl⟩
      clear y0 y1 y2 y3 ly c0 c1 c2 c3 lbc
      go_wp2_with fail
      go_ret
      exact ⟨aP HR.out,HB2'.out⟩
     | true =>
      have hm2:=aV.1 hr2
      have H2:=Hd hr2
      clear hr2
      go_wp2_with fail
      refine (aN (m:Int) 1 120 _).mono ?_
      rw [H2.out]
      rintro _ w' ⟨rfl,rfl⟩
      go_wp2_with fail
      refine (rC n a b _ hn).mono ?_
      by_cases hf:fD n ⟨a,b⟩
      ·rw [aa hf]
       have HGC:Hid ((∀p∈ss,fD n p)→∀j,j<k+1→lw n (cs[j]?.getD Cn.zero)):=fun h=>HG.out ⟨⟨by show 1<=ss.length;rw [HSL.out];omega,by show ss.length<=120;rw [HSL.out];omega⟩,hf,h⟩
       rintro _ w4 ⟨rfl,b4⟩
       have HB2:=Hd (aB HB2'.out b4)
       have hy:=aD b4 HYB.out
       clear b4 y0 y1 y2 y3 ly c0 c1 c2 c3 lbc HG hf
       have y3:=aA (k:=3) hy rfl
       have ly:=aC hy
       clear hy
       go_wp2_with fail
       clear y3 ly
       go_loopw [38] (fun i wr=>∃j:Nat,j<=m/\i = .int .i64 (j:Int)/\Below w.heap.size w wr/\∀q,q<j→fD n (ss[q]?.getD bQ.zero)) (fun i _=>m - (intOf i).toNat)
       case atStart=>exact ⟨0,by omega,rfl,HB2.out,fun q hq=>by omega⟩
       case round =>
        obtain ⟨j,hj,rfl,hb,hall⟩:=hrel
        have HB3:=Hd hb
        have HA3:=Hd hall
        clear hb hall
        by_cases hltj:j<m
        ·have hdj:decide ((j:Int)<(m:Int))=true:=by simp;omega
         have hjl:j<ss.length:=by rw [HSL.out];exact hltj
         obtain ⟨bp,op,hSA,hbp,d0,d1⟩:=HSS.out.pin (k:=j) hjl
         have HSA:=Hd hSA
         have lbp:=aL HB3.out hbp
         rw [←HB3.out.cell (p:=⟨bp,op+j * 2,none⟩) hbp] at d0
         rw [←HB3.out.cell (p:=⟨bp,op+j * 2+1,none⟩) hbp] at d1
         have HG:Hid (fD n (ss[j]?.getD bQ.zero)→∀q,q<j+1→fD n (ss[q]?.getD bQ.zero)):=fun h=>bS HA3.out h
         have HN:Hid (¬fD n (ss[j]?.getD bQ.zero)→¬gY n cs):=fun h h'=>h (by
          rw [List.getElem?_eq_getElem hjl]
          exact (HNC.out h').sinks _ (List.getElem_mem hjl))
         clear hjl hSA
         obtain rfl:=HSA.out
         generalize ss[j]?.getD bQ.zero=s at *
         obtain ⟨x,y⟩:=s
         simp only at d0 d1
         have i2:(0:Int)<=(j:Int):=by omega
         have i3:(j:Int)<(m:Int):=by omega
         have hq:=aK wr (.cells #[.int .i64 x,.int .i64 y] 100)
         have q0:=aA (k:=0) hq rfl
         have q1:=aA (k:=1) hq rfl
         have lq:=aC hq
         have HBP:=Hd (aF HB3.out (.cells #[.int .i64 x,.int .i64 y] 100))
         clear hq
         go_wp2_with fail
         refine (rC n x y _ hn).mono ?_
         by_cases hf:fD n ⟨x,y⟩
         ·rw [aa hf]
          have HG2:=Hd (HG.out hf)
          rintro _ w4 ⟨rfl,b4⟩
          have HB4:=Hd (aB HBP.out b4)
          clear b4 q0 q1 lq d0 d1 HG HN hf lbp
          go_wp2_with fail
          go_roundw
          case rel=>exact ⟨j+1,by omega,by go_num,HB4.out,HG2.out⟩
          case measure=>simp [intOf];omega
         ·rw [bF hf]
          have HR:=Hd (HN.out hf)
          rintro _ w4 ⟨rfl,b4⟩
          have HB4:=Hd (aB HBP.out b4)
          clear b4 q0 q1 lq d0 d1 HG HN hf lbp
          go_wp2_with fail
          go_ret
          exact ⟨aP HR.out,HB4.out⟩
        ·have hjm:j=m:=by omega
         have hdj:decide ((j:Int)<(m:Int))=false:=by simp;omega
         have HG2:=Hd (HGC.out (fun p hp=>by
          obtain ⟨q,hq,rfl⟩:=List.getElem_of_mem hp
          have h:=HA3.out q (by rw [hjm,←HSL.out];exact hq)
          rwa [List.getElem?_eq_getElem hq] at h))
         clear HA3 hjm
         go_wp2_with fail
         go_roundw
         case rel=>exact ⟨k+1,by omega,by go_num,HB3.out,HG2.out⟩
         case measure=>simp [intOf];omega
      ·rw [bF hf]
       have HR:Hid (¬gY n cs):=fun h=>hf (HNC.out h).src
       rintro _ w4 ⟨rfl,b4⟩
       have HB2:=Hd (aB HB2'.out b4)
       clear b4 y0 y1 y2 y3 ly c0 c1 c2 c3 lbc HG hf
       go_wp2_with fail
       go_ret
       exact ⟨aP HR.out,HB2.out⟩
    ·have hkn:k=cn:=by omega
     have hdk:decide ((k:Int)<(cn:Int))=false:=by simp;omega
     have HR:Hid (gY n cs):=⟨hn,by rw [HCL.out];exact h100,fun c hc=>by
      obtain ⟨j,hj,rfl⟩:=List.getElem_of_mem hc
      have h:=HALL.out j (by rw [hkn,←HCL.out];exact hj)
      rwa [List.getElem?_eq_getElem hj] at h⟩
     clear HALL hkn
     go_wp2_with fail
     go_ret
     exact ⟨cO HR.out,HB1.out⟩
  ·have HR:Hid (¬gY n cs):=fun h=>h100 (by rw [←hcl];exact h.len)
   have d100:decide ((100:Int)<(cn:Int))=true:=decide_eq_true (by omega)
   clear hcl
   go_enter Tryz.func130,Tryz.ntmps130
   go_wp2_with fail
   refine (aN n 0 64 _).mono ?_
   rw [H1.out]
   rintro _ w' ⟨rfl,rfl⟩
   go_wp2_with fail
   go_ret
   exact ⟨aP HR.out,Below.refl _ _⟩
theorem jm (xs bs:List Cn) (CA DA:Option Addr) (cn cc dn dc:Nat) (w:World) (hC:RdC w w.heap.size (bD xs) (.slice CA cn cc)) (hD:RdC w w.heap.size (bD bs) (.slice DA dn dc)) (hn:cn<=1048576) (hbd:∀c∈xs,c.sinks.length<=1048576) :
  Calls Tryz.prog 46 #[.slice CA cn cc,.slice DA dn dc] w fun e w'=>e = .returned (.bool (tb (xs=bs)))/\Below w.heap.size w w':=by
 have hcl:=hC.cnN
 have hdl:=hD.cnN
 have HCL:=Hd hcl
 have HDL:=Hd hdl
 have HC:=Hd hC
 have HD0:=Hd hD
 have HBD:=Hd hbd
 clear hC hD hbd
 by_cases hcd:cn=dn
 ·subst hcd
  have dn0:((cn:Int) != (cn:Int))=false:=by simp
  clear hcl hdl
  go_enter Tryz.func46,Tryz.ntmps46
  go_wp2_with fail
  go_loopw [14] (fun i wr=>∃k:Nat,k<=cn/\i = .int .i64 (k:Int)/\Below w.heap.size w wr/\∀j,j<k→xs[j]?.getD Cn.zero=bs[j]?.getD Cn.zero) (fun i _=>cn - (intOf i).toNat)
  case atStart=>exact ⟨0,by omega,rfl,Below.refl _ _,fun j hj=>by omega⟩
  case round =>
   obtain ⟨k,hk,rfl,hb,hall⟩:=hrel
   have HB1:=Hd hb
   have HALL:=Hd hall
   clear hb hall
   by_cases hlt:k<cn
   ·have hdk:decide ((k:Int)<(cn:Int))=true:=by simp;omega
    have hkl:k<xs.length:=by rw [HCL.out];exact hlt
    have hkm:k<bs.length:=by rw [HDL.out];exact hlt
    obtain ⟨bc,oc,SA,m,mc,hCA,hbc,c0,c1,c2,c3,rs⟩:=HC.out.cn (k:=k) hkl
    obtain ⟨bd,od,TA,m',mc',hDA,hbd,d0,d1,d2,d3,rt⟩:=HD0.out.cn (k:=k) hkm
    have HCA:=Hd hCA
    have HDA:=Hd hDA
    have lbc:=aL HB1.out hbc
    have lbd:=aL HB1.out hbd
    rw [←HB1.out.cell (p:=⟨bc,oc+k * 4,none⟩) hbc] at c0
    rw [←HB1.out.cell (p:=⟨bd,od+k * 4,none⟩) hbd] at d0
    rw [←HB1.out.cell (p:=⟨bc,oc+k * 4+1,none⟩) hbc] at c1
    rw [←HB1.out.cell (p:=⟨bd,od+k * 4+1,none⟩) hbd] at d1
    rw [←HB1.out.cell (p:=⟨bc,oc+k * 4+2,none⟩) hbc] at c2
    rw [←HB1.out.cell (p:=⟨bd,od+k * 4+2,none⟩) hbd] at d2
    rw [←HB1.out.cell (p:=⟨bc,oc+k * 4+3,none⟩) hbc] at c3
    rw [←HB1.out.cell (p:=⟨bd,od+k * 4+3,none⟩) hbd] at d3
    have hg:xs[k]?.getD Cn.zero=bs[k]?.getD Cn.zero→∀j,j<k+1→xs[j]?.getD Cn.zero=bs[j]?.getD Cn.zero:=fun h=>bS HALL.out h
    have hno:xs=bs→xs[k]?.getD Cn.zero=bs[k]?.getD Cn.zero:=fun h=>by rw [h]
    have hbd1:=HBD.out _ (List.getElem_mem hkl)
    rw [show xs[k]=xs[k]?.getD Cn.zero by rw [List.getElem?_eq_getElem hkl];rfl] at hbd1
    have HG:=Hd hg
    have HNC:=Hd hno
    clear hkl hkm hg hno hCA hDA
    obtain rfl:=HCA.out
    obtain rfl:=HDA.out
    generalize xs[k]?.getD Cn.zero=a at *
    generalize bs[k]?.getD Cn.zero=b at *
    obtain ⟨N,⟨p,q⟩,ss⟩:=a
    obtain ⟨N',⟨p',q'⟩,ts⟩:=b
    simp only at c0 c1 c2 c3 d0 d1 d2 d3 hbd1
    have HSS:=Hd (show RdC w w.heap.size (bM ss) (.slice SA m mc) from rs)
    have HTS:=Hd (show RdC w w.heap.size (bM ts) (.slice TA m' mc') from rt)
    have HSL:Hid (ss.length=m):=HSS.out.pinN
    have HTL:Hid (ts.length=m'):=HTS.out.pinN
    have hm:m<=1048576:=by rw [←HSL.out];exact hbd1
    have i0:(0:Int)<=(k:Int):=by omega
    have i1:(k:Int)<(cn:Int):=by omega
    clear rs rt hbd1
    by_cases hN:N=N'
    ·subst hN
     have dN:(N != N)=false:=by simp
     by_cases hpq:p=p'/\q=q'
     ·obtain ⟨rfl,rfl⟩:=hpq
      by_cases hmm:m=m'
      ·subst hmm
       have dm:((m:Int) != (m:Int))=false:=by simp
       have HGC:Hid (ss=ts→∀j,j<k+1→xs[j]?.getD Cn.zero=bs[j]?.getD Cn.zero):=fun h=>HG.out (by rw [h])
       clear HG
       go_upto_region 6 with fail
       have hsub:=aZ wr
       have hsc:=aR wr
       refine aI wr (by kernel_rfl) (by kernel_rfl) (Below.refl _ _) ?_
       repeat (go_big_quiet_step ((fail)))
       refine wpQuiet_nil ?_
       rintro _ ⟨⟨w5,hD⟩,rfl⟩
       clear hsub hsc
       have HD:=Hd (aB HB1.out hD)
       clear hD
       have HBD1:=Hd HD.out
       have C3:=Hd ((HB1.out.cell (p:=⟨bc,oc+k * 4+3,none⟩) hbc).symm.trans c3)
       have D3:=Hd ((HB1.out.cell (p:=⟨bd,od+k * 4+3,none⟩) hbd).symm.trans d3)
       have c3':=(HD.out.cell (p:=⟨bc,oc+k * 4+3,none⟩) hbc).trans (((HB1.out.cell (p:=⟨bc,oc+k * 4+3,none⟩) hbc)).symm.trans c3)
       have d3':=(HD.out.cell (p:=⟨bd,od+k * 4+3,none⟩) hbd).trans (((HB1.out.cell (p:=⟨bd,od+k * 4+3,none⟩) hbd)).symm.trans d3)
       have lbc':=aL HD.out hbc
       have lbd':=aL HD.out hbd
       clear c0 c1 c2 c3 d0 d1 d2 d3 lbc lbd
       go_wp2_with fail
       clear c3' d3' lbc' lbd'
       go_loopw [62] (fun i wr=>∃j:Nat,j<=m/\i = .int .i64 (j:Int)/\Below w.heap.size w wr/\∀q,q<j→ss[q]?.getD bQ.zero=ts[q]?.getD bQ.zero) (fun i _=>m - (intOf i).toNat)
       case atStart=>exact ⟨0,by omega,rfl,HD.out,fun q hq=>by omega⟩
       case round =>
        obtain ⟨j,hj,rfl,hb,hall⟩:=hrel
        have HB1:=Hd hb
        have HA3:=Hd hall
        clear hb hall
        by_cases hltj:j<m
        ·have hdj:decide ((j:Int)<(m:Int))=true:=by simp;omega
         have hjl:j<ss.length:=by rw [HSL.out];exact hltj
         have hjt:j<ts.length:=by rw [HTL.out];exact hltj
         obtain ⟨bp,op,hSA,hbp,d0,d1⟩:=HSS.out.pin (k:=j) hjl
         obtain ⟨bq,oq,hTA,hbq,e0,e1⟩:=HTS.out.pin (k:=j) hjt
         have c3':=(HB1.out.cell (p:=⟨bc,oc+k * 4+3,none⟩) hbc).trans C3.out
         have d3':=(HB1.out.cell (p:=⟨bd,od+k * 4+3,none⟩) hbd).trans D3.out
         have lbc':=aL HB1.out hbc
         have lbd':=aL HB1.out hbd
         have HSA:=Hd hSA
         have HTA:=Hd hTA
         have lbp:=aL HB1.out hbp
         have lbq:=aL HB1.out hbq
         rw [←HB1.out.cell (p:=⟨bp,op+j * 2,none⟩) hbp] at d0
         rw [←HB1.out.cell (p:=⟨bp,op+j * 2+1,none⟩) hbp] at d1
         rw [←HB1.out.cell (p:=⟨bq,oq+j * 2,none⟩) hbq] at e0
         rw [←HB1.out.cell (p:=⟨bq,oq+j * 2+1,none⟩) hbq] at e1
         have HG:Hid (ss[j]?.getD bQ.zero=ts[j]?.getD bQ.zero→∀q,q<j+1→ss[q]?.getD bQ.zero=ts[q]?.getD bQ.zero):=fun h=>bS HA3.out h
         have HN:Hid (ss[j]?.getD bQ.zero≠ts[j]?.getD bQ.zero→xs≠bs):=fun h h'=>h (by
          have h2:=HNC.out h'
          injection h2 with _ _ h3
          rw [h3])
         clear hjl hjt hSA hTA
         obtain rfl:=HSA.out
         obtain rfl:=HTA.out
         generalize ss[j]?.getD bQ.zero=s at *
         generalize ts[j]?.getD bQ.zero=t at *
         obtain ⟨x,y⟩:=s
         obtain ⟨x',y'⟩:=t
         simp only at d0 d1 e0 e1
         have i2:(0:Int)<=(j:Int):=by omega
         have i3:(j:Int)<(m:Int):=by omega
         by_cases hxy:x=x'/\y=y'
         ·obtain ⟨rfl,rfl⟩:=hxy
          have HG2:=Hd (HG.out rfl)
          clear HG HN
          go_upto_region 11 with fail
          have hsub:=aZ wr
          have hsc:=aR wr
          refine aI wr (by kernel_rfl) (by kernel_rfl) (Below.refl _ _) ?_
          repeat (go_big_quiet_step ((fail)))
          refine wpQuiet_nil ?_
          rintro _ ⟨⟨w5,hD⟩,rfl⟩
          clear hsub hsc
          have HD:=Hd (aB HB1.out hD)
          clear hD
          clear d0 d1 e0 e1 lbp lbq c3' d3' lbc' lbd'
          go_wp2_with fail
          go_roundw
          case rel=>exact ⟨j+1,by omega,by go_num,HD.out,HG2.out⟩
          case measure=>simp [intOf];omega
         ·have HR:Hid (¬xs=bs):=HN.out fun h=>hxy (by injection h with h1 h2;exact ⟨h1,h2⟩)
          clear HG HN
          by_cases hx:x=x'
          ·subst hx
           have dy:(y==y')=false:=by
            cases hb:y==y' with
            | false=>rfl
            | true=>exact absurd ⟨rfl,by simpa using hb⟩ hxy
           go_upto_region 11 with fail
           have hsub:=aZ wr
           have hsc:=aR wr
           refine aI wr (by kernel_rfl) (by kernel_rfl) (Below.refl _ _) ?_
           repeat (go_big_quiet_step ((fail)))
           refine wpQuiet_nil ?_
           rintro _ ⟨⟨w5,hD⟩,rfl⟩
           clear hsub hsc
           have HD:=Hd (aB HB1.out hD)
           clear hD
           clear d0 d1 e0 e1 lbp lbq c3' d3' lbc' lbd'
           go_wp2_with fail
           go_ret
           exact ⟨aP HR.out,HD.out⟩
          ·have dx:(x==x')=false:=by
            cases hb:x==x' with
            | false=>rfl
            | true=>exact absurd (by simpa using hb) hx
           go_upto_region 11 with fail
           have hsub:=aZ wr
           have hsc:=aR wr
           refine aI wr (by kernel_rfl) (by kernel_rfl) (Below.refl _ _) ?_
           repeat (go_big_quiet_step ((fail)))
           refine wpQuiet_nil ?_
           rintro _ ⟨⟨w5,hD⟩,rfl⟩
           clear hsub hsc
           have HD:=Hd (aB HB1.out hD)
           clear hD
           clear d0 d1 e0 e1 lbp lbq c3' d3' lbc' lbd'
           go_wp2_with fail
           go_ret
           exact ⟨aP HR.out,HD.out⟩
        ·have hjm:j=m:=by omega
         have hdj:decide ((j:Int)<(m:Int))=false:=by simp;omega
         have HG2:=Hd (HGC.out (by
          apply List.ext_getElem
          ·rw [HSL.out,HTL.out]
          ·intro q h1 h2
           have h:=HA3.out q (by rw [hjm,←HSL.out];exact h1)
           rwa [List.getElem?_eq_getElem h1,List.getElem?_eq_getElem h2] at h))
         clear HA3 hjm
         go_wp2_with fail
         go_roundw
         case rel=>exact ⟨k+1,by omega,by go_num,HB1.out,HG2.out⟩
         case measure=>simp [intOf];omega
      ·have HR:Hid (¬xs=bs):=fun h=>hmm (by
        have h2:=HNC.out h
        injection h2 with _ _ h3
        rw [←HSL.out,←HTL.out,h3])
       have dm:((m:Int) != (m':Int))=true:=by simp;omega
       clear HG HNC hmm
       go_upto_region 6 with fail
       have hsub:=aZ wr
       have hsc:=aR wr
       refine aI wr (by kernel_rfl) (by kernel_rfl) (Below.refl _ _) ?_
       repeat (go_big_quiet_step ((fail)))
       refine wpQuiet_nil ?_
       rintro _ ⟨⟨w5,hD⟩,rfl⟩
       clear hsub hsc
       have HD:=Hd (aB HB1.out hD)
       clear hD
       clear c0 c1 c2 c3 d0 d1 d2 d3 lbc lbd
       go_wp2_with fail
       go_ret
       exact ⟨aP HR.out,HD.out⟩
     ·have HR:Hid (¬xs=bs):=fun h=>hpq (by
       have h2:=HNC.out h
       injection h2 with _ h3 _
       injection h3 with h4 h5
       exact ⟨h4,h5⟩)
      clear HG HNC
      by_cases hp:p=p'
      ·subst hp
       have dq:(q==q')=false:=by
        cases hb:q==q' with
        | false=>rfl
        | true=>exact absurd ⟨rfl,by simpa using hb⟩ hpq
       go_upto_region 6 with fail
       have hsub:=aZ wr
       have hsc:=aR wr
       refine aI wr (by kernel_rfl) (by kernel_rfl) (Below.refl _ _) ?_
       repeat (go_big_quiet_step ((fail)))
       refine wpQuiet_nil ?_
       rintro _ ⟨⟨w5,hD⟩,rfl⟩
       clear hsub hsc
       have HD:=Hd (aB HB1.out hD)
       clear hD
       clear c0 c1 c2 c3 d0 d1 d2 d3 lbc lbd
       go_wp2_with fail
       go_ret
       exact ⟨aP HR.out,HD.out⟩
      ·have dp:(p==p')=false:=by
        cases hb:p==p' with
        | false=>rfl
        | true=>exact absurd (by simpa using hb) hp
       go_upto_region 6 with fail
       have hsub:=aZ wr
       have hsc:=aR wr
       refine aI wr (by kernel_rfl) (by kernel_rfl) (Below.refl _ _) ?_
       repeat (go_big_quiet_step ((fail)))
       refine wpQuiet_nil ?_
       rintro _ ⟨⟨w5,hD⟩,rfl⟩
       clear hsub hsc
       have HD:=Hd (aB HB1.out hD)
       clear hD
       clear c0 c1 c2 c3 d0 d1 d2 d3 lbc lbd
       go_wp2_with fail
       go_ret
       exact ⟨aP HR.out,HD.out⟩
    ·have HR:Hid (¬xs=bs):=fun h=>hN (by
      have h2:=HNC.out h
      injection h2 with h3 _ _)
     have dN:(N != N')=true:=by simp [hN]
     clear HG HNC hN
     go_upto_region 6 with fail
     have hsub:=aZ wr
     have hsc:=aR wr
     refine aI wr (by kernel_rfl) (by kernel_rfl) (Below.refl _ _) ?_
     repeat (go_big_quiet_step ((fail)))
     refine wpQuiet_nil ?_
     rintro _ ⟨⟨w5,hD⟩,rfl⟩
     clear hsub hsc
     have HD:=Hd (aB HB1.out hD)
     clear hD
     clear c0 c1 c2 c3 d0 d1 d2 d3 lbc lbd
     go_wp2_with fail
     go_ret
     exact ⟨aP HR.out,HD.out⟩
   ·have hkn:k=cn:=by omega
    have hdk:decide ((k:Int)<(cn:Int))=false:=by simp;omega
    have HR:Hid (xs=bs):=by
     show xs=bs
     apply List.ext_getElem
     ·rw [HCL.out,HDL.out]
     ·intro q h1 h2
      have h:=HALL.out q (by rw [hkn,←HCL.out];exact h1)
      rwa [List.getElem?_eq_getElem h1,List.getElem?_eq_getElem h2] at h
    clear HALL hkn
    go_wp2_with fail
    go_ret
    exact ⟨cO HR.out,HB1.out⟩
 ·have HR:Hid (¬xs=bs):=fun h=>hcd (by rw [←hcl,←hdl,h])
  have dn0:((cn:Int) != (dn:Int))=true:=by simp;omega
  clear hcl hdl hcd
  go_enter Tryz.func46,Tryz.ntmps46
  go_wp2_with fail
  go_ret
  exact ⟨aP HR.out,Below.refl _ _⟩
theorem vF (d:Dev) (t p:Int) (w:World) :
  Calls Tryz.prog 219 #[.agg #[.int .i64 d.W,.int .i64 d.H,.int .i64 d.T,.int .i64 d.R],.int .i64 t,.int .i64 p] w fun e w'=>e = .returned (.int .i64 (lL d t p))/\Below w.heap.size w w':=by
 have HO:Hid (lL d t p=if au d t=true/\0<=p/\p<iC (bA d t) then t * aX d+p else -1):=rfl
 go_enter Tryz.func219,Tryz.ntmps219
 go_wp2_with fail
 cases ht:au d t with
 | false =>
  refine (gy ht _).mono ?_
  rintro e w1 ⟨rfl,b1⟩
  have B1:=Hd (aB (aF (Below.refl _ _) _) b1)
  have HT:=Hd ht
  clear b1 ht
  go_wp2_with fail
  go_ret
  exact ⟨aQ (by rw [HO.out,if_neg (by rw [HT.out];simp)]),B1.out⟩
 | true =>
  refine (gy ht _).mono ?_
  rintro e w1 ⟨rfl,b1⟩
  have B1:=Hd (aB (aF (Below.refl _ _) _) b1)
  have D1:=Hd b1
  obtain ⟨hcc,hff⟩:=bI b1
  have hs1:=b1.size
  simp only [World.size_alloc] at hs1
  obtain ⟨hd,ht0,ht1⟩:=aW.1 ht
  have hWH:=eG hd
  have hT:=bC hd
  have hp:=dw hd
  have hop:=mD d t
  have HM:=Hd (iM ht0 (show t<=35 by omega) (show 0<=aX d by omega) hp.2)
  have HT:=Hd ht
  have HD:=Hd hd
  clear b1 ht hd
  go_wp2_with fail
  refine (kG d t _ HD.out ht0 (by omega)).mono ?_
  rintro e w2 ⟨rfl,b2⟩
  have B2:=Hd (aB B1.out b2)
  have D2:=Hd (aB D1.out b2)
  have hs2:=b2.size
  clear b2 hcc hff
  obtain ⟨hcc,hff⟩:=bI D2.out
  generalize hK:bA d t=K at *
  have HK:=Hd hK
  clear hK
  go_wp2_with (go_at_call 258;refine (pF _ _).mono ?_;rintro e w' ⟨rfl,rfl⟩)
  generalize hQ:iC K=Q at *
  have HQ:=Hd hQ
  clear hQ
  have e3:IntKind.i64.wrap (Q - 1)=Q - 1:=IntWalk.i64_in _ (by omega)
  cases hin:inR p 0 (Q - 1) with
  | false =>
   have HI:=Hd hin
   clear hin
   go_wp2_with (go_at_call 93;refine (bL HI.out _).mono ?_;rintro e w' ⟨rfl,rfl⟩)
   go_ret
   exact ⟨aQ (by rw [HO.out,if_neg];rintro ⟨_,h0,h1⟩;have:=nI.1 HI.out;omega),B2.out⟩
  | true =>
   have HI:=Hd hin
   have hi:=aV.1 hin
   clear hin
   go_wp2_with (go_at_call 93;refine (bL HI.out _).mono ?_;rintro e w' ⟨rfl,rfl⟩)
   refine (fP d _ (by omega) (by omega)).mono ?_
   rintro e w3 ⟨rfl,b3⟩
   have B3:=Hd (aB B2.out b3)
   have hM:=HM.out
   clear b3 hcc hff e3
   go_wp2_with fail
   go_ret
   exact ⟨aQ (by rw [HO.out,if_pos ⟨HT.out,by omega,by omega⟩]),B3.out⟩
theorem og (d:Dev) (n:Int) (w:World) :
  Calls Tryz.prog 223 #[.agg #[.int .i64 d.W,.int .i64 d.H,.int .i64 d.T,.int .i64 d.R],.int .i64 n] w fun e w'=>e = .returned (.bool (bH d n && decide (n % aX d<5)))/\Below w.heap.size w w':=by
 go_enter Tryz.func223,Tryz.ntmps223
 go_wp2_with fail
 cases hno:bH d n with
 | false =>
  have HNO:=Hd hno
  refine (eU d n _).mono ?_
  rw [hno]
  rintro e w1 ⟨rfl,b1⟩
  have HB1:=Hd (aB (aF (Below.refl _ _) _) b1)
  clear b1 hno
  go_wp2_with fail
  go_ret
  exact ⟨bT (by rw [HNO.out];rfl),HB1.out⟩
 | true =>
  have hni:fF d n=true:=by unfold bH at hno;rw [Bool.and_eq_true] at hno;exact hno.1
  have HNI:=Hd hni
  have HNO:=Hd hno
  refine (eU d n _).mono ?_
  rw [hno]
  rintro e w1 ⟨rfl,b1⟩
  have HB1:=Hd b1
  have hs1:=b1.size
  simp only [World.size_alloc] at hs1
  obtain ⟨hcc,hff⟩:=bI b1
  clear b1 hno hni
  go_wp2_with fail
  refine (iy d n _ HNI.out).mono ?_
  rintro e w2 ⟨rfl,b2⟩
  have HB2:=Hd (aB (aF (Below.refl _ _) _) (aB HB1.out b2))
  clear b2 hcc hff
  generalize hk:n % aX d=k at *
  have HK:=Hd hk
  clear hk
  by_cases h5:k<5
  ·have q:decide (k<5)=true:=decide_eq_true h5
   go_wp2_with fail
   go_ret
   exact ⟨bT (by rw [HNO.out,HK.out,q];rfl),HB2.out⟩
  ·have q:decide (k<5)=false:=decide_eq_false h5
   go_wp2_with fail
   go_ret
   exact ⟨bT (by rw [HNO.out,HK.out,q];rfl),HB2.out⟩
theorem pz (d:Dev) (place:List Int) (N a b:Int) (ss:List bQ) (PA SA:Option Addr) (pn pc m mc:Nat) (w:World) (hp:dA w PA pn place) (hpn:pn<=1048576) :
  Calls Tryz.prog 133 #[.agg #[.int .i64 d.W,.int .i64 d.H,.int .i64 d.T,.int .i64 d.R],.slice PA pn pc,.agg #[.int .i64 N,.int .i64 a,.int .i64 b,.slice SA m mc]] w fun e w'=>e = .returned (.int .i64 (eP d place ⟨N,⟨a,b⟩,ss⟩))/\Below w.heap.size w w':=by
 have HP:=Hd hp
 have hS:eP d place ⟨N,⟨a,b⟩,ss⟩=if 0<=a/\a<(place.length:Int) then dZ d (place[a.toNat]?.getD 0) b else -1:=rfl
 rw [hp.1] at hS
 clear hp
 have HB0:=Hd (aF (aF (Below.refl w.heap.size w) (.cells #[.int .i64 d.W,.int .i64 d.H,.int .i64 d.T,.int .i64 d.R] 36)) (.cells #[.int .i64 N,.int .i64 a,.int .i64 b,.slice SA m mc] 158))
 have hx:=bg (.cells #[.int .i64 N,.int .i64 a,.int .i64 b,.slice SA m mc] 158) (aK w (.cells #[.int .i64 d.W,.int .i64 d.H,.int .i64 d.T,.int .i64 d.R] 36))
 have hy:=aK (w.alloc (.cells #[.int .i64 d.W,.int .i64 d.H,.int .i64 d.T,.int .i64 d.R] 36)) (.cells #[.int .i64 N,.int .i64 a,.int .i64 b,.slice SA m mc] 158)
 simp only [World.size_alloc] at hy
 have HXB:=Hd hx
 have HYB:=Hd hy
 clear hx hy
 cases hr:inR a 0 ((pn:Int) - 1) with
 | false =>
  have HS:Hid (eP d place ⟨N,⟨a,b⟩,ss⟩=-1):=by show _=_;rw [hS,if_neg fun h=>by rw [aV.2 (by omega)] at hr;cases hr]
  have HR:=Hd hr
  clear hr hS
  go_enter Tryz.func133,Tryz.ntmps133
  go_upto_region 1 with fail
  generalize (w.alloc (.cells #[.int .i64 d.W,.int .i64 d.H,.int .i64 d.T,.int .i64 d.R] 36)).alloc (.cells #[.int .i64 N,.int .i64 a,.int .i64 b,.slice SA m mc] 158)=W9 at *
  have hx:=HXB.out
  have hy:=HYB.out
  have x0:=aA (k:=0) hx rfl
  have x1:=aA (k:=1) hx rfl
  have x2:=aA (k:=2) hx rfl
  have x3:=aA (k:=3) hx rfl
  have y0:=aA (k:=0) hy rfl
  have y1:=aA (k:=1) hy rfl
  have y2:=aA (k:=2) hy rfl
  have y3:=aA (k:=3) hy rfl
  have lx:=aC hx
  have ly:=aC hy
  clear hx hy
  go_wp2_with fail
  refine (aN a 0 ((pn:Int) - 1) _).mono ?_
  rw [HR.out]
  rintro _ w1 ⟨rfl,rfl⟩
  go_wp2_with fail
  go_ret
  exact ⟨aQ HS.out.symm,HB0.out⟩
 | true =>
  have ha:=aV.1 hr
  obtain ⟨X,rfl⟩:∃X:Nat,a=(X:Int):=⟨a.toNat,by omega⟩
  have hX:X<pn:=by omega
  rw [if_pos ⟨by omega,by omega⟩,Int.toNat_natCast] at hS
  obtain ⟨bp,op,rfl,hbp,hcp⟩:=HP.out.2 (by omega)
  have cp:=(HB0.out.cell (p:=⟨bp,op+X,none⟩) hbp).trans (hcp X hX)
  have lbp:=aL HB0.out hbp
  generalize place[X]?.getD 0=t at *
  have HS:=Hd hS
  have HR:=Hd hr
  have iX:(X:Int)<(pn:Int):=by omega
  clear hr hS hcp ha
  go_enter Tryz.func133,Tryz.ntmps133
  go_upto_region 1 with fail
  generalize (w.alloc (.cells #[.int .i64 d.W,.int .i64 d.H,.int .i64 d.T,.int .i64 d.R] 36)).alloc (.cells #[.int .i64 N,.int .i64 (X:Int),.int .i64 b,.slice SA m mc] 158)=W9 at *
  have hx:=HXB.out
  have hy:=HYB.out
  have x0:=aA (k:=0) hx rfl
  have x1:=aA (k:=1) hx rfl
  have x2:=aA (k:=2) hx rfl
  have x3:=aA (k:=3) hx rfl
  have y0:=aA (k:=0) hy rfl
  have y1:=aA (k:=1) hy rfl
  have y2:=aA (k:=2) hy rfl
  have y3:=aA (k:=3) hy rfl
  have lx:=aC hx
  have ly:=aC hy
  clear hx hy
  go_wp2_with fail
  refine (aN (X:Int) 0 ((pn:Int) - 1) _).mono ?_
  rw [HR.out]
  rintro _ w1 ⟨rfl,rfl⟩
  have HOP:=Hd (fun (x:Sub W9)=>pG d t b x.v)
  go_upto_region 3 with fail
  have hsub:=aZ W9
  have hsc:=aR W9
  refine aI W9 (by kernel_rfl) (by kernel_rfl) (Below.refl _ _) ?_
  repeat (go_big_quiet_step ((first
   | (go_at_call 224;with_reducible exact aO (HOP.out _)))))
  refine wpQuiet_nil ?_
  rintro _ ⟨⟨w5,hD⟩,rfl⟩
  clear hsub hsc
  have HD:=Hd (aB HB0.out hD)
  clear hD x0 x1 x2 x3 y0 y1 y2 y3 lx ly cp lbp
  go_wp2_with fail
  go_ret
  exact ⟨aQ HS.out.symm,HD.out⟩
theorem qi (d:Dev) (place:List Int) (N a b:Int) (ss:List bQ) (PA SA:Option Addr) (pn pc m mc:Nat) (w:World) (hp:dA w PA pn place) (hs:RdC w w.heap.size (bM ss) (.slice SA m mc)) (hpn:pn<=1048576) (hm:m<=1048576) :
  Calls Tryz.prog 131 #[.agg #[.int .i64 d.W,.int .i64 d.H,.int .i64 d.T,.int .i64 d.R],.slice PA pn pc,.agg #[.int .i64 N,.int .i64 a,.int .i64 b,.slice SA m mc]] w fun e w'=>(fK d place ⟨N,⟨a,b⟩,ss⟩/\(∃A c,e = .returned (.slice A m c)/\Own w.heap.size w' A m c (bZ d place ⟨N,⟨a,b⟩,ss⟩))∨¬fK d place ⟨N,⟨a,b⟩,ss⟩/\e = .returned (.slice none 0 0))/\Below w.heap.size w w':=by
 have HP:=Hd hp
 have HSS:=Hd hs
 have HSL:Hid (ss.length=m):=hs.pinN
 clear hp hs
 have HB0:=Hd (aF (aF (Below.refl w.heap.size w) (.cells #[.int .i64 d.W,.int .i64 d.H,.int .i64 d.T,.int .i64 d.R] 36)) (.cells #[.int .i64 N,.int .i64 a,.int .i64 b,.slice SA m mc] 158))
 have hx:=bg (.cells #[.int .i64 N,.int .i64 a,.int .i64 b,.slice SA m mc] 158) (aK w (.cells #[.int .i64 d.W,.int .i64 d.H,.int .i64 d.T,.int .i64 d.R] 36))
 have hy:=aK (w.alloc (.cells #[.int .i64 d.W,.int .i64 d.H,.int .i64 d.T,.int .i64 d.R] 36)) (.cells #[.int .i64 N,.int .i64 a,.int .i64 b,.slice SA m mc] 158)
 simp only [World.size_alloc] at hy
 have HXB:=Hd hx
 have HYB:=Hd hy
 clear hx hy
 go_enter Tryz.func131,Tryz.ntmps131
 go_upto_region 1 with fail
 generalize (w.alloc (.cells #[.int .i64 d.W,.int .i64 d.H,.int .i64 d.T,.int .i64 d.R] 36)).alloc (.cells #[.int .i64 N,.int .i64 a,.int .i64 b,.slice SA m mc] 158)=W9 at *
 have hx:=HXB.out
 have hy:=HYB.out
 have x0:=aA (k:=0) hx rfl
 have y0:=aA (k:=0) hy rfl
 have y1:=aA (k:=1) hy rfl
 have y2:=aA (k:=2) hy rfl
 have y3:=aA (k:=3) hy rfl
 have lx:=aC hx
 have ly:=aC hy
 clear hx hy
 go_wp2_with fail
 clear x0 y0 y1 y2 y3 lx ly
 go_loopw [7,14] (fun v i wr=>∃(k:Nat) (A:Option Addr) (c:Nat),k<=m/\i = .int .i64 (k:Int)/\v = .slice A k c/\aM W9 wr [.cel (aJ ((ss.take k).map (bV d place))) (.slice A k c)]/\∀j,j<k→0<=bV d place (ss[j]?.getD bQ.zero)) (fun _ i _=>m - (intOf i).toNat)
 case atStart=>exact ⟨0,none,0,by omega,rfl,rfl,(aM.refl W9).pushNil 3 1,fun j hj=>by omega⟩
 case round =>
  obtain ⟨k,A1,c1,hk,rfl,rfl,hs,hall⟩:=hrel
  have HS:=Hd hs
  have HALL:=Hd hall
  have HBW:=Hd (aB HB0.out hs.bel)
  clear hs hall
  by_cases hlt:k<m
  ·have hdk:decide ((k:Int)<(m:Int))=true:=by simp;omega
   have hkl:k<ss.length:=by rw [HSL.out];exact hlt
   obtain ⟨bs,os,hSA,hbs,d0,d1⟩:=HSS.out.pin (k:=k) hkl
   have HSA:=Hd hSA
   have lbs:=aL HBW.out hbs
   rw [←HBW.out.cell (p:=⟨bs,os+k * 2,none⟩) hbs] at d0
   rw [←HBW.out.cell (p:=⟨bs,os+k * 2+1,none⟩) hbs] at d1
   have HG:Hid (0<=bV d place (ss[k]?.getD bQ.zero)→∀j,j<k+1→0<=bV d place (ss[j]?.getD bQ.zero)):=fun h=>bS HALL.out h
   have HNO:Hid (¬0<=bV d place (ss[k]?.getD bQ.zero)→¬fK d place ⟨N,⟨a,b⟩,ss⟩):=fun h h'=>h (by rw [List.getElem?_eq_getElem hkl];exact h' _ (List.getElem_mem hkl))
   have HTK:=Hd (show (ss.take (k+1)).map (bV d place)=(ss.take k).map (bV d place)++[bV d place (ss[k]?.getD bQ.zero)] from by rw [bJ (z:=bQ.zero) hkl,List.map_append];rfl)
   clear hkl hSA
   obtain rfl:=HSA.out
   generalize ss[k]?.getD bQ.zero=p at *
   obtain ⟨x,y⟩:=p
   simp only at d0 d1
   have hS:bV d place ⟨x,y⟩=if 0<=x/\x<(place.length:Int) then lL d (place[x.toNat]?.getD 0) y else -1:=rfl
   rw [HP.out.1] at hS
   have i0:(0:Int)<=(k:Int):=by omega
   have i1:(k:Int)<(m:Int):=by omega
   have HA:=Hd (HS.out.alloc (.cells #[.int .i64 x,.int .i64 y] 100))
   have hq:=aK wr (.cells #[.int .i64 x,.int .i64 y] 100)
   have q0:=aA (k:=0) hq rfl
   have q1:=aA (k:=1) hq rfl
   have lq:=aC hq
   clear hq
   go_upto_region 5 with fail
   clear d0 d1 lbs
   generalize wr.alloc (.cells #[.int .i64 x,.int .i64 y] 100)=W6 at *
   have HB6:=Hd (aB HB0.out HA.out.bel)
   have hx:=aD HA.out.bel HXB.out
   have x0:=aA (k:=0) hx rfl
   have x1:=aA (k:=1) hx rfl
   have x2:=aA (k:=2) hx rfl
   have x3:=aA (k:=3) hx rfl
   have lx:=aC hx
   clear hx
   cases hr:inR x 0 ((pn:Int) - 1) with
   | false =>
    have hSN:bV d place ⟨x,y⟩=-1:=by rw [hS,if_neg fun h=>by rw [aV.2 (by omega)] at hr;cases hr]
    have HR:=Hd (HNO.out (by omega))
    have H1:=Hd hr
    clear hr hS hSN HG HNO HTK
    go_wp2_with fail
    refine (aN x 0 ((pn:Int) - 1) _).mono ?_
    rw [H1.out]
    rintro _ w1 ⟨rfl,rfl⟩
    clear x0 x1 x2 x3 lx q0 q1 lq
    go_wp2_with fail
    go_ret
    exact ⟨.inr ⟨HR.out,rfl⟩,HB6.out⟩
   | true =>
    have ha:=aV.1 hr
    obtain ⟨X,rfl⟩:∃X:Nat,x=(X:Int):=⟨x.toNat,by omega⟩
    have hX:X<pn:=by omega
    rw [if_pos ⟨by omega,by omega⟩,Int.toNat_natCast] at hS
    obtain ⟨bp,op,hPA,hbp,hcp⟩:=HP.out.2 (by omega)
    have HPA:=Hd hPA
    have cp:=(HB6.out.cell (p:=⟨bp,op+X,none⟩) hbp).trans (hcp X hX)
    have lbp:=aL HB6.out hbp
    clear hPA
    obtain rfl:=HPA.out
    generalize place[X]?.getD 0=t at *
    have HSN:=Hd hS
    have H1:=Hd hr
    have iX:(X:Int)<(pn:Int):=by omega
    clear hr hS hcp ha
    go_wp2_with fail
    refine (aN (X:Int) 0 ((pn:Int) - 1) _).mono ?_
    rw [H1.out]
    rintro _ w1 ⟨rfl,rfl⟩
    have HIP:=Hd (fun (x:Sub W6)=>vF d t y x.v)
    go_upto_region 7 with fail
    have hsub:=aZ W6
    have hsc:=aR W6
    refine aI W6 (by kernel_rfl) (by kernel_rfl) (Below.refl _ _) ?_
    repeat (go_big_quiet_step ((first
     | (go_at_call 219;with_reducible exact aO (HIP.out _)))))
    refine wpQuiet_nil ?_
    rintro _ ⟨⟨w5,hD⟩,rfl⟩
    clear hsub hsc
    have HS5:=Hd (HA.out.below hD)
    have HB5:=Hd (aB HB6.out hD)
    clear hD x0 x1 x2 x3 lx q0 q1 lq cp lbp
    rw [HSN.out] at HG HNO HTK
    generalize lL d t y=z at *
    by_cases hz:0<=z
    ·have dz:decide (z<0)=false:=decide_eq_false (by omega)
     have HG2:=Hd (HG.out hz)
     clear HG HNO
     go_wp2_with (at_builtin;refine fB rfl _ _ rfl _ (HS5.out.alloc _) 0 A1 k c1 ((ss.take k).map (bV d place)) z _ (0,0) rfl rfl rfl (aK _ _) (by omega) ?_;intro g9 cap w9 S9 hz9;have HS9:=Hd S9;clear S9 hz9)
     go_roundw
     case rel=>exact ⟨k+1,_,_,by omega,by go_num,rfl,by rw [HTK.out];exact HS9.out,HG2.out⟩
     case measure=>simp [intOf];omega
    ·have dz:decide (z<0)=true:=decide_eq_true (by omega)
     have HR:=Hd (HNO.out (by omega))
     clear HG HNO HTK
     go_wp2_with fail
     go_ret
     exact ⟨.inr ⟨HR.out,rfl⟩,HB5.out⟩
  ·have hkm:k=m:=by omega
   have hdk:decide ((k:Int)<(m:Int))=false:=by simp;omega
   have HR:Hid (fK d place ⟨N,⟨a,b⟩,ss⟩):=fun p hp=>by
    obtain ⟨j,hj,rfl⟩:=List.getElem_of_mem hp
    have h:=HALL.out j (by rw [hkm,←HSL.out];exact hj)
    rwa [List.getElem?_eq_getElem hj] at h
   have HD:Hid (aM W9 wr [.cel (aJ (bZ d place ⟨N,⟨a,b⟩,ss⟩)) (.slice A1 m c1)]):=by
    have h:=HS.out
    rwa [hkm,List.take_of_length_le (by rw [HSL.out];exact Nat.le_refl _)] at h
   subst hkm
   clear HS HALL
   go_wp2_with fail
   go_ret
   exact ⟨.inl ⟨HR.out,_,_,rfl,(HD.out.owned 0 rfl).more HB0.out.size⟩,HBW.out⟩
end Go.Proofs.YtofihjoanjkdmaaGreat
