/- Placements and connections in the program: valid ones (printed by mkplc.py). -/
import Derived.Test.YtofihjoanjkdmaaGreatLayF7
import Derived.Test.YtofihjoanjkdmaaGreatRt5
namespace Go.Proofs.YtofihjoanjkdmaaGreat
set_option maxHeartbeats 4000000
set_option maxRecDepth 100000
open Go.RowKit
def lF (d:Dev) (t:Int):Int:=if az d t=true then bH d t else -1
theorem wO (d:Dev) (t:Int):0<=bH d t/\bH d t<=2:=by
 unfold bH
 split
 ·omega
 split <;> omega
theorem uW (k:Int):-1<=gD k/\gD k<=2:=by
 unfold gD
 split
 ·omega
 split
 ·omega
 split <;> omega
theorem yR {d:Dev} {t k:Int} (h:0<=k):lF d t=k↔az d t=true/\bH d t=k:=by
 unfold lF
 split
 ·rename_i h1;exact ⟨fun h2=>⟨h1,h2⟩,fun h2=>h2.2⟩
 rename_i h1;exact ⟨fun h2=>by omega,fun h2=>absurd h2.1 h1⟩
theorem vg (k:Int) (w:World) :
  Calls Tryz.prog 127 #[.int .i64 k] w fun e w'=>e = .returned (.int .i64 (gD k))/\w=w':=by
 by_cases h0:k=0
 ·subst h0
  go_enter Tryz.func127,Tryz.ntmps127
  go_wp2_with fail
  go_ret
  exact ⟨rfl,rfl⟩
 by_cases h1:k=1
 ·subst h1
  go_enter Tryz.func127,Tryz.ntmps127
  go_wp2_with fail
  go_ret
  exact ⟨rfl,rfl⟩
 by_cases h2:k=2
 ·subst h2
  go_enter Tryz.func127,Tryz.ntmps127
  go_wp2_with fail
  go_ret
  exact ⟨rfl,rfl⟩
 by_cases h3:k=3
 ·subst h3
  go_enter Tryz.func127,Tryz.ntmps127
  go_wp2_with fail
  go_ret
  exact ⟨rfl,rfl⟩
 have g:Hid (gD k=-1):=by show _=_;unfold gD;rw [if_neg (by omega),if_neg h2,if_neg h3]
 have j:(k==0)=false:=by simp [h0]
 have u:(k==1)=false:=by simp [h1]
 have z:(k==2)=false:=by simp [h2]
 have q:(k==3)=false:=by simp [h3]
 clear h0 h1 h2 h3
 go_enter Tryz.func127,Tryz.ntmps127
 go_wp2_with fail
 go_ret
 exact ⟨aL g.out.symm,rfl⟩
theorem qH (bs:List Blk) (BA:Option Addr) (bn bc:Nat) (w:World) (H:RdC w w.heap.size (aa bs) (.slice BA bn bc)) (hn:bn<=1048576) :
  Calls Tryz.prog 49 #[.slice BA bn bc] w fun e w'=>∃A c,e = .returned (.slice A bn c)/\Own w.heap.size w' A bn c (bs.map Blk.kind)/\Below w.heap.size w w':=by
 have B:=H.blkN
 obtain ⟨G,HB⟩:=hd2 B H
 clear H B
 go_enter Tryz.func49,Tryz.ntmps49
 go_wp2_with fail
 go_loopw [3,8] (fun v i wr=>∃(k:Nat) (A:Option Addr) (c:Nat),k<=bn/\i = .int .i64 (k:Int)/\v = .slice A k c/\aJ w wr [.cel (aG ((bs.take k).map Blk.kind)) (.slice A k c)]) (fun _ i _=>bn - (intOf i).toNat)
 ·exact ⟨0,none,0,by omega,rfl,rfl,(aJ.refl w).pushNil 3 1⟩
 obtain ⟨k,A1,U,hk,rfl,rfl,hs⟩:=hrel
 have z:=Hd hs
 clear hs
 by_cases W:k<bn
 ·have R:=dT (by omega:k<bn)
  have u:k<bs.length:=by rw [G.out];exact W
  obtain ⟨Q,K,J,V,Y,rfl,j,c0,c1,c2,r2⟩:=HB.out.blk (k:=k) u
  have g:=z.out.bel
  have af:=aK g j
  rw [←g.cell (p:=⟨Q,K+k * 3,none⟩) j] at c0
  rw [←g.cell (p:=⟨Q,K+k * 3+1,none⟩) j] at c1
  rw [←g.cell (p:=⟨Q,K+k * 3+2,none⟩) j] at c2
  have q:=Hd (show (bs.take (k+1)).map Blk.kind=(bs.take k).map Blk.kind++[(bs[k]?.getD Blk.zero).kind] from by rw [mq u,List.map_append];rfl)
  clear u g r2
  generalize bs[k]?.getD Blk.zero=b at *
  obtain ⟨kd,it,es⟩:=b
  simp only at c0 c1 q
  obtain ⟨i0,i1⟩:=ib (by omega:k<bn)
  have HA:=Hd (z.out.alloc (.cells #[.int .i64 kd,.int .i64 it,.slice J V Y] 89))
  obtain ⟨y0,ly⟩:=EQ (aI wr (.cells #[.int .i64 kd,.int .i64 it,.slice J V Y] 89))
  go_upto_region 5 with fail
  generalize wr.alloc (.cells #[.int .i64 kd,.int .i64 it,.slice J V Y] 89)=W5 at *
  go_wp2_with (at_builtin;refine dW rfl _ _ rfl _ (HA.out.alloc _) 0 A1 k U ((bs.take k).map Blk.kind) kd _ (0,0) rfl rfl rfl (aI _ _) (by omega) ?_;intro g9 ai w9 S9 Z;have I:=Hd S9;clear S9 Z)
  go_roundw
  ·exact ⟨k+1,_,_,by omega,by go_num,rfl,by rw [q.out];exact I.out⟩
  simp [intOf];omega
 have D:k=bn:=by omega
 have R:=dF (by omega:bn<=k)
 have q:Hid (bs.take k=bs):=by show _=_;rw [D];exact List.take_of_length_le (by rw [G.out];exact Nat.le_refl _)
 rw [q.out] at z
 subst D
 go_wp2_with fail
 go_ret
 exact ⟨_,_,rfl,z.out.owned 0 rfl,z.out.bel⟩
theorem vk (d:Dev) (t:Int) (w:World) :
  Calls Tryz.prog 128 #[.agg (dv d),.int .i64 t] w fun e w'=>e = .returned (.int .i64 (lF d t))/\Below w.heap.size w w':=by
 have u:=Hd (aD (Below.refl w.heap.size w) (.cells (dv d) 36))
 have q:=Hd (aI w (.cells (dv d) 36))
 obtain ⟨z,D,G,B,H⟩:=bX (q.out)
 cases ht:az d t with
 | false =>
  have I:Hid (lF d t=-1):=by show _=_;unfold lF;rw [ht];rfl
  have K:=Hd ht
  clear ht
  go_enter Tryz.func128,Tryz.ntmps128
  go_upto_region 1 with fail
  generalize w.alloc (.cells (dv d) 36)=V at *
  go_wp2_with fail
  refine (rM d t _).mono ?_
  rw [K.out]
  rintro _ Y ⟨rfl,j⟩
  have g:=Hd (aA u.out j)
  clear j z D G B H
  go_wp2_with fail
  go_ret
  exact ⟨aL I.out.symm,g.out⟩
 | true =>
  have I:Hid (lF d t=bH d t):=by show _=_;unfold lF;rw [if_pos ht]
  have K:=Hd ht
  obtain ⟨J,h0,h1⟩:=aV.1 ht
  have h2:=fM J
  have W:=Hd J
  have h3:t<=1099511627776:=by omega
  clear ht J h1 h2
  go_enter Tryz.func128,Tryz.ntmps128
  go_upto_region 1 with fail
  generalize w.alloc (.cells (dv d) 36)=V at *
  go_wp2_with fail
  refine (rM d t _).mono ?_
  rw [K.out]
  rintro _ Y ⟨rfl,j⟩
  have g:=Hd (aA u.out j)
  have R:=aC j q.out
  clear j z D G B H
  obtain ⟨z,D,G,B,H⟩:=bX R
  clear R
  go_wp2_with fail
  refine (mP d t _ W.out h0 h3).mono ?_
  rintro _ Z ⟨rfl,U⟩
  have Q:=Hd (aA g.out U)
  clear U z D G B H
  go_wp2_with fail
  go_ret
  exact ⟨aL I.out.symm,Q.out⟩
theorem qI (d:Dev) (kinds place:List Int) (KA PA:Option Addr) (kn kc pn pc:Nat) (w:World) (hk:dE w KA kn kinds) (hp:dE w PA pn place) (bh:pn<=pc) (a9:pc<=1048576) :
  Calls Tryz.prog 48 #[.agg (dv d),.slice KA kn kc,.slice PA pn pc] w fun e w'=>e = .returned (.bool (tb (fA d kinds place)))/\Below w.heap.size w w':=by
 have af:=Hd (aD (Below.refl w.heap.size w) (.cells (dv d) 36))
 have Q:=Hd (aI w (.cells (dv d) 36))
 obtain ⟨HK,HP⟩:=hd2 hk hp
 clear hk hp
 cases I:dZ d with
 | false =>
  have G:Hid (¬fA d kinds place):=fun h=>by rw [h.dev] at I;cases I
  have HD:=Hd I
  clear I
  go_enter Tryz.func48,Tryz.ntmps48
  go_upto_region 1 with fail
  generalize w.alloc (.cells (dv d) 36)=W0 at *
  obtain ⟨V,U,W,Z,Y⟩:=bX (Q.out)
  go_wp2_with fail
  refine (gy d _).mono ?_
  rw [HD.out]
  rintro _ w1 ⟨rfl,J⟩
  have u:=Hd (aA af.out J)
  clear J V U W Z Y
  go_wp2_with fail
  go_ret
  exact ⟨aO G.out,u.out⟩
 | true =>
  have ad:=Hd I
  clear I
  by_cases av:kn<=64
  ·have aR:decide ((64:Int)<(kn:Int))=false:=decide_eq_false (by omega)
   by_cases aj:pn=kn
   ·subst aj
    have dn:((pn:Int) != (pn:Int))=false:=by simp
    go_enter Tryz.func48,Tryz.ntmps48
    go_upto_region 1 with fail
    generalize w.alloc (.cells (dv d) 36)=W0 at *
    obtain ⟨V,U,W,Z,Y⟩:=bX (Q.out)
    go_wp2_with fail
    refine (gy d _).mono ?_
    rw [ad.out]
    rintro _ w1 ⟨rfl,J⟩
    have u:=Hd (aA af.out J)
    have aM:=Hd (aC J Q.out)
    clear J V U W Z Y
    go_wp2_with fail
    go_loopw [27] (fun i wr=>∃k:Nat,k<=pn/\i = .int .i64 (k:Int)/\Below w1.heap.size w1 wr/\(∀j,j<k→az d (place[j]?.getD 0)=true/\bH d (place[j]?.getD 0)=gD (kinds[j]?.getD 0))/\(place.take k).Nodup) (fun i _=>pn - (intOf i).toNat)
    ·exact ⟨0,by omega,rfl,Below.refl _ _,fun j hj=>by omega,by simp⟩
    obtain ⟨k,hk,rfl,hb,ag⟩:=hrel
    obtain ⟨HB,g⟩:=hd2 hb ag
    have q:=Hd (aA u.out hb)
    clear hb ag
    by_cases ae:k<pn
    ·have aX:=dT (by omega:k<pn)
     obtain ⟨bp,op,ax,aF,ay⟩:=HP.out.2 (by omega)
     obtain ⟨bk,ok,au,aJ,aG⟩:=HK.out.2 (by omega)
     obtain ⟨aU,aS⟩:=hd2 ax au
     have cp:=(q.out.cell (p:=⟨bp,op+k,none⟩) aF).trans (ay k ae)
     have ck:=(q.out.cell (p:=⟨bk,ok+k,none⟩) aJ).trans (aG k ae)
     have a6:=aK q.out aF
     have bc:=aK q.out aJ
     have aT:=Hd (HP.out.take (k:=k) (by omega))
     have aE:k<place.length:=by rw [HP.out.1];exact ae
     have aw:=Hd (bN (z:=0) aE)
     have aH:¬(az d (place[k]?.getD 0)=true/\bH d (place[k]?.getD 0)=gD (kinds[k]?.getD 0))→¬fA d kinds place:=fun h h'=>h (h'.tile k (by rw [HK.out.1];exact ae))
     have B:=Hd aH
     have aB:place[k]?.getD 0∈place.take k→¬fA d kinds place:=fun h h'=>by
      have h1:=h'.once
      rw [←List.take_append_drop (k+1) place,aw.out] at h1
      exact (dh.1 (List.nodup_append.1 h1).1).2 h
     have K:=Hd aB
     have hG:az d (place[k]?.getD 0)=true/\bH d (place[k]?.getD 0)=gD (kinds[k]?.getD 0)→place[k]?.getD 0∉place.take k→(∀j,j<k+1→az d (place[j]?.getD 0)=true/\bH d (place[j]?.getD 0)=gD (kinds[j]?.getD 0))/\(place.take (k+1)).Nodup:=fun h1 h2=>⟨bU g.out.1 h1,by rw [aw.out,dh];exact ⟨g.out.2,h2⟩⟩
     have HG:=Hd hG
     clear ay aG aE aH aB hG ax au
     obtain rfl:=aU.out
     obtain rfl:=aS.out
     generalize place[k]?.getD 0=t at *
     generalize kinds[k]?.getD 0=kd at *
     have aL:=uW kd
     obtain ⟨bt,R⟩:∃b,gD kd=b:=⟨_,rfl⟩
     rw [R] at aL B HG
     have aQ:=Hd R
     clear R
     obtain ⟨i0,i1⟩:=ib (by omega:k<pn)
     have i2:(k:Int)<=(pc:Int):=by omega
     obtain ⟨V,U,W,Z,Y⟩:=bX (aC HB.out aM.out)
     go_wp2_with fail
     refine (vg kd _).mono ?_
     rw [aQ.out]
     rintro _ w2 ⟨rfl,rfl⟩
     by_cases h0:bt<0
     ·have G:Hid (¬fA d kinds place):=B.out fun h=>by have:=wO d t;omega
      have d0:decide (bt<0)=true:=decide_eq_true h0
      clear HG B K
      go_wp2_with fail
      go_ret
      exact ⟨aO G.out,q.out⟩
     have d0:decide (bt<0)=false:=decide_eq_false h0
     go_wp2_with fail
     refine (vk d t _).mono ?_
     by_cases H:lF d t=bt
     ·have aZ:=Hd ((yR (by omega)).1 H)
      rw [H]
      have dk:(bt != bt)=false:=by simp
      clear H
      rintro _ w3 ⟨rfl,b3⟩
      have aP:=Hd (aA HB.out b3)
      have D:=Hd (aA q.out b3)
      clear b3 V U W Z Y cp ck
      go_wp2_with fail
      refine (nE _ k pc _ t _ (aT.out.below D.out) (by omega)).mono ?_
      rintro _ w4 ⟨rfl,rfl⟩
      by_cases hm:t∈place.take k
      ·have G:Hid (¬fA d kinds place):=K.out hm
       rw [decide_eq_true hm]
       clear HG B K hm
       go_wp2_with fail
       go_ret
       exact ⟨aO G.out,D.out⟩
      have aV:=Hd (HG.out aZ.out hm)
      rw [decide_eq_false hm]
      clear HG B K hm
      go_wp2_with fail
      go_roundw
      ·exact ⟨k+1,by omega,by go_num,aP.out,aV.out⟩
      simp [intOf];omega
     have G:Hid (¬fA d kinds place):=B.out fun h=>H ((yR (by omega)).2 h)
     have dk:(lF d t != bt)=true:=by simp [H]
     clear HG B K H
     rintro _ w3 ⟨rfl,b3⟩
     have D:=Hd (aA q.out b3)
     clear b3 V U W Z Y cp ck
     go_wp2_with fail
     go_ret
     exact ⟨aO G.out,D.out⟩
    have ak:k=pn:=by omega
    have aX:=dF (by omega:pn<=k)
    have G:Hid (fA d kinds place):=⟨ad.out,by rw [HK.out.1];exact av,by rw [HP.out.1,HK.out.1],fun j hj=>g.out.1 j (by rw [ak,←HK.out.1];exact hj),by
     have h:=g.out.2
     rwa [ak,List.take_of_length_le (by rw [HP.out.1];exact Nat.le_refl _)] at h⟩
    clear g ak
    go_wp2_with fail
    go_ret
    exact ⟨dU G.out,q.out⟩
   have G:Hid (¬fA d kinds place):=fun h=>aj (by rw [←HP.out.1,←HK.out.1];exact h.same)
   have dn:((pn:Int) != (kn:Int))=true:=by simp;omega
   clear aj
   go_enter Tryz.func48,Tryz.ntmps48
   go_upto_region 1 with fail
   generalize w.alloc (.cells (dv d) 36)=W0 at *
   obtain ⟨V,U,W,Z,Y⟩:=bX (Q.out)
   go_wp2_with fail
   refine (gy d _).mono ?_
   rw [ad.out]
   rintro _ w1 ⟨rfl,J⟩
   have u:=Hd (aA af.out J)
   clear J V U W Z Y
   go_wp2_with fail
   go_ret
   exact ⟨aO G.out,u.out⟩
  have G:Hid (¬fA d kinds place):=fun h=>av (by rw [←HK.out.1];exact h.len)
  have aR:decide ((64:Int)<(kn:Int))=true:=decide_eq_true (by omega)
  go_enter Tryz.func48,Tryz.ntmps48
  go_upto_region 1 with fail
  generalize w.alloc (.cells (dv d) 36)=W0 at *
  obtain ⟨V,U,W,Z,Y⟩:=bX (Q.out)
  go_wp2_with fail
  refine (gy d _).mono ?_
  rw [ad.out]
  rintro _ w1 ⟨rfl,J⟩
  have u:=Hd (aA af.out J)
  clear J V U W Z Y
  go_wp2_with fail
  go_ret
  exact ⟨aO G.out,u.out⟩
theorem wP (n a b:Int) (w:World) (hn:0<=n/\n<=64) :
  Calls Tryz.prog 218 #[.int .i64 n,.agg #[.int .i64 a,.int .i64 b]] w fun e w'=>e = .returned (.bool (tb (gI n ⟨a,b⟩)))/\Below w.heap.size w w':=by
 have g:=Hd (aD (Below.refl w.heap.size w) (.cells #[.int .i64 a,.int .i64 b] 100))
 have u:Hid (gI n ⟨a,b⟩↔(0<=a/\a<n)/\0<=b/\b<=4):=Iff.rfl
 cases hr:inR a 0 (n - 1) with
 | false =>
  have q:Hid (¬gI n ⟨a,b⟩):=fun h=>by
   have h2:=(u.out.1 h).1
   rw [aU.2 (by omega)] at hr
   cases hr
  have j:=Hd hr
  clear hr
  go_enter Tryz.func218,Tryz.ntmps218
  go_wp2_with fail
  refine (aM a 0 (n - 1) _).mono ?_
  rw [j.out]
  rintro _ w' ⟨rfl,rfl⟩
  go_wp2_with fail
  go_ret
  exact ⟨aO q.out,g.out⟩
 | true =>
  have z:=aU.1 hr
  have j:=Hd hr
  have q:Hid (inR b 0 4=tb (gI n ⟨a,b⟩)):=D7 (by rw [aU,u.out];omega)
  clear hr z
  go_enter Tryz.func218,Tryz.ntmps218
  go_wp2_with fail
  refine (aM a 0 (n - 1) _).mono ?_
  rw [j.out]
  rintro _ w' ⟨rfl,rfl⟩
  go_wp2_with fail
  refine (aM b 0 4 _).mono ?_
  rintro _ w' ⟨rfl,rfl⟩
  go_wp2_with fail
  go_ret
  exact ⟨cK q.out,g.out⟩
theorem qJ (n:Int) (cs:List Cn) (CA:Option Addr) (cn cc:Nat) (w:World) (hC:RdC w w.heap.size (ag cs) (.slice CA cn cc)) (aq:∀c∈cs,c.sinks.length<=1048576) :
  Calls Tryz.prog 130 #[.int .i64 n,.slice CA cn cc] w fun e w'=>e = .returned (.bool (tb (jF n cs)))/\Below w.heap.size w w':=by
 have U:=hC.cnN
 obtain ⟨aj,HC,a6⟩:=hd3 U hC aq
 clear hC aq
 cases hr:inR n 0 64 with
 | false =>
  have I:Hid (¬jF n cs):=fun h=>by rw [aU.2 h.blocks] at hr;cases hr
  have H1:=Hd hr
  clear hr
  go_enter Tryz.func130,Tryz.ntmps130
  go_wp2_with fail
  refine (aM n 0 64 _).mono ?_
  rw [H1.out]
  rintro _ w' ⟨rfl,rfl⟩
  go_wp2_with fail
  go_ret
  exact ⟨aO I.out,Below.refl _ _⟩
 | true =>
  have hn:=aU.1 hr
  have H1:=Hd hr
  clear hr
  by_cases Z:cn<=100
  ·have ax:decide ((100:Int)<(cn:Int))=false:=decide_eq_false (by omega)
   clear U
   go_enter Tryz.func130,Tryz.ntmps130
   go_wp2_with fail
   refine (aM n 0 64 _).mono ?_
   rw [H1.out]
   rintro _ w' ⟨rfl,rfl⟩
   go_wp2_with fail
   go_loopw [19] (fun i wr=>∃k:Nat,k<=cn/\i = .int .i64 (k:Int)/\Below w.heap.size w wr/\∀j,j<k→oz n (cs[j]?.getD Cn.zero)) (fun i _=>cn - (intOf i).toNat)
   ·exact ⟨0,by omega,rfl,Below.refl _ _,fun j hj=>by omega⟩
   obtain ⟨k,hk,rfl,hb,g⟩:=hrel
   obtain ⟨u,Q⟩:=hd2 hb g
   clear hb g
   by_cases aV:k<cn
   ·have a3:=dT (by omega:k<cn)
    have D:k<cs.length:=by rw [aj.out];exact aV
    obtain ⟨bc,oc,SA,m,mc,ar,J,c0,c1,c2,c3,rs⟩:=HC.out.cn (k:=k) D
    have a0:=Hd ar
    have ad:=aK u.out J
    rw [←u.out.cell (p:=⟨bc,oc+k * 4,none⟩) J] at c0
    rw [←u.out.cell (p:=⟨bc,oc+k * 4+1,none⟩) J] at c1
    rw [←u.out.cell (p:=⟨bc,oc+k * 4+2,none⟩) J] at c2
    rw [←u.out.cell (p:=⟨bc,oc+k * 4+3,none⟩) J] at c3
    have hg:oz n (cs[k]?.getD Cn.zero)→∀j,j<k+1→oz n (cs[j]?.getD Cn.zero):=fun h=>bU Q.out h
    have av:jF n cs→oz n (cs[k]?.getD Cn.zero):=fun h=>by rw [List.getElem?_eq_getElem D];exact h.fit _ (List.getElem_mem D)
    have B:=a6.out _ (List.getElem_mem D)
    rw [show cs[k]=cs[k]?.getD Cn.zero by rw [List.getElem?_eq_getElem D];rfl] at B
    obtain ⟨Y,V⟩:=hd2 hg av
    clear D hg av ar
    obtain rfl:=a0.out
    generalize cs[k]?.getD Cn.zero=c at *
    obtain ⟨N,⟨a,b⟩,ss⟩:=c
    simp only at c0 c1 c2 c3 B
    have aw:=Hd (show RdC w w.heap.size (bL ss) (.slice SA m mc) from rs)
    have G:Hid (ss.length=m):=aw.out.pinN
    have hm:m<=1048576:=by rw [←G.out];exact B
    obtain ⟨i0,i1⟩:=ib (by omega:k<cn)
    have hy:=aI wr (.cells #[.int .i64 N,.int .i64 a,.int .i64 b,.slice SA m mc] 158)
    have a2:=Hd hy
    obtain ⟨y0,y1,y2,y3,ly⟩:=bX hy
    have R:=Hd (aD u.out (.cells #[.int .i64 N,.int .i64 a,.int .i64 b,.slice SA m mc] 158))
    clear hy rs B
    go_upto_region 6 with fail
    generalize wr.alloc (.cells #[.int .i64 N,.int .i64 a,.int .i64 b,.slice SA m mc] 158)=W6 at *
    cases z:inR (m:Int) 1 120 with
    | false =>
     have I:Hid (¬jF n cs):=fun h=>by
      have h2:=(V.out h).len
      change 1<=ss.length/\ss.length<=120 at h2
      rw [G.out] at h2
      rw [aU.2 (by omega)] at z
      cases z
     have H2:=Hd z
     clear z Y V
     go_wp2_with fail
     refine (aM (m:Int) 1 120 _).mono ?_
     rw [H2.out]
     rintro _ w' ⟨rfl,rfl⟩
     clear y0 y1 y2 y3 ly c0 c1 c2 c3 ad
     go_wp2_with fail
     go_ret
     exact ⟨aO I.out,R.out⟩
    | true =>
     have be:=aU.1 z
     have H2:=Hd z
     clear z
     go_wp2_with fail
     refine (aM (m:Int) 1 120 _).mono ?_
     rw [H2.out]
     rintro _ w' ⟨rfl,rfl⟩
     go_wp2_with fail
     refine (wP n a b _ hn).mono ?_
     by_cases hf:gI n ⟨a,b⟩
     ·rw [ae hf]
      have aX:Hid ((∀p∈ss,gI n p)→∀j,j<k+1→oz n (cs[j]?.getD Cn.zero)):=fun h=>Y.out ⟨⟨by show 1<=ss.length;rw [G.out];omega,by show ss.length<=120;rw [G.out];omega⟩,hf,h⟩
      rintro _ w4 ⟨rfl,H⟩
      have ai:=Hd (aA R.out H)
      have hy:=aC H a2.out
      clear H y0 y1 y2 y3 ly c0 c1 c2 c3 ad Y hf
      obtain ⟨-,-,-,y3,ly⟩:=bX hy
      clear hy
      go_wp2_with fail
      clear y3 ly
      go_loopw [38] (fun i wr=>∃j:Nat,j<=m/\i = .int .i64 (j:Int)/\Below w.heap.size w wr/\∀q,q<j→gI n (ss[q]?.getD ah.zero)) (fun i _=>m - (intOf i).toNat)
      ·exact ⟨0,by omega,rfl,ai.out,fun q hq=>by omega⟩
      obtain ⟨j,hj,rfl,hb,g⟩:=hrel
      obtain ⟨K,ak⟩:=hd2 hb g
      clear hb g
      by_cases aG:j<m
      ·have aR:=dT (by omega:j<m)
       have W:j<ss.length:=by rw [G.out];exact aG
       obtain ⟨bp,op,ay,al,d0,d1⟩:=aw.out.pin (k:=j) W
       have aS:=Hd ay
       have ap:=aK K.out al
       rw [←K.out.cell (p:=⟨bp,op+j * 2,none⟩) al] at d0
       rw [←K.out.cell (p:=⟨bp,op+j * 2+1,none⟩) al] at d1
       have Y:Hid (gI n (ss[j]?.getD ah.zero)→∀q,q<j+1→gI n (ss[q]?.getD ah.zero)):=fun h=>bU ak.out h
       have HN:Hid (¬gI n (ss[j]?.getD ah.zero)→¬jF n cs):=fun h h'=>h (by
        rw [List.getElem?_eq_getElem W]
        exact (V.out h').sinks _ (List.getElem_mem W))
       clear W ay
       obtain rfl:=aS.out
       generalize ss[j]?.getD ah.zero=s at *
       obtain ⟨x,y⟩:=s
       simp only at d0 d1
       obtain ⟨i2,i3⟩:=ib (by omega:j<m)
       have hq:=aI wr (.cells #[.int .i64 x,.int .i64 y] 100)
       obtain ⟨q0,q1,lq⟩:=fZ hq
       have aE:=Hd (aD K.out (.cells #[.int .i64 x,.int .i64 y] 100))
       clear hq
       go_wp2_with fail
       refine (wP n x y _ hn).mono ?_
       by_cases hf:gI n ⟨x,y⟩
       ·rw [ae hf]
        have am:=Hd (Y.out hf)
        rintro _ w4 ⟨rfl,H⟩
        have af:=Hd (aA aE.out H)
        clear H q0 q1 lq d0 d1 Y HN hf ap
        go_wp2_with fail
        go_roundw
        ·exact ⟨j+1,by omega,by go_num,af.out,am.out⟩
        simp [intOf];omega
       rw [bJ hf]
       have I:=Hd (HN.out hf)
       rintro _ w4 ⟨rfl,H⟩
       have af:=Hd (aA aE.out H)
       clear H q0 q1 lq d0 d1 Y HN hf ap
       go_wp2_with fail
       go_ret
       exact ⟨aO I.out,af.out⟩
      have aJ:j=m:=by omega
      have aR:=dF (by omega:m<=j)
      have am:=Hd (aX.out (fun p hp=>by
       obtain ⟨q,hq,rfl⟩:=List.getElem_of_mem hp
       have h:=ak.out q (by rw [aJ,←G.out];exact hq)
       rwa [List.getElem?_eq_getElem hq] at h))
      clear ak aJ
      go_wp2_with fail
      go_roundw
      ·exact ⟨k+1,by omega,by go_num,K.out,am.out⟩
      simp [intOf];omega
     rw [bJ hf]
     have I:Hid (¬jF n cs):=fun h=>hf (V.out h).src
     rintro _ w4 ⟨rfl,H⟩
     have ai:=Hd (aA R.out H)
     clear H y0 y1 y2 y3 ly c0 c1 c2 c3 ad Y hf
     go_wp2_with fail
     go_ret
     exact ⟨aO I.out,ai.out⟩
   have az:k=cn:=by omega
   have a3:=dF (by omega:cn<=k)
   have I:Hid (jF n cs):=⟨hn,by rw [aj.out];exact Z,fun c hc=>by
    obtain ⟨j,hj,rfl⟩:=List.getElem_of_mem hc
    have h:=Q.out j (by rw [az,←aj.out];exact hj)
    rwa [List.getElem?_eq_getElem hj] at h⟩
   clear Q az
   go_wp2_with fail
   go_ret
   exact ⟨dU I.out,u.out⟩
  have I:Hid (¬jF n cs):=fun h=>Z (by rw [←U];exact h.len)
  have ax:decide ((100:Int)<(cn:Int))=true:=decide_eq_true (by omega)
  clear U
  go_enter Tryz.func130,Tryz.ntmps130
  go_wp2_with fail
  refine (aM n 0 64 _).mono ?_
  rw [H1.out]
  rintro _ w' ⟨rfl,rfl⟩
  go_wp2_with fail
  go_ret
  exact ⟨aO I.out,Below.refl _ _⟩
theorem lS (xs bs:List Cn) (CA DA:Option Addr) (cn cc dn dc:Nat) (w:World) (hC:RdC w w.heap.size (ag xs) (.slice CA cn cc)) (D:RdC w w.heap.size (ag bs) (.slice DA dn dc)) (hn:cn<=1048576) (B:∀c∈xs,c.sinks.length<=1048576) :
  Calls Tryz.prog 46 #[.slice CA cn cc,.slice DA dn dc] w fun e w'=>e = .returned (.bool (tb (xs=bs)))/\Below w.heap.size w w':=by
 have al:=hC.cnN
 have ap:=D.cnN
 obtain ⟨aB,aT,HC,bo,bt⟩:=hd5 al ap hC D B
 clear hC D B
 by_cases aI:cn=dn
 ·subst aI
  have be:((cn:Int) != (cn:Int))=false:=by simp
  clear al ap
  go_enter Tryz.func46,Tryz.ntmps46
  go_wp2_with fail
  go_loopw [14] (fun i wr=>∃k:Nat,k<=cn/\i = .int .i64 (k:Int)/\Below w.heap.size w wr/\∀j,j<k→xs[j]?.getD Cn.zero=bs[j]?.getD Cn.zero) (fun i _=>cn - (intOf i).toNat)
  ·exact ⟨0,by omega,rfl,Below.refl _ _,fun j hj=>by omega⟩
  obtain ⟨k,hk,rfl,Y,I⟩:=hrel
  obtain ⟨g,ae⟩:=hd2 Y I
  clear Y I
  by_cases aQ:k<cn
  ·have br:=dT (by omega:k<cn)
   have ak:k<xs.length:=by rw [aB.out];exact aQ
   have a0:k<bs.length:=by rw [aT.out];exact aQ
   obtain ⟨bc,oc,SA,m,mc,aM,G,c0,c1,c2,c3,rs⟩:=HC.out.cn (k:=k) ak
   obtain ⟨bd,od,TA,m',bn,aW,B,W,U,d2,d3,rt⟩:=bo.out.cn (k:=k) a0
   obtain ⟨bm,bl⟩:=hd2 aM aW
   have ad:=aK g.out G
   have Z:=aK g.out B
   rw [←g.out.cell (p:=⟨bc,oc+k * 4,none⟩) G] at c0
   rw [←g.out.cell (p:=⟨bd,od+k * 4,none⟩) B] at W
   rw [←g.out.cell (p:=⟨bc,oc+k * 4+1,none⟩) G] at c1
   rw [←g.out.cell (p:=⟨bd,od+k * 4+1,none⟩) B] at U
   rw [←g.out.cell (p:=⟨bc,oc+k * 4+2,none⟩) G] at c2
   rw [←g.out.cell (p:=⟨bd,od+k * 4+2,none⟩) B] at d2
   rw [←g.out.cell (p:=⟨bc,oc+k * 4+3,none⟩) G] at c3
   rw [←g.out.cell (p:=⟨bd,od+k * 4+3,none⟩) B] at d3
   have hg:xs[k]?.getD Cn.zero=bs[k]?.getD Cn.zero→∀j,j<k+1→xs[j]?.getD Cn.zero=bs[j]?.getD Cn.zero:=fun h=>bU ae.out h
   have aN:xs=bs→xs[k]?.getD Cn.zero=bs[k]?.getD Cn.zero:=fun h=>by rw [h]
   have R:=bt.out _ (List.getElem_mem ak)
   rw [show xs[k]=xs[k]?.getD Cn.zero by rw [List.getElem?_eq_getElem ak];rfl] at R
   obtain ⟨HG,Q⟩:=hd2 hg aN
   clear ak a0 hg aN aM aW
   obtain rfl:=bm.out
   obtain rfl:=bl.out
   generalize xs[k]?.getD Cn.zero=a at *
   generalize bs[k]?.getD Cn.zero=b at *
   obtain ⟨N,⟨p,q⟩,ss⟩:=a
   obtain ⟨N',⟨p',q'⟩,ts⟩:=b
   simp only at c0 c1 c2 c3 W U d2 d3 R
   have aR:=Hd (show RdC w w.heap.size (bL ss) (.slice SA m mc) from rs)
   have a2:=Hd (show RdC w w.heap.size (bL ts) (.slice TA m' bn) from rt)
   have aj:Hid (ss.length=m):=aR.out.pinN
   have az:Hid (ts.length=m'):=a2.out.pinN
   have hm:m<=1048576:=by rw [←aj.out];exact R
   obtain ⟨i0,i1⟩:=ib (by omega:k<cn)
   clear rs rt R
   by_cases hN:N=N'
   ·subst hN
    have dN:(N != N)=false:=by simp
    by_cases aJ:p=p'/\q=q'
    ·obtain ⟨rfl,rfl⟩:=aJ
     by_cases aL:m=m'
     ·subst aL
      have dm:((m:Int) != (m:Int))=false:=by simp
      have bk:Hid (ss=ts→∀j,j<k+1→xs[j]?.getD Cn.zero=bs[j]?.getD Cn.zero):=fun h=>HG.out (by rw [h])
      clear HG
      go_upto_region 6 with fail
      have u:=aX wr
      have z:=aP wr
      refine wpB wr ?_
      repeat (go_big_quiet_step ((fail)))
      refine wpQuiet_nil ?_
      rintro _ ⟨⟨w5,D⟩,rfl⟩
      clear u z
      have H:=Hd (aA g.out D)
      clear D
      have bF:=Hd H.out
      have C3:=Hd ((g.out.cell (p:=⟨bc,oc+k * 4+3,none⟩) G).symm.trans c3)
      have D3:=Hd ((g.out.cell (p:=⟨bd,od+k * 4+3,none⟩) B).symm.trans d3)
      have ai:=(H.out.cell (p:=⟨bc,oc+k * 4+3,none⟩) G).trans (((g.out.cell (p:=⟨bc,oc+k * 4+3,none⟩) G)).symm.trans c3)
      have af:=(H.out.cell (p:=⟨bd,od+k * 4+3,none⟩) B).trans (((g.out.cell (p:=⟨bd,od+k * 4+3,none⟩) B)).symm.trans d3)
      have J:=aK H.out G
      have K:=aK H.out B
      clear c0 c1 c2 c3 W U d2 d3 ad Z
      go_wp2_with fail
      clear ai af J K
      go_loopw [62] (fun i wr=>∃j:Nat,j<=m/\i = .int .i64 (j:Int)/\Below w.heap.size w wr/\∀q,q<j→ss[q]?.getD ah.zero=ts[q]?.getD ah.zero) (fun i _=>m - (intOf i).toNat)
      ·exact ⟨0,by omega,rfl,H.out,fun q hq=>by omega⟩
      obtain ⟨j,hj,rfl,Y,I⟩:=hrel
      obtain ⟨g,aC⟩:=hd2 Y I
      clear Y I
      by_cases au:j<m
      ·have a9:=dT (by omega:j<m)
       have a3:j<ss.length:=by rw [aj.out];exact au
       have aY:j<ts.length:=by rw [az.out];exact au
       obtain ⟨bp,op,aU,aE,W,U⟩:=aR.out.pin (k:=j) a3
       obtain ⟨bq,oq,aZ,aF,e0,e1⟩:=a2.out.pin (k:=j) aY
       have ai:=(g.out.cell (p:=⟨bc,oc+k * 4+3,none⟩) G).trans C3.out
       have af:=(g.out.cell (p:=⟨bd,od+k * 4+3,none⟩) B).trans D3.out
       have J:=aK g.out G
       have K:=aK g.out B
       obtain ⟨bb,bg⟩:=hd2 aU aZ
       have av:=aK g.out aE
       have aH:=aK g.out aF
       rw [←g.out.cell (p:=⟨bp,op+j * 2,none⟩) aE] at W
       rw [←g.out.cell (p:=⟨bp,op+j * 2+1,none⟩) aE] at U
       rw [←g.out.cell (p:=⟨bq,oq+j * 2,none⟩) aF] at e0
       rw [←g.out.cell (p:=⟨bq,oq+j * 2+1,none⟩) aF] at e1
       have HG:Hid (ss[j]?.getD ah.zero=ts[j]?.getD ah.zero→∀q,q<j+1→ss[q]?.getD ah.zero=ts[q]?.getD ah.zero):=fun h=>bU aC.out h
       have HN:Hid (ss[j]?.getD ah.zero≠ts[j]?.getD ah.zero→xs≠bs):=fun h h'=>h (by
        have h2:=Q.out h'
        injection h2 with _ _ h3
        rw [h3])
       clear a3 aY aU aZ
       obtain rfl:=bb.out
       obtain rfl:=bg.out
       generalize ss[j]?.getD ah.zero=s at *
       generalize ts[j]?.getD ah.zero=t at *
       obtain ⟨x,y⟩:=s
       obtain ⟨x',y'⟩:=t
       simp only at W U e0 e1
       obtain ⟨i2,i3⟩:=ib (by omega:j<m)
       by_cases ay:x=x'/\y=y'
       ·obtain ⟨rfl,rfl⟩:=ay
        have aG:=Hd (HG.out rfl)
        clear HG HN
        go_upto_region 11 with fail
        have u:=aX wr
        have z:=aP wr
        refine wpB wr ?_
        repeat (go_big_quiet_step ((fail)))
        refine wpQuiet_nil ?_
        rintro _ ⟨⟨w5,D⟩,rfl⟩
        clear u z
        have H:=Hd (aA g.out D)
        clear D W U e0 e1 av aH ai af J K
        go_wp2_with fail
        go_roundw
        ·exact ⟨j+1,by omega,by go_num,H.out,aG.out⟩
        simp [intOf];omega
       have V:Hid (¬xs=bs):=HN.out fun h=>ay (by injection h with h1 h2;exact ⟨h1,h2⟩)
       clear HG HN
       by_cases hx:x=x'
       ·subst hx
        have dy:(y==y')=false:=by
         cases Y:y==y' with
         | false=>rfl
         | true=>exact absurd ⟨rfl,by simpa using Y⟩ ay
        go_upto_region 11 with fail
        have u:=aX wr
        have z:=aP wr
        refine wpB wr ?_
        repeat (go_big_quiet_step ((fail)))
        refine wpQuiet_nil ?_
        rintro _ ⟨⟨w5,D⟩,rfl⟩
        clear u z
        have H:=Hd (aA g.out D)
        clear D W U e0 e1 av aH ai af J K
        go_wp2_with fail
        go_ret
        exact ⟨aO V.out,H.out⟩
       have dx:(x==x')=false:=by
        cases Y:x==x' with
        | false=>rfl
        | true=>exact absurd (by simpa using Y) hx
       go_upto_region 11 with fail
       have u:=aX wr
       have z:=aP wr
       refine wpB wr ?_
       repeat (go_big_quiet_step ((fail)))
       refine wpQuiet_nil ?_
       rintro _ ⟨⟨w5,D⟩,rfl⟩
       clear u z
       have H:=Hd (aA g.out D)
       clear D W U e0 e1 av aH ai af J K
       go_wp2_with fail
       go_ret
       exact ⟨aO V.out,H.out⟩
      have a1:j=m:=by omega
      have a9:=dF (by omega:m<=j)
      have aG:=Hd (bk.out (by
       apply List.ext_getElem
       ·rw [aj.out,az.out]
       intro q h1 h2
       have h:=aC.out q (by rw [a1,←aj.out];exact h1)
       rwa [List.getElem?_eq_getElem h1,List.getElem?_eq_getElem h2] at h))
      clear aC a1
      go_wp2_with fail
      go_roundw
      ·exact ⟨k+1,by omega,by go_num,g.out,aG.out⟩
      simp [intOf];omega
     have V:Hid (¬xs=bs):=fun h=>aL (by
      have h2:=Q.out h
      injection h2 with _ _ h3
      rw [←aj.out,←az.out,h3])
     have dm:((m:Int) != (m':Int))=true:=by simp;omega
     clear HG Q aL
     go_upto_region 6 with fail
     have u:=aX wr
     have z:=aP wr
     refine wpB wr ?_
     repeat (go_big_quiet_step ((fail)))
     refine wpQuiet_nil ?_
     rintro _ ⟨⟨w5,D⟩,rfl⟩
     clear u z
     have H:=Hd (aA g.out D)
     clear D c0 c1 c2 c3 W U d2 d3 ad Z
     go_wp2_with fail
     go_ret
     exact ⟨aO V.out,H.out⟩
    have V:Hid (¬xs=bs):=fun h=>aJ (by
     have h2:=Q.out h
     injection h2 with _ h3 _
     injection h3 with h4 h5
     exact ⟨h4,h5⟩)
    clear HG Q
    by_cases hp:p=p'
    ·subst hp
     have dq:(q==q')=false:=by
      cases Y:q==q' with
      | false=>rfl
      | true=>exact absurd ⟨rfl,by simpa using Y⟩ aJ
     go_upto_region 6 with fail
     have u:=aX wr
     have z:=aP wr
     refine wpB wr ?_
     repeat (go_big_quiet_step ((fail)))
     refine wpQuiet_nil ?_
     rintro _ ⟨⟨w5,D⟩,rfl⟩
     clear u z
     have H:=Hd (aA g.out D)
     clear D c0 c1 c2 c3 W U d2 d3 ad Z
     go_wp2_with fail
     go_ret
     exact ⟨aO V.out,H.out⟩
    have dp:(p==p')=false:=by
     cases Y:p==p' with
     | false=>rfl
     | true=>exact absurd (by simpa using Y) hp
    go_upto_region 6 with fail
    have u:=aX wr
    have z:=aP wr
    refine wpB wr ?_
    repeat (go_big_quiet_step ((fail)))
    refine wpQuiet_nil ?_
    rintro _ ⟨⟨w5,D⟩,rfl⟩
    clear u z
    have H:=Hd (aA g.out D)
    clear D c0 c1 c2 c3 W U d2 d3 ad Z
    go_wp2_with fail
    go_ret
    exact ⟨aO V.out,H.out⟩
   have V:Hid (¬xs=bs):=fun h=>hN (by
    have h2:=Q.out h
    injection h2 with h3 _ _)
   have dN:(N != N')=true:=by simp [hN]
   clear HG Q hN
   go_upto_region 6 with fail
   have u:=aX wr
   have z:=aP wr
   refine wpB wr ?_
   repeat (go_big_quiet_step ((fail)))
   refine wpQuiet_nil ?_
   rintro _ ⟨⟨w5,D⟩,rfl⟩
   clear u z
   have H:=Hd (aA g.out D)
   clear D c0 c1 c2 c3 W U d2 d3 ad Z
   go_wp2_with fail
   go_ret
   exact ⟨aO V.out,H.out⟩
  have aV:k=cn:=by omega
  have br:=dF (by omega:cn<=k)
  have V:Hid (xs=bs):=by
   show xs=bs
   apply List.ext_getElem
   ·rw [aB.out,aT.out]
   intro q h1 h2
   have h:=ae.out q (by rw [aV,←aB.out];exact h1)
   rwa [List.getElem?_eq_getElem h1,List.getElem?_eq_getElem h2] at h
  clear ae aV
  go_wp2_with fail
  go_ret
  exact ⟨dU V.out,g.out⟩
 have V:Hid (¬xs=bs):=fun h=>aI (by rw [←al,←ap,h])
 have be:((cn:Int) != (dn:Int))=true:=by simp;omega
 clear al ap aI
 go_enter Tryz.func46,Tryz.ntmps46
 go_wp2_with fail
 go_ret
 exact ⟨aO V.out,Below.refl _ _⟩
theorem zx (d:Dev) (t p:Int) (w:World) :
  Calls Tryz.prog 219 #[.agg (dv d),.int .i64 t,.int .i64 p] w fun e w'=>e = .returned (.int .i64 (nT d t p))/\Below w.heap.size w w':=by
 have H:Hid (nT d t p=if az d t=true/\0<=p/\p<jA (bH d t) then t * aQ d+p else -1):=rfl
 go_enter Tryz.func219,Tryz.ntmps219
 go_wp2_with fail
 cases ht:az d t with
 | false =>
  refine (jP ht _).mono ?_
  rintro e w1 ⟨rfl,j⟩
  have G:=Hd (aA (aD (Below.refl _ _) _) j)
  have I:=Hd ht
  clear j ht
  go_wp2_with fail
  go_ret
  exact ⟨aL (by rw [H.out,if_neg (by rw [I.out];simp)]),G.out⟩
 | true =>
  refine (jP ht _).mono ?_
  rintro e w1 ⟨rfl,j⟩
  have G:=Hd (aA (aD (Below.refl _ _) _) j)
  have D1:=Hd j
  obtain ⟨hcc,q⟩:=bG j
  have J:=j.size
  simp only [World.size_alloc] at J
  obtain ⟨u,z,ai⟩:=aV.1 ht
  have Z:=fM u
  have hT:=ay u
  have hp:=eT u
  have al:=pJ d t
  have HM:=Hd (jc z (show t<=35 by omega) (show 0<=aQ d by omega) hp.2)
  obtain ⟨I,HD⟩:=hd2 ht u
  clear j ht u
  go_wp2_with fail
  refine (mP d t _ HD.out z (by omega)).mono ?_
  rintro e w2 ⟨rfl,D⟩
  have W:=Hd (aA G.out D)
  have D2:=Hd (aA D1.out D)
  have ag:=D.size
  clear D hcc q
  obtain ⟨hcc,q⟩:=bG D2.out
  generalize R:bH d t=K at *
  have HK:=Hd R
  clear R
  go_wp2_with (go_at_call 258;refine (uB _ _).mono ?_;rintro e w' ⟨rfl,rfl⟩)
  generalize V:jA K=Q at *
  have HQ:=Hd V
  clear V
  have e3:IntKind.i64.wrap (Q - 1)=Q - 1:=IntWalk.i64_in _ (by omega)
  cases g:inR p 0 (Q - 1) with
  | false =>
   have B:=Hd g
   clear g
   go_wp2_with (go_at_call 93;refine (bT B.out _).mono ?_;rintro e w' ⟨rfl,rfl⟩)
   go_ret
   exact ⟨aL (by rw [H.out,if_neg];rintro ⟨_,h0,h1⟩;have:=qc.1 B.out;omega),W.out⟩
  | true =>
   have B:=Hd g
   have hi:=aU.1 g
   clear g
   go_wp2_with (go_at_call 93;refine (bT B.out _).mono ?_;rintro e w' ⟨rfl,rfl⟩)
   refine (iD d _ (by omega) (by omega)).mono ?_
   rintro e w3 ⟨rfl,U⟩
   have Y:=Hd (aA W.out U)
   have hM:=HM.out
   clear U hcc q e3
   go_wp2_with fail
   go_ret
   exact ⟨aL (by rw [H.out,if_pos ⟨I.out,by omega,by omega⟩]),Y.out⟩
theorem qK (d:Dev) (n:Int) (w:World) :
  Calls Tryz.prog 223 #[.agg (dv d),.int .i64 n] w fun e w'=>e = .returned (.bool (bI d n && decide (n % aQ d<5)))/\Below w.heap.size w w':=by
 go_enter Tryz.func223,Tryz.ntmps223
 go_wp2_with fail
 cases g:bI d n with
 | false =>
  have j:=Hd g
  refine (fV d n _).mono ?_
  rw [g]
  rintro e Q ⟨rfl,u⟩
  have z:=Hd (aA (aD (Below.refl _ _) _) u)
  clear u g
  go_wp2_with fail
  go_ret
  exact ⟨cK (by rw [j.out];rfl),z.out⟩
 | true =>
  have B:fD d n=true:=by unfold bI at g;rw [Bool.and_eq_true] at g;exact g.1
  obtain ⟨H,j⟩:=hd2 B g
  refine (fV d n _).mono ?_
  rw [g]
  rintro e Q ⟨rfl,u⟩
  have z:=Hd u
  have I:=u.size
  simp only [World.size_alloc] at I
  obtain ⟨hcc,G⟩:=bG u
  clear u g B
  go_wp2_with fail
  refine (jO d n _ H.out).mono ?_
  rintro e R ⟨rfl,K⟩
  have D:=Hd (aA (aD (Below.refl _ _) _) (aA z.out K))
  clear K hcc G
  generalize hk:n % aQ d=k at *
  have J:=Hd hk
  clear hk
  by_cases h5:k<5
  ·have q:decide (k<5)=true:=decide_eq_true h5
   go_wp2_with fail
   go_ret
   exact ⟨cK (by rw [j.out,J.out,q];rfl),D.out⟩
  have q:decide (k<5)=false:=decide_eq_false h5
  go_wp2_with fail
  go_ret
  exact ⟨cK (by rw [j.out,J.out,q];rfl),D.out⟩
theorem uX (d:Dev) (place:List Int) (N a b:Int) (ss:List ah) (PA SA:Option Addr) (pn pc m u:Nat) (w:World) (R:dE w PA pn place) (aw:pn<=1048576) :
  Calls Tryz.prog 133 #[.agg (dv d),.slice PA pn pc,.agg #[.int .i64 N,.int .i64 a,.int .i64 b,.slice SA m u]] w fun e w'=>e = .returned (.int .i64 (fT d place ⟨N,⟨a,b⟩,ss⟩))/\Below w.heap.size w w':=by
 have HP:=Hd R
 have z:fT d place ⟨N,⟨a,b⟩,ss⟩=if 0<=a/\a<(place.length:Int) then ed d (place[a.toNat]?.getD 0) b else -1:=rfl
 rw [R.1] at z
 clear R
 have q:=Hd (aD (aD (Below.refl w.heap.size w) (.cells (dv d) 36)) (.cells #[.int .i64 N,.int .i64 a,.int .i64 b,.slice SA m u] 158))
 have j:=bS (.cells #[.int .i64 N,.int .i64 a,.int .i64 b,.slice SA m u] 158) (aI w (.cells (dv d) 36))
 have g:=aI (w.alloc (.cells (dv d) 36)) (.cells #[.int .i64 N,.int .i64 a,.int .i64 b,.slice SA m u] 158)
 simp only [World.size_alloc] at g
 obtain ⟨H,G⟩:=hd2 j g
 clear j g
 cases hr:inR a 0 ((pn:Int) - 1) with
 | false =>
  have Q:Hid (fT d place ⟨N,⟨a,b⟩,ss⟩=-1):=by show _=_;rw [z,if_neg fun h=>by rw [aU.2 (by omega)] at hr;cases hr]
  have V:=Hd hr
  clear hr z
  go_enter Tryz.func133,Tryz.ntmps133
  go_upto_region 1 with fail
  generalize (w.alloc (.cells (dv d) 36)).alloc (.cells #[.int .i64 N,.int .i64 a,.int .i64 b,.slice SA m u] 158)=B at *
  have j:=H.out
  have g:=G.out
  obtain ⟨x0,x1,x2,x3⟩:=cs4 j
  obtain ⟨y0,y1,y2,Y⟩:=cs4 g
  have lx:=aB j
  have ly:=aB g
  clear j g
  go_wp2_with fail
  refine (aM a 0 ((pn:Int) - 1) _).mono ?_
  rw [V.out]
  rintro _ w1 ⟨rfl,rfl⟩
  go_wp2_with fail
  go_ret
  exact ⟨aL Q.out.symm,q.out⟩
 | true =>
  have ha:=aU.1 hr
  obtain ⟨X,rfl⟩:∃X:Nat,a=(X:Int):=⟨a.toNat,by omega⟩
  have hX:X<pn:=by omega
  rw [if_pos ⟨by omega,by omega⟩,Int.toNat_natCast] at z
  obtain ⟨bp,op,rfl,I,J⟩:=HP.out.2 (by omega)
  have cp:=(q.out.cell (p:=⟨bp,op+X,none⟩) I).trans (J X hX)
  have U:=aK q.out I
  generalize place[X]?.getD 0=t at *
  obtain ⟨Q,V⟩:=hd2 z hr
  have iX:(X:Int)<(pn:Int):=by omega
  clear hr z J ha
  go_enter Tryz.func133,Tryz.ntmps133
  go_upto_region 1 with fail
  generalize (w.alloc (.cells (dv d) 36)).alloc (.cells #[.int .i64 N,.int .i64 (X:Int),.int .i64 b,.slice SA m u] 158)=B at *
  have j:=H.out
  have g:=G.out
  obtain ⟨x0,x1,x2,x3⟩:=cs4 j
  obtain ⟨y0,y1,y2,Y⟩:=cs4 g
  have lx:=aB j
  have ly:=aB g
  clear j g
  go_wp2_with fail
  refine (aM (X:Int) 0 ((pn:Int) - 1) _).mono ?_
  rw [V.out]
  rintro _ w1 ⟨rfl,rfl⟩
  have W:=Hd (fun (x:Sub B)=>uC d t b x.v)
  go_upto_region 3 with fail
  have D:=aX B
  have K:=aP B
  refine wpB B ?_
  repeat (go_big_quiet_step ((first
   | (go_at_call 224;with_reducible exact aN (W.out _)))))
  refine wpQuiet_nil ?_
  rintro _ ⟨⟨w5,Z⟩,rfl⟩
  clear D K
  have HD:=Hd (aA q.out Z)
  clear Z x0 x1 x2 x3 y0 y1 y2 Y lx ly cp U
  go_wp2_with fail
  go_ret
  exact ⟨aL Q.out.symm,HD.out⟩
theorem qg (d:Dev) (place:List Int) (N a b:Int) (ss:List ah) (PA SA:Option Addr) (pn pc m V:Nat) (w:World) (hp:dE w PA pn place) (hs:RdC w w.heap.size (bL ss) (.slice SA m V)) (bf:pn<=1048576) (hm:m<=1048576) :
  Calls Tryz.prog 131 #[.agg (dv d),.slice PA pn pc,.agg #[.int .i64 N,.int .i64 a,.int .i64 b,.slice SA m V]] w fun e w'=>(gW d place ⟨N,⟨a,b⟩,ss⟩/\(∃A c,e = .returned (.slice A m c)/\Own w.heap.size w' A m c (bQ d place ⟨N,⟨a,b⟩,ss⟩))∨¬gW d place ⟨N,⟨a,b⟩,ss⟩/\e = .returned (.slice none 0 0))/\Below w.heap.size w w':=by
 obtain ⟨HP,aL⟩:=hd2 hp hs
 have Q:Hid (ss.length=m):=hs.pinN
 clear hp hs
 have I:=Hd (aD (aD (Below.refl w.heap.size w) (.cells (dv d) 36)) (.cells #[.int .i64 N,.int .i64 a,.int .i64 b,.slice SA m V] 158))
 have U:=bS (.cells #[.int .i64 N,.int .i64 a,.int .i64 b,.slice SA m V] 158) (aI w (.cells (dv d) 36))
 have K:=aI (w.alloc (.cells (dv d) 36)) (.cells #[.int .i64 N,.int .i64 a,.int .i64 b,.slice SA m V] 158)
 simp only [World.size_alloc] at K
 obtain ⟨ag,aV⟩:=hd2 U K
 clear U K
 go_enter Tryz.func131,Tryz.ntmps131
 go_upto_region 1 with fail
 generalize (w.alloc (.cells (dv d) 36)).alloc (.cells #[.int .i64 N,.int .i64 a,.int .i64 b,.slice SA m V] 158)=W9 at *
 have U:=ag.out
 have K:=aV.out
 have x0:=aF (k:=0) U rfl
 obtain ⟨y0,y1,y2,y3⟩:=cs4 K
 have lx:=aB U
 have ly:=aB K
 clear U K
 go_wp2_with fail
 clear x0 y0 y1 y2 y3 lx ly
 go_loopw [7,14] (fun v i wr=>∃(k:Nat) (A:Option Addr) (c:Nat),k<=m/\i = .int .i64 (k:Int)/\v = .slice A k c/\aJ W9 wr [.cel (aG ((ss.take k).map (bO d place))) (.slice A k c)]/\∀j,j<k→0<=bO d place (ss[j]?.getD ah.zero)) (fun _ i _=>m - (intOf i).toNat)
 ·exact ⟨0,none,0,by omega,rfl,rfl,(aJ.refl W9).pushNil 3 1,fun j hj=>by omega⟩
 obtain ⟨k,A1,c1,hk,rfl,rfl,hs,H⟩:=hrel
 obtain ⟨HS,u⟩:=hd2 hs H
 have D:=Hd (aA I.out hs.bel)
 clear hs H
 by_cases ax:k<m
 ·have aZ:=dT (by omega:k<m)
  have q:k<ss.length:=by rw [Q.out];exact ax
  obtain ⟨bs,os,af,J,d0,d1⟩:=aL.out.pin (k:=k) q
  have aw:=Hd af
  have a0:=aK D.out J
  rw [←D.out.cell (p:=⟨bs,os+k * 2,none⟩) J] at d0
  rw [←D.out.cell (p:=⟨bs,os+k * 2+1,none⟩) J] at d1
  have HG:Hid (0<=bO d place (ss[k]?.getD ah.zero)→∀j,j<k+1→0<=bO d place (ss[j]?.getD ah.zero)):=fun h=>bU u.out h
  have g:Hid (¬0<=bO d place (ss[k]?.getD ah.zero)→¬gW d place ⟨N,⟨a,b⟩,ss⟩):=fun h h'=>h (by rw [List.getElem?_eq_getElem q];exact h' _ (List.getElem_mem q))
  have B:=Hd (show (ss.take (k+1)).map (bO d place)=(ss.take k).map (bO d place)++[bO d place (ss[k]?.getD ah.zero)] from by rw [bN (z:=ah.zero) q,List.map_append];rfl)
  clear q af
  obtain rfl:=aw.out
  generalize ss[k]?.getD ah.zero=p at *
  obtain ⟨x,y⟩:=p
  simp only at d0 d1
  have W:bO d place ⟨x,y⟩=if 0<=x/\x<(place.length:Int) then nT d (place[x.toNat]?.getD 0) y else -1:=rfl
  rw [HP.out.1] at W
  obtain ⟨i0,i1⟩:=ib (by omega:k<m)
  have HA:=Hd (HS.out.alloc (.cells #[.int .i64 x,.int .i64 y] 100))
  obtain ⟨q0,q1,lq⟩:=fZ (aI wr (.cells #[.int .i64 x,.int .i64 y] 100))
  go_upto_region 5 with fail
  clear d0 d1 a0
  generalize wr.alloc (.cells #[.int .i64 x,.int .i64 y] 100)=W6 at *
  have G:=Hd (aA I.out HA.out.bel)
  obtain ⟨x0,x1,x2,x3,lx⟩:=bX (aC HA.out.bel ag.out)
  cases hr:inR x 0 ((pn:Int) - 1) with
  | false =>
   have a2:bO d place ⟨x,y⟩=-1:=by rw [W,if_neg fun h=>by rw [aU.2 (by omega)] at hr;cases hr]
   have Y:=Hd (g.out (by omega))
   have H1:=Hd hr
   clear hr W a2 HG g B
   go_wp2_with fail
   refine (aM x 0 ((pn:Int) - 1) _).mono ?_
   rw [H1.out]
   rintro _ w1 ⟨rfl,rfl⟩
   clear x0 x1 x2 x3 lx q0 q1 lq
   go_wp2_with fail
   go_ret
   exact ⟨.inr ⟨Y.out,rfl⟩,G.out⟩
  | true =>
   have ha:=aU.1 hr
   obtain ⟨X,rfl⟩:∃X:Nat,x=(X:Int):=⟨x.toNat,by omega⟩
   have hX:X<pn:=by omega
   rw [if_pos ⟨by omega,by omega⟩,Int.toNat_natCast] at W
   obtain ⟨bp,op,Z,ai,ad⟩:=HP.out.2 (by omega)
   have aT:=Hd Z
   have cp:=(G.out.cell (p:=⟨bp,op+X,none⟩) ai).trans (ad X hX)
   have ar:=aK G.out ai
   clear Z
   obtain rfl:=aT.out
   generalize place[X]?.getD 0=t at *
   obtain ⟨aO,H1⟩:=hd2 W hr
   have iX:(X:Int)<(pn:Int):=by omega
   clear hr W ad ha
   go_wp2_with fail
   refine (aM (X:Int) 0 ((pn:Int) - 1) _).mono ?_
   rw [H1.out]
   rintro _ w1 ⟨rfl,rfl⟩
   have au:=Hd (fun (x:Sub W6)=>zx d t y x.v)
   go_upto_region 7 with fail
   have ae:=aX W6
   have aS:=aP W6
   refine wpB W6 ?_
   repeat (go_big_quiet_step ((first
    | (go_at_call 219;with_reducible exact aN (au.out _)))))
   refine wpQuiet_nil ?_
   rintro _ ⟨⟨w5,hD⟩,rfl⟩
   clear ae aS
   have aH:=Hd (HA.out.below hD)
   have aQ:=Hd (aA G.out hD)
   clear hD x0 x1 x2 x3 lx q0 q1 lq cp ar
   rw [aO.out] at HG g B
   generalize nT d t y=z at *
   by_cases hz:0<=z
   ·have dz:decide (z<0)=false:=decide_eq_false (by omega)
    have aW:=Hd (HG.out hz)
    clear HG g
    go_wp2_with (at_builtin;refine dW rfl _ _ rfl _ (aH.out.alloc _) 0 A1 k c1 ((ss.take k).map (bO d place)) z _ (0,0) rfl rfl rfl (aI _ _) (by omega) ?_;intro g9 br w9 S9 a1;have aE:=Hd S9;clear S9 a1)
    go_roundw
    ·exact ⟨k+1,_,_,by omega,by go_num,rfl,by rw [B.out];exact aE.out,aW.out⟩
    simp [intOf];omega
   have dz:decide (z<0)=true:=decide_eq_true (by omega)
   have Y:=Hd (g.out (by omega))
   clear HG g B
   go_wp2_with fail
   go_ret
   exact ⟨.inr ⟨Y.out,rfl⟩,aQ.out⟩
 have R:k=m:=by omega
 have aZ:=dF (by omega:m<=k)
 have Y:Hid (gW d place ⟨N,⟨a,b⟩,ss⟩):=fun p hp=>by
  obtain ⟨j,hj,rfl⟩:=List.getElem_of_mem hp
  have h:=u.out j (by rw [R,←Q.out];exact hj)
  rwa [List.getElem?_eq_getElem hj] at h
 have HD:Hid (aJ W9 wr [.cel (aG (bQ d place ⟨N,⟨a,b⟩,ss⟩)) (.slice A1 m c1)]):=by
  have h:=HS.out
  rwa [R,List.take_of_length_le (by rw [Q.out];exact Nat.le_refl _)] at h
 subst R
 clear HS u
 go_wp2_with fail
 go_ret
 exact ⟨.inl ⟨Y.out,_,_,rfl,(HD.out.owned 0 rfl).more I.out.size⟩,D.out⟩
end Go.Proofs.YtofihjoanjkdmaaGreat
